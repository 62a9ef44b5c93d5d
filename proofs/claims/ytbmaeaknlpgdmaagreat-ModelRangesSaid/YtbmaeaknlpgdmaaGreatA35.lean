/- The library's symmetric merge: one row ahead of many. -/
import Derived.Test.YtbmaeaknlpgdmaaGreatA34
namespace Go.Proofs.YtbmaeaknlpgdmaaGreat
open Go.RowKit Go.Sort
set_option linter.unusedVariables false
set_option linter.unusedSimpArgs false
theorem pf_at {a b : Nat} {d d' : Array Sl} (h : PermFrom a b d d') (hb : b ≤ d.size) : PermIn 0 d.size d d' := h 0 d.size (Nat.zero_le _) hb (Nat.le_refl _)
def SymPost (w0 : World) (g cap a b : Nat) (ρ : Sl → List Vl) (d : Array Sl) (e : Ending) (w' : World) : Prop := ∃ d', PermFrom a b d d' ∧ SortedIn (ltR ρ) a b d' ∧ SortPost w0 g cap d' e w'
set_option maxRecDepth 100000 in
set_option maxHeartbeats 4000000 in
theorem sym_l (w0 w : World) (g cap n c a b : Nat) (d0 d : Array Sl) (ρ : Sl → List Vl) (hS : SWO (ltR ρ)) (hcx : Cx w0 g d0 ρ) (hoff : Off g g w0 w) (hp : PermIn 0 d0.size d0 d) (hb : RowBlk w g cap d) (hn : d0.size = n) (hab : a + 1 < b) (hbn : b ≤ n) (hm : n ≤ 1000000) (hso : SortedIn (ltR ρ) (a + 1) b d) :
    Calls Tryz.prog 189 #[.slice (some ⟨g, 0, none⟩) n c, .int .i64 a, .int .i64 ((a : Int) + 1), .int .i64 b, .func (.func 119) #[] #[]] w (SymPost w0 g cap a b ρ d) := by
  have HCX := Lib.hid hcx
  have HO := Lib.hid hoff
  have HP := Lib.hid hp
  have HB := Lib.hid hb
  have HN := Lib.hid hn
  have HSO := Lib.hid hso
  have hds : d.size = n := by rw [hp.1, hn]
  have HDS := Lib.hid hds
  clear hcx hoff hp hb hn hso hds
  have e0 : IntKind.i64.wrap ((a : Int) + 1 - a) = 1 := by rw [IntWalk.i64_in _ (by omega)]; omega
  go_enter Tryz.func189, Tryz.ntmps189
  go_wp2
  go_loopw [10, 11, 12] (fun vi vj _ wr => ∃ (i j : Nat), vi = .int .i64 i ∧ vj = .int .i64 j ∧ a + 1 ≤ i ∧ i ≤ j ∧ j ≤ b ∧ (i = a + 1 ∨ ltR ρ d[i - 1]! d[a]! = true) ∧ (j = b ∨ ltR ρ d[j]! d[a]! = false) ∧ RowBlk wr g cap d ∧ Off g g w0 wr) (fun vi vj _ _ => (intOf vj).toNat - (intOf vi).toNat)
  case atStart => exact ⟨a + 1, b, by go_num, rfl, Nat.le_refl _, by omega, Nat.le_refl _, .inl rfl, .inl rfl, HB.out, HO.out⟩
  case round =>
    obtain ⟨i, j, rfl, rfl, hi, hij, hj, c1, c2, hbk, hok⟩ := hrel
    have C1 := Lib.hid c1
    have C2 := Lib.hid c2
    have HBK := Lib.hid hbk
    have HOK := Lib.hid hok
    clear c1 c2 hbk hok HO HB
    by_cases hlt : i < j
    · have hlt' : (i : Int) < j := by omega
      obtain ⟨h, hh⟩ : ∃ h, h = (i + j) / 2 := ⟨_, rfl⟩
      have hh1 : i ≤ h := by omega
      have hh2 : h < j := by omega
      have e1 : IntKind.i64.wrap ((i : Int) + j) = (i : Int) + j := IntWalk.i64_in _ (by omega)
      have e2 : IntKind.u64.wrap ((i : Int) + j) = (i : Int) + j := by rw [show ((i : Int) + j) = ((i + j : Nat) : Int) by omega]; exact IntWalk.u64_in _ (by omega)
      go_wp2_with fail
      have e3 : ((i : Int) + j) / 2 = (h : Int) := by omega
      rw [e3]
      clear e3 hh
      obtain ⟨s, hs⟩ : ∃ s, d[h]! = s := ⟨_, rfl⟩
      obtain ⟨t, ht⟩ : ∃ t, d[a]! = t := ⟨_, rfl⟩
      obtain ⟨cs, fs⟩ := HBK.out.cell (by rw [HDS.out]; omega) hs
      obtain ⟨ct, ft⟩ := HBK.out.cell (by rw [HDS.out]; omega) ht
      have HS := Lib.hid hs
      have HT := Lib.hid ht
      have hzj := HBK.out.lt
      have hRS := Lib.hid (HCX.out.at_ HOK.out HP.out (by rw [HN.out]; omega) hs)
      have hRT := Lib.hid (HCX.out.at_ HOK.out HP.out (by rw [HN.out]; omega) ht)
      have hhn : (h : Int) < n := by omega
      have han : (a : Int) < n := by omega
      clear hs ht
      go_wp2_with fail
      go_still_tail 9, (by kernel_rfl)
      change wpList _ _ _ _ _ wr.drew
      have hb1 := hRS.out.keep (bl_drew (Below.refl wr.heap.size wr))
      go_wp2_with fail
      refine (rows1_any s.A t.A s.n t.n s.c t.c (ρ s) (ρ t) _ (hRS.out.keep (bl_drew (Below.refl wr.heap.size wr))) (hRT.out.keep (bl_drew (Below.refl wr.heap.size wr)))).mono ?_
      rintro e w1 ⟨rfl, hbw⟩
      have HOW := Lib.hid (off_below (off_drew HOK.out) hbw)
      have HBW := Lib.hid ((HBK.out.keep (bl_drew (Below.refl wr.heap.size wr))).keep hbw)
      clear cs fs ct ft hzj hbw hb1
      by_cases hl : cmpR (ρ s) (ρ t) < 0
      · have HG := Lib.hid (show ltR ρ d[h]! d[a]! = true by rw [HS.out, HT.out]; exact decide_eq_true hl)
        have e4 : IntKind.i64.wrap ((h : Int) + 1) = (h : Int) + 1 := IntWalk.i64_in _ (by omega)
        go_wp2
        go_roundw
        case rel => exact ⟨h + 1, j, by go_num, rfl, by omega, by omega, hj, .inr (by rw [Nat.add_sub_cancel]; exact HG.out), C2.out, HBW.out, HOW.out⟩
        case measure => simp [intOf]; omega
      · have HG := Lib.hid (show ltR ρ d[h]! d[a]! = false by rw [HS.out, HT.out]; exact decide_eq_false hl)
        go_wp2
        go_roundw
        case rel => exact ⟨i, h, rfl, rfl, hi, hh1, by omega, C1.out, .inr HG.out, HBW.out, HOW.out⟩
        case measure => simp [intOf]; omega
    · have hij' : i = j := by omega
      subst hij'
      have e4 : IntKind.i64.wrap ((i : Int) - 1) = (i : Int) - 1 := IntWalk.i64_in _ (by omega)
      go_wp2
      go_loopw [13] (fun vk wr => ∃ (k : Nat) (dk : Array Sl), vk = .int .i64 k ∧ a ≤ k ∧ k + 1 ≤ i ∧ Rot a (a + 1) (k + 1) d dk ∧ PermFrom a b d dk ∧ RowBlk wr g cap dk ∧ Off g g w0 wr) (fun vk _ => i - (intOf vk).toNat)
      case atStart => exact ⟨a, d, rfl, Nat.le_refl _, hi, rot_id_r (by omega), fun _ _ _ _ _ => permIn_refl _ _ _, HBK.out, HOK.out⟩
      case round =>
        obtain ⟨k, dk, rfl, hk1, hk2, hrt, hpk, hbk, hok⟩ := hrel
        have HRT := Lib.hid hrt
        have HPK := Lib.hid hpk
        have HBJ := Lib.hid hbk
        have HOJ := Lib.hid hok
        have hds : dk.size = n := by rw [hrt.size, HDS.out]
        have HDK := Lib.hid hds
        clear hrt hpk hbk hok hds HBK HOK
        by_cases hlt : k + 1 < i
        · have hlt' : (k : Int) < (i : Int) - 1 := by omega
          obtain ⟨s, hs⟩ : ∃ s, dk[k]! = s := ⟨_, rfl⟩
          obtain ⟨t, ht⟩ : ∃ t, dk[k + 1]! = t := ⟨_, rfl⟩
          obtain ⟨cs, fs⟩ := HBJ.out.cell (by rw [HDK.out]; omega) hs
          obtain ⟨ct, ft⟩ := HBJ.out.cell (by rw [HDK.out]; omega) ht
          have HS := Lib.hid hs
          have HT := Lib.hid ht
          have hzj := HBJ.out.lt
          have e5 : IntKind.i64.wrap ((k : Int) + 1) = (k : Int) + 1 := IntWalk.i64_in _ (by omega)
          have e6 : ((k : Int) + 1).toNat = k + 1 := by omega
          have e7 : (0 : Int) ≤ (k : Int) + 1 := by omega
          have hkn : (k : Int) < n := by omega
          have hkn' : (k : Int) + 1 < n := by omega
          clear hs ht
          go_wp2
          go_region
          go_wp2
          go_roundw
          case rel => exact ⟨k + 1, swp dk k (k + 1), by go_num, by omega, by omega, rot_up hk1 (by rw [HDS.out]; omega) HRT.out, fun lo hi x y z => swp_perm (HPK.out lo hi x y z) (by omega) (by omega) (by omega) (by omega) z, (HBJ.out.swap (by rw [HDK.out]; omega) (by rw [HDK.out]; omega) HS.out HT.out).keep (bl_drew (Below.refl _ _)), off_drew (off_set (off_set HOJ.out (p := ⟨g, k, none⟩) (.inl rfl) _) (p := ⟨g, k + 1, none⟩) (.inl rfl) _)⟩
          case measure => simp [intOf]; omega
        · have hlt' : ¬ (k : Int) < (i : Int) - 1 := by omega
          obtain rfl : k + 1 = i := by omega
          have HF := Lib.hid (sym_one_l hS (by omega) hj HSO.out HRT.out C1.out C2.out)
          go_wp2
          go_end0
          exact ⟨dk, HPK.out, HF.out, rfl, HOJ.out, HBJ.out⟩
end Go.Proofs.YtbmaeaknlpgdmaaGreat
