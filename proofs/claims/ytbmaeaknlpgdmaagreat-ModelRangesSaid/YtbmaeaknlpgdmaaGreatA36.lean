/- The library's symmetric merge: one row behind many. The library's symmetric merge: both parts have more than one row. -/
import Derived.Test.YtbmaeaknlpgdmaaGreatA35
namespace Go.Proofs.YtbmaeaknlpgdmaaGreat
open Go.RowKit Go.Sort
set_option linter.unusedVariables false
set_option linter.unusedSimpArgs false
set_option maxRecDepth 100000 in
set_option maxHeartbeats 4000000 in
theorem sym_r (w0 w : World) (g cap n c a m : Nat) (d0 d : Array Sl) (ρ : Sl → List Vl) (hS : SWO (ltR ρ)) (hcx : Cx w0 g d0 ρ) (hoff : Off g g w0 w) (hp : PermIn 0 d0.size d0 d) (hb : RowBlk w g cap d) (hn : d0.size = n) (hab : a + 1 < m) (hbn : m + 1 ≤ n) (hm : n ≤ 1000000) (hso : SortedIn (ltR ρ) a m d) :
    Calls Tryz.prog 189 #[.slice (some ⟨g, 0, none⟩) n c, .int .i64 a, .int .i64 m, .int .i64 ((m : Int) + 1), .func (.func 119) #[] #[]] w (SymPost w0 g cap a (m + 1) ρ d) := by
  have HCX := Lib.hid hcx
  have HO := Lib.hid hoff
  have HP := Lib.hid hp
  have HB := Lib.hid hb
  have HN := Lib.hid hn
  have HSO := Lib.hid hso
  have hds : d.size = n := by rw [hp.1, hn]
  have HDS := Lib.hid hds
  clear hcx hoff hp hb hn hso hds
  have e0 : IntKind.i64.wrap ((m : Int) - a) = ((m - a : Nat) : Int) := by rw [IntWalk.i64_in _ (by omega)]; omega
  have e00 : IntKind.i64.wrap ((m : Int) + 1 - m) = 1 := by rw [IntWalk.i64_in _ (by omega)]; omega
  have hne : (((m - a : Nat) : Int) == 1) = false := by simp; omega
  go_enter Tryz.func189, Tryz.ntmps189
  go_wp2
  go_loopw [14, 15, 16] (fun vi vj _ wr => ∃ (i j : Nat), vi = .int .i64 i ∧ vj = .int .i64 j ∧ a ≤ i ∧ i ≤ j ∧ j ≤ m ∧ (i = a ∨ ltR ρ d[m]! d[i - 1]! = false) ∧ (j = m ∨ ltR ρ d[m]! d[j]! = true) ∧ RowBlk wr g cap d ∧ Off g g w0 wr) (fun vi vj _ _ => (intOf vj).toNat - (intOf vi).toNat)
  case atStart => exact ⟨a, m, rfl, rfl, Nat.le_refl _, by omega, Nat.le_refl _, .inl rfl, .inl rfl, HB.out, HO.out⟩
  case round =>
    clear e0 e00 hne
    obtain ⟨i, j, rfl, rfl, hi, hij, hj, c1, c2, hbk, hok⟩ := hrel
    have C1 := Lib.hid c1
    have C2 := Lib.hid c2
    have HBK := Lib.hid hbk
    have HOK := Lib.hid hok
    clear c1 c2 hbk hok HO HB
    by_cases hlt : i < j
    · have hlt' : (i : Int) < j := by omega
      obtain ⟨h, hh⟩ : ∃ h, h = (i + j) / 2 := ⟨_, rfl⟩
      have hh1 : i ≤ h := by omega
      have hh2 : h < j := by omega
      have e1 : IntKind.i64.wrap ((i : Int) + j) = (i : Int) + j := IntWalk.i64_in _ (by omega)
      have e2 : IntKind.u64.wrap ((i : Int) + j) = (i : Int) + j := by rw [show ((i : Int) + j) = ((i + j : Nat) : Int) by omega]; exact IntWalk.u64_in _ (by omega)
      go_wp2_with fail
      have e3 : ((i : Int) + j) / 2 = (h : Int) := by omega
      rw [e3]
      clear e3 hh
      obtain ⟨s, hs⟩ : ∃ s, d[m]! = s := ⟨_, rfl⟩
      obtain ⟨t, ht⟩ : ∃ t, d[h]! = t := ⟨_, rfl⟩
      obtain ⟨cs, fs⟩ := HBK.out.cell (by rw [HDS.out]; omega) hs
      obtain ⟨ct, ft⟩ := HBK.out.cell (by rw [HDS.out]; omega) ht
      have HS := Lib.hid hs
      have HT := Lib.hid ht
      have hzj := HBK.out.lt
      have hRS := Lib.hid (HCX.out.at_ HOK.out HP.out (by rw [HN.out]; omega) hs)
      have hRT := Lib.hid (HCX.out.at_ HOK.out HP.out (by rw [HN.out]; omega) ht)
      have hhn : (h : Int) < n := by omega
      have han : (m : Int) < n := by omega
      clear hs ht
      go_still_tail 9, (by kernel_rfl)
      change wpList _ _ _ _ _ wr.drew
      have hb1 := hRS.out.keep (bl_drew (Below.refl wr.heap.size wr))
      go_wp2_with fail
      refine (rows1_any s.A t.A s.n t.n s.c t.c (ρ s) (ρ t) _ (hRS.out.keep (bl_drew (Below.refl wr.heap.size wr))) (hRT.out.keep (bl_drew (Below.refl wr.heap.size wr)))).mono ?_
      rintro e w1 ⟨rfl, hbw⟩
      have HOW := Lib.hid (off_below (off_drew HOK.out) hbw)
      have HBW := Lib.hid ((HBK.out.keep (bl_drew (Below.refl wr.heap.size wr))).keep hbw)
      clear cs fs ct ft hzj hbw hb1
      by_cases hl : cmpR (ρ s) (ρ t) < 0
      · have HG := Lib.hid (show ltR ρ d[m]! d[h]! = true by rw [HS.out, HT.out]; exact decide_eq_true hl)
        have hl' : (!decide (cmpR (ρ s) (ρ t) < 0)) = false := by simp [hl]
        go_wp2
        go_roundw
        case rel => exact ⟨i, h, rfl, rfl, hi, hh1, by omega, C1.out, .inr HG.out, HBW.out, HOW.out⟩
        case measure => simp [intOf]; omega
      · have HG := Lib.hid (show ltR ρ d[m]! d[h]! = false by rw [HS.out, HT.out]; exact decide_eq_false hl)
        have e4 : IntKind.i64.wrap ((h : Int) + 1) = (h : Int) + 1 := IntWalk.i64_in _ (by omega)
        have hl' : (!decide (cmpR (ρ s) (ρ t) < 0)) = true := by simpa using hl
        go_wp2
        go_roundw
        case rel => exact ⟨h + 1, j, by go_num, rfl, by omega, by omega, hj, .inr (by rw [Nat.add_sub_cancel]; exact HG.out), C2.out, HBW.out, HOW.out⟩
        case measure => simp [intOf]; omega
    · have hij' : i = j := by omega
      subst hij'
      go_wp2
      go_loopw [17] (fun vk wr => ∃ (k : Nat) (dk : Array Sl), vk = .int .i64 k ∧ i ≤ k ∧ k ≤ m ∧ Rot k m (m + 1) d dk ∧ PermFrom a (m + 1) d dk ∧ RowBlk wr g cap dk ∧ Off g g w0 wr) (fun vk _ => (intOf vk).toNat)
      case atStart => exact ⟨m, d, rfl, hj, Nat.le_refl _, rot_id_l (by omega), fun _ _ _ _ _ => permIn_refl _ _ _, HBK.out, HOK.out⟩
      case round =>
        obtain ⟨k, dk, rfl, hk1, hk2, hrt, hpk, hbk, hok⟩ := hrel
        have HRT := Lib.hid hrt
        have HPK := Lib.hid hpk
        have HBJ := Lib.hid hbk
        have HOJ := Lib.hid hok
        have hds : dk.size = n := by rw [hrt.size, HDS.out]
        have HDK := Lib.hid hds
        clear hrt hpk hbk hok hds HBK HOK
        by_cases hlt : i < k
        · have hlt' : (i : Int) < (k : Int) := by omega
          obtain ⟨s, hs⟩ : ∃ s, dk[k]! = s := ⟨_, rfl⟩
          obtain ⟨t, ht⟩ : ∃ t, dk[k - 1]! = t := ⟨_, rfl⟩
          obtain ⟨cs, fs⟩ := HBJ.out.cell (by rw [HDK.out]; omega) hs
          obtain ⟨ct, ft⟩ := HBJ.out.cell (by rw [HDK.out]; omega) ht
          have HS := Lib.hid hs
          have HT := Lib.hid ht
          have hzj := HBJ.out.lt
          have e5 : IntKind.i64.wrap ((k : Int) - 1) = (k : Int) - 1 := IntWalk.i64_in _ (by omega)
          have e6 : ((k : Int) - 1).toNat = k - 1 := by omega
          have e7 : (0 : Int) ≤ (k : Int) - 1 := by omega
          have e8 : (1 : Int) ≤ (k : Int) := by omega
          have e9 : (k : Int) ≤ n := by omega
          have hkn : (k : Int) < n := by omega
          have hkn' : (k : Int) - 1 < n := by omega
          clear hs ht
          go_wp2
          go_region
          go_wp2
          go_roundw
          case rel => exact ⟨k - 1, swp dk k (k - 1), by rw [show ((k - 1 : Nat) : Int) = (k : Int) - 1 by omega], by omega, by omega, rot_down (by omega) hk2 (by rw [HDS.out]; omega) HRT.out, fun lo hi x y z => swp_perm (HPK.out lo hi x y z) (by omega) (by omega) (by omega) (by omega) z, (HBJ.out.swap (by rw [HDK.out]; omega) (by rw [HDK.out]; omega) HS.out HT.out).keep (bl_drew (Below.refl _ _)), off_drew (off_set (off_set HOJ.out (p := ⟨g, k, none⟩) (.inl rfl) _) (p := ⟨g, k - 1, none⟩) (.inl rfl) _)⟩
          case measure => simp [intOf]; omega
        · have hlt' : ¬ (i : Int) < (k : Int) := by omega
          obtain rfl : k = i := by omega
          have HF := Lib.hid (sym_one_r hS hi hk2 HSO.out HRT.out C1.out C2.out)
          go_wp2
          go_end0
          exact ⟨dk, HPK.out, HF.out, rfl, HOJ.out, HBJ.out⟩
end Go.Proofs.YtbmaeaknlpgdmaaGreat
namespace Go.Proofs.YtbmaeaknlpgdmaaGreat
open Go.RowKit Go.Sort
set_option linter.unusedVariables false
set_option linter.unusedSimpArgs false
theorem pf_of {a b : Nat} {d d' : Array Sl} (h : PermIn a b d d') : PermFrom a b d d' := fun lo hi x y z => permIn_mono _ _ a b lo hi x y z h
theorem pf_refl (a b : Nat) (d : Array Sl) : PermFrom a b d d := fun _ _ _ _ _ => permIn_refl _ _ _
theorem pf_in {a b : Nat} {d d' : Array Sl} (h : PermFrom a b d d') (hb : b ≤ d.size) : PermIn a b d d' := h a b (Nat.le_refl _) (Nat.le_refl _) hb
/-- What has been found and rotated. -/
structure SymPt (lt : Sl → Sl → Bool) (a m b mid s e : Nat) (d d1 : Array Sl) : Prop where
  la : a ≤ s
  sm : s ≤ m
  me : m ≤ e
  eb : e ≤ b
  sum : s + (e - m) = mid
  bd : b ≤ d.size
  so1 : SortedIn lt a m d
  so2 : SortedIn lt m b d
  rot : Rot s m e d d1
  pf : PermFrom s e d d1
  c1 : s = a ∨ e = b ∨ lt d[e]! d[s - 1]! = false
  c2 : s = m ∨ e = m ∨ lt d[s]! d[e - 1]! = false
theorem SymPt.in1 {lt : Sl → Sl → Bool} {a m b mid s e : Nat} {d d1 : Array Sl} (h : SymPt lt a m b mid s e d d1) : SortedIn lt a s d1 ∧ SortedIn lt s mid d1 := by
  obtain ⟨p1, p2, p3, p4⟩ := rot_parts h.so1 h.so2 h.la h.sm h.me h.eb h.rot
  rw [h.sum] at p2
  exact ⟨p1, p2⟩
theorem SymPt.in2 {lt : Sl → Sl → Bool} {a m b mid s e : Nat} {d d1 d2 : Array Sl} (h : SymPt lt a m b mid s e d d1) (h2 : PermFrom a mid d1 d2) : SortedIn lt mid e d2 ∧ SortedIn lt e b d2 := by
  obtain ⟨p1, p2, p3, p4⟩ := rot_parts h.so1 h.so2 h.la h.sm h.me h.eb h.rot
  rw [h.sum] at p3
  have h1 := h.sum
  have := h.sm
  have := h.me
  have := h.eb
  have := h.bd
  have hk := (pf_in h2 (by rw [h.rot.size]; omega)).2.1
  exact ⟨so_keep p3 (fun i hi _ => hk i (.inr hi)), so_keep p4 (fun i hi _ => hk i (.inr (by omega)))⟩
theorem SymPt.skip1 {lt : Sl → Sl → Bool} {a m b mid s e : Nat} {d d1 : Array Sl} (h : SymPt lt a m b mid s e d d1) (hs : s ≤ a ∨ mid ≤ s) : SortedIn lt a mid d1 := by
  have := h.la
  have := h.sum
  rcases hs with hs | hs
  · rw [show a = s by omega]; exact h.in1.2
  · rw [show mid = s by omega]; exact h.in1.1
theorem SymPt.skip2 {lt : Sl → Sl → Bool} {a m b mid s e : Nat} {d d1 d2 : Array Sl} (h : SymPt lt a m b mid s e d d1) (h2 : PermFrom a mid d1 d2) (hs : e ≤ mid ∨ b ≤ e) : SortedIn lt mid b d2 := by
  have := h.sm
  have := h.me
  have := h.eb
  have := h.sum
  rcases hs with hs | hs
  · rw [show mid = e by omega]; exact (h.in2 h2).2
  · rw [show b = e by omega]; exact (h.in2 h2).1
theorem SymPt.fin {lt : Sl → Sl → Bool} {a m b mid s e : Nat} {d d1 d2 d3 : Array Sl} (h : SymPt lt a m b mid s e d d1) (hS : SWO lt) (h2 : PermFrom a mid d1 d2) (h2s : SortedIn lt a mid d2) (h3 : PermFrom mid b d2 d3) (h3s : SortedIn lt mid b d3) : PermFrom a b d d3 ∧ SortedIn lt a b d3 := by
  have h1 := h.sum
  have := h.la
  have := h.sm
  have := h.me
  have := h.eb
  have := h.bd
  have z1 := h.rot.size
  have p2 := pf_in h2 (by omega)
  have p3 := pf_in h3 (by rw [p2.1]; omega)
  have hc := rot_cross hS h.so1 h.so2 h.la h.sm h.me h.eb h.rot h.c1 h.c2
  rw [h1] at hc
  obtain ⟨x, y⟩ := sym_done (h.pf a b (by omega) (by omega) h.bd) hc (by omega) (by omega) h.bd p2 h2s p3 h3s
  exact ⟨pf_of x, y⟩
/-- The merge of a stretch of at most so many rows. -/
def SymOk (w0 : World) (g cap n c : Nat) (d0 : Array Sl) (ρ : Sl → List Vl) (sz : Nat) : Prop := ∀ (w : World) (a m b : Nat) (d : Array Sl), Off g g w0 w → PermIn 0 d0.size d0 d → RowBlk w g cap d → a < m → m < b → b ≤ n → b - a ≤ sz → SortedIn (ltR ρ) a m d → SortedIn (ltR ρ) m b d →
  Calls Tryz.prog 189 #[.slice (some ⟨g, 0, none⟩) n c, .int .i64 a, .int .i64 m, .int .i64 b, .func (.func 119) #[] #[]] w (SymPost w0 g cap a b ρ d)
end Go.Proofs.YtbmaeaknlpgdmaaGreat
