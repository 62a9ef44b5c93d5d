/- The library's exchange of two stretches of a row of rows. The library's rotation of a row of rows. -/
import Derived.Test.YtbmaeaknlpgdmaaGreatA08
namespace Go.Proofs.YtbmaeaknlpgdmaaGreat
open Go.RowKit Go.Sort
set_option linter.unusedVariables false
set_option linter.unusedSimpArgs false
/-- Permuted at most from a to b. -/
def PermFrom (a b : Nat) (d d' : Array Sl) : Prop := ∀ lo hi, lo ≤ a → b ≤ hi → hi ≤ d.size → PermIn lo hi d d'
set_option maxRecDepth 100000 in
set_option maxHeartbeats 4000000 in
theorem swr_any (w0 w : World) (g cap n c a b k : Nat) (d : Array Sl) (hoff : Off g g w0 w) (hb : RowBlk w g cap d) (hn : d.size = n) (hab : a + k ≤ b) (hbn : b + k ≤ n) (hm : n ≤ 1000000) :
    Calls Tryz.prog 220 #[.slice (some ⟨g, 0, none⟩) n c, .int .i64 a, .int .i64 b, .int .i64 k, .func (.func 119) #[] #[]] w (fun e w' => ∃ d', Swr a b k d d' ∧ PermFrom a (b + k) d d' ∧ SortPost w0 g cap d' e w') := by
  have HO := Lib.hid hoff
  have HB := Lib.hid hb
  have HN := Lib.hid hn
  clear hoff hb hn
  go_enter Tryz.func220, Tryz.ntmps220
  go_wp2
  go_loopw [10] (fun i wr => ∃ (x : Nat) (dk : Array Sl), x ≤ k ∧ i = .int .i64 x ∧ Swr a b x d dk ∧ PermFrom a (b + k) d dk ∧ RowBlk wr g cap dk ∧ Off g g w0 wr) (fun i _ => k - (intOf i).toNat)
  case atStart => exact ⟨0, d, Nat.zero_le _, rfl, swr_zero _ _ _, fun _ _ _ _ _ => permIn_refl _ _ _, HB.out, HO.out⟩
  case round =>
    obtain ⟨x, dk, hxk, rfl, hsw, hpk, hbk, hok⟩ := hrel
    have hds : dk.size = n := by rw [hsw.size, HN.out]
    have HDS := Lib.hid hds
    have HSW := Lib.hid hsw
    have HPK := Lib.hid hpk
    have HBK := Lib.hid hbk
    have HOK := Lib.hid hok
    clear hsw hpk hbk hok hds HO HB
    by_cases hlt : x < k
    · obtain ⟨s, hs⟩ : ∃ s, dk[a + x]! = s := ⟨_, rfl⟩
      obtain ⟨t, ht⟩ : ∃ t, dk[b + x]! = t := ⟨_, rfl⟩
      obtain ⟨cs, fs⟩ := HBK.out.cell (by rw [HDS.out]; omega) hs
      obtain ⟨ct, ft⟩ := HBK.out.cell (by rw [HDS.out]; omega) ht
      have HS := Lib.hid hs
      have HT := Lib.hid ht
      have hzj := HBK.out.lt
      have hlt' : (x : Int) < k := by omega
      have e0 : IntKind.i64.wrap ((a : Int) + x) = (a : Int) + x := IntWalk.i64_in _ (by omega)
      have e1 : IntKind.i64.wrap ((b : Int) + x) = (b : Int) + x := IntWalk.i64_in _ (by omega)
      have e2 : ((a : Int) + x).toNat = a + x := by omega
      have e3 : ((b : Int) + x).toNat = b + x := by omega
      have e4 : (0 : Int) ≤ (a : Int) + x := by omega
      have e5 : (0 : Int) ≤ (b : Int) + x := by omega
      have e6 : (a : Int) + x < n := by omega
      have e7 : (b : Int) + x < n := by omega
      clear hs ht
      go_wp2
      go_region
      go_wp2
      go_roundw
      case rel =>
        refine ⟨x + 1, swp dk (a + x) (b + x), by omega, by go_num, swr_succ HSW.out (by omega) (by rw [HN.out]; omega), fun lo hi h1 h2 h3 => swp_perm (HPK.out lo hi h1 h2 h3) (by omega) (by omega) (by omega) (by omega) h3, (HBK.out.swap (by rw [HDS.out]; omega) (by rw [HDS.out]; omega) HS.out HT.out).keep (bl_drew (Below.refl _ _)), off_drew (off_set (off_set HOK.out (p := ⟨g, a + x, none⟩) (.inl rfl) _) (p := ⟨g, b + x, none⟩) (.inl rfl) _)⟩
      case measure => simp [intOf]; omega
    · have hx : x = k := by omega
      subst hx
      go_wp2
      go_end0
      exact ⟨dk, HSW.out, HPK.out, rfl, HOK.out, HBK.out⟩
end Go.Proofs.YtbmaeaknlpgdmaaGreat
namespace Go.Proofs.YtbmaeaknlpgdmaaGreat
open Go.RowKit Go.Sort
set_option linter.unusedVariables false
set_option linter.unusedSimpArgs false
theorem pf_trans {a b a1 b1 : Nat} {d d1 d2 : Array Sl} (h : PermFrom a b d d1) (h1 : PermFrom a1 b1 d1 d2) (ha : a ≤ a1) (hb : b1 ≤ b) (hz : b ≤ d.size) : PermFrom a b d d2 := fun lo hi x y z =>
  permIn_trans _ _ _ _ _ (h lo hi x y z) (h1 lo hi (by omega) (by omega) (by rw [(h lo hi x y z).1]; exact z))
set_option maxRecDepth 100000 in
set_option maxHeartbeats 4000000 in
theorem rot_any (w0 w : World) (g cap n c a m b : Nat) (d : Array Sl) (hoff : Off g g w0 w) (hb : RowBlk w g cap d) (hn : d.size = n) (ham : a < m) (hmb : m < b) (hbn : b ≤ n) (hm : n ≤ 1000000) :
    Calls Tryz.prog 212 #[.slice (some ⟨g, 0, none⟩) n c, .int .i64 a, .int .i64 m, .int .i64 b, .func (.func 119) #[] #[]] w (fun e w' => ∃ d', Rot a m b d d' ∧ PermFrom a b d d' ∧ SortPost w0 g cap d' e w') := by
  have HO := Lib.hid hoff
  have HB := Lib.hid hb
  have HN := Lib.hid hn
  clear hoff hb hn
  have e0 : IntKind.i64.wrap ((m : Int) - a) = ((m - a : Nat) : Int) := by rw [IntWalk.i64_in _ (by omega)]; omega
  have e1 : IntKind.i64.wrap ((b : Int) - m) = ((b - m : Nat) : Int) := by rw [IntWalk.i64_in _ (by omega)]; omega
  go_enter Tryz.func212, Tryz.ntmps212
  go_wp2
  go_loopw [10, 11] (fun vi vj wr => ∃ (i j : Nat) (dk : Array Sl), vi = .int .i64 i ∧ vj = .int .i64 j ∧ 0 < i ∧ 0 < j ∧ i ≤ m - a ∧ j ≤ b - m ∧ (∀ d', Rot (m - i) m (m + j) dk d' → Rot a m b d d') ∧ PermFrom a b d dk ∧ RowBlk wr g cap dk ∧ Off g g w0 wr) (fun vi vj _ => (intOf vi).toNat + (intOf vj).toNat)
  case atStart => exact ⟨m - a, b - m, d, rfl, rfl, by omega, by omega, Nat.le_refl _, Nat.le_refl _, fun d' h => by rwa [show m - (m - a) = a by omega, show m + (b - m) = b by omega] at h, fun _ _ _ _ _ => permIn_refl _ _ _, HB.out, HO.out⟩
  case round =>
    obtain ⟨i, j, dk, rfl, rfl, hi0, hj0, hi1, hj1, hrt, hpk, hbk, hok⟩ := hrel
    have hds : dk.size = n := by rw [(hpk a b (Nat.le_refl _) (Nat.le_refl _) (by rw [HN.out]; exact hbn)).1, HN.out]
    have HDS := Lib.hid hds
    have HRT := Lib.hid hrt
    have HPK := Lib.hid hpk
    have HBK := Lib.hid hbk
    have HOK := Lib.hid hok
    clear hrt hpk hbk hok hds HO HB e0 e1
    have e2 : IntKind.i64.wrap ((m : Int) - i) = ((m - i : Nat) : Int) := by rw [IntWalk.i64_in _ (by omega)]; omega
    by_cases hne : i = j
    · subst hne
      have hne' : ((i : Int) != (i : Int)) = false := by simp
      go_wp2_with fail
      refine (swr_any w0 _ g cap n c (m - i) m i dk HOK.out HBK.out HDS.out (by omega) (by omega) hm).mono ?_
      rintro e w1 ⟨d', hsw, hp, rfl, ho, hb⟩
      have HX := Lib.hid (show Rot a m b d d' from HRT.out d' (rot_even (by omega) hsw))
      have HP := Lib.hid (show PermFrom a b d d' from pf_trans HPK.out hp (by omega) (by omega) (by rw [HN.out]; exact hbn))
      have HO := Lib.hid ho
      have HB := Lib.hid hb
      clear hsw hp ho hb
      go_wp2
      go_end0
      exact ⟨d', HX.out, HP.out, rfl, HO.out, HB.out⟩
    · have hne' : (i : Int) ≠ (j : Int) := by omega
      by_cases hij : j < i
      · have hij' : (j : Int) < (i : Int) := by omega
        have e3 : IntKind.i64.wrap ((i : Int) - j) = ((i - j : Nat) : Int) := by rw [IntWalk.i64_in _ (by omega)]; omega
        go_wp2_with fail
        refine (swr_any w0 _ g cap n c (m - i) m j dk HOK.out HBK.out HDS.out (by omega) (by omega) hm).mono ?_
        rintro e w1 ⟨d1, hsw, hp, rfl, ho, hb⟩
        have HX := Lib.hid (show ∀ d', Rot (m - (i - j)) m (m + j) d1 d' → Rot a m b d d' from fun d' h => HRT.out d' (rot_big hij (by omega) hsw h))
        have HP := Lib.hid (show PermFrom a b d d1 from pf_trans HPK.out hp (by omega) (by omega) (by rw [HN.out]; exact hbn))
        have HO := Lib.hid ho
        have HB := Lib.hid hb
        clear hsw hp ho hb
        go_wp2
        go_roundw
        case rel => exact ⟨i - j, j, d1, rfl, rfl, by omega, hj0, by omega, hj1, HX.out, HP.out, HB.out, HO.out⟩
        case measure => simp [intOf]; omega
      · have hij' : ¬ (j : Int) < (i : Int) := by omega
        have e3 : IntKind.i64.wrap ((j : Int) - i) = ((j - i : Nat) : Int) := by rw [IntWalk.i64_in _ (by omega)]; omega
        have e4 : IntKind.i64.wrap ((m : Int) + j) = (m : Int) + j := IntWalk.i64_in _ (by omega)
        have e5 : IntKind.i64.wrap ((m : Int) + j - i) = ((m + j - i : Nat) : Int) := by rw [IntWalk.i64_in _ (by omega)]; omega
        go_wp2_with fail
        refine (swr_any w0 _ g cap n c (m - i) (m + j - i) i dk HOK.out HBK.out HDS.out (by omega) (by omega) hm).mono ?_
        rintro e w1 ⟨d1, hsw, hp, rfl, ho, hb⟩
        have HX := Lib.hid (show ∀ d', Rot (m - i) m (m + (j - i)) d1 d' → Rot a m b d d' from fun d' h => HRT.out d' (rot_small (by omega) (by omega) hsw h))
        have HP := Lib.hid (show PermFrom a b d d1 from pf_trans HPK.out hp (by omega) (by omega) (by rw [HN.out]; exact hbn))
        have HO := Lib.hid ho
        have HB := Lib.hid hb
        clear hsw hp ho hb
        go_wp2
        go_roundw
        case rel => exact ⟨i, j - i, d1, rfl, rfl, hi0, by omega, hi1, by omega, HX.out, HP.out, HB.out, HO.out⟩
        case measure => simp [intOf]; omega
end Go.Proofs.YtbmaeaknlpgdmaaGreat
