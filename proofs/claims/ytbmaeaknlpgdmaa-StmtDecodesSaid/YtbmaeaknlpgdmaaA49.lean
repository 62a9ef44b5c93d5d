/- The reference's Take: the row that stands at a place of bytes. The reference's Take, where there is a row's number. -/
import Derived.Test.YtbmaeaknlpgdmaaA48
import Derived.Test.YtbmaeaknlpgdmaaA29
namespace Go.Proofs.Ytbmaeaknlpgdmaa
open Go.RowKit
set_option linter.unusedVariables false
set_option linter.unusedSimpArgs false
set_option linter.constructorNameAsVariable false
/-- What Take answers: the row's slice and how many bytes it has; 0: there is none. -/
def TkPost (s : ByteArray) (p : Nat) (w : World) (e : Ending) (w' : World) : Prop :=
  ∃ A c xs sz, e = .returned (.agg #[.slice A xs.length c, .int .i64 (sz : Nat)]) ∧ Below w.heap.size w w' ∧ RdV w' A xs.length xs ∧ (∀ q, A = some q → w.heap.size ≤ q.block) ∧
    ((0 < sz ∧ p + sz ≤ s.size ∧ rowD (s.extract p s.size) = some (xs, s.extract (p + sz) s.size)) ∨ (sz = 0 ∧ rowD (s.extract p s.size) = none))
theorem arr2 {L : Array Value} (h : L.size = 2) : ∃ a b, L = #[a, b] := by
  obtain ⟨l⟩ := L
  match l, h with
  | [a, b], _ => exact ⟨a, b, rfl⟩
theorem blk_set2 {w : World} {b : Nat} {L : Array Value} {T : TypeId} (hs : L.size = 2) (h : w.heap[b]? = some (.cells L T (0, 0))) (u0 u1 : Value) :
    ((w.setCell ⟨b, 0, none⟩ u0).setCell ⟨b, 1, none⟩ u1).heap[b]? = some (.cells #[u0, u1] T (0, 0)) := by
  obtain ⟨c0, c1, rfl⟩ := arr2 hs
  exact blk_set_eq (blk_set_eq h 0 u0 rfl) 1 u1 rfl
theorem numD_at {s : ByteArray} {p : Nat} (h : p < s.size) : numD (s.extract p s.size) = some (byteAt s p, s.extract (p + 1) s.size) := by
  have e1 : (s.extract p s.size).size = s.size - p := by rw [extract_sz]; omega
  have e2 : byteAt (s.extract p s.size) 0 = byteAt s p := by
    have h1 : 0 < (s.extract p s.size).size := by omega
    rw [byteAt_ h1, byteAt_ h, ByteArray.getElem_extract]; rfl
  have e3 : (s.extract p s.size).extract 1 (s.extract p s.size).size = s.extract (p + 1) s.size := by
    rw [e1, ByteArray.extract_extract]
    congr 1
    omega
  unfold numD
  rw [if_pos (by omega), e2, e3]
theorem numD_end {s : ByteArray} {p : Nat} (h : s.size ≤ p) : numD (s.extract p s.size) = none := by
  unfold numD
  rw [if_neg (by rw [extract_sz]; omega)]
theorem valD_at {s : ByteArray} {p : Nat} {v : Vl} {n : Nat} (hd : decV (s.extract p s.size) = some (v, n)) : valD (s.extract p s.size) = some (v, s.extract (p + n) s.size) ∧ p + n ≤ s.size ∧ 1 ≤ n := by
  have hn := (decV_good hd).2.2
  have e1 : (s.extract p s.size).size = s.size - p := by rw [extract_sz]; omega
  simp only at hn
  have e3 : (s.extract p s.size).extract n (s.extract p s.size).size = s.extract (p + n) s.size := by
    rw [e1, ByteArray.extract_extract]
    congr 1
    omega
  refine ⟨?_, by omega, by omega⟩
  unfold valD
  rw [hd]
  show some (v, _) = _
  rw [e3]
/-- Decode at any place. -/
theorem rdec_at (s : ByteArray) (p : Nat) (w : World) (hp : p ≤ 100000) (hz : s.size ≤ 100000) : Calls Try.prog 83 #[.string s, .int .i64 p] w (RdPost (decV (s.extract p s.size)) w) := by
  by_cases h : p < s.size
  · exact rdec_any s p w h hz
  · have e : decV (s.extract p s.size) = none := by
      unfold decV
      rw [if_pos (by rw [extract_sz]; omega)]
    rw [e]
    exact rdec_end s p w (by omega) hp
set_option maxRecDepth 100000 in
set_option maxHeartbeats 4000000 in
theorem take_none (s : ByteArray) (p : Nat) (w : World) (hp : p ≤ 100000) (hz : s.size ≤ 100000) (h : s.size ≤ p ∨ (p < s.size ∧ 6 < byteAt s p)) :
    Calls Try.prog 47 #[.string s, .int .i64 p] w (TkPost s p w) := by
  rcases h with h | ⟨h, h6⟩
  · have N := Lib.hid (show rowD (s.extract p s.size) = none by unfold rowD; rw [numD_end h]; rfl)
    have hp0 : (s.size : Int) ≤ (p : Int) := by omega
    go_enter Try.func47, Try.ntmps47
    go_wp2
    exact bodyPost_ret (results_blk (T := 77) (b := w.heap.size) rfl (fun _ => by kernel_rfl) (fun _ => by kernel_rfl) _ rfl (blk_new w _)) rfl ⟨none, 0, [], 0, rfl, by (repeat (first | assumption | exact Below.refl _ _ | refine bl_drewN ?_ _ | refine bl_drew ?_ | refine bl_alloc ?_ _ | refine bl_step ?_ (by assumption))), ⟨rfl, by simp, fun h => absurd h (by simp)⟩, (fun q hq => by cases hq), .inr ⟨rfl, N.out⟩⟩
  · have N := Lib.hid (show rowD (s.extract p s.size) = none by unfold rowD; rw [numD_at h]; exact if_neg (by show ¬ byteAt s p ≤ 6; omega))
    have hix := ix_str s p h _ rfl
    have hb : s[p].toNat = byteAt s p := (byteAt_ h).symm
    rw [hb] at hix
    obtain ⟨k, ek⟩ : ∃ k, byteAt s p = k := ⟨_, rfl⟩
    rw [ek] at hix h6
    have hp0 : (p : Int) < (s.size : Int) := by omega
    have h6' : (6 : Int) < (k : Int) := by omega
    clear hb ek h6
    go_enter Try.func47, Try.ntmps47
    go_wp2
    exact bodyPost_ret (results_blk (T := 77) (b := w.heap.size) rfl (fun _ => by kernel_rfl) (fun _ => by kernel_rfl) _ rfl (blk_new w _)) rfl ⟨none, 0, [], 0, rfl, by (repeat (first | assumption | exact Below.refl _ _ | refine bl_drewN ?_ _ | refine bl_drew ?_ | refine bl_alloc ?_ _ | refine bl_step ?_ (by assumption))), ⟨rfl, by simp, fun h => absurd h (by simp)⟩, (fun q hq => by cases hq), .inr ⟨rfl, N.out⟩⟩
end Go.Proofs.Ytbmaeaknlpgdmaa
namespace Go.Proofs.Ytbmaeaknlpgdmaa
open Go.RowKit
set_option linter.unusedVariables false
set_option linter.unusedSimpArgs false
set_option linter.constructorNameAsVariable false
set_option maxRecDepth 100000 in
set_option maxHeartbeats 4000000 in
theorem take_yes (s : ByteArray) (p n : Nat) (w : World) (h : p < s.size) (hz : s.size ≤ 100000) (hn : byteAt s p = n) (h6 : n ≤ 6) :
    Calls Try.prog 47 #[.string s, .int .i64 p] w (TkPost s p w) := by
  have RD := Lib.hid (show rowD (s.extract p s.size) = valsUp n (s.extract (p + 1) s.size) by unfold rowD; rw [numD_at h, ← hn]; exact if_pos (by rw [hn]; exact h6))
  have hix := ix_str s p h _ rfl
  have hb : s[p].toNat = n := (byteAt_ h).symm.trans hn
  rw [hb] at hix
  have hp0 : (p : Int) < (s.size : Int) := by omega
  have h6' : ¬ ((6 : Int) < (n : Int)) := by omega
  clear hb hn
  go_enter Try.func47, Try.ntmps47
  go_wp2
  go_loopw [5, 6, 7] (fun l to i wr => ∃ (xs : List Vl) (k q : Nat) (A : Option Addr) (c : Nat), xs.length = k ∧ k ≤ n ∧ i = .int .i64 k ∧ to = .int .i64 q ∧ l = .slice A k c ∧ p + 1 ≤ q ∧ q ≤ s.size ∧ valsUp k (s.extract (p + 1) s.size) = some (xs, s.extract q s.size) ∧
    Own Vl.cs 4 24 wr (w.heap.size + 1) (.slice A k c) xs ∧ wr.heap[w.heap.size]? = some (.cells #[.slice none 0 0, .int .i64 0] 77 (0, 0)) ∧ Below w.heap.size w wr) (fun _ _ i _ => n - (intOf i).toNat)
  case atStart => exact ⟨[], 0, p + 1, none, 0, rfl, Nat.zero_le _, rfl, by go_num, rfl, Nat.le_refl _, by omega, rfl, own_nil' _ _ _, blk_new w _, by (repeat (first | assumption | exact Below.refl _ _ | refine bl_drewN ?_ _ | refine bl_drew ?_ | refine bl_alloc ?_ _ | refine bl_step ?_ (by assumption)))⟩
  case round =>
    obtain ⟨xs, k, q, A, c, hxk, hkn, rfl, rfl, rfl, hq1, hq2, hup, hown, hcell, hbl⟩ := hrel
    have HUP := Lib.hid hup
    have HOW := Lib.hid hown
    have HCE := Lib.hid hcell
    have HBL := Lib.hid hbl
    have HXK := Lib.hid hxk
    obtain ⟨k1, f1⟩ := blk_rules hcell
    have hzc := blk_lt hcell
    clear hup hown hcell hbl hxk
    by_cases hl : k < n
    · have hl' : (k : Int) < n := by omega
      go_wp2_with fail
      refine (rdec_at s q wr (by omega) hz).mono ?_
      rintro e w2 ⟨v, m, rfl, hb2, hd⟩
      have C2 := Lib.hid (blk_below HCE.out hb2)
      have L2 := Lib.hid (bl_step HBL.out hb2)
      have O2 := Lib.hid (HOW.out.kept hb2)
      have hz2 := blk_lt C2.out
      obtain ⟨k2, f2⟩ := blk_rules C2.out
      clear k1 f1 hzc hb2
      rcases hd with hd | ⟨hd, rfl⟩
      · obtain ⟨hv1, hv2, hv3⟩ := valD_at hd
        have HV1 := Lib.hid hv1
        have hm0 : ((m : Int) == 0) = false := by simp; omega
        clear hd hv1
        go_wp2_with (at_builtin; go_loud (refine wp_app (cs := Vl.cs) (size := 4) vl_len (by omega) vl_one rfl (.tmp 41) (.tmp 44) _ rfl (w.heap.size + 1) 24 _ 40 Try.uVals Try.iVal rfl (.slice A k c) xs rfl ((O2.out.alloc_ _).alloc_ _) (some ⟨w2.heap.size + 1, 0, none⟩) 1 1 [v] rfl (rd_one rfl (by have hh := blk_new (w2.alloc (.cells #[.int .i64 v.k, .int .i64 v.n, .float .f64 v.f, .string v.s, .int .i64 m] 94)) (.cells #[.int .i64 v.k, .int .i64 v.n, .float .f64 v.f, .string v.s] 24); rw [szal] at hh; exact hh)) (by rw [HXK.out]; omega) (by rw [HXK.out]; omega) (by simp; omega) ?_))
        intro A3 c3 w3 hown3 hg3 hat3
        rw [HXK.out] at hown3 ⊢
        have hfar : ∀ g, (Value.slice A k c).ownBlock = some g → w.heap.size + 1 ≤ g ∧ g < w2.heap.size := fun g hg => O2.out.lt g hg
        have C3 := Lib.hid (blk_grown (blk_old (blk_old C2.out _) _) hg3 (by intro h; have := hfar _ h.symm; omega))
        have R3 := Lib.hid (blk_grown (blk_old (blk_new w2 (.cells #[.int .i64 v.k, .int .i64 v.n, .float .f64 v.f, .string v.s, .int .i64 m] 94)) _) hg3 (by intro h; have := hfar _ h.symm; omega))
        have L3 := Lib.hid (below_own (bl_alloc (bl_alloc L2.out _) _) hg3 (fun k hk => by have := hfar k hk; omega))
        have N3 := Lib.hid hown3
        obtain ⟨k4, f4⟩ := blk_rules R3.out
        have hr3 := blk_lt R3.out
        clear hown3 hg3 hat3 hfar k2 f2
        go_wp2
        go_roundw
        case rel =>
          refine ⟨xs ++ [v], k + 1, q + m, A3, c3, by rw [List.length_append, HXK.out]; rfl, by omega, by go_num, by go_num, rfl, by omega, by omega, ?_, N3.out, C3.out, L3.out⟩
          simp only [valsUp, HUP.out, Option.bind_some, HV1.out]
          rfl
        case measure => simp [intOf]; omega
      · have NR := Lib.hid (show rowD (s.extract p s.size) = none by
          rw [RD.out]
          exact valsUp_none (k := k + 1) (by simp only [valsUp, HUP.out, Option.bind_some]; unfold valD; rw [hd]; rfl) (by omega))
        clear hd
        go_wp2
        exact bodyPost_ret (results_blk (T := 77) (b := w.heap.size) rfl (fun _ => by kernel_rfl) (fun _ => by kernel_rfl) _ rfl (blk_old (blk_set2 rfl C2.out _ _) _)) rfl ⟨none, 0, [], 0, rfl, bl_alloc (bl_set (bl_set L2.out (Nat.le_refl _) _) (Nat.le_refl _) _) _, ⟨rfl, by simp, fun h => absurd h (by simp)⟩, (fun q hq => by cases hq), .inr ⟨rfl, NR.out⟩⟩
    · have hkn2 : k = n := by omega
      subst hkn2
      go_wp2
      obtain rfl := HXK.out
      refine bodyPost_ret (results_blk (T := 77) (b := w.heap.size) rfl (fun _ => by kernel_rfl) (fun _ => by kernel_rfl) _ rfl (blk_set2 rfl HCE.out _ _)) rfl ⟨A, c, xs, q - p, ?_, bl_set (bl_set HBL.out (Nat.le_refl _) _) (Nat.le_refl _) _, ?_, fun g hg => ?_, .inl ⟨by omega, by omega, ?_⟩⟩
      · rw [show ((q - p : Nat) : Int) = (q : Int) - (p : Int) by omega]
      · have hne : (Value.slice A xs.length c).ownBlock ≠ some w.heap.size := by intro h; have := (HOW.out.lt _ h).1; omega
        exact own_rd vl_len ((HOW.out.set_ (p := ⟨w.heap.size, 0, none⟩) hne _).set_ (p := ⟨w.heap.size, 1, none⟩) hne _)
      · have := HOW.out.far g hg
        omega
      · rw [RD.out, HUP.out, show p + (q - p) = q by omega]
theorem rtake_any (s : ByteArray) (p : Nat) (w : World) (hp : p ≤ 100000) (hz : s.size ≤ 100000) : Calls Try.prog 47 #[.string s, .int .i64 p] w (TkPost s p w) := by
  by_cases h : p < s.size
  · by_cases h6 : byteAt s p ≤ 6
    · exact take_yes s p _ w h hz rfl h6
    · exact take_none s p w hp hz (.inr ⟨h, by omega⟩)
  · exact take_none s p w hp hz (.inl (by omega))
end Go.Proofs.Ytbmaeaknlpgdmaa
