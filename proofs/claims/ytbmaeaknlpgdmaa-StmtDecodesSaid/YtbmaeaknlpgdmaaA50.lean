/- The reference's reader: its parts. The reference's reader: a value. The reference's Decode: what stands behind its loop. -/
import Derived.Test.YtbmaeaknlpgdmaaA49
import Derived.Test.YtbmaeaknlpgdmaaA30
import Derived.Test.YtbmaeaknlpgdmaaA19
import Derived.Test.YtbmaeaknlpgdmaaA22
namespace Go.Proofs.Ytbmaeaknlpgdmaa
open Go.RowKit
set_option linter.unusedVariables false
set_option linter.unusedSimpArgs false
set_option linter.constructorNameAsVariable false
/-- The reference's reader: the bytes, how many are read, whether it has failed. -/
abbrev RB2 (br : Nat) (s : ByteArray) (q : Nat) (bad : Bool) (w : World) : Prop := w.heap[br]? = some (.cells #[.string s, .int .i64 q, .bool bad] 73 (0, 0))
def EPost {α : Type} (br : Nat) (s : ByteArray) (w : World) (val : α → Value) (r : Option (α × ByteArray)) (e : Ending) (w' : World) : Prop :=
  ∃ x q bad, e = .returned (val x) ∧ RB2 br s q bad w' ∧ Off br br w w' ∧ q ≤ s.size ∧ ((bad = false ∧ r = some (x, s.extract q s.size)) ∨ (bad = true ∧ r = none))
theorem blk_drewN {w : World} {b : Nat} {x : Obj} (h : w.heap[b]? = some x) (n : Nat) : (w.drewN n).heap[b]? = some x := blk_below h (bl_drewN (Below.refl _ _) n)
set_option maxRecDepth 100000 in
set_option maxHeartbeats 4000000 in
theorem one_r (br : Nat) (s : ByteArray) (q : Nat) (bad : Bool) (w : World) (hw : RB2 br s q bad w) (hq : q ≤ s.size) (hz : s.size ≤ 100000) :
    Calls Try.prog 44 #[.pointer (some ⟨br, 0, none⟩)] w (EPost br s w (fun n : Nat => .int .i64 n) (okD (!bad) (numD (s.extract q s.size)))) := by
  have HW := Lib.hid hw
  obtain ⟨k1, f1⟩ := blk_rules hw
  have hlt := blk_lt hw
  clear hw
  cases bad with
  | true =>
    go_enter Try.func44, Try.ntmps44
    go_wp2
    go_quiet (fail)
    go_wp2
    go_ret
    exact ⟨0, q, true, rfl, blk_set_eq HW.out 2 _ rfl, off_set (off_drewN (off_refl br br w) _) (p := ⟨br, 2, none⟩) (.inl rfl) _, hq, .inr ⟨rfl, rfl⟩⟩
  | false =>
    by_cases h : q < s.size
    · have N := Lib.hid (numD_at h)
      have hix := ix_str s q h _ rfl
      have hb : s[q].toNat = byteAt s q := (byteAt_ h).symm
      rw [hb] at hix
      have hk := byteAt_lt s q
      obtain ⟨k, ek⟩ : ∃ k, byteAt s q = k := ⟨_, rfl⟩
      have N2 := N.out
      rw [ek] at hix N2 hk
      have hk' : (k : Int) < 256 := by omega
      replace N := Lib.hid N2
      have h' : (q : Int) < (s.size : Int) := by omega
      have hd : decide ((s.size : Int) ≤ (q : Int)) = false := decide_eq_false (by omega)
      clear hb ek N2
      go_enter Try.func44, Try.ntmps44
      go_wp2
      go_quiet (fail)
      go_wp2
      go_quiet (fail)
      go_wp2
      go_ret
      exact ⟨k, q + 1, false, rfl, blk_drewN (blk_set_eq (L' := #[.string s, .int .i64 ((q : Int) + 1), .bool false]) (blk_drewN HW.out _) 1 (.int .i64 ((q : Int) + 1)) rfl) _, off_drewN (off_set (off_drewN (off_refl br br w) _) (p := ⟨br, 1, none⟩) (.inl rfl) _) _, by omega, .inl ⟨rfl, N.out⟩⟩
    · have N := Lib.hid (numD_end (s := s) (p := q) (by omega))
      have h' : (s.size : Int) ≤ (q : Int) := by omega
      have hd : decide ((s.size : Int) ≤ (q : Int)) = true := decide_eq_true (by omega)
      go_enter Try.func44, Try.ntmps44
      go_wp2
      go_quiet (fail)
      go_wp2
      go_ret
      exact ⟨0, q, true, rfl, blk_set_eq HW.out 2 _ rfl, off_set (off_drewN (off_refl br br w) _) (p := ⟨br, 2, none⟩) (.inl rfl) _, hq, .inr ⟨rfl, N.out⟩⟩
theorem takeD_at {s : ByteArray} {q n : Nat} (h : q + n ≤ s.size) : takeD n (s.extract q s.size) = some (s.extract q (q + n), s.extract (q + n) s.size) := by
  unfold takeD
  rw [if_pos (by rw [extract_sz]; omega), extract_sz, ByteArray.extract_extract, ByteArray.extract_extract]
  congr 3
  · omega
  · omega
theorem takeD_end {s : ByteArray} {q n : Nat} (h : s.size < q + n) (hq : q ≤ s.size) : takeD n (s.extract q s.size) = none := by
  unfold takeD
  rw [if_neg (by rw [extract_sz]; omega)]
theorem okD_true {α : Type} {bad : Bool} {D : Option (α × ByteArray)} {x : α × ByteArray} (h : okD (!bad) D = some x) : bad = false ∧ D = some x := by
  cases bad with
  | true => cases h
  | false => exact ⟨rfl, h⟩
set_option maxRecDepth 100000 in
set_option maxHeartbeats 4000000 in
theorem flag_e (br : Nat) (s : ByteArray) (q : Nat) (bad : Bool) (w : World) (hw : RB2 br s q bad w) (hq : q ≤ s.size) (hz : s.size ≤ 100000) :
    Calls Try.prog 48 #[.pointer (some ⟨br, 0, none⟩)] w (EPost br s w Value.bool (okD (!bad) (flagD (s.extract q s.size)))) := by
  have HW := Lib.hid hw
  clear hw
  go_enter Try.func48, Try.ntmps48
  go_wp2_with fail
  refine (one_r br s q bad w HW.out hq hz).mono ?_
  rintro e w1 ⟨n, q1, bad1, rfl, hb1, ho1, hq1, hr⟩
  have HB := Lib.hid hb1
  have HO := Lib.hid ho1
  obtain ⟨k1, f1⟩ := blk_rules hb1
  have hlt := blk_lt hb1
  clear hb1 ho1
  rcases hr with ⟨rfl, hr⟩ | ⟨rfl, hr⟩
  · obtain ⟨rfl, hr2⟩ := okD_true hr
    clear hr
    by_cases h2 : n < 2
    · have N := Lib.hid (show flagD (s.extract q s.size) = some (n == 1, s.extract q1 s.size) by unfold flagD; rw [hr2]; exact if_pos h2)
      clear hr2
      have h3 : n = 0 ∨ n = 1 := by omega
      clear h2
      rcases h3 with rfl | rfl
      all_goals
        go_wp2
        go_ret
        exact ⟨_, q1, false, rfl, blk_set_eq HB.out 2 _ rfl, off_set HO.out (p := ⟨br, 2, none⟩) (.inl rfl) _, hq1, .inl ⟨rfl, N.out⟩⟩
    · have N := Lib.hid (show flagD (s.extract q s.size) = none by unfold flagD; rw [hr2]; exact if_neg h2)
      have h4 : (1 : Int) < (n : Int) := by omega
      clear hr2
      go_wp2
      go_ret
      exact ⟨_, q1, true, rfl, blk_set_eq HB.out 2 _ rfl, off_set HO.out (p := ⟨br, 2, none⟩) (.inl rfl) _, hq1, .inr ⟨rfl, N.out⟩⟩
  · have N := Lib.hid (show okD (!bad) (flagD (s.extract q s.size)) = none by
      rcases okD_none hr with h | h
      · rw [h]; rfl
      · unfold flagD; rw [h]; cases bad <;> rfl)
    clear hr
    go_wp2
    go_ret
    exact ⟨_, q1, true, rfl, blk_set_eq HB.out 2 _ rfl, off_set HO.out (p := ⟨br, 2, none⟩) (.inl rfl) _, hq1, .inr ⟨rfl, N.out⟩⟩
set_option maxRecDepth 100000 in
set_option maxHeartbeats 4000000 in
theorem name_e (br : Nat) (s : ByteArray) (q : Nat) (bad : Bool) (w : World) (hw : RB2 br s q bad w) (hq : q ≤ s.size) (hz : s.size ≤ 100000) :
    Calls Try.prog 45 #[.pointer (some ⟨br, 0, none⟩)] w (EPost br s w Value.string (okD (!bad) (nameD (s.extract q s.size)))) := by
  have HW := Lib.hid hw
  clear hw
  go_enter Try.func45, Try.ntmps45
  go_wp2_with fail
  refine (one_r br s q bad w HW.out hq hz).mono ?_
  rintro e w1 ⟨n, q1, bad1, rfl, hb1, ho1, hq1, hr⟩
  have HB := Lib.hid hb1
  have HO := Lib.hid ho1
  obtain ⟨k1, f1⟩ := blk_rules hb1
  have hlt := blk_lt hb1
  clear hb1 ho1
  rcases hr with ⟨rfl, hr⟩ | ⟨rfl, hr⟩
  · obtain ⟨rfl, hr2⟩ := okD_true hr
    clear hr
    have hn := (numD_le hr2).2
    replace hn : n < 256 := hn
    by_cases h2 : q1 + n ≤ s.size
    · have N := Lib.hid (show nameD (s.extract q s.size) = some (s.extract q1 (q1 + n), s.extract (q1 + n) s.size) by unfold nameD; rw [hr2]; exact takeD_at h2)
      clear hr2
      have h4 : decide ((s.size : Int) - (q1 : Int) < (n : Int)) = false := decide_eq_false (by omega)
      have h5 : ¬ (s.size - q1 < n) := by omega
      go_wp2
      go_quiet (fail)
      go_wp2
      go_quiet (fail)
      go_wp2
      go_ret
      exact ⟨_, q1 + n, false, rfl, blk_drewN (blk_set_eq (L' := #[.string s, .int .i64 ((q1 : Int) + n), .bool false]) (blk_drewN HB.out _) 1 (.int .i64 ((q1 : Int) + n)) rfl) _, off_drewN (off_set (off_drewN HO.out _) (p := ⟨br, 1, none⟩) (.inl rfl) _) _, h2, .inl ⟨rfl, N.out⟩⟩
    · have N := Lib.hid (show nameD (s.extract q s.size) = none by unfold nameD; rw [hr2]; exact takeD_end (by omega) hq1)
      have h4 : decide ((s.size : Int) - (q1 : Int) < (n : Int)) = true := decide_eq_true (by omega)
      clear hr2
      go_wp2
      go_quiet (fail)
      go_wp2
      go_ret
      exact ⟨_, q1, true, rfl, blk_set_eq (blk_drewN HB.out _) 2 _ rfl, off_set (off_drewN HO.out _) (p := ⟨br, 2, none⟩) (.inl rfl) _, hq1, .inr ⟨rfl, N.out⟩⟩
  · have N := Lib.hid (show okD (!bad) (nameD (s.extract q s.size)) = none by
      rcases okD_none hr with h | h
      · rw [h]; rfl
      · unfold nameD; rw [h]; cases bad <;> rfl)
    clear hr
    go_wp2
    go_quiet (fail)
    go_wp2
    go_ret
    exact ⟨_, q1, true, rfl, blk_set_eq (blk_drewN HB.out _) 2 _ rfl, off_set (off_drewN HO.out _) (p := ⟨br, 2, none⟩) (.inl rfl) _, hq1, .inr ⟨rfl, N.out⟩⟩
end Go.Proofs.Ytbmaeaknlpgdmaa
namespace Go.Proofs.Ytbmaeaknlpgdmaa
open Go.RowKit
set_option linter.unusedVariables false
set_option linter.unusedSimpArgs false
set_option linter.constructorNameAsVariable false
theorem blk_far5 {w : World} {b c : Nat} {x : Obj} (h : w.heap[b]? = some x) (hne : b ≠ c) (u0 u1 u2 u3 u4 : Value) :
    (((((w.setCell ⟨c, 0, none⟩ u0).setCell ⟨c, 1, none⟩ u1).setCell ⟨c, 2, none⟩ u2).setCell ⟨c, 3, none⟩ u3).setCell ⟨c, 4, none⟩ u4).heap[b]? = some x :=
  blk_far (p := ⟨c, 4, none⟩) (blk_far4 h hne u0 u1 u2 u3) hne u4
set_option maxRecDepth 100000 in
set_option maxHeartbeats 4000000 in
theorem val_e (br : Nat) (s : ByteArray) (q : Nat) (bad : Bool) (w : World) (hw : RB2 br s q bad w) (hq : q ≤ s.size) (hz : s.size ≤ 100000) :
    Calls Try.prog 46 #[.pointer (some ⟨br, 0, none⟩)] w (EPost br s w Vl.agg (okD (!bad) (valD (s.extract q s.size)))) := by
  have HW := Lib.hid hw
  have hlt := blk_lt hw
  have hq' : q ≤ 100000 := by omega
  clear hw
  go_enter Try.func46, Try.ntmps46
  go_upto_region 1 with fail
  have P0 := blk_new w (.cells #[.int .i64 0, .int .i64 0, .float .f64 0, .string ⟨#[]⟩] 24)
  have PR := blk_old HW.out (.cells #[.int .i64 0, .int .i64 0, .float .f64 0, .string ⟨#[]⟩] 24)
  have PL : Below w.heap.size w (w.alloc (.cells #[.int .i64 0, .int .i64 0, .float .f64 0, .string ⟨#[]⟩] 24)) := by (repeat (first | assumption | exact Below.refl _ _ | refine bl_drewN ?_ _ | refine bl_drew ?_ | refine bl_alloc ?_ _ | refine bl_step ?_ (by assumption)))
  generalize w.alloc (.cells #[.int .i64 0, .int .i64 0, .float .f64 0, .string ⟨#[]⟩] 24) = W0 at P0 PR PL ⊢
  refine wp_region_held_drew (S := fun w' => RB2 br s q bad w' ∧ w'.heap[w.heap.size]? = some (.cells #[.int .i64 0, .int .i64 0, .float .f64 0, .string ⟨#[]⟩] 24 (0, 0)) ∧ Below w.heap.size w w') (by kernel_rfl) ⟨PR, P0, bl_drew PL⟩ (fun hHeld => ?_)
  have hHeld2 : (RB2 br s q bad W0 ∧ W0.heap[w.heap.size]? = some (.cells #[.int .i64 0, .int .i64 0, .float .f64 0, .string ⟨#[]⟩] 24 (0, 0)) ∧ Below w.heap.size w W0) := ⟨PR, P0, PL⟩
  clear P0 PR PL
  simp only [List.size_toArray, List.length_cons, List.length_nil]
  (refine held_take (i := 0) (v := ?_) rfl (by kernel_rfl) (by kernel_rfl) (by kernel_rfl) (fun _ _ _ h => h) (by assumption) (by rfl) ?_ ?_; rotate_left; (focus (intro w hSw; (try dsimp only at hSw); go_simp; try with_reducible rfl)); (try simp only [Act.put, List.setIfInBounds_toArray, List.set_cons_zero, List.set_cons_succ]))
  (refine held_take (i := 1) (v := ?_) rfl (by kernel_rfl) (by kernel_rfl) (by kernel_rfl) (fun _ _ _ h => h) (by assumption) (by rfl) ?_ ?_; rotate_left; (focus (intro w hSw; (try dsimp only at hSw); go_simp; try with_reducible rfl)); (try simp only [Act.put, List.setIfInBounds_toArray, List.set_cons_zero, List.set_cons_succ]))
  (refine held_take (i := 2) (v := ?_) rfl (by kernel_rfl) (by kernel_rfl) (by kernel_rfl) (fun _ _ _ h => h) (by assumption) (by rfl) ?_ ?_; rotate_left; (focus (intro w hSw; (try dsimp only at hSw); go_simp; try with_reducible rfl)); (try simp only [Act.put, List.setIfInBounds_toArray, List.set_cons_zero, List.set_cons_succ]))
  (refine held_take (i := 3) (v := ?_) rfl (by kernel_rfl) (by kernel_rfl) (by kernel_rfl) (fun _ _ _ h => h) (by assumption) (by rfl) ?_ ?_; rotate_left; (focus (intro w hSw; have hq := (blk_rules hSw.1).1; (try dsimp only at hSw); go_simp; try with_reducible rfl)); (try simp only [Act.put, List.setIfInBounds_toArray, List.set_cons_zero, List.set_cons_succ]))
  (refine held_take (i := 4) (v := ?_) rfl (by kernel_rfl) (by kernel_rfl) (by kernel_rfl) (fun _ _ _ h => h) (by assumption) (by rfl) ?_ ?_; rotate_left; (focus (intro w hSw; (try dsimp only at hSw); go_simp; try with_reducible rfl)); (try simp only [Act.put, List.setIfInBounds_toArray, List.set_cons_zero, List.set_cons_succ]))
  (refine held_take (i := 5) (v := ?_) rfl (by kernel_rfl) (by kernel_rfl) (by kernel_rfl) (fun _ _ _ h => h) (by assumption) (by rfl) ?_ ?_; rotate_left; (focus (intro w hSw; (try dsimp only at hSw); go_simp; try with_reducible rfl)); (try simp only [Act.put, List.setIfInBounds_toArray, List.set_cons_zero, List.set_cons_succ]))
  (refine held_take (i := 6) (v := ?_) rfl (by kernel_rfl) (by kernel_rfl) (by kernel_rfl) (fun _ _ _ h => h) (by assumption) (by rfl) ?_ ?_; rotate_left; (focus (intro w hSw; (try dsimp only at hSw); go_simp; try with_reducible rfl)); (try simp only [Act.put, List.setIfInBounds_toArray, List.set_cons_zero, List.set_cons_succ]))
  (refine held_take (i := 7) (v := ?_) rfl (by kernel_rfl) (by kernel_rfl) (by kernel_rfl) (fun _ _ _ h => h) (by assumption) (by rfl) ?_ ?_; rotate_left; (focus (intro w hSw; have hq := (blk_rules hSw.1).1; (try dsimp only at hSw); go_simp; try with_reducible rfl)); (try simp only [Act.put, List.setIfInBounds_toArray, List.set_cons_zero, List.set_cons_succ]))
  have hW0 := Lib.hid hHeld2
  clear hHeld2
  refine wpAnyH_ready (rs := [8, 9]) (by kernel_rfl) (by simp) ?_
  refine held_step (i := 8) rfl (fun K hK => ?_) (held_step (i := 9) rfl (fun K hK => ?_) AllReadyH.nil)
  · go_simp
    refine (rdec_at s q _ hq' hz).mono ?_
    rintro e W8 ⟨v, m, rfl, hb, hd⟩
    refine hK.out _ _ ⟨blk_below hHeld.1 hb, blk_below hHeld.2.1 hb, bl_step hHeld.2.2 hb⟩ (fun hH => ?_)
    clear hK K hHeld hb
    have hHeld := hH
    clear hH
    (try simp only [Act.put, List.setIfInBounds_toArray, List.set_cons_zero, List.set_cons_succ])
    refine wpAnyH_ready (rs := [9]) (by kernel_rfl) (by simp) ?_
    refine held_step (i := 9) rfl (fun K hK => ?_) AllReadyH.nil
    go_simp
    refine hK.out _ _ ⟨blk_old hHeld.1 _, blk_old hHeld.2.1 _, bl_alloc hHeld.2.2 _⟩ (fun hH => ?_)
    clear hK K hH
    (try simp only [Act.put, List.setIfInBounds_toArray, List.set_cons_zero, List.set_cons_succ])
    refine wpAnyH_ready (rs := [10]) (by kernel_rfl) (by simp) ?_
    refine held_step (i := 10) rfl (fun K hK => ?_) AllReadyH.nil
    go_simp
    have hA : RB2 br s q bad _ := blk_old hHeld.1 (.cells #[.int .i64 v.k, .int .i64 v.n, .float .f64 v.f, .string v.s, .int .i64 m] 94)
    have hB := blk_old hHeld.2.1 (.cells #[.int .i64 v.k, .int .i64 v.n, .float .f64 v.f, .string v.s, .int .i64 m] 94)
    have hC := bl_alloc hHeld.2.2 (.cells #[.int .i64 v.k, .int .i64 v.n, .float .f64 v.f, .string v.s, .int .i64 m] 94)
    have hD := blk_new W8 (.cells #[.int .i64 v.k, .int .i64 v.n, .float .f64 v.f, .string v.s, .int .i64 m] 94)
    have hlow : w.heap.size < W8.heap.size := blk_lt hHeld.2.1
    clear hHeld
    refine hK.out _ _ ⟨hA, hB, hC⟩ (fun hH => ?_)
    clear hK K hH
    (try simp only [Act.put, List.setIfInBounds_toArray, List.set_cons_zero, List.set_cons_succ])
    refine wpAnyH_done (by kernel_rfl) ?_ _
    generalize W8.alloc (.cells #[.int .i64 v.k, .int .i64 v.n, .float .f64 v.f, .string v.s, .int .i64 m] 94) = W at hA hB hC hD ⊢
    generalize W8.heap.size = R at hlow hD ⊢
    have H2 := Lib.hid hA
    have H0 := Lib.hid hB
    have HL := Lib.hid hC
    have HP := Lib.hid hD
    obtain ⟨k1, f1⟩ := blk_rules hA
    obtain ⟨k2, f2⟩ := blk_rules hB
    obtain ⟨k3, f3⟩ := blk_rules hD
    have z1 := blk_lt hA
    have z2 := blk_lt hB
    have z3 := blk_lt hD
    clear hA hB hC hD
    have hOff : Off br br w W := off_below (off_refl br br w) HL.out
    have HO := Lib.hid hOff
    clear hOff
    cases bad with
    | true =>
      go_wp2
      exact bodyPost_ret (results_blk (T := 24) (b := w.heap.size) rfl (fun _ => by kernel_rfl) (fun _ => by kernel_rfl) _ rfl (blk_set4 rfl (blk_far (p := ⟨br, 2, none⟩) H0.out (show w.heap.size ≠ br by omega) (.bool true)) _ _ _ _)) rfl ⟨⟨0, 0, 0, ⟨#[]⟩⟩, q, true, rfl, blk_far4 (blk_set_eq H2.out 2 (.bool true) rfl) (show br ≠ w.heap.size by omega) _ _ _ _, off_set4 (off_set HO.out (p := ⟨br, 2, none⟩) (.inl rfl) _) (.inr (.inr (Nat.le_refl _))) _ _ _ _, hq, .inr ⟨rfl, rfl⟩⟩
    | false =>
      rcases hd with hd | ⟨hd, rfl⟩
      · obtain ⟨hv1, hv2, hv3⟩ := valD_at hd
        have HV := Lib.hid hv1
        have hm0 : ((m : Int) == 0) = false := by simp; omega
        clear hd hv1
        go_wp2
        go_still_tail 7, (by kernel_rfl)
        change wpList _ _ _ _ _ W.drew
        go_wp2
        exact bodyPost_ret (results_blk (T := 24) (b := w.heap.size) rfl (fun _ => by kernel_rfl) (fun _ => by kernel_rfl) _ rfl (blk_drewN (blk_set4 rfl (blk_far (p := ⟨br, 1, none⟩) H0.out (show w.heap.size ≠ br by omega) (.int .i64 ((q : Int) + m))) _ _ _ _) 1)) rfl ⟨v, q + m, false, rfl, blk_drewN (blk_far4 (blk_set_eq (L' := #[.string s, .int .i64 ((q : Int) + m), .bool false]) H2.out 1 (.int .i64 ((q : Int) + m)) rfl) (show br ≠ w.heap.size by omega) _ _ _ _) 1, off_drew (off_set4 (off_set HO.out (p := ⟨br, 1, none⟩) (.inl rfl) _) (.inr (.inr (Nat.le_refl _))) _ _ _ _), hv2, .inl ⟨rfl, HV.out⟩⟩
      · have HV := Lib.hid (show valD (s.extract q s.size) = none by unfold valD; rw [hd]; rfl)
        clear hd
        go_wp2
        exact bodyPost_ret (results_blk (T := 24) (b := w.heap.size) rfl (fun _ => by kernel_rfl) (fun _ => by kernel_rfl) _ rfl (blk_set4 rfl (blk_far (p := ⟨br, 2, none⟩) H0.out (show w.heap.size ≠ br by omega) (.bool true)) _ _ _ _)) rfl ⟨⟨0, 0, 0, ⟨#[]⟩⟩, q, true, rfl, blk_far4 (blk_set_eq H2.out 2 (.bool true) rfl) (show br ≠ w.heap.size by omega) _ _ _ _, off_set4 (off_set HO.out (p := ⟨br, 2, none⟩) (.inl rfl) _) (.inr (.inr (Nat.le_refl _))) _ _ _ _, hq, .inr ⟨rfl, HV.out⟩⟩
  · go_simp
    refine hK.out _ _ ⟨blk_drewN (blk_old hW0.out.1 _) 1, blk_drewN (blk_old hW0.out.2.1 _) 1, bl_drew (bl_alloc hW0.out.2.2 _)⟩ (fun hH => ?_)
    clear hK K hHeld
    (try simp only [Act.put, List.setIfInBounds_toArray, List.set_cons_zero, List.set_cons_succ])
    refine wpAnyH_sharp (S' := fun w' => (RB2 br s q bad w' ∧ w'.heap[w.heap.size]? = some (.cells #[.int .i64 0, .int .i64 0, .float .f64 0, .string ⟨#[]⟩] 24 (0, 0)) ∧ Below w.heap.size w w') ∧ ∃ L : Array Value, L.size = 5 ∧ w'.heap[W0.heap.size]? = some (.cells L 94 (0, 0))) (fun w' h => h.1) _ _ _ _ ?_
    have hHeld : (fun w' => (RB2 br s q bad w' ∧ w'.heap[w.heap.size]? = some (.cells #[.int .i64 0, .int .i64 0, .float .f64 0, .string ⟨#[]⟩] 24 (0, 0)) ∧ Below w.heap.size w w') ∧ ∃ L : Array Value, L.size = 5 ∧ w'.heap[W0.heap.size]? = some (.cells L 94 (0, 0))) _ := ⟨hH, _, rfl, blk_drewN (blk_new W0 (.cells #[.int .i64 0, .int .i64 0, .float .f64 0, .string ⟨#[]⟩, .int .i64 0] 94)) 1⟩
    clear hH
    refine wpAnyH_ready (rs := [8]) (by kernel_rfl) (by simp) ?_
    refine held_step (i := 8) rfl (fun K hK => ?_) AllReadyH.nil
    go_simp
    refine (rdec_at s q _ hq' hz).mono ?_
    rintro e W8 ⟨v, m, rfl, hb, hd⟩
    refine hK.out _ _ ⟨⟨blk_below hHeld.1.1 hb, blk_below hHeld.1.2.1 hb, bl_step hHeld.1.2.2 hb⟩, ⟨hHeld.2.choose, hHeld.2.choose_spec.1, blk_below hHeld.2.choose_spec.2 hb⟩⟩ (fun hH => ?_)
    clear hK K hHeld hb
    obtain ⟨hHeld, L5, hL5, hB5⟩ := hH
    obtain ⟨c0, c1, c2, c3, c4, rfl⟩ := arr5 hL5
    (try simp only [Act.put, List.setIfInBounds_toArray, List.set_cons_zero, List.set_cons_succ])
    have hlow : w.heap.size < W0.heap.size := blk_lt hW0.out.2.1
    have hlow0 := blk_lt hB5
    obtain ⟨k9, f9⟩ := blk_rules hB5
    refine wpAnyH_ready (rs := [10]) (by kernel_rfl) (by simp) ?_
    refine held_step (i := 10) rfl (fun K hK => ?_) AllReadyH.nil
    go_simp
    have hA : RB2 br s q bad _ := blk_far5 (c := W0.heap.size) hHeld.1 (by omega) (.int .i64 v.k) (.int .i64 v.n) (.float .f64 v.f) (.string v.s) (.int .i64 m)
    have hB := blk_far5 (c := W0.heap.size) hHeld.2.1 (by omega) (.int .i64 v.k) (.int .i64 v.n) (.float .f64 v.f) (.string v.s) (.int .i64 m)
    have hC := bl_set5 hHeld.2.2 (b := W0.heap.size) (by omega) (.int .i64 v.k) (.int .i64 v.n) (.float .f64 v.f) (.string v.s) (.int .i64 m)
    have hD := blk_set5 rfl hB5 (.int .i64 v.k) (.int .i64 v.n) (.float .f64 v.f) (.string v.s) (.int .i64 m)
    clear hHeld k9 f9 hlow0 hW0 hB5
    refine hK.out _ _ ⟨⟨hA, hB, hC⟩, _, rfl, hD⟩ (fun hH => ?_)
    clear hK K hH
    (try simp only [Act.put, List.setIfInBounds_toArray, List.set_cons_zero, List.set_cons_succ])
    refine wpAnyH_done (by kernel_rfl) ?_ _
    generalize (((((W8.setCell ⟨W0.heap.size, 0, none⟩ (.int .i64 v.k)).setCell ⟨W0.heap.size, 1, none⟩ (.int .i64 v.n)).setCell ⟨W0.heap.size, 2, none⟩ (.float .f64 v.f)).setCell ⟨W0.heap.size, 3, none⟩ (.string v.s)).setCell ⟨W0.heap.size, 4, none⟩ (.int .i64 m)) = W at hA hB hC hD ⊢
    generalize W0.heap.size = R at hlow hD ⊢
    have H2 := Lib.hid hA
    have H0 := Lib.hid hB
    have HL := Lib.hid hC
    have HP := Lib.hid hD
    obtain ⟨k1, f1⟩ := blk_rules hA
    obtain ⟨k2, f2⟩ := blk_rules hB
    obtain ⟨k3, f3⟩ := blk_rules hD
    have z1 := blk_lt hA
    have z2 := blk_lt hB
    have z3 := blk_lt hD
    clear hA hB hC hD
    have hOff : Off br br w W := off_below (off_refl br br w) HL.out
    have HO := Lib.hid hOff
    clear hOff
    cases bad with
    | true =>
      go_wp2
      exact bodyPost_ret (results_blk (T := 24) (b := w.heap.size) rfl (fun _ => by kernel_rfl) (fun _ => by kernel_rfl) _ rfl (blk_set4 rfl (blk_far (p := ⟨br, 2, none⟩) H0.out (show w.heap.size ≠ br by omega) (.bool true)) _ _ _ _)) rfl ⟨⟨0, 0, 0, ⟨#[]⟩⟩, q, true, rfl, blk_far4 (blk_set_eq H2.out 2 (.bool true) rfl) (show br ≠ w.heap.size by omega) _ _ _ _, off_set4 (off_set HO.out (p := ⟨br, 2, none⟩) (.inl rfl) _) (.inr (.inr (Nat.le_refl _))) _ _ _ _, hq, .inr ⟨rfl, rfl⟩⟩
    | false =>
      rcases hd with hd | ⟨hd, rfl⟩
      · obtain ⟨hv1, hv2, hv3⟩ := valD_at hd
        have HV := Lib.hid hv1
        have hm0 : ((m : Int) == 0) = false := by simp; omega
        clear hd hv1
        go_wp2
        go_still_tail 7, (by kernel_rfl)
        change wpList _ _ _ _ _ W.drew
        go_wp2
        exact bodyPost_ret (results_blk (T := 24) (b := w.heap.size) rfl (fun _ => by kernel_rfl) (fun _ => by kernel_rfl) _ rfl (blk_drewN (blk_set4 rfl (blk_far (p := ⟨br, 1, none⟩) H0.out (show w.heap.size ≠ br by omega) (.int .i64 ((q : Int) + m))) _ _ _ _) 1)) rfl ⟨v, q + m, false, rfl, blk_drewN (blk_far4 (blk_set_eq (L' := #[.string s, .int .i64 ((q : Int) + m), .bool false]) H2.out 1 (.int .i64 ((q : Int) + m)) rfl) (show br ≠ w.heap.size by omega) _ _ _ _) 1, off_drew (off_set4 (off_set HO.out (p := ⟨br, 1, none⟩) (.inl rfl) _) (.inr (.inr (Nat.le_refl _))) _ _ _ _), hv2, .inl ⟨rfl, HV.out⟩⟩
      · have HV := Lib.hid (show valD (s.extract q s.size) = none by unfold valD; rw [hd]; rfl)
        clear hd
        go_wp2
        exact bodyPost_ret (results_blk (T := 24) (b := w.heap.size) rfl (fun _ => by kernel_rfl) (fun _ => by kernel_rfl) _ rfl (blk_set4 rfl (blk_far (p := ⟨br, 2, none⟩) H0.out (show w.heap.size ≠ br by omega) (.bool true)) _ _ _ _)) rfl ⟨⟨0, 0, 0, ⟨#[]⟩⟩, q, true, rfl, blk_far4 (blk_set_eq H2.out 2 (.bool true) rfl) (show br ≠ w.heap.size by omega) _ _ _ _, off_set4 (off_set HO.out (p := ⟨br, 2, none⟩) (.inl rfl) _) (.inr (.inr (Nat.le_refl _))) _ _ _ _, hq, .inr ⟨rfl, HV.out⟩⟩
end Go.Proofs.Ytbmaeaknlpgdmaa
namespace Go.Proofs.Ytbmaeaknlpgdmaa
open Go.RowKit
set_option linter.unusedVariables false
set_option linter.unusedSimpArgs false
set_option linter.constructorNameAsVariable false
theorem d_at {n : Int} {k : Nat} (h : (fieldsF n)[k]? = some .d ∨ (fieldsF n)[k]? = some .o) : k = 1 := by
  by_cases hk : 1 ≤ n ∧ n ≤ 17
  · have hl : k < 5 := by
      have := fieldsF_len n
      rcases h with h | h <;> (have := (List.getElem?_eq_some_iff.1 h).1; omega)
    have hk5 : k = 0 ∨ k = 1 ∨ k = 2 ∨ k = 3 ∨ k = 4 := by omega
    rcases kinds17 hk with rfl | rfl | rfl | rfl | rfl | rfl | rfl | rfl | rfl | rfl | rfl | rfl | rfl | rfl | rfl | rfl | rfl <;> rcases hk5 with rfl | rfl | rfl | rfl | rfl <;> first | rfl | (exfalso; revert h; decide)
  · rw [fieldsF_no hk] at h
    rcases h with h | h <;> simp at h
theorem long_no {s : St} (h : 6 < s.cols.length) : goodS s = false := by
  rw [goodS_eq]
  unfold rgoodS
  cases hk : kindOK s.k with
  | false => rfl
  | true =>
    have h17 : 1 ≤ s.k ∧ s.k ≤ 17 := by simpa [kindOK] using hk
    rw [eqSt_iff]
    by_cases he : s = only s
    · have hc : s.cols = if hasDO s.k then s.cols else [] := by
        have := congrArg St.cols he
        rw [only_eq h17] at this
        exact this
      have hg : goodCs s.cols = false := by
        unfold goodCs
        rw [decide_eq_false_iff_not]
        omega
      cases hd : hasDO s.k with
      | false => rw [hd] at hc; rw [hc] at h; exact absurd h (by simp)
      | true =>
        unfold hasDO hasK at hd
        rw [Bool.or_eq_true, List.contains_iff_mem, List.contains_iff_mem] at hd
        have hall : (fieldsF s.k).all (goodF s) = false := by
          rw [List.all_eq_false]
          rcases hd with hd | hd
          · exact ⟨_, hd, by simp [goodF, hg]⟩
          · exact ⟨_, hd, by simp [goodF, hg]⟩
        rw [hall]; simp
    · rw [decide_eq_false he]; rfl
theorem decS_no {b b1 : ByteArray} {n : Nat} (hn : numD b = some (n, b1)) (h : decTo (zeroSt n) b1 (fieldsF n) = none) : decS b = none := by
  unfold decS
  rw [hn]
  show (if kindOK (n : Int) = true then _ else _) = _
  by_cases hkk : kindOK (n : Int) = true
  · rw [if_pos hkk, h]; rfl
  · rw [if_neg hkk]
theorem decS_fin {b b1 bb : ByteArray} {n : Nat} {s : St} (hn : numD b = some (n, b1)) (h : decTo (zeroSt n) b1 (fieldsF n) = some (s, bb)) : decS b = if bb.size = 0 ∧ goodS s = true then some s else none := by
  unfold decS
  rw [hn]
  show (if kindOK (n : Int) = true then _ else _) = _
  by_cases hkk : kindOK (n : Int) = true
  · rw [if_pos hkk, h]; rfl
  · rw [if_neg hkk]
    have hno : ¬ (1 ≤ (n : Int) ∧ (n : Int) ≤ 17) := by simpa [kindOK] using hkk
    rw [fieldsF_no hno] at h
    have hs : zeroSt n = s := by
      have h2 : some (zeroSt (n : Int), b1) = some (s, bb) := h
      cases h2; rfl
    have hg : goodS s = false := by
      rw [← hs]
      unfold goodS
      have : kindOK (zeroSt (n : Int)).k = false := by show kindOK (n : Int) = false; simpa using hkk
      rw [this]; rfl
    rw [if_neg (by rw [hg]; simp)]
/-- How far the reference's Decode is. -/
def DSt (b b1 : ByteArray) (n k : Nat) (s : St) (q : Nat) (bad : Bool) : Prop :=
  (bad = false ∧ decTo (zeroSt n) b1 ((fieldsF n).take k) = some (s, b.extract q b.size)) ∨ ((bad = true ∨ 6 < s.cols.length) ∧ decTo (zeroSt n) b1 (fieldsF n) = none)
theorem dst_step {b b1 : ByteArray} {n k q q2 : Nat} {s s2 : St} {bad bad2 : Bool} {x : Fld} (hx : (fieldsF n)[k]? = some x) (h : DSt b b1 n k s q bad)
    (hr : (bad2 = false ∧ okD (!bad) (decF s (b.extract q b.size) x) = some (s2, b.extract q2 b.size)) ∨ (bad2 = true ∧ okD (!bad) (decF s (b.extract q b.size) x) = none)) (hc : 6 < s.cols.length → 6 < s2.cols.length) : DSt b b1 n (k + 1) s2 q2 bad2 := by
  rcases h with ⟨rfl, h⟩ | ⟨h1, h2⟩
  · have hd2 := decTo_snoc (s := zeroSt n) (b := b1) hx
    rw [h] at hd2
    rcases hr with ⟨rfl, hr⟩ | ⟨rfl, hr⟩
    · exact .inl ⟨rfl, hd2.trans hr⟩
    · exact .inr ⟨.inl rfl, decTo_none (hd2.trans hr)⟩
  · refine .inr ⟨?_, h2⟩
    rcases h1 with rfl | h1
    · rcases hr with ⟨_, hr⟩ | ⟨rfl, hr⟩
      · cases hr
      · exact .inl rfl
    · exact .inr (hc h1)
theorem map_post2 {α β : Type} {bad bad2 : Bool} {D : Option (α × ByteArray)} {x : α} {b' : ByteArray} {f : α → β} (h : (bad2 = false ∧ okD (!bad) D = some (x, b')) ∨ (bad2 = true ∧ okD (!bad) D = none)) :
    (bad2 = false ∧ okD (!bad) (D.map fun y => (f y.1, y.2)) = some (f x, b')) ∨ (bad2 = true ∧ okD (!bad) (D.map fun y => (f y.1, y.2)) = none) := by
  rcases h with ⟨rfl, h⟩ | ⟨rfl, h⟩
  · obtain ⟨rfl, h2⟩ := okD_true h
    left; refine ⟨rfl, ?_⟩
    show D.map _ = _
    rw [h2]; rfl
  · right; refine ⟨rfl, ?_⟩
    rcases okD_none h with h2 | h2
    · rw [h2]; rfl
    · rw [h2]; cases bad <;> rfl
theorem r_at {n : Int} {k : Nat} (h : (fieldsF n)[k]? = some .r) : k = 1 := by
  by_cases hk : 1 ≤ n ∧ n ≤ 17
  · have hl : k < 5 := by
      have := fieldsF_len n
      have := (List.getElem?_eq_some_iff.1 h).1; omega
    have hk5 : k = 0 ∨ k = 1 ∨ k = 2 ∨ k = 3 ∨ k = 4 := by omega
    rcases kinds17 hk with rfl | rfl | rfl | rfl | rfl | rfl | rfl | rfl | rfl | rfl | rfl | rfl | rfl | rfl | rfl | rfl | rfl <;> rcases hk5 with rfl | rfl | rfl | rfl | rfl <;> first | rfl | (exfalso; revert h; decide)
  · rw [fieldsF_no hk] at h
    simp at h
theorem dst_r_no {b b1 : ByteArray} {n k q : Nat} {s : St} {bad : Bool} (hx : (fieldsF n)[k]? = some .r) (h : DSt b b1 n k s q bad) (hr : bad = true ∨ rowD (b.extract q b.size) = none) : decTo (zeroSt n) b1 (fieldsF n) = none := by
  rcases h with ⟨rfl, h⟩ | ⟨h1, h2⟩
  · rcases hr with hr | hr
    · cases hr
    · have hd2 := decTo_snoc (s := zeroSt n) (b := b1) hx
      rw [h] at hd2
      refine decTo_none (hd2.trans ?_)
      show (rowD _).map _ = none
      rw [hr]; rfl
  · exact h2
/-- The columns that are read, on the way. -/
def CSt (b b1 : ByteArray) (n q : Nat) (s : St) (N q3 j : Nat) (xs : List Cl) (q4 : Nat) (bad4 : Bool) : Prop :=
  (bad4 = false ∧ decTo (zeroSt n) b1 ((fieldsF n).take 1) = some (s, b.extract q b.size) ∧ numD (b.extract q b.size) = some (N, b.extract q3 b.size) ∧ colsUp j (b.extract q3 b.size) = some (xs, b.extract q4 b.size)) ∨ (bad4 = true ∧ decTo (zeroSt n) b1 (fieldsF n) = none)
theorem decF_do {s : St} {b : ByteArray} {x : Fld} (hx : x = .d ∨ x = .o) : decF s b x = (colsD b).map fun y => ({ s with cols := y.1 }, y.2) := by
  rcases hx with rfl | rfl <;> rfl
theorem do_no {b1 bb : ByteArray} {n : Nat} {s : St} {x : Fld} (hx : (fieldsF n)[1]? = some x) (hd : x = .d ∨ x = .o) (h : decTo (zeroSt n) b1 ((fieldsF n).take 1) = some (s, bb)) (hc : colsD bb = none) : decTo (zeroSt n) b1 (fieldsF n) = none := by
  have hd2 := decTo_snoc (s := zeroSt n) (b := b1) hx
  rw [h] at hd2
  refine decTo_none (hd2.trans ?_)
  show decF s bb x = none
  rw [decF_do hd, hc]; rfl
theorem cst_start {b b1 : ByteArray} {n q N q3 : Nat} {s : St} {bad bad3 : Bool} {x : Fld} (hx : (fieldsF n)[1]? = some x) (hd : x = .d ∨ x = .o) (h : DSt b b1 n 1 s q bad) (hc : s.cols = [])
    (hr : (bad3 = false ∧ okD (!bad) (numD (b.extract q b.size)) = some (N, b.extract q3 b.size)) ∨ (bad3 = true ∧ okD (!bad) (numD (b.extract q b.size)) = none)) : CSt b b1 n q s N q3 0 [] q3 bad3 := by
  rcases h with ⟨rfl, h⟩ | ⟨h1, h2⟩
  · rcases hr with ⟨rfl, hr⟩ | ⟨rfl, hr⟩
    · exact .inl ⟨rfl, h, hr, rfl⟩
    · refine .inr ⟨rfl, do_no hx hd h ?_⟩
      have hr' : numD (b.extract q b.size) = none := hr
      unfold colsD; rw [hr']; rfl
  · rcases hr with ⟨rfl, hr⟩ | ⟨rfl, hr⟩
    · obtain ⟨rfl, _⟩ := okD_true hr
      rcases h1 with h1 | h1
      · cases h1
      · rw [hc] at h1; exact absurd h1 (by simp)
    · exact .inr ⟨rfl, h2⟩
theorem cst_step {b b1 : ByteArray} {n q N q3 j q4 q8 : Nat} {s : St} {xs : List Cl} {c : Cl} {o4 : Bool} {x : Fld} (hx : (fieldsF n)[1]? = some x) (hd : x = .d ∨ x = .o) (h : CSt b b1 n q s N q3 j xs q4 false) (hj : j < N)
    (hr : (o4 = false ∧ colD (b.extract q4 b.size) = some (c, b.extract q8 b.size)) ∨ (o4 = true ∧ colD (b.extract q4 b.size) = none)) : CSt b b1 n q s N q3 (j + 1) (xs ++ [c]) q8 o4 := by
  rcases h with ⟨_, h1, h2, h3⟩ | ⟨h, _⟩
  · rcases hr with ⟨rfl, hr⟩ | ⟨rfl, hr⟩
    · refine .inl ⟨rfl, h1, h2, ?_⟩
      simp only [colsUp, h3, Option.bind_some, hr]; rfl
    · refine .inr ⟨rfl, do_no hx hd h1 ?_⟩
      have hn : colsUp N (b.extract q3 b.size) = none := colsUp_none (k := j + 1) (by simp only [colsUp, h3, Option.bind_some, hr]; rfl) hj
      unfold colsD; rw [h2]
      show (if N ≤ 6 then _ else none) = none
      rw [hn]; exact ite_self _
  · cases h
theorem cst_end {b b1 : ByteArray} {n q N q3 j q4 : Nat} {s : St} {xs : List Cl} {bad4 : Bool} {x : Fld} (hx : (fieldsF n)[1]? = some x) (hd : x = .d ∨ x = .o) (h : CSt b b1 n q s N q3 j xs q4 bad4) (hj : bad4 = true ∨ j = N) (hl : xs.length = j) :
    DSt b b1 n 2 { s with cols := xs } q4 bad4 := by
  rcases h with ⟨rfl, h1, h2, h3⟩ | ⟨rfl, h⟩
  · rcases hj with hj | rfl
    · cases hj
    · by_cases h6 : j ≤ 6
      · refine .inl ⟨rfl, ?_⟩
        have hd2 := decTo_snoc (s := zeroSt n) (b := b1) hx
        rw [h1] at hd2
        refine hd2.trans ?_
        show decF s _ x = _
        rw [decF_do hd]
        have hc : colsD (b.extract q b.size) = some (xs, b.extract q4 b.size) := by
          unfold colsD; rw [h2]
          show (if j ≤ 6 then _ else none) = _
          rw [if_pos h6]; exact h3
        rw [hc]; rfl
      · refine .inr ⟨.inr (by show 6 < xs.length; omega), do_no hx hd h1 ?_⟩
        unfold colsD; rw [h2]
        exact if_neg h6
  · exact .inr ⟨.inl rfl, h⟩
theorem okN_true {α : Type} {D : Option (α × ByteArray)} : okD (!true) D = none := rfl
theorem ecol_chain {b : ByteArray} {q0 q1 q2 q3 q4 : Nat} {o1 o2 o3 o4 : Bool} {n : ByteArray} {k : Nat} {f : Bool} {v : Vl}
    (h1 : (o1 = false ∧ okD (!false) (nameD (b.extract q0 b.size)) = some (n, b.extract q1 b.size)) ∨ (o1 = true ∧ okD (!false) (nameD (b.extract q0 b.size)) = none))
    (h2 : (o2 = false ∧ okD (!o1) (numD (b.extract q1 b.size)) = some (k, b.extract q2 b.size)) ∨ (o2 = true ∧ okD (!o1) (numD (b.extract q1 b.size)) = none))
    (h3 : (o3 = false ∧ okD (!o2) (flagD (b.extract q2 b.size)) = some (f, b.extract q3 b.size)) ∨ (o3 = true ∧ okD (!o2) (flagD (b.extract q2 b.size)) = none))
    (h4 : (o4 = false ∧ okD (!o3) (valD (b.extract q3 b.size)) = some (v, b.extract q4 b.size)) ∨ (o4 = true ∧ okD (!o3) (valD (b.extract q3 b.size)) = none)) :
    (o4 = false ∧ colD (b.extract q0 b.size) = some (⟨n, k, f, v⟩, b.extract q4 b.size)) ∨ (o4 = true ∧ colD (b.extract q0 b.size) = none) := by
  rcases h1 with ⟨rfl, h1⟩ | ⟨rfl, h1⟩
  · have e1 : nameD (b.extract q0 b.size) = some (n, b.extract q1 b.size) := h1
    rcases h2 with ⟨rfl, h2⟩ | ⟨rfl, h2⟩
    · have e2 : numD (b.extract q1 b.size) = some (k, b.extract q2 b.size) := h2
      rcases h3 with ⟨rfl, h3⟩ | ⟨rfl, h3⟩
      · have e3 : flagD (b.extract q2 b.size) = some (f, b.extract q3 b.size) := h3
        rcases h4 with ⟨rfl, h4⟩ | ⟨rfl, h4⟩
        · have e4 : valD (b.extract q3 b.size) = some (v, b.extract q4 b.size) := h4
          left; refine ⟨rfl, ?_⟩
          simp only [colD, e1, e2, e3, e4, Option.bind_some, Option.map_some]
        · have e4 : valD (b.extract q3 b.size) = none := h4
          right; refine ⟨rfl, ?_⟩
          simp only [colD, e1, e2, e3, e4, Option.bind_some, Option.map_none]
      · have e3 : flagD (b.extract q2 b.size) = none := h3
        rcases h4 with ⟨rfl, h4⟩ | ⟨rfl, h4⟩
        · cases h4
        · right; refine ⟨rfl, ?_⟩
          simp only [colD, e1, e2, e3, Option.bind_some, Option.bind_none]
    · have e2 : numD (b.extract q1 b.size) = none := h2
      rcases h3 with ⟨rfl, h3⟩ | ⟨rfl, h3⟩
      · cases h3
      · rcases h4 with ⟨rfl, h4⟩ | ⟨rfl, h4⟩
        · cases h4
        · right; refine ⟨rfl, ?_⟩
          simp only [colD, e1, e2, Option.bind_some, Option.bind_none]
  · have e1 : nameD (b.extract q0 b.size) = none := h1
    rcases h2 with ⟨rfl, h2⟩ | ⟨rfl, h2⟩
    · cases h2
    · rcases h3 with ⟨rfl, h3⟩ | ⟨rfl, h3⟩
      · cases h3
      · rcases h4 with ⟨rfl, h4⟩ | ⟨rfl, h4⟩
        · cases h4
        · right; refine ⟨rfl, ?_⟩
          simp only [colD, e1, Option.bind_none]
theorem blk_far36 {w : World} {b c : Nat} {x : Obj} (h : w.heap[b]? = some x) (hne : b ≠ c) (u0 u1 u2 u3 : Value) :
    ((((w.setCell ⟨c, 3, none⟩ u0).setCell ⟨c, 4, none⟩ u1).setCell ⟨c, 5, none⟩ u2).setCell ⟨c, 6, none⟩ u3).heap[b]? = some x :=
  blk_far (p := ⟨c, 6, none⟩) (blk_far (p := ⟨c, 5, none⟩) (blk_far (p := ⟨c, 4, none⟩) (blk_far (p := ⟨c, 3, none⟩) h hne u0) hne u1) hne u2) hne u3
end Go.Proofs.Ytbmaeaknlpgdmaa
