/- What a statement means of each row; the closures that tell it. -/
import Derived.Test.YtbmaeaknlpgdmaaGreatA20
import Derived.Test.YtbmaeaknlpgdmaaGreatA01
namespace Go.Proofs.YtbmaeaknlpgdmaaGreat
open Go.RowKit Go.Sort Go.Lib
set_option linter.unusedVariables false
set_option linter.unusedSimpArgs false
/-- Does a value of the statement's column meet it? -/
def meansV (s : St) (x : Vl) : Bool := if s.k = 8 then decide (0 ≤ cmpV x s.v) && decide (cmpV x s.w < 0) else cmpV x s.v == 0
/-- Does a statement mean a row, whose column stands at place at? -/
def meansR (s : St) (at_ : Nat) (r : List Vl) : Bool := match r[at_]? with | some x => meansV s x | none => false
theorem meansR_at {s : St} {k : Nat} {r : List Vl} {x : Vl} (h : r[k]? = some x) : meansR s k r = meansV s x := by unfold meansR; rw [h]
/-- What found's closures have caught. -/
def HdF (pa ps : Nat) (k : Nat) (s : St) (R C : Value) (w : World) : Prop := w.heap[pa]? = some (.cells #[.int .i64 k] 3 (0, 0)) ∧ w.heap[ps]? = some (.cells (s.row16 R C) 37 (0, 0))
theorem HdF.keep {pa ps k : Nat} {s : St} {R C : Value} {w w' : World} (h : HdF pa ps k s R C w) (hb : Below w.heap.size w w') : HdF pa ps k s R C w' := ⟨blk_below h.1 hb, blk_below h.2 hb⟩
theorem HdF.off {pa ps k : Nat} {s : St} {R C : Value} {g : Nat} {w w' : World} (h : HdF pa ps k s R C w) (ho : Off g g w w') (h1 : pa ≠ g) (h2 : ps ≠ g) : HdF pa ps k s R C w' := ⟨off_blk ho h.1 h1 h1, off_blk ho h.2 h2 h2⟩
set_option maxRecDepth 100000 in
set_option maxHeartbeats 4000000 in
theorem found2_ok (pa ps k N : Nat) (s : St) (R C : Value) (hk : k < N) (h8 : s.k ≠ 8) : PredC 129 #[.pointer (some ⟨pa, 0, none⟩), .pointer (some ⟨ps, 0, none⟩)] (meansR s k) (fun r => r.length = N) (HdF pa ps k s R C) := by
  intro w A n c r hd hr hok
  have hrm := hr.2.1
  have hn : n = N := by rw [← hr.1]; exact hok
  subst hn
  obtain ⟨b1, o1, x, hA, hxk, x0, x1, x2, x3, hb1⟩ := hr.get_ (Below.refl _ _) hk
  subst hA
  obtain ⟨ha, hs⟩ := hd
  obtain ⟨k1, f1⟩ := blk_rules ha
  obtain ⟨k2, f2⟩ := blk_rules hs
  have hkn : (k : Int) < n := by omega
  have HM := Lib.hid (show meansR s k r = (cmpV x s.v == 0) by rw [meansR_at hxk]; exact if_neg h8)
  clear ha hs hxk hr hok h8
  simp only [List.push_toArray, List.append_toArray, List.cons_append, List.nil_append]
  go_enter Tryz.func129, Tryz.ntmps129
  go_wp2
  go_still_tail 6, (by kernel_rfl)
  change wpList _ _ _ _ _ w.drew
  go_wp2_with fail
  refine (same_any x s.v _).mono ?_
  rintro e w1 ⟨rfl, hb⟩
  go_wp2
  go_ret
  exact ⟨by rw [HM.out]; rfl, bl_step (bl_drew (Below.refl _ _)) hb⟩
/-- What find's closure has caught: a function value, and what that has caught. -/
def HdN (pi f : Nat) (caps : Array Value) (Hd : World → Prop) (w : World) : Prop := w.heap[pi]? = some (.cells #[.func (.func f) #[] caps] 118 (0, 0)) ∧ Hd w
set_option maxRecDepth 100000 in
set_option maxHeartbeats 1000000 in
theorem not_ok (pi f : Nat) (caps : Array Value) (q : List Vl → Bool) (ok : List Vl → Prop) (Hd : World → Prop) (eg : ∀ args w, (callFunc f args).run Tryz.prog w = .ok (.enter f args) w) (hp : PredC f caps q ok Hd) :
    PredC 96 #[.pointer (some ⟨pi, 0, none⟩)] (fun r => !q r) ok (HdN pi f caps Hd) := by
  intro w A n c r hd hr hok
  have HC := Lib.hid (hp w A n c r hd.2 hr hok)
  obtain ⟨k1, f1⟩ := blk_rules hd.1
  clear hd hr hok hp
  simp only [List.push_toArray, List.append_toArray, List.cons_append, List.nil_append]
  go_enter Tryz.func96, Tryz.ntmps96
  go_wp2_with fail
  refine HC.out.mono ?_
  rintro e w1 ⟨rfl, hb⟩
  go_wp2
  go_ret
  exact ⟨rfl, hb⟩
theorem eg_1 : ∀ args w, (callFunc 128 args).run Tryz.prog w = .ok (.enter 128 args) w := fun args w => by kernel_rfl
theorem eg_2 : ∀ args w, (callFunc 129 args).run Tryz.prog w = .ok (.enter 129 args) w := fun args w => by kernel_rfl
theorem eg_n : ∀ args w, (callFunc 96 args).run Tryz.prog w = .ok (.enter 96 args) w := fun args w => by kernel_rfl
/-- found's function. -/
def foundF (s : St) : Nat := if s.k = 8 then 128 else 129
/-- What found leaves: no such column, or a function that tells which rows the statement means. -/
def FoundPost (t : Tb) (s : St) (R C : Value) (w : World) (e : Ending) (w' : World) : Prop :=
  Below w.heap.size w w' ∧ ((findC t.cols s.c < 0 ∧ e = .returned (.tuple #[.nilFunc, .int .i64 61])) ∨
    ∃ pa ps k, findC t.cols s.c = (k : Nat) ∧ e = .returned (.tuple #[.func (.func (foundF s)) #[] #[.pointer (some ⟨pa, 0, none⟩), .pointer (some ⟨ps, 0, none⟩)], .int .i64 0]) ∧ HdF pa ps k s R C w' ∧ w.heap.size ≤ pa ∧ w.heap.size ≤ ps)
set_option maxRecDepth 100000 in
set_option maxHeartbeats 4000000 in
theorem found_any (D : Nat → Prop) (tb : Nat) (t : Tb) (s : St) (R C : Value) (w : World) (h : TbAt D w tb t) : Calls Tryz.prog 93 #[.pointer (some ⟨tb, 0, none⟩), s.agg R C] w (FoundPost t s R C w) := by
  obtain ⟨ib, CC, RR, h1, h2, h3, h4, h5, h6⟩ := h
  obtain ⟨Ac, cc, rfl, hcd, _⟩ := h4.rd cl_len
  have HC := Lib.hid hcd
  have hlt := blk_lt h3
  have H3 := Lib.hid h3
  clear h1 h2 h3 h4 h5 h6 hcd
  go_enter Tryz.func93, Tryz.ntmps93
  go_upto_region 1 with fail
  have PS := blk_new w (.cells (s.row16 R C) 37)
  have PT := blk_old H3.out (.cells (s.row16 R C) 37)
  have PL : Below w.heap.size w (w.alloc (.cells (s.row16 R C) 37)) := by (repeat (first | assumption | exact Below.refl _ _ | refine bl_drewN ?_ _ | refine bl_drew ?_ | refine bl_alloc ?_ _ | refine bl_step ?_ (by assumption)))
  generalize w.alloc (.cells (s.row16 R C) 37) = W0 at PS PT PL ⊢
  refine wp_region_held_drew (S := fun w' => w'.heap[tb]? = some (.cells #[.slice Ac t.cols.length cc, RR, .map (some ib)] 110 (0, 0)) ∧ w'.heap[w.heap.size]? = some (.cells (s.row16 R C) 37 (0, 0)) ∧ Below w.heap.size w w') (by kernel_rfl) ⟨PT, PS, bl_drew PL⟩ (fun hHeld => ?_)
  have hHeld2 : (W0.heap[tb]? = some (.cells #[.slice Ac t.cols.length cc, RR, .map (some ib)] 110 (0, 0)) ∧ W0.heap[w.heap.size]? = some (.cells (s.row16 R C) 37 (0, 0)) ∧ Below w.heap.size w W0) := ⟨PT, PS, PL⟩
  clear PS PT PL
  simp only [List.size_toArray, List.length_cons, List.length_nil]
  (refine held_take (i := 0) (v := ?_) rfl (by kernel_rfl) (by kernel_rfl) (by kernel_rfl) (fun _ _ _ h => h) (by assumption) (by rfl) ?_ ?_; rotate_left; (focus (intro w hSw; (try dsimp only at hSw); go_simp; try with_reducible rfl)); (try simp only [Act.put, List.setIfInBounds_toArray, List.set_cons_zero, List.set_cons_succ]))
  (refine held_take (i := 1) (v := ?_) rfl (by kernel_rfl) (by kernel_rfl) (by kernel_rfl) (fun _ _ _ h => h) (by assumption) (by rfl) ?_ ?_; rotate_left; (focus (intro w hSw; (try dsimp only at hSw); go_simp; try with_reducible rfl)); (try simp only [Act.put, List.setIfInBounds_toArray, List.set_cons_zero, List.set_cons_succ]))
  (refine held_take (i := 2) (v := ?_) rfl (by kernel_rfl) (by kernel_rfl) (by kernel_rfl) (fun _ _ _ h => h) (by assumption) (by rfl) ?_ ?_; rotate_left; (focus (intro w hSw; (try dsimp only at hSw); go_simp; try with_reducible rfl)); (try simp only [Act.put, List.setIfInBounds_toArray, List.set_cons_zero, List.set_cons_succ]))
  (refine held_take (i := 3) (v := ?_) rfl (by kernel_rfl) (by kernel_rfl) (by kernel_rfl) (fun _ _ _ h => h) (by assumption) (by rfl) ?_ ?_; rotate_left; (focus (intro w hSw; have hq := (blk_rules hSw.1).1; (try dsimp only at hSw); go_simp; try with_reducible rfl)); (try simp only [Act.put, List.setIfInBounds_toArray, List.set_cons_zero, List.set_cons_succ]))
  (refine held_take (i := 4) (v := ?_) rfl (by kernel_rfl) (by kernel_rfl) (by kernel_rfl) (fun _ _ _ h => h) (by assumption) (by rfl) ?_ ?_; rotate_left; (focus (intro w hSw; (try dsimp only at hSw); go_simp; try with_reducible rfl)); (try simp only [Act.put, List.setIfInBounds_toArray, List.set_cons_zero, List.set_cons_succ]))
  (refine held_take (i := 5) (v := ?_) rfl (by kernel_rfl) (by kernel_rfl) (by kernel_rfl) (fun _ _ _ h => h) (by assumption) (by rfl) ?_ ?_; rotate_left; (focus (intro w hSw; have hq := (blk_rules hSw.2.1).1; (try dsimp only at hSw); go_simp; try with_reducible rfl)); (try simp only [Act.put, List.setIfInBounds_toArray, List.set_cons_zero, List.set_cons_succ]))
  have hW0 := Lib.hid hHeld2
  clear hHeld2
  refine wpAnyH_ready (rs := [6, 7]) (by kernel_rfl) (by simp) ?_
  refine held_step (i := 6) rfl (fun K hK => ?_) (held_step (i := 7) rfl (fun K hK => ?_) AllReadyH.nil)
  · go_simp
    refine (find_any Ac _ cc s.c t.cols _ (HC.out.keep hHeld.2.2)).mono ?_
    rintro e w1 ⟨rfl, hb1⟩
    refine hK.out _ _ ⟨blk_below hHeld.1 hb1, blk_below hHeld.2.1 hb1, bl_step hHeld.2.2 hb1⟩ (fun hH => ?_)
    clear hK K hHeld hb1
    have hHeld := hH
    clear hH
    (try simp only [Act.put, List.setIfInBounds_toArray, List.set_cons_zero, List.set_cons_succ])
    refine wpAnyH_ready (rs := [7]) (by kernel_rfl) (by simp) ?_
    refine held_step (i := 7) rfl (fun K hK => ?_) AllReadyH.nil
    go_simp
    refine hK.out _ _ ⟨blk_old hHeld.1 _, blk_old hHeld.2.1 _, bl_alloc hHeld.2.2 _⟩ (fun hH => ?_)
    have hlo := hHeld.2.2.size
    have hA := hHeld
    clear hK K hHeld hH
    (try simp only [Act.put, List.setIfInBounds_toArray, List.set_cons_zero, List.set_cons_succ])
    refine wpAnyH_ready (rs := [8]) (by kernel_rfl) (by simp) ?_
    refine held_step (i := 8) rfl (fun K hK => ?_) AllReadyH.nil
    go_simp
    refine hK.out _ _ ⟨blk_old hA.1 _, blk_old hA.2.1 _, bl_alloc hA.2.2 _⟩ (fun hH => ?_)
    have PA := blk_new w1 (.cells #[.int .i64 (findC t.cols s.c)] 3)
    have PS := hH.2.1
    have PL := hH.2.2
    clear hK K hA hH
    (try simp only [Act.put, List.setIfInBounds_toArray, List.set_cons_zero, List.set_cons_succ])
    refine wpAnyH_done (by kernel_rfl) ?_ _
    generalize w1.alloc (.cells #[.int .i64 (findC t.cols s.c)] 3) = W at PA PS PL ⊢
    generalize w1.heap.size = p at PA hlo ⊢
    have plo : w.heap.size ≤ p := hlo
    obtain ⟨kA, fA⟩ := blk_rules PA
    obtain ⟨kS, fS⟩ := blk_rules PS
    have hpz := blk_lt PA
    have hsz := blk_lt PS
    have HPA := Lib.hid PA
    have HPS := Lib.hid PS
    have HPL := Lib.hid PL
    clear PA PS PL
    by_cases hneg : findC t.cols s.c < 0
    · have hneg' := Lib.hid hneg
      go_wp2
      go_ret2
      exact ⟨HPL.out, .inl ⟨hneg'.out, rfl⟩⟩
    · obtain ⟨k, hk⟩ : ∃ k : Nat, findC t.cols s.c = (k : Int) := ⟨(findC t.cols s.c).toNat, by omega⟩
      have HKK := Lib.hid hk
      rw [hk] at kA HPA
      have hneg' : ¬ ((k : Int) < 0) := by omega
      rw [hk]
      clear hneg hk
      by_cases h8 : s.k = 8
      · have HFN := Lib.hid (show foundF s = 128 from if_pos h8)
        have h8' : (s.k == 8) = true := by simpa using h8
        have HPS2 := HPS
        clear h8
        go_wp2
        go_ret2
        exact ⟨HPL.out, .inr ⟨p, w.heap.size, k, HKK.out, by rw [HFN.out]; rfl, ⟨HPA.out, HPS2.out⟩, plo, Nat.le_refl _⟩⟩
      · have HFN := Lib.hid (show foundF s = 129 from if_neg h8)
        have h8' : (s.k == 8) = false := by simpa using h8
        clear h8
        go_wp2
        go_ret2
        exact ⟨HPL.out, .inr ⟨p, w.heap.size, k, HKK.out, by rw [HFN.out]; rfl, ⟨HPA.out, HPS.out⟩, plo, Nat.le_refl _⟩⟩
  · go_simp
    refine hK.out _ _ ⟨blk_old hHeld.1 _, blk_old hHeld.2.1 _, bl_alloc hHeld.2.2 _⟩ (fun hH => ?_)
    have hN := blk_new W0.drew (.cells #[.int .i64 0] 3)
    have hlo : w.heap.size ≤ W0.heap.size := hHeld.2.2.size
    have hlw : w.heap.size < W0.heap.size := blk_lt hW0.out.2.1
    clear hK K hHeld
    have hHeld := hH
    clear hH
    (try simp only [Act.put, List.setIfInBounds_toArray, List.set_cons_zero, List.set_cons_succ])
    refine wpAnyH_ready (rs := [6]) (by kernel_rfl) (by simp) ?_
    refine held_step (i := 6) rfl (fun K hK => ?_) AllReadyH.nil
    go_simp
    refine (find_any Ac _ cc s.c t.cols _ (HC.out.keep hHeld.2.2)).mono ?_
    rintro e w1 ⟨rfl, hb1⟩
    have hN1 : w1.heap[W0.heap.size]? = some (.cells #[.int .i64 0] 3 (0, 0)) := blk_below (w := (W0.alloc (.cells #[.int .i64 0] 3)).drew) hN hb1
    have hA := And.intro (blk_below hHeld.1 hb1) (And.intro (blk_below hHeld.2.1 hb1) (bl_step hHeld.2.2 hb1))
    refine hK.out _ _ hA (fun hH => ?_)
    clear hK K hHeld hb1 hH hN
    (try simp only [Act.put, List.setIfInBounds_toArray, List.set_cons_zero, List.set_cons_succ])
    obtain ⟨kN, fN⟩ := blk_rules hN1
    have hNz := blk_lt hN1
    have hne1 : tb ≠ W0.heap.size := by omega
    refine wpAnyH_ready (rs := [8]) (by kernel_rfl) (by simp) ?_
    refine held_step (i := 8) rfl (fun K hK => ?_) AllReadyH.nil
    go_simp
    have hsl : w.heap.size ≠ W0.heap.size := by omega
    have PA := blk_set_eq (L' := #[.int .i64 (findC t.cols s.c)]) hN1 0 (.int .i64 (findC t.cols s.c)) rfl
    have PS := blk_far (p := ⟨W0.heap.size, 0, none⟩) hA.2.1 hsl (.int .i64 (findC t.cols s.c))
    have PL := bl_set (p := ⟨W0.heap.size, 0, none⟩) hA.2.2 hlo (.int .i64 (findC t.cols s.c))
    refine hK.out _ _ ⟨blk_far (p := ⟨W0.heap.size, 0, none⟩) hA.1 hne1 _, PS, PL⟩ (fun hH => ?_)
    clear hK K hA hH kN fN hNz hN1
    (try simp only [Act.put, List.setIfInBounds_toArray, List.set_cons_zero, List.set_cons_succ])
    refine wpAnyH_done (by kernel_rfl) ?_ _
    generalize w1.setCell ⟨W0.heap.size, 0, none⟩ (.int .i64 (findC t.cols s.c)) = W at PA PS PL ⊢
    generalize W0.heap.size = p at PA hlo ⊢
    have plo : w.heap.size ≤ p := hlo
    obtain ⟨kA, fA⟩ := blk_rules PA
    obtain ⟨kS, fS⟩ := blk_rules PS
    have hpz := blk_lt PA
    have hsz := blk_lt PS
    have HPA := Lib.hid PA
    have HPS := Lib.hid PS
    have HPL := Lib.hid PL
    clear PA PS PL
    by_cases hneg : findC t.cols s.c < 0
    · have hneg' := Lib.hid hneg
      go_wp2
      go_ret2
      exact ⟨HPL.out, .inl ⟨hneg'.out, rfl⟩⟩
    · obtain ⟨k, hk⟩ : ∃ k : Nat, findC t.cols s.c = (k : Int) := ⟨(findC t.cols s.c).toNat, by omega⟩
      have HKK := Lib.hid hk
      rw [hk] at kA HPA
      have hneg' : ¬ ((k : Int) < 0) := by omega
      rw [hk]
      clear hneg hk
      by_cases h8 : s.k = 8
      · have HFN := Lib.hid (show foundF s = 128 from if_pos h8)
        have h8' : (s.k == 8) = true := by simpa using h8
        have HPS2 := HPS
        clear h8
        go_wp2
        go_ret2
        exact ⟨HPL.out, .inr ⟨p, w.heap.size, k, HKK.out, by rw [HFN.out]; rfl, ⟨HPA.out, HPS2.out⟩, plo, Nat.le_refl _⟩⟩
      · have HFN := Lib.hid (show foundF s = 129 from if_neg h8)
        have h8' : (s.k == 8) = false := by simpa using h8
        clear h8
        go_wp2
        go_ret2
        exact ⟨HPL.out, .inr ⟨p, w.heap.size, k, HKK.out, by rw [HFN.out]; rfl, ⟨HPA.out, HPS.out⟩, plo, Nat.le_refl _⟩⟩
end Go.Proofs.YtbmaeaknlpgdmaaGreat
