/- found's closure of a range. A model's range. -/
import Derived.Test.YtbmaeaknlpgdmaaGreatA21
import Derived.Test.YtbmaeaknlpgdmaaGreatA28
namespace Go.Proofs.YtbmaeaknlpgdmaaGreat
open Go.RowKit Go.Sort Go.Lib
set_option linter.unusedVariables false
set_option linter.unusedSimpArgs false
/-- .. an operation that is not wanted. -/
theorem held_skip {P : Program} {md : Region.Mode} {l : List Oper} {Q : Exit → Act → World → Prop} {S : World → Prop} {i : Nat} {oi : Oper} {fuel : Nat} {listed : Array Bool} {a : Act} {w : World} (hi : l[i]? = some oi)
    (hs : Region.noSelect l.toArray = true) (hf : Region.free md l.toArray listed i = true) (hr : (Region.ready md l.toArray listed).contains i = true)
    (hQ : ∀ c a w, Q (.panic c) (a.put oi.dst undef) w → Q (.panic c) a w) (hS : S w) (hw : Region.wanted oi (yielded l.toArray a.tmps) = false)
    (h : wpAnyH P md l.toArray Q S fuel (listed.setIfInBounds i true) (a.put oi.dst undef) w) : wpAnyH P md l.toArray Q S (fuel + 1) listed a w :=
  wpAnyH_take (by simpa using hi) hs hf hr hQ (Or.inr ⟨hw, rfl⟩) hS h
/-- What the closure reads. -/
def Rd1 (pa ps k : Nat) (s : St) (R C : Value) (b1 o : Nat) (x : Vl) (w0 w : World) : Prop := w.heap[pa]? = some (.cells #[.int .i64 k] 3 (0, 0)) ∧ w.heap[ps]? = some (.cells (s.row16 R C) 37 (0, 0)) ∧
  w.cell? ⟨b1, o, none⟩ = some (.int .i64 x.k) ∧ w.cell? ⟨b1, o + 1, none⟩ = some (.int .i64 x.n) ∧ w.cell? ⟨b1, o + 2, none⟩ = some (.float .f64 x.f) ∧ w.cell? ⟨b1, o + 3, none⟩ = some (.string x.s) ∧ Below w0.heap.size w0 w
theorem Rd1.step {pa ps k : Nat} {s : St} {R C : Value} {b1 o : Nat} {x : Vl} {w0 w w' : World} (h : Rd1 pa ps k s R C b1 o x w0 w) (hb : Below w.heap.size w w') : Rd1 pa ps k s R C b1 o x w0 w' :=
  ⟨blk_below h.1 hb, blk_below h.2.1 hb, pw_cell hb h.2.2.1, pw_cell hb h.2.2.2.1, pw_cell hb h.2.2.2.2.1, pw_cell hb h.2.2.2.2.2.1, bl_step h.2.2.2.2.2.2 hb⟩
set_option maxRecDepth 100000 in
set_option maxHeartbeats 4000000 in
theorem found1_ok (pa ps k N : Nat) (s : St) (R C : Value) (hk : k < N) (h8 : s.k = 8) : PredC 128 #[.pointer (some ⟨pa, 0, none⟩), .pointer (some ⟨ps, 0, none⟩)] (meansR s k) (fun r => r.length = N) (HdF pa ps k s R C) := by
  intro w A n c r hd hr hok
  have hrm := hr.2.1
  have hn : n = N := by rw [← hr.1]; exact hok
  subst hn
  obtain ⟨b1, o1, x, hA, hxk, x0, x1, x2, x3, hb1⟩ := hr.get_ (Below.refl _ _) hk
  subst hA
  have hkn : (k : Int) < n := by omega
  have HM := Lib.hid (show meansR s k r = (decide (0 ≤ cmpV x s.v) && decide (cmpV x s.w < 0)) by rw [meansR_at hxk]; exact if_pos h8)
  have HD : Rd1 pa ps k s R C b1 (o1 + k * 4) x w w.drew := ⟨hd.1, hd.2, x0, x1, x2, x3, bl_drew (Below.refl _ _)⟩
  clear hd hxk hr hok h8 x0 x1 x2 x3
  simp only [List.push_toArray, List.append_toArray, List.cons_append, List.nil_append]
  go_enter Tryz.func128, Tryz.ntmps128
  go_wp2
  refine wp_region_held_drew (S := Rd1 pa ps k s R C b1 (o1 + k * 4) x w) (by kernel_rfl) HD (fun hHeld => ?_)
  clear HD
  simp only [List.size_toArray, List.length_cons, List.length_nil]
  (refine held_take (i := 0) (v := ?_) rfl (by kernel_rfl) (by kernel_rfl) (by kernel_rfl) (fun _ _ _ h => h) (by assumption) (by rfl) ?_ ?_; rotate_left; (focus (intro w hSw; (try dsimp only at hSw); go_simp; try with_reducible rfl)); (try simp only [Act.put, List.setIfInBounds_toArray, List.set_cons_zero, List.set_cons_succ]))
  (refine held_take (i := 1) (v := ?_) rfl (by kernel_rfl) (by kernel_rfl) (by kernel_rfl) (fun _ _ _ h => h) (by assumption) (by rfl) ?_ ?_; rotate_left; (focus (intro w hSw; have hq := (blk_rules hSw.1).1; (try dsimp only at hSw); go_simp; try with_reducible rfl)); (try simp only [Act.put, List.setIfInBounds_toArray, List.set_cons_zero, List.set_cons_succ]))
  (refine held_take (i := 2) (v := ?_) rfl (by kernel_rfl) (by kernel_rfl) (by kernel_rfl) (fun _ _ _ h => h) (by assumption) (by rfl) ?_ ?_; rotate_left; (focus (intro w hSw; (try dsimp only at hSw); go_simp; try with_reducible rfl)); (try simp only [Act.put, List.setIfInBounds_toArray, List.set_cons_zero, List.set_cons_succ]))
  refine held_take (i := 3) (v := ?_) rfl (by kernel_rfl) (by kernel_rfl) (by kernel_rfl) (fun _ _ _ h => h) (by assumption) (by rfl) ?_ ?_
  rotate_left
  focus (intro w hSw; obtain ⟨_, _, q0, q1, q2, q3, _⟩ := hSw; go_simp; try with_reducible rfl)
  (try simp only [Act.put, List.setIfInBounds_toArray, List.set_cons_zero, List.set_cons_succ])
  (refine held_take (i := 4) (v := ?_) rfl (by kernel_rfl) (by kernel_rfl) (by kernel_rfl) (fun _ _ _ h => h) (by assumption) (by rfl) ?_ ?_; rotate_left; (focus (intro w hSw; (try dsimp only at hSw); go_simp; try with_reducible rfl)); (try simp only [Act.put, List.setIfInBounds_toArray, List.set_cons_zero, List.set_cons_succ]))
  (refine held_take (i := 5) (v := ?_) rfl (by kernel_rfl) (by kernel_rfl) (by kernel_rfl) (fun _ _ _ h => h) (by assumption) (by rfl) ?_ ?_; rotate_left; (focus (intro w hSw; have hq := (blk_rules hSw.2.1).1; (try dsimp only at hSw); go_simp; try with_reducible rfl)); (try simp only [Act.put, List.setIfInBounds_toArray, List.set_cons_zero, List.set_cons_succ]))
  refine wpAnyH_ready (rs := [6]) (by kernel_rfl) (by simp) ?_
  refine held_step (i := 6) rfl (fun K hK => ?_) AllReadyH.nil
  go_simp
  refine (cmpV_any x s.v _).mono ?_
  rintro e w6 ⟨rfl, hb1⟩
  refine hK.out _ _ (hHeld.step hb1) (fun hH => ?_)
  clear hK K hHeld hb1
  have hHeld := hH
  clear hH
  (try simp only [Act.put, List.setIfInBounds_toArray, List.set_cons_zero, List.set_cons_succ])
  by_cases hc : 0 ≤ cmpV x s.v
  · have hc' : decide (0 ≤ cmpV x s.v) = true := decide_eq_true hc
    have HM2 := Lib.hid (show meansR s k r = decide (cmpV x s.w < 0) by rw [HM.out, hc']; rfl)
    clear hc'
    (refine held_take (i := 7) (v := ?_) rfl (by kernel_rfl) (by kernel_rfl) (by kernel_rfl) (fun _ _ _ h => h) (by assumption) (by rfl) ?_ ?_; rotate_left; (focus (intro w hSw; (try dsimp only at hSw); go_simp; try with_reducible rfl)); (try simp only [Act.put, List.setIfInBounds_toArray, List.set_cons_zero, List.set_cons_succ]))
    (refine held_take (i := 8) (v := ?_) rfl (by kernel_rfl) (by kernel_rfl) (by kernel_rfl) (fun _ _ _ h => h) (by assumption) (by rfl) ?_ ?_; rotate_left; (focus (intro w hSw; (try dsimp only at hSw); go_simp; try with_reducible rfl)); (try simp only [Act.put, List.setIfInBounds_toArray, List.set_cons_zero, List.set_cons_succ]))
    (refine held_take (i := 9) (v := ?_) rfl (by kernel_rfl) (by kernel_rfl) (by kernel_rfl) (fun _ _ _ h => h) (by assumption) (by rfl) ?_ ?_; rotate_left; (focus (intro w hSw; (try dsimp only at hSw); go_simp; try with_reducible rfl)); (try simp only [Act.put, List.setIfInBounds_toArray, List.set_cons_zero, List.set_cons_succ]))
    (refine held_take (i := 10) (v := ?_) rfl (by kernel_rfl) (by kernel_rfl) (by kernel_rfl) (fun _ _ _ h => h) (by assumption) (by rfl) ?_ ?_; rotate_left; (focus (intro w hSw; have hq := (blk_rules hSw.1).1; (try dsimp only at hSw); go_simp; try with_reducible rfl)); (try simp only [Act.put, List.setIfInBounds_toArray, List.set_cons_zero, List.set_cons_succ]))
    (refine held_take (i := 11) (v := ?_) rfl (by kernel_rfl) (by kernel_rfl) (by kernel_rfl) (fun _ _ _ h => h) (by assumption) (by rfl) ?_ ?_; rotate_left; (focus (intro w hSw; (try dsimp only at hSw); go_simp; try with_reducible rfl)); (try simp only [Act.put, List.setIfInBounds_toArray, List.set_cons_zero, List.set_cons_succ]))
    refine held_take (i := 12) (v := ?_) rfl (by kernel_rfl) (by kernel_rfl) (by kernel_rfl) (fun _ _ _ h => h) (by assumption) (by rfl) ?_ ?_
    rotate_left
    focus (intro w hSw; obtain ⟨_, _, q0, q1, q2, q3, _⟩ := hSw; go_simp; try with_reducible rfl)
    (try simp only [Act.put, List.setIfInBounds_toArray, List.set_cons_zero, List.set_cons_succ])
    (refine held_take (i := 13) (v := ?_) rfl (by kernel_rfl) (by kernel_rfl) (by kernel_rfl) (fun _ _ _ h => h) (by assumption) (by rfl) ?_ ?_; rotate_left; (focus (intro w hSw; (try dsimp only at hSw); go_simp; try with_reducible rfl)); (try simp only [Act.put, List.setIfInBounds_toArray, List.set_cons_zero, List.set_cons_succ]))
    (refine held_take (i := 14) (v := ?_) rfl (by kernel_rfl) (by kernel_rfl) (by kernel_rfl) (fun _ _ _ h => h) (by assumption) (by rfl) ?_ ?_; rotate_left; (focus (intro w hSw; have hq := (blk_rules hSw.2.1).1; (try dsimp only at hSw); go_simp; try with_reducible rfl)); (try simp only [Act.put, List.setIfInBounds_toArray, List.set_cons_zero, List.set_cons_succ]))
    refine wpAnyH_ready (rs := [15]) (by kernel_rfl) (by simp) ?_
    refine held_step (i := 15) rfl (fun K hK => ?_) AllReadyH.nil
    go_simp
    refine (cmpV_any x s.w _).mono ?_
    rintro e w15 ⟨rfl, hb1⟩
    refine hK.out _ _ (hHeld.step hb1) (fun hH => ?_)
    clear hK K hHeld hb1
    have hHeld := hH
    clear hH
    (try simp only [Act.put, List.setIfInBounds_toArray, List.set_cons_zero, List.set_cons_succ])
    (refine held_take (i := 16) (v := ?_) rfl (by kernel_rfl) (by kernel_rfl) (by kernel_rfl) (fun _ _ _ h => h) (by assumption) (by rfl) ?_ ?_; rotate_left; (focus (intro w hSw; (try dsimp only at hSw); go_simp; try with_reducible rfl)); (try simp only [Act.put, List.setIfInBounds_toArray, List.set_cons_zero, List.set_cons_succ]))
    (refine held_take (i := 17) (v := ?_) rfl (by kernel_rfl) (by kernel_rfl) (by kernel_rfl) (fun _ _ _ h => h) (by assumption) (by rfl) ?_ ?_; rotate_left; (focus (intro w hSw; (try dsimp only at hSw); go_simp; try with_reducible rfl)); (try simp only [Act.put, List.setIfInBounds_toArray, List.set_cons_zero, List.set_cons_succ]))
    (refine held_take (i := 18) (v := ?_) rfl (by kernel_rfl) (by kernel_rfl) (by kernel_rfl) (fun _ _ _ h => h) (by assumption) (by rfl) ?_ ?_; rotate_left; (focus (intro w hSw; (try dsimp only at hSw); go_simp; try with_reducible rfl)); (try simp only [Act.put, List.setIfInBounds_toArray, List.set_cons_zero, List.set_cons_succ]))
    refine wpAnyH_done (by kernel_rfl) ?_ _
    have HB := Lib.hid hHeld.2.2.2.2.2.2
    clear hHeld
    go_wp2
    go_ret
    exact ⟨by rw [HM2.out]; rfl, HB.out⟩
  · have hc' : decide (0 ≤ cmpV x s.v) = false := decide_eq_false hc
    have HM2 := Lib.hid (show meansR s k r = false by rw [HM.out, hc']; rfl)
    clear hc'
    (refine held_take (i := 7) (v := ?_) rfl (by kernel_rfl) (by kernel_rfl) (by kernel_rfl) (fun _ _ _ h => h) (by assumption) (by rfl) ?_ ?_; rotate_left; (focus (intro w hSw; (try dsimp only at hSw); go_simp; try with_reducible rfl)); (try simp only [Act.put, List.setIfInBounds_toArray, List.set_cons_zero, List.set_cons_succ]))
    (refine held_take (i := 8) (v := ?_) rfl (by kernel_rfl) (by kernel_rfl) (by kernel_rfl) (fun _ _ _ h => h) (by assumption) (by rfl) ?_ ?_; rotate_left; (focus (intro w hSw; (try dsimp only at hSw); go_simp; try with_reducible rfl)); (try simp only [Act.put, List.setIfInBounds_toArray, List.set_cons_zero, List.set_cons_succ]))
    refine held_skip (i := 9) rfl (by kernel_rfl) (by kernel_rfl) (by kernel_rfl) (fun _ _ _ h => h) (by assumption) (by rfl) ?_
    (try simp only [Act.put, List.setIfInBounds_toArray, List.set_cons_zero, List.set_cons_succ])
    refine held_skip (i := 10) rfl (by kernel_rfl) (by kernel_rfl) (by kernel_rfl) (fun _ _ _ h => h) (by assumption) (by rfl) ?_
    (try simp only [Act.put, List.setIfInBounds_toArray, List.set_cons_zero, List.set_cons_succ])
    refine held_skip (i := 11) rfl (by kernel_rfl) (by kernel_rfl) (by kernel_rfl) (fun _ _ _ h => h) (by assumption) (by rfl) ?_
    (try simp only [Act.put, List.setIfInBounds_toArray, List.set_cons_zero, List.set_cons_succ])
    refine held_skip (i := 12) rfl (by kernel_rfl) (by kernel_rfl) (by kernel_rfl) (fun _ _ _ h => h) (by assumption) (by rfl) ?_
    (try simp only [Act.put, List.setIfInBounds_toArray, List.set_cons_zero, List.set_cons_succ])
    refine held_skip (i := 13) rfl (by kernel_rfl) (by kernel_rfl) (by kernel_rfl) (fun _ _ _ h => h) (by assumption) (by rfl) ?_
    (try simp only [Act.put, List.setIfInBounds_toArray, List.set_cons_zero, List.set_cons_succ])
    refine held_skip (i := 14) rfl (by kernel_rfl) (by kernel_rfl) (by kernel_rfl) (fun _ _ _ h => h) (by assumption) (by rfl) ?_
    (try simp only [Act.put, List.setIfInBounds_toArray, List.set_cons_zero, List.set_cons_succ])
    refine held_skip (i := 15) rfl (by kernel_rfl) (by kernel_rfl) (by kernel_rfl) (fun _ _ _ h => h) (by assumption) (by rfl) ?_
    (try simp only [Act.put, List.setIfInBounds_toArray, List.set_cons_zero, List.set_cons_succ])
    refine held_skip (i := 16) rfl (by kernel_rfl) (by kernel_rfl) (by kernel_rfl) (fun _ _ _ h => h) (by assumption) (by rfl) ?_
    (try simp only [Act.put, List.setIfInBounds_toArray, List.set_cons_zero, List.set_cons_succ])
    (refine held_take (i := 17) (v := ?_) rfl (by kernel_rfl) (by kernel_rfl) (by kernel_rfl) (fun _ _ _ h => h) (by assumption) (by rfl) ?_ ?_; rotate_left; (focus (intro w hSw; (try dsimp only at hSw); go_simp; try with_reducible rfl)); (try simp only [Act.put, List.setIfInBounds_toArray, List.set_cons_zero, List.set_cons_succ]))
    (refine held_take (i := 18) (v := ?_) rfl (by kernel_rfl) (by kernel_rfl) (by kernel_rfl) (fun _ _ _ h => h) (by assumption) (by rfl) ?_ ?_; rotate_left; (focus (intro w hSw; (try dsimp only at hSw); go_simp; try with_reducible rfl)); (try simp only [Act.put, List.setIfInBounds_toArray, List.set_cons_zero, List.set_cons_succ]))
    refine wpAnyH_done (by kernel_rfl) ?_ _
    have HB := Lib.hid hHeld.2.2.2.2.2.2
    clear hHeld
    go_wp2
    go_ret
    exact ⟨by rw [HM2.out]; rfl, HB.out⟩
end Go.Proofs.YtbmaeaknlpgdmaaGreat
namespace Go.Proofs.YtbmaeaknlpgdmaaGreat
open Go.RowKit Go.Sort Go.Lib
set_option linter.unusedVariables false
set_option linter.unusedSimpArgs false
/-- Range. -/
theorem do_range (D : Nat → Prop) (m hb : Nat) (L : List En) (s : St) (A A' : Option Addr) (n c mc d : Nat) (w : World) (h : MRep D w m hb L) (ha : RdV w A n s.row) (hc : RdC w A' mc s.cols) (hk : s.k = 8) (hg : goodS s = true) (j : Nat) (x : En) (hj : L[j]? = some x) (hxn : x.name = s.t)
    (hok : TbOK x.t) (hst : StabOK (hitsT x.t s).length) :
    Calls Tryz.prog 11 #[.pointer (some ⟨m, 0, none⟩), s.agg (.slice A n c) (.slice A' mc d)] w (RowsPost D m (findRep x.t s).1 (findRep x.t s).2 (enS L) w) := by
  obtain ⟨i, hgk⟩ := getK_of h hj hxn
  have hff : foundF s = 128 := if_pos hk
  refine (do_call D m hb L s A A' n c mc d w h ha hc _ (by rw [hk]; rfl) hg i x hgk eg_find _ (fun W hcd => ?_) (fun W code n' B k e' w2 hcd hq => (hq.2.2.2.block _ (blk_lt hcd.rp)))).mono fun e w' hh => do_rows h _ _ hh
  refine (find_t_any x.D x.tb x.t _ s _ _ W (hcd.rep.tbs x (List.mem_of_getElem? hj)) hok hst (fun pa ps k hk' => by rw [hff]; exact found1_ok pa ps k _ s _ _ hk' hk) (by rw [hff]; exact eg_1)).mono fun e w2 hh => ?_
  obtain ⟨V, rs', rfl, hr, ho, hbw⟩ := hh
  obtain ⟨B, k, e', rfl, _⟩ := rowsD_sl hr
  exact ⟨_, _, B, k, e', rfl, rfl, rfl, ⟨rs', hr, ho⟩, hbw⟩
end Go.Proofs.YtbmaeaknlpgdmaaGreat
