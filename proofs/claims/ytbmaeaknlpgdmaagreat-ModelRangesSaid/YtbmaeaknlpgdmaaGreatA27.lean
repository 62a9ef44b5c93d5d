/- Do: a statement, by its kind. -/
import Derived.Test.YtbmaeaknlpgdmaaGreatA25
import Derived.Test.YtbmaeaknlpgdmaaGreatA26
namespace Go.Proofs.YtbmaeaknlpgdmaaGreat
open Go.RowKit Go.Sort Go.Lib
set_option linter.unusedVariables false
set_option linter.unusedSimpArgs false
/-- What Do has laid: the statement, the reply, the functions; and the model. -/
structure CD (D : Nat → Prop) (m hb : Nat) (L : List En) (s : St) (R C : Value) (w w' : World) : Prop where
  rep : MRep D w' m hb L
  st : w'.heap[w.heap.size]? = some (.cells (s.row16 R C) 37 (0, 0))
  rp : w'.heap[w.heap.size + 1]? = some (.cells #[.int .i64 0, .int .i64 0, .slice none 0 0] 29 (0, 0))
  fs : w'.heap[w.heap.size + 2]? = some (.map md13 13)
  bel : Below w.heap.size w w'
section
variable {D : Nat → Prop} {m hb : Nat} {L : List En} {s : St} {R C : Value} {w w' : World}
theorem CD.step {w2 : World} (h : CD D m hb L s R C w w') (hb2 : Below w'.heap.size w' w2) : CD D m hb L s R C w w2 := ⟨h.rep.keep hb2, blk_below h.st hb2, blk_below h.rp hb2, blk_below h.fs hb2, bl_step h.bel hb2⟩
theorem CD.drew_ (h : CD D m hb L s R C w w') : CD D m hb L s R C w w'.drew := h.step (bl_drew (Below.refl _ _))
theorem cd_start (h : MRep D w m hb L) : CD D m hb L s R C w (((w.alloc (.cells (s.row16 R C) 37)).alloc (.cells #[.int .i64 0, .int .i64 0, .slice none 0 0] 29)).alloc (.map md13 13)) := by
  refine ⟨h.keep (by (repeat (first | assumption | exact Below.refl _ _ | refine bl_drewN ?_ _ | refine bl_drew ?_ | refine bl_alloc ?_ _ | refine bl_step ?_ (by assumption)))), blk_old (blk_old (blk_new w _) _) _, ?_, ?_, by (repeat (first | assumption | exact Below.refl _ _ | refine bl_drewN ?_ _ | refine bl_drew ?_ | refine bl_alloc ?_ _ | refine bl_step ?_ (by assumption)))⟩
  · have hh := blk_new (w.alloc (.cells (s.row16 R C) 37)) (.cells #[.int .i64 0, .int .i64 0, .slice none 0 0] 29)
    rw [szal] at hh
    exact blk_old hh _
  · have hh := blk_new ((w.alloc (.cells (s.row16 R C) 37)).alloc (.cells #[.int .i64 0, .int .i64 0, .slice none 0 0] 29)) (.map md13 13)
    rw [szal, szal] at hh
    exact hh
end
/-- A reply without rows; the model as S. -/
def DoPost (D : Nat → Prop) (m : Nat) (code n : Int) (S : List (ByteArray × Tb)) (w : World) (e : Ending) (w' : World) : Prop :=
  e = .returned (replyV code n (.slice none 0 0)) ∧ ModelAt (Dn D w w') w' m S ∧ Fr D w w'
theorem do_code {D : Nat → Prop} {m : Nat} {S : List (ByteArray × Tb)} {w w9 : World} (h : ModelAt D w m S) (hb : Below w.heap.size w w9) (k : Int) :
    DoPost D m k 0 S w (.returned (replyV k 0 (.slice none 0 0))) (((w9.setCell ⟨w.heap.size + 1, 0, none⟩ (.int .i64 k)).setCell ⟨w.heap.size + 1, 1, none⟩ (.int .i64 0)).setCell ⟨w.heap.size + 1, 2, none⟩ (.slice none 0 0)) := by
  have hl := bl_set (p := ⟨w.heap.size + 1, 2, none⟩) (bl_set (p := ⟨w.heap.size + 1, 1, none⟩) (bl_set (p := ⟨w.heap.size + 1, 0, none⟩) hb (Nat.le_succ w.heap.size) (.int .i64 k)) (Nat.le_succ w.heap.size) (.int .i64 0)) (Nat.le_succ w.heap.size) (.slice none 0 0)
  exact ⟨rfl, h.dn hl, fr_below hl⟩
theorem fr_step2 {D : Nat → Prop} {w w1 w2 : World} (h : Below w.heap.size w w1) (k : Fr D w1 w2) : Fr D w w2 :=
  ⟨k.os.trans h.os, k.tape.trans h.tape, k.output.trans h.output, Nat.le_trans h.size k.size, fun i hi hd => (k.block i (Nat.lt_of_lt_of_le hi h.size) hd).trans (h.block i hi)⟩
/-- The reply is laid in its block. -/
theorem do_fin {D : Nat → Prop} {m : Nat} {S : List (ByteArray × Tb)} {w w1 w2 w9 : World} (hm : ModelAt (Dn D w1 w2) w9 m S) (hf : Fr D w w9) (h1 : Below w.heap.size w w1) (h2 : w2.heap.size ≤ w9.heap.size) (hq : w.heap.size + 1 < w1.heap.size) (hnd : ∀ b, w.heap.size ≤ b → ¬ D b) (u0 u1 u2 : Value) :
    ModelAt (Dn D w (((w9.setCell ⟨w.heap.size + 1, 0, none⟩ u0).setCell ⟨w.heap.size + 1, 1, none⟩ u1).setCell ⟨w.heap.size + 1, 2, none⟩ u2)) (((w9.setCell ⟨w.heap.size + 1, 0, none⟩ u0).setCell ⟨w.heap.size + 1, 1, none⟩ u1).setCell ⟨w.heap.size + 1, 2, none⟩ u2) m S ∧
      Fr D w (((w9.setCell ⟨w.heap.size + 1, 0, none⟩ u0).setCell ⟨w.heap.size + 1, 1, none⟩ u1).setCell ⟨w.heap.size + 1, 2, none⟩ u2) := by
  have hsz : (((w9.setCell ⟨w.heap.size + 1, 0, none⟩ u0).setCell ⟨w.heap.size + 1, 1, none⟩ u1).setCell ⟨w.heap.size + 1, 2, none⟩ u2).heap.size = w9.heap.size := by simp [World.setCell]
  refine ⟨(hm.fr (by rw [hsz]; exact Nat.le_refl _) fun b hb => ?_).mono fun b hb1 hb2 => ?_, fr_set (p := ⟨w.heap.size + 1, 2, none⟩) (fr_set (p := ⟨w.heap.size + 1, 1, none⟩) (fr_set (p := ⟨w.heap.size + 1, 0, none⟩) hf (.inr (Nat.le_succ _)) _) (.inr (Nat.le_succ _)) _) (.inr (Nat.le_succ _)) _⟩
  · have hne : b ≠ w.heap.size + 1 := by
      rintro rfl
      rcases hb with hb | hb
      · exact hnd _ (Nat.le_succ _) hb
      · omega
    rw [Below.heap_setCell _ _ _ _ hne, Below.heap_setCell _ _ _ _ hne, Below.heap_setCell _ _ _ _ hne]
  · rcases hb2 with hb2 | hb2
    · exact .inl hb2
    · exact .inr ⟨Nat.le_trans h1.size hb2.1, hb1⟩
set_option maxRecDepth 100000 in
set_option maxHeartbeats 1000000 in
/-- A model that nobody made. -/
theorem do_nil (s : St) (R C : Value) (w : World) : Pure Tryz.prog 11 #[.pointer none, s.agg R C] w (replyV 1 0 (.slice none 0 0)) := by
  go_enter Tryz.func11, Tryz.ntmps11
  go_wp2_with fail
  refine (code_any _ _).mono ?_
  rintro e w9 ⟨rfl, hb9⟩
  have hq := blk_new (w.alloc (.cells (s.row16 R C) 37)) (.cells #[.int .i64 0, .int .i64 0, .slice none 0 0] 29)
  rw [szal] at hq
  have HQ := Lib.hid (blk_below hq hb9)
  have HL := Lib.hid (bl_step (bl_alloc (bl_alloc (Below.refl w.heap.size w) _) _) hb9)
  obtain ⟨k9, f9⟩ := blk_rules HQ.out
  have hz9 := blk_lt HQ.out
  clear hb9 hq
  go_wp2
  exact bodyPost_ret (results_blk (T := 29) (b := w.heap.size + 1) rfl (fun _ => by kernel_rfl) (fun _ => by kernel_rfl) _ rfl (blk_set3 rfl HQ.out _ _ _)) rfl ⟨rfl, bl_set (bl_set (bl_set HL.out (by simp) _) (by simp) _) (by simp) _⟩
set_option maxRecDepth 100000 in
set_option maxHeartbeats 8000000 in
/-- Not a statement that a model does. -/
theorem do_form (D : Nat → Prop) (m : Nat) (S : List (ByteArray × Tb)) (s : St) (A A' : Option Addr) (n c mc d : Nat) (w : World) (h : ModelAt D w m S) (ha : RdV w A n s.row) (hc : RdC w A' mc s.cols) (hbad : goodS s = false ∨ (doesF s.k = none ∧ s.k ≠ 10)) :
    Calls Tryz.prog 11 #[.pointer (some ⟨m, 0, none⟩), s.agg (.slice A n c) (.slice A' mc d)] w (DoPost D m 11 0 S w) := by
  have HM := Lib.hid h
  obtain ⟨hb, L, rfl, hrep⟩ := h
  have HR := Lib.hid hrep
  have HA := Lib.hid ha
  have HC := Lib.hid hc
  clear ha hc
  have hdl : ∃ fv, (∀ (W : World) (b : Nat), W.heap[b]? = some (.map md13 13) → (Instr.lookup 80 (.map (some b)) (.int .i64 s.k) false).run Tryz.prog W = .ok fv W) ∧ ((goodS s = true → fv = .nilFunc) ∧ ((∃ f, fv = .func (.func f) #[] #[]) ∨ fv = .nilFunc)) := by
    cases hf : doesF s.k with
    | none => exact ⟨.nilFunc, fun _ _ hb => md_no hb s.k hf, fun _ => rfl, .inr rfl⟩
    | some f => exact ⟨.func (.func f) #[] #[], fun _ _ hb => md_look hb s.k f hf, (fun hg => by
        rcases hbad with h | h
        · rw [h] at hg; cases hg
        · rw [hf] at h; cases h.1), .inl ⟨f, rfl⟩⟩
  obtain ⟨fv, hfv, hnil, hkind⟩ := hdl
  have HFV := Lib.hid (show ∀ (W : World) (b : Nat), W.heap[b]? = some (.map md13 13) → (Instr.lookup 80 (.map (some b)) (.int .i64 s.k) false).run Tryz.prog W = .ok fv W from hfv)
  have hlk : ∃ tp, (∀ w', MRep D w' m hb L → (Instr.lookup 73 (.map (some hb)) (.string s.t) false).run Tryz.prog w' = .ok (.pointer tp) w') := by
    rcases look_tb hrep s.t with ⟨_, _, hg, _⟩ | ⟨j, x, _, _, _, hg, _⟩
    · exact ⟨none, fun w' h => look_no h hg⟩
    · exact ⟨some ⟨x.tb, 0, none⟩, fun w' h => look_yes h hg⟩
  obtain ⟨tp, htp⟩ := hlk
  have HTP := Lib.hid htp
  have HNIL := Lib.hid hnil
  have HBAD := Lib.hid hbad
  have HKIND := Lib.hid hkind
  clear hfv htp hnil hbad hkind hrep
  have hmm := @run_makeMap Tryz.prog
  have i0 := md_i0
  have i1 := md_i1
  have i2 := md_i2
  have i3 := md_i3
  have i4 := md_i4
  have i5 := md_i5
  have i6 := md_i6
  have i7 := md_i7
  have i8 := md_i8
  have i9 := md_i9
  have i10 := md_i10
  have i11 := md_i11
  have i12 := md_i12
  go_enter Tryz.func11, Tryz.ntmps11
  go_upto_region 4 with fail
  clear hmm i0 i1 i2 i3 i4 i5 i6 i7 i8 i9 i10 i11 i12
  have PC : CD D m hb L s (.slice A n c) (.slice A' mc d) w (((w.alloc (.cells (s.row16 (.slice A n c) (.slice A' mc d)) 37)).alloc (.cells #[.int .i64 0, .int .i64 0, .slice none 0 0] 29)).alloc (.map md13 13)) := cd_start HR.out
  generalize ((w.alloc (.cells (s.row16 (.slice A n c) (.slice A' mc d)) 37)).alloc (.cells #[.int .i64 0, .int .i64 0, .slice none 0 0] 29)).alloc (.map md13 13) = W0 at PC ⊢
  refine wp_region_held_drew (S := CD D m hb L s (.slice A n c) (.slice A' mc d) w) (by kernel_rfl) PC.drew_ (fun hHeld => ?_)
  have hHeld2 := PC
  clear PC
  simp only [List.size_toArray, List.length_cons, List.length_nil]
  (refine held_take (i := 0) (v := ?_) rfl (by kernel_rfl) (by kernel_rfl) (by kernel_rfl) (fun _ _ _ h => h) (by assumption) (by rfl) ?_ ?_; rotate_left; (focus (intro w hSw; (try dsimp only at hSw); go_simp; try with_reducible rfl)); (try simp only [Act.put, List.setIfInBounds_toArray, List.set_cons_zero, List.set_cons_succ]))
  (refine held_take (i := 1) (v := ?_) rfl (by kernel_rfl) (by kernel_rfl) (by kernel_rfl) (fun _ _ _ h => h) (by assumption) (by rfl) ?_ ?_; rotate_left; (focus (intro w hSw; (try dsimp only at hSw); go_simp; try with_reducible rfl)); (try simp only [Act.put, List.setIfInBounds_toArray, List.set_cons_zero, List.set_cons_succ]))
  (refine held_take (i := 2) (v := ?_) rfl (by kernel_rfl) (by kernel_rfl) (by kernel_rfl) (fun _ _ _ h => h) (by assumption) (by rfl) ?_ ?_; rotate_left; (focus (intro w hSw; (try dsimp only at hSw); go_simp; try with_reducible rfl)); (try simp only [Act.put, List.setIfInBounds_toArray, List.set_cons_zero, List.set_cons_succ]))
  (refine held_take (i := 3) (v := ?_) rfl (by kernel_rfl) (by kernel_rfl) (by kernel_rfl) (fun _ _ _ h => h) (by assumption) (by rfl) ?_ ?_; rotate_left; (focus (intro w hSw; have hq := (blk_rules hSw.rep.mod).1; (try dsimp only at hSw); go_simp; try with_reducible rfl)); (try simp only [Act.put, List.setIfInBounds_toArray, List.set_cons_zero, List.set_cons_succ]))
  (refine held_take (i := 4) (v := ?_) rfl (by kernel_rfl) (by kernel_rfl) (by kernel_rfl) (fun _ _ _ h => h) (by assumption) (by rfl) ?_ ?_; rotate_left; (focus (intro w hSw; (try dsimp only at hSw); go_simp; try with_reducible rfl)); (try simp only [Act.put, List.setIfInBounds_toArray, List.set_cons_zero, List.set_cons_succ]))
  (refine held_take (i := 5) (v := ?_) rfl (by kernel_rfl) (by kernel_rfl) (by kernel_rfl) (fun _ _ _ h => h) (by assumption) (by rfl) ?_ ?_; rotate_left; (focus (intro w hSw; have hq := (blk_rules hSw.st).1; (try dsimp only at hSw); go_simp; try with_reducible rfl)); (try simp only [Act.put, List.setIfInBounds_toArray, List.set_cons_zero, List.set_cons_succ]))
  (refine held_take (i := 6) (v := ?_) rfl (by kernel_rfl) (by kernel_rfl) (by kernel_rfl) (fun _ _ _ h => h) (by assumption) (by rfl) ?_ ?_; rotate_left; (focus (intro w hSw; have hq := HTP.out _ hSw.rep; (try dsimp only at hSw); go_simp; try with_reducible rfl)); (try simp only [Act.put, List.setIfInBounds_toArray, List.set_cons_zero, List.set_cons_succ]))
  (refine held_take (i := 7) (v := ?_) rfl (by kernel_rfl) (by kernel_rfl) (by kernel_rfl) (fun _ _ _ h => h) (by assumption) (by rfl) ?_ ?_; rotate_left; (focus (intro w hSw; (try dsimp only at hSw); go_simp; try with_reducible rfl)); (try simp only [Act.put, List.setIfInBounds_toArray, List.set_cons_zero, List.set_cons_succ]))
  refine wpAnyH_done (by kernel_rfl) ?_ _
  clear hHeld2
  generalize W0.drew = W at hHeld ⊢
  have HW := Lib.hid hHeld
  obtain ⟨k1, f1⟩ := blk_rules hHeld.st
  have hz1 := blk_lt hHeld.st
  have hdo := HFV.out _ _ HW.out.fs
  clear hHeld
  go_wp2_with (refine wpl_load16 rfl _ rfl _ rfl rfl HW.out.st ?_)
  clear hdo k1 f1
  go_wp2_with fail
  refine (goodS_any s A A' n c mc d _ (HA.out.keep HW.out.bel) (HC.out.keep HW.out.bel)).mono ?_
  rintro e w1 ⟨rfl, hb1⟩
  have H1 := Lib.hid (HW.out.step hb1)
  clear hb1
  cases hg : goodS s with
  | false =>
    clear hg
    go_wp2_with fail
    refine (code_any _ _).mono ?_
    rintro e w9 ⟨rfl, hb9⟩
    have H9 := Lib.hid (H1.out.step hb9)
    clear hb9
    obtain ⟨k9, f9⟩ := blk_rules H9.out.rp
    have hz9 := blk_lt H9.out.rp
    go_wp2
    exact bodyPost_ret (results_blk (T := 29) (b := w.heap.size + 1) rfl (fun _ => by kernel_rfl) (fun _ => by kernel_rfl) _ rfl (blk_set3 rfl H9.out.rp _ _ _)) rfl (do_code HM.out H9.out.bel 11)
  | true =>
    have hkk : fv = .nilFunc := HNIL.out hg
    have hne : (s.k != 10) = true := by
      rcases HBAD.out with h | h
      · rw [hg] at h; cases h
      · simpa using h.2
    subst hkk
    have hf0 := feq0
    obtain ⟨k1, f1⟩ := blk_rules H1.out.st
    have hz1 := blk_lt H1.out.st
    clear hg
    go_wp2_with fail
    refine (code_any _ _).mono ?_
    rintro e w9 ⟨rfl, hb9⟩
    have H9 := Lib.hid (H1.out.step hb9)
    clear hb9
    obtain ⟨k9, f9⟩ := blk_rules H9.out.rp
    have hz9 := blk_lt H9.out.rp
    go_wp2
    exact bodyPost_ret (results_blk (T := 29) (b := w.heap.size + 1) rfl (fun _ => by kernel_rfl) (fun _ => by kernel_rfl) _ rfl (blk_set3 rfl H9.out.rp _ _ _)) rfl (do_code HM.out H9.out.bel 11)
set_option maxRecDepth 100000 in
set_option maxHeartbeats 8000000 in
/-- CreateTable. -/
theorem do_create (D : Nat → Prop) (m : Nat) (S : List (ByteArray × Tb)) (s : St) (A A' : Option Addr) (n c mc d : Nat) (w : World) (h : ModelAt D w m S) (ha : RdV w A n s.row) (hc : RdC w A' mc s.cols) (hDb : ∀ b, D b → b < w.heap.size) (hk : s.k = 10) (hg : goodS s = true) (hmc : mc ≤ 1000) :
    Calls Tryz.prog 11 #[.pointer (some ⟨m, 0, none⟩), s.agg (.slice A n c) (.slice A' mc d)] w (DoPost D m (createM S s).1 0 (createM S s).2 w) := by
  have HM := Lib.hid h
  obtain ⟨hb, L, rfl, hrep⟩ := h
  have HR := Lib.hid hrep
  have HA := Lib.hid ha
  have HC := Lib.hid hc
  clear ha hc
  have hlk : ∃ tp, (∀ w', MRep D w' m hb L → (Instr.lookup 73 (.map (some hb)) (.string s.t) false).run Tryz.prog w' = .ok (.pointer tp) w') := by
    rcases look_tb hrep s.t with ⟨_, _, hg, _⟩ | ⟨j, x, _, _, _, hg, _⟩
    · exact ⟨none, fun w' h => look_no h hg⟩
    · exact ⟨some ⟨x.tb, 0, none⟩, fun w' h => look_yes h hg⟩
  obtain ⟨tp, htp⟩ := hlk
  have HTP := Lib.hid htp
  have HFV := Lib.hid (show ∀ (W : World) (b : Nat), W.heap[b]? = some (.map md13 13) → (Instr.lookup 80 (.map (some b)) (.int .i64 s.k) false).run Tryz.prog W = .ok .nilFunc W from fun _ _ hb => md_no hb s.k (by rw [hk]; rfl))
  have HG := Lib.hid hg
  have HKK := Lib.hid hk
  have hne : (s.k != 10) = false := by simpa using hk
  have heq : (s.k == 10) = true := by simpa using hk
  clear htp hrep hg hk
  have hmm := @run_makeMap Tryz.prog
  have i0 := md_i0
  have i1 := md_i1
  have i2 := md_i2
  have i3 := md_i3
  have i4 := md_i4
  have i5 := md_i5
  have i6 := md_i6
  have i7 := md_i7
  have i8 := md_i8
  have i9 := md_i9
  have i10 := md_i10
  have i11 := md_i11
  have i12 := md_i12
  go_enter Tryz.func11, Tryz.ntmps11
  go_upto_region 4 with fail
  clear hmm i0 i1 i2 i3 i4 i5 i6 i7 i8 i9 i10 i11 i12
  have PC : CD D m hb L s (.slice A n c) (.slice A' mc d) w (((w.alloc (.cells (s.row16 (.slice A n c) (.slice A' mc d)) 37)).alloc (.cells #[.int .i64 0, .int .i64 0, .slice none 0 0] 29)).alloc (.map md13 13)) := cd_start HR.out
  generalize ((w.alloc (.cells (s.row16 (.slice A n c) (.slice A' mc d)) 37)).alloc (.cells #[.int .i64 0, .int .i64 0, .slice none 0 0] 29)).alloc (.map md13 13) = W0 at PC ⊢
  refine wp_region_held_drew (S := CD D m hb L s (.slice A n c) (.slice A' mc d) w) (by kernel_rfl) PC.drew_ (fun hHeld => ?_)
  have hHeld2 := PC
  clear PC
  simp only [List.size_toArray, List.length_cons, List.length_nil]
  (refine held_take (i := 0) (v := ?_) rfl (by kernel_rfl) (by kernel_rfl) (by kernel_rfl) (fun _ _ _ h => h) (by assumption) (by rfl) ?_ ?_; rotate_left; (focus (intro w hSw; (try dsimp only at hSw); go_simp; try with_reducible rfl)); (try simp only [Act.put, List.setIfInBounds_toArray, List.set_cons_zero, List.set_cons_succ]))
  (refine held_take (i := 1) (v := ?_) rfl (by kernel_rfl) (by kernel_rfl) (by kernel_rfl) (fun _ _ _ h => h) (by assumption) (by rfl) ?_ ?_; rotate_left; (focus (intro w hSw; (try dsimp only at hSw); go_simp; try with_reducible rfl)); (try simp only [Act.put, List.setIfInBounds_toArray, List.set_cons_zero, List.set_cons_succ]))
  (refine held_take (i := 2) (v := ?_) rfl (by kernel_rfl) (by kernel_rfl) (by kernel_rfl) (fun _ _ _ h => h) (by assumption) (by rfl) ?_ ?_; rotate_left; (focus (intro w hSw; (try dsimp only at hSw); go_simp; try with_reducible rfl)); (try simp only [Act.put, List.setIfInBounds_toArray, List.set_cons_zero, List.set_cons_succ]))
  (refine held_take (i := 3) (v := ?_) rfl (by kernel_rfl) (by kernel_rfl) (by kernel_rfl) (fun _ _ _ h => h) (by assumption) (by rfl) ?_ ?_; rotate_left; (focus (intro w hSw; have hq := (blk_rules hSw.rep.mod).1; (try dsimp only at hSw); go_simp; try with_reducible rfl)); (try simp only [Act.put, List.setIfInBounds_toArray, List.set_cons_zero, List.set_cons_succ]))
  (refine held_take (i := 4) (v := ?_) rfl (by kernel_rfl) (by kernel_rfl) (by kernel_rfl) (fun _ _ _ h => h) (by assumption) (by rfl) ?_ ?_; rotate_left; (focus (intro w hSw; (try dsimp only at hSw); go_simp; try with_reducible rfl)); (try simp only [Act.put, List.setIfInBounds_toArray, List.set_cons_zero, List.set_cons_succ]))
  (refine held_take (i := 5) (v := ?_) rfl (by kernel_rfl) (by kernel_rfl) (by kernel_rfl) (fun _ _ _ h => h) (by assumption) (by rfl) ?_ ?_; rotate_left; (focus (intro w hSw; have hq := (blk_rules hSw.st).1; (try dsimp only at hSw); go_simp; try with_reducible rfl)); (try simp only [Act.put, List.setIfInBounds_toArray, List.set_cons_zero, List.set_cons_succ]))
  (refine held_take (i := 6) (v := ?_) rfl (by kernel_rfl) (by kernel_rfl) (by kernel_rfl) (fun _ _ _ h => h) (by assumption) (by rfl) ?_ ?_; rotate_left; (focus (intro w hSw; have hq := HTP.out _ hSw.rep; (try dsimp only at hSw); go_simp; try with_reducible rfl)); (try simp only [Act.put, List.setIfInBounds_toArray, List.set_cons_zero, List.set_cons_succ]))
  (refine held_take (i := 7) (v := ?_) rfl (by kernel_rfl) (by kernel_rfl) (by kernel_rfl) (fun _ _ _ h => h) (by assumption) (by rfl) ?_ ?_; rotate_left; (focus (intro w hSw; (try dsimp only at hSw); go_simp; try with_reducible rfl)); (try simp only [Act.put, List.setIfInBounds_toArray, List.set_cons_zero, List.set_cons_succ]))
  refine wpAnyH_done (by kernel_rfl) ?_ _
  clear hHeld2
  generalize W0.drew = W at hHeld ⊢
  have HW := Lib.hid hHeld
  obtain ⟨k1, f1⟩ := blk_rules hHeld.st
  have hz1 := blk_lt hHeld.st
  have hdo := HFV.out _ _ HW.out.fs
  clear hHeld
  go_wp2_with (refine wpl_load16 rfl _ rfl _ rfl rfl HW.out.st ?_)
  clear hdo k1 f1
  go_wp2_with fail
  refine (goodS_any s A A' n c mc d _ (HA.out.keep HW.out.bel) (HC.out.keep HW.out.bel)).mono ?_
  rintro e w1 ⟨rfl, hb1⟩
  have H1 := Lib.hid (HW.out.step hb1)
  clear hb1
  rw [HG.out]
  have hf0 := feq0
  obtain ⟨k1, f1⟩ := blk_rules H1.out.st
  have hz1 := blk_lt H1.out.st
  go_wp2_with (refine wpl_load16 rfl _ rfl _ rfl rfl H1.out.st ?_)
  clear k1 f1
  go_wp2_with fail
  refine (create_any D m (enS L) s (.slice A n c) A' mc d _ (HM.out.keep H1.out.bel) (HC.out.keep H1.out.bel) hmc).mono ?_
  rintro e w2 ⟨rfl, hm2, hfr2⟩
  have HM2 := Lib.hid hm2
  have HF2 := Lib.hid hfr2
  have hnd : ∀ b, w.heap.size ≤ b → ¬ D b := fun b hb hd => by have := hDb b hd; omega
  have HRP2 := Lib.hid (show w2.heap[w.heap.size + 1]? = some (.cells #[.int .i64 0, .int .i64 0, .slice none 0 0] 29 (0, 0)) from (hfr2.block _ (blk_lt H1.out.rp) (hnd _ (by omega))).trans H1.out.rp)
  clear hm2 hfr2
  go_wp2_with fail
  refine (code_any _ _).mono ?_
  rintro e w9 ⟨rfl, hb9⟩
  have HRP := Lib.hid (blk_below HRP2.out hb9)
  have HM9 := Lib.hid (HM2.out.keep hb9)
  have HF9 := Lib.hid (fr_step (fr_step2 H1.out.bel HF2.out) hb9)
  have HS9 := Lib.hid hb9.size
  clear hb9
  obtain ⟨k9, f9⟩ := blk_rules HRP.out
  have hz9 := blk_lt HRP.out
  go_wp2
  exact bodyPost_ret (results_blk (T := 29) (b := w.heap.size + 1) rfl (fun _ => by kernel_rfl) (fun _ => by kernel_rfl) _ rfl (blk_set3 rfl HRP.out _ _ _)) rfl ⟨rfl, do_fin HM9.out HF9.out H1.out.bel HS9.out (blk_lt H1.out.rp) hnd _ _ _⟩
set_option maxRecDepth 100000 in
set_option maxHeartbeats 8000000 in
/-- No such table. -/
theorem do_none (D : Nat → Prop) (m : Nat) (S : List (ByteArray × Tb)) (s : St) (A A' : Option Addr) (n c mc d : Nat) (w : World) (h : ModelAt D w m S) (ha : RdV w A n s.row) (hc : RdC w A' mc s.cols) (f : Nat) (hf : doesF s.k = some f) (hg : goodS s = true) (hno : getS s.t S = none) :
    Calls Tryz.prog 11 #[.pointer (some ⟨m, 0, none⟩), s.agg (.slice A n c) (.slice A' mc d)] w (DoPost D m 60 0 S w) := by
  have HM := Lib.hid h
  obtain ⟨hb, L, rfl, hrep⟩ := h
  have HR := Lib.hid hrep
  have HA := Lib.hid ha
  have HC := Lib.hid hc
  clear ha hc
  have hgk : getK s.t (enK L) 0 = none := by
    rcases look_tb hrep s.t with ⟨_, _, hg, _⟩ | ⟨j, x, _, _, hy, _, _⟩
    · exact hg
    · rw [hno] at hy; cases hy
  have HGK := Lib.hid hgk
  have HFV := Lib.hid (show ∀ (W : World) (b : Nat), W.heap[b]? = some (.map md13 13) → (Instr.lookup 80 (.map (some b)) (.int .i64 s.k) false).run Tryz.prog W = .ok (.func (.func f) #[] #[]) W from fun _ _ hb => md_look hb s.k f hf)
  have HG := Lib.hid hg
  have hk10 : s.k ≠ 10 := fun h => by rw [h] at hf; cases hf
  have heq : (s.k == 10) = false := by simpa using hk10
  clear hgk hrep hg hf hno hk10
  have hmm := @run_makeMap Tryz.prog
  have i0 := md_i0
  have i1 := md_i1
  have i2 := md_i2
  have i3 := md_i3
  have i4 := md_i4
  have i5 := md_i5
  have i6 := md_i6
  have i7 := md_i7
  have i8 := md_i8
  have i9 := md_i9
  have i10 := md_i10
  have i11 := md_i11
  have i12 := md_i12
  go_enter Tryz.func11, Tryz.ntmps11
  go_upto_region 4 with fail
  clear hmm i0 i1 i2 i3 i4 i5 i6 i7 i8 i9 i10 i11 i12
  have PC : CD D m hb L s (.slice A n c) (.slice A' mc d) w (((w.alloc (.cells (s.row16 (.slice A n c) (.slice A' mc d)) 37)).alloc (.cells #[.int .i64 0, .int .i64 0, .slice none 0 0] 29)).alloc (.map md13 13)) := cd_start HR.out
  generalize ((w.alloc (.cells (s.row16 (.slice A n c) (.slice A' mc d)) 37)).alloc (.cells #[.int .i64 0, .int .i64 0, .slice none 0 0] 29)).alloc (.map md13 13) = W0 at PC ⊢
  refine wp_region_held_drew (S := CD D m hb L s (.slice A n c) (.slice A' mc d) w) (by kernel_rfl) PC.drew_ (fun hHeld => ?_)
  have hHeld2 := PC
  clear PC
  simp only [List.size_toArray, List.length_cons, List.length_nil]
  (refine held_take (i := 0) (v := ?_) rfl (by kernel_rfl) (by kernel_rfl) (by kernel_rfl) (fun _ _ _ h => h) (by assumption) (by rfl) ?_ ?_; rotate_left; (focus (intro w hSw; (try dsimp only at hSw); go_simp; try with_reducible rfl)); (try simp only [Act.put, List.setIfInBounds_toArray, List.set_cons_zero, List.set_cons_succ]))
  (refine held_take (i := 1) (v := ?_) rfl (by kernel_rfl) (by kernel_rfl) (by kernel_rfl) (fun _ _ _ h => h) (by assumption) (by rfl) ?_ ?_; rotate_left; (focus (intro w hSw; (try dsimp only at hSw); go_simp; try with_reducible rfl)); (try simp only [Act.put, List.setIfInBounds_toArray, List.set_cons_zero, List.set_cons_succ]))
  (refine held_take (i := 2) (v := ?_) rfl (by kernel_rfl) (by kernel_rfl) (by kernel_rfl) (fun _ _ _ h => h) (by assumption) (by rfl) ?_ ?_; rotate_left; (focus (intro w hSw; (try dsimp only at hSw); go_simp; try with_reducible rfl)); (try simp only [Act.put, List.setIfInBounds_toArray, List.set_cons_zero, List.set_cons_succ]))
  (refine held_take (i := 3) (v := ?_) rfl (by kernel_rfl) (by kernel_rfl) (by kernel_rfl) (fun _ _ _ h => h) (by assumption) (by rfl) ?_ ?_; rotate_left; (focus (intro w hSw; have hq := (blk_rules hSw.rep.mod).1; (try dsimp only at hSw); go_simp; try with_reducible rfl)); (try simp only [Act.put, List.setIfInBounds_toArray, List.set_cons_zero, List.set_cons_succ]))
  (refine held_take (i := 4) (v := ?_) rfl (by kernel_rfl) (by kernel_rfl) (by kernel_rfl) (fun _ _ _ h => h) (by assumption) (by rfl) ?_ ?_; rotate_left; (focus (intro w hSw; (try dsimp only at hSw); go_simp; try with_reducible rfl)); (try simp only [Act.put, List.setIfInBounds_toArray, List.set_cons_zero, List.set_cons_succ]))
  (refine held_take (i := 5) (v := ?_) rfl (by kernel_rfl) (by kernel_rfl) (by kernel_rfl) (fun _ _ _ h => h) (by assumption) (by rfl) ?_ ?_; rotate_left; (focus (intro w hSw; have hq := (blk_rules hSw.st).1; (try dsimp only at hSw); go_simp; try with_reducible rfl)); (try simp only [Act.put, List.setIfInBounds_toArray, List.set_cons_zero, List.set_cons_succ]))
  (refine held_take (i := 6) (v := ?_) rfl (by kernel_rfl) (by kernel_rfl) (by kernel_rfl) (fun _ _ _ h => h) (by assumption) (by rfl) ?_ ?_; rotate_left; (focus (intro w hSw; have hq := look_no hSw.rep HGK.out; (try dsimp only at hSw); go_simp; try with_reducible rfl)); (try simp only [Act.put, List.setIfInBounds_toArray, List.set_cons_zero, List.set_cons_succ]))
  (refine held_take (i := 7) (v := ?_) rfl (by kernel_rfl) (by kernel_rfl) (by kernel_rfl) (fun _ _ _ h => h) (by assumption) (by rfl) ?_ ?_; rotate_left; (focus (intro w hSw; (try dsimp only at hSw); go_simp; try with_reducible rfl)); (try simp only [Act.put, List.setIfInBounds_toArray, List.set_cons_zero, List.set_cons_succ]))
  refine wpAnyH_done (by kernel_rfl) ?_ _
  clear hHeld2
  generalize W0.drew = W at hHeld ⊢
  have HW := Lib.hid hHeld
  obtain ⟨k1, f1⟩ := blk_rules hHeld.st
  have hz1 := blk_lt hHeld.st
  have hdo := HFV.out _ _ HW.out.fs
  clear hHeld
  go_wp2_with (refine wpl_load16 rfl _ rfl _ rfl rfl HW.out.st ?_)
  clear hdo k1 f1
  go_wp2_with fail
  refine (goodS_any s A A' n c mc d _ (HA.out.keep HW.out.bel) (HC.out.keep HW.out.bel)).mono ?_
  rintro e w1 ⟨rfl, hb1⟩
  have H1 := Lib.hid (HW.out.step hb1)
  clear hb1
  rw [HG.out]
  have hf0 := feq f
  obtain ⟨k1, f1⟩ := blk_rules H1.out.st
  have hz1 := blk_lt H1.out.st
  go_wp2_with fail
  refine (code_any _ _).mono ?_
  rintro e w9 ⟨rfl, hb9⟩
  have H9 := Lib.hid (H1.out.step hb9)
  clear hb9
  obtain ⟨k9, f9⟩ := blk_rules H9.out.rp
  have hz9 := blk_lt H9.out.rp
  go_wp2
  exact bodyPost_ret (results_blk (T := 29) (b := w.heap.size + 1) rfl (fun _ => by kernel_rfl) (fun _ => by kernel_rfl) _ rfl (blk_set3 rfl H9.out.rp _ _ _)) rfl (do_code HM.out H9.out.bel 60)
/-- What a kind's function leaves, and the reply laid. -/
def CallPost (D : Nat → Prop) (m hb : Nat) (L : List En) (s : St) (R C : Value) (Q : World → Int → Int → Option Addr → Nat → Nat → World → Prop) (w : World) (e : Ending) (w' : World) : Prop :=
  ∃ W code n A k c w2, CD D m hb L s R C w W ∧ Q W code n A k c w2 ∧ e = .returned (replyV code n (.slice A k c)) ∧
    w' = ((w2.setCell ⟨w.heap.size + 1, 0, none⟩ (.int .i64 code)).setCell ⟨w.heap.size + 1, 1, none⟩ (.int .i64 n)).setCell ⟨w.heap.size + 1, 2, none⟩ (.slice A k c)
set_option maxRecDepth 100000 in
set_option maxHeartbeats 8000000 in
/-- A table's statement. -/
theorem do_call (D : Nat → Prop) (m hb : Nat) (L : List En) (s : St) (A A' : Option Addr) (n c mc d : Nat) (w : World) (h : MRep D w m hb L) (ha : RdV w A n s.row) (hc : RdC w A' mc s.cols) (f : Nat) (hf : doesF s.k = some f) (hg : goodS s = true) (j : Nat) (x : En) (hgk : getK s.t (enK L) 0 = some (j, .pointer (some ⟨x.tb, 0, none⟩)))
    (eg : ∀ args w, (callFunc f args).run Tryz.prog w = .ok (.enter f args) w) (Q : World → Int → Int → Option Addr → Nat → Nat → World → Prop)
    (hcall : ∀ W, CD D m hb L s (.slice A n c) (.slice A' mc d) w W → Calls Tryz.prog f #[.pointer (some ⟨m, 0, none⟩), .pointer (some ⟨x.tb, 0, none⟩), s.agg (.slice A n c) (.slice A' mc d)] W fun e w2 => ∃ code n' B k e', e = .returned (replyV code n' (.slice B k e')) ∧ Q W code n' B k e' w2)
    (hkeep : ∀ W code n' B k e' w2, CD D m hb L s (.slice A n c) (.slice A' mc d) w W → Q W code n' B k e' w2 → w2.heap[w.heap.size + 1]? = W.heap[w.heap.size + 1]?) :
    Calls Tryz.prog 11 #[.pointer (some ⟨m, 0, none⟩), s.agg (.slice A n c) (.slice A' mc d)] w (CallPost D m hb L s (.slice A n c) (.slice A' mc d) Q w) := by
  have HR := Lib.hid h
  have HA := Lib.hid ha
  have HC := Lib.hid hc
  have HGK := Lib.hid hgk
  have HFV := Lib.hid (show ∀ (W : World) (b : Nat), W.heap[b]? = some (.map md13 13) → (Instr.lookup 80 (.map (some b)) (.int .i64 s.k) false).run Tryz.prog W = .ok (.func (.func f) #[] #[]) W from fun _ _ hb => md_look hb s.k f hf)
  have HG := Lib.hid hg
  have HCALL := Lib.hid hcall
  have HKEEP := Lib.hid hkeep
  have hk10 : s.k ≠ 10 := fun h => by rw [h] at hf; cases hf
  have heq : (s.k == 10) = false := by simpa using hk10
  clear hgk h ha hc hg hf hk10 hcall hkeep
  have hmm := @run_makeMap Tryz.prog
  have i0 := md_i0
  have i1 := md_i1
  have i2 := md_i2
  have i3 := md_i3
  have i4 := md_i4
  have i5 := md_i5
  have i6 := md_i6
  have i7 := md_i7
  have i8 := md_i8
  have i9 := md_i9
  have i10 := md_i10
  have i11 := md_i11
  have i12 := md_i12
  go_enter Tryz.func11, Tryz.ntmps11
  go_upto_region 4 with fail
  clear hmm i0 i1 i2 i3 i4 i5 i6 i7 i8 i9 i10 i11 i12
  have PC : CD D m hb L s (.slice A n c) (.slice A' mc d) w (((w.alloc (.cells (s.row16 (.slice A n c) (.slice A' mc d)) 37)).alloc (.cells #[.int .i64 0, .int .i64 0, .slice none 0 0] 29)).alloc (.map md13 13)) := cd_start HR.out
  generalize ((w.alloc (.cells (s.row16 (.slice A n c) (.slice A' mc d)) 37)).alloc (.cells #[.int .i64 0, .int .i64 0, .slice none 0 0] 29)).alloc (.map md13 13) = W0 at PC ⊢
  refine wp_region_held_drew (S := CD D m hb L s (.slice A n c) (.slice A' mc d) w) (by kernel_rfl) PC.drew_ (fun hHeld => ?_)
  have hHeld2 := PC
  clear PC
  simp only [List.size_toArray, List.length_cons, List.length_nil]
  (refine held_take (i := 0) (v := ?_) rfl (by kernel_rfl) (by kernel_rfl) (by kernel_rfl) (fun _ _ _ h => h) (by assumption) (by rfl) ?_ ?_; rotate_left; (focus (intro w hSw; (try dsimp only at hSw); go_simp; try with_reducible rfl)); (try simp only [Act.put, List.setIfInBounds_toArray, List.set_cons_zero, List.set_cons_succ]))
  (refine held_take (i := 1) (v := ?_) rfl (by kernel_rfl) (by kernel_rfl) (by kernel_rfl) (fun _ _ _ h => h) (by assumption) (by rfl) ?_ ?_; rotate_left; (focus (intro w hSw; (try dsimp only at hSw); go_simp; try with_reducible rfl)); (try simp only [Act.put, List.setIfInBounds_toArray, List.set_cons_zero, List.set_cons_succ]))
  (refine held_take (i := 2) (v := ?_) rfl (by kernel_rfl) (by kernel_rfl) (by kernel_rfl) (fun _ _ _ h => h) (by assumption) (by rfl) ?_ ?_; rotate_left; (focus (intro w hSw; (try dsimp only at hSw); go_simp; try with_reducible rfl)); (try simp only [Act.put, List.setIfInBounds_toArray, List.set_cons_zero, List.set_cons_succ]))
  (refine held_take (i := 3) (v := ?_) rfl (by kernel_rfl) (by kernel_rfl) (by kernel_rfl) (fun _ _ _ h => h) (by assumption) (by rfl) ?_ ?_; rotate_left; (focus (intro w hSw; have hq := (blk_rules hSw.rep.mod).1; (try dsimp only at hSw); go_simp; try with_reducible rfl)); (try simp only [Act.put, List.setIfInBounds_toArray, List.set_cons_zero, List.set_cons_succ]))
  (refine held_take (i := 4) (v := ?_) rfl (by kernel_rfl) (by kernel_rfl) (by kernel_rfl) (fun _ _ _ h => h) (by assumption) (by rfl) ?_ ?_; rotate_left; (focus (intro w hSw; (try dsimp only at hSw); go_simp; try with_reducible rfl)); (try simp only [Act.put, List.setIfInBounds_toArray, List.set_cons_zero, List.set_cons_succ]))
  (refine held_take (i := 5) (v := ?_) rfl (by kernel_rfl) (by kernel_rfl) (by kernel_rfl) (fun _ _ _ h => h) (by assumption) (by rfl) ?_ ?_; rotate_left; (focus (intro w hSw; have hq := (blk_rules hSw.st).1; (try dsimp only at hSw); go_simp; try with_reducible rfl)); (try simp only [Act.put, List.setIfInBounds_toArray, List.set_cons_zero, List.set_cons_succ]))
  (refine held_take (i := 6) (v := ?_) rfl (by kernel_rfl) (by kernel_rfl) (by kernel_rfl) (fun _ _ _ h => h) (by assumption) (by rfl) ?_ ?_; rotate_left; (focus (intro w hSw; have hq := look_yes hSw.rep HGK.out; (try dsimp only at hSw); go_simp; try with_reducible rfl)); (try simp only [Act.put, List.setIfInBounds_toArray, List.set_cons_zero, List.set_cons_succ]))
  (refine held_take (i := 7) (v := ?_) rfl (by kernel_rfl) (by kernel_rfl) (by kernel_rfl) (fun _ _ _ h => h) (by assumption) (by rfl) ?_ ?_; rotate_left; (focus (intro w hSw; (try dsimp only at hSw); go_simp; try with_reducible rfl)); (try simp only [Act.put, List.setIfInBounds_toArray, List.set_cons_zero, List.set_cons_succ]))
  refine wpAnyH_done (by kernel_rfl) ?_ _
  clear hHeld2
  generalize W0.drew = W at hHeld ⊢
  have HW := Lib.hid hHeld
  obtain ⟨k1, f1⟩ := blk_rules hHeld.st
  have hz1 := blk_lt hHeld.st
  have hdo := HFV.out _ _ HW.out.fs
  clear hHeld
  go_wp2_with (refine wpl_load16 rfl _ rfl _ rfl rfl HW.out.st ?_)
  clear hdo k1 f1
  go_wp2_with fail
  refine (goodS_any s A A' n c mc d _ (HA.out.keep HW.out.bel) (HC.out.keep HW.out.bel)).mono ?_
  rintro e w1 ⟨rfl, hb1⟩
  have H1 := Lib.hid (HW.out.step hb1)
  clear hb1
  rw [HG.out]
  have hf0 := feq f
  obtain ⟨k1, f1⟩ := blk_rules H1.out.st
  have hz1 := blk_lt H1.out.st
  go_wp2_with (refine wpl_load16 rfl _ rfl _ rfl rfl H1.out.st ?_)
  clear k1 f1
  go_wp2_with fail
  refine (HCALL.out w1 H1.out).mono ?_
  rintro e w2 ⟨code, n', B, k, e', rfl, hq2⟩
  have HQ2 := Lib.hid hq2
  have HRP := Lib.hid ((HKEEP.out w1 code n' B k e' w2 H1.out hq2).trans H1.out.rp)
  clear hq2
  obtain ⟨k9, f9⟩ := blk_rules HRP.out
  have hz9 := blk_lt HRP.out
  go_wp2
  exact bodyPost_ret (results_blk (T := 29) (b := w.heap.size + 1) rfl (fun _ => by kernel_rfl) (fun _ => by kernel_rfl) _ rfl (blk_set3 rfl HRP.out _ _ _)) rfl ⟨w1, code, n', B, k, e', w2, H1.out, HQ2.out, rfl, rfl⟩
end Go.Proofs.YtbmaeaknlpgdmaaGreat
