/- A statement with one field turned: the law in plain words. liverykeep.CopyStmt: the copy's row lies in memory of the call's own. A statement's sixteen cells, loaded at once: where the load is guarded. -/
import Derived.Test.YtbmaeaknlpgdmaaA22
import Derived.Test.YtbmaeaknlpgdmaaA24
import Derived.Test.YtbmaeaknlpgdmaaA08
import Derived.Test.YtbmaeaknlpgdmaaA37
namespace Go.Proofs.Ytbmaeaknlpgdmaa
open Go.RowKit
set_option linter.unusedVariables false
set_option linter.unusedSimpArgs false
set_option linter.constructorNameAsVariable false
def aB : ByteArray := ⟨#[97]⟩
/-- What StmtOthers turns. -/
def chg (s : St) (r : Nat) : St :=
  if r = 0 then { s with nm := s.nm ++ aB } else if r = 1 then { s with se := s.se ++ aB } else if r = 2 then { s with v := { s.v with n := wrap64 (s.v.n + 1) } }
  else if r = 3 then { s with w := { s.w with s := s.w.s ++ aB } } else if r = 4 then { s with row := s.row ++ [⟨0, 0, 0, ⟨#[]⟩⟩] } else { s with fl := !s.fl }
/-- Which field that is. -/
def chgF (r : Nat) : Fld := if r = 0 then .n else if r = 1 then .s else if r = 2 then .v else if r = 3 then .w else if r = 4 then .r else .f
theorem setF_other {s : St} {r : Nat} {x : Fld} (n : St) (h : x ≠ chgF r) : setF (chg s r) n x = setF s n x := by
  by_cases h0 : r = 0
  · subst h0; cases x <;> first | rfl | exact absurd rfl h
  by_cases h1 : r = 1
  · subst h1; cases x <;> first | rfl | exact absurd rfl h
  by_cases h2 : r = 2
  · subst h2; cases x <;> first | rfl | exact absurd rfl h
  by_cases h3 : r = 3
  · subst h3; cases x <;> first | rfl | exact absurd rfl h
  by_cases h4 : r = 4
  · subst h4; cases x <;> first | rfl | exact absurd rfl h
  have e : chg s r = { s with fl := !s.fl } := by unfold chg; rw [if_neg h0, if_neg h1, if_neg h2, if_neg h3, if_neg h4]
  have e2 : chgF r = .f := by unfold chgF; rw [if_neg h0, if_neg h1, if_neg h2, if_neg h3, if_neg h4]
  rw [e2] at h
  rw [e]
  cases x <;> first | rfl | exact absurd rfl h
theorem fold_other {s : St} {r : Nat} : ∀ (l : List Fld) (n : St), chgF r ∉ l → l.foldl (setF (chg s r)) n = l.foldl (setF s) n
  | [], _, _ => rfl
  | x :: l, n, h => by
    simp only [List.mem_cons, not_or] at h
    show l.foldl (setF (chg s r)) (setF (chg s r) n x) = l.foldl (setF s) (setF s n x)
    rw [setF_other n (Ne.symm h.1)]
    exact fold_other l _ h.2
theorem chg_k (s : St) (r : Nat) : (chg s r).k = s.k := by unfold chg; split <;> try rfl
                                                           split <;> try rfl
                                                           split <;> try rfl
                                                           split <;> try rfl
                                                           split <;> rfl
theorem only_other {s : St} {r : Nat} (h : chgF r ∉ fieldsF s.k) : only (chg s r) = only s := by
  unfold only onlyL
  rw [chg_k]
  exact fold_other _ _ h
theorem only_yes {s : St} {r : Nat} (h : 1 ≤ s.k ∧ s.k ≤ 17) (hs : only s = s) (hx : hasK s.k (chgF r) = true) : only (chg s r) = chg s r := by
  rw [only_eq h] at hs
  rw [only_eq (by rw [chg_k]; exact h), chg_k]
  obtain ⟨k, t, nm, c, se, v, w, row, cols, fl⟩ := s
  dsimp only at hs h hx ⊢
  simp only [St.mk.injEq, true_and] at hs
  obtain ⟨a1, a2, a3, a4, a5, a6, a7, a8, a9⟩ := hs
  by_cases h0 : r = 0
  · subst h0; have hx' : hasK k .n = true := hx; simp [chg, a1, a3, a4, a5, a6, a7, a8, a9, hx']
  by_cases h1 : r = 1
  · subst h1; have hx' : hasK k .s = true := hx; simp [chg, a1, a2, a3, a5, a6, a7, a8, a9, hx']
  by_cases h2 : r = 2
  · subst h2; have hx' : hasK k .v = true := hx; simp [chg, a1, a2, a3, a4, a6, a7, a8, a9, hx']
  by_cases h3 : r = 3
  · subst h3; have hx' : hasK k .w = true := hx; simp [chg, a1, a2, a3, a4, a5, a7, a8, a9, hx']
  by_cases h4 : r = 4
  · subst h4; have hx' : hasK k .r = true := hx; simp [chg, a1, a2, a3, a4, a5, a6, a8, a9, hx']
  have e2 : chgF r = .f := by unfold chgF; rw [if_neg h0, if_neg h1, if_neg h2, if_neg h3, if_neg h4]
  rw [e2] at hx
  have e : ∀ s : St, chg s r = { s with fl := !s.fl } := fun s => by unfold chg; rw [if_neg h0, if_neg h1, if_neg h2, if_neg h3, if_neg h4]
  rw [e]
  simp [a1, a2, a3, a4, a5, a6, a7, a8, hx]
/-- Where the turned field is not of the kind, what is left has a form. -/
theorem others_good {s : St} {r : Nat} (hg : goodS s = true) (hn : eqSt (chg s r) (only (chg s r)) = false) : goodS (only (chg s r)) = true := by
  have hk := (goodS_all hg).1
  have hs : only s = s := by
    rw [goodS_eq] at hg
    unfold rgoodS at hg
    simp only [Bool.and_eq_true, eqSt_iff, decide_eq_true_eq] at hg
    exact hg.1.2.symm
  by_cases hx : hasK s.k (chgF r) = true
  · rw [only_yes hk hs hx, eqSt_iff] at hn
    simp at hn
  · rw [only_other (by
      intro h
      exact hx (List.contains_iff_mem.2 h)), hs]
    exact hg
theorem others_bad {x : St} (hn : eqSt x (only x) = false) : goodS x = false := by
  rw [goodS_eq]
  unfold rgoodS
  rw [hn]
  simp
theorem chg_flt {s : St} {r : Nat} (h : Flt s) : Flt (chg s r) := by
  obtain ⟨h1, h2, h3, h4⟩ := h
  unfold chg
  split
  · exact ⟨h1, h2, h3, h4⟩
  split
  · exact ⟨h1, h2, h3, h4⟩
  split
  · exact ⟨h1, h2, h3, h4⟩
  split
  · exact ⟨h1, h2, h3, h4⟩
  split
  · refine ⟨h1, h2, fun v hv => ?_, h4⟩
    simp only [List.mem_append, List.mem_singleton] at hv
    rcases hv with hv | rfl
    · exact h3 v hv
    · decide
  · exact ⟨h1, h2, h3, h4⟩
end Go.Proofs.Ytbmaeaknlpgdmaa
namespace Go.Proofs.Ytbmaeaknlpgdmaa
open Go.RowKit
set_option linter.unusedVariables false
set_option linter.unusedSimpArgs false
set_option linter.constructorNameAsVariable false
def CopyPost2 (s : St) (n m : Nat) (w : World) (e : Ending) (w' : World) : Prop :=
  ∃ A c A' c', e = .returned (s.agg (.slice A n c) (.slice A' m c')) ∧ RdV w' A n s.row ∧ RdC w' A' m s.cols ∧ Below w.heap.size w w' ∧ Own Vl.cs 4 24 w' w.heap.size (.slice A n c) s.row ∧ ∀ g, (Value.slice A n c).ownBlock = some g → (Value.slice A' m c').ownBlock ≠ some g
set_option maxRecDepth 100000 in
set_option maxHeartbeats 4000000 in
theorem copySt2 (s : St) (A A' : Option Addr) (n c m d : Nat) (w : World) (hr : RdV w A n s.row) (hc : RdC w A' m s.cols) (hn : n ≤ 50) (hm : m ≤ 50) :
    Calls Try.prog 10 #[s.agg (.slice A n c) (.slice A' m d)] w (CopyPost2 s n m w) := by
  have HR := Lib.hid hr
  have HC := Lib.hid hc
  clear hr hc
  go_enter Try.func10, Try.ntmps10
  have hW : Below w.heap.size w ((w.alloc (.cells #[.int .i64 s.k, .string s.t, .string s.nm, .string s.c, .string s.se, .int .i64 s.v.k, .int .i64 s.v.n, .float .f64 s.v.f, .string s.v.s, .int .i64 s.w.k, .int .i64 s.w.n, .float .f64 s.w.f, .string s.w.s, .slice A n c, .slice A' m d, .bool s.fl] 28)).alloc (.cells #[.int .i64 0, .string ⟨#[]⟩, .string ⟨#[]⟩, .string ⟨#[]⟩, .string ⟨#[]⟩, .int .i64 0, .int .i64 0, .float .f64 0, .string ⟨#[]⟩, .int .i64 0, .int .i64 0, .float .f64 0, .string ⟨#[]⟩, .slice none 0 0, .slice none 0 0, .bool false] 28)) := by (repeat (first | assumption | exact Below.refl _ _ | refine bl_drewN ?_ _ | refine bl_drew ?_ | refine bl_alloc ?_ _ | refine bl_step ?_ (by assumption)))
  have P0 : ((w.alloc (.cells #[.int .i64 s.k, .string s.t, .string s.nm, .string s.c, .string s.se, .int .i64 s.v.k, .int .i64 s.v.n, .float .f64 s.v.f, .string s.v.s, .int .i64 s.w.k, .int .i64 s.w.n, .float .f64 s.w.f, .string s.w.s, .slice A n c, .slice A' m d, .bool s.fl] 28)).alloc (.cells #[.int .i64 0, .string ⟨#[]⟩, .string ⟨#[]⟩, .string ⟨#[]⟩, .string ⟨#[]⟩, .int .i64 0, .int .i64 0, .float .f64 0, .string ⟨#[]⟩, .int .i64 0, .int .i64 0, .float .f64 0, .string ⟨#[]⟩, .slice none 0 0, .slice none 0 0, .bool false] 28)).heap[w.heap.size]? = some (.cells #[.int .i64 s.k, .string s.t, .string s.nm, .string s.c, .string s.se, .int .i64 s.v.k, .int .i64 s.v.n, .float .f64 s.v.f, .string s.v.s, .int .i64 s.w.k, .int .i64 s.w.n, .float .f64 s.w.f, .string s.w.s, .slice A n c, .slice A' m d, .bool s.fl] 28 (0, 0)) := blk_old (blk_new w _) _
  have P1 : ((w.alloc (.cells #[.int .i64 s.k, .string s.t, .string s.nm, .string s.c, .string s.se, .int .i64 s.v.k, .int .i64 s.v.n, .float .f64 s.v.f, .string s.v.s, .int .i64 s.w.k, .int .i64 s.w.n, .float .f64 s.w.f, .string s.w.s, .slice A n c, .slice A' m d, .bool s.fl] 28)).alloc (.cells #[.int .i64 0, .string ⟨#[]⟩, .string ⟨#[]⟩, .string ⟨#[]⟩, .string ⟨#[]⟩, .int .i64 0, .int .i64 0, .float .f64 0, .string ⟨#[]⟩, .int .i64 0, .int .i64 0, .float .f64 0, .string ⟨#[]⟩, .slice none 0 0, .slice none 0 0, .bool false] 28)).heap[w.heap.size + 1]? = some (.cells #[.int .i64 0, .string ⟨#[]⟩, .string ⟨#[]⟩, .string ⟨#[]⟩, .string ⟨#[]⟩, .int .i64 0, .int .i64 0, .float .f64 0, .string ⟨#[]⟩, .int .i64 0, .int .i64 0, .float .f64 0, .string ⟨#[]⟩, .slice none 0 0, .slice none 0 0, .bool false] 28 (0, 0)) := by
    have h := blk_new (w.alloc (.cells #[.int .i64 s.k, .string s.t, .string s.nm, .string s.c, .string s.se, .int .i64 s.v.k, .int .i64 s.v.n, .float .f64 s.v.f, .string s.v.s, .int .i64 s.w.k, .int .i64 s.w.n, .float .f64 s.w.f, .string s.w.s, .slice A n c, .slice A' m d, .bool s.fl] 28)) (.cells #[.int .i64 0, .string ⟨#[]⟩, .string ⟨#[]⟩, .string ⟨#[]⟩, .string ⟨#[]⟩, .int .i64 0, .int .i64 0, .float .f64 0, .string ⟨#[]⟩, .int .i64 0, .int .i64 0, .float .f64 0, .string ⟨#[]⟩, .slice none 0 0, .slice none 0 0, .bool false] 28)
    rwa [show (w.alloc (.cells #[.int .i64 s.k, .string s.t, .string s.nm, .string s.c, .string s.se, .int .i64 s.v.k, .int .i64 s.v.n, .float .f64 s.v.f, .string s.v.s, .int .i64 s.w.k, .int .i64 s.w.n, .float .f64 s.w.f, .string s.w.s, .slice A n c, .slice A' m d, .bool s.fl] 28)).heap.size = w.heap.size + 1 by simp] at h
  have Q0 := Lib.hid P0
  have Q1 := Lib.hid P1
  clear P0 P1
  go_wp2_with (at_builtin; go_loud (refine wp_app (cs := Vl.cs) (size := 4) vl_len (by omega) vl_one rfl (.tmp 3) (.tmp 5) _ rfl (w.heap.size + 2) 24 _ 40 Try.uVals Try.iVal rfl (.slice (some ⟨w.heap.size + 2, 0, none⟩) 0 0) [] rfl ?_ A n c s.row rfl (HR.out.keep (bl_alloc hW _)) (by simp <;> omega) (by simp <;> omega) (by simp) ?_))
  · exact own_empty (by simp) (by simp)
  intro A1 c1 w1 hown1 hg1 hat1
  have hz1 : w.heap.size + 1 < w1.heap.size := by have := hg1.size; simp at this; omega
  have hz1' : w.heap.size < w1.heap.size := by omega
  have B0 := blk_grown (blk_old Q0.out _) hg1 (by simp [Value.ownBlock] <;> omega)
  have B1 := blk_grown (blk_old Q1.out _) hg1 (by simp [Value.ownBlock] <;> omega)
  have hb1 : Below w.heap.size w w1 := below_own (bl_alloc hW _) hg1 (fun k hk => by simp [Value.ownBlock] at hk; omega)
  obtain ⟨k0, f0⟩ := blk_rules B0
  obtain ⟨k1, f1⟩ := blk_rules B1
  have hne1 : (Value.slice A1 n c1).ownBlock ≠ some w.heap.size := by
    rcases hat1 with h | h <;> rw [h] <;> simp [Value.ownBlock] <;> omega
  have hbs : Below w.heap.size w (w1.setCell ⟨w.heap.size, 13, none⟩ (.slice A1 n c1)) := bl_set hb1 (Nat.le_refl _) _
  have hown2 : Own Vl.cs 4 24 (w1.setCell ⟨w.heap.size, 13, none⟩ (.slice A1 n c1)) (w.heap.size + 2) (.slice A1 n c1) s.row := hown1.set_ (p := ⟨w.heap.size, 13, none⟩) hne1 _
  have hsz2 : (w1.setCell ⟨w.heap.size, 13, none⟩ (.slice A1 n c1)).heap.size = w1.heap.size := by simp [World.setCell]
  have C0 : (w1.setCell ⟨w.heap.size, 13, none⟩ (.slice A1 n c1)).heap[w.heap.size]? = some (.cells #[.int .i64 s.k, .string s.t, .string s.nm, .string s.c, .string s.se, .int .i64 s.v.k, .int .i64 s.v.n, .float .f64 s.v.f, .string s.v.s, .int .i64 s.w.k, .int .i64 s.w.n, .float .f64 s.w.f, .string s.w.s, .slice A1 n c1, .slice A' m d, .bool s.fl] 28 (0, 0)) := blk_set B0 13 _
  have C1 : (w1.setCell ⟨w.heap.size, 13, none⟩ (.slice A1 n c1)).heap[w.heap.size + 1]? = some (.cells #[.int .i64 0, .string ⟨#[]⟩, .string ⟨#[]⟩, .string ⟨#[]⟩, .string ⟨#[]⟩, .int .i64 0, .int .i64 0, .float .f64 0, .string ⟨#[]⟩, .int .i64 0, .int .i64 0, .float .f64 0, .string ⟨#[]⟩, .slice none 0 0, .slice none 0 0, .bool false] 28 (0, 0)) := blk_far B1 (by simp) _
  have D0 := Lib.hid C0
  have D1 := Lib.hid C1
  have K0 := Lib.hid hsz2
  have K1 := Lib.hid hat1
  have K2 := Lib.hid hown2
  clear B0 B1 C0 C1 hsz2 hat1 hown1 hown2 hg1
  go_wp2_with (at_builtin; go_loud (refine wp_app (cs := Cl.cs) (size := 7) cl_len (by omega) cl_one rfl (.tmp 8) (.tmp 10) _ rfl (w.heap.size + 2) 80 _ 72 Try.uCols Try.iCol rfl (.slice (some ⟨w1.heap.size, 0, none⟩) 0 0) [] rfl ?_ A' m d s.cols rfl (HC.out.keep (bl_alloc hbs _)) (by simp <;> omega) (by simp <;> omega) (by simp <;> omega) ?_))
  · exact own_empty K0.out (by have := K0.out; omega)
  intro A2 c2 w2 hown3 hg2 hat2
  have hz2 : w.heap.size + 1 < w2.heap.size := by have := hg2.size; simp at this; omega
  have hz2' : w.heap.size < w2.heap.size := by omega
  have B0 := blk_grown (blk_old D0.out _) hg2 (by simp [Value.ownBlock] <;> omega)
  have B1 := blk_grown (blk_old D1.out _) hg2 (by simp [Value.ownBlock] <;> omega)
  have hb2 : Below w.heap.size w w2 := below_own (bl_alloc hbs _) hg2 (fun k hk => by simp [Value.ownBlock] at hk; omega)
  have hown4 : Own Vl.cs 4 24 w2 (w.heap.size + 2) (.slice A1 n c1) s.row := (K2.out.alloc_ _).grown hg2 (.inr (by
      intro h
      have := (K2.out.lt w1.heap.size h).2
      have := K0.out
      omega))
  have hneA : ∀ b, b < w.heap.size + 2 → (Value.slice A1 n c1).ownBlock ≠ some b := by
    intro b hb h
    have := (K2.out.lt b h).1
    omega
  have hneB : ∀ b, b < w.heap.size + 2 → (Value.slice A2 m c2).ownBlock ≠ some b := by
    intro b hb h
    have := (hown3.lt b h).1
    omega
  obtain ⟨m0, g0⟩ := blk_rules B0
  obtain ⟨m1, g1⟩ := blk_rules B1
  have M1 := Lib.hid B1
  have s14 := World.cell?_setCell_same w2 ⟨w.heap.size, 14, none⟩ (.slice A2 m c2) (u := .slice A' m d) (by rw [m0]; rfl)
  have KA := Lib.hid hneA
  have KB := Lib.hid hneB
  have OA := Lib.hid hown4
  have OB := Lib.hid hown3
  have hdis : ∀ g, (Value.slice A1 n c1).ownBlock = some g → (Value.slice A2 m c2).ownBlock ≠ some g := by
    intro g h h2
    have h4 := (K2.out.lt g h).2
    rcases hat2 with h3 | h3 <;> rw [h3] at h2 <;> simp [Value.ownBlock] at h2 <;> have := K0.out <;> omega
  have HDIS := Lib.hid hdis
  clear hdis
  clear hneA hneB hown4 hown3 hg2 hat2 B0 B1 hbs hb1 hW k0 k1 f0 f1 hz1 hz1' hne1
  go_wp2
  refine bodyPost_ret (results_blk (T := 28) (b := w.heap.size + 1) rfl (fun _ => by kernel_rfl) (fun _ => by kernel_rfl) _ rfl ?_) rfl ⟨A1, c1, A2, c2, rfl, ?_, ?_, ?_, ?_, HDIS.out⟩
  · have hm1 := M1.out
    simp [World.setCell, Array.getElem?_modify, hm1]
  · refine own_rd (c := c1) (e := 24) (base := w.heap.size + 2) vl_len ?_
    iterate 17 refine Own.set_ ?_ (KA.out _ (by simp)) _
    exact OA.out
  · refine own_rd (c := c2) (e := 80) (base := w.heap.size + 2) cl_len ?_
    iterate 17 refine Own.set_ ?_ (KB.out _ (by simp)) _
    exact OB.out
  · iterate 17 refine bl_set ?_ (by simp) _
    exact hb2
  · refine Own.lower (base := w.heap.size + 2) ?_ (by omega)
    iterate 17 refine Own.set_ ?_ (KA.out _ (by simp)) _
    exact OA.out
theorem Rd.grown {α : Type} {cs : α → List Value} {size : Nat} {w w' : World} {A : Option Addr} {n : Nat} {xs : List α} (h : Rd cs size w A n xs) {row : Option Nat} (hg : w.grownBy w' row) (hne : ∀ p, A = some p → some p.block ≠ row) : Rd cs size w' A n xs :=
  ⟨h.1, h.2.1, fun hn => by
    obtain ⟨b, o, e, hc⟩ := h.2.2 hn
    refine ⟨b, o, e, fun i x hx j u hu => ?_⟩
    have h1 := hc i x hx j u hu
    rw [World.cell?_of_block (w := w) (hg.block b (World.block_lt_of_cell? w _ h1) (hne _ e))]
    exact h1⟩
end Go.Proofs.Ytbmaeaknlpgdmaa
namespace Go.Proofs.Ytbmaeaknlpgdmaa
open Go.RowKit
set_option linter.unusedVariables false
theorem wpl_load16g {ops : Array Oper} {rest : List Oper} {o : Oper} {a : Act} {w : World} {Q : Exit → Act → World → Prop} (hw : Region.wanted o (yielded ops a.tmps) = true) (x : Operand) (ho : o.op = .load 28 x) (b : Nat) {T : TypeId} {cs : Array Value}
    (hx : a.eval x = .pointer (some ⟨b, 0, none⟩)) (hs : cs.size = 16) (hb : w.heap[b]? = some (.cells cs T (0, 0))) (h : wpList Try.prog ops Q rest (a.put o.dst (.agg cs)) w) : wpList Try.prog ops Q (o :: rest) a w :=
  wpList_step fun K hK => by
    rw [if_pos hw]
    unfold Oper.wp
    rw [exec_load16 x b ho hx hs hb]
    exact hK _ _ h
end Go.Proofs.Ytbmaeaknlpgdmaa
