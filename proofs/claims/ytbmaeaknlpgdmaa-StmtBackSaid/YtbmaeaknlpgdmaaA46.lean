/- What the frame of a row tells of an argument: its numbers fit, too. -/
import Derived.Test.YtbmaeaknlpgdmaaA38
import Derived.Test.YtbmaeaknlpgdmaaA44
import Derived.Test.YtbmaeaknlpgdmaaA08
import Derived.ProofKit
import Derived.OpenShut
import Derived.ShutString
import Derived.ChangeOld
import Derived.Below
import Derived.Deep.Slices
import Derived.Laws.Cover2
namespace Go.Proofs.Ytbmaeaknlpgdmaa
open Go.RowKit Go.ChangeShapes Go.WideShapes Go.Deep
set_option linter.unusedVariables false
set_option linter.unusedSimpArgs false
set_option linter.constructorNameAsVariable false
section
variable {H : Type} {enc : TypeId × Value → H} {w : World} {base : Nat} {spare : Nat → Bool} {held : Bool}
theorem wf_i64 {n : Int} (h : (Lit.int .i64 n).wf = true) : -9223372036854775808 ≤ n ∧ n ≤ 9223372036854775807 := by
  simp [Lit.wf, IntKind.min, IntKind.max, IntKind.signed, IntKind.bits] at h
  omega
set_option maxRecDepth 100000 in
theorem trod_vl2 {fuel : Nat} {cs : List Value} {x : DataW H × List MemPlace} (h : DataW.trod enc Try.prog w base spare held fuel 24 cs = some x) : ∃ v : Vl, cs = v.cs ∧ NumOK v := by
  obtain ⟨xs, n, _, _, hl, hx, hf⟩ := DataW.trod_struct Try.underlying24 h
  rw [show Program.cellsOf Try.prog 24 = 4 by kernel_rfl] at hl
  obtain ⟨y0, e0⟩ := some_of_len hx (i := 0) (by decide)
  obtain ⟨y1, e1⟩ := some_of_len hx (i := 1) (by decide)
  obtain ⟨y2, e2⟩ := some_of_len hx (i := 2) (by decide)
  obtain ⟨y3, e3⟩ := some_of_len hx (i := 3) (by decide)
  have h0 : DataW.trod enc Try.prog w base spare held n 3 ((cs.drop 0).take (Program.cellsOf Try.prog 3)) = some y0 := (hf 0 _ rfl).trans e0
  have h1 : DataW.trod enc Try.prog w base spare held n 2 ((cs.drop 1).take (Program.cellsOf Try.prog 2)) = some y1 := (hf 1 _ rfl).trans e1
  have h2 : DataW.trod enc Try.prog w base spare held n 22 ((cs.drop 2).take (Program.cellsOf Try.prog 22)) = some y2 := (hf 2 _ rfl).trans e2
  have h3 : DataW.trod enc Try.prog w base spare held n 9 ((cs.drop 3).take (Program.cellsOf Try.prog 9)) = some y3 := (hf 3 _ rfl).trans e3
  clear hf e0 e1 e2 e3
  obtain ⟨a0, f0, _, _⟩ := DataW.trod_int Try.underlying3 h0
  obtain ⟨a1, f1, _, wn⟩ := DataW.trod_int Try.underlying2 h1
  obtain ⟨a2, f2, wf⟩ := trod_flt Try.underlying22 h2
  obtain ⟨a3, f3, _, _⟩ := DataW.trod_string Try.underlying9 h3
  rw [show Program.cellsOf Try.prog 3 = 1 by kernel_rfl] at f0
  rw [show Program.cellsOf Try.prog 2 = 1 by kernel_rfl] at f1
  rw [show Program.cellsOf Try.prog 22 = 1 by kernel_rfl] at f2
  rw [show Program.cellsOf Try.prog 9 = 1 by kernel_rfl] at f3
  match cs, hl with
  | [c0, c1, c2, c3], _ =>
    simp at f0 f1 f2 f3
    subst f0 f1 f2 f3
    exact ⟨⟨a0, a1, a2, a3⟩, rfl, wf_f64 wf, wf_i64 wn⟩

set_option maxRecDepth 100000 in
theorem trod_cl2 {fuel : Nat} {cs : List Value} {x : DataW H × List MemPlace} (h : DataW.trod enc Try.prog w base spare held fuel 80 cs = some x) : ∃ v : Cl, cs = v.cs ∧ NumOK v.d := by
  obtain ⟨xs, n, _, _, hl, hx, hf⟩ := DataW.trod_struct Try.underlying80 h
  rw [show Program.cellsOf Try.prog 80 = 7 by kernel_rfl] at hl
  obtain ⟨y0, e0⟩ := some_of_len hx (i := 0) (by decide)
  obtain ⟨y1, e1⟩ := some_of_len hx (i := 1) (by decide)
  obtain ⟨y2, e2⟩ := some_of_len hx (i := 2) (by decide)
  obtain ⟨y3, e3⟩ := some_of_len hx (i := 3) (by decide)
  have h0 : DataW.trod enc Try.prog w base spare held n 9 ((cs.drop 0).take (Program.cellsOf Try.prog 9)) = some y0 := (hf 0 _ rfl).trans e0
  have h1 : DataW.trod enc Try.prog w base spare held n 3 ((cs.drop 1).take (Program.cellsOf Try.prog 3)) = some y1 := (hf 1 _ rfl).trans e1
  have h2 : DataW.trod enc Try.prog w base spare held n 4 ((cs.drop 2).take (Program.cellsOf Try.prog 4)) = some y2 := (hf 2 _ rfl).trans e2
  have h3 : DataW.trod enc Try.prog w base spare held n 24 ((cs.drop 3).take (Program.cellsOf Try.prog 24)) = some y3 := (hf 3 _ rfl).trans e3
  clear hf e0 e1 e2 e3
  obtain ⟨a0, f0, _, _⟩ := DataW.trod_string Try.underlying9 h0
  obtain ⟨a1, f1, _, _⟩ := DataW.trod_int Try.underlying3 h1
  obtain ⟨a2, f2, _⟩ := DataW.trod_bool Try.underlying4 h2
  obtain ⟨a3, f3, wf⟩ := trod_vl2 h3
  rw [show Program.cellsOf Try.prog 9 = 1 by kernel_rfl] at f0
  rw [show Program.cellsOf Try.prog 3 = 1 by kernel_rfl] at f1
  rw [show Program.cellsOf Try.prog 4 = 1 by kernel_rfl] at f2
  rw [show Program.cellsOf Try.prog 24 = 4 by kernel_rfl] at f3
  match cs, hl with
  | [c0, c1, c2, c3, c4, c5, c6], _ =>
    simp at f0 f1 f2 f3
    subst f0 f1 f2
    obtain ⟨rfl, rfl, rfl, rfl⟩ := f3
    exact ⟨⟨a0, a1, a2, a3⟩, rfl, wf⟩

/-- What is known of a statement that came in. -/
def InSt2 (s : St) (A A' : Option Addr) (n m : Nat) (w : World) : Prop := RdV w A n s.row ∧ RdC w A' m s.cols ∧ Flt s ∧ NumS s

set_option maxRecDepth 100000 in
theorem trod_st2 {fuel : Nat} {cs : List Value} {x : DataW H × List MemPlace} (h : DataW.trod enc Try.prog w base spare held fuel 28 cs = some x) :
    ∃ (s : St) (A A' : Option Addr) (n c m d : Nat), cs = (s.agg (.slice A n c) (.slice A' m d)).cells.toList ∧ InSt2 s A A' n m w := by
  obtain ⟨xs, n, _, _, hl, hx, hf⟩ := DataW.trod_struct Try.underlying28 h
  rw [show Program.cellsOf Try.prog 28 = 16 by kernel_rfl] at hl
  obtain ⟨y0, e0⟩ := some_of_len hx (i := 0) (by decide)
  obtain ⟨y1, e1⟩ := some_of_len hx (i := 1) (by decide)
  obtain ⟨y2, e2⟩ := some_of_len hx (i := 2) (by decide)
  obtain ⟨y3, e3⟩ := some_of_len hx (i := 3) (by decide)
  obtain ⟨y4, e4⟩ := some_of_len hx (i := 4) (by decide)
  obtain ⟨y5, e5⟩ := some_of_len hx (i := 5) (by decide)
  obtain ⟨y6, e6⟩ := some_of_len hx (i := 6) (by decide)
  obtain ⟨y7, e7⟩ := some_of_len hx (i := 7) (by decide)
  obtain ⟨y8, e8⟩ := some_of_len hx (i := 8) (by decide)
  obtain ⟨y9, e9⟩ := some_of_len hx (i := 9) (by decide)
  have h0 : DataW.trod enc Try.prog w base spare held n 3 ((cs.drop 0).take (Program.cellsOf Try.prog 3)) = some y0 := (hf 0 _ rfl).trans e0
  have h1 : DataW.trod enc Try.prog w base spare held n 9 ((cs.drop 1).take (Program.cellsOf Try.prog 9)) = some y1 := (hf 1 _ rfl).trans e1
  have h2 : DataW.trod enc Try.prog w base spare held n 9 ((cs.drop 2).take (Program.cellsOf Try.prog 9)) = some y2 := (hf 2 _ rfl).trans e2
  have h3 : DataW.trod enc Try.prog w base spare held n 9 ((cs.drop 3).take (Program.cellsOf Try.prog 9)) = some y3 := (hf 3 _ rfl).trans e3
  have h4 : DataW.trod enc Try.prog w base spare held n 9 ((cs.drop 4).take (Program.cellsOf Try.prog 9)) = some y4 := (hf 4 _ rfl).trans e4
  have h5 : DataW.trod enc Try.prog w base spare held n 24 ((cs.drop 5).take (Program.cellsOf Try.prog 24)) = some y5 := (hf 5 _ rfl).trans e5
  have h6 : DataW.trod enc Try.prog w base spare held n 24 ((cs.drop 9).take (Program.cellsOf Try.prog 24)) = some y6 := (hf 6 _ rfl).trans e6
  have h7 : DataW.trod enc Try.prog w base spare held n 25 ((cs.drop 13).take (Program.cellsOf Try.prog 25)) = some y7 := (hf 7 _ rfl).trans e7
  have h8 : DataW.trod enc Try.prog w base spare held n 26 ((cs.drop 14).take (Program.cellsOf Try.prog 26)) = some y8 := (hf 8 _ rfl).trans e8
  have h9 : DataW.trod enc Try.prog w base spare held n 4 ((cs.drop 15).take (Program.cellsOf Try.prog 4)) = some y9 := (hf 9 _ rfl).trans e9
  clear hf e0 e1 e2 e3 e4 e5 e6 e7 e8 e9
  obtain ⟨a0, f0, _, _⟩ := DataW.trod_int Try.underlying3 h0
  obtain ⟨a1, f1, _, _⟩ := DataW.trod_string Try.underlying9 h1
  obtain ⟨a2, f2, _, _⟩ := DataW.trod_string Try.underlying9 h2
  obtain ⟨a3, f3, _, _⟩ := DataW.trod_string Try.underlying9 h3
  obtain ⟨a4, f4, _, _⟩ := DataW.trod_string Try.underlying9 h4
  obtain ⟨a5, f5, w5⟩ := trod_vl2 h5
  obtain ⟨a6, f6, w6⟩ := trod_vl2 h6
  obtain ⟨A, n7, c7, a7, f7, r7, w7⟩ := open_rd (csf := Vl.cs) (size := 4) (good := NumOK) Try.uVals (by kernel_rfl) (by decide) (fun _ _ _ h => trod_vl2 h) h7
  obtain ⟨A', n8, c8, a8, f8, r8, w8⟩ := open_rd (csf := Cl.cs) (size := 7) (good := fun c => NumOK c.d) Try.uCols (by kernel_rfl) (by decide) (fun _ _ _ h => trod_cl2 h) h8
  obtain ⟨a9, f9, _⟩ := DataW.trod_bool Try.underlying4 h9
  rw [show Program.cellsOf Try.prog 9 = 1 by kernel_rfl] at f1 f2 f3 f4
  rw [show Program.cellsOf Try.prog 3 = 1 by kernel_rfl] at f0
  rw [show Program.cellsOf Try.prog 4 = 1 by kernel_rfl] at f9
  rw [show Program.cellsOf Try.prog 24 = 4 by kernel_rfl] at f5 f6
  rw [show Program.cellsOf Try.prog 25 = 1 by kernel_rfl] at f7
  rw [show Program.cellsOf Try.prog 26 = 1 by kernel_rfl] at f8
  match cs, hl with
  | [c0, c1, c2, c3, c4, c5, c6, c7', c8', c9, c10, c11, c12, c13, c14, c15], _ =>
    simp at f0 f1 f2 f3 f4 f5 f6 f7 f8 f9
    subst f0 f1 f2 f3 f4 f7 f8 f9
    obtain ⟨rfl, rfl, rfl, rfl⟩ := f5
    obtain ⟨rfl, rfl, rfl, rfl⟩ := f6
    exact ⟨⟨a0, a1, a2, a3, a4, a5, a6, a7, a8, a9⟩, A, A', n7, c7, n8, c8, rfl, r7, r8, ⟨w5.1, w6.1, fun v hv => (w7 v hv).1, fun c hc => (w8 c hc).1⟩, w5, w6, w7, w8⟩
end
set_option maxRecDepth 100000 in
/-- A statement that came in. -/
theorem open_st2 {H : Type} {enc : TypeId × Value → H} {W : World} {base : Nat} {spare : Nat → Bool} {held : Bool} {r : Reach} {b0 : Nat} {v : Value} {d : DataW H} {p : List MemPlace} (hv : Value.okWide Try.prog W r b0 28 v)
    (h : DataW.Trod enc Try.prog W base spare held 28 v d p) : ∃ (s : St) (A A' : Option Addr) (n c m d : Nat), v = s.agg (.slice A n c) (.slice A' m d) ∧ InSt2 s A A' n m W := by
  obtain ⟨cs, rfl, _⟩ := okWide_struct Try.underlying28 hv
  obtain ⟨fuel, hf⟩ := h
  obtain ⟨s, A, A', n, c, m, d, e, hi⟩ := trod_st2 hf
  refine ⟨s, A, A', n, c, m, d, ?_, hi⟩
  have : cs.toList = (Value.cells (s.agg (.slice A n c) (.slice A' m d))).toList := e
  rw [Array.toList_inj.1 this]
  rfl
end Go.Proofs.Ytbmaeaknlpgdmaa
