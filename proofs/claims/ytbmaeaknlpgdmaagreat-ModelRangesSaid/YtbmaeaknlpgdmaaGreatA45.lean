/- What the frame of a row tells of a list of int8 and of three of them. -/
import Derived.Test.YtbmaeaknlpgdmaaGreatA32
import Derived.Test.YtbmaeaknlpgdmaaGreatA44
import Derived.Laws.IdiomArrays
namespace Go.Proofs.YtbmaeaknlpgdmaaGreat
open Go.RowKit Go.ChangeShapes Go.WideShapes Go.Deep Go.ChangeAt
set_option linter.unusedVariables false
set_option linter.unusedSimpArgs false
section
variable {H : Type} {enc : TypeId × Value → H} {w : World} {base : Nat} {spare : Nat → Bool} {held : Bool}
theorem trod_i8 {fuel : Nat} {cs : List Value} {x : DataW H × List MemPlace} (h : DataW.trod enc Tryz.prog w base spare held fuel 23 cs = some x) : ∃ n, cs = I8.cs n ∧ (-128 ≤ n ∧ n ≤ 127) := by
  obtain ⟨n, f, _, wf⟩ := DataW.trod_int Tryz.underlying23 h
  exact ⟨n, f, bounds_i8 wf⟩
end
set_option maxRecDepth 100000 in
theorem open_i8s {H : Type} {enc : TypeId × Value → H} {W : World} {base : Nat} {spare : Nat → Bool} {held : Bool} {r : Reach} {b0 : Nat} {v : Value} {d : DataW H} {p : List MemPlace} (hv : Value.okWide Tryz.prog W r b0 22 v)
    (h : DataW.Trod enc Tryz.prog W base spare held 22 v d p) : ∃ (A : Option Addr) (n c : Nat) (xs : List Int), v = .slice A n c ∧ Rd8 W A n xs ∧ ∀ x ∈ xs, -128 ≤ x ∧ x ≤ 127 := by
  obtain ⟨a, l, c, rfl⟩ := okWide_slice Tryz.underlying22 hv
  obtain ⟨fuel, hf⟩ := h
  obtain ⟨A, n, c', xs, e, hr, hg⟩ := open_rd (csf := I8.cs) (size := 1) (good := fun x => -128 ≤ x ∧ x ≤ 127) Tryz.underlying22 (by kernel_rfl) (by decide) (fun _ _ _ h => trod_i8 h) hf
  have e' : (Value.slice a l c) = .slice A n c' := by
    have : [Value.slice a l c] = [.slice A n c'] := e
    simpa using this
  exact ⟨A, n, c', xs, e', hr, hg⟩
set_option maxRecDepth 100000 in
theorem open_i8x3 {H : Type} {enc : TypeId × Value → H} {W : World} {base : Nat} {spare : Nat → Bool} {held : Bool} {r : Reach} {b0 : Nat} {v : Value} {d : DataW H} {p : List MemPlace} (hv : Value.okWide Tryz.prog W r b0 24 v)
    (h : DataW.Trod enc Tryz.prog W base spare held 24 v d p) : ∃ n0 n1 n2 : Int, v = .agg #[.int .i8 n0, .int .i8 n1, .int .i8 n2] ∧ (-128 ≤ n0 ∧ n0 ≤ 127) ∧ (-128 ≤ n1 ∧ n1 ≤ 127) ∧ (-128 ≤ n2 ∧ n2 ≤ 127) := by
  have ht := Tryz.underlying24
  simp only [Value.okWide, ht] at hv
  obtain ⟨cs, rfl, hsz, _⟩ := hv
  rw [show Program.cellsOf Tryz.prog 24 = 3 by kernel_rfl] at hsz
  obtain ⟨fuel, hf⟩ := h
  obtain ⟨l⟩ := cs
  match l, hsz with
  | [c0, c1, c2], _ =>
    obtain ⟨y0, y1, y2, n, _, h0, h1, h2⟩ := trod_array3 ht (by kernel_rfl) hf
    obtain ⟨n0, e0, g0⟩ := trod_i8 h0
    obtain ⟨n1, e1, g1⟩ := trod_i8 h1
    obtain ⟨n2, e2, g2⟩ := trod_i8 h2
    injection e0 with e0
    injection e1 with e1
    injection e2 with e2
    subst e0 e1 e2
    exact ⟨n0, n1, n2, rfl, g0, g1, g2⟩
end Go.Proofs.YtbmaeaknlpgdmaaGreat
