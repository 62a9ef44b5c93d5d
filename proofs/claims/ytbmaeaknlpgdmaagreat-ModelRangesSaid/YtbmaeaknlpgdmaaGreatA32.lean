/- What the frame of a row tells of an argument: a value, a column, a statement as plain data. -/
import Derived.Test.YtbmaeaknlpgdmaaGreatA17
import Derived.Test.YtbmaeaknlpgdmaaGreatA06
import Derived.ProofKit
import Derived.OpenShut
import Derived.ShutString
import Derived.ChangeOld
import Derived.Below
import Derived.Deep.Slices
import Derived.Laws.Cover2
namespace Go.Proofs.YtbmaeaknlpgdmaaGreat
open Go.RowKit Go.ChangeShapes Go.WideShapes Go.Deep
set_option linter.unusedVariables false
set_option linter.unusedSimpArgs false
set_option linter.constructorNameAsVariable false
/-- Every float's bits are 64. -/
def Flt (s : St) : Prop := s.v.f < 18446744073709551616 ∧ s.w.f < 18446744073709551616 ∧ (∀ v ∈ s.row, v.f < 18446744073709551616) ∧ ∀ c ∈ s.cols, c.d.f < 18446744073709551616
section
variable {H : Type} {enc : TypeId × Value → H} {w : World} {base : Nat} {spare : Nat → Bool} {held : Bool}
theorem trod_flt {P : Program} {t : TypeId} {fuel : Nat} {cs : List Value} {x : DataW H × List MemPlace} {k : FloatKind} (ht : P.underlying t = some (.float k)) (h : DataW.trod enc P w base spare held fuel t cs = some x) : ∃ n, cs = [.float k n] ∧ (Lit.float k n).wf = true := by
  cases fuel with
  | zero => simp [DataW.trod] at h
  | succ n =>
    unfold DataW.trod at h
    rw [ht] at h
    split at h <;> simp_all
theorem wf_f64 {n : Nat} (h : (Lit.float .f64 n).wf = true) : n < 18446744073709551616 := by
  simpa [Lit.wf] using h
theorem some_of_len {α : Type} {xs : List α} {n i : Nat} (h : xs.length = n) (hi : i < n) : ∃ y, xs[i]? = some y := ⟨xs[i]'(by omega), List.getElem?_eq_getElem _⟩

set_option maxRecDepth 100000 in
theorem trod_vl {fuel : Nat} {cs : List Value} {x : DataW H × List MemPlace} (h : DataW.trod enc Tryz.prog w base spare held fuel 33 cs = some x) : ∃ v : Vl, cs = v.cs ∧ v.f < 18446744073709551616 := by
  obtain ⟨xs, n, _, _, hl, hx, hf⟩ := DataW.trod_struct Tryz.underlying33 h
  rw [show Program.cellsOf Tryz.prog 33 = 4 by kernel_rfl] at hl
  obtain ⟨y0, e0⟩ := some_of_len hx (i := 0) (by decide)
  obtain ⟨y1, e1⟩ := some_of_len hx (i := 1) (by decide)
  obtain ⟨y2, e2⟩ := some_of_len hx (i := 2) (by decide)
  obtain ⟨y3, e3⟩ := some_of_len hx (i := 3) (by decide)
  have h0 : DataW.trod enc Tryz.prog w base spare held n 3 ((cs.drop 0).take (Program.cellsOf Tryz.prog 3)) = some y0 := (hf 0 _ rfl).trans e0
  have h1 : DataW.trod enc Tryz.prog w base spare held n 2 ((cs.drop 1).take (Program.cellsOf Tryz.prog 2)) = some y1 := (hf 1 _ rfl).trans e1
  have h2 : DataW.trod enc Tryz.prog w base spare held n 31 ((cs.drop 2).take (Program.cellsOf Tryz.prog 31)) = some y2 := (hf 2 _ rfl).trans e2
  have h3 : DataW.trod enc Tryz.prog w base spare held n 9 ((cs.drop 3).take (Program.cellsOf Tryz.prog 9)) = some y3 := (hf 3 _ rfl).trans e3
  clear hf e0 e1 e2 e3
  obtain ⟨a0, f0, _, _⟩ := DataW.trod_int Tryz.underlying3 h0
  obtain ⟨a1, f1, _, _⟩ := DataW.trod_int Tryz.underlying2 h1
  obtain ⟨a2, f2, wf⟩ := trod_flt Tryz.underlying31 h2
  obtain ⟨a3, f3, _, _⟩ := DataW.trod_string Tryz.underlying9 h3
  rw [show Program.cellsOf Tryz.prog 3 = 1 by kernel_rfl] at f0
  rw [show Program.cellsOf Tryz.prog 2 = 1 by kernel_rfl] at f1
  rw [show Program.cellsOf Tryz.prog 31 = 1 by kernel_rfl] at f2
  rw [show Program.cellsOf Tryz.prog 9 = 1 by kernel_rfl] at f3
  match cs, hl with
  | [c0, c1, c2, c3], _ =>
    simp at f0 f1 f2 f3
    subst f0 f1 f2 f3
    exact ⟨⟨a0, a1, a2, a3⟩, rfl, wf_f64 wf⟩

set_option maxRecDepth 100000 in
theorem trod_cl {fuel : Nat} {cs : List Value} {x : DataW H × List MemPlace} (h : DataW.trod enc Tryz.prog w base spare held fuel 85 cs = some x) : ∃ v : Cl, cs = v.cs ∧ v.d.f < 18446744073709551616 := by
  obtain ⟨xs, n, _, _, hl, hx, hf⟩ := DataW.trod_struct Tryz.underlying85 h
  rw [show Program.cellsOf Tryz.prog 85 = 7 by kernel_rfl] at hl
  obtain ⟨y0, e0⟩ := some_of_len hx (i := 0) (by decide)
  obtain ⟨y1, e1⟩ := some_of_len hx (i := 1) (by decide)
  obtain ⟨y2, e2⟩ := some_of_len hx (i := 2) (by decide)
  obtain ⟨y3, e3⟩ := some_of_len hx (i := 3) (by decide)
  have h0 : DataW.trod enc Tryz.prog w base spare held n 9 ((cs.drop 0).take (Program.cellsOf Tryz.prog 9)) = some y0 := (hf 0 _ rfl).trans e0
  have h1 : DataW.trod enc Tryz.prog w base spare held n 3 ((cs.drop 1).take (Program.cellsOf Tryz.prog 3)) = some y1 := (hf 1 _ rfl).trans e1
  have h2 : DataW.trod enc Tryz.prog w base spare held n 4 ((cs.drop 2).take (Program.cellsOf Tryz.prog 4)) = some y2 := (hf 2 _ rfl).trans e2
  have h3 : DataW.trod enc Tryz.prog w base spare held n 33 ((cs.drop 3).take (Program.cellsOf Tryz.prog 33)) = some y3 := (hf 3 _ rfl).trans e3
  clear hf e0 e1 e2 e3
  obtain ⟨a0, f0, _, _⟩ := DataW.trod_string Tryz.underlying9 h0
  obtain ⟨a1, f1, _, _⟩ := DataW.trod_int Tryz.underlying3 h1
  obtain ⟨a2, f2, _⟩ := DataW.trod_bool Tryz.underlying4 h2
  obtain ⟨a3, f3, wf⟩ := trod_vl h3
  rw [show Program.cellsOf Tryz.prog 9 = 1 by kernel_rfl] at f0
  rw [show Program.cellsOf Tryz.prog 3 = 1 by kernel_rfl] at f1
  rw [show Program.cellsOf Tryz.prog 4 = 1 by kernel_rfl] at f2
  rw [show Program.cellsOf Tryz.prog 33 = 4 by kernel_rfl] at f3
  match cs, hl with
  | [c0, c1, c2, c3, c4, c5, c6], _ =>
    simp at f0 f1 f2 f3
    subst f0 f1 f2
    obtain ⟨rfl, rfl, rfl, rfl⟩ := f3
    exact ⟨⟨a0, a1, a2, a3⟩, rfl, wf⟩

/-- A slice of elements of several cells, opened. -/
theorem open_rd {α : Type} {P : Program} {csf : α → List Value} {size : Nat} {good : α → Prop} {t e : TypeId} (ht : P.underlying t = some (.slice e)) (hsz : P.cellsOf e = size) (h0 : 0 < size)
    (hel : ∀ (n : Nat) (cs : List Value) (x : DataW H × List MemPlace), DataW.trod enc P w base spare held n e cs = some x → ∃ v, cs = csf v ∧ good v)
    {fuel : Nat} {cs : List Value} {x : DataW H × List MemPlace} (h : DataW.trod enc P w base spare held fuel t cs = some x) : ∃ A len cap xs, cs = [.slice A len cap] ∧ Rd csf size w A len xs ∧ ∀ v ∈ xs, good v := by
  rcases open_slice ht h with ⟨rfl, _⟩ | ⟨a, len, cap, m, n, D, Pl, rfl, _, hl, hm, hmm, _, hx⟩
  · exact ⟨none, 0, 0, [], rfl, ⟨rfl, by omega, fun h => absurd h (by decide)⟩, by simp⟩
  have hlm : len ≤ m := by rw [hmm]; split <;> omega
  obtain ⟨V, hV⟩ := choose_lt (α := List Value) (p := fun i cs' => w.cells? base (a.add (i * P.cellsOf e)) (P.cellsOf e) = some cs' ∧ DataW.trod enc P w base spare held n e cs' = some (D i, Pl i)) hx
  by_cases hz : len = 0
  · subst hz
    exact ⟨some a, 0, cap, [], rfl, ⟨rfl, by omega, fun h => absurd h (by decide)⟩, by simp⟩
  obtain ⟨v0, _⟩ : ∃ v, V 0 = csf v ∧ good v := hel _ _ _ (hV 0 (by omega)).2
  obtain ⟨X, hX⟩ : ∃ X : Nat → α, ∀ i, i < m → V i = csf (X i) ∧ good (X i) := by
    have : ∀ i, ∃ v, i < m → V i = csf v ∧ good v := fun i => by
      by_cases hi : i < m
      · obtain ⟨v, hv⟩ := hel _ _ _ (hV i hi).2
        exact ⟨v, fun _ => hv⟩
      · exact ⟨v0, fun h => absurd h hi⟩
    exact ⟨fun i => (this i).choose, fun i hi => (this i).choose_spec hi⟩
  have hcell : ∀ i, i < m → ∀ j u, (csf (X i))[j]? = some u → w.cell? (a.add (i * size + j)) = some u := by
    intro i hi j u hu
    obtain ⟨_, hlen, hc⟩ := World.cells?_some (hV i hi).1
    rw [(hX i hi).1] at hlen hc
    have hj : j < P.cellsOf e := by rw [← hlen]; exact (List.getElem?_eq_some_iff.1 hu).1
    have := hc j hj
    rw [add_of_add, hsz] at this
    rw [this, hu]
  have hspot : a.spot = none := by
    obtain ⟨_, hlen, hc⟩ := World.cells?_some (hV 0 (by omega)).1
    have h1 := hc 0 (by omega)
    have h2 : (V 0)[0]? = some ((V 0)[0]'(by omega)) := List.getElem?_eq_getElem _
    rw [h2] at h1
    have := World.cell?_spot h1
    simpa [Addr.add] using this
  obtain ⟨b, o, sp⟩ := a
  subst hspot
  have hmax : maxLen ≤ 9223372036854775807 := by decide
  refine ⟨some ⟨b, o, none⟩, len, cap, (List.range len).map X, rfl, ⟨by simp, by omega, fun _ => ⟨b, o, rfl, fun i x hx j u hu => ?_⟩⟩, fun v hv => ?_⟩
  · obtain ⟨hi, hxi⟩ := List.getElem?_eq_some_iff.1 hx
    simp at hi hxi
    subst hxi
    have := hcell i (by omega) j u hu
    unfold Addr.add at this
    split at this
    · rename_i h0
      simp only [Nat.add_assoc, h0, Nat.add_zero]
      exact this
    · simpa [Nat.add_assoc] using this
  · simp only [List.mem_map, List.mem_range] at hv
    obtain ⟨i, hi, rfl⟩ := hv
    exact (hX i (by omega)).2

/-- What is known of a statement that came in. -/
def InSt (s : St) (A A' : Option Addr) (n m : Nat) (w : World) : Prop := RdV w A n s.row ∧ RdC w A' m s.cols ∧ Flt s

set_option maxRecDepth 100000 in
theorem trod_st {fuel : Nat} {cs : List Value} {x : DataW H × List MemPlace} (h : DataW.trod enc Tryz.prog w base spare held fuel 37 cs = some x) :
    ∃ (s : St) (A A' : Option Addr) (n c m d : Nat), cs = (s.agg (.slice A n c) (.slice A' m d)).cells.toList ∧ InSt s A A' n m w := by
  obtain ⟨xs, n, _, _, hl, hx, hf⟩ := DataW.trod_struct Tryz.underlying37 h
  rw [show Program.cellsOf Tryz.prog 37 = 16 by kernel_rfl] at hl
  obtain ⟨y0, e0⟩ := some_of_len hx (i := 0) (by decide)
  obtain ⟨y1, e1⟩ := some_of_len hx (i := 1) (by decide)
  obtain ⟨y2, e2⟩ := some_of_len hx (i := 2) (by decide)
  obtain ⟨y3, e3⟩ := some_of_len hx (i := 3) (by decide)
  obtain ⟨y4, e4⟩ := some_of_len hx (i := 4) (by decide)
  obtain ⟨y5, e5⟩ := some_of_len hx (i := 5) (by decide)
  obtain ⟨y6, e6⟩ := some_of_len hx (i := 6) (by decide)
  obtain ⟨y7, e7⟩ := some_of_len hx (i := 7) (by decide)
  obtain ⟨y8, e8⟩ := some_of_len hx (i := 8) (by decide)
  obtain ⟨y9, e9⟩ := some_of_len hx (i := 9) (by decide)
  have h0 : DataW.trod enc Tryz.prog w base spare held n 3 ((cs.drop 0).take (Program.cellsOf Tryz.prog 3)) = some y0 := (hf 0 _ rfl).trans e0
  have h1 : DataW.trod enc Tryz.prog w base spare held n 9 ((cs.drop 1).take (Program.cellsOf Tryz.prog 9)) = some y1 := (hf 1 _ rfl).trans e1
  have h2 : DataW.trod enc Tryz.prog w base spare held n 9 ((cs.drop 2).take (Program.cellsOf Tryz.prog 9)) = some y2 := (hf 2 _ rfl).trans e2
  have h3 : DataW.trod enc Tryz.prog w base spare held n 9 ((cs.drop 3).take (Program.cellsOf Tryz.prog 9)) = some y3 := (hf 3 _ rfl).trans e3
  have h4 : DataW.trod enc Tryz.prog w base spare held n 9 ((cs.drop 4).take (Program.cellsOf Tryz.prog 9)) = some y4 := (hf 4 _ rfl).trans e4
  have h5 : DataW.trod enc Tryz.prog w base spare held n 33 ((cs.drop 5).take (Program.cellsOf Tryz.prog 33)) = some y5 := (hf 5 _ rfl).trans e5
  have h6 : DataW.trod enc Tryz.prog w base spare held n 33 ((cs.drop 9).take (Program.cellsOf Tryz.prog 33)) = some y6 := (hf 6 _ rfl).trans e6
  have h7 : DataW.trod enc Tryz.prog w base spare held n 34 ((cs.drop 13).take (Program.cellsOf Tryz.prog 34)) = some y7 := (hf 7 _ rfl).trans e7
  have h8 : DataW.trod enc Tryz.prog w base spare held n 35 ((cs.drop 14).take (Program.cellsOf Tryz.prog 35)) = some y8 := (hf 8 _ rfl).trans e8
  have h9 : DataW.trod enc Tryz.prog w base spare held n 4 ((cs.drop 15).take (Program.cellsOf Tryz.prog 4)) = some y9 := (hf 9 _ rfl).trans e9
  clear hf e0 e1 e2 e3 e4 e5 e6 e7 e8 e9
  obtain ⟨a0, f0, _, _⟩ := DataW.trod_int Tryz.underlying3 h0
  obtain ⟨a1, f1, _, _⟩ := DataW.trod_string Tryz.underlying9 h1
  obtain ⟨a2, f2, _, _⟩ := DataW.trod_string Tryz.underlying9 h2
  obtain ⟨a3, f3, _, _⟩ := DataW.trod_string Tryz.underlying9 h3
  obtain ⟨a4, f4, _, _⟩ := DataW.trod_string Tryz.underlying9 h4
  obtain ⟨a5, f5, w5⟩ := trod_vl h5
  obtain ⟨a6, f6, w6⟩ := trod_vl h6
  obtain ⟨A, n7, c7, a7, f7, r7, w7⟩ := open_rd (csf := Vl.cs) (size := 4) (good := fun v => v.f < 18446744073709551616) Tryz.uVals (by kernel_rfl) (by decide) (fun _ _ _ h => trod_vl h) h7
  obtain ⟨A', n8, c8, a8, f8, r8, w8⟩ := open_rd (csf := Cl.cs) (size := 7) (good := fun v => v.d.f < 18446744073709551616) Tryz.uCols (by kernel_rfl) (by decide) (fun _ _ _ h => trod_cl h) h8
  obtain ⟨a9, f9, _⟩ := DataW.trod_bool Tryz.underlying4 h9
  rw [show Program.cellsOf Tryz.prog 9 = 1 by kernel_rfl] at f1 f2 f3 f4
  rw [show Program.cellsOf Tryz.prog 3 = 1 by kernel_rfl] at f0
  rw [show Program.cellsOf Tryz.prog 4 = 1 by kernel_rfl] at f9
  rw [show Program.cellsOf Tryz.prog 33 = 4 by kernel_rfl] at f5 f6
  rw [show Program.cellsOf Tryz.prog 34 = 1 by kernel_rfl] at f7
  rw [show Program.cellsOf Tryz.prog 35 = 1 by kernel_rfl] at f8
  match cs, hl with
  | [c0, c1, c2, c3, c4, c5, c6, c7', c8', c9, c10, c11, c12, c13, c14, c15], _ =>
    simp at f0 f1 f2 f3 f4 f5 f6 f7 f8 f9
    subst f0 f1 f2 f3 f4 f7 f8 f9
    obtain ⟨rfl, rfl, rfl, rfl⟩ := f5
    obtain ⟨rfl, rfl, rfl, rfl⟩ := f6
    exact ⟨⟨a0, a1, a2, a3, a4, a5, a6, a7, a8, a9⟩, A, A', n7, c7, n8, c8, rfl, r7, r8, w5, w6, w7, w8⟩
end
set_option maxRecDepth 100000 in
/-- A statement that came in. -/
theorem open_st {H : Type} {enc : TypeId × Value → H} {W : World} {base : Nat} {spare : Nat → Bool} {held : Bool} {r : Reach} {b0 : Nat} {v : Value} {d : DataW H} {p : List MemPlace} (hv : Value.okWide Tryz.prog W r b0 37 v)
    (h : DataW.Trod enc Tryz.prog W base spare held 37 v d p) : ∃ (s : St) (A A' : Option Addr) (n c m d : Nat), v = s.agg (.slice A n c) (.slice A' m d) ∧ InSt s A A' n m W := by
  obtain ⟨cs, rfl, _⟩ := okWide_struct Tryz.underlying37 hv
  obtain ⟨fuel, hf⟩ := h
  obtain ⟨s, A, A', n, c, m, d, e, hi⟩ := trod_st hf
  refine ⟨s, A, A', n, c, m, d, ?_, hi⟩
  have : cs.toList = (Value.cells (s.agg (.slice A n c) (.slice A' m d))).toList := e
  rw [Array.toList_inj.1 this]
  rfl
end Go.Proofs.YtbmaeaknlpgdmaaGreat
