/- Slices of a domain of blocks: values, columns, rows. -/
import Derived.Test.YtbmaeaknlpgdmaaGreatA08
namespace Go.Proofs.YtbmaeaknlpgdmaaGreat
open Go.RowKit Go.Sort
set_option linter.unusedVariables false
set_option linter.unusedSimpArgs false
/-- A slice whose cells lie in a block of the domain D. -/
def SlD {α : Type} (cs : α → List Value) (size : Nat) (e : TypeId) (D : Nat → Prop) (w : World) (v : Value) (xs : List α) : Prop := Own cs size e w 0 v xs ∧ ∀ g, v.ownBlock = some g → D g
/-- Rows whose cells lie in blocks of the domain D. -/
def RowsD (D : Nat → Prop) (w : World) (V : Value) (rs : List (List Vl)) : Prop :=
  ∃ ds : List Sl, SlD Sl.cs 1 34 D w V ds ∧ ds.length = rs.length ∧ ∀ (i : Nat) (s : Sl) (r : List Vl), ds[i]? = some s → rs[i]? = some r → SlD Vl.cs 4 33 D w s.v r
section
variable {α : Type} {cs : α → List Value} {size e : Nat} {D D' : Nat → Prop} {w w' : World} {v V : Value} {xs : List α} {rs : List (List Vl)}
theorem SlD.of_own {base : Nat} (h : Own cs size e w base v xs) (hD : ∀ b, base ≤ b → b < w.heap.size → D b) : SlD cs size e D w v xs :=
  ⟨h.lower (Nat.zero_le _), fun g hg => hD g (h.lt g hg).1 (h.lt g hg).2⟩
theorem SlD.mono (h : SlD cs size e D w v xs) (hD : ∀ b, b < w.heap.size → D b → D' b) : SlD cs size e D' w v xs := ⟨h.1, fun g hg => hD g (h.1.lt g hg).2 (h.2 g hg)⟩
theorem Own.of_blk {base : Nat} (h : Own cs size e w base v xs) (hb : ∀ g, v.ownBlock = some g → w'.heap[g]? = w.heap[g]?) : Own cs size e w' base v xs := by
  refine ⟨h.1, ?_⟩
  rcases h.2 with h2 | ⟨g, cap, cur, rfl, hb0, hh, r⟩
  · exact .inl h2
  · exact .inr ⟨g, cap, cur, rfl, hb0, (hb g rfl).trans hh, r⟩
theorem SlD.fr (h : SlD cs size e D w v xs) (hb : ∀ b, D b → w'.heap[b]? = w.heap[b]?) : SlD cs size e D w' v xs := ⟨h.1.of_blk fun g hg => hb g (h.2 g hg), h.2⟩
theorem SlD.keep (h : SlD cs size e D w v xs) (hb : Below w.heap.size w w') : SlD cs size e D w' v xs := ⟨h.1.kept hb, h.2⟩
theorem SlD.rd (hcs : ∀ x, (cs x).length = size) (h : SlD cs size e D w v xs) : ∃ A c, v = .slice A xs.length c ∧ Rd cs size w A xs.length xs ∧ ∀ p, A = some p → D p.block := by
  obtain ⟨A, c, hv, _, _, hr⟩ := h.1.reads hcs
  refine ⟨A, c, hv, hr, fun p hp => ?_⟩
  subst hp
  exact h.2 _ (by rw [hv]; rfl)
theorem SlD.lt (h : SlD cs size e D w v xs) {g : Nat} (hg : v.ownBlock = some g) : D g ∧ g < w.heap.size := ⟨h.2 g hg, (h.1.lt g hg).2⟩
theorem SlD.blk (h : SlD cs size e D w v xs) {g : Nat} (hg : v.ownBlock = some g) : ∃ L, w.heap[g]? = some (.cells L e (0, 0)) := by
  rcases h.1.2 with ⟨rfl, _⟩ | ⟨g', cap, cur, rfl, hb0, hh, r⟩
  · simp [Value.ownBlock] at hg
  · have : g' = g := by simpa [Value.ownBlock] using hg
    subst this; exact ⟨_, hh⟩
/-- Slices of two kinds never share a block. -/
theorem SlD.ne {β : Type} {cs' : β → List Value} {size' e' : Nat} {v' : Value} {ys : List β} (h : SlD cs size e D w v xs) (h' : SlD cs' size' e' D' w v' ys) (hne : e ≠ e') : v.ownBlock = none ∨ v.ownBlock ≠ v'.ownBlock := by
  cases hv : v.ownBlock with
  | none => exact .inl rfl
  | some g =>
    right
    intro hh
    obtain ⟨L, hL⟩ := h.blk hv
    obtain ⟨L', hL'⟩ := h'.blk hh.symm
    rw [hL] at hL'
    cases hL'
    exact hne rfl
/-- .. nor one with a block of another kind. -/
theorem SlD.ne_blk {b : Nat} {x : Obj} (h : SlD cs size e D w v xs) (hb : w.heap[b]? = some x) (hne : ∀ L, x ≠ .cells L e (0, 0)) : v.ownBlock ≠ some b := by
  intro hg
  obtain ⟨L, hL⟩ := h.blk hg
  rw [hb] at hL
  cases hL
  exact hne L rfl
theorem SlD.set_ (h : SlD cs size e D w v xs) {p : Addr} (hne : v.ownBlock ≠ some p.block) (u : Value) : SlD cs size e D (w.setCell p u) v xs := ⟨h.1.set_ hne u, h.2⟩
theorem slD_nil : SlD cs size e D w (.slice none 0 0) ([] : List α) := ⟨own_nil' _ _ _, fun g hg => by simp [Value.ownBlock] at hg⟩
theorem RowsD.mono (h : RowsD D w V rs) (hD : ∀ b, b < w.heap.size → D b → D' b) : RowsD D' w V rs := by
  obtain ⟨ds, h1, h2, h3⟩ := h
  exact ⟨ds, h1.mono hD, h2, fun i s r hs hr => (h3 i s r hs hr).mono hD⟩
theorem RowsD.fr (h : RowsD D w V rs) (hb : ∀ b, D b → w'.heap[b]? = w.heap[b]?) : RowsD D w' V rs := by
  obtain ⟨ds, h1, h2, h3⟩ := h
  exact ⟨ds, h1.fr hb, h2, fun i s r hs hr => (h3 i s r hs hr).fr hb⟩
theorem RowsD.keep (h : RowsD D w V rs) (hb : Below w.heap.size w w') : RowsD D w' V rs := by
  obtain ⟨ds, h1, h2, h3⟩ := h
  exact ⟨ds, h1.keep hb, h2, fun i s r hs hr => (h3 i s r hs hr).keep hb⟩
theorem rowsD_nil : RowsD D w (.slice none 0 0) [] := ⟨[], slD_nil, rfl, fun i s r hs => by simp at hs⟩
end
/-- What a slice of values reads as is one list. -/
theorem rdV_inj {w : World} {A : Option Addr} {n : Nat} {r r' : List Vl} (h : RdV w A n r) (h' : RdV w A n r') : r = r' := by
  apply List.ext_getElem
  · rw [h.1, h'.1]
  · intro i h1 h2
    have hn : i < n := by rw [← h.1]; exact h1
    obtain ⟨b, o, x, hA, hx, x0, x1, x2, x3, _⟩ := h.get_ (Below.refl _ _) hn
    obtain ⟨b', o', y, hA', hy, y0, y1, y2, y3, _⟩ := h'.get_ (Below.refl _ _) hn
    rw [hA] at hA'
    cases hA'
    rw [x0] at y0; rw [x1] at y1; rw [x2] at y2; rw [x3] at y3
    injection y0 with e0; injection e0 with e0 e0'
    injection y1 with e1; injection e1 with e1 e1'
    injection y2 with e2; injection e2 with e2 e2'
    injection y3 with e3; injection e3 with e3
    have hxy : x = y := by
      obtain ⟨a, b, c, d⟩ := x
      obtain ⟨a', b', c', d'⟩ := y
      simp_all
    rw [List.getElem?_eq_getElem h1] at hx
    rw [List.getElem?_eq_getElem h2] at hy
    injection hx with hx
    injection hy with hy
    rw [hx, hy, hxy]
/-- What a row's cells read as. -/
noncomputable def readR (w : World) (s : Sl) : List Vl := @Classical.epsilon _ ⟨[]⟩ (fun r => RdV w s.A s.n r)
theorem readR_eq {w : World} {s : Sl} {r : List Vl} (h : RdV w s.A s.n r) : readR w s = r :=
  rdV_inj (@Classical.epsilon_spec_aux _ ⟨[]⟩ (fun r => RdV w s.A s.n r) ⟨r, h⟩) h
end Go.Proofs.YtbmaeaknlpgdmaaGreat
