/- A model as it lies: its tables by their names. -/
import Derived.Test.YtbmaeaknlpgdmaaGreatA22
namespace Go.Proofs.YtbmaeaknlpgdmaaGreat
open Go.RowKit Go.Sort Go.Lib
set_option linter.unusedVariables false
set_option linter.unusedSimpArgs false
/-- A table of a model: its name, its block, its domain. -/
structure En where
  name : ByteArray
  tb : Nat
  D : Nat → Prop
  t : Tb
abbrev enK (L : List En) : List (ByteArray × Value) := L.map fun x => (x.name, .pointer (some ⟨x.tb, 0, none⟩))
abbrev enS (L : List En) : List (ByteArray × Tb) := L.map fun x => (x.name, x.t)
/-- Block m is a model with these tables. -/
structure MRep (D : Nat → Prop) (w : World) (m hb : Nat) (L : List En) : Prop where
  dm : D m
  dh : D hb
  mod : w.heap[m]? = some (.cells #[.map (some hb)] 75 (0, 0))
  map : MapAt w hb (enK L)
  tbs : ∀ x ∈ L, TbAt x.D w x.tb x.t
  dom : ∀ x ∈ L, ∀ b, x.D b → D b ∧ b ≠ m ∧ b ≠ hb ∧ b < w.heap.size
  apart : L.Pairwise fun x y => ∀ b, x.D b → ¬ y.D b
  names : (L.map (·.name)).Nodup
def ModelAt (D : Nat → Prop) (w : World) (m : Nat) (S : List (ByteArray × Tb)) : Prop := ∃ hb L, enS L = S ∧ MRep D w m hb L
theorem MRep.ne {D : Nat → Prop} {w : World} {m hb : Nat} {L : List En} (h : MRep D w m hb L) : m ≠ hb := fun e => by
  have := h.map.ne_ h.mod
  exact this e.symm
theorem MRep.keep {D : Nat → Prop} {w w' : World} {m hb : Nat} {L : List En} (h : MRep D w m hb L) (hl : Below w.heap.size w w') : MRep D w' m hb L :=
  ⟨h.dm, h.dh, blk_below h.mod hl, h.map.keep hl, fun x hx => (h.tbs x hx).keep hl, fun x hx b hb => by obtain ⟨a, b', c, d⟩ := h.dom x hx b hb; exact ⟨a, b', c, Nat.lt_of_lt_of_le d hl.size⟩, h.apart, h.names⟩
theorem MRep.mono {D D' : Nat → Prop} {w : World} {m hb : Nat} {L : List En} (h : MRep D w m hb L) (hD : ∀ b, b < w.heap.size → D b → D' b) : MRep D' w m hb L :=
  ⟨hD _ (blk_lt h.mod) h.dm, hD _ h.map.lt h.dh, h.mod, h.map, h.tbs, fun x hx b hb => by obtain ⟨a, b', c, d⟩ := h.dom x hx b hb; exact ⟨hD _ d a, b', c, d⟩, h.apart, h.names⟩
theorem MRep.fr {D : Nat → Prop} {w w' : World} {m hb : Nat} {L : List En} (h : MRep D w m hb L) (hs : w.heap.size ≤ w'.heap.size) (hl : ∀ b, D b → w'.heap[b]? = w.heap[b]?) : MRep D w' m hb L :=
  ⟨h.dm, h.dh, (hl _ h.dm).trans h.mod, h.map.of_blk (hl _ h.dh), fun x hx => (h.tbs x hx).fr fun b hb => hl b (h.dom x hx b hb).1, fun x hx b hb => by obtain ⟨a, b', c, d⟩ := h.dom x hx b hb; exact ⟨a, b', c, Nat.lt_of_lt_of_le d hs⟩, h.apart, h.names⟩
theorem ModelAt.keep {D : Nat → Prop} {w w' : World} {m : Nat} {S : List (ByteArray × Tb)} (h : ModelAt D w m S) (hl : Below w.heap.size w w') : ModelAt D w' m S := by
  obtain ⟨hb, L, e, h⟩ := h; exact ⟨hb, L, e, h.keep hl⟩
theorem ModelAt.mono {D D' : Nat → Prop} {w : World} {m : Nat} {S : List (ByteArray × Tb)} (h : ModelAt D w m S) (hD : ∀ b, b < w.heap.size → D b → D' b) : ModelAt D' w m S := by
  obtain ⟨hb, L, e, h⟩ := h; exact ⟨hb, L, e, h.mono hD⟩
theorem ModelAt.fr {D : Nat → Prop} {w w' : World} {m : Nat} {S : List (ByteArray × Tb)} (h : ModelAt D w m S) (hs : w.heap.size ≤ w'.heap.size) (hl : ∀ b, D b → w'.heap[b]? = w.heap[b]?) : ModelAt D w' m S := by
  obtain ⟨hb, L, e, h⟩ := h; exact ⟨hb, L, e, h.fr hs hl⟩
theorem ModelAt.dn {D : Nat → Prop} {w w' : World} {m : Nat} {S : List (ByteArray × Tb)} (h : ModelAt D w m S) (hl : Below w.heap.size w w') : ModelAt (Dn D w w') w' m S := (h.keep hl).mono fun _ _ hd => .inl hd
/-- The table of a name. -/
def getS (s : ByteArray) (S : List (ByteArray × Tb)) : Option Tb := (S.find? fun p => p.1 = s).map (·.2)
theorem getK_en (s : ByteArray) : ∀ (L : List En) (i : Nat), (getK s (enK L) i = none ∧ ∀ x ∈ L, x.name ≠ s) ∨ ∃ j x, getK s (enK L) i = some (i + j, .pointer (some ⟨x.tb, 0, none⟩)) ∧ L[j]? = some x ∧ x.name = s ∧ ∀ k y, k < j → L[k]? = some y → y.name ≠ s
  | [], i => .inl ⟨rfl, fun x hx => by cases hx⟩
  | x :: L, i => by
    by_cases h : s = x.name
    · right
      exact ⟨0, x, by simp [enK, getK, h], rfl, h.symm, fun k y hk => by omega⟩
    · rcases getK_en s L (i + 1) with ⟨h1, h2⟩ | ⟨j, y, h1, h2, h3, h4⟩
      · left
        refine ⟨by simp only [enK, List.map_cons, getK, h, if_false]; exact h1, fun z hz => ?_⟩
        rcases List.mem_cons.1 hz with rfl | hz
        · exact fun e => h e.symm
        · exact h2 z hz
      · right
        refine ⟨j + 1, y, by simp only [enK, List.map_cons, getK, h, if_false]; rw [show i + (j + 1) = i + 1 + j by omega]; exact h1, by simpa using h2, h3, fun k z hk hz => ?_⟩
        cases k with
        | zero => simp at hz; subst hz; exact fun e => h e.symm
        | succ k => exact h4 k z (by omega) (by simpa using hz)
theorem getS_none {s : ByteArray} {L : List En} (h : ∀ x ∈ L, x.name ≠ s) : getS s (enS L) = none := by
  unfold getS
  rw [List.find?_eq_none.2]
  · rfl
  · intro p hp
    obtain ⟨x, hx, rfl⟩ := List.mem_map.1 hp
    simpa using h x hx
theorem getS_some {s : ByteArray} {L : List En} {j : Nat} {x : En} (h : L[j]? = some x) (hs : x.name = s) (hb : ∀ k y, k < j → L[k]? = some y → y.name ≠ s) : getS s (enS L) = some x.t := by
  unfold getS
  have : (enS L).find? (fun p => p.1 = s) = some (x.name, x.t) := by
    rw [List.find?_eq_some_iff_getElem]
    obtain ⟨hj, rfl⟩ := List.getElem?_eq_some_iff.1 h
    refine ⟨by simpa using hs, j, by simpa using hj, by simp, fun k hk => ?_⟩
    simpa using hb k _ hk (List.getElem?_eq_getElem (by omega))
  rw [this]; rfl
theorem Tryz.zTb (w : World) : (zeroValue 81).run Tryz.prog w = .ok (.pointer none) w := by kernel_rfl
/-- The look-up of a table. -/
theorem look_tb {D : Nat → Prop} {w : World} {m hb : Nat} {L : List En} (h : MRep D w m hb L) (s : ByteArray) :
    (getS s (enS L) = none ∧ (∀ x ∈ L, x.name ≠ s) ∧ getK s (enK L) 0 = none ∧ (Instr.lookup 73 (.map (some hb)) (.string s) false).run Tryz.prog w = .ok (.pointer none) w) ∨
    ∃ j x, L[j]? = some x ∧ x.name = s ∧ getS s (enS L) = some x.t ∧ getK s (enK L) 0 = some (j, .pointer (some ⟨x.tb, 0, none⟩)) ∧ (Instr.lookup 73 (.map (some hb)) (.string s) false).run Tryz.prog w = .ok (.pointer (some ⟨x.tb, 0, none⟩)) w := by
  rcases getK_en s L 0 with ⟨h1, h2⟩ | ⟨j, x, h1, h2, h3, h4⟩
  · exact .inl ⟨getS_none h2, h2, h1, run_look_str_none Tryz.uTbMap Tryz.uStr h.map s Tryz.zTb h1⟩
  · rw [Nat.zero_add] at h1
    exact .inr ⟨j, x, h2, h3, getS_some h2 h3 h4, h1, run_look_str Tryz.uTbMap Tryz.uStr h.map s h1⟩
set_option maxRecDepth 100000 in
set_option maxHeartbeats 1000000 in
theorem new_any (w : World) : Calls Tryz.prog 10 #[] w fun e w' => ∃ m, e = .returned (.pointer (some ⟨m, 0, none⟩)) ∧ w.heap.size ≤ m ∧ ModelAt (fun b => w.heap.size ≤ b) w' m [] ∧ Below w.heap.size w w' := by
  have hmm := @run_makeMap Tryz.prog
  go_enter Tryz.func10, Tryz.ntmps10
  go_wp2
  go_ret
  refine ⟨w.heap.size + 1, rfl, by omega, ⟨w.heap.size, [], rfl, ⟨(show w.heap.size ≤ w.heap.size + 1 by omega), Nat.le_refl w.heap.size, ?_, ?_, (fun x hx => by cases hx), (fun x hx => by cases hx), List.Pairwise.nil, List.Pairwise.nil⟩⟩, by (repeat (first | assumption | exact Below.refl _ _ | refine bl_drewN ?_ _ | refine bl_drew ?_ | refine bl_alloc ?_ _ | refine bl_step ?_ (by assumption)))⟩
  · have hh := blk_new (w.alloc (.map #[] 0)) (.cells #[.map (some w.heap.size)] 75)
    rw [szal] at hh
    exact hh
  · exact (mapAt_new w).keep (bl_alloc (Below.refl _ _) _)
end Go.Proofs.YtbmaeaknlpgdmaaGreat
