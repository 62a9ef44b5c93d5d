/- A model's table as it lies; domains of blocks. -/
import Derived.Test.YtbmaeaknlpgdmaaGreatA11
import Derived.Test.YtbmaeaknlpgdmaaGreatA02
import Derived.Test.YtbmaeaknlpgdmaaGreatA16
namespace Go.Proofs.YtbmaeaknlpgdmaaGreat
open Go.RowKit Go.Sort
set_option linter.unusedVariables false
set_option linter.unusedSimpArgs false
/-- An index of a table. -/
structure Ix where
  col : ByteArray
  un : Bool
  deriving DecidableEq
/-- A table. -/
structure Tb where
  cols : List Cl
  rows : List (List Vl)
  idx : List (ByteArray × Ix)
abbrev ixV (x : Ix) : Value := .agg #[.string x.col, .bool x.un]
abbrev ixK (l : List (ByteArray × Ix)) : List (ByteArray × Value) := l.map fun p => (p.1, ixV p.2)
/-- Outside the domain D the world w' is as w was, but for new blocks. -/
structure Fr (D : Nat → Prop) (w w' : World) : Prop where
  os : w'.os = w.os
  tape : w'.tape = w.tape
  output : w'.output = w.output
  size : w.heap.size ≤ w'.heap.size
  block : ∀ i, i < w.heap.size → ¬ D i → w'.heap[i]? = w.heap[i]?
/-- The domain and all new blocks. -/
def Dn (D : Nat → Prop) (w : World) (w' : World) : Nat → Prop := fun b => D b ∨ (w.heap.size ≤ b ∧ b < w'.heap.size)
theorem fr_refl (D : Nat → Prop) (w : World) : Fr D w w := ⟨rfl, rfl, rfl, Nat.le_refl _, fun _ _ _ => rfl⟩
theorem fr_below {D : Nat → Prop} {w w' : World} (h : Below w.heap.size w w') : Fr D w w' := ⟨h.os, h.tape, h.output, h.size, fun i hi _ => h.block i hi⟩
theorem fr_trans {D : Nat → Prop} {w w1 w2 : World} (h : Fr D w w1) (k : Fr (Dn D w w1) w1 w2) : Fr D w w2 :=
  ⟨k.os.trans h.os, k.tape.trans h.tape, k.output.trans h.output, Nat.le_trans h.size k.size, fun i hi hd => (k.block i (Nat.lt_of_lt_of_le hi h.size) (fun hn => by rcases hn with hn | hn; exact hd hn; omega)).trans (h.block i hi hd)⟩
theorem fr_off {D : Nat → Prop} {w w1 w2 : World} {a b : Nat} (h : Fr D w w1) (k : Off a b w1 w2) (ha : D a ∨ w.heap.size ≤ a) (hb : D b ∨ w.heap.size ≤ b) : Fr D w w2 :=
  ⟨k.os.trans h.os, k.tape.trans h.tape, k.output.trans h.output, Nat.le_trans h.size k.size, fun i hi hd => (k.block i (Nat.lt_of_lt_of_le hi h.size) (fun e => by subst e; rcases ha with ha | ha; exact hd ha; omega) (fun e => by subst e; rcases hb with hb | hb; exact hd hb; omega)).trans (h.block i hi hd)⟩
theorem off_one' (w : World) (p : Addr) (u : Value) : Off p.block p.block w (w.setCell p u) := off_set (off_refl _ _ _) (.inl rfl) u
theorem fr_set {D : Nat → Prop} {w w1 : World} (h : Fr D w w1) {p : Addr} (hp : D p.block ∨ w.heap.size ≤ p.block) (u : Value) : Fr D w (w1.setCell p u) := fr_off h (off_one' w1 p u) hp hp
theorem fr_step {D : Nat → Prop} {w w1 w2 : World} (h : Fr D w w1) (k : Below w1.heap.size w1 w2) : Fr D w w2 :=
  ⟨k.os.trans h.os, k.tape.trans h.tape, k.output.trans h.output, Nat.le_trans h.size k.size, fun i hi hd => (k.block i (Nat.lt_of_lt_of_le hi h.size)).trans (h.block i hi hd)⟩
theorem fr_mono {D D' : Nat → Prop} {w w' : World} (h : Fr D w w') (hD : ∀ b, D b → D' b) : Fr D' w w' := ⟨h.os, h.tape, h.output, h.size, fun i hi hd => h.block i hi (fun x => hd (hD i x))⟩
/-- A call's own domain: nothing that was there is turned. -/
theorem bl_fr {D : Nat → Prop} {w0 w w' : World} (h : Below w0.heap.size w0 w) (k : Fr D w w') (hD : ∀ b, D b → w0.heap.size ≤ b) : Below w0.heap.size w0 w' :=
  ⟨k.os.trans h.os, k.tape.trans h.tape, k.output.trans h.output, Nat.le_trans h.size k.size, fun i hi => (k.block i (Nat.lt_of_lt_of_le hi h.size) (fun hd => by have := hD i hd; omega)).trans (h.block i hi)⟩
/-- Block tb is a table, all of whose blocks lie in the domain D. -/
def TbAt (D : Nat → Prop) (w : World) (tb : Nat) (t : Tb) : Prop :=
  ∃ ib C R, D tb ∧ D ib ∧ w.heap[tb]? = some (.cells #[C, R, .map (some ib)] 110 (0, 0)) ∧ SlD Cl.cs 7 85 D w C t.cols ∧ RowsD D w R t.rows ∧ MapAt w ib (ixK t.idx)
theorem TbAt.fr {D : Nat → Prop} {w w' : World} {tb : Nat} {t : Tb} (h : TbAt D w tb t) (hb : ∀ b, D b → w'.heap[b]? = w.heap[b]?) : TbAt D w' tb t := by
  obtain ⟨ib, C, R, h1, h2, h3, h4, h5, h6⟩ := h
  exact ⟨ib, C, R, h1, h2, (hb _ h1).trans h3, h4.fr hb, h5.fr hb, h6.of_blk (hb _ h2)⟩
theorem TbAt.keep {D : Nat → Prop} {w w' : World} {tb : Nat} {t : Tb} (h : TbAt D w tb t) (hb : Below w.heap.size w w') : TbAt D w' tb t := by
  obtain ⟨ib, C, R, h1, h2, h3, h4, h5, h6⟩ := h
  exact ⟨ib, C, R, h1, h2, blk_below h3 hb, h4.keep hb, h5.keep hb, h6.keep hb⟩
theorem TbAt.mono {D D' : Nat → Prop} {w : World} {tb : Nat} {t : Tb} (h : TbAt D w tb t) (hD : ∀ b, b < w.heap.size → D b → D' b) : TbAt D' w tb t := by
  obtain ⟨ib, C, R, h1, h2, h3, h4, h5, h6⟩ := h
  exact ⟨ib, C, R, hD _ (blk_lt h3) h1, hD _ h6.lt h2, h3, h4.mono hD, h5.mono hD, h6⟩
theorem TbAt.dn {D : Nat → Prop} {w w' : World} {tb : Nat} {t : Tb} (h : TbAt D w tb t) (hb : Below w.heap.size w w') : TbAt (Dn D w w') w' tb t := (h.keep hb).mono fun _ _ hd => .inl hd
theorem RowsD.set_ {D : Nat → Prop} {w : World} {V : Value} {rs : List (List Vl)} (h : RowsD D w V rs) {p : Addr} {L : Array Value} {T : TypeId} (hb : w.heap[p.block]? = some (.cells L T (0, 0))) (h1 : T ≠ 34) (h2 : T ≠ 33) (u : Value) : RowsD D (w.setCell p u) V rs := by
  obtain ⟨ds, a1, a2, a3⟩ := h
  exact ⟨ds, a1.set_ (a1.ne_blk hb fun L' e => by cases e; exact h1 rfl) u, a2, fun i s r hs hr => (a3 i s r hs hr).set_ ((a3 i s r hs hr).ne_blk hb fun L' e => by cases e; exact h2 rfl) u⟩
theorem MapAt.ne_ {w : World} {b : Nat} {K : List (ByteArray × Value)} (h : MapAt w b K) {c : Nat} {L : Array Value} {T : TypeId} (hb : w.heap[c]? = some (.cells L T (0, 0))) : b ≠ c := by
  rintro rfl
  obtain ⟨es, cl, he, _⟩ := h
  rw [hb] at he
  cases he
/-- A store elsewhere. -/
theorem TbAt.set_ {D : Nat → Prop} {w : World} {tb : Nat} {t : Tb} (h : TbAt D w tb t) {p : Addr} {L : Array Value} {T : TypeId} (hb : w.heap[p.block]? = some (.cells L T (0, 0))) (h1 : T ≠ 34) (h2 : T ≠ 33) (h3 : T ≠ 85) (h4 : T ≠ 110) (u : Value) : TbAt D (w.setCell p u) tb t := by
  obtain ⟨ib, C, R, e1, e2, e3, e4, e5, e6⟩ := h
  have hne : tb ≠ p.block := by rintro rfl; rw [hb] at e3; cases e3; exact h4 rfl
  exact ⟨ib, C, R, e1, e2, blk_far e3 hne u, e4.set_ (e4.ne_blk hb fun L' e => by cases e; exact h3 rfl) u, e5.set_ hb h1 h2 u, e6.set_ (e6.ne_ hb) u⟩
theorem TbAt.set3 {D : Nat → Prop} {w : World} {tb : Nat} {t : Tb} (h : TbAt D w tb t) {q : Nat} {L : Array Value} (hs : L.size = 3) (hb : w.heap[q]? = some (.cells L 29 (0, 0))) (u0 u1 u2 : Value) : TbAt D (((w.setCell ⟨q, 0, none⟩ u0).setCell ⟨q, 1, none⟩ u1).setCell ⟨q, 2, none⟩ u2) tb t := by
  obtain ⟨c0, c1, c2, rfl⟩ := arr3 hs
  have b1 := blk_set_eq hb 0 u0 rfl
  have b2 := blk_set_eq b1 1 u1 rfl
  exact ((h.set_ (p := ⟨q, 0, none⟩) hb (by decide) (by decide) (by decide) (by decide) u0).set_ (p := ⟨q, 1, none⟩) b1 (by decide) (by decide) (by decide) (by decide) u1).set_ (p := ⟨q, 2, none⟩) b2 (by decide) (by decide) (by decide) (by decide) u2
/-- The rows laid anew. -/
theorem TbAt.rows_ {D D' : Nat → Prop} {w : World} {tb : Nat} {t : Tb} (h : TbAt D w tb t) (hD : ∀ b, D b → D' b) {R : Value} {rs : List (List Vl)} (hr : RowsD D' w R rs) : TbAt D' (w.setCell ⟨tb, 1, none⟩ R) tb { t with rows := rs } := by
  obtain ⟨ib, C, R0, e1, e2, e3, e4, e5, e6⟩ := h
  exact ⟨ib, C, R, hD _ e1, hD _ e2, blk_set_eq e3 1 R rfl, (e4.set_ (p := ⟨tb, 1, none⟩) (e4.ne_blk e3 fun L' e => by cases e) R).mono fun b _ hb => hD b hb, hr.set_ (p := ⟨tb, 1, none⟩) e3 (by decide) (by decide) R, e6.set_ (p := ⟨tb, 1, none⟩) (e6.ne_ e3) R⟩
theorem Tryz.uIxMap : Tryz.prog.underlying 108 = some (.map 9 112) := by kernel_rfl
theorem Tryz.uTbMap : Tryz.prog.underlying 73 = some (.map 9 81) := by kernel_rfl
theorem Tryz.uStr : Tryz.prog.underlying 9 = some .string := by kernel_rfl
set_option maxRecDepth 100000 in
theorem unique_nil (D : Nat → Prop) (tb : Nat) (t : Tb) (A : Option Addr) (n c : Nat) (w : World) (h : TbAt D w tb t) (hi : t.idx = []) : Pure Tryz.prog 92 #[.pointer (some ⟨tb, 0, none⟩), .slice A n c] w (.bool true) := by
  obtain ⟨ib, C, R, h1, h2, h3, h4, h5, h6⟩ := h
  rw [hi] at h6
  obtain ⟨o, hrun, hra⟩ := run_range_str (P := Tryz.prog) Tryz.uIxMap h6
  have hnx : (Instr.next (.pointer (some ⟨w.heap.size, 0, none⟩)) false 0).run Tryz.prog (w.alloc o) = .ok (.tuple #[.bool false]) (w.alloc o) := by
    rcases run_next_str (P := Tryz.prog) hra 0 with ⟨_, h⟩ | ⟨i, p, w', hp, _⟩
    · exact h
    · simp [ixK] at hp
  obtain ⟨k1, f1⟩ := blk_rules h3
  clear h1 h2 h3 h4 h5 h6 hra
  go_enter Tryz.func92, Tryz.ntmps92
  go_wp2
  refine wp_loop_rounds 1 ?_
  rw [rounds_succ]
  go_wp2
  go_ret
  exact ⟨rfl, by (repeat (first | assumption | exact Below.refl _ _ | refine bl_drewN ?_ _ | refine bl_drew ?_ | refine bl_alloc ?_ _ | refine bl_step ?_ (by assumption)))⟩
end Go.Proofs.YtbmaeaknlpgdmaaGreat
