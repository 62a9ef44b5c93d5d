/- The words of these proofs: values, columns, statements as plain data; slices that read as lists of them. Calls that turn two blocks of their caller's and no other. A map from int to functions that a function makes for itself and asks once. 'b || f(..)' in a region, b not known: the two ways meet again behind it. Steps of a region that draws its order, one by one; what is held of the world may be sharpened on the way. -/
import Derived.Test.YtbmaeaknlpgdmaaGreatProg
import Derived.WalkKit
import Derived.WalkLawsBesides
import Derived.WalkSpells
import Derived.Lib.Hide
import Derived.Deep.AppendLies
import Derived.Deep.Draws
import Derived.Deep.QuietTactic
import Derived.BigQuiet
import Derived.StillTailTactics
import Derived.Deep.RegionHeld3
import Derived.MapKept
namespace Go.Proofs.YtbmaeaknlpgdmaaGreat
open Go.RowKit

/-- A value: its kind, its number, its float's bits, its text. -/
structure Vl where
  k : Int
  n : Int
  f : Nat
  s : ByteArray
  deriving DecidableEq

structure Cl where
  name : ByteArray
  kind : Int
  nn : Bool
  d : Vl
  deriving DecidableEq

abbrev Vl.cs (v : Vl) : List Value := [.int .i64 v.k, .int .i64 v.n, .float .f64 v.f, .string v.s]
abbrev Vl.agg (v : Vl) : Value := .agg #[.int .i64 v.k, .int .i64 v.n, .float .f64 v.f, .string v.s]
abbrev Cl.cs (c : Cl) : List Value := [.string c.name, .int .i64 c.kind, .bool c.nn, .int .i64 c.d.k, .int .i64 c.d.n, .float .f64 c.d.f, .string c.d.s]
abbrev Cl.agg (c : Cl) : Value := .agg #[.string c.name, .int .i64 c.kind, .bool c.nn, .int .i64 c.d.k, .int .i64 c.d.n, .float .f64 c.d.f, .string c.d.s]

/-- A statement. -/
structure St where
  k : Int
  t : ByteArray
  nm : ByteArray
  c : ByteArray
  se : ByteArray
  v : Vl
  w : Vl
  row : List Vl
  cols : List Cl
  fl : Bool
  deriving DecidableEq
/-- A statement as a Go value: R, C: the slices of its row and its columns. -/
abbrev St.agg (s : St) (R C : Value) : Value := .agg #[.int .i64 s.k, .string s.t, .string s.nm, .string s.c, .string s.se, .int .i64 s.v.k, .int .i64 s.v.n, .float .f64 s.v.f, .string s.v.s, .int .i64 s.w.k, .int .i64 s.w.n, .float .f64 s.w.f, .string s.w.s, R, C, .bool s.fl]
def eqV (a b : Vl) : Bool := decide (a = b)
def eqVs (a b : List Vl) : Bool := decide (a = b)
def eqCs (a b : List Cl) : Bool := decide (a = b)

/-- A float's store, for the walk. -/
@[go_sem] theorem run_store_flt (P : Program) (w : World) (a : Addr) (m : Mode) (k : FloatKind) (b : Nat) : (store a (.float k b) m).run P w = stored P w a (.float k b) m := run_store P w a _ m rfl

theorem bcell {W w1 : World} (hb : Below W.heap.size W w1) : (∀ b o, b < W.heap.size → w1.cell? ⟨b, o, none⟩ = W.cell? ⟨b, o, none⟩) ∧ (∀ b o, b < W.heap.size → w1.frozen? ⟨b, o, none⟩ = W.frozen? ⟨b, o, none⟩) :=
  ⟨fun b o h => hb.cell (p := ⟨b, o, none⟩) h, fun b o h => hb.frozen (p := ⟨b, o, none⟩) h⟩
theorem block_of_add (a : Addr) (n : Nat) : (a.add n).block = a.block := by unfold Addr.add; split <;> rfl
theorem add_of_add (a : Addr) (i j : Nat) : (a.add i).add j = a.add (i + j) := by
  unfold Addr.add
  by_cases hi : i = 0 <;> by_cases hj : j = 0 <;> simp [hi, hj, Nat.add_assoc]
theorem below_drewN {B : Nat} {a w : World} (h : Below B a w) (n : Nat) : Below B a (w.drewN n) := ⟨h.os, h.tape, h.output, h.size, h.block⟩

theorem bl_drewN {a w : World} (h : Below a.heap.size a w) (n : Nat) : Below a.heap.size a (w.drewN n) := below_drewN h n
theorem bl_drew {a w : World} (h : Below a.heap.size a w) : Below a.heap.size a w.drew := h.drew
theorem bl_alloc {a w : World} (h : Below a.heap.size a w) (o : Obj) : Below a.heap.size a (w.alloc o) := h.alloc h.size o
theorem bl_step {a w w1 : World} (h : Below a.heap.size a w) (k : Below w.heap.size w w1) : Below a.heap.size a w1 := h.trans (k.mono h.size)
theorem bl_set {a w : World} (h : Below a.heap.size a w) {p : Addr} (hp : a.heap.size ≤ p.block) (u : Value) : Below a.heap.size a (w.setCell p u) := h.setCell hp u

/-- A call that answers v and turns nothing that was there. -/
abbrev Pure (P : Program) (f : FuncId) (args : Array Value) (w : World) (v : Value) : Prop :=
  Calls P f args w fun e w' => e = .returned v ∧ Below w.heap.size w w'

theorem ret_int {k : IntKind} {a b : Int} (h : a = b) : Ending.returned (.int k a) = .returned (.int k b) := by rw [h]
theorem ret_bool {a b : Bool} (h : a = b) : Ending.returned (.bool a) = .returned (.bool b) := by rw [h]
theorem pw_cell {w w1 : World} (h : Below w.heap.size w w1) {a : Addr} {v : Value} (hc : w.cell? a = some v) : w1.cell? a = some v := (h.cell (World.block_lt_of_cell? w a hc)).trans hc
/-- A slice of n elements at A, of several cells each (cs x: the cells of one), reads as the list xs. -/
def Rd {α : Type} (cs : α → List Value) (size : Nat) (w : World) (A : Option Addr) (n : Nat) (xs : List α) : Prop :=
  xs.length = n ∧ n ≤ 9223372036854775807 ∧ (0 < n → ∃ b o, A = some ⟨b, o, none⟩ ∧ ∀ i x, xs[i]? = some x → ∀ j u, (cs x)[j]? = some u → w.cell? ⟨b, o + i * size + j, none⟩ = some u)
abbrev RdV (w : World) (A : Option Addr) (n : Nat) (xs : List Vl) : Prop := Rd Vl.cs 4 w A n xs
abbrev RdC (w : World) (A : Option Addr) (n : Nat) (xs : List Cl) : Prop := Rd Cl.cs 7 w A n xs
theorem Rd.keep {α : Type} {cs : α → List Value} {size : Nat} {w w' : World} {A : Option Addr} {n : Nat} {xs : List α} (h : Rd cs size w A n xs) (hb : Below w.heap.size w w') : Rd cs size w' A n xs :=
  ⟨h.1, h.2.1, fun hn => by
    obtain ⟨b, o, e, hc⟩ := h.2.2 hn
    refine ⟨b, o, e, fun i x hx j u hu => ?_⟩
    have h1 := hc i x hx j u hu
    rwa [hb.cell (World.block_lt_of_cell? w _ h1)]⟩

/-- Element k of a slice of values: where it stands, and its four cells, as a walk asks for them. -/
theorem RdV.at_ {w w' : World} {A : Option Addr} {n : Nat} {xs : List Vl} (h : RdV w A n xs) (hb : Below w.heap.size w w') {k : Nat} (hk : k < n) :
    ∃ b o kk nn f s, A = some ⟨b, o, none⟩ ∧ xs[k]? = some ⟨kk, nn, f, s⟩ ∧ w'.cell? ⟨b, o + k * 4, none⟩ = some (.int .i64 kk) ∧ w'.cell? ⟨b, o + k * 4 + 1, none⟩ = some (.int .i64 nn) ∧
      w'.cell? ⟨b, o + k * 4 + 2, none⟩ = some (.float .f64 f) ∧ w'.cell? ⟨b, o + k * 4 + 3, none⟩ = some (.string s) ∧ b < w.heap.size := by
  obtain ⟨b, o, e, hc⟩ := h.2.2 (by omega)
  have hl : k < xs.length := by rw [h.1]; exact hk
  have hx : xs[k]? = some xs[k] := List.getElem?_eq_getElem hl
  have hg := hc k _ hx
  refine ⟨b, o, xs[k].k, xs[k].n, xs[k].f, xs[k].s, e, hx, pw_cell hb (hg 0 _ rfl), pw_cell hb (hg 1 _ rfl), pw_cell hb (hg 2 _ rfl), pw_cell hb (hg 3 _ rfl), World.block_lt_of_cell? w _ (hg 0 _ rfl)⟩

theorem RdV.get_ {w w' : World} {A : Option Addr} {n : Nat} {xs : List Vl} (h : RdV w A n xs) (hb : Below w.heap.size w w') {k : Nat} (hk : k < n) :
    ∃ b o x, A = some ⟨b, o, none⟩ ∧ xs[k]? = some x ∧ w'.cell? ⟨b, o + k * 4, none⟩ = some (.int .i64 x.k) ∧ w'.cell? ⟨b, o + k * 4 + 1, none⟩ = some (.int .i64 x.n) ∧
      w'.cell? ⟨b, o + k * 4 + 2, none⟩ = some (.float .f64 x.f) ∧ w'.cell? ⟨b, o + k * 4 + 3, none⟩ = some (.string x.s) ∧ b < w.heap.size := by
  obtain ⟨b, o, kk, nn, f, s, h1, h2, h3⟩ := h.at_ hb hk
  exact ⟨b, o, ⟨kk, nn, f, s⟩, h1, h2, h3⟩
theorem RdC.get_ {w w' : World} {A : Option Addr} {n : Nat} {xs : List Cl} (h : RdC w A n xs) (hb : Below w.heap.size w w') {k : Nat} (hk : k < n) :
    ∃ b o x, A = some ⟨b, o, none⟩ ∧ xs[k]? = some x ∧ w'.cell? ⟨b, o + k * 7, none⟩ = some (.string x.name) ∧ w'.cell? ⟨b, o + k * 7 + 1, none⟩ = some (.int .i64 x.kind) ∧ w'.cell? ⟨b, o + k * 7 + 2, none⟩ = some (.bool x.nn) ∧
      w'.cell? ⟨b, o + k * 7 + 3, none⟩ = some (.int .i64 x.d.k) ∧ w'.cell? ⟨b, o + k * 7 + 4, none⟩ = some (.int .i64 x.d.n) ∧ w'.cell? ⟨b, o + k * 7 + 5, none⟩ = some (.float .f64 x.d.f) ∧ w'.cell? ⟨b, o + k * 7 + 6, none⟩ = some (.string x.d.s) ∧ b < w.heap.size := by
  obtain ⟨b, o, e, hc⟩ := h.2.2 (by omega)
  have hl : k < xs.length := by rw [h.1]; exact hk
  have hx : xs[k]? = some xs[k] := List.getElem?_eq_getElem hl
  have hg := hc k _ hx
  exact ⟨b, o, xs[k], e, hx, pw_cell hb (hg 0 _ rfl), pw_cell hb (hg 1 _ rfl), pw_cell hb (hg 2 _ rfl), pw_cell hb (hg 3 _ rfl), pw_cell hb (hg 4 _ rfl), pw_cell hb (hg 5 _ rfl), pw_cell hb (hg 6 _ rfl), World.block_lt_of_cell? w _ (hg 0 _ rfl)⟩
/-- A block known whole, for the walk. -/
theorem blk_rules {w : World} {b : Nat} {L : Array Value} {T : TypeId} (h : w.heap[b]? = some (.cells L T (0, 0))) : (∀ j, w.cell? ⟨b, j, none⟩ = L[j]?) ∧ (∀ j, w.frozen? ⟨b, j, none⟩ = false) :=
  ⟨fun j => cell_of_row w b j L T (0, 0) h, fun j => by simp [World.frozen?, h]⟩
theorem blk_new (w : World) (o : Obj) : (w.alloc o).heap[w.heap.size]? = some o := heap_alloc_new w o
theorem blk_old {w : World} {b : Nat} {x : Obj} (h : w.heap[b]? = some x) (o : Obj) : (w.alloc o).heap[b]? = some x := (Below.heap_alloc w o b (Array.getElem?_eq_some_iff.1 h).1).trans h
theorem blk_lt {w : World} {b : Nat} {x : Obj} (h : w.heap[b]? = some x) : b < w.heap.size := (Array.getElem?_eq_some_iff.1 h).1
theorem blk_below {w w1 : World} {b : Nat} {x : Obj} (h : w.heap[b]? = some x) (hb : Below w.heap.size w w1) : w1.heap[b]? = some x := (hb.block b (blk_lt h)).trans h
theorem blk_grown {w w1 : World} {b : Nat} {x : Obj} {row : Option Nat} (h : w.heap[b]? = some x) (hg : w.grownBy w1 row) (hne : some b ≠ row) : w1.heap[b]? = some x := (hg.block b (blk_lt h) hne).trans h
theorem blk_far {w : World} {b : Nat} {x : Obj} (h : w.heap[b]? = some x) {p : Addr} (hp : b ≠ p.block) (u : Value) : (w.setCell p u).heap[b]? = some x := (Below.heap_setCell w p u b hp).trans h
theorem blk_set {w : World} {b : Nat} {L : Array Value} {T : TypeId} (h : w.heap[b]? = some (.cells L T (0, 0))) (i : Nat) (u : Value) : (w.setCell ⟨b, i, none⟩ u).heap[b]? = some (.cells (L.setIfInBounds i u) T (0, 0)) := by
  simp [World.setCell, Array.getElem?_modify, h]
theorem blk_set_eq {w : World} {b : Nat} {L L' : Array Value} {T : TypeId} (h : w.heap[b]? = some (.cells L T (0, 0))) (i : Nat) (u : Value) (e : L.setIfInBounds i u = L') : (w.setCell ⟨b, i, none⟩ u).heap[b]? = some (.cells L' T (0, 0)) := by
  rw [blk_set h, e]
theorem take_snoc' {α : Type} {xs : List α} {k : Nat} {x : α} (h : xs[k]? = some x) : xs.take (k + 1) = xs.take k ++ [x] := by
  obtain ⟨hk, rfl⟩ := List.getElem?_eq_some_iff.1 h
  rw [List.take_succ_eq_append_getElem hk]

theorem str_beq (s s' : ByteArray) : (s.toList == s'.toList) = decide (s = s') := by
  rw [Bool.eq_iff_iff]
  simp only [beq_iff_eq, decide_eq_true_eq, ByteArray.toList_eq]
  exact ⟨fun h => ByteArray.ext (Array.toList_inj.mp h), fun h => by rw [h]⟩
theorem str_beq_nil (s : ByteArray) : s.toList.isEmpty = decide (s = ByteArray.empty) := by
  rw [Bool.eq_iff_iff]
  simp only [List.isEmpty_iff, decide_eq_true_eq, ByteArray.toList_eq]
  exact ⟨fun h => ByteArray.ext (Array.toList_inj.mp h), fun h => by rw [h]; rfl⟩
end Go.Proofs.YtbmaeaknlpgdmaaGreat
namespace Go.Proofs.YtbmaeaknlpgdmaaGreat
open Go.RowKit
set_option linter.unusedVariables false
set_option linter.unusedSimpArgs false
set_option linter.constructorNameAsVariable false
/-- But for blocks a and b the world w' is as w was. -/
structure Off (a b : Nat) (w w' : World) : Prop where
  os : w'.os = w.os
  tape : w'.tape = w.tape
  output : w'.output = w.output
  size : w.heap.size ≤ w'.heap.size
  block : ∀ i, i < w.heap.size → i ≠ a → i ≠ b → w'.heap[i]? = w.heap[i]?
theorem off_refl (a b : Nat) (w : World) : Off a b w w := ⟨rfl, rfl, rfl, Nat.le_refl _, fun _ _ _ _ => rfl⟩
theorem off_trans {a b : Nat} {w w1 w2 : World} (h : Off a b w w1) (k : Off a b w1 w2) : Off a b w w2 :=
  ⟨k.os.trans h.os, k.tape.trans h.tape, k.output.trans h.output, Nat.le_trans h.size k.size, fun i hi ha hb => (k.block i (Nat.lt_of_lt_of_le hi h.size) ha hb).trans (h.block i hi ha hb)⟩
theorem off_below {a b : Nat} {w w1 w2 : World} (h : Off a b w w1) (k : Below w1.heap.size w1 w2) : Off a b w w2 :=
  off_trans h ⟨k.os, k.tape, k.output, k.size, fun i hi _ _ => k.block i hi⟩
theorem off_alloc {a b : Nat} {w w1 : World} (h : Off a b w w1) (o : Obj) : Off a b w (w1.alloc o) := off_below h (bl_alloc (Below.refl _ _) o)
theorem off_drewN {a b : Nat} {w w1 : World} (h : Off a b w w1) (n : Nat) : Off a b w (w1.drewN n) := off_below h (bl_drewN (Below.refl _ _) n)
theorem off_drew {a b : Nat} {w w1 : World} (h : Off a b w w1) : Off a b w w1.drew := off_below h (bl_drew (Below.refl _ _))
theorem off_set {a b : Nat} {w w1 : World} (h : Off a b w w1) {p : Addr} (hp : p.block = a ∨ p.block = b ∨ w.heap.size ≤ p.block) (u : Value) : Off a b w (w1.setCell p u) :=
  ⟨h.os, h.tape, h.output, by simpa [World.setCell] using h.size, fun i hi ha hb => (Below.heap_setCell _ _ _ _ (by omega)).trans (h.block i hi ha hb)⟩
theorem off_l {a b : Nat} {w w1 : World} (h : Off a a w w1) : Off a b w w1 := ⟨h.os, h.tape, h.output, h.size, fun i hi ha _ => h.block i hi ha ha⟩
theorem off_r {a b : Nat} {w w1 : World} (h : Off b b w w1) : Off a b w w1 := ⟨h.os, h.tape, h.output, h.size, fun i hi _ hb => h.block i hi hb hb⟩
theorem off_grown {a b : Nat} {w w1 w2 : World} (h : Off a b w w1) {row : Option Nat} (hg : w1.grownBy w2 row) (hr : ∀ g, row = some g → w.heap.size ≤ g) : Off a b w w2 :=
  ⟨hg.os.trans h.os, hg.tape.trans h.tape, hg.output.trans h.output, Nat.le_trans h.size hg.size, fun i hi ha hb => (hg.block i (Nat.lt_of_lt_of_le hi h.size) (fun e => by have := hr i e.symm; omega)).trans (h.block i hi ha hb)⟩
/-- Blocks that are the call's own: nothing that was there is turned. -/
theorem bl_off {w0 w w' : World} {a b : Nat} (h : Below w0.heap.size w0 w) (k : Off a b w w') (ha : w0.heap.size ≤ a) (hb : w0.heap.size ≤ b) : Below w0.heap.size w0 w' :=
  ⟨k.os.trans h.os, k.tape.trans h.tape, k.output.trans h.output, Nat.le_trans h.size k.size, fun i hi => (k.block i (Nat.lt_of_lt_of_le hi h.size) (by omega) (by omega)).trans (h.block i hi)⟩
theorem off_blk {a b : Nat} {w w' : World} {i : Nat} {x : Obj} (h : Off a b w w') (e : w.heap[i]? = some x) (ha : i ≠ a) (hb : i ≠ b) : w'.heap[i]? = some x := (h.block i (blk_lt e) ha hb).trans e
theorem off_cell {a b : Nat} {w w' : World} (h : Off a b w w') {p : Addr} {v : Value} (e : w.cell? p = some v) (ha : p.block ≠ a) (hb : p.block ≠ b) : w'.cell? p = some v :=
  (World.cell?_of_block (w := w) (h.block p.block (World.block_lt_of_cell? w _ e) ha hb)).trans e
/-- A slice whose cells stand elsewhere. -/
def Far (a b : Nat) (A : Option Addr) : Prop := ∀ p, A = some p → p.block ≠ a ∧ p.block ≠ b
theorem far_none (a b : Nat) : Far a b none := fun _ h => by cases h
theorem Rd.off {α : Type} {cs : α → List Value} {size : Nat} {w w' : World} {A : Option Addr} {n : Nat} {xs : List α} (h : Rd cs size w A n xs) {a b : Nat} (ho : Off a b w w') (hf : Far a b A) : Rd cs size w' A n xs :=
  ⟨h.1, h.2.1, fun hn => by
    obtain ⟨p, o, e, hc⟩ := h.2.2 hn
    have hp := hf _ e
    refine ⟨p, o, e, fun i x hx j u hu => off_cell ho (hc i x hx j u hu) hp.1 hp.2⟩⟩
end Go.Proofs.YtbmaeaknlpgdmaaGreat
namespace Go.Proofs.YtbmaeaknlpgdmaaGreat
open Go.RowKit
theorem set_push {α : Type} (xs : Array α) (a b : α) : (xs.push a).setIfInBounds xs.size b = xs.push b := by
  apply Array.ext_getElem?
  intro i
  rw [Array.getElem?_setIfInBounds, Array.getElem?_push, Array.getElem?_push]
  by_cases h : i = xs.size
  · subst h; simp
  · simp [h, Ne.symm h]
section
variable {P : Program} {t kt et : TypeId}
theorem chk_int (hk : P.underlying kt = some (.int .i64)) (em : Bool) (n : Nat) (k : Int) (w : World) : (Instr.checkKey em (n + 1) kt (.int .i64 k)).run P w = .ok () w := by
  simp [Instr.checkKey, run_underlying hk]
theorem chk_int' (hk : P.underlying kt = some (.int .i64)) (em : Bool) (k : Int) (w : World) : (Instr.checkKey em 10000 kt (.int .i64 k)).run P w = .ok () w := chk_int hk em 9999 k w
theorem find_now (hk : P.underlying kt = some (.int .i64)) (k : Int) (es : List MapEntry) (r : Option (Nat × Value)) (h : Instr.findNow (.int .i64) (.int .i64 k) es 0 = some r) (w : World) :
    (Instr.findKey kt (.int .i64 k) es).run P w = .ok r w := by
  simp [Instr.findKey, run_underlying hk, h]
theorem run_ins_int (ht : P.underlying t = some (.map kt et)) (hk : P.underlying kt = some (.int .i64)) (W : World) (es : Array MapEntry) (c : Nat) (k : Int) (v : Value)
    (h : Instr.findNow (.int .i64) (.int .i64 k) es.toList 0 = some none) :
    (Instr.mapUpdate t (.map (some W.heap.size)) (.int .i64 k) v).run P (W.alloc (.map es c)) = .ok () (W.alloc (.map (es.push ⟨.int .i64 k, v, c⟩) (c + 1))) := by
  have hb : (W.alloc (.map es c)).heap[W.heap.size]? = some (.map es c) := heap_alloc_new W (.map es c)
  simp [Instr.mapUpdate, run_underlying ht, MapKept.run_getObj_map hb, chk_int' hk, find_now hk k es.toList _ h, MapKept.run_setObj_map _ hb]
  show _ = World.mk _ _ _ _ _
  congr 1
  exact set_push _ _ _
theorem run_look_int (ht : P.underlying t = some (.map kt et)) (hk : P.underlying kt = some (.int .i64)) (W : World) (r : Nat) (es : Array MapEntry) (c : Nat) (hb : W.heap[r]? = some (.map es c)) (k : Int) (i : Nat) (v : Value)
    (h : Instr.findNow (.int .i64) (.int .i64 k) es.toList 0 = some (some (i, v))) :
    (Instr.lookup t (.map (some r)) (.int .i64 k) false).run P W = .ok v W := by
  simp [Instr.lookup, run_underlying ht, MapKept.run_getObj_map hb, chk_int' hk, find_now hk k es.toList _ h]
theorem run_look_none (ht : P.underlying t = some (.map kt et)) (hk : P.underlying kt = some (.int .i64)) (W : World) (r : Nat) (es : Array MapEntry) (c : Nat) (hb : W.heap[r]? = some (.map es c)) (k : Int) (z : Value)
    (hz : ∀ w, (zeroValue et).run P w = .ok z w) (h : Instr.findNow (.int .i64) (.int .i64 k) es.toList 0 = some none) :
    (Instr.lookup t (.map (some r)) (.int .i64 k) false).run P W = .ok z W := by
  simp [Instr.lookup, run_underlying ht, MapKept.run_getObj_map hb, chk_int' hk, find_now hk k es.toList _ h, hz]
end
end Go.Proofs.YtbmaeaknlpgdmaaGreat
namespace Go.Proofs.YtbmaeaknlpgdmaaGreat
open Go.RowKit
section
variable {P : Program} {ops : Array Oper} {rest : List Oper} {Q : Exit → Act → World → Prop}
theorem wl_skip {o : Oper} {a : Act} {w : World} (hw : Region.wanted o (yielded ops a.tmps) = false) (h : wpList P ops Q rest (a.put o.dst undef) w) : wpList P ops Q (o :: rest) a w := by
  unfold wpList; rw [if_neg (by rw [hw]; simp)]; exact h
theorem wl_run {o : Oper} {a : Act} {w : World} (hw : Region.wanted o (yielded ops a.tmps) = true) (h : o.wp P a w (wpList P ops Q rest) Q) : wpList P ops Q (o :: rest) a w := by
  unfold wpList; rw [if_pos hw]; exact .inl h
/-- A place where the walk is to stop: a move under 'not'. -/
theorem atGrp {dst : Option Tmp} {x : Operand} {ty : TypeId} {pos : String} {after : Array Edge} {g : Nat} {a : Act} {w : World} (h : wpList P ops Q (⟨dst, .move x, ty, pos, after, some (g, false)⟩ :: rest) a w) :
    wpList P ops Q (⟨dst, .move x, ty, pos, after, some (g, false)⟩ :: rest) a w := h
/-- [move the function; call it; not; pick (c, true, that)], the first three under 'c is false'. -/
theorem grp {o1 o2 o3 o4 : Oper} {a : Act} {w : World} (b x : Bool) (F : Value)
    (hw1 : Region.wanted o1 (yielded ops a.tmps) = !b) (hw2 : ∀ u1, Region.wanted o2 (yielded ops (a.put o1.dst u1).tmps) = !b) (hw3 : ∀ u1 u2, Region.wanted o3 (yielded ops ((a.put o1.dst u1).put o2.dst u2).tmps) = !b)
    (hw4 : ∀ u1 u2 u3, Region.wanted o4 (yielded ops (((a.put o1.dst u1).put o2.dst u2).put o3.dst u3).tmps) = true)
    (h1 : ∀ K, K (a.put o1.dst F) w → o1.wp P a w K Q)
    (h2 : ∀ K, (∀ W, Below w.heap.size w W → K ((a.put o1.dst F).put o2.dst (.bool (!x))) W) → o2.wp P (a.put o1.dst F) w K Q)
    (h3 : ∀ K W, K (((a.put o1.dst F).put o2.dst (.bool (!x))).put o3.dst (.bool x)) W → o3.wp P ((a.put o1.dst F).put o2.dst (.bool (!x))) W K Q)
    (h4 : ∀ u1 u2 u3 K W, (b = false → u3 = .bool x) → K ((((a.put o1.dst u1).put o2.dst u2).put o3.dst u3).put o4.dst (.bool (b || x))) W → o4.wp P (((a.put o1.dst u1).put o2.dst u2).put o3.dst u3) W K Q)
    (h : ∀ u1 u2 u3 W, Below w.heap.size w W → wpList P ops Q rest ((((a.put o1.dst u1).put o2.dst u2).put o3.dst u3).put o4.dst (.bool (b || x))) W) : wpList P ops Q (o1 :: o2 :: o3 :: o4 :: rest) a w := by
  cases b with
  | true =>
    refine wl_skip hw1 (wl_skip (hw2 _) (wl_skip (hw3 _ _) (wl_run (hw4 _ _ _) (h4 _ _ _ _ _ (by simp) (h _ _ _ _ (Below.refl _ _))))))
  | false =>
    refine wl_run hw1 (h1 _ (wl_run (hw2 _) (h2 _ fun W hW => wl_run (hw3 _ _) (h3 _ _ (wl_run (hw4 _ _ _) (h4 _ _ _ _ _ (fun _ => rfl) (h _ _ _ _ hW)))))))
end
end Go.Proofs.YtbmaeaknlpgdmaaGreat
namespace Go.Proofs.YtbmaeaknlpgdmaaGreat
open Go.RowKit
theorem wpAnyH_sharp {P : Program} {md : Region.Mode} {ops : Array Oper} {Q : Exit → Act → World → Prop} {S S' : World → Prop} (hs : ∀ w, S' w → S w) :
    ∀ (fuel : Nat) (listed : Array Bool) (a : Act) (w : World), wpAnyH P md ops Q S' fuel listed a w → wpAnyH P md ops Q S fuel listed a w
  | 0, _, _, _, h => h
  | fuel + 1, _, _, _, h => ⟨h.1, fun i hi => wpOp_mono (fun a' w' h' => ⟨hs _ h'.1, wpAnyH_sharp hs fuel _ a' w' h'.2⟩) (h.2 i hi)⟩
/-- The library's moves, over a list of operations: the operation comes out written. -/
theorem held_take {P : Program} {md : Region.Mode} {l : List Oper} {Q : Exit → Act → World → Prop} {S : World → Prop} {i : Nat} {oi : Oper} {v : Value} {fuel : Nat} {listed : Array Bool} {a : Act} {w : World} (hi : l[i]? = some oi)
    (hs : Region.noSelect l.toArray = true) (hf : Region.free md l.toArray listed i = true) (hr : (Region.ready md l.toArray listed).contains i = true)
    (hQ : ∀ c a w, Q (.panic c) (a.put oi.dst v) w → Q (.panic c) a w) (hS : S w) (hw : Region.wanted oi (yielded l.toArray a.tmps) = true) (hy : ∀ w, S w → (execOp a.eval oi).run P w = .ok (.value v) w)
    (h : wpAnyH P md l.toArray Q S fuel (listed.setIfInBounds i true) (a.put oi.dst v) w) : wpAnyH P md l.toArray Q S (fuel + 1) listed a w :=
  wpAnyH_take (by simpa using hi) hs hf hr hQ (Or.inl ⟨hw, hy⟩) hS h
theorem held_step {P : Program} {md : Region.Mode} {l : List Oper} {Q : Exit → Act → World → Prop} {S : World → Prop} {fuel : Nat} {listed : Array Bool} {a : Act} {w : World} {i : Nat} {o : Oper} {rs : List Nat} (ho : l[i]? = some o)
    (h : ∀ K' : Act → World → Prop, Shut (∀ a w, S w → (S w → wpAnyH P md l.toArray Q S fuel (listed.setIfInBounds i true) a w) → K' a w) → if Region.wanted o (yielded l.toArray a.tmps) = true then Oper.wp P o a w K' Q else K' (a.put o.dst undef) w)
    (hs : AllReadyH P md l.toArray Q S fuel listed a w rs) : AllReadyH P md l.toArray Q S fuel listed a w (i :: rs) :=
  AllReadyH.cons (by simpa using ho) h hs
end Go.Proofs.YtbmaeaknlpgdmaaGreat
