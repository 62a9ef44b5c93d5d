/- The value that bytes begin with, as plain data. The statement of bytes, as plain data: the readers of its parts. Calls that turn two blocks of their caller's and no other; what is left of the bytes stands in the first. -/
import Derived.Test.YtbmaeaknlpgdmaaA03
import Derived.Test.YtbmaeaknlpgdmaaA02
import Derived.Test.YtbmaeaknlpgdmaaA04
import Derived.Test.YtbmaeaknlpgdmaaA22
namespace Go.Proofs.Ytbmaeaknlpgdmaa
open Go.RowKit
set_option linter.unusedVariables false
set_option linter.unusedSimpArgs false
set_option linter.constructorNameAsVariable false
def nov : Vl := ⟨0, 0, 0, ⟨#[]⟩⟩
/-- The whole number of eight bytes. -/
def i64B (u : Nat) : Int := wrap64 (u : Int)
/-- The value of a kind whose bytes r begins with, and how many bytes it has. -/
def bodyD (k : Int) (r : ByteArray) : Option (Vl × Nat) :=
  if k = 0 then some (nov, 0)
  else if k = 1 then if 1 ≤ r.size then some (⟨1, (byteAt r 0 : Int), 0, ⟨#[]⟩⟩, 1) else none
  else if k = 2 then if 8 ≤ r.size then some (⟨2, i64B (numB (r.extract 0 8)), 0, ⟨#[]⟩⟩, 8) else none
  else if k = 3 then if 8 ≤ r.size then (fromF (numB (r.extract 0 8))).map (fun f => (⟨3, 0, f, ⟨#[]⟩⟩, 8)) else none
  else if k = 4 then if 2 ≤ r.size ∧ numB (r.extract 0 2) ≤ r.size - 2 then some (⟨4, 0, 0, r.extract 2 (2 + numB (r.extract 0 2))⟩, 2 + numB (r.extract 0 2)) else none
  else none
/-- The value that r begins with, and how many bytes it has. -/
def decV (r : ByteArray) : Option (Vl × Nat) :=
  if r.size = 0 then none else (bodyD (byteAt r 0) (r.extract 1 r.size)).bind fun x => if goodV x.1 then some (x.1, x.2 + 1) else none
theorem bodyD_size {k : Int} {r : ByteArray} {x : Vl × Nat} (h : bodyD k r = some x) : x.2 ≤ r.size := by
  unfold bodyD at h
  split at h
  · cases h; exact Nat.zero_le _
  split at h
  · split at h
    · cases h; assumption
    · cases h
  split at h
  · split at h
    · cases h; assumption
    · cases h
  split at h
  · split at h
    · simp only [Option.map_eq_some_iff] at h
      obtain ⟨f, _, rfl⟩ := h
      assumption
    · cases h
  split at h
  · split at h
    · cases h; rename_i h1; show 2 + _ ≤ _; omega
    · cases h
  · cases h
theorem fromF_lt {u f : Nat} (h : u < 18446744073709551616) (hf : fromF u = some f) : f < 18446744073709551616 := by
  unfold fromF at hf
  split at hf
  · cases hf; exact unbits_lt h
  · cases hf
theorem numB_lt (s : ByteArray) : numB s < 18446744073709551616 := numTo_lt _ _
theorem bodyD_flt {k : Int} {r : ByteArray} {x : Vl × Nat} (h : bodyD k r = some x) : x.1.f < 18446744073709551616 := by
  unfold bodyD at h
  split at h
  · cases h; exact by show 0 < 18446744073709551616; decide
  split at h
  · split at h
    · cases h; exact by show 0 < 18446744073709551616; decide
    · cases h
  split at h
  · split at h
    · cases h; exact by show 0 < 18446744073709551616; decide
    · cases h
  split at h
  · split at h
    · simp only [Option.map_eq_some_iff] at h
      obtain ⟨f, hf, rfl⟩ := h
      exact fromF_lt (numB_lt _) hf
    · cases h
  split at h
  · split at h
    · cases h; exact by show 0 < 18446744073709551616; decide
    · cases h
  · cases h
theorem extract_sz (r : ByteArray) (a b : Nat) : (r.extract a b).size = min b r.size - a := by simp
theorem decV_body {r : ByteArray} {x : Vl × Nat} (h : decV r = some x) : ∃ n, bodyD (byteAt r 0) (r.extract 1 r.size) = some (x.1, n) ∧ goodV x.1 = true ∧ x.2 = n + 1 ∧ 1 ≤ r.size := by
  unfold decV at h
  split at h
  · cases h
  · rw [Option.bind_eq_some_iff] at h
    obtain ⟨y, hy, h2⟩ := h
    split at h2
    · cases h2
      exact ⟨y.2, hy, by assumption, rfl, by omega⟩
    · cases h2
theorem decV_good {r : ByteArray} {x : Vl × Nat} (h : decV r = some x) : goodV x.1 = true ∧ x.1.f < 18446744073709551616 ∧ 1 ≤ x.2 ∧ x.2 ≤ r.size := by
  obtain ⟨n, h1, h2, h3, h4⟩ := decV_body h
  have h5 := bodyD_size h1
  rw [extract_sz] at h5
  have h6 := bodyD_flt h1
  exact ⟨h2, h6, by omega, by omega⟩
end Go.Proofs.Ytbmaeaknlpgdmaa
namespace Go.Proofs.Ytbmaeaknlpgdmaa
open Go.RowKit
set_option linter.unusedVariables false
set_option linter.unusedSimpArgs false
set_option linter.constructorNameAsVariable false
/-- The next n bytes; what is left. -/
def takeD (n : Nat) (b : ByteArray) : Option (ByteArray × ByteArray) := if n ≤ b.size then some (b.extract 0 n, b.extract n b.size) else none
def numD (b : ByteArray) : Option (Nat × ByteArray) := if 1 ≤ b.size then some (byteAt b 0, b.extract 1 b.size) else none
def nameD (b : ByteArray) : Option (ByteArray × ByteArray) := (numD b).bind fun x => takeD x.1 x.2
def flagD (b : ByteArray) : Option (Bool × ByteArray) := (numD b).bind fun x => if x.1 < 2 then some (x.1 == 1, x.2) else none
def valD (b : ByteArray) : Option (Vl × ByteArray) := (decV b).map fun x => (x.1, b.extract x.2 b.size)
def valsUp : Nat → ByteArray → Option (List Vl × ByteArray)
  | 0, b => some ([], b)
  | k + 1, b => (valsUp k b).bind fun x => (valD x.2).map fun y => (x.1 ++ [y.1], y.2)
def rowD (b : ByteArray) : Option (List Vl × ByteArray) := (numD b).bind fun x => if x.1 ≤ 6 then valsUp x.1 x.2 else none
def colD (b : ByteArray) : Option (Cl × ByteArray) :=
  (nameD b).bind fun n => (numD n.2).bind fun k => (flagD k.2).bind fun f => (valD f.2).map fun v => (⟨n.1, k.1, f.1, v.1⟩, v.2)
def colsUp : Nat → ByteArray → Option (List Cl × ByteArray)
  | 0, b => some ([], b)
  | k + 1, b => (colsUp k b).bind fun x => (colD x.2).map fun y => (x.1 ++ [y.1], y.2)
def colsD (b : ByteArray) : Option (List Cl × ByteArray) := (numD b).bind fun x => if x.1 ≤ 6 then colsUp x.1 x.2 else none
/-- A field read into a statement. -/
def decF (s : St) (b : ByteArray) : Fld → Option (St × ByteArray)
  | .t => (nameD b).map fun x => ({ s with t := x.1 }, x.2)
  | .n => (nameD b).map fun x => ({ s with nm := x.1 }, x.2)
  | .c => (nameD b).map fun x => ({ s with c := x.1 }, x.2)
  | .s => (nameD b).map fun x => ({ s with se := x.1 }, x.2)
  | .v => (valD b).map fun x => ({ s with v := x.1 }, x.2)
  | .w => (valD b).map fun x => ({ s with w := x.1 }, x.2)
  | .r => (rowD b).map fun x => ({ s with row := x.1 }, x.2)
  | .d => (colsD b).map fun x => ({ s with cols := x.1 }, x.2)
  | .o => (colsD b).map fun x => ({ s with cols := x.1 }, x.2)
  | .f => (flagD b).map fun x => ({ s with fl := x.1 }, x.2)
def decTo (s : St) (b : ByteArray) (l : List Fld) : Option (St × ByteArray) := l.foldl (fun r x => r.bind fun y => decF y.1 y.2 x) (some (s, b))
theorem decTo_snoc {s : St} {b : ByteArray} {l : List Fld} {k : Nat} {x : Fld} (h : l[k]? = some x) : decTo s b (l.take (k + 1)) = (decTo s b (l.take k)).bind fun y => decF y.1 y.2 x := by
  rw [take_snoc' h, decTo, List.foldl_append]; rfl
/-- The statement of bytes. -/
def decS (b : ByteArray) : Option St :=
  (numD b).bind fun x => if kindOK x.1 then (decTo (zeroSt x.1) x.2 (fieldsF x.1)).bind fun y => if y.2.size = 0 ∧ goodS y.1 = true then some y.1 else none else none

theorem takeD_le {n : Nat} {b : ByteArray} {x : ByteArray × ByteArray} (h : takeD n b = some x) : x.2.size ≤ b.size ∧ x.1.size = n := by
  unfold takeD at h
  split at h
  · cases h
    show (b.extract n b.size).size ≤ _ ∧ (b.extract 0 n).size = n
    rw [extract_sz, extract_sz]; omega
  · cases h
theorem numD_le {b : ByteArray} {x : Nat × ByteArray} (h : numD b = some x) : x.2.size + 1 = b.size ∧ x.1 < 256 := by
  unfold numD at h
  split at h
  · cases h
    show (b.extract 1 b.size).size + 1 = _ ∧ byteAt b 0 < 256
    rw [extract_sz]
    exact ⟨by omega, byteAt_lt b 0⟩
  · cases h
theorem valD_flt {b : ByteArray} {x : Vl × ByteArray} (h : valD b = some x) : x.1.f < 18446744073709551616 ∧ goodV x.1 = true := by
  unfold valD at h
  rw [Option.map_eq_some_iff] at h
  obtain ⟨y, hy, rfl⟩ := h
  have := decV_good hy
  exact ⟨this.2.1, this.1⟩
theorem valsUp_ok {k : Nat} {b : ByteArray} {x : List Vl × ByteArray} (h : valsUp k b = some x) : x.1.length = k ∧ ∀ v ∈ x.1, v.f < 18446744073709551616 ∧ goodV v = true := by
  induction k generalizing x with
  | zero => cases h; exact ⟨rfl, by simp⟩
  | succ k ih =>
    simp only [valsUp, Option.bind_eq_some_iff, Option.map_eq_some_iff] at h
    obtain ⟨y, hy, z, hz, rfl⟩ := h
    obtain ⟨h1, h2⟩ := ih hy
    refine ⟨by simp [h1], fun v hv => ?_⟩
    simp only [List.mem_append, List.mem_singleton] at hv
    rcases hv with hv | rfl
    · exact h2 v hv
    · exact valD_flt hz
theorem colD_flt {b : ByteArray} {x : Cl × ByteArray} (h : colD b = some x) : x.1.d.f < 18446744073709551616 := by
  simp only [colD, Option.bind_eq_some_iff, Option.map_eq_some_iff] at h
  obtain ⟨_, _, _, _, _, _, y, hy, rfl⟩ := h
  exact (valD_flt hy).1
theorem colsUp_ok {k : Nat} {b : ByteArray} {x : List Cl × ByteArray} (h : colsUp k b = some x) : x.1.length = k ∧ ∀ v ∈ x.1, v.d.f < 18446744073709551616 := by
  induction k generalizing x with
  | zero => cases h; exact ⟨rfl, by simp⟩
  | succ k ih =>
    simp only [colsUp, Option.bind_eq_some_iff, Option.map_eq_some_iff] at h
    obtain ⟨y, hy, z, hz, rfl⟩ := h
    obtain ⟨h1, h2⟩ := ih hy
    refine ⟨by simp [h1], fun v hv => ?_⟩
    simp only [List.mem_append, List.mem_singleton] at hv
    rcases hv with hv | rfl
    · exact h2 v hv
    · exact colD_flt hz
end Go.Proofs.Ytbmaeaknlpgdmaa
namespace Go.Proofs.Ytbmaeaknlpgdmaa
open Go.RowKit
set_option linter.unusedVariables false
set_option linter.unusedSimpArgs false
set_option linter.constructorNameAsVariable false
/-- But for blocks a and b the world w' is as w was. -/
structure Off (a b : Nat) (w w' : World) : Prop where
  os : w'.os = w.os
  tape : w'.tape = w.tape
  output : w'.output = w.output
  size : w.heap.size ≤ w'.heap.size
  block : ∀ i, i < w.heap.size → i ≠ a → i ≠ b → w'.heap[i]? = w.heap[i]?
theorem off_refl (a b : Nat) (w : World) : Off a b w w := ⟨rfl, rfl, rfl, Nat.le_refl _, fun _ _ _ _ => rfl⟩
theorem off_trans {a b : Nat} {w w1 w2 : World} (h : Off a b w w1) (k : Off a b w1 w2) : Off a b w w2 :=
  ⟨k.os.trans h.os, k.tape.trans h.tape, k.output.trans h.output, Nat.le_trans h.size k.size, fun i hi ha hb => (k.block i (Nat.lt_of_lt_of_le hi h.size) ha hb).trans (h.block i hi ha hb)⟩
theorem off_below {a b : Nat} {w w1 w2 : World} (h : Off a b w w1) (k : Below w1.heap.size w1 w2) : Off a b w w2 :=
  off_trans h ⟨k.os, k.tape, k.output, k.size, fun i hi _ _ => k.block i hi⟩
theorem off_alloc {a b : Nat} {w w1 : World} (h : Off a b w w1) (o : Obj) : Off a b w (w1.alloc o) := off_below h (bl_alloc (Below.refl _ _) o)
theorem off_drewN {a b : Nat} {w w1 : World} (h : Off a b w w1) (n : Nat) : Off a b w (w1.drewN n) := off_below h (bl_drewN (Below.refl _ _) n)
theorem off_drew {a b : Nat} {w w1 : World} (h : Off a b w w1) : Off a b w w1.drew := off_below h (bl_drew (Below.refl _ _))
theorem off_set {a b : Nat} {w w1 : World} (h : Off a b w w1) {p : Addr} (hp : p.block = a ∨ p.block = b ∨ w.heap.size ≤ p.block) (u : Value) : Off a b w (w1.setCell p u) :=
  ⟨h.os, h.tape, h.output, by simpa [World.setCell] using h.size, fun i hi ha hb => (Below.heap_setCell _ _ _ _ (by omega)).trans (h.block i hi ha hb)⟩
theorem off_l {a b : Nat} {w w1 : World} (h : Off a a w w1) : Off a b w w1 := ⟨h.os, h.tape, h.output, h.size, fun i hi ha _ => h.block i hi ha ha⟩
theorem off_r {a b : Nat} {w w1 : World} (h : Off b b w w1) : Off a b w w1 := ⟨h.os, h.tape, h.output, h.size, fun i hi _ hb => h.block i hi hb hb⟩
theorem off_grown {a b : Nat} {w w1 w2 : World} (h : Off a b w w1) {row : Option Nat} (hg : w1.grownBy w2 row) (hr : ∀ g, row = some g → w.heap.size ≤ g) : Off a b w w2 :=
  ⟨hg.os.trans h.os, hg.tape.trans h.tape, hg.output.trans h.output, Nat.le_trans h.size hg.size, fun i hi ha hb => (hg.block i (Nat.lt_of_lt_of_le hi h.size) (fun e => by have := hr i e.symm; omega)).trans (h.block i hi ha hb)⟩
/-- Blocks that are the call's own: nothing that was there is turned. -/
theorem bl_off {w0 w w' : World} {a b : Nat} (h : Below w0.heap.size w0 w) (k : Off a b w w') (ha : w0.heap.size ≤ a) (hb : w0.heap.size ≤ b) : Below w0.heap.size w0 w' :=
  ⟨k.os.trans h.os, k.tape.trans h.tape, k.output.trans h.output, Nat.le_trans h.size k.size, fun i hi => (k.block i (Nat.lt_of_lt_of_le hi h.size) (by omega) (by omega)).trans (h.block i hi)⟩
theorem off_blk {a b : Nat} {w w' : World} {i : Nat} {x : Obj} (h : Off a b w w') (e : w.heap[i]? = some x) (ha : i ≠ a) (hb : i ≠ b) : w'.heap[i]? = some x := (h.block i (blk_lt e) ha hb).trans e
theorem off_cell {a b : Nat} {w w' : World} (h : Off a b w w') {p : Addr} {v : Value} (e : w.cell? p = some v) (ha : p.block ≠ a) (hb : p.block ≠ b) : w'.cell? p = some v :=
  (World.cell?_of_block (w := w) (h.block p.block (World.block_lt_of_cell? w _ e) ha hb)).trans e
/-- A slice whose cells stand elsewhere. -/
def Far (a b : Nat) (A : Option Addr) : Prop := ∀ p, A = some p → p.block ≠ a ∧ p.block ≠ b
theorem far_none (a b : Nat) : Far a b none := fun _ h => by cases h
theorem Rd.off {α : Type} {cs : α → List Value} {size : Nat} {w w' : World} {A : Option Addr} {n : Nat} {xs : List α} (h : Rd cs size w A n xs) {a b : Nat} (ho : Off a b w w') (hf : Far a b A) : Rd cs size w' A n xs :=
  ⟨h.1, h.2.1, fun hn => by
    obtain ⟨p, o, e, hc⟩ := h.2.2 hn
    have hp := hf _ e
    refine ⟨p, o, e, fun i x hx j u hu => off_cell ho (hc i x hx j u hu) hp.1 hp.2⟩⟩
/-- The reader's block: the bytes that are left; whether all went well. -/
abbrev RB (br : Nat) (b : ByteArray) (ok : Bool) (w : World) : Prop := w.heap[br]? = some (.cells #[.string b, .bool ok] 55 (0, 0))
/-- What a reader's call leaves: r is what is to be read (none: the bytes are none's); F: what may be answered then. -/
def DPost {α : Type} (br : Nat) (w : World) (val : α → Value) (F : α → Prop) (r : Option (α × ByteArray)) (e : Ending) (w' : World) : Prop :=
  ∃ x b' ok', e = .returned (val x) ∧ RB br b' ok' w' ∧ Off br br w w' ∧ b'.size ≤ 100000 ∧ ((ok' = true ∧ r = some (x, b')) ∨ (ok' = false ∧ r = none ∧ F x))
def okD {α : Type} (ok : Bool) (D : Option (α × ByteArray)) : Option (α × ByteArray) := if ok = true then D else none
end Go.Proofs.Ytbmaeaknlpgdmaa
