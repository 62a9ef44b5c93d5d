/- The words of these proofs: values, columns, statements as plain data; slices that read as lists of them. liverykeep: two values are alike just if they are one. liverykeep: rows. -/
import Derived.Test.YtbmaeaknlpgdmaaProg
import Derived.WalkKit
import Derived.WalkLawsBesides
import Derived.WalkSpells
import Derived.Lib.Hide
import Derived.Deep.AppendLies
import Derived.Deep.Draws
import Derived.Deep.QuietTactic
import Derived.BigQuiet
import Derived.StillTailTactics
import Derived.Deep.RegionHeld3
namespace Go.Proofs.Ytbmaeaknlpgdmaa
open Go.RowKit

/-- A value: its kind, its number, its float's bits, its text. -/
structure Vl where
  k : Int
  n : Int
  f : Nat
  s : ByteArray
  deriving DecidableEq

structure Cl where
  name : ByteArray
  kind : Int
  nn : Bool
  d : Vl
  deriving DecidableEq

abbrev Vl.cs (v : Vl) : List Value := [.int .i64 v.k, .int .i64 v.n, .float .f64 v.f, .string v.s]
abbrev Vl.agg (v : Vl) : Value := .agg #[.int .i64 v.k, .int .i64 v.n, .float .f64 v.f, .string v.s]
abbrev Cl.cs (c : Cl) : List Value := [.string c.name, .int .i64 c.kind, .bool c.nn, .int .i64 c.d.k, .int .i64 c.d.n, .float .f64 c.d.f, .string c.d.s]
abbrev Cl.agg (c : Cl) : Value := .agg #[.string c.name, .int .i64 c.kind, .bool c.nn, .int .i64 c.d.k, .int .i64 c.d.n, .float .f64 c.d.f, .string c.d.s]

/-- A statement. -/
structure St where
  k : Int
  t : ByteArray
  nm : ByteArray
  c : ByteArray
  se : ByteArray
  v : Vl
  w : Vl
  row : List Vl
  cols : List Cl
  fl : Bool
  deriving DecidableEq
/-- A statement as a Go value: R, C: the slices of its row and its columns. -/
abbrev St.agg (s : St) (R C : Value) : Value := .agg #[.int .i64 s.k, .string s.t, .string s.nm, .string s.c, .string s.se, .int .i64 s.v.k, .int .i64 s.v.n, .float .f64 s.v.f, .string s.v.s, .int .i64 s.w.k, .int .i64 s.w.n, .float .f64 s.w.f, .string s.w.s, R, C, .bool s.fl]
def eqV (a b : Vl) : Bool := decide (a = b)
def eqVs (a b : List Vl) : Bool := decide (a = b)
def eqCs (a b : List Cl) : Bool := decide (a = b)

/-- A float's store, for the walk. -/
@[go_sem] theorem run_store_flt (P : Program) (w : World) (a : Addr) (m : Mode) (k : FloatKind) (b : Nat) : (store a (.float k b) m).run P w = stored P w a (.float k b) m := run_store P w a _ m rfl

theorem bcell {W w1 : World} (hb : Below W.heap.size W w1) : (∀ b o, b < W.heap.size → w1.cell? ⟨b, o, none⟩ = W.cell? ⟨b, o, none⟩) ∧ (∀ b o, b < W.heap.size → w1.frozen? ⟨b, o, none⟩ = W.frozen? ⟨b, o, none⟩) :=
  ⟨fun b o h => hb.cell (p := ⟨b, o, none⟩) h, fun b o h => hb.frozen (p := ⟨b, o, none⟩) h⟩
theorem block_of_add (a : Addr) (n : Nat) : (a.add n).block = a.block := by unfold Addr.add; split <;> rfl
theorem add_of_add (a : Addr) (i j : Nat) : (a.add i).add j = a.add (i + j) := by
  unfold Addr.add
  by_cases hi : i = 0 <;> by_cases hj : j = 0 <;> simp [hi, hj, Nat.add_assoc]
theorem below_drewN {B : Nat} {a w : World} (h : Below B a w) (n : Nat) : Below B a (w.drewN n) := ⟨h.os, h.tape, h.output, h.size, h.block⟩

theorem bl_drewN {a w : World} (h : Below a.heap.size a w) (n : Nat) : Below a.heap.size a (w.drewN n) := below_drewN h n
theorem bl_drew {a w : World} (h : Below a.heap.size a w) : Below a.heap.size a w.drew := h.drew
theorem bl_alloc {a w : World} (h : Below a.heap.size a w) (o : Obj) : Below a.heap.size a (w.alloc o) := h.alloc h.size o
theorem bl_step {a w w1 : World} (h : Below a.heap.size a w) (k : Below w.heap.size w w1) : Below a.heap.size a w1 := h.trans (k.mono h.size)
theorem bl_set {a w : World} (h : Below a.heap.size a w) {p : Addr} (hp : a.heap.size ≤ p.block) (u : Value) : Below a.heap.size a (w.setCell p u) := h.setCell hp u

/-- A call that answers v and turns nothing that was there. -/
abbrev Pure (P : Program) (f : FuncId) (args : Array Value) (w : World) (v : Value) : Prop :=
  Calls P f args w fun e w' => e = .returned v ∧ Below w.heap.size w w'

theorem ret_int {k : IntKind} {a b : Int} (h : a = b) : Ending.returned (.int k a) = .returned (.int k b) := by rw [h]
theorem ret_bool {a b : Bool} (h : a = b) : Ending.returned (.bool a) = .returned (.bool b) := by rw [h]
theorem pw_cell {w w1 : World} (h : Below w.heap.size w w1) {a : Addr} {v : Value} (hc : w.cell? a = some v) : w1.cell? a = some v := (h.cell (World.block_lt_of_cell? w a hc)).trans hc
/-- A slice of n elements at A, of several cells each (cs x: the cells of one), reads as the list xs. -/
def Rd {α : Type} (cs : α → List Value) (size : Nat) (w : World) (A : Option Addr) (n : Nat) (xs : List α) : Prop :=
  xs.length = n ∧ n ≤ 9223372036854775807 ∧ (0 < n → ∃ b o, A = some ⟨b, o, none⟩ ∧ ∀ i x, xs[i]? = some x → ∀ j u, (cs x)[j]? = some u → w.cell? ⟨b, o + i * size + j, none⟩ = some u)
abbrev RdV (w : World) (A : Option Addr) (n : Nat) (xs : List Vl) : Prop := Rd Vl.cs 4 w A n xs
abbrev RdC (w : World) (A : Option Addr) (n : Nat) (xs : List Cl) : Prop := Rd Cl.cs 7 w A n xs
theorem Rd.keep {α : Type} {cs : α → List Value} {size : Nat} {w w' : World} {A : Option Addr} {n : Nat} {xs : List α} (h : Rd cs size w A n xs) (hb : Below w.heap.size w w') : Rd cs size w' A n xs :=
  ⟨h.1, h.2.1, fun hn => by
    obtain ⟨b, o, e, hc⟩ := h.2.2 hn
    refine ⟨b, o, e, fun i x hx j u hu => ?_⟩
    have h1 := hc i x hx j u hu
    rwa [hb.cell (World.block_lt_of_cell? w _ h1)]⟩

/-- Element k of a slice of values: where it stands, and its four cells, as a walk asks for them. -/
theorem RdV.at_ {w w' : World} {A : Option Addr} {n : Nat} {xs : List Vl} (h : RdV w A n xs) (hb : Below w.heap.size w w') {k : Nat} (hk : k < n) :
    ∃ b o kk nn f s, A = some ⟨b, o, none⟩ ∧ xs[k]? = some ⟨kk, nn, f, s⟩ ∧ w'.cell? ⟨b, o + k * 4, none⟩ = some (.int .i64 kk) ∧ w'.cell? ⟨b, o + k * 4 + 1, none⟩ = some (.int .i64 nn) ∧
      w'.cell? ⟨b, o + k * 4 + 2, none⟩ = some (.float .f64 f) ∧ w'.cell? ⟨b, o + k * 4 + 3, none⟩ = some (.string s) ∧ b < w.heap.size := by
  obtain ⟨b, o, e, hc⟩ := h.2.2 (by omega)
  have hl : k < xs.length := by rw [h.1]; exact hk
  have hx : xs[k]? = some xs[k] := List.getElem?_eq_getElem hl
  have hg := hc k _ hx
  refine ⟨b, o, xs[k].k, xs[k].n, xs[k].f, xs[k].s, e, hx, pw_cell hb (hg 0 _ rfl), pw_cell hb (hg 1 _ rfl), pw_cell hb (hg 2 _ rfl), pw_cell hb (hg 3 _ rfl), World.block_lt_of_cell? w _ (hg 0 _ rfl)⟩

theorem RdV.get_ {w w' : World} {A : Option Addr} {n : Nat} {xs : List Vl} (h : RdV w A n xs) (hb : Below w.heap.size w w') {k : Nat} (hk : k < n) :
    ∃ b o x, A = some ⟨b, o, none⟩ ∧ xs[k]? = some x ∧ w'.cell? ⟨b, o + k * 4, none⟩ = some (.int .i64 x.k) ∧ w'.cell? ⟨b, o + k * 4 + 1, none⟩ = some (.int .i64 x.n) ∧
      w'.cell? ⟨b, o + k * 4 + 2, none⟩ = some (.float .f64 x.f) ∧ w'.cell? ⟨b, o + k * 4 + 3, none⟩ = some (.string x.s) ∧ b < w.heap.size := by
  obtain ⟨b, o, kk, nn, f, s, h1, h2, h3⟩ := h.at_ hb hk
  exact ⟨b, o, ⟨kk, nn, f, s⟩, h1, h2, h3⟩
theorem RdC.get_ {w w' : World} {A : Option Addr} {n : Nat} {xs : List Cl} (h : RdC w A n xs) (hb : Below w.heap.size w w') {k : Nat} (hk : k < n) :
    ∃ b o x, A = some ⟨b, o, none⟩ ∧ xs[k]? = some x ∧ w'.cell? ⟨b, o + k * 7, none⟩ = some (.string x.name) ∧ w'.cell? ⟨b, o + k * 7 + 1, none⟩ = some (.int .i64 x.kind) ∧ w'.cell? ⟨b, o + k * 7 + 2, none⟩ = some (.bool x.nn) ∧
      w'.cell? ⟨b, o + k * 7 + 3, none⟩ = some (.int .i64 x.d.k) ∧ w'.cell? ⟨b, o + k * 7 + 4, none⟩ = some (.int .i64 x.d.n) ∧ w'.cell? ⟨b, o + k * 7 + 5, none⟩ = some (.float .f64 x.d.f) ∧ w'.cell? ⟨b, o + k * 7 + 6, none⟩ = some (.string x.d.s) ∧ b < w.heap.size := by
  obtain ⟨b, o, e, hc⟩ := h.2.2 (by omega)
  have hl : k < xs.length := by rw [h.1]; exact hk
  have hx : xs[k]? = some xs[k] := List.getElem?_eq_getElem hl
  have hg := hc k _ hx
  exact ⟨b, o, xs[k], e, hx, pw_cell hb (hg 0 _ rfl), pw_cell hb (hg 1 _ rfl), pw_cell hb (hg 2 _ rfl), pw_cell hb (hg 3 _ rfl), pw_cell hb (hg 4 _ rfl), pw_cell hb (hg 5 _ rfl), pw_cell hb (hg 6 _ rfl), World.block_lt_of_cell? w _ (hg 0 _ rfl)⟩
/-- A block known whole, for the walk. -/
theorem blk_rules {w : World} {b : Nat} {L : Array Value} {T : TypeId} (h : w.heap[b]? = some (.cells L T (0, 0))) : (∀ j, w.cell? ⟨b, j, none⟩ = L[j]?) ∧ (∀ j, w.frozen? ⟨b, j, none⟩ = false) :=
  ⟨fun j => cell_of_row w b j L T (0, 0) h, fun j => by simp [World.frozen?, h]⟩
theorem blk_new (w : World) (o : Obj) : (w.alloc o).heap[w.heap.size]? = some o := heap_alloc_new w o
theorem blk_old {w : World} {b : Nat} {x : Obj} (h : w.heap[b]? = some x) (o : Obj) : (w.alloc o).heap[b]? = some x := (Below.heap_alloc w o b (Array.getElem?_eq_some_iff.1 h).1).trans h
theorem blk_lt {w : World} {b : Nat} {x : Obj} (h : w.heap[b]? = some x) : b < w.heap.size := (Array.getElem?_eq_some_iff.1 h).1
theorem blk_below {w w1 : World} {b : Nat} {x : Obj} (h : w.heap[b]? = some x) (hb : Below w.heap.size w w1) : w1.heap[b]? = some x := (hb.block b (blk_lt h)).trans h
theorem blk_grown {w w1 : World} {b : Nat} {x : Obj} {row : Option Nat} (h : w.heap[b]? = some x) (hg : w.grownBy w1 row) (hne : some b ≠ row) : w1.heap[b]? = some x := (hg.block b (blk_lt h) hne).trans h
theorem blk_far {w : World} {b : Nat} {x : Obj} (h : w.heap[b]? = some x) {p : Addr} (hp : b ≠ p.block) (u : Value) : (w.setCell p u).heap[b]? = some x := (Below.heap_setCell w p u b hp).trans h
theorem blk_set {w : World} {b : Nat} {L : Array Value} {T : TypeId} (h : w.heap[b]? = some (.cells L T (0, 0))) (i : Nat) (u : Value) : (w.setCell ⟨b, i, none⟩ u).heap[b]? = some (.cells (L.setIfInBounds i u) T (0, 0)) := by
  simp [World.setCell, Array.getElem?_modify, h]
theorem blk_set_eq {w : World} {b : Nat} {L L' : Array Value} {T : TypeId} (h : w.heap[b]? = some (.cells L T (0, 0))) (i : Nat) (u : Value) (e : L.setIfInBounds i u = L') : (w.setCell ⟨b, i, none⟩ u).heap[b]? = some (.cells L' T (0, 0)) := by
  rw [blk_set h, e]
theorem take_snoc' {α : Type} {xs : List α} {k : Nat} {x : α} (h : xs[k]? = some x) : xs.take (k + 1) = xs.take k ++ [x] := by
  obtain ⟨hk, rfl⟩ := List.getElem?_eq_some_iff.1 h
  rw [List.take_succ_eq_append_getElem hk]

theorem str_beq (s s' : ByteArray) : (s.toList == s'.toList) = decide (s = s') := by
  rw [Bool.eq_iff_iff]
  simp only [beq_iff_eq, decide_eq_true_eq, ByteArray.toList_eq]
  exact ⟨fun h => ByteArray.ext (Array.toList_inj.mp h), fun h => by rw [h]⟩
theorem str_beq_nil (s : ByteArray) : s.toList.isEmpty = decide (s = ByteArray.empty) := by
  rw [Bool.eq_iff_iff]
  simp only [List.isEmpty_iff, decide_eq_true_eq, ByteArray.toList_eq]
  exact ⟨fun h => ByteArray.ext (Array.toList_inj.mp h), fun h => by rw [h]; rfl⟩
end Go.Proofs.Ytbmaeaknlpgdmaa
namespace Go.Proofs.Ytbmaeaknlpgdmaa
open Go.RowKit
theorem Try.float64bits (b : Nat) (w : World) : (callFunc 60 #[.float .f64 b]).run Try.prog w = .ok (.value (.int .u64 b)) w := by kernel_rfl

set_option maxHeartbeats 1000000 in
theorem keepValue_any (k n : Int) (f : Nat) (s : ByteArray) (k' n' : Int) (f' : Nat) (s' : ByteArray) (w : World) :
    Pure Try.prog 29 #[.agg #[.int .i64 k, .int .i64 n, .float .f64 f, .string s], .agg #[.int .i64 k', .int .i64 n', .float .f64 f', .string s']] w (.bool (decide ((⟨k, n, f, s⟩ : Vl) = ⟨k', n', f', s'⟩))) := by
  have hfb := Try.float64bits
  by_cases h1 : (k == k') = true
  · by_cases h2 : (n == n') = true
    · by_cases h3 : ((f : Int) == (f' : Int)) = true
      · have hd : decide ((⟨k, n, f, s⟩ : Vl) = ⟨k', n', f', s'⟩) = (s.toList == s'.toList) := by
          have h3' : f = f' := by simp at h3; omega
          simp at h1 h2; rw [str_beq]; simp [h1, h2, h3']
        have H := Lib.hid hd; clear hd
        go_enter Try.func29, Try.ntmps29
        go_wp2
        go_quiet (fail)
        go_wp2
        go_ret
        exact ⟨by rw [H.out]; rfl, by (repeat (first | assumption | exact Below.refl _ _ | refine bl_drewN ?_ _ | refine bl_drew ?_ | refine bl_alloc ?_ _ | refine bl_step ?_ (by assumption)))⟩
      · have h3' : ((f : Int) == (f' : Int)) = false := by simpa using h3
        have hd : decide ((⟨k, n, f, s⟩ : Vl) = ⟨k', n', f', s'⟩) = false := by
          have h : ¬ f = f' := by simp at h3; omega
          simp [h]
        clear h3
        have H := Lib.hid hd; clear hd
        go_enter Try.func29, Try.ntmps29
        go_wp2
        go_quiet (fail)
        go_wp2
        go_ret
        exact ⟨by rw [H.out]; rfl, by (repeat (first | assumption | exact Below.refl _ _ | refine bl_drewN ?_ _ | refine bl_drew ?_ | refine bl_alloc ?_ _ | refine bl_step ?_ (by assumption)))⟩
    · have h2' : (n == n') = false := by simpa using h2
      have hd : decide ((⟨k, n, f, s⟩ : Vl) = ⟨k', n', f', s'⟩) = false := by simp at h2; simp [h2]
      clear h2
      have H := Lib.hid hd; clear hd
      go_enter Try.func29, Try.ntmps29
      go_wp2
      go_quiet (fail)
      go_wp2
      go_ret
      exact ⟨by rw [H.out]; rfl, by (repeat (first | assumption | exact Below.refl _ _ | refine bl_drewN ?_ _ | refine bl_drew ?_ | refine bl_alloc ?_ _ | refine bl_step ?_ (by assumption)))⟩
  · have h1' : (k == k') = false := by simpa using h1
    have hd : decide ((⟨k, n, f, s⟩ : Vl) = ⟨k', n', f', s'⟩) = false := by simp at h1; simp [h1]
    clear h1
    have H := Lib.hid hd; clear hd
    go_enter Try.func29, Try.ntmps29
    go_wp2
    go_quiet (fail)
    go_wp2
    go_ret
    exact ⟨by rw [H.out]; rfl, by (repeat (first | assumption | exact Below.refl _ _ | refine bl_drewN ?_ _ | refine bl_drew ?_ | refine bl_alloc ?_ _ | refine bl_step ?_ (by assumption)))⟩
end Go.Proofs.Ytbmaeaknlpgdmaa
namespace Go.Proofs.Ytbmaeaknlpgdmaa
open Go.RowKit
set_option maxHeartbeats 1000000 in
set_option maxRecDepth 100000 in
theorem keepValues_any (A A' : Option Addr) (n c n' c' : Nat) (xs ys : List Vl) (w : World) (hx : RdV w A n xs) (hy : RdV w A' n' ys) :
    Pure Try.prog 30 #[.slice A n c, .slice A' n' c'] w (.bool (decide (xs = ys))) := by
  have hxl := hx.1
  have hyl := hy.1
  have hxm := hx.2.1
  by_cases hn : ((n : Int) != (n' : Int)) = true
  · have hd : decide (xs = ys) = false := by
      simp at hn ⊢; rintro rfl; omega
    have H := Lib.hid hd; clear hd hxl hyl hx hy
    go_enter Try.func30, Try.ntmps30
    go_wp2
    go_ret
    exact ⟨by rw [H.out]; rfl, by (repeat (first | assumption | exact Below.refl _ _ | refine bl_drewN ?_ _ | refine bl_drew ?_ | refine bl_alloc ?_ _ | refine bl_step ?_ (by assumption)))⟩
  · obtain rfl : n = n' := by simp at hn; omega
    clear hn
    have Hx := Lib.hid hxl
    have Hy := Lib.hid hyl
    have HX := Lib.hid hx
    have HY := Lib.hid hy
    clear hxl hyl hx hy
    go_enter Try.func30, Try.ntmps30
    go_wp2
    go_loopw [5] (fun i wr => ∃ k : Nat, k ≤ n ∧ i = .int .i64 k ∧ xs.take k = ys.take k ∧ Below w.heap.size w wr) (fun i _ => n - (intOf i).toNat)
    case atStart => exact ⟨0, Nat.zero_le _, rfl, rfl, Below.refl _ _⟩
    case round =>
      obtain ⟨k, hk, rfl, hxy, hb⟩ := hrel
      by_cases hlt : k < n
      · obtain ⟨b1, o1, k1, n1, f1, s1, hA, hxk, x0, x1, x2, x3, hb1⟩ := HX.out.at_ hb hlt
        obtain ⟨b2, o2, k2, n2, f2, s2, hA', hyk, y0, y1, y2, y3, hb2⟩ := HY.out.at_ hb hlt
        subst hA hA'
        have Hxk := Lib.hid hxk
        have Hyk := Lib.hid hyk
        have Hxy := Lib.hid hxy
        clear hxk hyk hxy
        go_wp2
        go_still_tail 8, (by kernel_rfl)
        change wpList _ _ _ _ _ wr.drew
        go_wp2_with fail
        refine (keepValue_any k1 n1 f1 s1 k2 n2 f2 s2 _).mono ?_
        rintro e w1 ⟨rfl, hb1⟩
        by_cases hv : (⟨k1, n1, f1, s1⟩ : Vl) = ⟨k2, n2, f2, s2⟩
        · have hdv := decide_eq_true hv
          rw [hdv]
          have Hv := Lib.hid hv
          clear hv hdv x0 x1 x2 x3 y0 y1 y2 y3
          go_wp2
          go_roundw
          case rel => exact ⟨k + 1, by omega, by go_num, by rw [take_snoc' Hxk.out, take_snoc' Hyk.out, Hxy.out, Hv.out], bl_step (bl_drew hb) hb1⟩
          case measure => simp [intOf]; omega
        · have hdv := decide_eq_false hv
          rw [hdv]
          have hd : decide (xs = ys) = false := by
            simp; rintro rfl; exact hv (Option.some.inj (Hxk.out.symm.trans Hyk.out))
          have H := Lib.hid hd
          clear hv hdv hd x0 x1 x2 x3 y0 y1 y2 y3
          go_wp2
          go_ret
          exact ⟨by rw [H.out]; rfl, bl_step (bl_drew hb) hb1⟩
      · obtain rfl : k = n := by omega
        have hd : decide (xs = ys) = true := by
          simp; rw [← List.take_of_length_le (Nat.le_of_eq Hx.out), hxy, List.take_of_length_le (Nat.le_of_eq Hy.out)]
        have H := Lib.hid hd
        clear hd hxy
        go_wp2
        go_ret
        exact ⟨by rw [H.out]; rfl, hb⟩
end Go.Proofs.Ytbmaeaknlpgdmaa
