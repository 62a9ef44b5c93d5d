/- Lemmas on what the functions under this seat compute. -/
import Derived.Test.YtbmaeaknlpgdmaaGreatA05
import Derived.Test.YtbmaeaknlpgdmaaGreatA01
import Derived.Deep.Cut
namespace Go.Proofs.YtbmaeaknlpgdmaaGreat
open Go.RowKit
/-- The world behind a step of the iterator in block b. -/
def World.putI (w : World) (b : Nat) (s : ByteArray) (pos : Nat) : World := { w with heap := w.heap.setIfInBounds b (.stringIter s pos) }
theorem putI_at {w : World} {b : Nat} {s s' : ByteArray} {pos pos' : Nat} (h : w.heap[b]? = some (.stringIter s pos)) : (World.putI w b s' pos').heap[b]? = some (.stringIter s' pos') := by
  have := (Array.getElem?_eq_some_iff.1 h).1
  simp [World.putI, this]
theorem putI_far {w : World} {b b' : Nat} {s' : ByteArray} {pos' : Nat} {x : Obj} (h : w.heap[b]? = some x) (hne : b ≠ b') : (World.putI w b' s' pos').heap[b]? = some x := by
  simp [World.putI, h, Ne.symm hne]
theorem putI_size (w : World) (b : Nat) (s : ByteArray) (pos : Nat) : (World.putI w b s pos).heap.size = w.heap.size := by simp [World.putI]
theorem bl_putI {a w : World} (h : Below a.heap.size a w) {b : Nat} (hb : a.heap.size ≤ b) (s : ByteArray) (pos : Nat) : Below a.heap.size a (World.putI w b s pos) :=
  ⟨h.os, h.tape, h.output, by rw [putI_size]; exact h.size, fun k hk => by
    rw [← h.block k hk]
    simp only [World.putI, Array.getElem?_setIfInBounds]
    rw [if_neg (by omega)]⟩
theorem next_ascii {P : Program} {w : World} {b : Nat} {s : ByteArray} {pos : Nat} (hb : w.heap[b]? = some (.stringIter s pos)) (h : pos < s.size) (ha : (s[pos]'h).toNat < 128) (ty : TypeId) :
    (Instr.next (.pointer (some ⟨b, 0, none⟩)) true ty).run P w = .ok (.tuple #[.bool true, .int .i64 pos, .int .i32 (s[pos]'h).toNat]) (World.putI w b s (pos + 1)) := by
  simp only [Instr.next, getObj, setObj, Sem.run_bind, Sem.run, hb, Result.andThen, h, if_true, decode_ascii s pos h ha]
  simp [goInt, World.putI]
theorem next_end {P : Program} {w : World} {b : Nat} {s : ByteArray} {pos : Nat} (hb : w.heap[b]? = some (.stringIter s pos)) (h : ¬ pos < s.size) (ty : TypeId) :
    (Instr.next (.pointer (some ⟨b, 0, none⟩)) true ty).run P w = .ok (.tuple #[.bool false]) w := by
  simp [Instr.next, getObj, Sem.run, hb, h]
def Ascii (s : ByteArray) : Prop := ∀ i, (h : i < s.size) → (s[i]'h).toNat < 128
def inB (c : Nat) (a : ByteArray) (n : Nat) : Bool := (List.range n).any fun j => byteAt a j == c
def hasB (s a : ByteArray) : Bool := (List.range s.size).any fun i => inB (byteAt s i) a a.size
theorem inB_yes {c q : Nat} {a : ByteArray} (hq : q < a.size) (h : byteAt a q = c) : inB c a a.size = true := by
  unfold inB; exact List.any_eq_true.2 ⟨q, List.mem_range.2 hq, by simp [h]⟩
theorem inB_no {c : Nat} {a : ByteArray} (h : ∀ j, j < a.size → byteAt a j ≠ c) : inB c a a.size = false := by
  unfold inB; rw [List.any_eq_false]; intro j hj; simp; exact h j (List.mem_range.1 hj)
theorem hasB_yes {s a : ByteArray} {k : Nat} (hk : k < s.size) (h : inB (byteAt s k) a a.size = true) : hasB s a = true := by
  unfold hasB; exact List.any_eq_true.2 ⟨k, List.mem_range.2 hk, h⟩
theorem hasB_no {s a : ByteArray} (h : ∀ k, k < s.size → inB (byteAt s k) a a.size = false) : hasB s a = false := by
  unfold hasB; rw [List.any_eq_false]; intro j hj; rw [h j (List.mem_range.1 hj)]; simp

set_option maxRecDepth 100000 in
set_option maxHeartbeats 1000000 in
theorem hasAny_any (s a : ByteArray) (w : World) (hs : Ascii s) (ha : Ascii a) : Pure Tryz.prog 138 #[.string s, .string a] w (.bool (hasB s a)) := by
  have HS := Lib.hid hs
  have HA := Lib.hid ha
  clear hs ha
  go_enter Tryz.func138, Tryz.ntmps138
  go_wp2
  go_loopw [] (fun wr => ∃ pos : Nat, pos ≤ s.size ∧ wr.heap[w.heap.size]? = some (.stringIter s pos) ∧ Below w.heap.size w wr ∧ ∀ j, j < pos → inB (byteAt s j) a a.size = false) (fun wr => s.size - wr.iterPos w.heap.size)
  case atStart => exact ⟨0, Nat.zero_le _, World.iter_heap w s 0, bl_alloc (Below.refl _ _) _, fun j hj => by omega⟩
  case round =>
    obtain ⟨pos, hp, hi, hb, hall⟩ := hrel
    obtain ⟨wo, rfl⟩ : ∃ wo : World, wo = wr := ⟨_, rfl⟩
    have HI := Lib.hid hi
    have Hall := Lib.hid hall
    clear hi hall
    have hz := blk_lt HI.out
    by_cases hlt : pos < s.size
    · have hnx := fun ty => next_ascii (P := Tryz.prog) HI.out hlt (HS.out pos hlt) ty
      go_wp2
      have j1 : (World.putI wo w.heap.size s (pos + 1)).heap[w.heap.size]? = some (.stringIter s (pos + 1)) := putI_at HI.out
      have j2 : Below w.heap.size w (World.putI wo w.heap.size s (pos + 1)) := bl_putI hb (Nat.le_refl _) _ _
      have J1 := Lib.hid j1
      clear j1 hnx
      generalize World.putI wo w.heap.size s (pos + 1) = W1 at J1 j2 ⊢
      have jz := blk_lt J1.out
      go_loopw [] (fun wq => ∃ q : Nat, q ≤ a.size ∧ wq.heap[W1.heap.size]? = some (.stringIter a q) ∧ wq.heap[w.heap.size]? = some (.stringIter s (pos + 1)) ∧ Below w.heap.size w wq ∧ ∀ j, j < q → byteAt a j ≠ byteAt s pos) (fun wq => a.size - wq.iterPos W1.heap.size)
      case atStart => exact ⟨0, Nat.zero_le _, World.iter_heap W1 a 0, blk_old J1.out _, bl_alloc j2 _, fun j hj => by omega⟩
      case round =>
        obtain ⟨q, hq, hi1, hi2, hbq, hall⟩ := hrel
        have HI1 := Lib.hid hi1
        have HI2 := Lib.hid hi2
        have Hall2 := Lib.hid hall
        clear hi1 hi2 hall
        have hz1 := blk_lt HI1.out
        by_cases hlq : q < a.size
        · have hnx := fun ty => next_ascii (P := Tryz.prog) HI1.out hlq (HA.out q hlq) ty
          by_cases hv : ((s[pos].toNat : Nat) : Int) = ((a[q].toNat : Nat) : Int)
          · have E := Lib.hid (hasB_yes hlt (inB_yes hlq (by rw [byteAt_ hlq, byteAt_ hlt]; omega) : inB (byteAt s pos) a a.size = true))
            have hv' : (((s[pos].toNat : Nat) : Int) == ((a[q].toNat : Nat) : Int)) = true := by simpa using hv
            clear hv
            go_wp2
            go_ret
            exact ⟨by rw [E.out]; rfl, bl_putI hbq (by omega) _ _⟩
          · have hv' : (((s[pos].toNat : Nat) : Int) == ((a[q].toNat : Nat) : Int)) = false := by simpa using hv
            have hn : byteAt a q ≠ byteAt s pos := by rw [byteAt_ hlq, byteAt_ hlt]; omega
            have Hn := Lib.hid hn
            clear hv hn
            go_wp2
            go_roundw
            case rel => exact ⟨q + 1, by omega, putI_at HI1.out, putI_far HI2.out (by omega), bl_putI hbq (by omega) _ _, fun j hj => (Nat.lt_succ_iff_lt_or_eq.1 hj).elim (fun h => Hall2.out j h) (fun h => by subst h; exact Hn.out)⟩
            case measure =>
              have e1 : (World.putI wr W1.heap.size a (q + 1)).iterPos W1.heap.size = q + 1 := iterPos_of (putI_at HI1.out)
              have e2 : wr.iterPos W1.heap.size = q := iterPos_of HI1.out
              rw [e1, e2]; omega
        · have hnx := fun ty => next_end (P := Tryz.prog) HI1.out hlq ty
          have E := Lib.hid (inB_no (c := byteAt s pos) (a := a) (fun k hk => Hall2.out k (by omega)))
          go_wp2
          go_roundw
          case rel => exact ⟨pos + 1, by omega, HI2.out, hbq, fun j hj => (Nat.lt_succ_iff_lt_or_eq.1 hj).elim (fun h => Hall.out j h) (fun h => by subst h; exact E.out)⟩
          case measure =>
            have e1 : wr.iterPos w.heap.size = pos + 1 := iterPos_of HI2.out
            have e2 : wo.iterPos w.heap.size = pos := iterPos_of HI.out
            rw [e1, e2]; omega
    · have hnx := fun ty => next_end (P := Tryz.prog) HI.out hlt ty
      have E := Lib.hid (hasB_no (s := s) (a := a) (fun k hk => Hall.out k (by omega)))
      go_wp2
      go_ret
      exact ⟨by rw [E.out]; rfl, hb⟩
end Go.Proofs.YtbmaeaknlpgdmaaGreat
namespace Go.Proofs.YtbmaeaknlpgdmaaGreat
open Go.RowKit
inductive Fld where
  | t | n | c | s | v | w | r | d | o | f
  deriving DecidableEq
def pcode : Fld → UInt8
  | .t => 116 | .n => 110 | .c => 99 | .s => 115 | .v => 118 | .w => 119 | .r => 114 | .d => 100 | .o => 111 | .f => 102
def pstr (l : List Fld) : ByteArray := ⟨(l.map pcode).toArray⟩
def hasF (l : List Fld) (x : Fld) : Bool := l.contains x
theorem pstr_size (l : List Fld) : (pstr l).size = l.length := by simp [pstr, ByteArray.size]
theorem pstr_get (l : List Fld) (i : Nat) (h : i < (pstr l).size) (h' : i < l.length) : (pstr l)[i] = pcode l[i] := by
  have e : (pstr l)[i] = (pstr l).data[i]'h := rfl
  rw [e]
  simp [pstr]
theorem pstr_ascii (l : List Fld) : Ascii (pstr l) := by
  intro i h
  rw [pstr_get l i h (by rw [← pstr_size]; exact h)]
  cases l[i]'(by rw [← pstr_size]; exact h) <;> decide
set_option maxRecDepth 100000 in
theorem zero_any (v : Vl) (w : World) : Pure Tryz.prog 139 #[v.agg] w (.bool (v.k == 0 && goodV v)) := by
  cases hk : (v.k == 0) with
  | false =>
    go_enter Tryz.func139, Tryz.ntmps139
    go_wp2
    go_ret
    exact ⟨rfl, by (repeat (first | assumption | exact Below.refl _ _ | refine bl_drewN ?_ _ | refine bl_drew ?_ | refine bl_alloc ?_ _ | refine bl_step ?_ (by assumption)))⟩
  | true =>
    go_enter Tryz.func139, Tryz.ntmps139
    go_wp2_with fail
    refine (good_any v _).mono ?_
    rintro e w1 ⟨rfl, hb1⟩
    go_wp2
    go_ret
    exact ⟨rfl, by (repeat (first | assumption | exact Below.refl _ _ | refine bl_drewN ?_ _ | refine bl_drew ?_ | refine bl_alloc ?_ _ | refine bl_step ?_ (by assumption)))⟩

set_option maxRecDepth 100000 in
theorem none_any (l a : ByteArray) (B : Nat) (w : World) (hl : Ascii l) (ha : Ascii a) (hc : w.cell? ⟨B, 0, none⟩ = some (.string l)) : Pure Tryz.prog 137 #[.string a, .pointer (some ⟨B, 0, none⟩)] w (.bool (!(hasB l a))) := by
  have HL := Lib.hid hl
  have HA := Lib.hid ha
  clear hl ha
  go_enter Tryz.func137, Tryz.ntmps137
  go_wp2_with fail
  refine (hasAny_any l a _ HL.out HA.out).mono ?_
  rintro e w1 ⟨rfl, hb1⟩
  go_wp2
  go_ret
  exact ⟨rfl, by (repeat (first | assumption | exact Below.refl _ _ | refine bl_drewN ?_ _ | refine bl_drew ?_ | refine bl_alloc ?_ _ | refine bl_step ?_ (by assumption)))⟩

def zeroV (v : Vl) : Bool := v.k == 0 && goodV v
def tt : ByteArray := ⟨#[116]⟩
/-- Are all fields but those zero? -/
def bareB' (s : St) (l : ByteArray) : Bool :=
  (s.t.toList.isEmpty || hasB l ⟨#[116]⟩) && (s.nm.toList.isEmpty || hasB l ⟨#[110]⟩) && (s.c.toList.isEmpty || hasB l ⟨#[99]⟩) && (s.se.toList.isEmpty || hasB l ⟨#[115]⟩) &&
  (zeroV s.v || hasB l ⟨#[118]⟩) && (zeroV s.w || hasB l ⟨#[119]⟩) && (((s.row.length : Nat) : Int) == 0 || hasB l ⟨#[114]⟩) && (((s.cols.length : Nat) : Int) == 0 || hasB l ⟨#[100, 111]⟩) && (!s.fl || hasB l ⟨#[102]⟩)

end Go.Proofs.YtbmaeaknlpgdmaaGreat
