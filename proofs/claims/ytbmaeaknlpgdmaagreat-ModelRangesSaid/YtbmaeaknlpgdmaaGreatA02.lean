/- Maps whose keys are texts, entry by entry as they lie: what is asked, laid, struck out, gone through. -/
import Derived.Test.YtbmaeaknlpgdmaaGreatA01
import Derived.Maps.RangeWalk
import Derived.Maps.OwnSet
namespace Go.Proofs.YtbmaeaknlpgdmaaGreat
open Go.RowKit
open Go.ChangeMaps (setBlock heap_setBlock_same heap_setBlock_other)
set_option linter.unusedVariables false
set_option linter.unusedSimpArgs false
/-- Block b is a map with these entries, in this order. -/
def MapAt (w : World) (b : Nat) (K : List (ByteArray × Value)) : Prop :=
  ∃ es clock, w.heap[b]? = some (.map es clock) ∧ es.toList.map (fun e => (e.key, e.val)) = K.map (fun p => (Value.string p.1, p.2)) ∧ (∀ e ∈ es.toList, e.born < clock) ∧ (es.toList.map (·.born)).Nodup
theorem MapAt.lt {w : World} {b : Nat} {K : List (ByteArray × Value)} (h : MapAt w b K) : b < w.heap.size := by
  obtain ⟨es, c, hb, _⟩ := h; exact blk_lt hb
theorem MapAt.of_blk {w w' : World} {b : Nat} {K : List (ByteArray × Value)} (h : MapAt w b K) (e : w'.heap[b]? = w.heap[b]?) : MapAt w' b K := by
  obtain ⟨es, c, hb, r⟩ := h; exact ⟨es, c, e.trans hb, r⟩
theorem MapAt.keep {w w' : World} {b : Nat} {K : List (ByteArray × Value)} (h : MapAt w b K) (hb : Below w.heap.size w w') : MapAt w' b K := h.of_blk (hb.block b h.lt)
theorem MapAt.off {w w' : World} {b x y : Nat} {K : List (ByteArray × Value)} (h : MapAt w b K) (ho : Off x y w w') (hx : b ≠ x) (hy : b ≠ y) : MapAt w' b K := h.of_blk (ho.block b h.lt hx hy)
theorem MapAt.set_ {w : World} {b : Nat} {K : List (ByteArray × Value)} (h : MapAt w b K) {p : Addr} (hp : b ≠ p.block) (u : Value) : MapAt (w.setCell p u) b K := h.of_blk (Below.heap_setCell w p u b hp)
theorem mapAt_new (w : World) : MapAt (w.alloc (.map #[] 0)) w.heap.size [] := ⟨#[], 0, blk_new w _, rfl, by simp, by simp⟩
/-- The place of a key, and what stands there. -/
def getK (s : ByteArray) : List (ByteArray × Value) → Nat → Option (Nat × Value)
  | [], _ => none
  | p :: r, i => if s = p.1 then some (i, p.2) else getK s r (i + 1)
theorem getK_spec {s : ByteArray} : ∀ {K : List (ByteArray × Value)} {i j : Nat} {v : Value}, getK s K i = some (j, v) → i ≤ j ∧ K[j - i]? = some (s, v)
  | [], _, _, _, h => by cases h
  | p :: r, i, j, v, h => by
    unfold getK at h
    split at h
    · rename_i hs
      cases h
      exact ⟨Nat.le_refl _, by rw [Nat.sub_self]; simp [hs]⟩
    · have := getK_spec h
      refine ⟨by omega, ?_⟩
      rw [show j - i = (j - (i + 1)) + 1 by omega, List.getElem?_cons_succ]
      exact this.2
theorem getK_none {s : ByteArray} : ∀ {K : List (ByteArray × Value)} {i : Nat}, getK s K i = none ↔ ∀ p ∈ K, p.1 ≠ s
  | [], _ => by simp [getK]
  | p :: r, i => by
    unfold getK
    by_cases hs : s = p.1
    · rw [if_pos hs]
      exact ⟨fun h => (by cases h), fun h => absurd hs.symm (h p List.mem_cons_self)⟩
    · rw [if_neg hs, getK_none]
      exact ⟨fun h q hq => (List.mem_cons.1 hq).elim (fun e => by rw [e]; exact Ne.symm hs) (h q), fun h q hq => h q (List.mem_cons_of_mem _ hq)⟩
theorem ba_beq (a b : ByteArray) : (a == b) = decide (a = b) := by
  show (a.data == b.data) = _
  rw [Bool.eq_iff_iff]; simp [ByteArray.ext_iff]
theorem map_erase {α β : Type} (f : α → β) : ∀ (l : List α) (j : Nat), (l.eraseIdx j).map f = (l.map f).eraseIdx j
  | [], _ => by simp
  | _ :: _, 0 => by simp
  | x :: l, j + 1 => by simp [map_erase f l j]
theorem findNow_str (s : ByteArray) : ∀ (es : List MapEntry) (K : List (ByteArray × Value)) (i : Nat), es.map (fun e => (e.key, e.val)) = K.map (fun p => (Value.string p.1, p.2)) → Instr.findNow .string (.string s) es i = some (getK s K i)
  | [], [], _, _ => rfl
  | [], _ :: _, _, h => by simp at h
  | _ :: _, [], _, h => by simp at h
  | e :: es, p :: K, i, h => by
    simp only [List.map_cons, List.cons.injEq, Prod.mk.injEq] at h
    obtain ⟨⟨h1, h2⟩, h3⟩ := h
    unfold Instr.findNow getK
    rw [h1]
    simp only [Instr.sameNow, ba_beq]
    by_cases hs : s = p.1
    · subst hs
      simp [h2]
    · have : decide (s = p.1) = false := by simpa using hs
      simp only [this, hs, if_false]
      exact findNow_str s es K (i + 1) h3
section
variable {P : Program} {t kt et : TypeId}
theorem chk_str (hk : P.underlying kt = some .string) (em : Bool) (n : Nat) (s : ByteArray) (w : World) : (Instr.checkKey em (n + 1) kt (.string s)).run P w = .ok () w := by
  simp [Instr.checkKey, run_underlying hk]
theorem chk_str' (hk : P.underlying kt = some .string) (em : Bool) (s : ByteArray) (w : World) : (Instr.checkKey em 10000 kt (.string s)).run P w = .ok () w := chk_str hk em 9999 s w
theorem find_str (hk : P.underlying kt = some .string) (s : ByteArray) {es : List MapEntry} {K : List (ByteArray × Value)} (h : es.map (fun e => (e.key, e.val)) = K.map (fun p => (Value.string p.1, p.2))) (w : World) :
    (Instr.findKey kt (.string s) es).run P w = .ok (getK s K 0) w := by
  simp [Instr.findKey, run_underlying hk, findNow_str s es K 0 h]
/-- m[k]: what stands there. -/
theorem run_look_str (ht : P.underlying t = some (.map kt et)) (hk : P.underlying kt = some .string) {w : World} {b : Nat} {K : List (ByteArray × Value)} (hm : MapAt w b K) (s : ByteArray) {i : Nat} {v : Value} (h : getK s K 0 = some (i, v)) :
    (Instr.lookup t (.map (some b)) (.string s) false).run P w = .ok v w := by
  obtain ⟨es, c, hb, he, _⟩ := hm
  simp [Instr.lookup, run_underlying ht, MapKept.run_getObj_map hb, chk_str' hk, find_str hk s he, h]
theorem run_look_str_none (ht : P.underlying t = some (.map kt et)) (hk : P.underlying kt = some .string) {w : World} {b : Nat} {K : List (ByteArray × Value)} (hm : MapAt w b K) (s : ByteArray) {z : Value} (hz : ∀ w, (zeroValue et).run P w = .ok z w) (h : getK s K 0 = none) :
    (Instr.lookup t (.map (some b)) (.string s) false).run P w = .ok z w := by
  obtain ⟨es, c, hb, he, _⟩ := hm
  simp [Instr.lookup, run_underlying ht, MapKept.run_getObj_map hb, chk_str' hk, find_str hk s he, h, hz]
theorem run_look_str_ok (ht : P.underlying t = some (.map kt et)) (hk : P.underlying kt = some .string) {w : World} {b : Nat} {K : List (ByteArray × Value)} (hm : MapAt w b K) (s : ByteArray) {z : Value} (hz : ∀ w, (zeroValue et).run P w = .ok z w) :
    (Instr.lookup t (.map (some b)) (.string s) true).run P w = .ok (match getK s K 0 with | some x => .tuple #[x.2, .bool true] | none => .tuple #[z, .bool false]) w := by
  obtain ⟨es, c, hb, he, _⟩ := hm
  cases h : getK s K 0 with
  | none => simp [Instr.lookup, run_underlying ht, MapKept.run_getObj_map hb, chk_str' hk, find_str hk s he, h, hz]
  | some x => obtain ⟨i, v⟩ := x; simp [Instr.lookup, run_underlying ht, MapKept.run_getObj_map hb, chk_str' hk, find_str hk s he, h]
theorem off_setBlock {w : World} {b : Nat} {es : Array MapEntry} {c : Nat} (hb : w.heap[b]? = some (.map es c)) (o : Obj) : Off b b w (setBlock w b o) :=
  ⟨rfl, rfl, rfl, by simp [setBlock], fun i _ hi _ => heap_setBlock_other hb o hi⟩
/-- m[k] = v, where k is not there: one entry more. -/
theorem run_ins_str (ht : P.underlying t = some (.map kt et)) (hk : P.underlying kt = some .string) {w : World} {b : Nat} {K : List (ByteArray × Value)} (hm : MapAt w b K) (s : ByteArray) (v : Value) (h : getK s K 0 = none) :
    ∃ w', (Instr.mapUpdate t (.map (some b)) (.string s) v).run P w = .ok () w' ∧ MapAt w' b (K ++ [(s, v)]) ∧ Off b b w w' ∧ w'.heap.size = w.heap.size := by
  obtain ⟨es, c, hb, he, hs, hn⟩ := hm
  refine ⟨setBlock w b (.map (es.push ⟨.string s, v, c⟩) (c + 1)), ?_, ⟨_, _, heap_setBlock_same hb _, ?_, ?_, ?_⟩, off_setBlock hb _, by simp [setBlock]⟩
  · simp [Instr.mapUpdate, run_underlying ht, MapKept.run_getObj_map hb, chk_str' hk, find_str hk s he, h, MapKept.run_setObj_map _ hb, setBlock]
  · simp [he]
  · intro e hm
    simp only [Array.toList_push, List.mem_append, List.mem_singleton] at hm
    rcases hm with hm | rfl
    · have := hs e hm; omega
    · exact Nat.lt_succ_self _
  · simp only [Array.toList_push, List.map_append, List.map_cons, List.map_nil]
    rw [List.nodup_append]
    refine ⟨hn, by simp, fun x hx y hy => ?_⟩
    obtain ⟨e, he', rfl⟩ := List.mem_map.1 hx
    simp only [List.mem_singleton] at hy
    subst hy
    have := hs e he'
    omega
/-- delete(m, k), where k is there. -/
theorem run_del_str (ht : P.underlying t = some (.map kt et)) (hk : P.underlying kt = some .string) {w : World} {b : Nat} {K : List (ByteArray × Value)} (hm : MapAt w b K) (s : ByteArray) (ty : TypeId) {i : Nat} {v : Value} (h : getK s K 0 = some (i, v)) :
    ∃ w', (Builtin.delete_ #[t, kt] ty #[.map (some b), .string s]).run P w = .ok (.tuple #[]) w' ∧ MapAt w' b (K.eraseIdx i) ∧ Off b b w w' ∧ w'.heap.size = w.heap.size := by
  obtain ⟨es, c, hb, he, hs, hn⟩ := hm
  have hi : i < es.size := by
    have h1 := (getK_spec h).2
    have h2 := (List.getElem?_eq_some_iff.1 h1).1
    have h3 := congrArg List.length he
    simp at h3
    omega
  have ee : (es.eraseIdxIfInBounds i).toList = es.toList.eraseIdx i := by
    unfold Array.eraseIdxIfInBounds
    rw [dif_pos hi]
    simp
  refine ⟨setBlock w b (.map (es.eraseIdxIfInBounds i) c), ?_, ⟨_, _, heap_setBlock_same hb _, ?_, ?_, ?_⟩, off_setBlock hb _, by simp [setBlock]⟩
  · simp [Builtin.delete_, run_underlying ht, MapKept.run_getObj_map hb, chk_str' hk, find_str hk s he, h, MapKept.run_setObj_map _ hb, setBlock]
  · rw [ee, map_erase, map_erase, he]
  · intro e hm
    rw [ee] at hm
    exact hs e (List.mem_of_mem_eraseIdx hm)
  · rw [ee, map_erase]
    exact hn.eraseIdx i
theorem run_len_str (ht : P.underlying t = some (.map kt et)) {w : World} {b : Nat} {K : List (ByteArray × Value)} (hm : MapAt w b K) (ty : TypeId) : (Builtin.len_ #[t] ty #[.map (some b)]).run P w = .ok (.int .i64 K.length) w := by
  obtain ⟨es, c, hb, he, _⟩ := hm
  have h3 := congrArg List.length he
  simp at h3
  simp [Builtin.len_, run_underlying ht, Builtin.lenOf, MapKept.run_getObj_map hb, h3, goInt]
/-- A walk over a map has come to all entries of the list S, in that order. -/
def RangeAt (w : World) (b r : Nat) (K : List (ByteArray × Value)) (S : List Nat) : Prop :=
  ∃ es clock, w.heap[b]? = some (.map es clock) ∧ es.toList.map (fun e => (e.key, e.val)) = K.map (fun p => (Value.string p.1, p.2)) ∧ (∀ e ∈ es.toList, e.born < clock) ∧ (es.toList.map (·.born)).Nodup ∧
    w.heap[r]? = some (.mapIter (some b) clock (S.map (fun i => (es[i]?.map (·.born)).getD 0)).toArray clock) ∧ (∀ i ∈ S, i < K.length) ∧ S.Nodup
theorem RangeAt.map {w : World} {b r : Nat} {K : List (ByteArray × Value)} {S : List Nat} (h : RangeAt w b r K S) : MapAt w b K := by
  obtain ⟨es, c, h1, h2, h3, h4, _⟩ := h; exact ⟨es, c, h1, h2, h3, h4⟩
theorem RangeAt.lt {w : World} {b r : Nat} {K : List (ByteArray × Value)} {S : List Nat} (h : RangeAt w b r K S) : r < w.heap.size := by
  obtain ⟨es, c, h1, h2, h3, h4, h5, _⟩ := h; exact blk_lt h5
theorem RangeAt.off {w w' : World} {b r x y : Nat} {K : List (ByteArray × Value)} {S : List Nat} (h : RangeAt w b r K S) (ho : Off x y w w') (h1 : b ≠ x) (h2 : b ≠ y) (h3 : r ≠ x) (h4 : r ≠ y) : RangeAt w' b r K S := by
  obtain ⟨es, c, e1, e2, e3, e4, e5, e6⟩ := h
  exact ⟨es, c, off_blk ho e1 h1 h2, e2, e3, e4, off_blk ho e5 h3 h4, e6⟩
theorem RangeAt.keep {w w' : World} {b r : Nat} {K : List (ByteArray × Value)} {S : List Nat} (h : RangeAt w b r K S) (hb : Below w.heap.size w w') : RangeAt w' b r K S := by
  obtain ⟨es, c, e1, e2, e3, e4, e5, e6⟩ := h
  exact ⟨es, c, blk_below e1 hb, e2, e3, e4, blk_below e5 hb, e6⟩
/-- for .. range m: the walk begins. -/
theorem run_range_str (ht : P.underlying t = some (.map kt et)) {w : World} {b : Nat} {K : List (ByteArray × Value)} (hm : MapAt w b K) :
    ∃ o, (Instr.range t (.map (some b))).run P w = .ok (.pointer (some ⟨w.heap.size, 0, none⟩)) (w.alloc o) ∧ RangeAt (w.alloc o) b w.heap.size K [] := by
  obtain ⟨es, c, hb, he, hs, hn⟩ := hm
  refine ⟨.mapIter (some b) c #[] c, ?_, es, c, blk_old hb _, he, hs, hn, blk_new w _, by simp, by simp⟩
  simp [Instr.range, run_underlying ht, MapKept.run_getObj_map hb, newObj, Sem.run]
/-- .. and goes on: all have been come to, or one more is. -/
theorem run_next_str {w : World} {b r : Nat} {K : List (ByteArray × Value)} {S : List Nat} (h : RangeAt w b r K S) (ty : TypeId) :
    ((∀ i, i < K.length → i ∈ S) ∧ (Instr.next (.pointer (some ⟨r, 0, none⟩)) false ty).run P w = .ok (.tuple #[.bool false]) w) ∨
    ∃ i p w', K[i]? = some p ∧ i ∉ S ∧ (Instr.next (.pointer (some ⟨r, 0, none⟩)) false ty).run P w = .ok (.tuple #[.bool true, .string p.1, p.2]) w' ∧ RangeAt w' b r K (S ++ [i]) ∧ Off r r w w' ∧ w'.heap.size = w.heap.size ∧
      (Instr.entry (.pointer (some ⟨r, 0, none⟩))).run P w' = .ok (.tuple #[.string p.1, p.2]) w' := by
  obtain ⟨es, c, hb, he, hs, hn, hr, hS, hSn⟩ := h
  have hlen : es.size = K.length := by have := congrArg List.length he; simpa using this
  have hbr : b ≠ r := by intro e; subst e; rw [hb] at hr; cases hr
  have hst : ∀ i (hi : i < es.size), (es[i]?.map (·.born)).getD 0 = es[i].born := fun i hi => by rw [Array.getElem?_eq_getElem hi]; rfl
  have hkey : ∀ i (hi : i < es.size) p, K[i]? = some p → es[i].key = .string p.1 ∧ es[i].val = p.2 := fun i hi p hp => by
    have h1 := congrArg (fun l => l[i]?) he
    simp only [List.getElem?_map, hp, Option.map_some] at h1
    rw [show es.toList[i]? = some es[i] by simp [hi]] at h1
    simp only [Option.map_some, Option.some.injEq, Prod.mk.injEq] at h1
    exact h1
  rcases run_next_at (P := P) w ty r b c c _ es c hr hb hs (Nat.le_refl _) with ⟨h0, hrun⟩ | ⟨e, hel, w1, hw1, hrun⟩
  · left
    refine ⟨fun i hi => ?_, hrun⟩
    rw [← hlen] at hi
    have hl : leftOf es (S.map (fun i => (es[i]?.map (·.born)).getD 0)).toArray = #[] := Array.eq_empty_of_size_eq_zero h0
    unfold leftOf at hl
    rw [Array.filter_eq_empty_iff] at hl
    have h1 := hl es[i] (Array.getElem_mem hi)
    simp only [Bool.not_eq_true', Bool.not_eq_false, Array.contains_eq_mem, decide_eq_true_eq, List.mem_toArray, List.mem_map] at h1
    obtain ⟨j, hj, hje⟩ := h1
    have hj' : j < es.size := by rw [hlen]; exact hS j hj
    rw [hst j hj'] at hje
    have hij : i = j := by
      have hA := (List.nodup_iff_pairwise_ne.1 hn)
      rw [List.pairwise_iff_getElem] at hA
      rcases Nat.lt_trichotomy i j with hlt | heq | hgt
      · have := hA i j (by simpa using hi) (by simpa using hj') hlt
        simp only [List.getElem_map, Array.getElem_toList] at this
        exact absurd hje.symm this
      · exact heq
      · have := hA j i (by simpa using hj') (by simpa using hi) hgt
        simp only [List.getElem_map, Array.getElem_toList] at this
        exact absurd hje this
    rw [hij]; exact hj
  · right
    obtain ⟨hem, hec⟩ := mem_left hel
    obtain ⟨i, hi, rfl⟩ := List.getElem_of_mem hem
    have hi' : i < es.size := by simpa using hi
    rw [Array.getElem_toList] at hec hrun
    have hiS : i ∉ S := fun hin => by
      simp only [Array.contains_eq_mem, decide_eq_false_iff_not, List.mem_toArray, List.mem_map, not_exists, not_and] at hec
      exact hec i hin (hst i hi')
    have hp : K[i]? = some K[i] := List.getElem?_eq_getElem (by omega)
    obtain ⟨hk1, hk2⟩ := hkey i hi' _ hp
    rw [hk1, hk2] at hrun
    have hb1 : w1.heap = w.heap := by rcases hw1 with rfl | rfl <;> rfl
    have hr1 : w1.heap[r]? = some (.mapIter (some b) c (S.map (fun i => (es[i]?.map (·.born)).getD 0)).toArray c) := by rw [hb1]; exact hr
    have hrlt : r < w.heap.size := blk_lt hr
    have hsb : (setBlock w1 r (.mapIter (some b) c ((S.map (fun i => (es[i]?.map (·.born)).getD 0)).toArray.push es[i].born) c)).heap[r]? = some (.mapIter (some b) c ((S.map (fun i => (es[i]?.map (·.born)).getD 0)).toArray.push es[i].born) c) := by
      simp [setBlock, hb1, hrlt]
    have hsb2 : (setBlock w1 r (.mapIter (some b) c ((S.map (fun i => (es[i]?.map (·.born)).getD 0)).toArray.push es[i].born) c)).heap[b]? = some (.map es c) := by
      simp [setBlock, hb1, Array.getElem?_setIfInBounds, Ne.symm hbr, hb]
    have hpush : (S.map (fun i => (es[i]?.map (·.born)).getD 0)).toArray.push es[i].born = ((S ++ [i]).map (fun i => (es[i]?.map (·.born)).getD 0)).toArray := by
      simp [hst i hi', hi']
    refine ⟨i, K[i], _, hp, hiS, hrun, ⟨es, c, hsb2, he, hs, hn, by rw [← hpush]; exact hsb, fun j hj => ?_, ?_⟩, ?_, by simp [setBlock, hb1], ?_⟩
    · rcases List.mem_append.1 hj with hj | hj
      · exact hS j hj
      · simp only [List.mem_singleton] at hj; omega
    · rw [List.nodup_append]
      exact ⟨hSn, by simp, fun x hx y hy => by simp only [List.mem_singleton] at hy; subst hy; intro e; subst e; exact hiS hx⟩
    · refine ⟨by rcases hw1 with rfl | rfl <;> rfl, by rcases hw1 with rfl | rfl <;> rfl, by rcases hw1 with rfl | rfl <;> rfl, by simp [setBlock, hb1], fun j _ hj _ => ?_⟩
      simp [setBlock, hb1, Array.getElem?_setIfInBounds, Ne.symm hj]
    · have := run_entry_at (P := P) _ r b c _ es c es[i] hsb hsb2 hem hn
      rw [hk1, hk2] at this
      exact this
end
end Go.Proofs.YtbmaeaknlpgdmaaGreat
