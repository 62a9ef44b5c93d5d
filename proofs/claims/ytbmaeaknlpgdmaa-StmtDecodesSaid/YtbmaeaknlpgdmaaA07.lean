/- Lists in memory that a call makes for itself: what append leaves, what a walk reads. -/
import Derived.Test.YtbmaeaknlpgdmaaA01
import Derived.Maps.AppendAt
namespace Go.Proofs.Ytbmaeaknlpgdmaa
open Go.RowKit
section
variable {α : Type} {cs : α → List Value} {size : Nat}

theorem flat_at (hcs : ∀ x, (cs x).length = size) : ∀ (xs : List α) (i : Nat) (x : α), xs[i]? = some x → ∀ r, r < size → (xs.flatMap cs)[i * size + r]? = (cs x)[r]?
  | [], i, x, h, _, _ => by simp at h
  | y :: ys, 0, x, h, r, hr => by
    have : y = x := by simpa using h
    subst this
    rw [List.flatMap_cons, Nat.zero_mul, Nat.zero_add, List.getElem?_append_left (by rw [hcs]; exact hr)]
  | y :: ys, i + 1, x, h, r, hr => by
    rw [List.flatMap_cons, List.getElem?_append_right (by rw [hcs, Nat.add_mul]; omega), hcs]
    have e : (i + 1) * size + r - size = i * size + r := by rw [Nat.add_mul]; omega
    rw [e]
    exact flat_at hcs ys i x (by simpa using h) r hr
theorem flat_len (hcs : ∀ x, (cs x).length = size) (xs : List α) : (xs.flatMap cs).length = xs.length * size := by
  induction xs with
  | nil => simp
  | cons x xs ih => rw [List.flatMap_cons, List.length_append, ih, hcs, List.length_cons, Nat.add_mul]; omega
theorem flat_inv (hcs : ∀ x, (cs x).length = size) (hs : 0 < size) (xs : List α) {j : Nat} {u : Value} (h : (xs.flatMap cs)[j]? = some u) :
    ∃ i r x, j = i * size + r ∧ r < size ∧ xs[i]? = some x ∧ (cs x)[r]? = some u := by
  have hj : j < xs.length * size := by rw [← flat_len hcs]; exact (List.getElem?_eq_some_iff.1 h).1
  have hi : j / size < xs.length := Nat.div_lt_of_lt_mul (by rw [Nat.mul_comm]; exact hj)
  have hx : xs[j / size]? = some xs[j / size] := List.getElem?_eq_getElem hi
  have hr : j % size < size := Nat.mod_lt _ hs
  have he : j = j / size * size + j % size := by rw [Nat.mul_comm]; exact (Nat.div_add_mod j size).symm
  refine ⟨j / size, j % size, xs[j / size], he, hr, hx, ?_⟩
  rw [← flat_at hcs xs _ _ hx _ hr, ← he, h]

/-- A list that the call made for itself. -/
def Own (cs : α → List Value) (size : Nat) (e : TypeId) (w : World) (base : Nat) (v : Value) (xs : List α) : Prop := w.ownsRow base e size v xs.length (xs.flatMap cs)

theorem add_plain (g j : Nat) : (⟨g, 0, none⟩ : Addr).add j = ⟨g, j, none⟩ := by unfold Addr.add; split <;> simp_all
theorem add_plain' (g o j : Nat) : (⟨g, o, none⟩ : Addr).add j = ⟨g, o + j, none⟩ := by unfold Addr.add; split <;> simp_all

theorem Own.reads {e base : Nat} {w : World} {v : Value} {xs : List α} (hcs : ∀ x, (cs x).length = size) (h : Own cs size e w base v xs) :
    ∃ A c, v = .slice A xs.length c ∧ xs.length ≤ c ∧ c ≤ 9223372036854775807 ∧ Rd cs size w A xs.length xs := by
  rcases h.2 with ⟨rfl, h0⟩ | ⟨g, cap, cur, rfl, hb, hh, hn, hm, hc, ht⟩
  · exact ⟨none, 0, by rw [h0], by omega, by omega, rfl, by omega, fun hp => by omega⟩
  · have hm' : cap ≤ 9223372036854775807 := by simpa [maxLen] using hm
    refine ⟨some ⟨g, 0, none⟩, cap, rfl, hn, hm', rfl, by omega, fun hp => ⟨g, 0, rfl, fun i x hx j u hu => ?_⟩⟩
    have hj : j < size := by rw [← hcs x]; exact (List.getElem?_eq_some_iff.1 hu).1
    have := h.cells (g := g) rfl (i * size + j) u (by rw [flat_at hcs xs i x hx j hj, hu])
    rw [add_plain] at this
    rwa [Nat.zero_add]
theorem own_rd {e base : Nat} {w : World} {A : Option Addr} {n c : Nat} {xs : List α} (hcs : ∀ x, (cs x).length = size) (h : Own cs size e w base (.slice A n c) xs) : Rd cs size w A n xs := by
  obtain ⟨A', c', he, _, _, hr⟩ := h.reads hcs
  injection he with h1 h2 h3
  rw [h1, h2]; exact hr
theorem own_nil' (e base : Nat) (w : World) : Own cs size e w base (.slice none 0 0) [] := ⟨by simp, .inl ⟨rfl, rfl⟩⟩
theorem own_empty {e base g : Nat} {w : World} (hg : w.heap.size = g) (hb : base ≤ w.heap.size) : Own cs size e (w.alloc (.cells #[] e)) base (.slice (some ⟨g, 0, none⟩) 0 0) [] := by
  subst hg
  exact ⟨by simp, .inr ⟨w.heap.size, 0, #[], rfl, hb, heap_alloc_new w _, Nat.le_refl _, by simp [maxLen], by simp, by simp⟩⟩
theorem Own.lt {e base : Nat} {w : World} {v : Value} {xs : List α} (h : Own cs size e w base v xs) (k : Nat) (hk : v.ownBlock = some k) : base ≤ k ∧ k < w.heap.size := by
  rcases h.2 with ⟨rfl, _⟩ | ⟨g, cap, cur, rfl, hb, hh, _⟩
  · simp [Value.ownBlock] at hk
  · have : g = k := by simpa [Value.ownBlock] using hk
    subst this
    exact ⟨hb, (Array.getElem?_eq_some_iff.1 hh).1⟩
theorem Own.kept {e base : Nat} {w w' : World} {v : Value} {xs : List α} (h : Own cs size e w base v xs) (hb : Below w.heap.size w w') : Own cs size e w' base v xs :=
  World.ownsRow.kept (row := none) h ⟨hb.os, hb.tape, hb.output, hb.size, fun i hi _ => hb.block i hi⟩ (by cases v.ownBlock <;> simp)
theorem Own.lower {e base base' : Nat} {w : World} {v : Value} {xs : List α} (h : Own cs size e w base v xs) (hb : base' ≤ base) : Own cs size e w base' v xs := by
  refine ⟨h.1, ?_⟩
  rcases h.2 with h2 | ⟨g, cap, cur, hv, hb', r⟩
  · exact .inl h2
  · exact .inr ⟨g, cap, cur, hv, Nat.le_trans hb hb', r⟩

theorem run_app {P : Program} (w : World) (hcs : ∀ x, (cs x).length = size) (hsz : 0 < size) (h1 : ∀ x, ∀ u ∈ cs x, u.oneCell' = true) (base : Nat) (t ty e : TypeId) (i : TypeInfo) (z : Value) (bytes : Nat)
    (ht : P.underlying t = some (.slice e)) (hi : P.info? e = some i) (hz : i.zero = some z) (hsize : i.size = size) (hby : i.bytes = bytes) (hzs : z.cells.size = size)
    (v : Value) (xs : List α) (hown : Own cs size e w base v xs) (A : Option Addr) (m c : Nat) (ys : List α) (hr : Rd cs size w A m ys)
    (h63 : xs.length + m ≤ 9223372036854775807) (hbytes : (xs.length + m) * bytes ≤ 140737488355328) (hbase : base ≤ w.heap.size) :
    ∃ v' w', (Builtin.append_ #[t, t] ty #[v, .slice A m c]).run P w = .ok v' w' ∧ Own cs size e w' base v' (xs ++ ys) ∧ w.grownBy w' v.ownBlock ∧ (v'.ownBlock = v.ownBlock ∨ v'.ownBlock = some w.heap.size) := by
  have hm := hr.1
  rcases Nat.eq_zero_or_pos m with h0 | h0
  · have hy : ys = [] := List.eq_nil_of_length_eq_zero (by omega)
    subst hy
    rcases A with _ | ad
    · refine ⟨v, w, ?_, by rw [List.append_nil]; exact hown, World.grownBy.refl w _, .inl rfl⟩
      subst h0
      rcases hown.2 with ⟨rfl, hn⟩ | ⟨g, cap, cur, rfl, _, _, hnc, _⟩
      · simp [Builtin.append_, run_underlying ht, sizeOf, typeInfo, hi, Builtin.lenOf, Builtin.firstCells]
      · simp [Builtin.append_, run_underlying ht, sizeOf, typeInfo, hi, Builtin.lenOf, Builtin.firstCells, hnc, storeCells]
    · obtain ⟨v', w', hrun, h2, h3, _, h5⟩ := run_append_own_at (P := P) w base t ty e i z size bytes ht hi hz hsize hby hzs hsz v _ _ hown ad m c [] (by simp [h0]) (by simp) (by simp) (by simpa [maxLen] using h63) hbytes hbase
      refine ⟨v', w', hrun, ?_, h3, h5⟩
      unfold Own
      rw [List.append_nil]
      rw [h0, Nat.add_zero, List.append_nil] at h2
      exact h2
  · obtain ⟨b, o, rfl, hc⟩ := hr.2.2 h0
    obtain ⟨v', w', hrun, h2, h3, _, h5⟩ := run_append_own_at (P := P) w base t ty e i z size bytes ht hi hz hsize hby hzs hsz v _ _ hown ⟨b, o, none⟩ m c (ys.flatMap cs) (by rw [flat_len hcs, hm]) (fun j u hu => by
        obtain ⟨i, r, x, rfl, hr', hx, hu'⟩ := flat_inv hcs hsz ys hu
        rw [add_plain', ← Nat.add_assoc]
        exact hc i x hx r u hu') (fun u hu => by
        obtain ⟨x, _, hx⟩ := List.mem_flatMap.1 hu
        exact h1 x u hx) (by simpa [maxLen] using h63) hbytes hbase
    refine ⟨v', w', hrun, ?_, h3, h5⟩
    unfold Own
    rw [List.length_append, hm, List.flatMap_append]
    exact h2

/-- append(v, x...) in a walk: v a list of the call's own, x any slice. -/
theorem wp_app {P : Program} {ops : Array Oper} {rest : List Oper} {o : Oper} {a : Act} {w : World} {Q : Exit → Act → World → Prop} (hcs : ∀ x, (cs x).length = size) (hsz : 0 < size) (h1 : ∀ x, ∀ u ∈ cs x, u.oneCell' = true)
    (hgd : o.guard = none) (s x : Operand) (t : TypeId) (ho : o.op = .call { callee := .builtin .append, args := #[s, x], argTypes := #[t, t] })
    (base : Nat) (e : TypeId) (z : Value) (bytes : Nat) (ht : P.underlying t = some (.slice e)) (hinfo : (P.info? e).map (fun i => (i.zero, i.size, i.bytes)) = some (some z, size, bytes)) (hzs : z.cells.size = size)
    (v : Value) (xs : List α) (hs : a.eval s = v) (hown : Own cs size e w base v xs) (A : Option Addr) (m c : Nat) (ys : List α) (hx : a.eval x = .slice A m c) (hr : Rd cs size w A m ys)
    (h63 : xs.length + m ≤ 9223372036854775807) (hbytes : (xs.length + m) * bytes ≤ 140737488355328) (hbase : base ≤ w.heap.size)
    (h : ∀ A' c' w', Own cs size e w' base (.slice A' (xs.length + m) c') (xs ++ ys) → w.grownBy w' v.ownBlock → ((Value.slice A' (xs.length + m) c').ownBlock = v.ownBlock ∨ (Value.slice A' (xs.length + m) c').ownBlock = some w.heap.size) → wpList P ops Q rest (a.put o.dst (.slice A' (xs.length + m) c')) w') : wpList P ops Q (o :: rest) a w := by
  obtain ⟨i, hi, hz, hsize, hby⟩ := info_parts hinfo
  refine wpList_plain hgd fun K hK => ?_
  obtain ⟨v', w', hrun, h2, h3, h4⟩ := run_app (P := P) w hcs hsz h1 base t o.type e i z bytes ht hi hz hsize hby hzs v xs hown A m c ys hr h63 hbytes hbase
  unfold Oper.wp execOp
  simp only [ho, resolve, invoke, builtin, Sem.run_bind, Sem.run_pure, Result.andThen_ok, List.map_toArray, List.map_cons, List.map_nil, hs, hx, hrun]
  obtain ⟨A', c', rfl, _⟩ := h2.reads hcs
  have hl : (xs ++ ys).length = xs.length + m := by rw [List.length_append, hr.1]
  rw [hl] at h2 h4 ⊢
  exact hK _ _ (h A' c' w' h2 h3 h4)
end
/-- What a step that turned one row (and made new blocks) leaves of a block that is another. -/
theorem grown_cell {w w' : World} {row : Option Nat} (hg : w.grownBy w' row) (b : Nat) (hb : b < w.heap.size) (hne : some b ≠ row) :
    (∀ j, w'.cell? ⟨b, j, none⟩ = w.cell? ⟨b, j, none⟩) ∧ (∀ j, w'.frozen? ⟨b, j, none⟩ = w.frozen? ⟨b, j, none⟩) :=
  ⟨fun _ => World.cell?_of_block (hg.block b hb hne), fun _ => World.frozen?_of_block (hg.block b hb hne)⟩
theorem Own.grown {α : Type} {cs : α → List Value} {size e base : Nat} {w w' : World} {v : Value} {xs : List α} (h : Own cs size e w base v xs) {row : Option Nat} (hg : w.grownBy w' row) (hne : v.ownBlock = none ∨ v.ownBlock ≠ row) : Own cs size e w' base v xs :=
  World.ownsRow.kept h hg hne
theorem Own.set_ {α : Type} {cs : α → List Value} {size e base : Nat} {w : World} {v : Value} {xs : List α} (h : Own cs size e w base v xs) {p : Addr} (hne : v.ownBlock ≠ some p.block) (u : Value) : Own cs size e (w.setCell p u) base v xs := by
  refine ⟨h.1, ?_⟩
  rcases h.2 with h2 | ⟨g, cap, cur, rfl, hb, hh, r⟩
  · exact .inl h2
  · refine .inr ⟨g, cap, cur, rfl, hb, ?_, r⟩
    rw [Below.heap_setCell _ _ _ _ (fun e => hne (by simp [Value.ownBlock, e]))]
    exact hh
theorem Own.alloc_ {α : Type} {cs : α → List Value} {size e base : Nat} {w : World} {v : Value} {xs : List α} (h : Own cs size e w base v xs) (o : Obj) : Own cs size e (w.alloc o) base v xs := World.ownsRow.alloc h o
/-- A struct result that lies in a block of the call's own. -/
theorem loadVar_blk {P : Program} {ty T : TypeId} {cs : Array Value} {w : World} {b : Nat} (ha : ∀ w, (isAgg ty).run P w = .ok true w) (hs : ∀ w, (sizeOf ty).run P w = .ok cs.size w) (hb : w.heap[b]? = some (.cells cs T (0, 0))) :
    (loadVar ty ⟨b, 0, none⟩).run P w = .ok (.agg cs) w := by
  have hl := run_loadCells_list (P := P) w ⟨b, 0, none⟩ cs.toList (fun j v hj => by
    rw [add_plain, cell_of_row w b j cs T (0, 0) hb]; simpa using hj)
  have hl' : (loadCells ⟨b, 0, none⟩ cs.size).run P w = .ok cs w := by simpa using hl
  simp [loadVar, ha, hs, hl']
theorem results_blk {P : Program} {fn : Func} {p : Tmp} {ty T : TypeId} {cs : Array Value} {w : World} {b : Nat} (h : fn.results = #[.cell p ty]) (ha : ∀ w, (isAgg ty).run P w = .ok true w) (hs : ∀ w, (sizeOf ty).run P w = .ok cs.size w)
    (tmps : Array Value) (hp : tmps.getD p undef = .pointer (some ⟨b, 0, none⟩)) (hb : w.heap[b]? = some (.cells cs T (0, 0))) : (results fn tmps).run P w = .ok (.agg cs) w := by
  have hl := loadVar_blk ha hs hb
  have hp' : tmps[p]?.getD undef = .pointer (some ⟨b, 0, none⟩) := by simpa using hp
  simp only [results, h]
  simp [hp', asAddr, hl]
theorem results_blk1 {P : Program} {fn : Func} {p u : Tmp} {ty T : TypeId} {cs : Array Value} {w : World} {b : Nat} (h : fn.results = #[.cell p ty, .tmp u]) (ha : ∀ w, (isAgg ty).run P w = .ok true w) (hs : ∀ w, (sizeOf ty).run P w = .ok cs.size w)
    (tmps : Array Value) (hp : tmps.getD p undef = .pointer (some ⟨b, 0, none⟩)) (hb : w.heap[b]? = some (.cells cs T (0, 0))) : (results fn tmps).run P w = .ok (.tuple #[.agg cs, tmps.getD u undef]) w := by
  have hl := loadVar_blk ha hs hb
  have hp' : tmps[p]?.getD undef = .pointer (some ⟨b, 0, none⟩) := by simpa using hp
  simp only [results, h]
  simp [hp', asAddr, hl]
theorem vl_len (x : Vl) : x.cs.length = 4 := rfl
theorem cl_len (x : Cl) : x.cs.length = 7 := rfl
theorem vl_one (x : Vl) : ∀ u ∈ x.cs, u.oneCell' = true := by intro u hu; simp [Vl.cs] at hu; rcases hu with rfl | rfl | rfl | rfl <;> rfl
theorem cl_one (x : Cl) : ∀ u ∈ x.cs, u.oneCell' = true := by intro u hu; simp [Cl.cs] at hu; rcases hu with rfl | rfl | rfl | rfl | rfl | rfl | rfl <;> rfl
theorem below_own {W w w1 : World} (hb : Below W.heap.size W w) {row : Option Nat} (hg : w.grownBy w1 row) (hr : ∀ k, row = some k → W.heap.size ≤ k) : Below W.heap.size W w1 := hb.grown hg hb.size hr
end Go.Proofs.Ytbmaeaknlpgdmaa
