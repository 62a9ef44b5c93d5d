/- Lists in memory that a call makes for itself: what append leaves, what a walk reads. The library's Clone: the same things in new memory. -/
import Derived.Test.YtbmaeaknlpgdmaaGreatA01
import Derived.Maps.AppendAt
import Derived.WalkSpells
namespace Go.Proofs.YtbmaeaknlpgdmaaGreat
open Go.RowKit
section
variable {α : Type} {cs : α → List Value} {size : Nat}

theorem flat_at (hcs : ∀ x, (cs x).length = size) : ∀ (xs : List α) (i : Nat) (x : α), xs[i]? = some x → ∀ r, r < size → (xs.flatMap cs)[i * size + r]? = (cs x)[r]?
  | [], i, x, h, _, _ => by simp at h
  | y :: ys, 0, x, h, r, hr => by
    have : y = x := by simpa using h
    subst this
    rw [List.flatMap_cons, Nat.zero_mul, Nat.zero_add, List.getElem?_append_left (by rw [hcs]; exact hr)]
  | y :: ys, i + 1, x, h, r, hr => by
    rw [List.flatMap_cons, List.getElem?_append_right (by rw [hcs, Nat.add_mul]; omega), hcs]
    have e : (i + 1) * size + r - size = i * size + r := by rw [Nat.add_mul]; omega
    rw [e]
    exact flat_at hcs ys i x (by simpa using h) r hr
theorem flat_len (hcs : ∀ x, (cs x).length = size) (xs : List α) : (xs.flatMap cs).length = xs.length * size := by
  induction xs with
  | nil => simp
  | cons x xs ih => rw [List.flatMap_cons, List.length_append, ih, hcs, List.length_cons, Nat.add_mul]; omega
theorem flat_inv (hcs : ∀ x, (cs x).length = size) (hs : 0 < size) (xs : List α) {j : Nat} {u : Value} (h : (xs.flatMap cs)[j]? = some u) :
    ∃ i r x, j = i * size + r ∧ r < size ∧ xs[i]? = some x ∧ (cs x)[r]? = some u := by
  have hj : j < xs.length * size := by rw [← flat_len hcs]; exact (List.getElem?_eq_some_iff.1 h).1
  have hi : j / size < xs.length := Nat.div_lt_of_lt_mul (by rw [Nat.mul_comm]; exact hj)
  have hx : xs[j / size]? = some xs[j / size] := List.getElem?_eq_getElem hi
  have hr : j % size < size := Nat.mod_lt _ hs
  have he : j = j / size * size + j % size := by rw [Nat.mul_comm]; exact (Nat.div_add_mod j size).symm
  refine ⟨j / size, j % size, xs[j / size], he, hr, hx, ?_⟩
  rw [← flat_at hcs xs _ _ hx _ hr, ← he, h]

/-- A list that the call made for itself. -/
def Own (cs : α → List Value) (size : Nat) (e : TypeId) (w : World) (base : Nat) (v : Value) (xs : List α) : Prop := w.ownsRow base e size v xs.length (xs.flatMap cs)

theorem add_plain (g j : Nat) : (⟨g, 0, none⟩ : Addr).add j = ⟨g, j, none⟩ := by unfold Addr.add; split <;> simp_all
theorem add_plain' (g o j : Nat) : (⟨g, o, none⟩ : Addr).add j = ⟨g, o + j, none⟩ := by unfold Addr.add; split <;> simp_all

theorem Own.reads {e base : Nat} {w : World} {v : Value} {xs : List α} (hcs : ∀ x, (cs x).length = size) (h : Own cs size e w base v xs) :
    ∃ A c, v = .slice A xs.length c ∧ xs.length ≤ c ∧ c ≤ 9223372036854775807 ∧ Rd cs size w A xs.length xs := by
  rcases h.2 with ⟨rfl, h0⟩ | ⟨g, cap, cur, rfl, hb, hh, hn, hm, hc, ht⟩
  · exact ⟨none, 0, by rw [h0], by omega, by omega, rfl, by omega, fun hp => by omega⟩
  · have hm' : cap ≤ 9223372036854775807 := by simpa [maxLen] using hm
    refine ⟨some ⟨g, 0, none⟩, cap, rfl, hn, hm', rfl, by omega, fun hp => ⟨g, 0, rfl, fun i x hx j u hu => ?_⟩⟩
    have hj : j < size := by rw [← hcs x]; exact (List.getElem?_eq_some_iff.1 hu).1
    have := h.cells (g := g) rfl (i * size + j) u (by rw [flat_at hcs xs i x hx j hj, hu])
    rw [add_plain] at this
    rwa [Nat.zero_add]
theorem own_rd {e base : Nat} {w : World} {A : Option Addr} {n c : Nat} {xs : List α} (hcs : ∀ x, (cs x).length = size) (h : Own cs size e w base (.slice A n c) xs) : Rd cs size w A n xs := by
  obtain ⟨A', c', he, _, _, hr⟩ := h.reads hcs
  injection he with h1 h2 h3
  rw [h1, h2]; exact hr
theorem own_nil' (e base : Nat) (w : World) : Own cs size e w base (.slice none 0 0) [] := ⟨by simp, .inl ⟨rfl, rfl⟩⟩
theorem own_empty {e base g : Nat} {w : World} (hg : w.heap.size = g) (hb : base ≤ w.heap.size) : Own cs size e (w.alloc (.cells #[] e)) base (.slice (some ⟨g, 0, none⟩) 0 0) [] := by
  subst hg
  exact ⟨by simp, .inr ⟨w.heap.size, 0, #[], rfl, hb, heap_alloc_new w _, Nat.le_refl _, by simp [maxLen], by simp, by simp⟩⟩
theorem Own.lt {e base : Nat} {w : World} {v : Value} {xs : List α} (h : Own cs size e w base v xs) (k : Nat) (hk : v.ownBlock = some k) : base ≤ k ∧ k < w.heap.size := by
  rcases h.2 with ⟨rfl, _⟩ | ⟨g, cap, cur, rfl, hb, hh, _⟩
  · simp [Value.ownBlock] at hk
  · have : g = k := by simpa [Value.ownBlock] using hk
    subst this
    exact ⟨hb, (Array.getElem?_eq_some_iff.1 hh).1⟩
theorem Own.kept {e base : Nat} {w w' : World} {v : Value} {xs : List α} (h : Own cs size e w base v xs) (hb : Below w.heap.size w w') : Own cs size e w' base v xs :=
  World.ownsRow.kept (row := none) h ⟨hb.os, hb.tape, hb.output, hb.size, fun i hi _ => hb.block i hi⟩ (by cases v.ownBlock <;> simp)
theorem Own.lower {e base base' : Nat} {w : World} {v : Value} {xs : List α} (h : Own cs size e w base v xs) (hb : base' ≤ base) : Own cs size e w base' v xs := by
  refine ⟨h.1, ?_⟩
  rcases h.2 with h2 | ⟨g, cap, cur, hv, hb', r⟩
  · exact .inl h2
  · exact .inr ⟨g, cap, cur, hv, Nat.le_trans hb hb', r⟩

theorem run_app {P : Program} (w : World) (hcs : ∀ x, (cs x).length = size) (hsz : 0 < size) (h1 : ∀ x, ∀ u ∈ cs x, u.oneCell' = true) (base : Nat) (t ty e : TypeId) (i : TypeInfo) (z : Value) (bytes : Nat)
    (ht : P.underlying t = some (.slice e)) (hi : P.info? e = some i) (hz : i.zero = some z) (hsize : i.size = size) (hby : i.bytes = bytes) (hzs : z.cells.size = size)
    (v : Value) (xs : List α) (hown : Own cs size e w base v xs) (A : Option Addr) (m c : Nat) (ys : List α) (hr : Rd cs size w A m ys)
    (h63 : xs.length + m ≤ 9223372036854775807) (hbytes : (xs.length + m) * bytes ≤ 140737488355328) (hbase : base ≤ w.heap.size) :
    ∃ v' w', (Builtin.append_ #[t, t] ty #[v, .slice A m c]).run P w = .ok v' w' ∧ Own cs size e w' base v' (xs ++ ys) ∧ w.grownBy w' v.ownBlock ∧ (v'.ownBlock = v.ownBlock ∨ v'.ownBlock = some w.heap.size) := by
  have hm := hr.1
  rcases Nat.eq_zero_or_pos m with h0 | h0
  · have hy : ys = [] := List.eq_nil_of_length_eq_zero (by omega)
    subst hy
    rcases A with _ | ad
    · refine ⟨v, w, ?_, by rw [List.append_nil]; exact hown, World.grownBy.refl w _, .inl rfl⟩
      subst h0
      rcases hown.2 with ⟨rfl, hn⟩ | ⟨g, cap, cur, rfl, _, _, hnc, _⟩
      · simp [Builtin.append_, run_underlying ht, sizeOf, typeInfo, hi, Builtin.lenOf, Builtin.firstCells]
      · simp [Builtin.append_, run_underlying ht, sizeOf, typeInfo, hi, Builtin.lenOf, Builtin.firstCells, hnc, storeCells]
    · obtain ⟨v', w', hrun, h2, h3, _, h5⟩ := run_append_own_at (P := P) w base t ty e i z size bytes ht hi hz hsize hby hzs hsz v _ _ hown ad m c [] (by simp [h0]) (by simp) (by simp) (by simpa [maxLen] using h63) hbytes hbase
      refine ⟨v', w', hrun, ?_, h3, h5⟩
      unfold Own
      rw [List.append_nil]
      rw [h0, Nat.add_zero, List.append_nil] at h2
      exact h2
  · obtain ⟨b, o, rfl, hc⟩ := hr.2.2 h0
    obtain ⟨v', w', hrun, h2, h3, _, h5⟩ := run_append_own_at (P := P) w base t ty e i z size bytes ht hi hz hsize hby hzs hsz v _ _ hown ⟨b, o, none⟩ m c (ys.flatMap cs) (by rw [flat_len hcs, hm]) (fun j u hu => by
        obtain ⟨i, r, x, rfl, hr', hx, hu'⟩ := flat_inv hcs hsz ys hu
        rw [add_plain', ← Nat.add_assoc]
        exact hc i x hx r u hu') (fun u hu => by
        obtain ⟨x, _, hx⟩ := List.mem_flatMap.1 hu
        exact h1 x u hx) (by simpa [maxLen] using h63) hbytes hbase
    refine ⟨v', w', hrun, ?_, h3, h5⟩
    unfold Own
    rw [List.length_append, hm, List.flatMap_append]
    exact h2

/-- append(v, x...) in a walk: v a list of the call's own, x any slice. -/
theorem wp_app {P : Program} {ops : Array Oper} {rest : List Oper} {o : Oper} {a : Act} {w : World} {Q : Exit → Act → World → Prop} (hcs : ∀ x, (cs x).length = size) (hsz : 0 < size) (h1 : ∀ x, ∀ u ∈ cs x, u.oneCell' = true)
    (hgd : o.guard = none) (s x : Operand) (t : TypeId) (ho : o.op = .call { callee := .builtin .append, args := #[s, x], argTypes := #[t, t] })
    (base : Nat) (e : TypeId) (z : Value) (bytes : Nat) (ht : P.underlying t = some (.slice e)) (hinfo : (P.info? e).map (fun i => (i.zero, i.size, i.bytes)) = some (some z, size, bytes)) (hzs : z.cells.size = size)
    (v : Value) (xs : List α) (hs : a.eval s = v) (hown : Own cs size e w base v xs) (A : Option Addr) (m c : Nat) (ys : List α) (hx : a.eval x = .slice A m c) (hr : Rd cs size w A m ys)
    (h63 : xs.length + m ≤ 9223372036854775807) (hbytes : (xs.length + m) * bytes ≤ 140737488355328) (hbase : base ≤ w.heap.size)
    (h : ∀ A' c' w', Own cs size e w' base (.slice A' (xs.length + m) c') (xs ++ ys) → w.grownBy w' v.ownBlock → ((Value.slice A' (xs.length + m) c').ownBlock = v.ownBlock ∨ (Value.slice A' (xs.length + m) c').ownBlock = some w.heap.size) → wpList P ops Q rest (a.put o.dst (.slice A' (xs.length + m) c')) w') : wpList P ops Q (o :: rest) a w := by
  obtain ⟨i, hi, hz, hsize, hby⟩ := info_parts hinfo
  refine wpList_plain hgd fun K hK => ?_
  obtain ⟨v', w', hrun, h2, h3, h4⟩ := run_app (P := P) w hcs hsz h1 base t o.type e i z bytes ht hi hz hsize hby hzs v xs hown A m c ys hr h63 hbytes hbase
  unfold Oper.wp execOp
  simp only [ho, resolve, invoke, builtin, Sem.run_bind, Sem.run_pure, Result.andThen_ok, List.map_toArray, List.map_cons, List.map_nil, hs, hx, hrun]
  obtain ⟨A', c', rfl, _⟩ := h2.reads hcs
  have hl : (xs ++ ys).length = xs.length + m := by rw [List.length_append, hr.1]
  rw [hl] at h2 h4 ⊢
  exact hK _ _ (h A' c' w' h2 h3 h4)
end
/-- What a step that turned one row (and made new blocks) leaves of a block that is another. -/
theorem grown_cell {w w' : World} {row : Option Nat} (hg : w.grownBy w' row) (b : Nat) (hb : b < w.heap.size) (hne : some b ≠ row) :
    (∀ j, w'.cell? ⟨b, j, none⟩ = w.cell? ⟨b, j, none⟩) ∧ (∀ j, w'.frozen? ⟨b, j, none⟩ = w.frozen? ⟨b, j, none⟩) :=
  ⟨fun _ => World.cell?_of_block (hg.block b hb hne), fun _ => World.frozen?_of_block (hg.block b hb hne)⟩
theorem Own.grown {α : Type} {cs : α → List Value} {size e base : Nat} {w w' : World} {v : Value} {xs : List α} (h : Own cs size e w base v xs) {row : Option Nat} (hg : w.grownBy w' row) (hne : v.ownBlock = none ∨ v.ownBlock ≠ row) : Own cs size e w' base v xs :=
  World.ownsRow.kept h hg hne
theorem Own.set_ {α : Type} {cs : α → List Value} {size e base : Nat} {w : World} {v : Value} {xs : List α} (h : Own cs size e w base v xs) {p : Addr} (hne : v.ownBlock ≠ some p.block) (u : Value) : Own cs size e (w.setCell p u) base v xs := by
  refine ⟨h.1, ?_⟩
  rcases h.2 with h2 | ⟨g, cap, cur, rfl, hb, hh, r⟩
  · exact .inl h2
  · refine .inr ⟨g, cap, cur, rfl, hb, ?_, r⟩
    rw [Below.heap_setCell _ _ _ _ (fun e => hne (by simp [Value.ownBlock, e]))]
    exact hh
theorem Own.alloc_ {α : Type} {cs : α → List Value} {size e base : Nat} {w : World} {v : Value} {xs : List α} (h : Own cs size e w base v xs) (o : Obj) : Own cs size e (w.alloc o) base v xs := World.ownsRow.alloc h o
/-- A struct result that lies in a block of the call's own. -/
theorem loadVar_blk {P : Program} {ty T : TypeId} {cs : Array Value} {w : World} {b : Nat} (ha : ∀ w, (isAgg ty).run P w = .ok true w) (hs : ∀ w, (sizeOf ty).run P w = .ok cs.size w) (hb : w.heap[b]? = some (.cells cs T (0, 0))) :
    (loadVar ty ⟨b, 0, none⟩).run P w = .ok (.agg cs) w := by
  have hl := run_loadCells_list (P := P) w ⟨b, 0, none⟩ cs.toList (fun j v hj => by
    rw [add_plain, cell_of_row w b j cs T (0, 0) hb]; simpa using hj)
  have hl' : (loadCells ⟨b, 0, none⟩ cs.size).run P w = .ok cs w := by simpa using hl
  simp [loadVar, ha, hs, hl']
theorem results_blk {P : Program} {fn : Func} {p : Tmp} {ty T : TypeId} {cs : Array Value} {w : World} {b : Nat} (h : fn.results = #[.cell p ty]) (ha : ∀ w, (isAgg ty).run P w = .ok true w) (hs : ∀ w, (sizeOf ty).run P w = .ok cs.size w)
    (tmps : Array Value) (hp : tmps.getD p undef = .pointer (some ⟨b, 0, none⟩)) (hb : w.heap[b]? = some (.cells cs T (0, 0))) : (results fn tmps).run P w = .ok (.agg cs) w := by
  have hl := loadVar_blk ha hs hb
  have hp' : tmps[p]?.getD undef = .pointer (some ⟨b, 0, none⟩) := by simpa using hp
  simp only [results, h]
  simp [hp', asAddr, hl]
theorem results_blk1 {P : Program} {fn : Func} {p u : Tmp} {ty T : TypeId} {cs : Array Value} {w : World} {b : Nat} (h : fn.results = #[.cell p ty, .tmp u]) (ha : ∀ w, (isAgg ty).run P w = .ok true w) (hs : ∀ w, (sizeOf ty).run P w = .ok cs.size w)
    (tmps : Array Value) (hp : tmps.getD p undef = .pointer (some ⟨b, 0, none⟩)) (hb : w.heap[b]? = some (.cells cs T (0, 0))) : (results fn tmps).run P w = .ok (.tuple #[.agg cs, tmps.getD u undef]) w := by
  have hl := loadVar_blk ha hs hb
  have hp' : tmps[p]?.getD undef = .pointer (some ⟨b, 0, none⟩) := by simpa using hp
  simp only [results, h]
  simp [hp', asAddr, hl]
theorem vl_len (x : Vl) : x.cs.length = 4 := rfl
theorem cl_len (x : Cl) : x.cs.length = 7 := rfl
theorem vl_one (x : Vl) : ∀ u ∈ x.cs, u.oneCell' = true := by intro u hu; simp [Vl.cs] at hu; rcases hu with rfl | rfl | rfl | rfl <;> rfl
theorem cl_one (x : Cl) : ∀ u ∈ x.cs, u.oneCell' = true := by intro u hu; simp [Cl.cs] at hu; rcases hu with rfl | rfl | rfl | rfl | rfl | rfl | rfl <;> rfl
theorem below_own {W w w1 : World} (hb : Below W.heap.size W w) {row : Option Nat} (hg : w.grownBy w1 row) (hr : ∀ k, row = some k → W.heap.size ≤ k) : Below W.heap.size W w1 := hb.grown hg hb.size hr
end Go.Proofs.YtbmaeaknlpgdmaaGreat
namespace Go.Proofs.YtbmaeaknlpgdmaaGreat
open Go.RowKit
theorem Tryz.uVals : Tryz.prog.underlying 34 = some (.slice 33) := by kernel_rfl
theorem Tryz.uCols : Tryz.prog.underlying 35 = some (.slice 85) := by kernel_rfl
theorem Tryz.iVal : (Tryz.prog.info? 33).map (fun i => (i.zero, i.size, i.bytes)) = some (some (.agg #[.int .i64 0, .int .i64 0, .float .f64 0, .string ⟨#[]⟩]), 4, 40) := by kernel_rfl
theorem Tryz.iCol : (Tryz.prog.info? 85).map (fun i => (i.zero, i.size, i.bytes)) = some (some (.agg #[.string ⟨#[]⟩, .int .i64 0, .bool false, .int .i64 0, .int .i64 0, .float .f64 0, .string ⟨#[]⟩]), 7, 72) := by kernel_rfl

def CopyPost (s : St) (n m : Nat) (w : World) (e : Ending) (w' : World) : Prop :=
  ∃ A c A' c', e = .returned (s.agg (.slice A n c) (.slice A' m c')) ∧ RdV w' A n s.row ∧ RdC w' A' m s.cols ∧ Below w.heap.size w w'

set_option maxRecDepth 100000 in
set_option maxHeartbeats 4000000 in
theorem copySt (s : St) (A A' : Option Addr) (n c m d : Nat) (w : World) (hr : RdV w A n s.row) (hc : RdC w A' m s.cols) (hn : n ≤ 50) (hm : m ≤ 50) :
    Calls Tryz.prog 19 #[s.agg (.slice A n c) (.slice A' m d)] w (CopyPost s n m w) := by
  have HR := Lib.hid hr
  have HC := Lib.hid hc
  clear hr hc
  go_enter Tryz.func19, Tryz.ntmps19
  have hW : Below w.heap.size w ((w.alloc (.cells #[.int .i64 s.k, .string s.t, .string s.nm, .string s.c, .string s.se, .int .i64 s.v.k, .int .i64 s.v.n, .float .f64 s.v.f, .string s.v.s, .int .i64 s.w.k, .int .i64 s.w.n, .float .f64 s.w.f, .string s.w.s, .slice A n c, .slice A' m d, .bool s.fl] 37)).alloc (.cells #[.int .i64 0, .string ⟨#[]⟩, .string ⟨#[]⟩, .string ⟨#[]⟩, .string ⟨#[]⟩, .int .i64 0, .int .i64 0, .float .f64 0, .string ⟨#[]⟩, .int .i64 0, .int .i64 0, .float .f64 0, .string ⟨#[]⟩, .slice none 0 0, .slice none 0 0, .bool false] 37)) := by (repeat (first | assumption | exact Below.refl _ _ | refine bl_drewN ?_ _ | refine bl_drew ?_ | refine bl_alloc ?_ _ | refine bl_step ?_ (by assumption)))
  have P0 : ((w.alloc (.cells #[.int .i64 s.k, .string s.t, .string s.nm, .string s.c, .string s.se, .int .i64 s.v.k, .int .i64 s.v.n, .float .f64 s.v.f, .string s.v.s, .int .i64 s.w.k, .int .i64 s.w.n, .float .f64 s.w.f, .string s.w.s, .slice A n c, .slice A' m d, .bool s.fl] 37)).alloc (.cells #[.int .i64 0, .string ⟨#[]⟩, .string ⟨#[]⟩, .string ⟨#[]⟩, .string ⟨#[]⟩, .int .i64 0, .int .i64 0, .float .f64 0, .string ⟨#[]⟩, .int .i64 0, .int .i64 0, .float .f64 0, .string ⟨#[]⟩, .slice none 0 0, .slice none 0 0, .bool false] 37)).heap[w.heap.size]? = some (.cells #[.int .i64 s.k, .string s.t, .string s.nm, .string s.c, .string s.se, .int .i64 s.v.k, .int .i64 s.v.n, .float .f64 s.v.f, .string s.v.s, .int .i64 s.w.k, .int .i64 s.w.n, .float .f64 s.w.f, .string s.w.s, .slice A n c, .slice A' m d, .bool s.fl] 37 (0, 0)) := blk_old (blk_new w _) _
  have P1 : ((w.alloc (.cells #[.int .i64 s.k, .string s.t, .string s.nm, .string s.c, .string s.se, .int .i64 s.v.k, .int .i64 s.v.n, .float .f64 s.v.f, .string s.v.s, .int .i64 s.w.k, .int .i64 s.w.n, .float .f64 s.w.f, .string s.w.s, .slice A n c, .slice A' m d, .bool s.fl] 37)).alloc (.cells #[.int .i64 0, .string ⟨#[]⟩, .string ⟨#[]⟩, .string ⟨#[]⟩, .string ⟨#[]⟩, .int .i64 0, .int .i64 0, .float .f64 0, .string ⟨#[]⟩, .int .i64 0, .int .i64 0, .float .f64 0, .string ⟨#[]⟩, .slice none 0 0, .slice none 0 0, .bool false] 37)).heap[w.heap.size + 1]? = some (.cells #[.int .i64 0, .string ⟨#[]⟩, .string ⟨#[]⟩, .string ⟨#[]⟩, .string ⟨#[]⟩, .int .i64 0, .int .i64 0, .float .f64 0, .string ⟨#[]⟩, .int .i64 0, .int .i64 0, .float .f64 0, .string ⟨#[]⟩, .slice none 0 0, .slice none 0 0, .bool false] 37 (0, 0)) := by
    have h := blk_new (w.alloc (.cells #[.int .i64 s.k, .string s.t, .string s.nm, .string s.c, .string s.se, .int .i64 s.v.k, .int .i64 s.v.n, .float .f64 s.v.f, .string s.v.s, .int .i64 s.w.k, .int .i64 s.w.n, .float .f64 s.w.f, .string s.w.s, .slice A n c, .slice A' m d, .bool s.fl] 37)) (.cells #[.int .i64 0, .string ⟨#[]⟩, .string ⟨#[]⟩, .string ⟨#[]⟩, .string ⟨#[]⟩, .int .i64 0, .int .i64 0, .float .f64 0, .string ⟨#[]⟩, .int .i64 0, .int .i64 0, .float .f64 0, .string ⟨#[]⟩, .slice none 0 0, .slice none 0 0, .bool false] 37)
    rwa [show (w.alloc (.cells #[.int .i64 s.k, .string s.t, .string s.nm, .string s.c, .string s.se, .int .i64 s.v.k, .int .i64 s.v.n, .float .f64 s.v.f, .string s.v.s, .int .i64 s.w.k, .int .i64 s.w.n, .float .f64 s.w.f, .string s.w.s, .slice A n c, .slice A' m d, .bool s.fl] 37)).heap.size = w.heap.size + 1 by simp] at h
  have Q0 := Lib.hid P0
  have Q1 := Lib.hid P1
  clear P0 P1
  go_wp2_with (at_builtin; go_loud (refine wp_app (cs := Vl.cs) (size := 4) vl_len (by omega) vl_one rfl (.tmp 3) (.tmp 5) _ rfl (w.heap.size + 2) 33 _ 40 Tryz.uVals Tryz.iVal rfl (.slice (some ⟨w.heap.size + 2, 0, none⟩) 0 0) [] rfl ?_ A n c s.row rfl (HR.out.keep (bl_alloc hW _)) (by simp <;> omega) (by simp <;> omega) (by simp) ?_))
  · exact own_empty (by simp) (by simp)
  intro A1 c1 w1 hown1 hg1 hat1
  have hz1 : w.heap.size + 1 < w1.heap.size := by have := hg1.size; simp at this; omega
  have hz1' : w.heap.size < w1.heap.size := by omega
  have B0 := blk_grown (blk_old Q0.out _) hg1 (by simp [Value.ownBlock] <;> omega)
  have B1 := blk_grown (blk_old Q1.out _) hg1 (by simp [Value.ownBlock] <;> omega)
  have hb1 : Below w.heap.size w w1 := below_own (bl_alloc hW _) hg1 (fun k hk => by simp [Value.ownBlock] at hk; omega)
  obtain ⟨k0, f0⟩ := blk_rules B0
  obtain ⟨k1, f1⟩ := blk_rules B1
  have hne1 : (Value.slice A1 n c1).ownBlock ≠ some w.heap.size := by
    rcases hat1 with h | h <;> rw [h] <;> simp [Value.ownBlock] <;> omega
  have hbs : Below w.heap.size w (w1.setCell ⟨w.heap.size, 13, none⟩ (.slice A1 n c1)) := bl_set hb1 (Nat.le_refl _) _
  have hown2 : Own Vl.cs 4 33 (w1.setCell ⟨w.heap.size, 13, none⟩ (.slice A1 n c1)) (w.heap.size + 2) (.slice A1 n c1) s.row := hown1.set_ (p := ⟨w.heap.size, 13, none⟩) hne1 _
  have hsz2 : (w1.setCell ⟨w.heap.size, 13, none⟩ (.slice A1 n c1)).heap.size = w1.heap.size := by simp [World.setCell]
  have C0 : (w1.setCell ⟨w.heap.size, 13, none⟩ (.slice A1 n c1)).heap[w.heap.size]? = some (.cells #[.int .i64 s.k, .string s.t, .string s.nm, .string s.c, .string s.se, .int .i64 s.v.k, .int .i64 s.v.n, .float .f64 s.v.f, .string s.v.s, .int .i64 s.w.k, .int .i64 s.w.n, .float .f64 s.w.f, .string s.w.s, .slice A1 n c1, .slice A' m d, .bool s.fl] 37 (0, 0)) := blk_set B0 13 _
  have C1 : (w1.setCell ⟨w.heap.size, 13, none⟩ (.slice A1 n c1)).heap[w.heap.size + 1]? = some (.cells #[.int .i64 0, .string ⟨#[]⟩, .string ⟨#[]⟩, .string ⟨#[]⟩, .string ⟨#[]⟩, .int .i64 0, .int .i64 0, .float .f64 0, .string ⟨#[]⟩, .int .i64 0, .int .i64 0, .float .f64 0, .string ⟨#[]⟩, .slice none 0 0, .slice none 0 0, .bool false] 37 (0, 0)) := blk_far B1 (by simp) _
  have D0 := Lib.hid C0
  have D1 := Lib.hid C1
  have K0 := Lib.hid hsz2
  have K1 := Lib.hid hat1
  have K2 := Lib.hid hown2
  clear B0 B1 C0 C1 hsz2 hat1 hown1 hown2 hg1
  go_wp2_with (at_builtin; go_loud (refine wp_app (cs := Cl.cs) (size := 7) cl_len (by omega) cl_one rfl (.tmp 8) (.tmp 10) _ rfl (w.heap.size + 2) 85 _ 72 Tryz.uCols Tryz.iCol rfl (.slice (some ⟨w1.heap.size, 0, none⟩) 0 0) [] rfl ?_ A' m d s.cols rfl (HC.out.keep (bl_alloc hbs _)) (by simp <;> omega) (by simp <;> omega) (by simp <;> omega) ?_))
  · exact own_empty K0.out (by have := K0.out; omega)
  intro A2 c2 w2 hown3 hg2 hat2
  have hz2 : w.heap.size + 1 < w2.heap.size := by have := hg2.size; simp at this; omega
  have hz2' : w.heap.size < w2.heap.size := by omega
  have B0 := blk_grown (blk_old D0.out _) hg2 (by simp [Value.ownBlock] <;> omega)
  have B1 := blk_grown (blk_old D1.out _) hg2 (by simp [Value.ownBlock] <;> omega)
  have hb2 : Below w.heap.size w w2 := below_own (bl_alloc hbs _) hg2 (fun k hk => by simp [Value.ownBlock] at hk; omega)
  have hown4 : Own Vl.cs 4 33 w2 (w.heap.size + 2) (.slice A1 n c1) s.row := (K2.out.alloc_ _).grown hg2 (.inr (by
      intro h
      have := (K2.out.lt w1.heap.size h).2
      have := K0.out
      omega))
  have hneA : ∀ b, b < w.heap.size + 2 → (Value.slice A1 n c1).ownBlock ≠ some b := by
    intro b hb h
    have := (K2.out.lt b h).1
    omega
  have hneB : ∀ b, b < w.heap.size + 2 → (Value.slice A2 m c2).ownBlock ≠ some b := by
    intro b hb h
    have := (hown3.lt b h).1
    omega
  obtain ⟨m0, g0⟩ := blk_rules B0
  obtain ⟨m1, g1⟩ := blk_rules B1
  have M1 := Lib.hid B1
  have s14 := World.cell?_setCell_same w2 ⟨w.heap.size, 14, none⟩ (.slice A2 m c2) (u := .slice A' m d) (by rw [m0]; rfl)
  have KA := Lib.hid hneA
  have KB := Lib.hid hneB
  have OA := Lib.hid hown4
  have OB := Lib.hid hown3
  clear hneA hneB hown4 hown3 hg2 hat2 B0 B1 hbs hb1 hW k0 k1 f0 f1 hz1 hz1' hne1
  go_wp2
  refine bodyPost_ret (results_blk (T := 37) (b := w.heap.size + 1) rfl (fun _ => by kernel_rfl) (fun _ => by kernel_rfl) _ rfl ?_) rfl ⟨A1, c1, A2, c2, rfl, ?_, ?_, ?_⟩
  · have hm1 := M1.out
    simp [World.setCell, Array.getElem?_modify, hm1]
  · refine own_rd (c := c1) (e := 33) (base := w.heap.size + 2) vl_len ?_
    iterate 17 refine Own.set_ ?_ (KA.out _ (by simp)) _
    exact OA.out
  · refine own_rd (c := c2) (e := 85) (base := w.heap.size + 2) cl_len ?_
    iterate 17 refine Own.set_ ?_ (KB.out _ (by simp)) _
    exact OB.out
  · iterate 17 refine bl_set ?_ (by simp) _
    exact hb2
end Go.Proofs.YtbmaeaknlpgdmaaGreat
namespace Go.Proofs.YtbmaeaknlpgdmaaGreat
open Go.RowKit
set_option linter.unusedVariables false
set_option linter.unusedSimpArgs false
/-- A slice of values as one cell of a slice of slices. -/
structure Sl where
  A : Option Addr
  n : Nat
  c : Nat
abbrev Sl.v (s : Sl) : Value := .slice s.A s.n s.c
abbrev Sl.cs (s : Sl) : List Value := [.slice s.A s.n s.c]
theorem sl_len (x : Sl) : x.cs.length = 1 := rfl
theorem sl_one (x : Sl) : ∀ u ∈ x.cs, u.oneCell' = true := by intro u hu; simp [Sl.cs] at hu; subst hu; rfl
theorem Tryz.uRows : Tryz.prog.underlying 27 = some (.slice 34) := by kernel_rfl
theorem Tryz.iRow : (Tryz.prog.info? 34).map (fun i => (i.zero, i.size, i.bytes)) = some (some (.slice none 0 0), 1, 24) := by kernel_rfl
def ClonePost {α : Type} (cs : α → List Value) (size : Nat) (el : TypeId) (n : Nat) (xs : List α) (w : World) (e : Ending) (w' : World) : Prop :=
  ∃ A c, e = .returned (.slice A n c) ∧ Own cs size el w' w.heap.size (.slice A n c) xs ∧ Below w.heap.size w w'

set_option maxRecDepth 100000 in
set_option maxHeartbeats 1000000 in
theorem cloneV (A : Option Addr) (n c : Nat) (xs : List Vl) (w : World) (hx : Rd Vl.cs 4 w A n xs) (hn : n ≤ 1000000) : Calls Tryz.prog 84 #[.slice A n c] w (ClonePost Vl.cs 4 33 n xs w) := by
  have HX := Lib.hid hx
  cases A with
  | none =>
    have h0 : n = 0 := by
      rcases Nat.eq_zero_or_pos n with h | h
      · exact h
      · obtain ⟨b, o, e, _⟩ := hx.2.2 h; cases e
    subst h0
    have hxs : xs = [] := List.eq_nil_of_length_eq_zero hx.1
    have HXS := Lib.hid hxs
    have hnil := fun w => Lib.run_eql_slice_nil (P := Tryz.prog) w 34 33 none 0 c 0 0 Tryz.uVals
    clear hx hxs
    go_enter Tryz.func84, Tryz.ntmps84
    go_wp2
    go_ret
    exact ⟨none, 0, rfl, by rw [HXS.out]; exact own_nil' _ _ _, Below.refl _ _⟩
  | some p =>
    have hnil := fun w => Lib.run_eql_slice_nil (P := Tryz.prog) w 34 33 (some p) n c 0 0 Tryz.uVals
    clear hx
    go_enter Tryz.func84, Tryz.ntmps84
    go_wp2_with (at_builtin; go_loud (refine wp_app (cs := Vl.cs) (size := 4) vl_len (by omega) vl_one rfl (.tmp 5) (.tmp 6) _ rfl w.heap.size 33 _ 40 Tryz.uVals Tryz.iVal rfl (.slice (some ⟨w.heap.size, 0, none⟩) 0 0) [] rfl (own_empty rfl (Nat.le_refl _)) (some p) n c xs rfl (HX.out.keep (bl_alloc (Below.refl _ _) _)) (by simp <;> omega) (by simp <;> omega) (by simp) ?_))
    intro A1 c1 w1 hown1 hg1 hat1
    have hb1 : Below w.heap.size w w1 := below_own (bl_alloc (Below.refl _ _) _) hg1 (fun k hk => by simp [Value.ownBlock] at hk; omega)
    have H1 := Lib.hid hown1
    clear hown1 hg1 hat1
    go_wp2
    go_ret
    exact ⟨A1, c1, rfl, H1.out, hb1⟩

set_option maxRecDepth 100000 in
set_option maxHeartbeats 1000000 in
theorem cloneC (A : Option Addr) (n c : Nat) (xs : List Cl) (w : World) (hx : Rd Cl.cs 7 w A n xs) (hn : n ≤ 1000000) : Calls Tryz.prog 82 #[.slice A n c] w (ClonePost Cl.cs 7 85 n xs w) := by
  have HX := Lib.hid hx
  cases A with
  | none =>
    have h0 : n = 0 := by
      rcases Nat.eq_zero_or_pos n with h | h
      · exact h
      · obtain ⟨b, o, e, _⟩ := hx.2.2 h; cases e
    subst h0
    have hxs : xs = [] := List.eq_nil_of_length_eq_zero hx.1
    have HXS := Lib.hid hxs
    have hnil := fun w => Lib.run_eql_slice_nil (P := Tryz.prog) w 35 85 none 0 c 0 0 Tryz.uCols
    clear hx hxs
    go_enter Tryz.func82, Tryz.ntmps82
    go_wp2
    go_ret
    exact ⟨none, 0, rfl, by rw [HXS.out]; exact own_nil' _ _ _, Below.refl _ _⟩
  | some p =>
    have hnil := fun w => Lib.run_eql_slice_nil (P := Tryz.prog) w 35 85 (some p) n c 0 0 Tryz.uCols
    clear hx
    go_enter Tryz.func82, Tryz.ntmps82
    go_wp2_with (at_builtin; go_loud (refine wp_app (cs := Cl.cs) (size := 7) cl_len (by omega) cl_one rfl (.tmp 5) (.tmp 6) _ rfl w.heap.size 85 _ 72 Tryz.uCols Tryz.iCol rfl (.slice (some ⟨w.heap.size, 0, none⟩) 0 0) [] rfl (own_empty rfl (Nat.le_refl _)) (some p) n c xs rfl (HX.out.keep (bl_alloc (Below.refl _ _) _)) (by simp <;> omega) (by simp <;> omega) (by simp) ?_))
    intro A1 c1 w1 hown1 hg1 hat1
    have hb1 : Below w.heap.size w w1 := below_own (bl_alloc (Below.refl _ _) _) hg1 (fun k hk => by simp [Value.ownBlock] at hk; omega)
    have H1 := Lib.hid hown1
    clear hown1 hg1 hat1
    go_wp2
    go_ret
    exact ⟨A1, c1, rfl, H1.out, hb1⟩

set_option maxRecDepth 100000 in
set_option maxHeartbeats 1000000 in
theorem cloneR (A : Option Addr) (n c : Nat) (xs : List Sl) (w : World) (hx : Rd Sl.cs 1 w A n xs) (hn : n ≤ 1000000) : Calls Tryz.prog 91 #[.slice A n c] w (ClonePost Sl.cs 1 34 n xs w) := by
  have HX := Lib.hid hx
  cases A with
  | none =>
    have h0 : n = 0 := by
      rcases Nat.eq_zero_or_pos n with h | h
      · exact h
      · obtain ⟨b, o, e, _⟩ := hx.2.2 h; cases e
    subst h0
    have hxs : xs = [] := List.eq_nil_of_length_eq_zero hx.1
    have HXS := Lib.hid hxs
    have hnil := fun w => Lib.run_eql_slice_nil (P := Tryz.prog) w 27 34 none 0 c 0 0 Tryz.uRows
    clear hx hxs
    go_enter Tryz.func91, Tryz.ntmps91
    go_wp2
    go_ret
    exact ⟨none, 0, rfl, by rw [HXS.out]; exact own_nil' _ _ _, Below.refl _ _⟩
  | some p =>
    have hnil := fun w => Lib.run_eql_slice_nil (P := Tryz.prog) w 27 34 (some p) n c 0 0 Tryz.uRows
    clear hx
    go_enter Tryz.func91, Tryz.ntmps91
    go_wp2_with (at_builtin; go_loud (refine wp_app (cs := Sl.cs) (size := 1) sl_len (by omega) sl_one rfl (.tmp 5) (.tmp 6) _ rfl w.heap.size 34 _ 24 Tryz.uRows Tryz.iRow rfl (.slice (some ⟨w.heap.size, 0, none⟩) 0 0) [] rfl (own_empty rfl (Nat.le_refl _)) (some p) n c xs rfl (HX.out.keep (bl_alloc (Below.refl _ _) _)) (by simp <;> omega) (by simp <;> omega) (by simp) ?_))
    intro A1 c1 w1 hown1 hg1 hat1
    have hb1 : Below w.heap.size w w1 := below_own (bl_alloc (Below.refl _ _) _) hg1 (fun k hk => by simp [Value.ownBlock] at hk; omega)
    have H1 := Lib.hid hown1
    clear hown1 hg1 hat1
    go_wp2
    go_ret
    exact ⟨A1, c1, rfl, H1.out, hb1⟩
end Go.Proofs.YtbmaeaknlpgdmaaGreat
