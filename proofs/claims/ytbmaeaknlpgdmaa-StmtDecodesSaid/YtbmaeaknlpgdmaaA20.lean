/- The bytes of columns. -/
import Derived.Test.YtbmaeaknlpgdmaaA19
import Derived.Test.YtbmaeaknlpgdmaaA10
import Derived.Deep.Cut
namespace Go.Proofs.Ytbmaeaknlpgdmaa
open Go.RowKit
def colE (c : Cl) : ByteArray := ((nameE c.name ++ strOfNums [c.kind]) ++ flagE c.nn) ++ encV c.d
def colsTo (s0 : ByteArray) (l : List Cl) : ByteArray := l.foldl (fun s c => s ++ colE c) s0
def colsE (l : List Cl) : ByteArray := colsTo (strOfNums [(l.length : Int)]) l
/-- A column that is good, as far as its bytes ask. -/
def GoodC (c : Cl) : Prop := c.name.size ≤ 8 ∧ 0 ≤ c.kind ∧ c.kind ≤ 255 ∧ goodV c.d = true ∧ c.d.f < 18446744073709551616
theorem colsTo_snoc {s0 : ByteArray} {l : List Cl} {k : Nat} {x : Cl} (h : l[k]? = some x) : colsTo s0 (l.take (k + 1)) = colsTo s0 (l.take k) ++ colE x := by
  rw [take_snoc' h]; unfold colsTo; rw [List.foldl_append]; rfl
theorem colE_size {c : Cl} (h : GoodC c) : (colE c).size ≤ 270 := by
  obtain ⟨h1, _, _, h2, _⟩ := h
  have h3 := encV_size h2
  unfold colE
  rw [ByteArray.size_append, ByteArray.size_append, ByteArray.size_append, nameE_size, flagE_size, strOfNums_size]
  simp only [List.length_cons, List.length_nil]
  omega
theorem colsTo_size {s0 : ByteArray} {l : List Cl} (h : ∀ c ∈ l, GoodC c) : (colsTo s0 l).size ≤ s0.size + 270 * l.length := by
  induction l generalizing s0 with
  | nil => simp [colsTo]
  | cons c l ih =>
    have h1 := ih (s0 := s0 ++ colE c) (fun x hx => h x (List.mem_cons_of_mem _ hx))
    have h2 := colE_size (h c (List.mem_cons_self ..))
    have h3 : colsTo s0 (c :: l) = colsTo (s0 ++ colE c) l := rfl
    rw [h3]
    rw [ByteArray.size_append] at h1
    simp only [List.length_cons]
    omega

theorem S_alloc {w W : World} {g : Nat} {row : Array Value} {T : TypeId} (h : (∀ j, W.cell? ⟨g, j, none⟩ = row[j]?) ∧ Below w.heap.size w W ∧ W.heap[g]? = some (.cells row T (0, 0))) (o : Obj) :
    (∀ j, (W.alloc o).cell? ⟨g, j, none⟩ = row[j]?) ∧ Below w.heap.size w (W.alloc o) ∧ (W.alloc o).heap[g]? = some (.cells row T (0, 0)) :=
  ⟨(blk_rules (blk_old h.2.2 o)).1, bl_alloc h.2.1 o, blk_old h.2.2 o⟩
theorem S_below {w W W' : World} {g : Nat} {row : Array Value} {T : TypeId} (h : (∀ j, W.cell? ⟨g, j, none⟩ = row[j]?) ∧ Below w.heap.size w W ∧ W.heap[g]? = some (.cells row T (0, 0))) (hb : Below W.heap.size W W') :
    (∀ j, W'.cell? ⟨g, j, none⟩ = row[j]?) ∧ Below w.heap.size w W' ∧ W'.heap[g]? = some (.cells row T (0, 0)) :=
  ⟨(blk_rules (blk_below h.2.2 hb)).1, bl_step h.2.1 hb, blk_below h.2.2 hb⟩
/-- A byte's block read as a text. -/
theorem convB (a : Int) (w : World) (m c : Nat) (h : w.heap[m]? = some (.cells #[.int .u8 a] 5 (0, 0))) : (convert 51 9 (.slice (some ⟨m, 0, none⟩) 1 c)).run Try.prog w = .ok (.string (strOfNums [a])) w := by
  refine run_convert_bytes_arg _ _ _ Try.uBytes Try.uByte _ 0 1 c [a] rfl (fun i hi => ?_) _ Try.uString
  rw [cell_of_row _ _ _ _ _ _ h]
  have h0 : i = 0 := by omega
  subst h0
  rfl

set_option maxRecDepth 100000 in
set_option maxHeartbeats 4000000 in
theorem columns_any (A : Option Addr) (n c : Nat) (xs : List Cl) (w : World) (hx : RdC w A n xs) (hg : ∀ c ∈ xs, GoodC c) (hn : n ≤ 6) :
    Pure Try.prog 53 #[.slice A n c] w (.string (colsE xs)) := by
  have HX := Lib.hid hx
  have HG := Lib.hid hg
  have E := Lib.hid (show colsTo (strOfNums [(n : Int)]) (xs.take n) = colsE xs by rw [List.take_of_length_le (by rw [hx.1]; exact Nat.le_refl n)]; unfold colsE; rw [hx.1])
  have S := Lib.hid (fun k (hk : k ≤ n) => show (colsTo (strOfNums [(n : Int)]) (xs.take k)).size ≤ 2000 by
    have h1 := colsTo_size (s0 := strOfNums [(n : Int)]) (l := xs.take k) (fun v hv => hg v (List.mem_of_mem_take hv))
    rw [strOfNums_size, List.length_take] at h1
    simp only [List.length_cons, List.length_nil] at h1
    omega)
  clear hx hg
  have hcv := conv1
  go_enter Try.func53, Try.ntmps53
  go_wp2
  go_loopw [3, 15] (fun s i wr => ∃ k : Nat, k ≤ n ∧ i = .int .i64 k ∧ s = .string (colsTo (strOfNums [(n : Int)]) (xs.take k)) ∧ Below w.heap.size w wr) (fun _ i _ => n - (intOf i).toNat)
  case atStart => exact ⟨0, Nat.zero_le _, rfl, rfl, by (repeat (first | assumption | exact Below.refl _ _ | refine bl_drewN ?_ _ | refine bl_drew ?_ | refine bl_alloc ?_ _ | refine bl_step ?_ (by assumption)))⟩
  case round =>
    obtain ⟨k, hk, rfl, rfl, hb⟩ := hrel
    by_cases hlt : k < n
    · obtain ⟨b, o, x, hA, hxk, x0, x1, x2, x3, x4, x5, x6, hbo⟩ := HX.out.get_ hb hlt
      subst hA
      have Hx := Lib.hid hxk
      have hs1 := S.out k hk
      have hgx := HG.out x (List.mem_of_getElem? hxk)
      have hs2 := encV_size hgx.2.2.2.1
      have hs3 := hgx.1
      have hs4 := hgx.2.1
      have hs5 := hgx.2.2.1
      have hsz := strOfNums_size
      have hne := nameE_size x.name
      have hfe := flagE_size x.nn
      have Hgx := Lib.hid hgx
      clear hxk hgx
      go_wp2_with fail
      refine (enc_any x.d _ Hgx.out.2.2.2.2 Hgx.out.2.2.2.1).mono ?_
      rintro e w1 ⟨rfl, hb1⟩
      have B1 := blk_below (blk_new wr _) hb1
      have hB1 : Below w.heap.size w w1 := bl_step (bl_alloc hb _) hb1
      clear x0 x1 x2 x3 x4 x5 x6 hb1
      obtain ⟨k1, f1⟩ := blk_rules B1
      have hz := blk_lt B1
      go_upto_region 6 with fail
      have hS0 : (∀ j, w1.drew.cell? ⟨wr.heap.size, j, none⟩ = (#[.string x.name, .int .i64 x.kind, .bool x.nn, .int .i64 x.d.k, .int .i64 x.d.n, .float .f64 x.d.f, .string x.d.s] : Array Value)[j]?) ∧ Below w.heap.size w w1.drew ∧ w1.drew.heap[wr.heap.size]? = some (.cells #[.string x.name, .int .i64 x.kind, .bool x.nn, .int .i64 x.d.k, .int .i64 x.d.n, .float .f64 x.d.f, .string x.d.s] 80 (0, 0)) := ⟨k1, bl_drew hB1, B1⟩
      clear hB1 B1
      have hwr : IntKind.u8.wrap x.kind = x.kind := by rw [IntKind.wrap_u8]; omega
      have q1 : ¬ (9223372036854775807 < (nameE x.name).size + (strOfNums [x.kind]).size) := by rw [hne, hsz]; simp only [List.length_cons, List.length_nil]; omega
      have q2 : ¬ (9223372036854775807 < (nameE x.name).size + (strOfNums [x.kind]).size + (flagE x.nn).size) := by rw [hne, hsz, hfe]; simp only [List.length_cons, List.length_nil]; omega
      have q3 : ¬ (9223372036854775807 < (nameE x.name).size + (strOfNums [x.kind]).size + (flagE x.nn).size + (encV x.d).size) := by rw [hne, hsz, hfe]; simp only [List.length_cons, List.length_nil]; omega
      have q4 : ¬ (9223372036854775807 < (colsTo (strOfNums [(n : Int)]) (xs.take k)).size + ((nameE x.name).size + (strOfNums [x.kind]).size + (flagE x.nn).size + (encV x.d).size)) := by rw [hne, hsz, hfe]; simp only [List.length_cons, List.length_nil]; omega
      obtain ⟨E0, hE0⟩ : ∃ E0, colsTo (strOfNums [(n : Int)]) (xs.take k) = E0 := ⟨_, rfl⟩
      have HE := Lib.hid hE0
      rw [hE0] at q4 ⊢
      clear hE0
      have F : ∀ (W : World), Below w.heap.size w W → (∃ k', k' ≤ n ∧ Value.int .i64 ((k : Int) + 1) = .int .i64 k' ∧ Value.string (E0 ++ (((nameE x.name ++ strOfNums [x.kind]) ++ flagE x.nn) ++ encV x.d)) = .string (colsTo (strOfNums [(n : Int)]) (xs.take k')) ∧ Below w.heap.size w W) := fun W hW =>
        ⟨k + 1, by omega, by go_num, by rw [colsTo_snoc Hx.out, HE.out]; rfl, hW⟩
      clear hne hfe hsz hs1 hs2 hs4 hs5 hcv
      refine wp_region_held_drew (S := fun w' => (∀ j, w'.cell? ⟨wr.heap.size, j, none⟩ = (#[.string x.name, .int .i64 x.kind, .bool x.nn, .int .i64 x.d.k, .int .i64 x.d.n, .float .f64 x.d.f, .string x.d.s] : Array Value)[j]?) ∧ Below w.heap.size w w' ∧ w'.heap[wr.heap.size]? = some (.cells #[.string x.name, .int .i64 x.kind, .bool x.nn, .int .i64 x.d.k, .int .i64 x.d.n, .float .f64 x.d.f, .string x.d.s] 80 (0, 0))) (by kernel_rfl) hS0 (fun hHeld => ?_)
      clear hS0 k1 f1
      simp only [List.size_toArray, List.length_cons, List.length_nil]
      (refine held_take (i := 0) (v := ?_) rfl (by kernel_rfl) (by kernel_rfl) (by kernel_rfl) (fun _ _ _ h => h) (by assumption) (by rfl) ?_ ?_; rotate_left; (focus (intro w hSw; (try dsimp only at hSw); go_simp; try with_reducible rfl)); (try simp only [Act.put, List.setIfInBounds_toArray, List.set_cons_zero, List.set_cons_succ]))
      (refine held_take (i := 1) (v := ?_) rfl (by kernel_rfl) (by kernel_rfl) (by kernel_rfl) (fun _ _ _ h => h) (by assumption) (by rfl) ?_ ?_; rotate_left; (focus (intro w hSw; (try dsimp only at hSw); go_simp; try with_reducible rfl)); (try simp only [Act.put, List.setIfInBounds_toArray, List.set_cons_zero, List.set_cons_succ]))
      (refine held_take (i := 2) (v := ?_) rfl (by kernel_rfl) (by kernel_rfl) (by kernel_rfl) (fun _ _ _ h => h) (by assumption) (by rfl) ?_ ?_; rotate_left; (focus (intro w hSw; (try dsimp only at hSw); go_simp; try with_reducible rfl)); (try simp only [Act.put, List.setIfInBounds_toArray, List.set_cons_zero, List.set_cons_succ]))
      (refine held_take (i := 4) (v := ?_) rfl (by kernel_rfl) (by kernel_rfl) (by kernel_rfl) (fun _ _ _ h => h) (by assumption) (by rfl) ?_ ?_; rotate_left; (focus (intro w hSw; (try dsimp only at hSw); go_simp; try with_reducible rfl)); (try simp only [Act.put, List.setIfInBounds_toArray, List.set_cons_zero, List.set_cons_succ]))
      (refine held_take (i := 5) (v := ?_) rfl (by kernel_rfl) (by kernel_rfl) (by kernel_rfl) (fun _ _ _ h => h) (by assumption) (by rfl) ?_ ?_; rotate_left; (focus (intro w hSw; (try dsimp only at hSw); go_simp; try with_reducible rfl)); (try simp only [Act.put, List.setIfInBounds_toArray, List.set_cons_zero, List.set_cons_succ]))
      (refine held_take (i := 6) (v := ?_) rfl (by kernel_rfl) (by kernel_rfl) (by kernel_rfl) (fun _ _ _ h => h) (by assumption) (by rfl) ?_ ?_; rotate_left; (focus (intro w hSw; (try dsimp only at hSw); go_simp; try with_reducible rfl)); (try simp only [Act.put, List.setIfInBounds_toArray, List.set_cons_zero, List.set_cons_succ]))
      (refine held_take (i := 10) (v := ?_) rfl (by kernel_rfl) (by kernel_rfl) (by kernel_rfl) (fun _ _ _ h => h) (by assumption) (by rfl) ?_ ?_; rotate_left; (focus (intro w hSw; (try dsimp only at hSw); go_simp; try with_reducible rfl)); (try simp only [Act.put, List.setIfInBounds_toArray, List.set_cons_zero, List.set_cons_succ]))
      (refine held_take (i := 11) (v := ?_) rfl (by kernel_rfl) (by kernel_rfl) (by kernel_rfl) (fun _ _ _ h => h) (by assumption) (by rfl) ?_ ?_; rotate_left; (focus (intro w hSw; (try dsimp only at hSw); go_simp; try with_reducible rfl)); (try simp only [Act.put, List.setIfInBounds_toArray, List.set_cons_zero, List.set_cons_succ]))
      (refine held_take (i := 14) (v := ?_) rfl (by kernel_rfl) (by kernel_rfl) (by kernel_rfl) (fun _ _ _ h => h) (by assumption) (by rfl) ?_ ?_; rotate_left; (focus (intro w hSw; (try dsimp only at hSw); go_simp; try with_reducible rfl)); (try simp only [Act.put, List.setIfInBounds_toArray, List.set_cons_zero, List.set_cons_succ]))
      refine wpAnyH_ready (rs := [3, 7]) (by kernel_rfl) (by simp) ?_
      refine held_step (i := 3) rfl (fun K hK => ?_) (held_step (i := 7) rfl (fun K hK => ?_) AllReadyH.nil)
      · go_simp
        refine (sname_any x.name _ (by omega)).mono ?_
        rintro e W3 ⟨rfl, hb⟩
        refine hK.out _ _ (S_below hHeld hb) (fun hH => ?_)
        clear hK K hHeld hb
        have hHeld := hH
        clear hH
        (try simp only [Act.put, List.setIfInBounds_toArray, List.set_cons_zero, List.set_cons_succ])
        refine wpAnyH_ready (rs := [7, 12]) (by kernel_rfl) (by simp) ?_
        refine held_step (i := 7) rfl (fun K hK => ?_) (held_step (i := 12) rfl (fun K hK => ?_) AllReadyH.nil)
        · go_simp
          refine hK.out _ _ (S_alloc hHeld _) (fun hH => ?_)
          clear hK K
          (try simp only [Act.put, List.setIfInBounds_toArray, List.set_cons_zero, List.set_cons_succ])
          refine wpAnyH_sharp (S' := fun w' => ((∀ j, w'.cell? ⟨wr.heap.size, j, none⟩ = (#[.string x.name, .int .i64 x.kind, .bool x.nn, .int .i64 x.d.k, .int .i64 x.d.n, .float .f64 x.d.f, .string x.d.s] : Array Value)[j]?) ∧ Below w.heap.size w w' ∧ w'.heap[wr.heap.size]? = some (.cells #[.string x.name, .int .i64 x.kind, .bool x.nn, .int .i64 x.d.k, .int .i64 x.d.n, .float .f64 x.d.f, .string x.d.s] 80 (0, 0))) ∧ w'.heap[W3.heap.size]? = some (.cells #[.int .u8 x.kind] 5 (0, 0))) (fun w' h => h.1) _ _ _ _ ?_
          have hN : (fun w' => ((∀ j, w'.cell? ⟨wr.heap.size, j, none⟩ = (#[.string x.name, .int .i64 x.kind, .bool x.nn, .int .i64 x.d.k, .int .i64 x.d.n, .float .f64 x.d.f, .string x.d.s] : Array Value)[j]?) ∧ Below w.heap.size w w' ∧ w'.heap[wr.heap.size]? = some (.cells #[.string x.name, .int .i64 x.kind, .bool x.nn, .int .i64 x.d.k, .int .i64 x.d.n, .float .f64 x.d.f, .string x.d.s] 80 (0, 0))) ∧ w'.heap[W3.heap.size]? = some (.cells #[.int .u8 x.kind] 5 (0, 0))) _ := ⟨hH, blk_new _ _⟩
          clear hH hHeld
          have hHeld := hN
          clear hN
          (refine held_take (i := 8) (v := ?_) rfl (by kernel_rfl) (by kernel_rfl) (by kernel_rfl) (fun _ _ _ h => h) (by assumption) (by rfl) ?_ ?_; rotate_left; (focus (intro w hSw; have hq := fun c => convB x.kind w W3.heap.size c hSw.2; (try dsimp only at hSw); go_simp; try with_reducible rfl)); (try simp only [Act.put, List.setIfInBounds_toArray, List.set_cons_zero, List.set_cons_succ]))
          (refine held_take (i := 9) (v := ?_) rfl (by kernel_rfl) (by kernel_rfl) (by kernel_rfl) (fun _ _ _ h => h) (by assumption) (by rfl) ?_ ?_; rotate_left; (focus (intro w hSw; (try dsimp only at hSw); go_simp; try with_reducible rfl)); (try simp only [Act.put, List.setIfInBounds_toArray, List.set_cons_zero, List.set_cons_succ]))
          refine wpAnyH_ready (rs := [12]) (by kernel_rfl) (by simp) ?_
          refine held_step (i := 12) rfl (fun K hK => ?_) AllReadyH.nil
          go_simp
          refine (sflag_any x.nn _).mono ?_
          rintro e W12 ⟨rfl, rfl⟩
          refine hK.out _ _ hHeld (fun _ => ?_)
          clear hK K
          (try simp only [Act.put, List.setIfInBounds_toArray, List.set_cons_zero, List.set_cons_succ])
          (refine held_take (i := 13) (v := ?_) rfl (by kernel_rfl) (by kernel_rfl) (by kernel_rfl) (fun _ _ _ h => h) (by assumption) (by rfl) ?_ ?_; rotate_left; (focus (intro w hSw; (try dsimp only at hSw); go_simp; try with_reducible rfl)); (try simp only [Act.put, List.setIfInBounds_toArray, List.set_cons_zero, List.set_cons_succ]))
          (refine held_take (i := 15) (v := ?_) rfl (by kernel_rfl) (by kernel_rfl) (by kernel_rfl) (fun _ _ _ h => h) (by assumption) (by rfl) ?_ ?_; rotate_left; (focus (intro w hSw; (try dsimp only at hSw); go_simp; try with_reducible rfl)); (try simp only [Act.put, List.setIfInBounds_toArray, List.set_cons_zero, List.set_cons_succ]))
          (refine held_take (i := 16) (v := ?_) rfl (by kernel_rfl) (by kernel_rfl) (by kernel_rfl) (fun _ _ _ h => h) (by assumption) (by rfl) ?_ ?_; rotate_left; (focus (intro w hSw; (try dsimp only at hSw); go_simp; try with_reducible rfl)); (try simp only [Act.put, List.setIfInBounds_toArray, List.set_cons_zero, List.set_cons_succ]))
          (refine held_take (i := 17) (v := ?_) rfl (by kernel_rfl) (by kernel_rfl) (by kernel_rfl) (fun _ _ _ h => h) (by assumption) (by rfl) ?_ ?_; rotate_left; (focus (intro w hSw; (try dsimp only at hSw); go_simp; try with_reducible rfl)); (try simp only [Act.put, List.setIfInBounds_toArray, List.set_cons_zero, List.set_cons_succ]))
          refine wpAnyH_done (by kernel_rfl) ?_ _
          have hW := F _ hHeld.1.2.1
          go_wp2
          go_roundw
          case rel => exact hW
          case measure => simp [intOf]; omega
        · go_simp
          refine (sflag_any x.nn _).mono ?_
          rintro e W12 ⟨rfl, rfl⟩
          refine hK.out _ _ hHeld (fun _ => ?_)
          clear hK K
          (try simp only [Act.put, List.setIfInBounds_toArray, List.set_cons_zero, List.set_cons_succ])
          refine wpAnyH_ready (rs := [7]) (by kernel_rfl) (by simp) ?_
          refine held_step (i := 7) rfl (fun K hK => ?_) AllReadyH.nil
          go_simp
          refine hK.out _ _ (S_alloc hHeld _) (fun hH => ?_)
          clear hK K
          (try simp only [Act.put, List.setIfInBounds_toArray, List.set_cons_zero, List.set_cons_succ])
          refine wpAnyH_sharp (S' := fun w' => ((∀ j, w'.cell? ⟨wr.heap.size, j, none⟩ = (#[.string x.name, .int .i64 x.kind, .bool x.nn, .int .i64 x.d.k, .int .i64 x.d.n, .float .f64 x.d.f, .string x.d.s] : Array Value)[j]?) ∧ Below w.heap.size w w' ∧ w'.heap[wr.heap.size]? = some (.cells #[.string x.name, .int .i64 x.kind, .bool x.nn, .int .i64 x.d.k, .int .i64 x.d.n, .float .f64 x.d.f, .string x.d.s] 80 (0, 0))) ∧ w'.heap[W3.heap.size]? = some (.cells #[.int .u8 x.kind] 5 (0, 0))) (fun w' h => h.1) _ _ _ _ ?_
          have hN : (fun w' => ((∀ j, w'.cell? ⟨wr.heap.size, j, none⟩ = (#[.string x.name, .int .i64 x.kind, .bool x.nn, .int .i64 x.d.k, .int .i64 x.d.n, .float .f64 x.d.f, .string x.d.s] : Array Value)[j]?) ∧ Below w.heap.size w w' ∧ w'.heap[wr.heap.size]? = some (.cells #[.string x.name, .int .i64 x.kind, .bool x.nn, .int .i64 x.d.k, .int .i64 x.d.n, .float .f64 x.d.f, .string x.d.s] 80 (0, 0))) ∧ w'.heap[W3.heap.size]? = some (.cells #[.int .u8 x.kind] 5 (0, 0))) _ := ⟨hH, blk_new _ _⟩
          clear hH hHeld
          have hHeld := hN
          clear hN
          (refine held_take (i := 8) (v := ?_) rfl (by kernel_rfl) (by kernel_rfl) (by kernel_rfl) (fun _ _ _ h => h) (by assumption) (by rfl) ?_ ?_; rotate_left; (focus (intro w hSw; have hq := fun c => convB x.kind w W3.heap.size c hSw.2; (try dsimp only at hSw); go_simp; try with_reducible rfl)); (try simp only [Act.put, List.setIfInBounds_toArray, List.set_cons_zero, List.set_cons_succ]))
          (refine held_take (i := 9) (v := ?_) rfl (by kernel_rfl) (by kernel_rfl) (by kernel_rfl) (fun _ _ _ h => h) (by assumption) (by rfl) ?_ ?_; rotate_left; (focus (intro w hSw; (try dsimp only at hSw); go_simp; try with_reducible rfl)); (try simp only [Act.put, List.setIfInBounds_toArray, List.set_cons_zero, List.set_cons_succ]))
          (refine held_take (i := 13) (v := ?_) rfl (by kernel_rfl) (by kernel_rfl) (by kernel_rfl) (fun _ _ _ h => h) (by assumption) (by rfl) ?_ ?_; rotate_left; (focus (intro w hSw; (try dsimp only at hSw); go_simp; try with_reducible rfl)); (try simp only [Act.put, List.setIfInBounds_toArray, List.set_cons_zero, List.set_cons_succ]))
          (refine held_take (i := 15) (v := ?_) rfl (by kernel_rfl) (by kernel_rfl) (by kernel_rfl) (fun _ _ _ h => h) (by assumption) (by rfl) ?_ ?_; rotate_left; (focus (intro w hSw; (try dsimp only at hSw); go_simp; try with_reducible rfl)); (try simp only [Act.put, List.setIfInBounds_toArray, List.set_cons_zero, List.set_cons_succ]))
          (refine held_take (i := 16) (v := ?_) rfl (by kernel_rfl) (by kernel_rfl) (by kernel_rfl) (fun _ _ _ h => h) (by assumption) (by rfl) ?_ ?_; rotate_left; (focus (intro w hSw; (try dsimp only at hSw); go_simp; try with_reducible rfl)); (try simp only [Act.put, List.setIfInBounds_toArray, List.set_cons_zero, List.set_cons_succ]))
          (refine held_take (i := 17) (v := ?_) rfl (by kernel_rfl) (by kernel_rfl) (by kernel_rfl) (fun _ _ _ h => h) (by assumption) (by rfl) ?_ ?_; rotate_left; (focus (intro w hSw; (try dsimp only at hSw); go_simp; try with_reducible rfl)); (try simp only [Act.put, List.setIfInBounds_toArray, List.set_cons_zero, List.set_cons_succ]))
          refine wpAnyH_done (by kernel_rfl) ?_ _
          have hW := F _ hHeld.1.2.1
          go_wp2
          go_roundw
          case rel => exact hW
          case measure => simp [intOf]; omega
      · go_simp
        refine hK.out _ _ (S_alloc hHeld _) (fun hH => ?_)
        clear hK K
        (try simp only [Act.put, List.setIfInBounds_toArray, List.set_cons_zero, List.set_cons_succ])
        refine wpAnyH_sharp (S' := fun w' => ((∀ j, w'.cell? ⟨wr.heap.size, j, none⟩ = (#[.string x.name, .int .i64 x.kind, .bool x.nn, .int .i64 x.d.k, .int .i64 x.d.n, .float .f64 x.d.f, .string x.d.s] : Array Value)[j]?) ∧ Below w.heap.size w w' ∧ w'.heap[wr.heap.size]? = some (.cells #[.string x.name, .int .i64 x.kind, .bool x.nn, .int .i64 x.d.k, .int .i64 x.d.n, .float .f64 x.d.f, .string x.d.s] 80 (0, 0))) ∧ w'.heap[w1.heap.size]? = some (.cells #[.int .u8 x.kind] 5 (0, 0))) (fun w' h => h.1) _ _ _ _ ?_
        have hN : (fun w' => ((∀ j, w'.cell? ⟨wr.heap.size, j, none⟩ = (#[.string x.name, .int .i64 x.kind, .bool x.nn, .int .i64 x.d.k, .int .i64 x.d.n, .float .f64 x.d.f, .string x.d.s] : Array Value)[j]?) ∧ Below w.heap.size w w' ∧ w'.heap[wr.heap.size]? = some (.cells #[.string x.name, .int .i64 x.kind, .bool x.nn, .int .i64 x.d.k, .int .i64 x.d.n, .float .f64 x.d.f, .string x.d.s] 80 (0, 0))) ∧ w'.heap[w1.heap.size]? = some (.cells #[.int .u8 x.kind] 5 (0, 0))) _ := ⟨hH, blk_new _ _⟩
        clear hH hHeld
        have hHeld := hN
        clear hN
        (refine held_take (i := 8) (v := ?_) rfl (by kernel_rfl) (by kernel_rfl) (by kernel_rfl) (fun _ _ _ h => h) (by assumption) (by rfl) ?_ ?_; rotate_left; (focus (intro w hSw; have hq := fun c => convB x.kind w w1.heap.size c hSw.2; (try dsimp only at hSw); go_simp; try with_reducible rfl)); (try simp only [Act.put, List.setIfInBounds_toArray, List.set_cons_zero, List.set_cons_succ]))
        refine wpAnyH_ready (rs := [3]) (by kernel_rfl) (by simp) ?_
        refine held_step (i := 3) rfl (fun K hK => ?_) AllReadyH.nil
        go_simp
        refine (sname_any x.name _ (by omega)).mono ?_
        rintro e W3 ⟨rfl, hb⟩
        refine hK.out _ _ ⟨S_below hHeld.1 hb, blk_below hHeld.2 hb⟩ (fun hH => ?_)
        clear hK K hHeld hb
        have hHeld := hH
        clear hH
        (try simp only [Act.put, List.setIfInBounds_toArray, List.set_cons_zero, List.set_cons_succ])
        (refine held_take (i := 9) (v := ?_) rfl (by kernel_rfl) (by kernel_rfl) (by kernel_rfl) (fun _ _ _ h => h) (by assumption) (by rfl) ?_ ?_; rotate_left; (focus (intro w hSw; (try dsimp only at hSw); go_simp; try with_reducible rfl)); (try simp only [Act.put, List.setIfInBounds_toArray, List.set_cons_zero, List.set_cons_succ]))
        refine wpAnyH_ready (rs := [12]) (by kernel_rfl) (by simp) ?_
        refine held_step (i := 12) rfl (fun K hK => ?_) AllReadyH.nil
        go_simp
        refine (sflag_any x.nn _).mono ?_
        rintro e W12 ⟨rfl, rfl⟩
        refine hK.out _ _ hHeld (fun _ => ?_)
        clear hK K
        (try simp only [Act.put, List.setIfInBounds_toArray, List.set_cons_zero, List.set_cons_succ])
        (refine held_take (i := 13) (v := ?_) rfl (by kernel_rfl) (by kernel_rfl) (by kernel_rfl) (fun _ _ _ h => h) (by assumption) (by rfl) ?_ ?_; rotate_left; (focus (intro w hSw; (try dsimp only at hSw); go_simp; try with_reducible rfl)); (try simp only [Act.put, List.setIfInBounds_toArray, List.set_cons_zero, List.set_cons_succ]))
        (refine held_take (i := 15) (v := ?_) rfl (by kernel_rfl) (by kernel_rfl) (by kernel_rfl) (fun _ _ _ h => h) (by assumption) (by rfl) ?_ ?_; rotate_left; (focus (intro w hSw; (try dsimp only at hSw); go_simp; try with_reducible rfl)); (try simp only [Act.put, List.setIfInBounds_toArray, List.set_cons_zero, List.set_cons_succ]))
        (refine held_take (i := 16) (v := ?_) rfl (by kernel_rfl) (by kernel_rfl) (by kernel_rfl) (fun _ _ _ h => h) (by assumption) (by rfl) ?_ ?_; rotate_left; (focus (intro w hSw; (try dsimp only at hSw); go_simp; try with_reducible rfl)); (try simp only [Act.put, List.setIfInBounds_toArray, List.set_cons_zero, List.set_cons_succ]))
        (refine held_take (i := 17) (v := ?_) rfl (by kernel_rfl) (by kernel_rfl) (by kernel_rfl) (fun _ _ _ h => h) (by assumption) (by rfl) ?_ ?_; rotate_left; (focus (intro w hSw; (try dsimp only at hSw); go_simp; try with_reducible rfl)); (try simp only [Act.put, List.setIfInBounds_toArray, List.set_cons_zero, List.set_cons_succ]))
        refine wpAnyH_done (by kernel_rfl) ?_ _
        have hW := F _ hHeld.1.2.1
        go_wp2
        go_roundw
        case rel => exact hW
        case measure => simp [intOf]; omega
    · obtain rfl : k = n := by omega
      go_wp2
      go_ret
      exact ⟨by rw [← E.out]; rfl, by (repeat (first | assumption | exact Below.refl _ _ | refine bl_drewN ?_ _ | refine bl_drew ?_ | refine bl_alloc ?_ _ | refine bl_step ?_ (by assumption)))⟩
end Go.Proofs.Ytbmaeaknlpgdmaa
