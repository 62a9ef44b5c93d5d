/- Lemmas on what the functions under this seat compute. -/
import Derived.Test.YtbmaeaknlpgdmaaA20
namespace Go.Proofs.Ytbmaeaknlpgdmaa
open Go.RowKit
def S7 (x : Cl) (b o : Nat) (w W : World) : Prop :=
  W.cell? ⟨b, o, none⟩ = some (.string x.name) ∧ W.cell? ⟨b, o + 1, none⟩ = some (.int .i64 x.kind) ∧ W.cell? ⟨b, o + 2, none⟩ = some (.bool x.nn) ∧
  W.cell? ⟨b, o + 3, none⟩ = some (.int .i64 x.d.k) ∧ W.cell? ⟨b, o + 4, none⟩ = some (.int .i64 x.d.n) ∧ W.cell? ⟨b, o + 5, none⟩ = some (.float .f64 x.d.f) ∧ W.cell? ⟨b, o + 6, none⟩ = some (.string x.d.s) ∧ Below w.heap.size w W
theorem S7_of {x : Cl} {b o : Nat} {w W : World} (h : S7 x b o w w) (hb : Below w.heap.size w W) : S7 x b o w W := by
  obtain ⟨h0, h1, h2, h3, h4, h5, h6, _⟩ := h
  exact ⟨pw_cell hb h0, pw_cell hb h1, pw_cell hb h2, pw_cell hb h3, pw_cell hb h4, pw_cell hb h5, pw_cell hb h6, hb⟩
theorem S7_below {x : Cl} {b o : Nat} {w W W' : World} (h : S7 x b o w w) (k : S7 x b o w W) (hb : Below W.heap.size W W') : S7 x b o w W' := S7_of h (bl_step k.2.2.2.2.2.2.2 hb)
theorem S7_alloc {x : Cl} {b o : Nat} {w W : World} (h : S7 x b o w w) (k : S7 x b o w W) (O : Obj) : S7 x b o w (W.alloc O) := S7_of h (bl_alloc k.2.2.2.2.2.2.2 O)

set_option maxRecDepth 100000 in
set_option maxHeartbeats 4000000 in
theorem rcols_any (A : Option Addr) (n c : Nat) (xs : List Cl) (w : World) (hx : RdC w A n xs) (hg : ∀ c ∈ xs, GoodC c) (hn : n ≤ 6) :
    Pure Try.prog 38 #[.slice A n c] w (.string (colsE xs)) := by
  have HX := Lib.hid hx
  have HG := Lib.hid hg
  have E := Lib.hid (show colsTo (strOfNums [(n : Int)]) (xs.take n) = colsE xs by rw [List.take_of_length_le (by rw [hx.1]; exact Nat.le_refl n)]; unfold colsE; rw [hx.1])
  have S := Lib.hid (fun k (hk : k ≤ n) => show (colsTo (strOfNums [(n : Int)]) (xs.take k)).size ≤ 2000 by
    have h1 := colsTo_size (s0 := strOfNums [(n : Int)]) (l := xs.take k) (fun v hv => hg v (List.mem_of_mem_take hv))
    rw [strOfNums_size, List.length_take] at h1
    simp only [List.length_cons, List.length_nil] at h1
    omega)
  clear hx hg
  have hcv := conv1
  go_enter Try.func38, Try.ntmps38
  go_wp2
  go_loopw [3, 4] (fun s i wr => ∃ k : Nat, k ≤ n ∧ i = .int .i64 k ∧ s = .string (colsTo (strOfNums [(n : Int)]) (xs.take k)) ∧ Below w.heap.size w wr) (fun _ i _ => n - (intOf i).toNat)
  case atStart => exact ⟨0, Nat.zero_le _, rfl, rfl, by (repeat (first | assumption | exact Below.refl _ _ | refine bl_drewN ?_ _ | refine bl_drew ?_ | refine bl_alloc ?_ _ | refine bl_step ?_ (by assumption)))⟩
  case round =>
    obtain ⟨k, hk, rfl, rfl, hb⟩ := hrel
    by_cases hlt : k < n
    · obtain ⟨b, o, x, hA, hxk, y0, y1, y2, y3, y4, y5, y6, hbo⟩ := HX.out.get_ (Below.refl _ w) hlt
      have hS := S7_of (x := x) (b := b) (o := o + k * 7) ⟨y0, y1, y2, y3, y4, y5, y6, Below.refl _ w⟩ (bl_drew hb)
      have HSw := Lib.hid (show S7 x b (o + k * 7) w w from ⟨y0, y1, y2, y3, y4, y5, y6, Below.refl _ w⟩)
      have HS := Lib.hid hS
      clear y0 y1 y2 y3 y4 y5 y6
      subst hA
      have Hx := Lib.hid hxk
      have hs1 := S.out k hk
      have hgx := HG.out x (List.mem_of_getElem? hxk)
      have hs2 := encV_size hgx.2.2.2.1
      have hs3 := hgx.1
      have hs4 := hgx.2.1
      have hs5 := hgx.2.2.1
      have hsz := strOfNums_size
      have hne := nameE_size x.name
      have hfe := flagE_size x.nn
      have Hgx := Lib.hid hgx
      have hwr : IntKind.u8.wrap x.kind = x.kind := by rw [IntKind.wrap_u8]; omega
      clear hxk hgx hS
      go_upto_region 5 with fail
      have q1 : ¬ (9223372036854775807 < (nameE x.name).size + (strOfNums [x.kind]).size) := by rw [hne, hsz]; simp only [List.length_cons, List.length_nil]; omega
      have q2 : ¬ (9223372036854775807 < (nameE x.name).size + (strOfNums [x.kind]).size + (flagE x.nn).size) := by rw [hne, hsz, hfe]; simp only [List.length_cons, List.length_nil]; omega
      have q3 : ¬ (9223372036854775807 < (nameE x.name).size + (strOfNums [x.kind]).size + (flagE x.nn).size + (encV x.d).size) := by rw [hne, hsz, hfe]; simp only [List.length_cons, List.length_nil]; omega
      have q4 : ¬ (9223372036854775807 < (colsTo (strOfNums [(n : Int)]) (xs.take k)).size + ((nameE x.name).size + (strOfNums [x.kind]).size + (flagE x.nn).size + (encV x.d).size)) := by rw [hne, hsz, hfe]; simp only [List.length_cons, List.length_nil]; omega
      obtain ⟨E0, hE0⟩ : ∃ E0, colsTo (strOfNums [(n : Int)]) (xs.take k) = E0 := ⟨_, rfl⟩
      have HE := Lib.hid hE0
      rw [hE0] at q4 ⊢
      clear hE0
      have F : ∀ (W : World), Below w.heap.size w W → (∃ k', k' ≤ n ∧ Value.int .i64 ((k : Int) + 1) = .int .i64 k' ∧ Value.string (E0 ++ (((nameE x.name ++ strOfNums [x.kind]) ++ flagE x.nn) ++ encV x.d)) = .string (colsTo (strOfNums [(n : Int)]) (xs.take k')) ∧ Below w.heap.size w W) := fun W hW =>
        ⟨k + 1, by omega, by go_num, by rw [colsTo_snoc Hx.out, HE.out]; rfl, hW⟩
      clear hne hfe hsz hs1 hs2 hs4 hs5 hcv
      refine wp_region_held_drew (S := fun w' => w'.cell? ⟨b, o + k * 7, none⟩ = some (.string x.name) ∧ w'.cell? ⟨b, o + k * 7 + 1, none⟩ = some (.int .i64 x.kind) ∧ w'.cell? ⟨b, o + k * 7 + 2, none⟩ = some (.bool x.nn) ∧ w'.cell? ⟨b, o + k * 7 + 3, none⟩ = some (.int .i64 x.d.k) ∧ w'.cell? ⟨b, o + k * 7 + 4, none⟩ = some (.int .i64 x.d.n) ∧ w'.cell? ⟨b, o + k * 7 + 5, none⟩ = some (.float .f64 x.d.f) ∧ w'.cell? ⟨b, o + k * 7 + 6, none⟩ = some (.string x.d.s) ∧ Below w.heap.size w w') (by kernel_rfl) HS.out (fun hHeld => ?_)
      clear HS
      simp only [List.size_toArray, List.length_cons, List.length_nil]
      (refine held_take (i := 0) (v := ?_) rfl (by kernel_rfl) (by kernel_rfl) (by kernel_rfl) (fun _ _ _ h => h) (by assumption) (by rfl) ?_ ?_; rotate_left; (focus (intro w hSw; (try dsimp only at hSw); go_simp; try with_reducible rfl)); (try simp only [Act.put, List.setIfInBounds_toArray, List.set_cons_zero, List.set_cons_succ]))
      (refine held_take (i := 1) (v := ?_) rfl (by kernel_rfl) (by kernel_rfl) (by kernel_rfl) (fun _ _ _ h => h) (by assumption) (by rfl) ?_ ?_; rotate_left; (focus (intro w hSw; (try dsimp only at hSw); go_simp; try with_reducible rfl)); (try simp only [Act.put, List.setIfInBounds_toArray, List.set_cons_zero, List.set_cons_succ]))
      (refine held_take (i := 2) (v := ?_) rfl (by kernel_rfl) (by kernel_rfl) (by kernel_rfl) (fun _ _ _ h => h) (by assumption) (by rfl) ?_ ?_; rotate_left; (focus (intro w hSw; (try dsimp only at hSw); go_simp; try with_reducible rfl)); (try simp only [Act.put, List.setIfInBounds_toArray, List.set_cons_zero, List.set_cons_succ]))
      (refine held_take (i := 3) (v := ?_) rfl (by kernel_rfl) (by kernel_rfl) (by kernel_rfl) (fun _ _ _ h => h) (by assumption) (by rfl) ?_ ?_; rotate_left; (focus (intro w hSw; (try dsimp only at hSw); go_simp; try with_reducible rfl)); (try simp only [Act.put, List.setIfInBounds_toArray, List.set_cons_zero, List.set_cons_succ]))
      (refine held_take (i := 4) (v := ?_) rfl (by kernel_rfl) (by kernel_rfl) (by kernel_rfl) (fun _ _ _ h => h) (by assumption) (by rfl) ?_ ?_; rotate_left; (focus (intro w hSw; (try dsimp only at hSw); go_simp; try with_reducible rfl)); (try simp only [Act.put, List.setIfInBounds_toArray, List.set_cons_zero, List.set_cons_succ]))
      (refine held_take (i := 5) (v := ?_) rfl (by kernel_rfl) (by kernel_rfl) (by kernel_rfl) (fun _ _ _ h => h) (by assumption) (by rfl) ?_ ?_; rotate_left; (focus (intro w hSw; (try dsimp only at hSw); go_simp; try with_reducible rfl)); (try simp only [Act.put, List.setIfInBounds_toArray, List.set_cons_zero, List.set_cons_succ]))
      (refine held_take (i := 7) (v := ?_) rfl (by kernel_rfl) (by kernel_rfl) (by kernel_rfl) (fun _ _ _ h => h) (by assumption) (by rfl) ?_ ?_; rotate_left; (focus (intro w hSw; (try dsimp only at hSw); go_simp; try with_reducible rfl)); (try simp only [Act.put, List.setIfInBounds_toArray, List.set_cons_zero, List.set_cons_succ]))
      (refine held_take (i := 8) (v := ?_) rfl (by kernel_rfl) (by kernel_rfl) (by kernel_rfl) (fun _ _ _ h => h) (by assumption) (by rfl) ?_ ?_; rotate_left; (focus (intro w hSw; (try dsimp only at hSw); go_simp; try with_reducible rfl)); (try simp only [Act.put, List.setIfInBounds_toArray, List.set_cons_zero, List.set_cons_succ]))
      (refine held_take (i := 9) (v := ?_) rfl (by kernel_rfl) (by kernel_rfl) (by kernel_rfl) (fun _ _ _ h => h) (by assumption) (by rfl) ?_ ?_; rotate_left; (focus (intro w hSw; (try dsimp only at hSw); go_simp; try with_reducible rfl)); (try simp only [Act.put, List.setIfInBounds_toArray, List.set_cons_zero, List.set_cons_succ]))
      (refine held_take (i := 10) (v := ?_) rfl (by kernel_rfl) (by kernel_rfl) (by kernel_rfl) (fun _ _ _ h => h) (by assumption) (by rfl) ?_ ?_; rotate_left; (focus (intro w hSw; (try dsimp only at hSw); go_simp; try with_reducible rfl)); (try simp only [Act.put, List.setIfInBounds_toArray, List.set_cons_zero, List.set_cons_succ]))
      (refine held_take (i := 11) (v := ?_) rfl (by kernel_rfl) (by kernel_rfl) (by kernel_rfl) (fun _ _ _ h => h) (by assumption) (by rfl) ?_ ?_; rotate_left; (focus (intro w hSw; (try dsimp only at hSw); go_simp; try with_reducible rfl)); (try simp only [Act.put, List.setIfInBounds_toArray, List.set_cons_zero, List.set_cons_succ]))
      (refine held_take (i := 12) (v := ?_) rfl (by kernel_rfl) (by kernel_rfl) (by kernel_rfl) (fun _ _ _ h => h) (by assumption) (by rfl) ?_ ?_; rotate_left; (focus (intro w hSw; (try dsimp only at hSw); go_simp; try with_reducible rfl)); (try simp only [Act.put, List.setIfInBounds_toArray, List.set_cons_zero, List.set_cons_succ]))
      (refine held_take (i := 16) (v := ?_) rfl (by kernel_rfl) (by kernel_rfl) (by kernel_rfl) (fun _ _ _ h => h) (by assumption) (by rfl) ?_ ?_; rotate_left; (focus (intro w hSw; (try dsimp only at hSw); go_simp; try with_reducible rfl)); (try simp only [Act.put, List.setIfInBounds_toArray, List.set_cons_zero, List.set_cons_succ]))
      (refine held_take (i := 17) (v := ?_) rfl (by kernel_rfl) (by kernel_rfl) (by kernel_rfl) (fun _ _ _ h => h) (by assumption) (by rfl) ?_ ?_; rotate_left; (focus (intro w hSw; (try dsimp only at hSw); go_simp; try with_reducible rfl)); (try simp only [Act.put, List.setIfInBounds_toArray, List.set_cons_zero, List.set_cons_succ]))
      (refine held_take (i := 18) (v := ?_) rfl (by kernel_rfl) (by kernel_rfl) (by kernel_rfl) (fun _ _ _ h => h) (by assumption) (by rfl) ?_ ?_; rotate_left; (focus (intro w hSw; (try dsimp only at hSw); go_simp; try with_reducible rfl)); (try simp only [Act.put, List.setIfInBounds_toArray, List.set_cons_zero, List.set_cons_succ]))
      (refine held_take (i := 19) (v := ?_) rfl (by kernel_rfl) (by kernel_rfl) (by kernel_rfl) (fun _ _ _ h => h) (by assumption) (by rfl) ?_ ?_; rotate_left; (focus (intro w hSw; (try dsimp only at hSw); go_simp; try with_reducible rfl)); (try simp only [Act.put, List.setIfInBounds_toArray, List.set_cons_zero, List.set_cons_succ]))
      (refine held_take (i := 20) (v := ?_) rfl (by kernel_rfl) (by kernel_rfl) (by kernel_rfl) (fun _ _ _ h => h) (by assumption) (by rfl) ?_ ?_; rotate_left; (focus (intro w hSw; (try dsimp only at hSw); go_simp; try with_reducible rfl)); (try simp only [Act.put, List.setIfInBounds_toArray, List.set_cons_zero, List.set_cons_succ]))
      (refine held_take (i := 23) (v := ?_) rfl (by kernel_rfl) (by kernel_rfl) (by kernel_rfl) (fun _ _ _ h => h) (by assumption) (by rfl) ?_ ?_; rotate_left; (focus (intro w hSw; (try dsimp only at hSw); go_simp; try with_reducible rfl)); (try simp only [Act.put, List.setIfInBounds_toArray, List.set_cons_zero, List.set_cons_succ]))
      (refine held_take (i := 24) (v := ?_) rfl (by kernel_rfl) (by kernel_rfl) (by kernel_rfl) (fun _ _ _ h => h) (by assumption) (by rfl) ?_ ?_; rotate_left; (focus (intro w hSw; (try dsimp only at hSw); go_simp; try with_reducible rfl)); (try simp only [Act.put, List.setIfInBounds_toArray, List.set_cons_zero, List.set_cons_succ]))
      (refine held_take (i := 25) (v := ?_) rfl (by kernel_rfl) (by kernel_rfl) (by kernel_rfl) (fun _ _ _ h => h) (by assumption) (by rfl) ?_ ?_; rotate_left; (focus (intro w hSw; (try dsimp only at hSw); go_simp; try with_reducible rfl)); (try simp only [Act.put, List.setIfInBounds_toArray, List.set_cons_zero, List.set_cons_succ]))
      (refine held_take (i := 26) (v := ?_) rfl (by kernel_rfl) (by kernel_rfl) (by kernel_rfl) (fun _ _ _ h => h) (by assumption) (by rfl) ?_ ?_; rotate_left; (focus (intro w hSw; (try dsimp only at hSw); go_simp; try with_reducible rfl)); (try simp only [Act.put, List.setIfInBounds_toArray, List.set_cons_zero, List.set_cons_succ]))
      (refine held_take (i := 27) (v := ?_) rfl (by kernel_rfl) (by kernel_rfl) (by kernel_rfl) (fun _ _ _ h => h) (by assumption) (by rfl) ?_ ?_; rotate_left; (focus (intro w hSw; (try dsimp only at hSw); go_simp; try with_reducible rfl)); (try simp only [Act.put, List.setIfInBounds_toArray, List.set_cons_zero, List.set_cons_succ]))
      refine wpAnyH_ready (rs := [6, 13]) (by kernel_rfl) (by simp) ?_
      refine held_step (i := 6) rfl (fun K hK => ?_) (held_step (i := 13) rfl (fun K hK => ?_) AllReadyH.nil)
      · go_simp
        refine (rnameE_any x.name _ (by omega)).mono ?_
        rintro e W6 ⟨rfl, hb⟩
        refine hK.out _ _ (S7_below HSw.out hHeld hb) (fun hH => ?_)
        clear hK K hHeld hb
        have hHeld := hH
        clear hH
        (try simp only [Act.put, List.setIfInBounds_toArray, List.set_cons_zero, List.set_cons_succ])
        refine wpAnyH_ready (rs := [13, 21]) (by kernel_rfl) (by simp) ?_
        refine held_step (i := 13) rfl (fun K hK => ?_) (held_step (i := 21) rfl (fun K hK => ?_) AllReadyH.nil)
        · go_simp
          refine hK.out _ _ (S7_alloc HSw.out hHeld _) (fun hH => ?_)
          clear hK K
          (try simp only [Act.put, List.setIfInBounds_toArray, List.set_cons_zero, List.set_cons_succ])
          refine wpAnyH_sharp (S' := fun w' => (w'.cell? ⟨b, o + k * 7, none⟩ = some (.string x.name) ∧ w'.cell? ⟨b, o + k * 7 + 1, none⟩ = some (.int .i64 x.kind) ∧ w'.cell? ⟨b, o + k * 7 + 2, none⟩ = some (.bool x.nn) ∧ w'.cell? ⟨b, o + k * 7 + 3, none⟩ = some (.int .i64 x.d.k) ∧ w'.cell? ⟨b, o + k * 7 + 4, none⟩ = some (.int .i64 x.d.n) ∧ w'.cell? ⟨b, o + k * 7 + 5, none⟩ = some (.float .f64 x.d.f) ∧ w'.cell? ⟨b, o + k * 7 + 6, none⟩ = some (.string x.d.s) ∧ Below w.heap.size w w') ∧ w'.heap[W6.heap.size]? = some (.cells #[.int .u8 x.kind] 5 (0, 0))) (fun w' h => h.1) _ _ _ _ ?_
          have hN : (fun w' => (w'.cell? ⟨b, o + k * 7, none⟩ = some (.string x.name) ∧ w'.cell? ⟨b, o + k * 7 + 1, none⟩ = some (.int .i64 x.kind) ∧ w'.cell? ⟨b, o + k * 7 + 2, none⟩ = some (.bool x.nn) ∧ w'.cell? ⟨b, o + k * 7 + 3, none⟩ = some (.int .i64 x.d.k) ∧ w'.cell? ⟨b, o + k * 7 + 4, none⟩ = some (.int .i64 x.d.n) ∧ w'.cell? ⟨b, o + k * 7 + 5, none⟩ = some (.float .f64 x.d.f) ∧ w'.cell? ⟨b, o + k * 7 + 6, none⟩ = some (.string x.d.s) ∧ Below w.heap.size w w') ∧ w'.heap[W6.heap.size]? = some (.cells #[.int .u8 x.kind] 5 (0, 0))) _ := ⟨hH, blk_new _ _⟩
          clear hH hHeld
          have hHeld := hN
          clear hN
          (refine held_take (i := 14) (v := ?_) rfl (by kernel_rfl) (by kernel_rfl) (by kernel_rfl) (fun _ _ _ h => h) (by assumption) (by rfl) ?_ ?_; rotate_left; (focus (intro w hSw; have hq := fun c => convB x.kind w W6.heap.size c hSw.2; (try dsimp only at hSw); go_simp; try with_reducible rfl)); (try simp only [Act.put, List.setIfInBounds_toArray, List.set_cons_zero, List.set_cons_succ]))
          (refine held_take (i := 15) (v := ?_) rfl (by kernel_rfl) (by kernel_rfl) (by kernel_rfl) (fun _ _ _ h => h) (by assumption) (by rfl) ?_ ?_; rotate_left; (focus (intro w hSw; (try dsimp only at hSw); go_simp; try with_reducible rfl)); (try simp only [Act.put, List.setIfInBounds_toArray, List.set_cons_zero, List.set_cons_succ]))
          refine wpAnyH_ready (rs := [21]) (by kernel_rfl) (by simp) ?_
          refine held_step (i := 21) rfl (fun K hK => ?_) AllReadyH.nil
          go_simp
          refine (rflag_any x.nn _).mono ?_
          rintro e W21 ⟨rfl, rfl⟩
          refine hK.out _ _ hHeld (fun _ => ?_)
          clear hK K
          (try simp only [Act.put, List.setIfInBounds_toArray, List.set_cons_zero, List.set_cons_succ])
          (refine held_take (i := 22) (v := ?_) rfl (by kernel_rfl) (by kernel_rfl) (by kernel_rfl) (fun _ _ _ h => h) (by assumption) (by rfl) ?_ ?_; rotate_left; (focus (intro w hSw; (try dsimp only at hSw); go_simp; try with_reducible rfl)); (try simp only [Act.put, List.setIfInBounds_toArray, List.set_cons_zero, List.set_cons_succ]))
          refine wpAnyH_ready (rs := [28]) (by kernel_rfl) (by simp) ?_
          refine held_step (i := 28) rfl (fun K hK => ?_) AllReadyH.nil
          go_simp
          refine (rval_any x.d _ Hgx.out.2.2.2.2 Hgx.out.2.2.2.1).mono ?_
          rintro e W28 ⟨rfl, hb⟩
          refine hK.out _ _ ⟨S7_below HSw.out hHeld.1 hb, blk_below hHeld.2 hb⟩ (fun hH => ?_)
          clear hK K hHeld hb
          have hHeld := hH
          clear hH
          (try simp only [Act.put, List.setIfInBounds_toArray, List.set_cons_zero, List.set_cons_succ])
          (refine held_take (i := 29) (v := ?_) rfl (by kernel_rfl) (by kernel_rfl) (by kernel_rfl) (fun _ _ _ h => h) (by assumption) (by rfl) ?_ ?_; rotate_left; (focus (intro w hSw; (try dsimp only at hSw); go_simp; try with_reducible rfl)); (try simp only [Act.put, List.setIfInBounds_toArray, List.set_cons_zero, List.set_cons_succ]))
          (refine held_take (i := 30) (v := ?_) rfl (by kernel_rfl) (by kernel_rfl) (by kernel_rfl) (fun _ _ _ h => h) (by assumption) (by rfl) ?_ ?_; rotate_left; (focus (intro w hSw; (try dsimp only at hSw); go_simp; try with_reducible rfl)); (try simp only [Act.put, List.setIfInBounds_toArray, List.set_cons_zero, List.set_cons_succ]))
          (refine held_take (i := 31) (v := ?_) rfl (by kernel_rfl) (by kernel_rfl) (by kernel_rfl) (fun _ _ _ h => h) (by assumption) (by rfl) ?_ ?_; rotate_left; (focus (intro w hSw; (try dsimp only at hSw); go_simp; try with_reducible rfl)); (try simp only [Act.put, List.setIfInBounds_toArray, List.set_cons_zero, List.set_cons_succ]))
          refine wpAnyH_done (by kernel_rfl) ?_ _
          have hW := F _ hHeld.1.2.2.2.2.2.2.2
          go_wp2
          go_roundw
          case rel => exact hW
          case measure => simp [intOf]; omega
        · go_simp
          refine (rflag_any x.nn _).mono ?_
          rintro e W21 ⟨rfl, rfl⟩
          refine hK.out _ _ hHeld (fun _ => ?_)
          clear hK K
          (try simp only [Act.put, List.setIfInBounds_toArray, List.set_cons_zero, List.set_cons_succ])
          refine wpAnyH_ready (rs := [13, 28]) (by kernel_rfl) (by simp) ?_
          refine held_step (i := 13) rfl (fun K hK => ?_) (held_step (i := 28) rfl (fun K hK => ?_) AllReadyH.nil)
          · go_simp
            refine hK.out _ _ (S7_alloc HSw.out hHeld _) (fun hH => ?_)
            clear hK K
            (try simp only [Act.put, List.setIfInBounds_toArray, List.set_cons_zero, List.set_cons_succ])
            refine wpAnyH_sharp (S' := fun w' => (w'.cell? ⟨b, o + k * 7, none⟩ = some (.string x.name) ∧ w'.cell? ⟨b, o + k * 7 + 1, none⟩ = some (.int .i64 x.kind) ∧ w'.cell? ⟨b, o + k * 7 + 2, none⟩ = some (.bool x.nn) ∧ w'.cell? ⟨b, o + k * 7 + 3, none⟩ = some (.int .i64 x.d.k) ∧ w'.cell? ⟨b, o + k * 7 + 4, none⟩ = some (.int .i64 x.d.n) ∧ w'.cell? ⟨b, o + k * 7 + 5, none⟩ = some (.float .f64 x.d.f) ∧ w'.cell? ⟨b, o + k * 7 + 6, none⟩ = some (.string x.d.s) ∧ Below w.heap.size w w') ∧ w'.heap[W6.heap.size]? = some (.cells #[.int .u8 x.kind] 5 (0, 0))) (fun w' h => h.1) _ _ _ _ ?_
            have hN : (fun w' => (w'.cell? ⟨b, o + k * 7, none⟩ = some (.string x.name) ∧ w'.cell? ⟨b, o + k * 7 + 1, none⟩ = some (.int .i64 x.kind) ∧ w'.cell? ⟨b, o + k * 7 + 2, none⟩ = some (.bool x.nn) ∧ w'.cell? ⟨b, o + k * 7 + 3, none⟩ = some (.int .i64 x.d.k) ∧ w'.cell? ⟨b, o + k * 7 + 4, none⟩ = some (.int .i64 x.d.n) ∧ w'.cell? ⟨b, o + k * 7 + 5, none⟩ = some (.float .f64 x.d.f) ∧ w'.cell? ⟨b, o + k * 7 + 6, none⟩ = some (.string x.d.s) ∧ Below w.heap.size w w') ∧ w'.heap[W6.heap.size]? = some (.cells #[.int .u8 x.kind] 5 (0, 0))) _ := ⟨hH, blk_new _ _⟩
            clear hH hHeld
            have hHeld := hN
            clear hN
            (refine held_take (i := 14) (v := ?_) rfl (by kernel_rfl) (by kernel_rfl) (by kernel_rfl) (fun _ _ _ h => h) (by assumption) (by rfl) ?_ ?_; rotate_left; (focus (intro w hSw; have hq := fun c => convB x.kind w W6.heap.size c hSw.2; (try dsimp only at hSw); go_simp; try with_reducible rfl)); (try simp only [Act.put, List.setIfInBounds_toArray, List.set_cons_zero, List.set_cons_succ]))
            (refine held_take (i := 15) (v := ?_) rfl (by kernel_rfl) (by kernel_rfl) (by kernel_rfl) (fun _ _ _ h => h) (by assumption) (by rfl) ?_ ?_; rotate_left; (focus (intro w hSw; (try dsimp only at hSw); go_simp; try with_reducible rfl)); (try simp only [Act.put, List.setIfInBounds_toArray, List.set_cons_zero, List.set_cons_succ]))
            (refine held_take (i := 22) (v := ?_) rfl (by kernel_rfl) (by kernel_rfl) (by kernel_rfl) (fun _ _ _ h => h) (by assumption) (by rfl) ?_ ?_; rotate_left; (focus (intro w hSw; (try dsimp only at hSw); go_simp; try with_reducible rfl)); (try simp only [Act.put, List.setIfInBounds_toArray, List.set_cons_zero, List.set_cons_succ]))
            refine wpAnyH_ready (rs := [28]) (by kernel_rfl) (by simp) ?_
            refine held_step (i := 28) rfl (fun K hK => ?_) AllReadyH.nil
            go_simp
            refine (rval_any x.d _ Hgx.out.2.2.2.2 Hgx.out.2.2.2.1).mono ?_
            rintro e W28 ⟨rfl, hb⟩
            refine hK.out _ _ ⟨S7_below HSw.out hHeld.1 hb, blk_below hHeld.2 hb⟩ (fun hH => ?_)
            clear hK K hHeld hb
            have hHeld := hH
            clear hH
            (try simp only [Act.put, List.setIfInBounds_toArray, List.set_cons_zero, List.set_cons_succ])
            (refine held_take (i := 29) (v := ?_) rfl (by kernel_rfl) (by kernel_rfl) (by kernel_rfl) (fun _ _ _ h => h) (by assumption) (by rfl) ?_ ?_; rotate_left; (focus (intro w hSw; (try dsimp only at hSw); go_simp; try with_reducible rfl)); (try simp only [Act.put, List.setIfInBounds_toArray, List.set_cons_zero, List.set_cons_succ]))
            (refine held_take (i := 30) (v := ?_) rfl (by kernel_rfl) (by kernel_rfl) (by kernel_rfl) (fun _ _ _ h => h) (by assumption) (by rfl) ?_ ?_; rotate_left; (focus (intro w hSw; (try dsimp only at hSw); go_simp; try with_reducible rfl)); (try simp only [Act.put, List.setIfInBounds_toArray, List.set_cons_zero, List.set_cons_succ]))
            (refine held_take (i := 31) (v := ?_) rfl (by kernel_rfl) (by kernel_rfl) (by kernel_rfl) (fun _ _ _ h => h) (by assumption) (by rfl) ?_ ?_; rotate_left; (focus (intro w hSw; (try dsimp only at hSw); go_simp; try with_reducible rfl)); (try simp only [Act.put, List.setIfInBounds_toArray, List.set_cons_zero, List.set_cons_succ]))
            refine wpAnyH_done (by kernel_rfl) ?_ _
            have hW := F _ hHeld.1.2.2.2.2.2.2.2
            go_wp2
            go_roundw
            case rel => exact hW
            case measure => simp [intOf]; omega
          · go_simp
            refine (rval_any x.d _ Hgx.out.2.2.2.2 Hgx.out.2.2.2.1).mono ?_
            rintro e W28 ⟨rfl, hb⟩
            refine hK.out _ _ (S7_below HSw.out hHeld hb) (fun hH => ?_)
            clear hK K hHeld hb
            have hHeld := hH
            clear hH
            (try simp only [Act.put, List.setIfInBounds_toArray, List.set_cons_zero, List.set_cons_succ])
            refine wpAnyH_ready (rs := [13]) (by kernel_rfl) (by simp) ?_
            refine held_step (i := 13) rfl (fun K hK => ?_) AllReadyH.nil
            go_simp
            refine hK.out _ _ (S7_alloc HSw.out hHeld _) (fun hH => ?_)
            clear hK K
            (try simp only [Act.put, List.setIfInBounds_toArray, List.set_cons_zero, List.set_cons_succ])
            refine wpAnyH_sharp (S' := fun w' => (w'.cell? ⟨b, o + k * 7, none⟩ = some (.string x.name) ∧ w'.cell? ⟨b, o + k * 7 + 1, none⟩ = some (.int .i64 x.kind) ∧ w'.cell? ⟨b, o + k * 7 + 2, none⟩ = some (.bool x.nn) ∧ w'.cell? ⟨b, o + k * 7 + 3, none⟩ = some (.int .i64 x.d.k) ∧ w'.cell? ⟨b, o + k * 7 + 4, none⟩ = some (.int .i64 x.d.n) ∧ w'.cell? ⟨b, o + k * 7 + 5, none⟩ = some (.float .f64 x.d.f) ∧ w'.cell? ⟨b, o + k * 7 + 6, none⟩ = some (.string x.d.s) ∧ Below w.heap.size w w') ∧ w'.heap[W28.heap.size]? = some (.cells #[.int .u8 x.kind] 5 (0, 0))) (fun w' h => h.1) _ _ _ _ ?_
            have hN : (fun w' => (w'.cell? ⟨b, o + k * 7, none⟩ = some (.string x.name) ∧ w'.cell? ⟨b, o + k * 7 + 1, none⟩ = some (.int .i64 x.kind) ∧ w'.cell? ⟨b, o + k * 7 + 2, none⟩ = some (.bool x.nn) ∧ w'.cell? ⟨b, o + k * 7 + 3, none⟩ = some (.int .i64 x.d.k) ∧ w'.cell? ⟨b, o + k * 7 + 4, none⟩ = some (.int .i64 x.d.n) ∧ w'.cell? ⟨b, o + k * 7 + 5, none⟩ = some (.float .f64 x.d.f) ∧ w'.cell? ⟨b, o + k * 7 + 6, none⟩ = some (.string x.d.s) ∧ Below w.heap.size w w') ∧ w'.heap[W28.heap.size]? = some (.cells #[.int .u8 x.kind] 5 (0, 0))) _ := ⟨hH, blk_new _ _⟩
            clear hH hHeld
            have hHeld := hN
            clear hN
            (refine held_take (i := 14) (v := ?_) rfl (by kernel_rfl) (by kernel_rfl) (by kernel_rfl) (fun _ _ _ h => h) (by assumption) (by rfl) ?_ ?_; rotate_left; (focus (intro w hSw; have hq := fun c => convB x.kind w W28.heap.size c hSw.2; (try dsimp only at hSw); go_simp; try with_reducible rfl)); (try simp only [Act.put, List.setIfInBounds_toArray, List.set_cons_zero, List.set_cons_succ]))
            (refine held_take (i := 15) (v := ?_) rfl (by kernel_rfl) (by kernel_rfl) (by kernel_rfl) (fun _ _ _ h => h) (by assumption) (by rfl) ?_ ?_; rotate_left; (focus (intro w hSw; (try dsimp only at hSw); go_simp; try with_reducible rfl)); (try simp only [Act.put, List.setIfInBounds_toArray, List.set_cons_zero, List.set_cons_succ]))
            (refine held_take (i := 22) (v := ?_) rfl (by kernel_rfl) (by kernel_rfl) (by kernel_rfl) (fun _ _ _ h => h) (by assumption) (by rfl) ?_ ?_; rotate_left; (focus (intro w hSw; (try dsimp only at hSw); go_simp; try with_reducible rfl)); (try simp only [Act.put, List.setIfInBounds_toArray, List.set_cons_zero, List.set_cons_succ]))
            (refine held_take (i := 29) (v := ?_) rfl (by kernel_rfl) (by kernel_rfl) (by kernel_rfl) (fun _ _ _ h => h) (by assumption) (by rfl) ?_ ?_; rotate_left; (focus (intro w hSw; (try dsimp only at hSw); go_simp; try with_reducible rfl)); (try simp only [Act.put, List.setIfInBounds_toArray, List.set_cons_zero, List.set_cons_succ]))
            (refine held_take (i := 30) (v := ?_) rfl (by kernel_rfl) (by kernel_rfl) (by kernel_rfl) (fun _ _ _ h => h) (by assumption) (by rfl) ?_ ?_; rotate_left; (focus (intro w hSw; (try dsimp only at hSw); go_simp; try with_reducible rfl)); (try simp only [Act.put, List.setIfInBounds_toArray, List.set_cons_zero, List.set_cons_succ]))
            (refine held_take (i := 31) (v := ?_) rfl (by kernel_rfl) (by kernel_rfl) (by kernel_rfl) (fun _ _ _ h => h) (by assumption) (by rfl) ?_ ?_; rotate_left; (focus (intro w hSw; (try dsimp only at hSw); go_simp; try with_reducible rfl)); (try simp only [Act.put, List.setIfInBounds_toArray, List.set_cons_zero, List.set_cons_succ]))
            refine wpAnyH_done (by kernel_rfl) ?_ _
            have hW := F _ hHeld.1.2.2.2.2.2.2.2
            go_wp2
            go_roundw
            case rel => exact hW
            case measure => simp [intOf]; omega
      · go_simp
        refine hK.out _ _ (S7_alloc HSw.out hHeld _) (fun hH => ?_)
        clear hK K
        (try simp only [Act.put, List.setIfInBounds_toArray, List.set_cons_zero, List.set_cons_succ])
        refine wpAnyH_sharp (S' := fun w' => (w'.cell? ⟨b, o + k * 7, none⟩ = some (.string x.name) ∧ w'.cell? ⟨b, o + k * 7 + 1, none⟩ = some (.int .i64 x.kind) ∧ w'.cell? ⟨b, o + k * 7 + 2, none⟩ = some (.bool x.nn) ∧ w'.cell? ⟨b, o + k * 7 + 3, none⟩ = some (.int .i64 x.d.k) ∧ w'.cell? ⟨b, o + k * 7 + 4, none⟩ = some (.int .i64 x.d.n) ∧ w'.cell? ⟨b, o + k * 7 + 5, none⟩ = some (.float .f64 x.d.f) ∧ w'.cell? ⟨b, o + k * 7 + 6, none⟩ = some (.string x.d.s) ∧ Below w.heap.size w w') ∧ w'.heap[wr.heap.size]? = some (.cells #[.int .u8 x.kind] 5 (0, 0))) (fun w' h => h.1) _ _ _ _ ?_
        have hN : (fun w' => (w'.cell? ⟨b, o + k * 7, none⟩ = some (.string x.name) ∧ w'.cell? ⟨b, o + k * 7 + 1, none⟩ = some (.int .i64 x.kind) ∧ w'.cell? ⟨b, o + k * 7 + 2, none⟩ = some (.bool x.nn) ∧ w'.cell? ⟨b, o + k * 7 + 3, none⟩ = some (.int .i64 x.d.k) ∧ w'.cell? ⟨b, o + k * 7 + 4, none⟩ = some (.int .i64 x.d.n) ∧ w'.cell? ⟨b, o + k * 7 + 5, none⟩ = some (.float .f64 x.d.f) ∧ w'.cell? ⟨b, o + k * 7 + 6, none⟩ = some (.string x.d.s) ∧ Below w.heap.size w w') ∧ w'.heap[wr.heap.size]? = some (.cells #[.int .u8 x.kind] 5 (0, 0))) _ := ⟨hH, blk_new _ _⟩
        clear hH hHeld
        have hHeld := hN
        clear hN
        (refine held_take (i := 14) (v := ?_) rfl (by kernel_rfl) (by kernel_rfl) (by kernel_rfl) (fun _ _ _ h => h) (by assumption) (by rfl) ?_ ?_; rotate_left; (focus (intro w hSw; have hq := fun c => convB x.kind w wr.heap.size c hSw.2; (try dsimp only at hSw); go_simp; try with_reducible rfl)); (try simp only [Act.put, List.setIfInBounds_toArray, List.set_cons_zero, List.set_cons_succ]))
        refine wpAnyH_ready (rs := [6]) (by kernel_rfl) (by simp) ?_
        refine held_step (i := 6) rfl (fun K hK => ?_) AllReadyH.nil
        go_simp
        refine (rnameE_any x.name _ (by omega)).mono ?_
        rintro e W6 ⟨rfl, hb⟩
        refine hK.out _ _ ⟨S7_below HSw.out hHeld.1 hb, blk_below hHeld.2 hb⟩ (fun hH => ?_)
        clear hK K hHeld hb
        have hHeld := hH
        clear hH
        (try simp only [Act.put, List.setIfInBounds_toArray, List.set_cons_zero, List.set_cons_succ])
        (refine held_take (i := 15) (v := ?_) rfl (by kernel_rfl) (by kernel_rfl) (by kernel_rfl) (fun _ _ _ h => h) (by assumption) (by rfl) ?_ ?_; rotate_left; (focus (intro w hSw; (try dsimp only at hSw); go_simp; try with_reducible rfl)); (try simp only [Act.put, List.setIfInBounds_toArray, List.set_cons_zero, List.set_cons_succ]))
        refine wpAnyH_ready (rs := [21]) (by kernel_rfl) (by simp) ?_
        refine held_step (i := 21) rfl (fun K hK => ?_) AllReadyH.nil
        go_simp
        refine (rflag_any x.nn _).mono ?_
        rintro e W21 ⟨rfl, rfl⟩
        refine hK.out _ _ hHeld (fun _ => ?_)
        clear hK K
        (try simp only [Act.put, List.setIfInBounds_toArray, List.set_cons_zero, List.set_cons_succ])
        (refine held_take (i := 22) (v := ?_) rfl (by kernel_rfl) (by kernel_rfl) (by kernel_rfl) (fun _ _ _ h => h) (by assumption) (by rfl) ?_ ?_; rotate_left; (focus (intro w hSw; (try dsimp only at hSw); go_simp; try with_reducible rfl)); (try simp only [Act.put, List.setIfInBounds_toArray, List.set_cons_zero, List.set_cons_succ]))
        refine wpAnyH_ready (rs := [28]) (by kernel_rfl) (by simp) ?_
        refine held_step (i := 28) rfl (fun K hK => ?_) AllReadyH.nil
        go_simp
        refine (rval_any x.d _ Hgx.out.2.2.2.2 Hgx.out.2.2.2.1).mono ?_
        rintro e W28 ⟨rfl, hb⟩
        refine hK.out _ _ ⟨S7_below HSw.out hHeld.1 hb, blk_below hHeld.2 hb⟩ (fun hH => ?_)
        clear hK K hHeld hb
        have hHeld := hH
        clear hH
        (try simp only [Act.put, List.setIfInBounds_toArray, List.set_cons_zero, List.set_cons_succ])
        (refine held_take (i := 29) (v := ?_) rfl (by kernel_rfl) (by kernel_rfl) (by kernel_rfl) (fun _ _ _ h => h) (by assumption) (by rfl) ?_ ?_; rotate_left; (focus (intro w hSw; (try dsimp only at hSw); go_simp; try with_reducible rfl)); (try simp only [Act.put, List.setIfInBounds_toArray, List.set_cons_zero, List.set_cons_succ]))
        (refine held_take (i := 30) (v := ?_) rfl (by kernel_rfl) (by kernel_rfl) (by kernel_rfl) (fun _ _ _ h => h) (by assumption) (by rfl) ?_ ?_; rotate_left; (focus (intro w hSw; (try dsimp only at hSw); go_simp; try with_reducible rfl)); (try simp only [Act.put, List.setIfInBounds_toArray, List.set_cons_zero, List.set_cons_succ]))
        (refine held_take (i := 31) (v := ?_) rfl (by kernel_rfl) (by kernel_rfl) (by kernel_rfl) (fun _ _ _ h => h) (by assumption) (by rfl) ?_ ?_; rotate_left; (focus (intro w hSw; (try dsimp only at hSw); go_simp; try with_reducible rfl)); (try simp only [Act.put, List.setIfInBounds_toArray, List.set_cons_zero, List.set_cons_succ]))
        refine wpAnyH_done (by kernel_rfl) ?_ _
        have hW := F _ hHeld.1.2.2.2.2.2.2.2
        go_wp2
        go_roundw
        case rel => exact hW
        case measure => simp [intOf]; omega
    · obtain rfl : k = n := by omega
      go_wp2
      go_ret
      exact ⟨by rw [← E.out]; rfl, by (repeat (first | assumption | exact Below.refl _ _ | refine bl_drewN ?_ _ | refine bl_drew ?_ | refine bl_alloc ?_ _ | refine bl_step ?_ (by assumption)))⟩
end Go.Proofs.Ytbmaeaknlpgdmaa
