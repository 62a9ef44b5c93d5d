/- StmtEncodes answers true. -/
import Derived.Test.YtbmaeaknlpgdmaaA36
import Derived.Test.YtbmaeaknlpgdmaaA25
import Derived.Test.YtbmaeaknlpgdmaaA08
import Derived.Test.YtbmaeaknlpgdmaaA09
import Derived.Test.YtbmaeaknlpgdmaaA06
import Derived.Test.YtbmaeaknlpgdmaaA19
import Derived.Test.YtbmaeaknlpgdmaaA37
namespace Go.Proofs.Ytbmaeaknlpgdmaa
open Go.RowKit
set_option linter.unusedVariables false
set_option linter.unusedSimpArgs false
set_option linter.constructorNameAsVariable false
theorem small_lists {s : St} (h : largeSt s = false) : s.row.length ≤ 50 ∧ s.cols.length ≤ 50 := by
  simp only [largeSt, largeR, largeCs, Bool.or_eq_false_iff, decide_eq_false_iff_not] at h
  omega
set_option maxRecDepth 100000 in
set_option maxHeartbeats 4000000 in
theorem encodes_l (s : St) (A A' : Option Addr) (n c m d : Nat) (w : World) (hr : RdV w A n s.row) (hc : RdC w A' m s.cols) (hf : Flt s) (hL : largeSt s = true) :
    Pure Try.prog 4 #[s.agg (.slice A n c) (.slice A' m d)] w (.bool true) := by
  have HR := Lib.hid hr
  have HC := Lib.hid hc
  have HF := Lib.hid hf
  clear hr hc hf
  go_enter Try.func4, Try.ntmps4
  go_wp2_with (refine wpl_load16 rfl _ rfl _ rfl rfl (blk_new w (.cells #[.int .i64 s.k, .string s.t, .string s.nm, .string s.c, .string s.se, .int .i64 s.v.k, .int .i64 s.v.n, .float .f64 s.v.f, .string s.v.s, .int .i64 s.w.k, .int .i64 s.w.n, .float .f64 s.w.f, .string s.w.s, .slice A n c, .slice A' m d, .bool s.fl] 28)) ?_)
  refine (largeSt_any s A A' n c m d _ (HR.out.keep (by (repeat (first | assumption | exact Below.refl _ _ | refine bl_drewN ?_ _ | refine bl_drew ?_ | refine bl_alloc ?_ _ | refine bl_step ?_ (by assumption))))) (HC.out.keep (by (repeat (first | assumption | exact Below.refl _ _ | refine bl_drewN ?_ _ | refine bl_drew ?_ | refine bl_alloc ?_ _ | refine bl_step ?_ (by assumption)))))).mono ?_
  rintro e w1 ⟨rfl, hb1⟩
  have B1 := Lib.hid (blk_below (blk_new w _) hb1)
  have L1 := Lib.hid (show Below w.heap.size w w1 by (repeat (first | assumption | exact Below.refl _ _ | refine bl_drewN ?_ _ | refine bl_drew ?_ | refine bl_alloc ?_ _ | refine bl_step ?_ (by assumption))))
  clear hb1
  obtain ⟨k1, f1⟩ := blk_rules B1.out
  have hz1 := blk_lt B1.out
  rw [hL]
  go_wp2_with fail
  refine (wakes_any _).mono ?_
  rintro e w2 ⟨rfl, hb2⟩
  go_wp2
  go_ret
  exact ⟨rfl, bl_step L1.out hb2⟩
set_option maxRecDepth 100000 in
set_option maxHeartbeats 4000000 in
theorem encodes_t (s : St) (A A' : Option Addr) (n c m d : Nat) (w : World) (hr : RdV w A n s.row) (hc : RdC w A' m s.cols) (hf : Flt s) (hL : largeSt s = false) (hg : goodS s = true) :
    Pure Try.prog 4 #[s.agg (.slice A n c) (.slice A' m d)] w (.bool true) := by
  have HR := Lib.hid hr
  have HC := Lib.hid hc
  have HF := Lib.hid hf
  clear hr hc hf
  have HLG := Lib.hid hL
  have HGG := Lib.hid hg
  clear hg hL
  go_enter Try.func4, Try.ntmps4
  go_wp2_with (refine wpl_load16 rfl _ rfl _ rfl rfl (blk_new w (.cells #[.int .i64 s.k, .string s.t, .string s.nm, .string s.c, .string s.se, .int .i64 s.v.k, .int .i64 s.v.n, .float .f64 s.v.f, .string s.v.s, .int .i64 s.w.k, .int .i64 s.w.n, .float .f64 s.w.f, .string s.w.s, .slice A n c, .slice A' m d, .bool s.fl] 28)) ?_)
  refine (largeSt_any s A A' n c m d _ (HR.out.keep (by (repeat (first | assumption | exact Below.refl _ _ | refine bl_drewN ?_ _ | refine bl_drew ?_ | refine bl_alloc ?_ _ | refine bl_step ?_ (by assumption))))) (HC.out.keep (by (repeat (first | assumption | exact Below.refl _ _ | refine bl_drewN ?_ _ | refine bl_drew ?_ | refine bl_alloc ?_ _ | refine bl_step ?_ (by assumption)))))).mono ?_
  rintro e w1 ⟨rfl, hb1⟩
  have B1 := Lib.hid (blk_below (blk_new w _) hb1)
  have L1 := Lib.hid (show Below w.heap.size w w1 by (repeat (first | assumption | exact Below.refl _ _ | refine bl_drewN ?_ _ | refine bl_drew ?_ | refine bl_alloc ?_ _ | refine bl_step ?_ (by assumption))))
  clear hb1
  obtain ⟨k1, f1⟩ := blk_rules B1.out
  have hz1 := blk_lt B1.out
  have hL := HLG.out
  rw [hL]
  obtain ⟨hl1, hl2⟩ := small_lists hL
  rw [HR.out.1] at hl1
  rw [HC.out.1] at hl2
  clear hL
  go_wp2_with (refine wpl_load16 rfl _ rfl _ rfl rfl B1.out ?_)
  refine (copySt s A A' n c m d _ (HR.out.keep L1.out) (HC.out.keep L1.out) hl1 hl2).mono ?_
  rintro e w2 ⟨P, c2, P', d2, rfl, hp, hpc, hb2⟩
  have C1 := blk_below B1.out hb2
  have L2 := bl_step L1.out hb2
  have hz2 := blk_lt C1
  clear hl1 hl2 k1 f1
  go_wp2_with fail
  have D3 := blk_new w2 (.cells (s.row16 (.slice P n c2) (.slice P' m d2)) 28)
  have D1 := blk_old C1 (.cells (s.row16 (.slice P n c2) (.slice P' m d2)) 28)
  have L3 := bl_alloc L2 (.cells (s.row16 (.slice P n c2) (.slice P' m d2)) 28)
  have HP3 := hp.keep (bl_alloc (Below.refl _ _) (.cells (s.row16 (.slice P n c2) (.slice P' m d2)) 28))
  have HPC3 := hpc.keep (bl_alloc (Below.refl _ _) (.cells (s.row16 (.slice P n c2) (.slice P' m d2)) 28))
  generalize w2.alloc (.cells (s.row16 (.slice P n c2) (.slice P' m d2)) 28) = W3 at D3 D1 L3 HP3 HPC3 ⊢
  have HP := Lib.hid HP3
  have HPC := Lib.hid HPC3
  have HD3 := Lib.hid D3
  have HD1 := Lib.hid D1
  have LW3 := Lib.hid L3
  have HR3 := Lib.hid (HR.out.keep L3)
  have HC3 := Lib.hid (HC.out.keep L3)
  clear D3 D1 L3 HP3 HPC3 hp hpc hb2 C1 L2
  have hg := HGG.out
  refine (sencode_yes s P P' n c2 m d2 _ HP.out HPC.out HF.out hg).mono ?_
  rintro e w4 ⟨rfl, hb4⟩
  have HG := Lib.hid hg
  have HG2 := Lib.hid ((goodS_eq s).symm.trans hg)
  have hR1 := blk_rules (blk_below HD1.out hb4)
  have hR3 := blk_rules (blk_below HD3.out hb4)
  obtain ⟨k1, f1⟩ := hR1
  obtain ⟨k3, f3⟩ := hR3
  have hz4 := blk_lt (blk_below HD1.out hb4)
  have hz5 := blk_lt (blk_below HD3.out hb4)
  have HB4 := Lib.hid hb4
  clear hg
  go_wp2_with (refine wpl_load16 rfl _ rfl _ rfl rfl (blk_below HD1.out HB4.out) ?_)
  refine (rencode_yes s A A' n c m d _ (HR3.out.keep hb4) (HC3.out.keep hb4) HF.out HG.out).mono ?_
  rintro e w5 ⟨rfl, hb5⟩
  have HB5 := Lib.hid (bl_step HB4.out hb5)
  clear k1 f1 k3 f3 hz4 hz5 hb5 hb4
  go_wp2_with fail
  have SB : ∀ w', Below W3.heap.size W3 w' → (w'.heap[w.heap.size]? = some (.cells (s.row16 (.slice A n c) (.slice A' m d)) 28 (0, 0)) ∧ w'.heap[w2.heap.size]? = some (.cells (s.row16 (.slice P n c2) (.slice P' m d2)) 28 (0, 0)) ∧ Below W3.heap.size W3 w') := fun w' hb => ⟨blk_below HD1.out hb, blk_below HD3.out hb, hb⟩
  have HSB := Lib.hid SB
  refine wp_region_held_drew (S := fun w' => w'.heap[w.heap.size]? = some (.cells (s.row16 (.slice A n c) (.slice A' m d)) 28 (0, 0)) ∧ w'.heap[w2.heap.size]? = some (.cells (s.row16 (.slice P n c2) (.slice P' m d2)) 28 (0, 0)) ∧ Below W3.heap.size W3 w') (by kernel_rfl) (SB _ (bl_drew HB5.out)) (fun hHeld => ?_)
  simp only [List.size_toArray, List.length_cons, List.length_nil]
  (refine held_take (i := 0) (v := .agg (s.row16 (.slice P n c2) (.slice P' m d2))) rfl (by kernel_rfl) (by kernel_rfl) (by kernel_rfl) (fun _ _ _ h => h) (by assumption) (by rfl) (fun w hSw => exec_load16 _ _ rfl rfl rfl hSw.2.1) ?_; (try simp only [Act.put, List.setIfInBounds_toArray, List.set_cons_zero, List.set_cons_succ]))
  (refine held_take (i := 2) (v := .agg (s.row16 (.slice A n c) (.slice A' m d))) rfl (by kernel_rfl) (by kernel_rfl) (by kernel_rfl) (fun _ _ _ h => h) (by assumption) (by rfl) (fun w hSw => exec_load16 _ _ rfl rfl rfl hSw.1) ?_; (try simp only [Act.put, List.setIfInBounds_toArray, List.set_cons_zero, List.set_cons_succ]))
  refine wpAnyH_ready (rs := [1]) (by kernel_rfl) (by simp) ?_
  refine held_step (i := 1) rfl (fun K hK => ?_) AllReadyH.nil
  go_simp
  refine (goodS_any s P P' n c2 m d2 _ (HP.out.keep hHeld.2.2) (HPC.out.keep hHeld.2.2)).mono ?_
  rintro e W1 ⟨rfl, hb⟩
  rw [HG.out]
  refine hK.out _ _ (SB _ (bl_step hHeld.2.2 hb)) (fun hH => ?_)
  clear hK K hHeld hb
  have hHeld := hH
  clear hH
  (try simp only [Act.put, List.setIfInBounds_toArray, List.set_cons_zero, List.set_cons_succ])
  refine wpAnyH_ready (rs := [3]) (by kernel_rfl) (by simp) ?_
  refine held_step (i := 3) rfl (fun K hK => ?_) AllReadyH.nil
  go_simp
  refine (rgoodS_any s A A' n c m d _ (HR3.out.keep hHeld.2.2) (HC3.out.keep hHeld.2.2)).mono ?_
  rintro e W3' ⟨rfl, hb⟩
  rw [HG2.out]
  refine hK.out _ _ (SB _ (bl_step hHeld.2.2 hb)) (fun hH => ?_)
  clear hK K hHeld hb
  have hHeld := hH
  clear hH
  (try simp only [Act.put, List.setIfInBounds_toArray, List.set_cons_zero, List.set_cons_succ])
  (refine held_take (i := 4) (v := ?_) rfl (by kernel_rfl) (by kernel_rfl) (by kernel_rfl) (fun _ _ _ h => h) (by assumption) (by rfl) ?_ ?_; rotate_left; (focus (intro w hSw; (try dsimp only at hSw); go_simp; try with_reducible rfl)); (try simp only [Act.put, List.setIfInBounds_toArray, List.set_cons_zero, List.set_cons_succ]))
  (refine held_take (i := 5) (v := ?_) rfl (by kernel_rfl) (by kernel_rfl) (by kernel_rfl) (fun _ _ _ h => h) (by assumption) (by rfl) ?_ ?_; rotate_left; (focus (intro w hSw; (try dsimp only at hSw); go_simp; try with_reducible rfl)); (try simp only [Act.put, List.setIfInBounds_toArray, List.set_cons_zero, List.set_cons_succ]))
  (refine held_take (i := 6) (v := ?_) rfl (by kernel_rfl) (by kernel_rfl) (by kernel_rfl) (fun _ _ _ h => h) (by assumption) (by rfl) ?_ ?_; rotate_left; (focus (intro w hSw; (try dsimp only at hSw); go_simp; try with_reducible rfl)); (try simp only [Act.put, List.setIfInBounds_toArray, List.set_cons_zero, List.set_cons_succ]))
  (refine held_take (i := 7) (v := ?_) rfl (by kernel_rfl) (by kernel_rfl) (by kernel_rfl) (fun _ _ _ h => h) (by assumption) (by rfl) ?_ ?_; rotate_left; (focus (intro w hSw; (try dsimp only at hSw); go_simp; try with_reducible rfl)); (try simp only [Act.put, List.setIfInBounds_toArray, List.set_cons_zero, List.set_cons_succ]))
  (refine held_take (i := 8) (v := ?_) rfl (by kernel_rfl) (by kernel_rfl) (by kernel_rfl) (fun _ _ _ h => h) (by assumption) (by rfl) ?_ ?_; rotate_left; (focus (intro w hSw; (try dsimp only at hSw); go_simp; try with_reducible rfl)); (try simp only [Act.put, List.setIfInBounds_toArray, List.set_cons_zero, List.set_cons_succ]))
  (refine held_take (i := 9) (v := ?_) rfl (by kernel_rfl) (by kernel_rfl) (by kernel_rfl) (fun _ _ _ h => h) (by assumption) (by rfl) ?_ ?_; rotate_left; (focus (intro w hSw; (try dsimp only at hSw); go_simp; try with_reducible rfl)); (try simp only [Act.put, List.setIfInBounds_toArray, List.set_cons_zero, List.set_cons_succ]))
  (refine held_take (i := 10) (v := ?_) rfl (by kernel_rfl) (by kernel_rfl) (by kernel_rfl) (fun _ _ _ h => h) (by assumption) (by rfl) ?_ ?_; rotate_left; (focus (intro w hSw; (try dsimp only at hSw); go_simp; try with_reducible rfl)); (try simp only [Act.put, List.setIfInBounds_toArray, List.set_cons_zero, List.set_cons_succ]))
  (refine held_take (i := 11) (v := ?_) rfl (by kernel_rfl) (by kernel_rfl) (by kernel_rfl) (fun _ _ _ h => h) (by assumption) (by rfl) ?_ ?_; rotate_left; (focus (intro w hSw; (try dsimp only at hSw); go_simp; try with_reducible rfl)); (try simp only [Act.put, List.setIfInBounds_toArray, List.set_cons_zero, List.set_cons_succ]))
  (refine held_take (i := 12) (v := ?_) rfl (by kernel_rfl) (by kernel_rfl) (by kernel_rfl) (fun _ _ _ h => h) (by assumption) (by rfl) ?_ ?_; rotate_left; (focus (intro w hSw; (try dsimp only at hSw); go_simp; try with_reducible rfl)); (try simp only [Act.put, List.setIfInBounds_toArray, List.set_cons_zero, List.set_cons_succ]))
  (refine held_take (i := 13) (v := ?_) rfl (by kernel_rfl) (by kernel_rfl) (by kernel_rfl) (fun _ _ _ h => h) (by assumption) (by rfl) ?_ ?_; rotate_left; (focus (intro w hSw; (try dsimp only at hSw); go_simp; try with_reducible rfl)); (try simp only [Act.put, List.setIfInBounds_toArray, List.set_cons_zero, List.set_cons_succ]))
  (refine held_take (i := 14) (v := ?_) rfl (by kernel_rfl) (by kernel_rfl) (by kernel_rfl) (fun _ _ _ h => h) (by assumption) (by rfl) ?_ ?_; rotate_left; (focus (intro w hSw; (try dsimp only at hSw); go_simp; try with_reducible rfl)); (try simp only [Act.put, List.setIfInBounds_toArray, List.set_cons_zero, List.set_cons_succ]))
  (refine held_take (i := 15) (v := ?_) rfl (by kernel_rfl) (by kernel_rfl) (by kernel_rfl) (fun _ _ _ h => h) (by assumption) (by rfl) ?_ ?_; rotate_left; (focus (intro w hSw; (try dsimp only at hSw); go_simp; try with_reducible rfl)); (try simp only [Act.put, List.setIfInBounds_toArray, List.set_cons_zero, List.set_cons_succ]))
  (refine held_take (i := 16) (v := .agg (s.row16 (.slice P n c2) (.slice P' m d2))) rfl (by kernel_rfl) (by kernel_rfl) (by kernel_rfl) (fun _ _ _ h => h) (by assumption) (by rfl) (fun w hSw => exec_load16 _ _ rfl rfl rfl hSw.2.1) ?_; (try simp only [Act.put, List.setIfInBounds_toArray, List.set_cons_zero, List.set_cons_succ]))
  (refine held_take (i := 17) (v := .agg (s.row16 (.slice A n c) (.slice A' m d))) rfl (by kernel_rfl) (by kernel_rfl) (by kernel_rfl) (fun _ _ _ h => h) (by assumption) (by rfl) (fun w hSw => exec_load16 _ _ rfl rfl rfl hSw.1) ?_; (try simp only [Act.put, List.setIfInBounds_toArray, List.set_cons_zero, List.set_cons_succ]))
  refine wpAnyH_ready (rs := [18]) (by kernel_rfl) (by simp) ?_
  refine held_step (i := 18) rfl (fun K hK => ?_) AllReadyH.nil
  go_simp
  refine (kStmt s s P P' A A' n c2 m d2 n c m d _ (HP.out.keep hHeld.2.2) (HPC.out.keep hHeld.2.2) (HR3.out.keep hHeld.2.2) (HC3.out.keep hHeld.2.2)).mono ?_
  rintro e W18 ⟨rfl, hb⟩
  rw [show eqSt s s = true by rw [eqSt_iff]; exact decide_eq_true rfl]
  refine hK.out _ _ (SB _ (bl_step hHeld.2.2 hb)) (fun hH => ?_)
  clear hK K hHeld hb
  have hHeld := hH
  clear hH
  (try simp only [Act.put, List.setIfInBounds_toArray, List.set_cons_zero, List.set_cons_succ])
  (refine held_take (i := 19) (v := ?_) rfl (by kernel_rfl) (by kernel_rfl) (by kernel_rfl) (fun _ _ _ h => h) (by assumption) (by rfl) ?_ ?_; rotate_left; (focus (intro w hSw; (try dsimp only at hSw); go_simp; try with_reducible rfl)); (try simp only [Act.put, List.setIfInBounds_toArray, List.set_cons_zero, List.set_cons_succ]))
  (refine held_take (i := 20) (v := ?_) rfl (by kernel_rfl) (by kernel_rfl) (by kernel_rfl) (fun _ _ _ h => h) (by assumption) (by rfl) ?_ ?_; rotate_left; (focus (intro w hSw; (try dsimp only at hSw); go_simp; try with_reducible rfl)); (try simp only [Act.put, List.setIfInBounds_toArray, List.set_cons_zero, List.set_cons_succ]))
  refine wpAnyH_ready (rs := [21]) (by kernel_rfl) (by simp) ?_
  refine held_step (i := 21) rfl (fun K hK => ?_) AllReadyH.nil
  go_simp
  refine (wakes_any _).mono ?_
  rintro e W21 ⟨rfl, hb⟩
  refine hK.out _ _ (SB _ (bl_step hHeld.2.2 hb)) (fun hH => ?_)
  clear hK K hHeld hb
  have hHeld := hH
  clear hH
  (try simp only [Act.put, List.setIfInBounds_toArray, List.set_cons_zero, List.set_cons_succ])
  (refine held_take (i := 22) (v := ?_) rfl (by kernel_rfl) (by kernel_rfl) (by kernel_rfl) (fun _ _ _ h => h) (by assumption) (by rfl) ?_ ?_; rotate_left; (focus (intro w hSw; (try dsimp only at hSw); go_simp; try with_reducible rfl)); (try simp only [Act.put, List.setIfInBounds_toArray, List.set_cons_zero, List.set_cons_succ]))
  (refine held_take (i := 23) (v := ?_) rfl (by kernel_rfl) (by kernel_rfl) (by kernel_rfl) (fun _ _ _ h => h) (by assumption) (by rfl) ?_ ?_; rotate_left; (focus (intro w hSw; (try dsimp only at hSw); go_simp; try with_reducible rfl)); (try simp only [Act.put, List.setIfInBounds_toArray, List.set_cons_zero, List.set_cons_succ]))
  refine wpAnyH_done (by kernel_rfl) ?_ _
  have hW := bl_step LW3.out hHeld.2.2
  go_wp2
  go_ret
  exact ⟨rfl, hW⟩
set_option maxRecDepth 100000 in
set_option maxHeartbeats 4000000 in
theorem encodes_f (s : St) (A A' : Option Addr) (n c m d : Nat) (w : World) (hr : RdV w A n s.row) (hc : RdC w A' m s.cols) (hf : Flt s) (hL : largeSt s = false) (hg : goodS s = false) :
    Pure Try.prog 4 #[s.agg (.slice A n c) (.slice A' m d)] w (.bool true) := by
  have HR := Lib.hid hr
  have HC := Lib.hid hc
  have HF := Lib.hid hf
  clear hr hc hf
  have HLG := Lib.hid hL
  have HGG := Lib.hid hg
  clear hg hL
  go_enter Try.func4, Try.ntmps4
  go_wp2_with (refine wpl_load16 rfl _ rfl _ rfl rfl (blk_new w (.cells #[.int .i64 s.k, .string s.t, .string s.nm, .string s.c, .string s.se, .int .i64 s.v.k, .int .i64 s.v.n, .float .f64 s.v.f, .string s.v.s, .int .i64 s.w.k, .int .i64 s.w.n, .float .f64 s.w.f, .string s.w.s, .slice A n c, .slice A' m d, .bool s.fl] 28)) ?_)
  refine (largeSt_any s A A' n c m d _ (HR.out.keep (by (repeat (first | assumption | exact Below.refl _ _ | refine bl_drewN ?_ _ | refine bl_drew ?_ | refine bl_alloc ?_ _ | refine bl_step ?_ (by assumption))))) (HC.out.keep (by (repeat (first | assumption | exact Below.refl _ _ | refine bl_drewN ?_ _ | refine bl_drew ?_ | refine bl_alloc ?_ _ | refine bl_step ?_ (by assumption)))))).mono ?_
  rintro e w1 ⟨rfl, hb1⟩
  have B1 := Lib.hid (blk_below (blk_new w _) hb1)
  have L1 := Lib.hid (show Below w.heap.size w w1 by (repeat (first | assumption | exact Below.refl _ _ | refine bl_drewN ?_ _ | refine bl_drew ?_ | refine bl_alloc ?_ _ | refine bl_step ?_ (by assumption))))
  clear hb1
  obtain ⟨k1, f1⟩ := blk_rules B1.out
  have hz1 := blk_lt B1.out
  have hL := HLG.out
  rw [hL]
  obtain ⟨hl1, hl2⟩ := small_lists hL
  rw [HR.out.1] at hl1
  rw [HC.out.1] at hl2
  clear hL
  go_wp2_with (refine wpl_load16 rfl _ rfl _ rfl rfl B1.out ?_)
  refine (copySt s A A' n c m d _ (HR.out.keep L1.out) (HC.out.keep L1.out) hl1 hl2).mono ?_
  rintro e w2 ⟨P, c2, P', d2, rfl, hp, hpc, hb2⟩
  have C1 := blk_below B1.out hb2
  have L2 := bl_step L1.out hb2
  have hz2 := blk_lt C1
  clear hl1 hl2 k1 f1
  go_wp2_with fail
  have D3 := blk_new w2 (.cells (s.row16 (.slice P n c2) (.slice P' m d2)) 28)
  have D1 := blk_old C1 (.cells (s.row16 (.slice P n c2) (.slice P' m d2)) 28)
  have L3 := bl_alloc L2 (.cells (s.row16 (.slice P n c2) (.slice P' m d2)) 28)
  have HP3 := hp.keep (bl_alloc (Below.refl _ _) (.cells (s.row16 (.slice P n c2) (.slice P' m d2)) 28))
  have HPC3 := hpc.keep (bl_alloc (Below.refl _ _) (.cells (s.row16 (.slice P n c2) (.slice P' m d2)) 28))
  generalize w2.alloc (.cells (s.row16 (.slice P n c2) (.slice P' m d2)) 28) = W3 at D3 D1 L3 HP3 HPC3 ⊢
  have HP := Lib.hid HP3
  have HPC := Lib.hid HPC3
  have HD3 := Lib.hid D3
  have HD1 := Lib.hid D1
  have LW3 := Lib.hid L3
  have HR3 := Lib.hid (HR.out.keep L3)
  have HC3 := Lib.hid (HC.out.keep L3)
  clear D3 D1 L3 HP3 HPC3 hp hpc hb2 C1 L2
  have hg := HGG.out
  refine (sencode_no s P P' n c2 m d2 _ HP.out HPC.out hg).mono ?_
  rintro e w4 ⟨rfl, hb4⟩
  have HG := Lib.hid hg
  have HG2 := Lib.hid ((goodS_eq s).symm.trans hg)
  have hR1 := blk_rules (blk_below HD1.out hb4)
  have hR3 := blk_rules (blk_below HD3.out hb4)
  obtain ⟨k1, f1⟩ := hR1
  obtain ⟨k3, f3⟩ := hR3
  have hz4 := blk_lt (blk_below HD1.out hb4)
  have hz5 := blk_lt (blk_below HD3.out hb4)
  have HB4 := Lib.hid hb4
  clear hg
  go_wp2_with (refine wpl_load16 rfl _ rfl _ rfl rfl (blk_below HD1.out HB4.out) ?_)
  refine (rencode_no s A A' n c m d _ (HR3.out.keep hb4) (HC3.out.keep hb4) HG.out).mono ?_
  rintro e w5 ⟨rfl, hb5⟩
  have HB5 := Lib.hid (bl_step HB4.out hb5)
  clear k1 f1 k3 f3 hz4 hz5 hb5 hb4
  go_wp2_with fail
  have SB : ∀ w', Below W3.heap.size W3 w' → (w'.heap[w.heap.size]? = some (.cells (s.row16 (.slice A n c) (.slice A' m d)) 28 (0, 0)) ∧ w'.heap[w2.heap.size]? = some (.cells (s.row16 (.slice P n c2) (.slice P' m d2)) 28 (0, 0)) ∧ Below W3.heap.size W3 w') := fun w' hb => ⟨blk_below HD1.out hb, blk_below HD3.out hb, hb⟩
  have HSB := Lib.hid SB
  refine wp_region_held_drew (S := fun w' => w'.heap[w.heap.size]? = some (.cells (s.row16 (.slice A n c) (.slice A' m d)) 28 (0, 0)) ∧ w'.heap[w2.heap.size]? = some (.cells (s.row16 (.slice P n c2) (.slice P' m d2)) 28 (0, 0)) ∧ Below W3.heap.size W3 w') (by kernel_rfl) (SB _ (bl_drew HB5.out)) (fun hHeld => ?_)
  simp only [List.size_toArray, List.length_cons, List.length_nil]
  (refine held_take (i := 0) (v := .agg (s.row16 (.slice P n c2) (.slice P' m d2))) rfl (by kernel_rfl) (by kernel_rfl) (by kernel_rfl) (fun _ _ _ h => h) (by assumption) (by rfl) (fun w hSw => exec_load16 _ _ rfl rfl rfl hSw.2.1) ?_; (try simp only [Act.put, List.setIfInBounds_toArray, List.set_cons_zero, List.set_cons_succ]))
  (refine held_take (i := 2) (v := .agg (s.row16 (.slice A n c) (.slice A' m d))) rfl (by kernel_rfl) (by kernel_rfl) (by kernel_rfl) (fun _ _ _ h => h) (by assumption) (by rfl) (fun w hSw => exec_load16 _ _ rfl rfl rfl hSw.1) ?_; (try simp only [Act.put, List.setIfInBounds_toArray, List.set_cons_zero, List.set_cons_succ]))
  refine wpAnyH_ready (rs := [1]) (by kernel_rfl) (by simp) ?_
  refine held_step (i := 1) rfl (fun K hK => ?_) AllReadyH.nil
  go_simp
  refine (goodS_any s P P' n c2 m d2 _ (HP.out.keep hHeld.2.2) (HPC.out.keep hHeld.2.2)).mono ?_
  rintro e W1 ⟨rfl, hb⟩
  rw [HG.out]
  refine hK.out _ _ (SB _ (bl_step hHeld.2.2 hb)) (fun hH => ?_)
  clear hK K hHeld hb
  have hHeld := hH
  clear hH
  (try simp only [Act.put, List.setIfInBounds_toArray, List.set_cons_zero, List.set_cons_succ])
  refine wpAnyH_ready (rs := [3]) (by kernel_rfl) (by simp) ?_
  refine held_step (i := 3) rfl (fun K hK => ?_) AllReadyH.nil
  go_simp
  refine (rgoodS_any s A A' n c m d _ (HR3.out.keep hHeld.2.2) (HC3.out.keep hHeld.2.2)).mono ?_
  rintro e W3' ⟨rfl, hb⟩
  rw [HG2.out]
  refine hK.out _ _ (SB _ (bl_step hHeld.2.2 hb)) (fun hH => ?_)
  clear hK K hHeld hb
  have hHeld := hH
  clear hH
  (try simp only [Act.put, List.setIfInBounds_toArray, List.set_cons_zero, List.set_cons_succ])
  (refine held_take (i := 4) (v := ?_) rfl (by kernel_rfl) (by kernel_rfl) (by kernel_rfl) (fun _ _ _ h => h) (by assumption) (by rfl) ?_ ?_; rotate_left; (focus (intro w hSw; (try dsimp only at hSw); go_simp; try with_reducible rfl)); (try simp only [Act.put, List.setIfInBounds_toArray, List.set_cons_zero, List.set_cons_succ]))
  (refine held_take (i := 5) (v := ?_) rfl (by kernel_rfl) (by kernel_rfl) (by kernel_rfl) (fun _ _ _ h => h) (by assumption) (by rfl) ?_ ?_; rotate_left; (focus (intro w hSw; (try dsimp only at hSw); go_simp; try with_reducible rfl)); (try simp only [Act.put, List.setIfInBounds_toArray, List.set_cons_zero, List.set_cons_succ]))
  (refine held_take (i := 6) (v := ?_) rfl (by kernel_rfl) (by kernel_rfl) (by kernel_rfl) (fun _ _ _ h => h) (by assumption) (by rfl) ?_ ?_; rotate_left; (focus (intro w hSw; (try dsimp only at hSw); go_simp; try with_reducible rfl)); (try simp only [Act.put, List.setIfInBounds_toArray, List.set_cons_zero, List.set_cons_succ]))
  (refine held_take (i := 7) (v := ?_) rfl (by kernel_rfl) (by kernel_rfl) (by kernel_rfl) (fun _ _ _ h => h) (by assumption) (by rfl) ?_ ?_; rotate_left; (focus (intro w hSw; (try dsimp only at hSw); go_simp; try with_reducible rfl)); (try simp only [Act.put, List.setIfInBounds_toArray, List.set_cons_zero, List.set_cons_succ]))
  (refine held_take (i := 8) (v := ?_) rfl (by kernel_rfl) (by kernel_rfl) (by kernel_rfl) (fun _ _ _ h => h) (by assumption) (by rfl) ?_ ?_; rotate_left; (focus (intro w hSw; (try dsimp only at hSw); go_simp; try with_reducible rfl)); (try simp only [Act.put, List.setIfInBounds_toArray, List.set_cons_zero, List.set_cons_succ]))
  (refine held_take (i := 9) (v := ?_) rfl (by kernel_rfl) (by kernel_rfl) (by kernel_rfl) (fun _ _ _ h => h) (by assumption) (by rfl) ?_ ?_; rotate_left; (focus (intro w hSw; (try dsimp only at hSw); go_simp; try with_reducible rfl)); (try simp only [Act.put, List.setIfInBounds_toArray, List.set_cons_zero, List.set_cons_succ]))
  (refine held_take (i := 10) (v := ?_) rfl (by kernel_rfl) (by kernel_rfl) (by kernel_rfl) (fun _ _ _ h => h) (by assumption) (by rfl) ?_ ?_; rotate_left; (focus (intro w hSw; (try dsimp only at hSw); go_simp; try with_reducible rfl)); (try simp only [Act.put, List.setIfInBounds_toArray, List.set_cons_zero, List.set_cons_succ]))
  (refine held_take (i := 11) (v := ?_) rfl (by kernel_rfl) (by kernel_rfl) (by kernel_rfl) (fun _ _ _ h => h) (by assumption) (by rfl) ?_ ?_; rotate_left; (focus (intro w hSw; (try dsimp only at hSw); go_simp; try with_reducible rfl)); (try simp only [Act.put, List.setIfInBounds_toArray, List.set_cons_zero, List.set_cons_succ]))
  (refine held_take (i := 12) (v := ?_) rfl (by kernel_rfl) (by kernel_rfl) (by kernel_rfl) (fun _ _ _ h => h) (by assumption) (by rfl) ?_ ?_; rotate_left; (focus (intro w hSw; (try dsimp only at hSw); go_simp; try with_reducible rfl)); (try simp only [Act.put, List.setIfInBounds_toArray, List.set_cons_zero, List.set_cons_succ]))
  (refine held_take (i := 13) (v := ?_) rfl (by kernel_rfl) (by kernel_rfl) (by kernel_rfl) (fun _ _ _ h => h) (by assumption) (by rfl) ?_ ?_; rotate_left; (focus (intro w hSw; (try dsimp only at hSw); go_simp; try with_reducible rfl)); (try simp only [Act.put, List.setIfInBounds_toArray, List.set_cons_zero, List.set_cons_succ]))
  (refine held_take (i := 14) (v := ?_) rfl (by kernel_rfl) (by kernel_rfl) (by kernel_rfl) (fun _ _ _ h => h) (by assumption) (by rfl) ?_ ?_; rotate_left; (focus (intro w hSw; (try dsimp only at hSw); go_simp; try with_reducible rfl)); (try simp only [Act.put, List.setIfInBounds_toArray, List.set_cons_zero, List.set_cons_succ]))
  (refine held_take (i := 15) (v := ?_) rfl (by kernel_rfl) (by kernel_rfl) (by kernel_rfl) (fun _ _ _ h => h) (by assumption) (by rfl) ?_ ?_; rotate_left; (focus (intro w hSw; (try dsimp only at hSw); go_simp; try with_reducible rfl)); (try simp only [Act.put, List.setIfInBounds_toArray, List.set_cons_zero, List.set_cons_succ]))
  (refine held_take (i := 16) (v := .agg (s.row16 (.slice P n c2) (.slice P' m d2))) rfl (by kernel_rfl) (by kernel_rfl) (by kernel_rfl) (fun _ _ _ h => h) (by assumption) (by rfl) (fun w hSw => exec_load16 _ _ rfl rfl rfl hSw.2.1) ?_; (try simp only [Act.put, List.setIfInBounds_toArray, List.set_cons_zero, List.set_cons_succ]))
  (refine held_take (i := 17) (v := .agg (s.row16 (.slice A n c) (.slice A' m d))) rfl (by kernel_rfl) (by kernel_rfl) (by kernel_rfl) (fun _ _ _ h => h) (by assumption) (by rfl) (fun w hSw => exec_load16 _ _ rfl rfl rfl hSw.1) ?_; (try simp only [Act.put, List.setIfInBounds_toArray, List.set_cons_zero, List.set_cons_succ]))
  refine wpAnyH_ready (rs := [18]) (by kernel_rfl) (by simp) ?_
  refine held_step (i := 18) rfl (fun K hK => ?_) AllReadyH.nil
  go_simp
  refine (kStmt s s P P' A A' n c2 m d2 n c m d _ (HP.out.keep hHeld.2.2) (HPC.out.keep hHeld.2.2) (HR3.out.keep hHeld.2.2) (HC3.out.keep hHeld.2.2)).mono ?_
  rintro e W18 ⟨rfl, hb⟩
  rw [show eqSt s s = true by rw [eqSt_iff]; exact decide_eq_true rfl]
  refine hK.out _ _ (SB _ (bl_step hHeld.2.2 hb)) (fun hH => ?_)
  clear hK K hHeld hb
  have hHeld := hH
  clear hH
  (try simp only [Act.put, List.setIfInBounds_toArray, List.set_cons_zero, List.set_cons_succ])
  (refine held_take (i := 19) (v := ?_) rfl (by kernel_rfl) (by kernel_rfl) (by kernel_rfl) (fun _ _ _ h => h) (by assumption) (by rfl) ?_ ?_; rotate_left; (focus (intro w hSw; (try dsimp only at hSw); go_simp; try with_reducible rfl)); (try simp only [Act.put, List.setIfInBounds_toArray, List.set_cons_zero, List.set_cons_succ]))
  (refine held_take (i := 20) (v := ?_) rfl (by kernel_rfl) (by kernel_rfl) (by kernel_rfl) (fun _ _ _ h => h) (by assumption) (by rfl) ?_ ?_; rotate_left; (focus (intro w hSw; (try dsimp only at hSw); go_simp; try with_reducible rfl)); (try simp only [Act.put, List.setIfInBounds_toArray, List.set_cons_zero, List.set_cons_succ]))
  refine wpAnyH_ready (rs := [21]) (by kernel_rfl) (by simp) ?_
  refine held_step (i := 21) rfl (fun K hK => ?_) AllReadyH.nil
  go_simp
  refine (wakes_any _).mono ?_
  rintro e W21 ⟨rfl, hb⟩
  refine hK.out _ _ (SB _ (bl_step hHeld.2.2 hb)) (fun hH => ?_)
  clear hK K hHeld hb
  have hHeld := hH
  clear hH
  (try simp only [Act.put, List.setIfInBounds_toArray, List.set_cons_zero, List.set_cons_succ])
  (refine held_take (i := 22) (v := ?_) rfl (by kernel_rfl) (by kernel_rfl) (by kernel_rfl) (fun _ _ _ h => h) (by assumption) (by rfl) ?_ ?_; rotate_left; (focus (intro w hSw; (try dsimp only at hSw); go_simp; try with_reducible rfl)); (try simp only [Act.put, List.setIfInBounds_toArray, List.set_cons_zero, List.set_cons_succ]))
  (refine held_take (i := 23) (v := ?_) rfl (by kernel_rfl) (by kernel_rfl) (by kernel_rfl) (fun _ _ _ h => h) (by assumption) (by rfl) ?_ ?_; rotate_left; (focus (intro w hSw; (try dsimp only at hSw); go_simp; try with_reducible rfl)); (try simp only [Act.put, List.setIfInBounds_toArray, List.set_cons_zero, List.set_cons_succ]))
  refine wpAnyH_done (by kernel_rfl) ?_ _
  have hW := bl_step LW3.out hHeld.2.2
  go_wp2
  go_ret
  exact ⟨rfl, hW⟩
theorem encodes_any (s : St) (A A' : Option Addr) (n c m d : Nat) (w : World) (hr : RdV w A n s.row) (hc : RdC w A' m s.cols) (hf : Flt s) :
    Pure Try.prog 4 #[s.agg (.slice A n c) (.slice A' m d)] w (.bool true) := by
  cases hL : largeSt s with
  | true => exact encodes_l s A A' n c m d w hr hc hf hL
  | false =>
    cases hg : goodS s with
    | true => exact encodes_t s A A' n c m d w hr hc hf hL hg
    | false => exact encodes_f s A A' n c m d w hr hc hf hL hg
end Go.Proofs.Ytbmaeaknlpgdmaa
