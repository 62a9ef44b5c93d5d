/- StmtOthers answers true. -/
import Derived.Test.YtbmaeaknlpgdmaaA36
import Derived.Test.YtbmaeaknlpgdmaaA41
import Derived.Test.YtbmaeaknlpgdmaaA29
import Derived.Test.YtbmaeaknlpgdmaaA25
import Derived.Test.YtbmaeaknlpgdmaaA09
import Derived.Test.YtbmaeaknlpgdmaaA06
import Derived.Test.YtbmaeaknlpgdmaaA19
import Derived.Deep.CutBlock
import Derived.Deep.CutRange
namespace Go.Proofs.Ytbmaeaknlpgdmaa
open Go.RowKit
set_option linter.unusedVariables false
set_option linter.unusedSimpArgs false
set_option linter.constructorNameAsVariable false
theorem Rd.set_new {α : Type} {cs : α → List Value} {size : Nat} {w0 w : World} {A : Option Addr} {n : Nat} {xs : List α} (h0 : Rd cs size w0 A n xs) (h : Rd cs size w A n xs) {b : Nat} (hb : w0.heap.size ≤ b) (i : Nat) (u : Value) : Rd cs size (w.setCell ⟨b, i, none⟩ u) A n xs :=
  ⟨h.1, h.2.1, fun hn => by
    obtain ⟨g, o, e, hc⟩ := h.2.2 hn
    obtain ⟨g', o', e', hc'⟩ := h0.2.2 hn
    have he : g' = g := by rw [e] at e'; injection e' with e'; injection e' with e1 e2; exact e1.symm
    refine ⟨g, o, e, fun j x hx r v hv => ?_⟩
    have h1 := World.block_lt_of_cell? w0 _ (hc' j x hx r v hv)
    have h2 : g < w0.heap.size := by rw [← he]; exact h1
    exact off_cell (off_set1 b i u w) (hc j x hx r v hv) (show g ≠ b by omega) (show g ≠ b by omega)⟩
theorem tmod6 {i : Int} (h : 0 ≤ i) : i.tmod 6 = i % 6 := Int.tmod_eq_emod_of_nonneg h
theorem small_all {s : St} (h : largeSt s = false) : s.row.length ≤ 50 ∧ s.cols.length ≤ 50 ∧ s.nm.size ≤ 1000 ∧ s.se.size ≤ 1000 ∧ s.w.s.size ≤ 2000 := by
  simp only [largeSt, largeR, largeCs, largeV, Bool.or_eq_false_iff, decide_eq_false_iff_not] at h
  omega
set_option maxRecDepth 100000 in
set_option maxHeartbeats 4000000 in
theorem others_l (s : St) (A A' : Option Addr) (n c m d r : Nat) (i : Int) (w : World) (hr : RdV w A n s.row) (hc : RdC w A' m s.cols) (hf : Flt s) (hi : i % 6 = r ∧ 0 ≤ i ∧ i ≤ 255 ∧ r < 6) (hL : largeSt s = true)  :
    Pure Try.prog 6 #[s.agg (.slice A n c) (.slice A' m d), .int .u8 i] w (.bool true) := by
  obtain rfl := hr.1
  obtain rfl := hc.1
  have HR := Lib.hid hr
  have HC := Lib.hid hc
  have HF := Lib.hid hf
  have HLL := Lib.hid hL
  have HI := Lib.hid hi
  clear hr hc hf hL hi
  go_enter Try.func6, Try.ntmps6
  go_wp2_with (refine wpl_load16 rfl _ rfl _ rfl rfl (blk_new w (.cells #[.int .i64 s.k, .string s.t, .string s.nm, .string s.c, .string s.se, .int .i64 s.v.k, .int .i64 s.v.n, .float .f64 s.v.f, .string s.v.s, .int .i64 s.w.k, .int .i64 s.w.n, .float .f64 s.w.f, .string s.w.s, .slice A s.row.length c, .slice A' s.cols.length d, .bool s.fl] 28)) ?_)
  refine (largeSt_any s A A' _ c _ d _ (HR.out.keep (by (repeat (first | assumption | exact Below.refl _ _ | refine bl_drewN ?_ _ | refine bl_drew ?_ | refine bl_alloc ?_ _ | refine bl_step ?_ (by assumption))))) (HC.out.keep (by (repeat (first | assumption | exact Below.refl _ _ | refine bl_drewN ?_ _ | refine bl_drew ?_ | refine bl_alloc ?_ _ | refine bl_step ?_ (by assumption)))))).mono ?_
  rintro e w1 ⟨rfl, hb1⟩
  have B1 := Lib.hid (blk_below (blk_new w _) hb1)
  have L1 := Lib.hid (show Below w.heap.size w w1 by (repeat (first | assumption | exact Below.refl _ _ | refine bl_drewN ?_ _ | refine bl_drew ?_ | refine bl_alloc ?_ _ | refine bl_step ?_ (by assumption))))
  have hz1 := blk_lt B1.out
  clear hb1
  rw [HLL.out]
  go_wp2_with fail
  refine (wakes_any _).mono ?_
  rintro e w9 ⟨rfl, hb9⟩
  go_wp2
  go_ret
  exact ⟨rfl, bl_step L1.out hb9⟩
set_option maxRecDepth 100000 in
set_option maxHeartbeats 4000000 in
theorem others_b (s : St) (A A' : Option Addr) (n c m d r : Nat) (i : Int) (w : World) (hr : RdV w A n s.row) (hc : RdC w A' m s.cols) (hf : Flt s) (hi : i % 6 = r ∧ 0 ≤ i ∧ i ≤ 255 ∧ r < 6) (hL : largeSt s = false) (hg : goodS s = false)  :
    Pure Try.prog 6 #[s.agg (.slice A n c) (.slice A' m d), .int .u8 i] w (.bool true) := by
  obtain rfl := hr.1
  obtain rfl := hc.1
  have HR := Lib.hid hr
  have HC := Lib.hid hc
  have HF := Lib.hid hf
  have HLL := Lib.hid hL
  have HGS := Lib.hid hg
  have HGR := Lib.hid ((goodS_eq s).symm.trans hg)
  have HI := Lib.hid hi
  clear hr hc hf hL hg hi
  go_enter Try.func6, Try.ntmps6
  go_wp2_with (refine wpl_load16 rfl _ rfl _ rfl rfl (blk_new w (.cells #[.int .i64 s.k, .string s.t, .string s.nm, .string s.c, .string s.se, .int .i64 s.v.k, .int .i64 s.v.n, .float .f64 s.v.f, .string s.v.s, .int .i64 s.w.k, .int .i64 s.w.n, .float .f64 s.w.f, .string s.w.s, .slice A s.row.length c, .slice A' s.cols.length d, .bool s.fl] 28)) ?_)
  refine (largeSt_any s A A' _ c _ d _ (HR.out.keep (by (repeat (first | assumption | exact Below.refl _ _ | refine bl_drewN ?_ _ | refine bl_drew ?_ | refine bl_alloc ?_ _ | refine bl_step ?_ (by assumption))))) (HC.out.keep (by (repeat (first | assumption | exact Below.refl _ _ | refine bl_drewN ?_ _ | refine bl_drew ?_ | refine bl_alloc ?_ _ | refine bl_step ?_ (by assumption)))))).mono ?_
  rintro e w1 ⟨rfl, hb1⟩
  have B1 := Lib.hid (blk_below (blk_new w _) hb1)
  have L1 := Lib.hid (show Below w.heap.size w w1 by (repeat (first | assumption | exact Below.refl _ _ | refine bl_drewN ?_ _ | refine bl_drew ?_ | refine bl_alloc ?_ _ | refine bl_step ?_ (by assumption))))
  have hz1 := blk_lt B1.out
  clear hb1
  rw [HLL.out]
  go_wp2_with (refine wpl_load16g (by rfl) _ rfl _ rfl rfl B1.out ?_)
  refine (rgoodS_any s A A' _ c _ d _ (HR.out.keep L1.out) (HC.out.keep L1.out)).mono ?_
  rintro e w2 ⟨rfl, hb2⟩
  have B2 := Lib.hid (blk_below B1.out hb2)
  have L2 := Lib.hid (bl_step L1.out hb2)
  have hz2 := blk_lt B2.out
  clear hb2 hz1
  rw [HGR.out]
  go_wp2_with fail
  refine (wakes_any _).mono ?_
  rintro e w9 ⟨rfl, hb9⟩
  go_wp2
  go_ret
  exact ⟨rfl, bl_step L2.out hb9⟩
set_option maxRecDepth 100000 in
set_option maxHeartbeats 4000000 in
theorem others_n (s : St) (A A' : Option Addr) (n c m d r : Nat) (i : Int) (w : World) (hr : RdV w A n s.row) (hc : RdC w A' m s.cols) (hf : Flt s) (hi : i % 6 = r ∧ 0 ≤ i ∧ i ≤ 255 ∧ r < 6) (hL : largeSt s = false) (hg : goodS s = true) (hn : eqSt (chg s r) (only (chg s r)) = false) :
    Pure Try.prog 6 #[s.agg (.slice A n c) (.slice A' m d), .int .u8 i] w (.bool true) := by
  obtain rfl := hr.1
  obtain rfl := hc.1
  have HR := Lib.hid hr
  have HC := Lib.hid hc
  have HF := Lib.hid hf
  have HLL := Lib.hid hL
  have HGS := Lib.hid hg
  have HGR := Lib.hid ((goodS_eq s).symm.trans hg)
  have HI := Lib.hid hi
  have HN := Lib.hid hn
  have HD6 := Lib.hid (others_bad hn)
  have hgo := others_good hg hn
  have HG0 := Lib.hid hgo
  clear hgo
  clear hn
  clear hr hc hf hL hg hi
  go_enter Try.func6, Try.ntmps6
  go_wp2_with (refine wpl_load16 rfl _ rfl _ rfl rfl (blk_new w (.cells #[.int .i64 s.k, .string s.t, .string s.nm, .string s.c, .string s.se, .int .i64 s.v.k, .int .i64 s.v.n, .float .f64 s.v.f, .string s.v.s, .int .i64 s.w.k, .int .i64 s.w.n, .float .f64 s.w.f, .string s.w.s, .slice A s.row.length c, .slice A' s.cols.length d, .bool s.fl] 28)) ?_)
  refine (largeSt_any s A A' _ c _ d _ (HR.out.keep (by (repeat (first | assumption | exact Below.refl _ _ | refine bl_drewN ?_ _ | refine bl_drew ?_ | refine bl_alloc ?_ _ | refine bl_step ?_ (by assumption))))) (HC.out.keep (by (repeat (first | assumption | exact Below.refl _ _ | refine bl_drewN ?_ _ | refine bl_drew ?_ | refine bl_alloc ?_ _ | refine bl_step ?_ (by assumption)))))).mono ?_
  rintro e w1 ⟨rfl, hb1⟩
  have B1 := Lib.hid (blk_below (blk_new w _) hb1)
  have L1 := Lib.hid (show Below w.heap.size w w1 by (repeat (first | assumption | exact Below.refl _ _ | refine bl_drewN ?_ _ | refine bl_drew ?_ | refine bl_alloc ?_ _ | refine bl_step ?_ (by assumption))))
  have hz1 := blk_lt B1.out
  clear hb1
  rw [HLL.out]
  go_wp2_with (refine wpl_load16g (by rfl) _ rfl _ rfl rfl B1.out ?_)
  refine (rgoodS_any s A A' _ c _ d _ (HR.out.keep L1.out) (HC.out.keep L1.out)).mono ?_
  rintro e w2 ⟨rfl, hb2⟩
  have B2 := Lib.hid (blk_below B1.out hb2)
  have L2 := Lib.hid (bl_step L1.out hb2)
  have hz2 := blk_lt B2.out
  clear hb2 hz1
  rw [HGR.out]
  have hl1 := (small_all HLL.out).1
  have hl2 := (small_all HLL.out).2.1
  go_wp2_with (refine wpl_load16 rfl _ rfl _ rfl rfl B2.out ?_)
  refine (copySt2 s A A' _ c _ d _ (HR.out.keep L2.out) (HC.out.keep L2.out) hl1 hl2).mono ?_
  rintro e w3 ⟨P, c2, P', d2, rfl, hp, hpc, hb3, hown, hdis⟩
  have HDIS := Lib.hid hdis
  have hz22 := hz2
  clear hdis
  have L3 := bl_step L2.out hb3
  have hz3 : w.heap.size < w3.heap.size := Nat.lt_of_lt_of_le hz2 hb3.size
  clear hl1 hl2 hz2
  go_upto_block 0 with fail
  have D3 := blk_new w3 (.cells (s.row16 (.slice P s.row.length c2) (.slice P' s.cols.length d2)) 28)
  have B3 := bl_alloc (Below.refl w3.heap.size w3) (.cells (s.row16 (.slice P s.row.length c2) (.slice P' s.cols.length d2)) 28)
  have LL := bl_alloc L3 (.cells (s.row16 (.slice P s.row.length c2) (.slice P' s.cols.length d2)) 28)
  have HP3 := hp.keep (bl_alloc (Below.refl _ _) (.cells (s.row16 (.slice P s.row.length c2) (.slice P' s.cols.length d2)) 28))
  have HPC3 := hpc.keep (bl_alloc (Below.refl _ _) (.cells (s.row16 (.slice P s.row.length c2) (.slice P' s.cols.length d2)) 28))
  have HOW3 := hown.kept (bl_alloc (Below.refl _ _) (.cells (s.row16 (.slice P s.row.length c2) (.slice P' s.cols.length d2)) 28))
  have hlt3 : ∀ g, (Value.slice P s.row.length c2).ownBlock = some g → g < w3.heap.size := fun g hg => (hown.lt g hg).2
  generalize w3.alloc (.cells (s.row16 (.slice P s.row.length c2) (.slice P' s.cols.length d2)) 28) = W4 at D3 LL B3 HP3 HPC3 HOW3 ⊢
  have HD := Lib.hid D3
  have HB := Lib.hid LL
  have HP := Lib.hid HP3
  have HPC := Lib.hid HPC3
  have HOW := Lib.hid HOW3
  have HLT := Lib.hid hlt3
  have hz4 := blk_lt D3
  have H3 := Lib.hid hp
  have H3C := Lib.hid hpc
  have B34 := Lib.hid B3
  clear B3 D3 LL HP3 HPC3 HOW3 hp hpc hown hb3 L3 hlt3
  go_cut [] from 18 (fun wc => ∃ A4 c4 A5 c5, wc.heap[w3.heap.size]? = some (.cells ((chg s r).row16 (.slice A4 (chg s r).row.length c4) (.slice A5 (chg s r).cols.length c5)) 28 (0, 0)) ∧ RdV wc A4 (chg s r).row.length (chg s r).row ∧ RdC wc A5 (chg s r).cols.length (chg s r).cols ∧ Below w.heap.size w wc)
  case first =>
    obtain ⟨k1, f1⟩ := blk_rules HD.out
    obtain ⟨hm, hi0, hi255, hr6⟩ := HI.out
    obtain ⟨hq1, hq2, hq3, hq4, hq5⟩ := small_all HLL.out
    rcases (show r = 0 ∨ r = 1 ∨ r = 2 ∨ r = 3 ∨ r = 4 ∨ r = 5 by omega) with rfl | rfl | rfl | rfl | rfl | rfl
    · have ht : i.tmod 6 = 0 := (tmod6 hi0).trans hm
      clear hm hr6
      go_wp2
      go_meet
      case rel => exact ⟨P, c2, P', d2, blk_set_eq HD.out 2 (.string (s.nm ++ aB)) rfl, H3.out.keep (bl_set B34.out (Nat.le_refl _) (.string (s.nm ++ aB))), H3C.out.keep (bl_set B34.out (Nat.le_refl _) (.string (s.nm ++ aB))), bl_set HB.out (Nat.le_of_lt hz3) _⟩
    · have ht : i.tmod 6 = 1 := (tmod6 hi0).trans hm
      clear hm hr6
      go_wp2
      go_meet
      case rel => exact ⟨P, c2, P', d2, blk_set_eq HD.out 4 (.string (s.se ++ aB)) rfl, H3.out.keep (bl_set B34.out (Nat.le_refl _) (.string (s.se ++ aB))), H3C.out.keep (bl_set B34.out (Nat.le_refl _) (.string (s.se ++ aB))), bl_set HB.out (Nat.le_of_lt hz3) _⟩
    · have ht : i.tmod 6 = 2 := (tmod6 hi0).trans hm
      clear hm hr6
      go_wp2
      go_meet
      case rel => exact ⟨P, c2, P', d2, blk_set_eq HD.out 6 (.int .i64 (wrap64 (s.v.n + 1))) rfl, H3.out.keep (bl_set B34.out (Nat.le_refl _) (.int .i64 (wrap64 (s.v.n + 1)))), H3C.out.keep (bl_set B34.out (Nat.le_refl _) (.int .i64 (wrap64 (s.v.n + 1)))), bl_set HB.out (Nat.le_of_lt hz3) _⟩
    · have ht : i.tmod 6 = 3 := (tmod6 hi0).trans hm
      clear hm hr6
      go_wp2
      go_meet
      case rel => exact ⟨P, c2, P', d2, blk_set_eq HD.out 12 (.string (s.w.s ++ aB)) rfl, H3.out.keep (bl_set B34.out (Nat.le_refl _) (.string (s.w.s ++ aB))), H3C.out.keep (bl_set B34.out (Nat.le_refl _) (.string (s.w.s ++ aB))), bl_set HB.out (Nat.le_of_lt hz3) _⟩
    · have ht : i.tmod 6 = 4 := (tmod6 hi0).trans hm
      clear hm hr6
      go_wp2_with (at_builtin; go_loud (refine wp_app (cs := Vl.cs) (size := 4) vl_len (by omega) vl_one rfl (.tmp 51) (.tmp 53) _ rfl 0 24 _ 40 Try.uVals Try.iVal rfl (.slice P s.row.length c2) s.row rfl ((HOW.out.lower (Nat.zero_le _)).alloc_ _) (some ⟨W4.heap.size, 0, none⟩) 1 1 [nov] rfl (rd_one rfl (blk_new W4 _)) (by omega) (by omega) (Nat.zero_le _) ?_))
      intro A3 c3 w5 hown3 hg3 hat3
      have hx4 : some w3.heap.size ≠ (Value.slice P s.row.length c2).ownBlock := by intro h; have := HLT.out _ h.symm; omega
      have hQ := blk_grown (blk_old HD.out _) hg3 hx4
      have hcols := Rd.grown (HPC.out.keep (bl_alloc (Below.refl _ _) _)) hg3 (fun p hp h => by
        refine HDIS.out _ h.symm ?_
        rw [hp]; rfl)
      have hbl : Below w.heap.size w w5 := below_own (bl_alloc HB.out _) hg3 (fun k hk => by have := (HOW.out.lt k hk).1; omega)
      have hne13 : (Value.slice A3 (s.row.length + 1) c3).ownBlock ≠ some w3.heap.size := by
        intro h
        rcases hat3 with h3 | h3 <;> rw [h3] at h
        · have := HLT.out _ h; omega
        · simp at h; omega
      have hlen : (chg s 4).row.length = s.row.length + 1 := by simp [chg]
      have GQ := Lib.hid hQ
      have GC := Lib.hid hcols
      have GB := Lib.hid hbl
      have GN := Lib.hid hne13
      have GL := Lib.hid hlen
      have GO := Lib.hid hown3
      obtain ⟨k5, f5⟩ := blk_rules hQ
      clear k1 f1 hQ hcols hbl hne13 hlen hown3 hg3 hat3 hx4
      go_wp2
      go_meet
      case rel =>
        refine ⟨A3, c3, P', d2, ?_, ?_, Rd.set_new H3C.out GC.out (Nat.le_refl _) _ _, bl_set GB.out (Nat.le_of_lt hz3) _⟩
        · rw [GL.out]
          exact blk_set_eq GQ.out 13 (.slice A3 (s.row.length + 1) c3) rfl
        · rw [GL.out]
          exact own_rd vl_len (Own.set_ GO.out GN.out _)
    · have ht : i.tmod 6 = 5 := (tmod6 hi0).trans hm
      clear hm hr6
      go_wp2
      go_meet
      case rel => exact ⟨P, c2, P', d2, blk_set_eq HD.out 15 (.bool (!s.fl)) rfl, H3.out.keep (bl_set B34.out (Nat.le_refl _) (.bool (!s.fl))), H3C.out.keep (bl_set B34.out (Nat.le_refl _) (.bool (!s.fl))), bl_set HB.out (Nat.le_of_lt hz3) _⟩
  case rest =>
    obtain ⟨A4, c4, A5, c5, hx, hrv, hrc, hbl⟩ := hcut
    have hfx := chg_flt (r := r) HF.out
    have hne := HN.out
    have hbd := HD6.out
    clear HN HD6
    clear HI HP HPC HOW HLT H3 H3C B34 HD HB HDIS B1 B2 L1 L2 HLL HGR
    have hgo2 := HG0.out
    clear HG0
    generalize chg s r = x at hx hrv hrc hfx hne hbd hgo2
    have HGO := Lib.hid hgo2
    clear hgo2
    have HX := Lib.hid hx
    have HV := Lib.hid hrv
    have HCC := Lib.hid hrc
    have HFX := Lib.hid hfx
    have HNE := Lib.hid hne
    have HBAD := Lib.hid hbd
    have HBL := Lib.hid hbl
    clear hx hrv hrc hfx hne hbd hbl
    go_wp2_with (refine wpl_load16 rfl _ rfl _ rfl rfl HX.out ?_)
    refine (sencode_no x A4 A5 _ c4 _ c5 _ HV.out HCC.out HBAD.out).mono ?_
    rintro e w6 ⟨rfl, hb6⟩
    have X6 := Lib.hid (blk_below HX.out hb6)
    have L6 := Lib.hid hb6
    clear hb6
    go_wp2_with fail
    refine wp_region_held_drew (S := fun w' => w'.heap[w3.heap.size]? = some (.cells (x.row16 (.slice A4 x.row.length c4) (.slice A5 x.cols.length c5)) 28 (0, 0)) ∧ Below wc.heap.size wc w') (by kernel_rfl) ⟨X6.out, bl_drew L6.out⟩ (fun hHeld => ?_)
    simp only [List.size_toArray, List.length_cons, List.length_nil]
    (refine held_take (i := 0) (v := .agg (x.row16 (.slice A4 x.row.length c4) (.slice A5 x.cols.length c5))) rfl (by kernel_rfl) (by kernel_rfl) (by kernel_rfl) (fun _ _ _ h => h) (by assumption) (by rfl) (fun w hSw => exec_load16 _ _ rfl rfl rfl hSw.1) ?_; (try simp only [Act.put, List.setIfInBounds_toArray, List.set_cons_zero, List.set_cons_succ]))
    (refine held_take (i := 1) (v := .agg (x.row16 (.slice A4 x.row.length c4) (.slice A5 x.cols.length c5))) rfl (by kernel_rfl) (by kernel_rfl) (by kernel_rfl) (fun _ _ _ h => h) (by assumption) (by rfl) (fun w hSw => exec_load16 _ _ rfl rfl rfl hSw.1) ?_; (try simp only [Act.put, List.setIfInBounds_toArray, List.set_cons_zero, List.set_cons_succ]))
    refine wpAnyH_ready (rs := [2]) (by kernel_rfl) (by simp) ?_
    refine held_step (i := 2) rfl (fun K hK => ?_) AllReadyH.nil
    go_simp
    refine (only_any x A4 A5 _ c4 _ c5 _ (HV.out.keep hHeld.2) (HCC.out.keep hHeld.2)).mono ?_
    rintro e W2 ⟨Q, qn, qc, Q', qm, qd, rfl, ho1, ho2, hb⟩
    replace ho1 := ho1.keep hb
    replace ho2 := ho2.keep hb
    refine hK.out _ _ ⟨blk_below hHeld.1 hb, bl_step hHeld.2 hb⟩ (fun hH => ?_)
    clear hK K hHeld hb
    have hHeld := hH
    clear hH
    (try simp only [Act.put, List.setIfInBounds_toArray, List.set_cons_zero, List.set_cons_succ])
    refine wpAnyH_ready (rs := [3]) (by kernel_rfl) (by simp) ?_
    refine held_step (i := 3) rfl (fun K hK => ?_) AllReadyH.nil
    go_simp
    refine (kStmt x (only x) A4 A5 Q Q' _ c4 _ c5 qn qc qm qd _ (HV.out.keep hHeld.2) (HCC.out.keep hHeld.2) ho1 ho2).mono ?_
    rintro e W3 ⟨rfl, hb⟩
    rw [HNE.out]
    refine hK.out _ _ ⟨blk_below hHeld.1 hb, bl_step hHeld.2 hb⟩ (fun hH => ?_)
    clear hK K hHeld hb ho1 ho2
    have hHeld := hH
    clear hH
    (try simp only [Act.put, List.setIfInBounds_toArray, List.set_cons_zero, List.set_cons_succ])
    (refine held_take (i := 4) (v := ?_) rfl (by kernel_rfl) (by kernel_rfl) (by kernel_rfl) (fun _ _ _ h => h) (by assumption) (by rfl) ?_ ?_; rotate_left; (focus (intro w hSw; (try dsimp only at hSw); go_simp; try with_reducible rfl)); (try simp only [Act.put, List.setIfInBounds_toArray, List.set_cons_zero, List.set_cons_succ]))
    refine wpAnyH_done (by kernel_rfl) ?_ _
    have X7 := Lib.hid hHeld.1
    have L7 := Lib.hid hHeld.2
    clear hHeld X6 L6
    go_wp2_with (refine wpl_load16g (by rfl) _ rfl _ rfl rfl X7.out ?_)
    refine (only_any x A4 A5 _ c4 _ c5 _ (HV.out.keep L7.out) (HCC.out.keep L7.out)).mono ?_
    rintro e w8 ⟨Q2, qn2, qc2, Q2', qm2, qd2, rfl, ho1, ho2, hb8⟩
    replace ho1 := ho1.keep hb8
    replace ho2 := ho2.keep hb8
    have L8 := Lib.hid (bl_step L7.out hb8)
    have O1 := Lib.hid ho1
    have O2 := Lib.hid ho2
    clear ho1 ho2 hb8
    go_wp2_with fail
    refine (goodS_any (only x) Q2 Q2' qn2 qc2 qm2 qd2 _ O1.out O2.out).mono ?_
    rintro e w9 ⟨rfl, hb9⟩
    have L9 := Lib.hid (bl_step L8.out hb9)
    rw [HGO.out]
    clear hb9
    go_wp2_with fail
    refine (wakes_any _).mono ?_
    rintro e w10 ⟨rfl, hb10⟩
    go_wp2
    go_ret
    exact ⟨rfl, bl_step HBL.out (bl_step L9.out hb10)⟩
set_option maxRecDepth 100000 in
set_option maxHeartbeats 4000000 in
theorem others_t (s : St) (A A' : Option Addr) (n c m d r : Nat) (i : Int) (w : World) (hr : RdV w A n s.row) (hc : RdC w A' m s.cols) (hf : Flt s) (hi : i % 6 = r ∧ 0 ≤ i ∧ i ≤ 255 ∧ r < 6) (hL : largeSt s = false) (hg : goodS s = true) (hn : eqSt (chg s r) (only (chg s r)) = true) (hd6 : goodS (chg s r) = true) :
    Pure Try.prog 6 #[s.agg (.slice A n c) (.slice A' m d), .int .u8 i] w (.bool true) := by
  obtain rfl := hr.1
  obtain rfl := hc.1
  have HR := Lib.hid hr
  have HC := Lib.hid hc
  have HF := Lib.hid hf
  have HLL := Lib.hid hL
  have HGS := Lib.hid hg
  have HGR := Lib.hid ((goodS_eq s).symm.trans hg)
  have HI := Lib.hid hi
  have HN := Lib.hid hn
  have HD6 := Lib.hid hd6
  clear hn hd6
  clear hr hc hf hL hg hi
  go_enter Try.func6, Try.ntmps6
  go_wp2_with (refine wpl_load16 rfl _ rfl _ rfl rfl (blk_new w (.cells #[.int .i64 s.k, .string s.t, .string s.nm, .string s.c, .string s.se, .int .i64 s.v.k, .int .i64 s.v.n, .float .f64 s.v.f, .string s.v.s, .int .i64 s.w.k, .int .i64 s.w.n, .float .f64 s.w.f, .string s.w.s, .slice A s.row.length c, .slice A' s.cols.length d, .bool s.fl] 28)) ?_)
  refine (largeSt_any s A A' _ c _ d _ (HR.out.keep (by (repeat (first | assumption | exact Below.refl _ _ | refine bl_drewN ?_ _ | refine bl_drew ?_ | refine bl_alloc ?_ _ | refine bl_step ?_ (by assumption))))) (HC.out.keep (by (repeat (first | assumption | exact Below.refl _ _ | refine bl_drewN ?_ _ | refine bl_drew ?_ | refine bl_alloc ?_ _ | refine bl_step ?_ (by assumption)))))).mono ?_
  rintro e w1 ⟨rfl, hb1⟩
  have B1 := Lib.hid (blk_below (blk_new w _) hb1)
  have L1 := Lib.hid (show Below w.heap.size w w1 by (repeat (first | assumption | exact Below.refl _ _ | refine bl_drewN ?_ _ | refine bl_drew ?_ | refine bl_alloc ?_ _ | refine bl_step ?_ (by assumption))))
  have hz1 := blk_lt B1.out
  clear hb1
  rw [HLL.out]
  go_wp2_with (refine wpl_load16g (by rfl) _ rfl _ rfl rfl B1.out ?_)
  refine (rgoodS_any s A A' _ c _ d _ (HR.out.keep L1.out) (HC.out.keep L1.out)).mono ?_
  rintro e w2 ⟨rfl, hb2⟩
  have B2 := Lib.hid (blk_below B1.out hb2)
  have L2 := Lib.hid (bl_step L1.out hb2)
  have hz2 := blk_lt B2.out
  clear hb2 hz1
  rw [HGR.out]
  have hl1 := (small_all HLL.out).1
  have hl2 := (small_all HLL.out).2.1
  go_wp2_with (refine wpl_load16 rfl _ rfl _ rfl rfl B2.out ?_)
  refine (copySt2 s A A' _ c _ d _ (HR.out.keep L2.out) (HC.out.keep L2.out) hl1 hl2).mono ?_
  rintro e w3 ⟨P, c2, P', d2, rfl, hp, hpc, hb3, hown, hdis⟩
  have HDIS := Lib.hid hdis
  have hz22 := hz2
  clear hdis
  have L3 := bl_step L2.out hb3
  have hz3 : w.heap.size < w3.heap.size := Nat.lt_of_lt_of_le hz2 hb3.size
  clear hl1 hl2 hz2
  go_upto_block 0 with fail
  have D3 := blk_new w3 (.cells (s.row16 (.slice P s.row.length c2) (.slice P' s.cols.length d2)) 28)
  have B3 := bl_alloc (Below.refl w3.heap.size w3) (.cells (s.row16 (.slice P s.row.length c2) (.slice P' s.cols.length d2)) 28)
  have LL := bl_alloc L3 (.cells (s.row16 (.slice P s.row.length c2) (.slice P' s.cols.length d2)) 28)
  have HP3 := hp.keep (bl_alloc (Below.refl _ _) (.cells (s.row16 (.slice P s.row.length c2) (.slice P' s.cols.length d2)) 28))
  have HPC3 := hpc.keep (bl_alloc (Below.refl _ _) (.cells (s.row16 (.slice P s.row.length c2) (.slice P' s.cols.length d2)) 28))
  have HOW3 := hown.kept (bl_alloc (Below.refl _ _) (.cells (s.row16 (.slice P s.row.length c2) (.slice P' s.cols.length d2)) 28))
  have hlt3 : ∀ g, (Value.slice P s.row.length c2).ownBlock = some g → g < w3.heap.size := fun g hg => (hown.lt g hg).2
  generalize w3.alloc (.cells (s.row16 (.slice P s.row.length c2) (.slice P' s.cols.length d2)) 28) = W4 at D3 LL B3 HP3 HPC3 HOW3 ⊢
  have HD := Lib.hid D3
  have HB := Lib.hid LL
  have HP := Lib.hid HP3
  have HPC := Lib.hid HPC3
  have HOW := Lib.hid HOW3
  have HLT := Lib.hid hlt3
  have hz4 := blk_lt D3
  have H3 := Lib.hid hp
  have H3C := Lib.hid hpc
  have B34 := Lib.hid B3
  clear B3 D3 LL HP3 HPC3 HOW3 hp hpc hown hb3 L3 hlt3
  go_cut [] from 18 (fun wc => ∃ A4 c4 A5 c5, wc.heap[w3.heap.size]? = some (.cells ((chg s r).row16 (.slice A4 (chg s r).row.length c4) (.slice A5 (chg s r).cols.length c5)) 28 (0, 0)) ∧ RdV wc A4 (chg s r).row.length (chg s r).row ∧ RdC wc A5 (chg s r).cols.length (chg s r).cols ∧ Below w.heap.size w wc)
  case first =>
    obtain ⟨k1, f1⟩ := blk_rules HD.out
    obtain ⟨hm, hi0, hi255, hr6⟩ := HI.out
    obtain ⟨hq1, hq2, hq3, hq4, hq5⟩ := small_all HLL.out
    rcases (show r = 0 ∨ r = 1 ∨ r = 2 ∨ r = 3 ∨ r = 4 ∨ r = 5 by omega) with rfl | rfl | rfl | rfl | rfl | rfl
    · have ht : i.tmod 6 = 0 := (tmod6 hi0).trans hm
      clear hm hr6
      go_wp2
      go_meet
      case rel => exact ⟨P, c2, P', d2, blk_set_eq HD.out 2 (.string (s.nm ++ aB)) rfl, H3.out.keep (bl_set B34.out (Nat.le_refl _) (.string (s.nm ++ aB))), H3C.out.keep (bl_set B34.out (Nat.le_refl _) (.string (s.nm ++ aB))), bl_set HB.out (Nat.le_of_lt hz3) _⟩
    · have ht : i.tmod 6 = 1 := (tmod6 hi0).trans hm
      clear hm hr6
      go_wp2
      go_meet
      case rel => exact ⟨P, c2, P', d2, blk_set_eq HD.out 4 (.string (s.se ++ aB)) rfl, H3.out.keep (bl_set B34.out (Nat.le_refl _) (.string (s.se ++ aB))), H3C.out.keep (bl_set B34.out (Nat.le_refl _) (.string (s.se ++ aB))), bl_set HB.out (Nat.le_of_lt hz3) _⟩
    · have ht : i.tmod 6 = 2 := (tmod6 hi0).trans hm
      clear hm hr6
      go_wp2
      go_meet
      case rel => exact ⟨P, c2, P', d2, blk_set_eq HD.out 6 (.int .i64 (wrap64 (s.v.n + 1))) rfl, H3.out.keep (bl_set B34.out (Nat.le_refl _) (.int .i64 (wrap64 (s.v.n + 1)))), H3C.out.keep (bl_set B34.out (Nat.le_refl _) (.int .i64 (wrap64 (s.v.n + 1)))), bl_set HB.out (Nat.le_of_lt hz3) _⟩
    · have ht : i.tmod 6 = 3 := (tmod6 hi0).trans hm
      clear hm hr6
      go_wp2
      go_meet
      case rel => exact ⟨P, c2, P', d2, blk_set_eq HD.out 12 (.string (s.w.s ++ aB)) rfl, H3.out.keep (bl_set B34.out (Nat.le_refl _) (.string (s.w.s ++ aB))), H3C.out.keep (bl_set B34.out (Nat.le_refl _) (.string (s.w.s ++ aB))), bl_set HB.out (Nat.le_of_lt hz3) _⟩
    · have ht : i.tmod 6 = 4 := (tmod6 hi0).trans hm
      clear hm hr6
      go_wp2_with (at_builtin; go_loud (refine wp_app (cs := Vl.cs) (size := 4) vl_len (by omega) vl_one rfl (.tmp 51) (.tmp 53) _ rfl 0 24 _ 40 Try.uVals Try.iVal rfl (.slice P s.row.length c2) s.row rfl ((HOW.out.lower (Nat.zero_le _)).alloc_ _) (some ⟨W4.heap.size, 0, none⟩) 1 1 [nov] rfl (rd_one rfl (blk_new W4 _)) (by omega) (by omega) (Nat.zero_le _) ?_))
      intro A3 c3 w5 hown3 hg3 hat3
      have hx4 : some w3.heap.size ≠ (Value.slice P s.row.length c2).ownBlock := by intro h; have := HLT.out _ h.symm; omega
      have hQ := blk_grown (blk_old HD.out _) hg3 hx4
      have hcols := Rd.grown (HPC.out.keep (bl_alloc (Below.refl _ _) _)) hg3 (fun p hp h => by
        refine HDIS.out _ h.symm ?_
        rw [hp]; rfl)
      have hbl : Below w.heap.size w w5 := below_own (bl_alloc HB.out _) hg3 (fun k hk => by have := (HOW.out.lt k hk).1; omega)
      have hne13 : (Value.slice A3 (s.row.length + 1) c3).ownBlock ≠ some w3.heap.size := by
        intro h
        rcases hat3 with h3 | h3 <;> rw [h3] at h
        · have := HLT.out _ h; omega
        · simp at h; omega
      have hlen : (chg s 4).row.length = s.row.length + 1 := by simp [chg]
      have GQ := Lib.hid hQ
      have GC := Lib.hid hcols
      have GB := Lib.hid hbl
      have GN := Lib.hid hne13
      have GL := Lib.hid hlen
      have GO := Lib.hid hown3
      obtain ⟨k5, f5⟩ := blk_rules hQ
      clear k1 f1 hQ hcols hbl hne13 hlen hown3 hg3 hat3 hx4
      go_wp2
      go_meet
      case rel =>
        refine ⟨A3, c3, P', d2, ?_, ?_, Rd.set_new H3C.out GC.out (Nat.le_refl _) _ _, bl_set GB.out (Nat.le_of_lt hz3) _⟩
        · rw [GL.out]
          exact blk_set_eq GQ.out 13 (.slice A3 (s.row.length + 1) c3) rfl
        · rw [GL.out]
          exact own_rd vl_len (Own.set_ GO.out GN.out _)
    · have ht : i.tmod 6 = 5 := (tmod6 hi0).trans hm
      clear hm hr6
      go_wp2
      go_meet
      case rel => exact ⟨P, c2, P', d2, blk_set_eq HD.out 15 (.bool (!s.fl)) rfl, H3.out.keep (bl_set B34.out (Nat.le_refl _) (.bool (!s.fl))), H3C.out.keep (bl_set B34.out (Nat.le_refl _) (.bool (!s.fl))), bl_set HB.out (Nat.le_of_lt hz3) _⟩
  case rest =>
    obtain ⟨A4, c4, A5, c5, hx, hrv, hrc, hbl⟩ := hcut
    have hfx := chg_flt (r := r) HF.out
    have hne := HN.out
    have hbd := HD6.out
    clear HN HD6
    clear HI HP HPC HOW HLT H3 H3C B34 HD HB HDIS B1 B2 L1 L2 HLL HGR
    generalize chg s r = x at hx hrv hrc hfx hne hbd
    have HX := Lib.hid hx
    have HV := Lib.hid hrv
    have HCC := Lib.hid hrc
    have HFX := Lib.hid hfx
    have HNE := Lib.hid hne
    have HBAD := Lib.hid hbd
    have HBL := Lib.hid hbl
    clear hx hrv hrc hfx hne hbd hbl
    go_wp2_with (refine wpl_load16 rfl _ rfl _ rfl rfl HX.out ?_)
    refine (sencode_yes x A4 A5 _ c4 _ c5 _ HV.out HCC.out HFX.out HBAD.out).mono ?_
    rintro e w6 ⟨rfl, hb6⟩
    have X6 := Lib.hid (blk_below HX.out hb6)
    have L6 := Lib.hid hb6
    clear hb6
    go_wp2_with fail
    refine wp_region_held_drew (S := fun w' => w'.heap[w3.heap.size]? = some (.cells (x.row16 (.slice A4 x.row.length c4) (.slice A5 x.cols.length c5)) 28 (0, 0)) ∧ Below wc.heap.size wc w') (by kernel_rfl) ⟨X6.out, bl_drew L6.out⟩ (fun hHeld => ?_)
    simp only [List.size_toArray, List.length_cons, List.length_nil]
    (refine held_take (i := 0) (v := .agg (x.row16 (.slice A4 x.row.length c4) (.slice A5 x.cols.length c5))) rfl (by kernel_rfl) (by kernel_rfl) (by kernel_rfl) (fun _ _ _ h => h) (by assumption) (by rfl) (fun w hSw => exec_load16 _ _ rfl rfl rfl hSw.1) ?_; (try simp only [Act.put, List.setIfInBounds_toArray, List.set_cons_zero, List.set_cons_succ]))
    (refine held_take (i := 1) (v := .agg (x.row16 (.slice A4 x.row.length c4) (.slice A5 x.cols.length c5))) rfl (by kernel_rfl) (by kernel_rfl) (by kernel_rfl) (fun _ _ _ h => h) (by assumption) (by rfl) (fun w hSw => exec_load16 _ _ rfl rfl rfl hSw.1) ?_; (try simp only [Act.put, List.setIfInBounds_toArray, List.set_cons_zero, List.set_cons_succ]))
    refine wpAnyH_ready (rs := [2]) (by kernel_rfl) (by simp) ?_
    refine held_step (i := 2) rfl (fun K hK => ?_) AllReadyH.nil
    go_simp
    refine (only_any x A4 A5 _ c4 _ c5 _ (HV.out.keep hHeld.2) (HCC.out.keep hHeld.2)).mono ?_
    rintro e W2 ⟨Q, qn, qc, Q', qm, qd, rfl, ho1, ho2, hb⟩
    replace ho1 := ho1.keep hb
    replace ho2 := ho2.keep hb
    refine hK.out _ _ ⟨blk_below hHeld.1 hb, bl_step hHeld.2 hb⟩ (fun hH => ?_)
    clear hK K hHeld hb
    have hHeld := hH
    clear hH
    (try simp only [Act.put, List.setIfInBounds_toArray, List.set_cons_zero, List.set_cons_succ])
    refine wpAnyH_ready (rs := [3]) (by kernel_rfl) (by simp) ?_
    refine held_step (i := 3) rfl (fun K hK => ?_) AllReadyH.nil
    go_simp
    refine (kStmt x (only x) A4 A5 Q Q' _ c4 _ c5 qn qc qm qd _ (HV.out.keep hHeld.2) (HCC.out.keep hHeld.2) ho1 ho2).mono ?_
    rintro e W3 ⟨rfl, hb⟩
    rw [HNE.out]
    refine hK.out _ _ ⟨blk_below hHeld.1 hb, bl_step hHeld.2 hb⟩ (fun hH => ?_)
    clear hK K hHeld hb ho1 ho2
    have hHeld := hH
    clear hH
    (try simp only [Act.put, List.setIfInBounds_toArray, List.set_cons_zero, List.set_cons_succ])
    (refine held_take (i := 4) (v := ?_) rfl (by kernel_rfl) (by kernel_rfl) (by kernel_rfl) (fun _ _ _ h => h) (by assumption) (by rfl) ?_ ?_; rotate_left; (focus (intro w hSw; (try dsimp only at hSw); go_simp; try with_reducible rfl)); (try simp only [Act.put, List.setIfInBounds_toArray, List.set_cons_zero, List.set_cons_succ]))
    refine wpAnyH_done (by kernel_rfl) ?_ _
    have X7 := Lib.hid hHeld.1
    have L7 := Lib.hid hHeld.2
    clear hHeld X6 L6
    go_wp2_with (refine wpl_load16 rfl _ rfl _ rfl rfl X7.out ?_)
    refine (rgoodS_any x A4 A5 _ c4 _ c5 _ (HV.out.keep L7.out) (HCC.out.keep L7.out)).mono ?_
    rintro e w8 ⟨rfl, hb8⟩
    rw [show rgoodS x = true from (goodS_eq x).symm.trans HBAD.out]
    have L8 := Lib.hid (bl_step L7.out hb8)
    clear hb8
    go_wp2_with fail
    refine (wakes_any _).mono ?_
    rintro e w10 ⟨rfl, hb10⟩
    go_wp2
    go_ret
    exact ⟨rfl, bl_step HBL.out (bl_step L8.out hb10)⟩
set_option maxRecDepth 100000 in
set_option maxHeartbeats 4000000 in
theorem others_f (s : St) (A A' : Option Addr) (n c m d r : Nat) (i : Int) (w : World) (hr : RdV w A n s.row) (hc : RdC w A' m s.cols) (hf : Flt s) (hi : i % 6 = r ∧ 0 ≤ i ∧ i ≤ 255 ∧ r < 6) (hL : largeSt s = false) (hg : goodS s = true) (hn : eqSt (chg s r) (only (chg s r)) = true) (hd6 : goodS (chg s r) = false) :
    Pure Try.prog 6 #[s.agg (.slice A n c) (.slice A' m d), .int .u8 i] w (.bool true) := by
  obtain rfl := hr.1
  obtain rfl := hc.1
  have HR := Lib.hid hr
  have HC := Lib.hid hc
  have HF := Lib.hid hf
  have HLL := Lib.hid hL
  have HGS := Lib.hid hg
  have HGR := Lib.hid ((goodS_eq s).symm.trans hg)
  have HI := Lib.hid hi
  have HN := Lib.hid hn
  have HD6 := Lib.hid hd6
  clear hn hd6
  clear hr hc hf hL hg hi
  go_enter Try.func6, Try.ntmps6
  go_wp2_with (refine wpl_load16 rfl _ rfl _ rfl rfl (blk_new w (.cells #[.int .i64 s.k, .string s.t, .string s.nm, .string s.c, .string s.se, .int .i64 s.v.k, .int .i64 s.v.n, .float .f64 s.v.f, .string s.v.s, .int .i64 s.w.k, .int .i64 s.w.n, .float .f64 s.w.f, .string s.w.s, .slice A s.row.length c, .slice A' s.cols.length d, .bool s.fl] 28)) ?_)
  refine (largeSt_any s A A' _ c _ d _ (HR.out.keep (by (repeat (first | assumption | exact Below.refl _ _ | refine bl_drewN ?_ _ | refine bl_drew ?_ | refine bl_alloc ?_ _ | refine bl_step ?_ (by assumption))))) (HC.out.keep (by (repeat (first | assumption | exact Below.refl _ _ | refine bl_drewN ?_ _ | refine bl_drew ?_ | refine bl_alloc ?_ _ | refine bl_step ?_ (by assumption)))))).mono ?_
  rintro e w1 ⟨rfl, hb1⟩
  have B1 := Lib.hid (blk_below (blk_new w _) hb1)
  have L1 := Lib.hid (show Below w.heap.size w w1 by (repeat (first | assumption | exact Below.refl _ _ | refine bl_drewN ?_ _ | refine bl_drew ?_ | refine bl_alloc ?_ _ | refine bl_step ?_ (by assumption))))
  have hz1 := blk_lt B1.out
  clear hb1
  rw [HLL.out]
  go_wp2_with (refine wpl_load16g (by rfl) _ rfl _ rfl rfl B1.out ?_)
  refine (rgoodS_any s A A' _ c _ d _ (HR.out.keep L1.out) (HC.out.keep L1.out)).mono ?_
  rintro e w2 ⟨rfl, hb2⟩
  have B2 := Lib.hid (blk_below B1.out hb2)
  have L2 := Lib.hid (bl_step L1.out hb2)
  have hz2 := blk_lt B2.out
  clear hb2 hz1
  rw [HGR.out]
  have hl1 := (small_all HLL.out).1
  have hl2 := (small_all HLL.out).2.1
  go_wp2_with (refine wpl_load16 rfl _ rfl _ rfl rfl B2.out ?_)
  refine (copySt2 s A A' _ c _ d _ (HR.out.keep L2.out) (HC.out.keep L2.out) hl1 hl2).mono ?_
  rintro e w3 ⟨P, c2, P', d2, rfl, hp, hpc, hb3, hown, hdis⟩
  have HDIS := Lib.hid hdis
  have hz22 := hz2
  clear hdis
  have L3 := bl_step L2.out hb3
  have hz3 : w.heap.size < w3.heap.size := Nat.lt_of_lt_of_le hz2 hb3.size
  clear hl1 hl2 hz2
  go_upto_block 0 with fail
  have D3 := blk_new w3 (.cells (s.row16 (.slice P s.row.length c2) (.slice P' s.cols.length d2)) 28)
  have B3 := bl_alloc (Below.refl w3.heap.size w3) (.cells (s.row16 (.slice P s.row.length c2) (.slice P' s.cols.length d2)) 28)
  have LL := bl_alloc L3 (.cells (s.row16 (.slice P s.row.length c2) (.slice P' s.cols.length d2)) 28)
  have HP3 := hp.keep (bl_alloc (Below.refl _ _) (.cells (s.row16 (.slice P s.row.length c2) (.slice P' s.cols.length d2)) 28))
  have HPC3 := hpc.keep (bl_alloc (Below.refl _ _) (.cells (s.row16 (.slice P s.row.length c2) (.slice P' s.cols.length d2)) 28))
  have HOW3 := hown.kept (bl_alloc (Below.refl _ _) (.cells (s.row16 (.slice P s.row.length c2) (.slice P' s.cols.length d2)) 28))
  have hlt3 : ∀ g, (Value.slice P s.row.length c2).ownBlock = some g → g < w3.heap.size := fun g hg => (hown.lt g hg).2
  generalize w3.alloc (.cells (s.row16 (.slice P s.row.length c2) (.slice P' s.cols.length d2)) 28) = W4 at D3 LL B3 HP3 HPC3 HOW3 ⊢
  have HD := Lib.hid D3
  have HB := Lib.hid LL
  have HP := Lib.hid HP3
  have HPC := Lib.hid HPC3
  have HOW := Lib.hid HOW3
  have HLT := Lib.hid hlt3
  have hz4 := blk_lt D3
  have H3 := Lib.hid hp
  have H3C := Lib.hid hpc
  have B34 := Lib.hid B3
  clear B3 D3 LL HP3 HPC3 HOW3 hp hpc hown hb3 L3 hlt3
  go_cut [] from 18 (fun wc => ∃ A4 c4 A5 c5, wc.heap[w3.heap.size]? = some (.cells ((chg s r).row16 (.slice A4 (chg s r).row.length c4) (.slice A5 (chg s r).cols.length c5)) 28 (0, 0)) ∧ RdV wc A4 (chg s r).row.length (chg s r).row ∧ RdC wc A5 (chg s r).cols.length (chg s r).cols ∧ Below w.heap.size w wc)
  case first =>
    obtain ⟨k1, f1⟩ := blk_rules HD.out
    obtain ⟨hm, hi0, hi255, hr6⟩ := HI.out
    obtain ⟨hq1, hq2, hq3, hq4, hq5⟩ := small_all HLL.out
    rcases (show r = 0 ∨ r = 1 ∨ r = 2 ∨ r = 3 ∨ r = 4 ∨ r = 5 by omega) with rfl | rfl | rfl | rfl | rfl | rfl
    · have ht : i.tmod 6 = 0 := (tmod6 hi0).trans hm
      clear hm hr6
      go_wp2
      go_meet
      case rel => exact ⟨P, c2, P', d2, blk_set_eq HD.out 2 (.string (s.nm ++ aB)) rfl, H3.out.keep (bl_set B34.out (Nat.le_refl _) (.string (s.nm ++ aB))), H3C.out.keep (bl_set B34.out (Nat.le_refl _) (.string (s.nm ++ aB))), bl_set HB.out (Nat.le_of_lt hz3) _⟩
    · have ht : i.tmod 6 = 1 := (tmod6 hi0).trans hm
      clear hm hr6
      go_wp2
      go_meet
      case rel => exact ⟨P, c2, P', d2, blk_set_eq HD.out 4 (.string (s.se ++ aB)) rfl, H3.out.keep (bl_set B34.out (Nat.le_refl _) (.string (s.se ++ aB))), H3C.out.keep (bl_set B34.out (Nat.le_refl _) (.string (s.se ++ aB))), bl_set HB.out (Nat.le_of_lt hz3) _⟩
    · have ht : i.tmod 6 = 2 := (tmod6 hi0).trans hm
      clear hm hr6
      go_wp2
      go_meet
      case rel => exact ⟨P, c2, P', d2, blk_set_eq HD.out 6 (.int .i64 (wrap64 (s.v.n + 1))) rfl, H3.out.keep (bl_set B34.out (Nat.le_refl _) (.int .i64 (wrap64 (s.v.n + 1)))), H3C.out.keep (bl_set B34.out (Nat.le_refl _) (.int .i64 (wrap64 (s.v.n + 1)))), bl_set HB.out (Nat.le_of_lt hz3) _⟩
    · have ht : i.tmod 6 = 3 := (tmod6 hi0).trans hm
      clear hm hr6
      go_wp2
      go_meet
      case rel => exact ⟨P, c2, P', d2, blk_set_eq HD.out 12 (.string (s.w.s ++ aB)) rfl, H3.out.keep (bl_set B34.out (Nat.le_refl _) (.string (s.w.s ++ aB))), H3C.out.keep (bl_set B34.out (Nat.le_refl _) (.string (s.w.s ++ aB))), bl_set HB.out (Nat.le_of_lt hz3) _⟩
    · have ht : i.tmod 6 = 4 := (tmod6 hi0).trans hm
      clear hm hr6
      go_wp2_with (at_builtin; go_loud (refine wp_app (cs := Vl.cs) (size := 4) vl_len (by omega) vl_one rfl (.tmp 51) (.tmp 53) _ rfl 0 24 _ 40 Try.uVals Try.iVal rfl (.slice P s.row.length c2) s.row rfl ((HOW.out.lower (Nat.zero_le _)).alloc_ _) (some ⟨W4.heap.size, 0, none⟩) 1 1 [nov] rfl (rd_one rfl (blk_new W4 _)) (by omega) (by omega) (Nat.zero_le _) ?_))
      intro A3 c3 w5 hown3 hg3 hat3
      have hx4 : some w3.heap.size ≠ (Value.slice P s.row.length c2).ownBlock := by intro h; have := HLT.out _ h.symm; omega
      have hQ := blk_grown (blk_old HD.out _) hg3 hx4
      have hcols := Rd.grown (HPC.out.keep (bl_alloc (Below.refl _ _) _)) hg3 (fun p hp h => by
        refine HDIS.out _ h.symm ?_
        rw [hp]; rfl)
      have hbl : Below w.heap.size w w5 := below_own (bl_alloc HB.out _) hg3 (fun k hk => by have := (HOW.out.lt k hk).1; omega)
      have hne13 : (Value.slice A3 (s.row.length + 1) c3).ownBlock ≠ some w3.heap.size := by
        intro h
        rcases hat3 with h3 | h3 <;> rw [h3] at h
        · have := HLT.out _ h; omega
        · simp at h; omega
      have hlen : (chg s 4).row.length = s.row.length + 1 := by simp [chg]
      have GQ := Lib.hid hQ
      have GC := Lib.hid hcols
      have GB := Lib.hid hbl
      have GN := Lib.hid hne13
      have GL := Lib.hid hlen
      have GO := Lib.hid hown3
      obtain ⟨k5, f5⟩ := blk_rules hQ
      clear k1 f1 hQ hcols hbl hne13 hlen hown3 hg3 hat3 hx4
      go_wp2
      go_meet
      case rel =>
        refine ⟨A3, c3, P', d2, ?_, ?_, Rd.set_new H3C.out GC.out (Nat.le_refl _) _ _, bl_set GB.out (Nat.le_of_lt hz3) _⟩
        · rw [GL.out]
          exact blk_set_eq GQ.out 13 (.slice A3 (s.row.length + 1) c3) rfl
        · rw [GL.out]
          exact own_rd vl_len (Own.set_ GO.out GN.out _)
    · have ht : i.tmod 6 = 5 := (tmod6 hi0).trans hm
      clear hm hr6
      go_wp2
      go_meet
      case rel => exact ⟨P, c2, P', d2, blk_set_eq HD.out 15 (.bool (!s.fl)) rfl, H3.out.keep (bl_set B34.out (Nat.le_refl _) (.bool (!s.fl))), H3C.out.keep (bl_set B34.out (Nat.le_refl _) (.bool (!s.fl))), bl_set HB.out (Nat.le_of_lt hz3) _⟩
  case rest =>
    obtain ⟨A4, c4, A5, c5, hx, hrv, hrc, hbl⟩ := hcut
    have hfx := chg_flt (r := r) HF.out
    have hne := HN.out
    have hbd := HD6.out
    clear HN HD6
    clear HI HP HPC HOW HLT H3 H3C B34 HD HB HDIS B1 B2 L1 L2 HLL HGR
    generalize chg s r = x at hx hrv hrc hfx hne hbd
    have HX := Lib.hid hx
    have HV := Lib.hid hrv
    have HCC := Lib.hid hrc
    have HFX := Lib.hid hfx
    have HNE := Lib.hid hne
    have HBAD := Lib.hid hbd
    have HBL := Lib.hid hbl
    clear hx hrv hrc hfx hne hbd hbl
    go_wp2_with (refine wpl_load16 rfl _ rfl _ rfl rfl HX.out ?_)
    refine (sencode_no x A4 A5 _ c4 _ c5 _ HV.out HCC.out HBAD.out).mono ?_
    rintro e w6 ⟨rfl, hb6⟩
    have X6 := Lib.hid (blk_below HX.out hb6)
    have L6 := Lib.hid hb6
    clear hb6
    go_wp2_with fail
    refine wp_region_held_drew (S := fun w' => w'.heap[w3.heap.size]? = some (.cells (x.row16 (.slice A4 x.row.length c4) (.slice A5 x.cols.length c5)) 28 (0, 0)) ∧ Below wc.heap.size wc w') (by kernel_rfl) ⟨X6.out, bl_drew L6.out⟩ (fun hHeld => ?_)
    simp only [List.size_toArray, List.length_cons, List.length_nil]
    (refine held_take (i := 0) (v := .agg (x.row16 (.slice A4 x.row.length c4) (.slice A5 x.cols.length c5))) rfl (by kernel_rfl) (by kernel_rfl) (by kernel_rfl) (fun _ _ _ h => h) (by assumption) (by rfl) (fun w hSw => exec_load16 _ _ rfl rfl rfl hSw.1) ?_; (try simp only [Act.put, List.setIfInBounds_toArray, List.set_cons_zero, List.set_cons_succ]))
    (refine held_take (i := 1) (v := .agg (x.row16 (.slice A4 x.row.length c4) (.slice A5 x.cols.length c5))) rfl (by kernel_rfl) (by kernel_rfl) (by kernel_rfl) (fun _ _ _ h => h) (by assumption) (by rfl) (fun w hSw => exec_load16 _ _ rfl rfl rfl hSw.1) ?_; (try simp only [Act.put, List.setIfInBounds_toArray, List.set_cons_zero, List.set_cons_succ]))
    refine wpAnyH_ready (rs := [2]) (by kernel_rfl) (by simp) ?_
    refine held_step (i := 2) rfl (fun K hK => ?_) AllReadyH.nil
    go_simp
    refine (only_any x A4 A5 _ c4 _ c5 _ (HV.out.keep hHeld.2) (HCC.out.keep hHeld.2)).mono ?_
    rintro e W2 ⟨Q, qn, qc, Q', qm, qd, rfl, ho1, ho2, hb⟩
    replace ho1 := ho1.keep hb
    replace ho2 := ho2.keep hb
    refine hK.out _ _ ⟨blk_below hHeld.1 hb, bl_step hHeld.2 hb⟩ (fun hH => ?_)
    clear hK K hHeld hb
    have hHeld := hH
    clear hH
    (try simp only [Act.put, List.setIfInBounds_toArray, List.set_cons_zero, List.set_cons_succ])
    refine wpAnyH_ready (rs := [3]) (by kernel_rfl) (by simp) ?_
    refine held_step (i := 3) rfl (fun K hK => ?_) AllReadyH.nil
    go_simp
    refine (kStmt x (only x) A4 A5 Q Q' _ c4 _ c5 qn qc qm qd _ (HV.out.keep hHeld.2) (HCC.out.keep hHeld.2) ho1 ho2).mono ?_
    rintro e W3 ⟨rfl, hb⟩
    rw [HNE.out]
    refine hK.out _ _ ⟨blk_below hHeld.1 hb, bl_step hHeld.2 hb⟩ (fun hH => ?_)
    clear hK K hHeld hb ho1 ho2
    have hHeld := hH
    clear hH
    (try simp only [Act.put, List.setIfInBounds_toArray, List.set_cons_zero, List.set_cons_succ])
    (refine held_take (i := 4) (v := ?_) rfl (by kernel_rfl) (by kernel_rfl) (by kernel_rfl) (fun _ _ _ h => h) (by assumption) (by rfl) ?_ ?_; rotate_left; (focus (intro w hSw; (try dsimp only at hSw); go_simp; try with_reducible rfl)); (try simp only [Act.put, List.setIfInBounds_toArray, List.set_cons_zero, List.set_cons_succ]))
    refine wpAnyH_done (by kernel_rfl) ?_ _
    have X7 := Lib.hid hHeld.1
    have L7 := Lib.hid hHeld.2
    clear hHeld X6 L6
    go_wp2_with (refine wpl_load16 rfl _ rfl _ rfl rfl X7.out ?_)
    refine (rgoodS_any x A4 A5 _ c4 _ c5 _ (HV.out.keep L7.out) (HCC.out.keep L7.out)).mono ?_
    rintro e w8 ⟨rfl, hb8⟩
    rw [show rgoodS x = false from (goodS_eq x).symm.trans HBAD.out]
    have L8 := Lib.hid (bl_step L7.out hb8)
    clear hb8
    go_wp2_with fail
    refine (wakes_any _).mono ?_
    rintro e w10 ⟨rfl, hb10⟩
    go_wp2
    go_ret
    exact ⟨rfl, bl_step HBL.out (bl_step L8.out hb10)⟩
theorem others_any (s : St) (A A' : Option Addr) (n c m d : Nat) (i : Int) (w : World) (hr : RdV w A n s.row) (hc : RdC w A' m s.cols) (hf : Flt s) (h0 : 0 ≤ i) (h1 : i ≤ 255) :
    Pure Try.prog 6 #[s.agg (.slice A n c) (.slice A' m d), .int .u8 i] w (.bool true) := by
  have hi : i % 6 = ((i % 6).toNat : Int) ∧ 0 ≤ i ∧ i ≤ 255 ∧ (i % 6).toNat < 6 := by omega
  cases hL : largeSt s with
  | true => exact others_l s A A' n c m d _ i w hr hc hf hi hL
  | false =>
    cases hg : goodS s with
    | false => exact others_b s A A' n c m d _ i w hr hc hf hi hL hg
    | true =>
      cases hn : eqSt (chg s (i % 6).toNat) (only (chg s (i % 6).toNat)) with
      | false => exact others_n s A A' n c m d _ i w hr hc hf hi hL hg hn
      | true =>
        cases hd : goodS (chg s (i % 6).toNat) with
        | true => exact others_t s A A' n c m d _ i w hr hc hf hi hL hg hn hd
        | false => exact others_f s A A' n c m d _ i w hr hc hf hi hL hg hn hd
end Go.Proofs.Ytbmaeaknlpgdmaa
