/- StmtBack answers true. -/
import Derived.Test.YtbmaeaknlpgdmaaA36
import Derived.Test.YtbmaeaknlpgdmaaA44
import Derived.Test.YtbmaeaknlpgdmaaA08
import Derived.Test.YtbmaeaknlpgdmaaA09
import Derived.Test.YtbmaeaknlpgdmaaA06
import Derived.Test.YtbmaeaknlpgdmaaA41
namespace Go.Proofs.Ytbmaeaknlpgdmaa
open Go.RowKit
set_option linter.unusedVariables false
set_option linter.unusedSimpArgs false
set_option linter.constructorNameAsVariable false
theorem small_lists3 {s : St} (h : largeSt s = false) : s.row.length ≤ 50 ∧ s.cols.length ≤ 50 := by
  simp only [largeSt, largeR, largeCs, Bool.or_eq_false_iff, decide_eq_false_iff_not] at h
  omega
set_option maxRecDepth 100000 in
set_option maxHeartbeats 4000000 in
theorem back_l (s : St) (b : ByteArray) (A A' : Option Addr) (n c m d : Nat) (w : World) (hr : RdV w A n s.row) (hc : RdC w A' m s.cols) (hf : Flt s) (hn : NumS s) (hL : largeSt s = true) :
    Pure Try.prog 3 #[s.agg (.slice A n c) (.slice A' m d), .string b] w (.bool true) := by
  obtain rfl := hr.1
  obtain rfl := hc.1
  have HR := Lib.hid hr
  have HC := Lib.hid hc
  have HF := Lib.hid hf
  have HNS := Lib.hid hn
  have HLL := Lib.hid hL
  clear hr hc hf hn hL
  go_enter Try.func3, Try.ntmps3
  go_wp2_with (refine wpl_load16 rfl _ rfl _ rfl rfl (blk_new w (.cells #[.int .i64 s.k, .string s.t, .string s.nm, .string s.c, .string s.se, .int .i64 s.v.k, .int .i64 s.v.n, .float .f64 s.v.f, .string s.v.s, .int .i64 s.w.k, .int .i64 s.w.n, .float .f64 s.w.f, .string s.w.s, .slice A s.row.length c, .slice A' s.cols.length d, .bool s.fl] 28)) ?_)
  refine (largeSt_any s A A' _ c _ d _ (HR.out.keep (by (repeat (first | assumption | exact Below.refl _ _ | refine bl_drewN ?_ _ | refine bl_drew ?_ | refine bl_alloc ?_ _ | refine bl_step ?_ (by assumption))))) (HC.out.keep (by (repeat (first | assumption | exact Below.refl _ _ | refine bl_drewN ?_ _ | refine bl_drew ?_ | refine bl_alloc ?_ _ | refine bl_step ?_ (by assumption)))))).mono ?_
  rintro e w1 ⟨rfl, hb1⟩
  have B1 := Lib.hid (blk_below (blk_new w _) hb1)
  have L1 := Lib.hid (show Below w.heap.size w w1 by (repeat (first | assumption | exact Below.refl _ _ | refine bl_drewN ?_ _ | refine bl_drew ?_ | refine bl_alloc ?_ _ | refine bl_step ?_ (by assumption))))
  have hz1 := blk_lt B1.out
  clear hb1
  rw [HLL.out]
  go_wp2_with fail
  refine (wakes_any _).mono ?_
  rintro e w9 ⟨rfl, hb9⟩
  go_wp2
  go_ret
  exact ⟨rfl, bl_step L1.out hb9⟩
set_option maxRecDepth 100000 in
set_option maxHeartbeats 4000000 in
theorem back_b (s : St) (b : ByteArray) (A A' : Option Addr) (n c m d : Nat) (w : World) (hr : RdV w A n s.row) (hc : RdC w A' m s.cols) (hf : Flt s) (hn : NumS s) (hL : largeSt s = false) (hb : ¬ b.size ≤ 20000) :
    Pure Try.prog 3 #[s.agg (.slice A n c) (.slice A' m d), .string b] w (.bool true) := by
  obtain rfl := hr.1
  obtain rfl := hc.1
  have HR := Lib.hid hr
  have HC := Lib.hid hc
  have HF := Lib.hid hf
  have HNS := Lib.hid hn
  have HLL := Lib.hid hL
  have HB20 := Lib.hid hb
  clear hr hc hf hn hL hb
  go_enter Try.func3, Try.ntmps3
  go_wp2_with (refine wpl_load16 rfl _ rfl _ rfl rfl (blk_new w (.cells #[.int .i64 s.k, .string s.t, .string s.nm, .string s.c, .string s.se, .int .i64 s.v.k, .int .i64 s.v.n, .float .f64 s.v.f, .string s.v.s, .int .i64 s.w.k, .int .i64 s.w.n, .float .f64 s.w.f, .string s.w.s, .slice A s.row.length c, .slice A' s.cols.length d, .bool s.fl] 28)) ?_)
  refine (largeSt_any s A A' _ c _ d _ (HR.out.keep (by (repeat (first | assumption | exact Below.refl _ _ | refine bl_drewN ?_ _ | refine bl_drew ?_ | refine bl_alloc ?_ _ | refine bl_step ?_ (by assumption))))) (HC.out.keep (by (repeat (first | assumption | exact Below.refl _ _ | refine bl_drewN ?_ _ | refine bl_drew ?_ | refine bl_alloc ?_ _ | refine bl_step ?_ (by assumption)))))).mono ?_
  rintro e w1 ⟨rfl, hb1⟩
  have B1 := Lib.hid (blk_below (blk_new w _) hb1)
  have L1 := Lib.hid (show Below w.heap.size w w1 by (repeat (first | assumption | exact Below.refl _ _ | refine bl_drewN ?_ _ | refine bl_drew ?_ | refine bl_alloc ?_ _ | refine bl_step ?_ (by assumption))))
  have hz1 := blk_lt B1.out
  clear hb1
  rw [HLL.out]
  have hb20 : (20000 : Int) < (b.size : Int) := by have := HB20.out; omega
  go_wp2_with fail
  refine (wakes_any _).mono ?_
  rintro e w9 ⟨rfl, hb9⟩
  go_wp2
  go_ret
  exact ⟨rfl, bl_step L1.out hb9⟩
set_option maxRecDepth 100000 in
set_option maxHeartbeats 4000000 in
theorem back_tn (s : St) (b : ByteArray) (A A' : Option Addr) (n c m d : Nat) (w : World) (hr : RdV w A n s.row) (hc : RdC w A' m s.cols) (hf : Flt s) (hn : NumS s) (hL : largeSt s = false) (hb : b.size ≤ 20000) (hg : goodS s = true) (hd : decS b = none) :
    Pure Try.prog 3 #[s.agg (.slice A n c) (.slice A' m d), .string b] w (.bool true) := by
  obtain rfl := hr.1
  obtain rfl := hc.1
  have HR := Lib.hid hr
  have HC := Lib.hid hc
  have HF := Lib.hid hf
  have HNS := Lib.hid hn
  have HLL := Lib.hid hL
  have HB20 := Lib.hid hb
  have HGS := Lib.hid hg
  have HDR := Lib.hid (decR_none hd)
  clear hr hc hf hn hL hb hg hd
  go_enter Try.func3, Try.ntmps3
  go_wp2_with (refine wpl_load16 rfl _ rfl _ rfl rfl (blk_new w (.cells #[.int .i64 s.k, .string s.t, .string s.nm, .string s.c, .string s.se, .int .i64 s.v.k, .int .i64 s.v.n, .float .f64 s.v.f, .string s.v.s, .int .i64 s.w.k, .int .i64 s.w.n, .float .f64 s.w.f, .string s.w.s, .slice A s.row.length c, .slice A' s.cols.length d, .bool s.fl] 28)) ?_)
  refine (largeSt_any s A A' _ c _ d _ (HR.out.keep (by (repeat (first | assumption | exact Below.refl _ _ | refine bl_drewN ?_ _ | refine bl_drew ?_ | refine bl_alloc ?_ _ | refine bl_step ?_ (by assumption))))) (HC.out.keep (by (repeat (first | assumption | exact Below.refl _ _ | refine bl_drewN ?_ _ | refine bl_drew ?_ | refine bl_alloc ?_ _ | refine bl_step ?_ (by assumption)))))).mono ?_
  rintro e w1 ⟨rfl, hb1⟩
  have B1 := Lib.hid (blk_below (blk_new w _) hb1)
  have L1 := Lib.hid (show Below w.heap.size w w1 by (repeat (first | assumption | exact Below.refl _ _ | refine bl_drewN ?_ _ | refine bl_drew ?_ | refine bl_alloc ?_ _ | refine bl_step ?_ (by assumption))))
  have hz1 := blk_lt B1.out
  clear hb1
  rw [HLL.out]
  have hl1 := (small_lists3 HLL.out).1
  have hl2 := (small_lists3 HLL.out).2
  have hb20 : ¬ ((20000 : Int) < (b.size : Int)) := by have := HB20.out; omega
  go_wp2_with (refine wpl_load16 rfl _ rfl _ rfl rfl B1.out ?_)
  refine (copySt s A A' _ c _ d _ (HR.out.keep L1.out) (HC.out.keep L1.out) hl1 hl2).mono ?_
  rintro e w2 ⟨P, c2, P', d2, rfl, hp, hpc, hb2⟩
  have B2 := Lib.hid (blk_below B1.out hb2)
  have L2 := Lib.hid (bl_step L1.out hb2)
  have HP := Lib.hid hp
  have HPC := Lib.hid hpc
  clear hb2 hp hpc hl1 hl2 hb20
  go_wp2_with fail
  refine (sencode_yes s P P' _ c2 _ d2 _ HP.out HPC.out HF.out HGS.out).mono ?_
  rintro e w3 ⟨rfl, hb3⟩
  have B3 := Lib.hid (blk_below B2.out hb3)
  have L3 := Lib.hid (bl_step L2.out hb3)
  clear hb3
  have HDE := Lib.hid (decR_some (decS_enc HGS.out HNS.out))
  have hsz := encS_size HF.out HGS.out
  go_wp2_with fail
  refine (sdec_any (encS s) _ (by omega)).mono ?_
  rintro e w4 ⟨Q, qc, Q', qd, rfl, hq1, hq2, hb4⟩
  rw [HDE.out] at hq1 hq2 ⊢
  have B4 := blk_old (blk_below B3.out hb4) (.cells (s.row16 (.slice Q s.row.length qc) (.slice Q' s.cols.length qd)) 28)
  have L4 := bl_alloc (bl_step L3.out hb4) (.cells (s.row16 (.slice Q s.row.length qc) (.slice Q' s.cols.length qd)) 28)
  have T4 := blk_new w4 (.cells (s.row16 (.slice Q s.row.length qc) (.slice Q' s.cols.length qd)) 28)
  have Q1 := Lib.hid (show RdV _ Q s.row.length s.row from hq1.keep (bl_alloc (Below.refl _ _) (.cells (s.row16 (.slice Q s.row.length qc) (.slice Q' s.cols.length qd)) 28)))
  have Q2 := Lib.hid (show RdC _ Q' s.cols.length s.cols from hq2.keep (bl_alloc (Below.refl _ _) (.cells (s.row16 (.slice Q s.row.length qc) (.slice Q' s.cols.length qd)) 28)))
  have HB4 := Lib.hid B4
  have HL4 := Lib.hid L4
  have HT4 := Lib.hid T4
  clear hb4 hq1 hq2 hsz B4 L4 T4
  go_wp2_with (first | (refine wpl_load16g (by rfl) _ rfl _ rfl rfl HB4.out ?_) | (refine wpl_load16g (by rfl) _ rfl _ rfl rfl HT4.out ?_))
  refine (kStmt s s A A' Q Q' _ c _ d _ qc _ qd _ (HR.out.keep HL4.out) (HC.out.keep HL4.out) Q1.out Q2.out).mono ?_
  rintro e w5 ⟨rfl, hb5⟩
  rw [show eqSt s s = true by rw [eqSt_iff]; exact decide_eq_true rfl]
  have LX := Lib.hid (bl_step HL4.out hb5)
  clear hb5
  go_wp2_with fail
  refine (sdec_any b _ (by have := HB20.out; omega)).mono ?_
  rintro e y1 ⟨R, rc, R', rd, rfl, hr1, hr2, hy1⟩
  have Y1 := Lib.hid (bl_step LX.out hy1)
  clear hy1 hr1 hr2
  rw [HDR.out]
  go_wp2_with fail
  have Z1 := Lib.hid (blk_new y1 (.cells ((zeroSt 0).row16 (.slice R (zeroSt 0).row.length rc) (.slice R' (zeroSt 0).cols.length rd)) 28))
  refine (wakes_any _).mono ?_
  rintro e y2 ⟨rfl, hy2⟩
  go_wp2
  go_ret
  exact ⟨rfl, bl_step (bl_alloc Y1.out _) hy2⟩
set_option maxRecDepth 100000 in
set_option maxHeartbeats 4000000 in
theorem back_ts (s : St) (b : ByteArray) (A A' : Option Addr) (n c m d : Nat) (w : World) (hr : RdV w A n s.row) (hc : RdC w A' m s.cols) (hf : Flt s) (hn : NumS s) (hL : largeSt s = false) (hb : b.size ≤ 20000) (hg : goodS s = true) (t : St) (hd : decS b = some t) :
    Pure Try.prog 3 #[s.agg (.slice A n c) (.slice A' m d), .string b] w (.bool true) := by
  obtain rfl := hr.1
  obtain rfl := hc.1
  have HR := Lib.hid hr
  have HC := Lib.hid hc
  have HF := Lib.hid hf
  have HNS := Lib.hid hn
  have HLL := Lib.hid hL
  have HB20 := Lib.hid hb
  have HGS := Lib.hid hg
  have HDR := Lib.hid (decR_some hd)
  have HTF := Lib.hid (decS_flt hd)
  have HTB := Lib.hid (decS_back hd).1
  have HTG := Lib.hid (decS_back hd).2
  clear hr hc hf hn hL hb hg hd
  go_enter Try.func3, Try.ntmps3
  go_wp2_with (refine wpl_load16 rfl _ rfl _ rfl rfl (blk_new w (.cells #[.int .i64 s.k, .string s.t, .string s.nm, .string s.c, .string s.se, .int .i64 s.v.k, .int .i64 s.v.n, .float .f64 s.v.f, .string s.v.s, .int .i64 s.w.k, .int .i64 s.w.n, .float .f64 s.w.f, .string s.w.s, .slice A s.row.length c, .slice A' s.cols.length d, .bool s.fl] 28)) ?_)
  refine (largeSt_any s A A' _ c _ d _ (HR.out.keep (by (repeat (first | assumption | exact Below.refl _ _ | refine bl_drewN ?_ _ | refine bl_drew ?_ | refine bl_alloc ?_ _ | refine bl_step ?_ (by assumption))))) (HC.out.keep (by (repeat (first | assumption | exact Below.refl _ _ | refine bl_drewN ?_ _ | refine bl_drew ?_ | refine bl_alloc ?_ _ | refine bl_step ?_ (by assumption)))))).mono ?_
  rintro e w1 ⟨rfl, hb1⟩
  have B1 := Lib.hid (blk_below (blk_new w _) hb1)
  have L1 := Lib.hid (show Below w.heap.size w w1 by (repeat (first | assumption | exact Below.refl _ _ | refine bl_drewN ?_ _ | refine bl_drew ?_ | refine bl_alloc ?_ _ | refine bl_step ?_ (by assumption))))
  have hz1 := blk_lt B1.out
  clear hb1
  rw [HLL.out]
  have hl1 := (small_lists3 HLL.out).1
  have hl2 := (small_lists3 HLL.out).2
  have hb20 : ¬ ((20000 : Int) < (b.size : Int)) := by have := HB20.out; omega
  go_wp2_with (refine wpl_load16 rfl _ rfl _ rfl rfl B1.out ?_)
  refine (copySt s A A' _ c _ d _ (HR.out.keep L1.out) (HC.out.keep L1.out) hl1 hl2).mono ?_
  rintro e w2 ⟨P, c2, P', d2, rfl, hp, hpc, hb2⟩
  have B2 := Lib.hid (blk_below B1.out hb2)
  have L2 := Lib.hid (bl_step L1.out hb2)
  have HP := Lib.hid hp
  have HPC := Lib.hid hpc
  clear hb2 hp hpc hl1 hl2 hb20
  go_wp2_with fail
  refine (sencode_yes s P P' _ c2 _ d2 _ HP.out HPC.out HF.out HGS.out).mono ?_
  rintro e w3 ⟨rfl, hb3⟩
  have B3 := Lib.hid (blk_below B2.out hb3)
  have L3 := Lib.hid (bl_step L2.out hb3)
  clear hb3
  have HDE := Lib.hid (decR_some (decS_enc HGS.out HNS.out))
  have hsz := encS_size HF.out HGS.out
  go_wp2_with fail
  refine (sdec_any (encS s) _ (by omega)).mono ?_
  rintro e w4 ⟨Q, qc, Q', qd, rfl, hq1, hq2, hb4⟩
  rw [HDE.out] at hq1 hq2 ⊢
  have B4 := blk_old (blk_below B3.out hb4) (.cells (s.row16 (.slice Q s.row.length qc) (.slice Q' s.cols.length qd)) 28)
  have L4 := bl_alloc (bl_step L3.out hb4) (.cells (s.row16 (.slice Q s.row.length qc) (.slice Q' s.cols.length qd)) 28)
  have T4 := blk_new w4 (.cells (s.row16 (.slice Q s.row.length qc) (.slice Q' s.cols.length qd)) 28)
  have Q1 := Lib.hid (show RdV _ Q s.row.length s.row from hq1.keep (bl_alloc (Below.refl _ _) (.cells (s.row16 (.slice Q s.row.length qc) (.slice Q' s.cols.length qd)) 28)))
  have Q2 := Lib.hid (show RdC _ Q' s.cols.length s.cols from hq2.keep (bl_alloc (Below.refl _ _) (.cells (s.row16 (.slice Q s.row.length qc) (.slice Q' s.cols.length qd)) 28)))
  have HB4 := Lib.hid B4
  have HL4 := Lib.hid L4
  have HT4 := Lib.hid T4
  clear hb4 hq1 hq2 hsz B4 L4 T4
  go_wp2_with (first | (refine wpl_load16g (by rfl) _ rfl _ rfl rfl HB4.out ?_) | (refine wpl_load16g (by rfl) _ rfl _ rfl rfl HT4.out ?_))
  refine (kStmt s s A A' Q Q' _ c _ d _ qc _ qd _ (HR.out.keep HL4.out) (HC.out.keep HL4.out) Q1.out Q2.out).mono ?_
  rintro e w5 ⟨rfl, hb5⟩
  rw [show eqSt s s = true by rw [eqSt_iff]; exact decide_eq_true rfl]
  have LX := Lib.hid (bl_step HL4.out hb5)
  clear hb5
  go_wp2_with fail
  refine (sdec_any b _ (by have := HB20.out; omega)).mono ?_
  rintro e y1 ⟨R, rc, R', rd, rfl, hr1, hr2, hy1⟩
  rw [HDR.out] at hr1 hr2 ⊢
  have Y1 := Lib.hid (bl_step LX.out hy1)
  have Z1 := Lib.hid (blk_new y1 (.cells (t.row16 (.slice R t.row.length rc) (.slice R' t.cols.length rd)) 28))
  have V1 := Lib.hid (show RdV _ R t.row.length t.row from hr1.keep (bl_alloc (Below.refl _ _) (.cells (t.row16 (.slice R t.row.length rc) (.slice R' t.cols.length rd)) 28)))
  have V2 := Lib.hid (show RdC _ R' t.cols.length t.cols from hr2.keep (bl_alloc (Below.refl _ _) (.cells (t.row16 (.slice R t.row.length rc) (.slice R' t.cols.length rd)) 28)))
  have Y2 := Lib.hid (bl_alloc Y1.out (.cells (t.row16 (.slice R t.row.length rc) (.slice R' t.cols.length rd)) 28))
  clear hy1 hr1 hr2
  go_wp2_with (refine wpl_load16 rfl _ rfl _ rfl rfl Z1.out ?_)
  refine (sencode_yes t R R' _ rc _ rd _ V1.out V2.out HTF.out HTG.out).mono ?_
  rintro e y3 ⟨rfl, hy3⟩
  rw [HTB.out]
  have Z3 := Lib.hid (blk_below Z1.out hy3)
  have Y3 := Lib.hid (bl_step Y2.out hy3)
  have V3 := Lib.hid (V1.out.keep hy3)
  have V4 := Lib.hid (V2.out.keep hy3)
  clear hy3
  go_wp2_with (refine wpl_load16g (by rfl) _ rfl _ rfl rfl Z3.out ?_)
  refine (goodS_any t R R' _ rc _ rd _ V3.out V4.out).mono ?_
  rintro e y4 ⟨rfl, hy4⟩
  have Y4 := Lib.hid (bl_step Y3.out hy4)
  clear hy4
  rw [HTG.out]
  go_wp2_with fail
  refine (wakes_any _).mono ?_
  rintro e y5 ⟨rfl, hy5⟩
  go_wp2
  go_ret
  exact ⟨rfl, bl_step Y4.out hy5⟩
set_option maxRecDepth 100000 in
set_option maxHeartbeats 4000000 in
theorem back_fn (s : St) (b : ByteArray) (A A' : Option Addr) (n c m d : Nat) (w : World) (hr : RdV w A n s.row) (hc : RdC w A' m s.cols) (hf : Flt s) (hn : NumS s) (hL : largeSt s = false) (hb : b.size ≤ 20000) (hg : goodS s = false) (hd : decS b = none) :
    Pure Try.prog 3 #[s.agg (.slice A n c) (.slice A' m d), .string b] w (.bool true) := by
  obtain rfl := hr.1
  obtain rfl := hc.1
  have HR := Lib.hid hr
  have HC := Lib.hid hc
  have HF := Lib.hid hf
  have HNS := Lib.hid hn
  have HLL := Lib.hid hL
  have HB20 := Lib.hid hb
  have HGS := Lib.hid hg
  have HDR := Lib.hid (decR_none hd)
  clear hr hc hf hn hL hb hg hd
  go_enter Try.func3, Try.ntmps3
  go_wp2_with (refine wpl_load16 rfl _ rfl _ rfl rfl (blk_new w (.cells #[.int .i64 s.k, .string s.t, .string s.nm, .string s.c, .string s.se, .int .i64 s.v.k, .int .i64 s.v.n, .float .f64 s.v.f, .string s.v.s, .int .i64 s.w.k, .int .i64 s.w.n, .float .f64 s.w.f, .string s.w.s, .slice A s.row.length c, .slice A' s.cols.length d, .bool s.fl] 28)) ?_)
  refine (largeSt_any s A A' _ c _ d _ (HR.out.keep (by (repeat (first | assumption | exact Below.refl _ _ | refine bl_drewN ?_ _ | refine bl_drew ?_ | refine bl_alloc ?_ _ | refine bl_step ?_ (by assumption))))) (HC.out.keep (by (repeat (first | assumption | exact Below.refl _ _ | refine bl_drewN ?_ _ | refine bl_drew ?_ | refine bl_alloc ?_ _ | refine bl_step ?_ (by assumption)))))).mono ?_
  rintro e w1 ⟨rfl, hb1⟩
  have B1 := Lib.hid (blk_below (blk_new w _) hb1)
  have L1 := Lib.hid (show Below w.heap.size w w1 by (repeat (first | assumption | exact Below.refl _ _ | refine bl_drewN ?_ _ | refine bl_drew ?_ | refine bl_alloc ?_ _ | refine bl_step ?_ (by assumption))))
  have hz1 := blk_lt B1.out
  clear hb1
  rw [HLL.out]
  have hl1 := (small_lists3 HLL.out).1
  have hl2 := (small_lists3 HLL.out).2
  have hb20 : ¬ ((20000 : Int) < (b.size : Int)) := by have := HB20.out; omega
  go_wp2_with (refine wpl_load16 rfl _ rfl _ rfl rfl B1.out ?_)
  refine (copySt s A A' _ c _ d _ (HR.out.keep L1.out) (HC.out.keep L1.out) hl1 hl2).mono ?_
  rintro e w2 ⟨P, c2, P', d2, rfl, hp, hpc, hb2⟩
  have B2 := Lib.hid (blk_below B1.out hb2)
  have L2 := Lib.hid (bl_step L1.out hb2)
  have HP := Lib.hid hp
  have HPC := Lib.hid hpc
  clear hb2 hp hpc hl1 hl2 hb20
  go_wp2_with fail
  refine (sencode_no s P P' _ c2 _ d2 _ HP.out HPC.out HGS.out).mono ?_
  rintro e w3 ⟨rfl, hb3⟩
  have LX := Lib.hid (bl_step L2.out hb3)
  clear hb3
  go_wp2_with fail
  refine (sdec_any b _ (by have := HB20.out; omega)).mono ?_
  rintro e y1 ⟨R, rc, R', rd, rfl, hr1, hr2, hy1⟩
  have Y1 := Lib.hid (bl_step LX.out hy1)
  clear hy1 hr1 hr2
  rw [HDR.out]
  go_wp2_with fail
  have Z1 := Lib.hid (blk_new y1 (.cells ((zeroSt 0).row16 (.slice R (zeroSt 0).row.length rc) (.slice R' (zeroSt 0).cols.length rd)) 28))
  refine (wakes_any _).mono ?_
  rintro e y2 ⟨rfl, hy2⟩
  go_wp2
  go_ret
  exact ⟨rfl, bl_step (bl_alloc Y1.out _) hy2⟩
set_option maxRecDepth 100000 in
set_option maxHeartbeats 4000000 in
theorem back_fs (s : St) (b : ByteArray) (A A' : Option Addr) (n c m d : Nat) (w : World) (hr : RdV w A n s.row) (hc : RdC w A' m s.cols) (hf : Flt s) (hn : NumS s) (hL : largeSt s = false) (hb : b.size ≤ 20000) (hg : goodS s = false) (t : St) (hd : decS b = some t) :
    Pure Try.prog 3 #[s.agg (.slice A n c) (.slice A' m d), .string b] w (.bool true) := by
  obtain rfl := hr.1
  obtain rfl := hc.1
  have HR := Lib.hid hr
  have HC := Lib.hid hc
  have HF := Lib.hid hf
  have HNS := Lib.hid hn
  have HLL := Lib.hid hL
  have HB20 := Lib.hid hb
  have HGS := Lib.hid hg
  have HDR := Lib.hid (decR_some hd)
  have HTF := Lib.hid (decS_flt hd)
  have HTB := Lib.hid (decS_back hd).1
  have HTG := Lib.hid (decS_back hd).2
  clear hr hc hf hn hL hb hg hd
  go_enter Try.func3, Try.ntmps3
  go_wp2_with (refine wpl_load16 rfl _ rfl _ rfl rfl (blk_new w (.cells #[.int .i64 s.k, .string s.t, .string s.nm, .string s.c, .string s.se, .int .i64 s.v.k, .int .i64 s.v.n, .float .f64 s.v.f, .string s.v.s, .int .i64 s.w.k, .int .i64 s.w.n, .float .f64 s.w.f, .string s.w.s, .slice A s.row.length c, .slice A' s.cols.length d, .bool s.fl] 28)) ?_)
  refine (largeSt_any s A A' _ c _ d _ (HR.out.keep (by (repeat (first | assumption | exact Below.refl _ _ | refine bl_drewN ?_ _ | refine bl_drew ?_ | refine bl_alloc ?_ _ | refine bl_step ?_ (by assumption))))) (HC.out.keep (by (repeat (first | assumption | exact Below.refl _ _ | refine bl_drewN ?_ _ | refine bl_drew ?_ | refine bl_alloc ?_ _ | refine bl_step ?_ (by assumption)))))).mono ?_
  rintro e w1 ⟨rfl, hb1⟩
  have B1 := Lib.hid (blk_below (blk_new w _) hb1)
  have L1 := Lib.hid (show Below w.heap.size w w1 by (repeat (first | assumption | exact Below.refl _ _ | refine bl_drewN ?_ _ | refine bl_drew ?_ | refine bl_alloc ?_ _ | refine bl_step ?_ (by assumption))))
  have hz1 := blk_lt B1.out
  clear hb1
  rw [HLL.out]
  have hl1 := (small_lists3 HLL.out).1
  have hl2 := (small_lists3 HLL.out).2
  have hb20 : ¬ ((20000 : Int) < (b.size : Int)) := by have := HB20.out; omega
  go_wp2_with (refine wpl_load16 rfl _ rfl _ rfl rfl B1.out ?_)
  refine (copySt s A A' _ c _ d _ (HR.out.keep L1.out) (HC.out.keep L1.out) hl1 hl2).mono ?_
  rintro e w2 ⟨P, c2, P', d2, rfl, hp, hpc, hb2⟩
  have B2 := Lib.hid (blk_below B1.out hb2)
  have L2 := Lib.hid (bl_step L1.out hb2)
  have HP := Lib.hid hp
  have HPC := Lib.hid hpc
  clear hb2 hp hpc hl1 hl2 hb20
  go_wp2_with fail
  refine (sencode_no s P P' _ c2 _ d2 _ HP.out HPC.out HGS.out).mono ?_
  rintro e w3 ⟨rfl, hb3⟩
  have LX := Lib.hid (bl_step L2.out hb3)
  clear hb3
  go_wp2_with fail
  refine (sdec_any b _ (by have := HB20.out; omega)).mono ?_
  rintro e y1 ⟨R, rc, R', rd, rfl, hr1, hr2, hy1⟩
  rw [HDR.out] at hr1 hr2 ⊢
  have Y1 := Lib.hid (bl_step LX.out hy1)
  have Z1 := Lib.hid (blk_new y1 (.cells (t.row16 (.slice R t.row.length rc) (.slice R' t.cols.length rd)) 28))
  have V1 := Lib.hid (show RdV _ R t.row.length t.row from hr1.keep (bl_alloc (Below.refl _ _) (.cells (t.row16 (.slice R t.row.length rc) (.slice R' t.cols.length rd)) 28)))
  have V2 := Lib.hid (show RdC _ R' t.cols.length t.cols from hr2.keep (bl_alloc (Below.refl _ _) (.cells (t.row16 (.slice R t.row.length rc) (.slice R' t.cols.length rd)) 28)))
  have Y2 := Lib.hid (bl_alloc Y1.out (.cells (t.row16 (.slice R t.row.length rc) (.slice R' t.cols.length rd)) 28))
  clear hy1 hr1 hr2
  go_wp2_with (refine wpl_load16 rfl _ rfl _ rfl rfl Z1.out ?_)
  refine (sencode_yes t R R' _ rc _ rd _ V1.out V2.out HTF.out HTG.out).mono ?_
  rintro e y3 ⟨rfl, hy3⟩
  rw [HTB.out]
  have Z3 := Lib.hid (blk_below Z1.out hy3)
  have Y3 := Lib.hid (bl_step Y2.out hy3)
  have V3 := Lib.hid (V1.out.keep hy3)
  have V4 := Lib.hid (V2.out.keep hy3)
  clear hy3
  go_wp2_with (refine wpl_load16g (by rfl) _ rfl _ rfl rfl Z3.out ?_)
  refine (goodS_any t R R' _ rc _ rd _ V3.out V4.out).mono ?_
  rintro e y4 ⟨rfl, hy4⟩
  have Y4 := Lib.hid (bl_step Y3.out hy4)
  clear hy4
  rw [HTG.out]
  go_wp2_with fail
  refine (wakes_any _).mono ?_
  rintro e y5 ⟨rfl, hy5⟩
  go_wp2
  go_ret
  exact ⟨rfl, bl_step Y4.out hy5⟩
theorem back_any (s : St) (b : ByteArray) (A A' : Option Addr) (n c m d : Nat) (w : World) (hr : RdV w A n s.row) (hc : RdC w A' m s.cols) (hf : Flt s) (hn : NumS s) :
    Pure Try.prog 3 #[s.agg (.slice A n c) (.slice A' m d), .string b] w (.bool true) := by
  cases hL : largeSt s with
  | true => exact back_l s b A A' n c m d w hr hc hf hn hL
  | false =>
    by_cases hb : b.size ≤ 20000
    · cases hg : goodS s with
      | true =>
        cases hd : decS b with
        | none => exact back_tn s b A A' n c m d w hr hc hf hn hL hb hg hd
        | some t => exact back_ts s b A A' n c m d w hr hc hf hn hL hb hg t hd
      | false =>
        cases hd : decS b with
        | none => exact back_fn s b A A' n c m d w hr hc hf hn hL hb hg hd
        | some t => exact back_fs s b A A' n c m d w hr hc hf hn hL hb hg t hd
    · exact back_b s b A A' n c m d w hr hc hf hn hL hb
end Go.Proofs.Ytbmaeaknlpgdmaa
