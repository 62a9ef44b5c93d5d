/- The bytes of one field. -/
import Derived.Test.YtbmaeaknlpgdmaaA20
import Derived.Test.YtbmaeaknlpgdmaaA14
namespace Go.Proofs.Ytbmaeaknlpgdmaa
open Go.RowKit
set_option linter.unusedVariables false
set_option linter.unusedSimpArgs false
/-- A field's bytes. -/
def putE (s : St) : Fld → ByteArray
  | .t => nameE s.t | .n => nameE s.nm | .c => nameE s.c | .s => nameE s.se | .v => encV s.v | .w => encV s.w | .r => encRow s.row | .d => colsE s.cols | .o => colsE s.cols | .f => flagE s.fl
/-- Every float's bits are 64. -/
def Flt (s : St) : Prop := s.v.f < 18446744073709551616 ∧ s.w.f < 18446744073709551616 ∧ (∀ v ∈ s.row, v.f < 18446744073709551616) ∧ ∀ c ∈ s.cols, c.d.f < 18446744073709551616
theorem good_row {s : St} (hf : Flt s) (h : goodF s .r = true) : GoodL s.row ∧ s.row.length ≤ 6 := by
  unfold goodF at h
  simp only [Bool.and_eq_true, decide_eq_true_eq, List.all_eq_true] at h
  exact ⟨fun v hv => ⟨h.2 v hv, hf.2.2.1 v hv⟩, h.1⟩
theorem good_cols {s : St} (hf : Flt s) (h : goodCs s.cols = true) : (∀ c ∈ s.cols, GoodC c) ∧ s.cols.length ≤ 6 := by
  unfold goodCs at h
  simp only [decide_eq_true_eq] at h
  obtain ⟨h1, h2, h3⟩ := h
  refine ⟨fun c hc => ?_, h2⟩
  obtain ⟨i, hi, rfl⟩ := List.getElem_of_mem hc
  have h4 := (h3 i hi _ (List.getElem?_eq_getElem hi)).1
  unfold oneC at h4
  simp only [Bool.and_eq_true, decide_eq_true_eq] at h4
  exact ⟨(nameB_size h4.1.1.1.1).2, by omega, by omega, h4.1.2, hf.2.2.2 _ hc⟩

set_option maxRecDepth 100000 in
set_option maxHeartbeats 1000000 in
theorem put_t (s : St) (A A' : Option Addr) (n c m d : Nat) (w : World) (hr : RdV w A n s.row) (hc : RdC w A' m s.cols) (hf : Flt s) (hg : goodF s .t = true) :
    Pure Try.prog 26 #[.int .u8 ((pcode .t).toNat : Int), s.agg (.slice A n c) (.slice A' m d)] w (.string (putE s .t)) := by
  have hz : s.t.size ≤ 255 := by have := (nameB_size (s := s.t) hg).2; omega
  clear hr hc hf hg
  go_enter Try.func26, Try.ntmps26
  go_wp2_with fail
  refine (sname_any s.t _ hz).mono ?_
  rintro e w1 ⟨rfl, hb⟩
  go_wp2
  go_ret
  exact ⟨rfl, by (repeat (first | assumption | exact Below.refl _ _ | refine bl_drewN ?_ _ | refine bl_drew ?_ | refine bl_alloc ?_ _ | refine bl_step ?_ (by assumption)))⟩
set_option maxRecDepth 100000 in
set_option maxHeartbeats 1000000 in
theorem put_n (s : St) (A A' : Option Addr) (n c m d : Nat) (w : World) (hr : RdV w A n s.row) (hc : RdC w A' m s.cols) (hf : Flt s) (hg : goodF s .n = true) :
    Pure Try.prog 26 #[.int .u8 ((pcode .n).toNat : Int), s.agg (.slice A n c) (.slice A' m d)] w (.string (putE s .n)) := by
  have hz : s.nm.size ≤ 255 := by have := (nameB_size (s := s.nm) hg).2; omega
  clear hr hc hf hg
  go_enter Try.func26, Try.ntmps26
  go_wp2_with fail
  refine (sname_any s.nm _ hz).mono ?_
  rintro e w1 ⟨rfl, hb⟩
  go_wp2
  go_ret
  exact ⟨rfl, by (repeat (first | assumption | exact Below.refl _ _ | refine bl_drewN ?_ _ | refine bl_drew ?_ | refine bl_alloc ?_ _ | refine bl_step ?_ (by assumption)))⟩
set_option maxRecDepth 100000 in
set_option maxHeartbeats 1000000 in
theorem put_c (s : St) (A A' : Option Addr) (n c m d : Nat) (w : World) (hr : RdV w A n s.row) (hc : RdC w A' m s.cols) (hf : Flt s) (hg : goodF s .c = true) :
    Pure Try.prog 26 #[.int .u8 ((pcode .c).toNat : Int), s.agg (.slice A n c) (.slice A' m d)] w (.string (putE s .c)) := by
  have hz : s.c.size ≤ 255 := by have := (nameB_size (s := s.c) hg).2; omega
  clear hr hc hf hg
  go_enter Try.func26, Try.ntmps26
  go_wp2_with fail
  refine (sname_any s.c _ hz).mono ?_
  rintro e w1 ⟨rfl, hb⟩
  go_wp2
  go_ret
  exact ⟨rfl, by (repeat (first | assumption | exact Below.refl _ _ | refine bl_drewN ?_ _ | refine bl_drew ?_ | refine bl_alloc ?_ _ | refine bl_step ?_ (by assumption)))⟩
set_option maxRecDepth 100000 in
set_option maxHeartbeats 1000000 in
theorem put_s (s : St) (A A' : Option Addr) (n c m d : Nat) (w : World) (hr : RdV w A n s.row) (hc : RdC w A' m s.cols) (hf : Flt s) (hg : goodF s .s = true) :
    Pure Try.prog 26 #[.int .u8 ((pcode .s).toNat : Int), s.agg (.slice A n c) (.slice A' m d)] w (.string (putE s .s)) := by
  have hz : s.se.size ≤ 255 := by have := (nameB_size (s := s.se) hg).2; omega
  clear hr hc hf hg
  go_enter Try.func26, Try.ntmps26
  go_wp2_with fail
  refine (sname_any s.se _ hz).mono ?_
  rintro e w1 ⟨rfl, hb⟩
  go_wp2
  go_ret
  exact ⟨rfl, by (repeat (first | assumption | exact Below.refl _ _ | refine bl_drewN ?_ _ | refine bl_drew ?_ | refine bl_alloc ?_ _ | refine bl_step ?_ (by assumption)))⟩
set_option maxRecDepth 100000 in
set_option maxHeartbeats 1000000 in
theorem put_v (s : St) (A A' : Option Addr) (n c m d : Nat) (w : World) (hr : RdV w A n s.row) (hc : RdC w A' m s.cols) (hf : Flt s) (hg : goodF s .v = true) :
    Pure Try.prog 26 #[.int .u8 ((pcode .v).toNat : Int), s.agg (.slice A n c) (.slice A' m d)] w (.string (putE s .v)) := by
  have Hg := Lib.hid (show goodV s.v = true from hg)
  have Hf := Lib.hid hf
  clear hr hc hf hg
  go_enter Try.func26, Try.ntmps26
  go_wp2_with fail
  refine (enc_any s.v _ Hf.out.1 Hg.out).mono ?_
  rintro e w1 ⟨rfl, hb⟩
  go_wp2
  go_ret
  exact ⟨rfl, by (repeat (first | assumption | exact Below.refl _ _ | refine bl_drewN ?_ _ | refine bl_drew ?_ | refine bl_alloc ?_ _ | refine bl_step ?_ (by assumption)))⟩
set_option maxRecDepth 100000 in
set_option maxHeartbeats 1000000 in
theorem put_w (s : St) (A A' : Option Addr) (n c m d : Nat) (w : World) (hr : RdV w A n s.row) (hc : RdC w A' m s.cols) (hf : Flt s) (hg : goodF s .w = true) :
    Pure Try.prog 26 #[.int .u8 ((pcode .w).toNat : Int), s.agg (.slice A n c) (.slice A' m d)] w (.string (putE s .w)) := by
  have Hg := Lib.hid (show goodV s.w = true from hg)
  have Hf := Lib.hid hf
  clear hr hc hf hg
  go_enter Try.func26, Try.ntmps26
  go_wp2_with fail
  refine (enc_any s.w _ Hf.out.2.1 Hg.out).mono ?_
  rintro e w1 ⟨rfl, hb⟩
  go_wp2
  go_ret
  exact ⟨rfl, by (repeat (first | assumption | exact Below.refl _ _ | refine bl_drewN ?_ _ | refine bl_drew ?_ | refine bl_alloc ?_ _ | refine bl_step ?_ (by assumption)))⟩
set_option maxRecDepth 100000 in
set_option maxHeartbeats 1000000 in
theorem put_r (s : St) (A A' : Option Addr) (n c m d : Nat) (w : World) (hr : RdV w A n s.row) (hc : RdC w A' m s.cols) (hf : Flt s) (hg : goodF s .r = true) :
    Pure Try.prog 26 #[.int .u8 ((pcode .r).toNat : Int), s.agg (.slice A n c) (.slice A' m d)] w (.string (putE s .r)) := by
  have Hg := Lib.hid (good_row hf hg)
  have hn : n ≤ 6 := by have := Hg.out.2; rw [hr.1] at this; exact this
  have HR := Lib.hid hr
  clear hr hc hf hg
  go_enter Try.func26, Try.ntmps26
  go_wp2_with fail
  refine (row_any A n c s.row _ (HR.out.keep (by (repeat (first | assumption | exact Below.refl _ _ | refine bl_drewN ?_ _ | refine bl_drew ?_ | refine bl_alloc ?_ _ | refine bl_step ?_ (by assumption))))) Hg.out.1 hn).mono ?_
  rintro e w1 ⟨rfl, hb⟩
  go_wp2
  go_ret
  exact ⟨rfl, by (repeat (first | assumption | exact Below.refl _ _ | refine bl_drewN ?_ _ | refine bl_drew ?_ | refine bl_alloc ?_ _ | refine bl_step ?_ (by assumption)))⟩
set_option maxRecDepth 100000 in
set_option maxHeartbeats 1000000 in
theorem put_d (s : St) (A A' : Option Addr) (n c m d : Nat) (w : World) (hr : RdV w A n s.row) (hc : RdC w A' m s.cols) (hf : Flt s) (hg : goodF s .d = true) :
    Pure Try.prog 26 #[.int .u8 ((pcode .d).toNat : Int), s.agg (.slice A n c) (.slice A' m d)] w (.string (putE s .d)) := by
  have Hg := Lib.hid (good_cols hf (hg))
  have hn : m ≤ 6 := by have := Hg.out.2; rw [hc.1] at this; exact this
  have HR := Lib.hid hc
  clear hr hc hf hg
  go_enter Try.func26, Try.ntmps26
  go_wp2_with fail
  refine (columns_any A' m d s.cols _ (HR.out.keep (by (repeat (first | assumption | exact Below.refl _ _ | refine bl_drewN ?_ _ | refine bl_drew ?_ | refine bl_alloc ?_ _ | refine bl_step ?_ (by assumption))))) Hg.out.1 hn).mono ?_
  rintro e w1 ⟨rfl, hb⟩
  go_wp2
  go_ret
  exact ⟨rfl, by (repeat (first | assumption | exact Below.refl _ _ | refine bl_drewN ?_ _ | refine bl_drew ?_ | refine bl_alloc ?_ _ | refine bl_step ?_ (by assumption)))⟩
set_option maxRecDepth 100000 in
set_option maxHeartbeats 1000000 in
theorem put_o (s : St) (A A' : Option Addr) (n c m d : Nat) (w : World) (hr : RdV w A n s.row) (hc : RdC w A' m s.cols) (hf : Flt s) (hg : goodF s .o = true) :
    Pure Try.prog 26 #[.int .u8 ((pcode .o).toNat : Int), s.agg (.slice A n c) (.slice A' m d)] w (.string (putE s .o)) := by
  have Hg := Lib.hid (good_cols hf (by unfold goodF at hg; simp only [Bool.and_eq_true] at hg; exact hg.2))
  have hn : m ≤ 6 := by have := Hg.out.2; rw [hc.1] at this; exact this
  have HR := Lib.hid hc
  clear hr hc hf hg
  go_enter Try.func26, Try.ntmps26
  go_wp2_with fail
  refine (columns_any A' m d s.cols _ (HR.out.keep (by (repeat (first | assumption | exact Below.refl _ _ | refine bl_drewN ?_ _ | refine bl_drew ?_ | refine bl_alloc ?_ _ | refine bl_step ?_ (by assumption))))) Hg.out.1 hn).mono ?_
  rintro e w1 ⟨rfl, hb⟩
  go_wp2
  go_ret
  exact ⟨rfl, by (repeat (first | assumption | exact Below.refl _ _ | refine bl_drewN ?_ _ | refine bl_drew ?_ | refine bl_alloc ?_ _ | refine bl_step ?_ (by assumption)))⟩
set_option maxRecDepth 100000 in
set_option maxHeartbeats 1000000 in
theorem put_f (s : St) (A A' : Option Addr) (n c m d : Nat) (w : World) (hr : RdV w A n s.row) (hc : RdC w A' m s.cols) (hf : Flt s) (hg : goodF s .f = true) :
    Pure Try.prog 26 #[.int .u8 ((pcode .f).toNat : Int), s.agg (.slice A n c) (.slice A' m d)] w (.string (putE s .f)) := by
  clear hr hc hf hg
  go_enter Try.func26, Try.ntmps26
  go_wp2_with fail
  refine (sflag_any s.fl _).mono ?_
  rintro e w1 ⟨rfl, rfl⟩
  go_wp2
  go_ret
  exact ⟨rfl, by (repeat (first | assumption | exact Below.refl _ _ | refine bl_drewN ?_ _ | refine bl_drew ?_ | refine bl_alloc ?_ _ | refine bl_step ?_ (by assumption)))⟩
theorem put_any (s : St) (A A' : Option Addr) (n c m d : Nat) (w : World) (hr : RdV w A n s.row) (hc : RdC w A' m s.cols) (hf : Flt s) (x : Fld) (hg : goodF s x = true) :
    Pure Try.prog 26 #[.int .u8 ((pcode x).toNat : Int), s.agg (.slice A n c) (.slice A' m d)] w (.string (putE s x)) := by
  cases x
  · exact put_t _ _ _ _ _ _ _ _ hr hc hf hg
  · exact put_n _ _ _ _ _ _ _ _ hr hc hf hg
  · exact put_c _ _ _ _ _ _ _ _ hr hc hf hg
  · exact put_s _ _ _ _ _ _ _ _ hr hc hf hg
  · exact put_v _ _ _ _ _ _ _ _ hr hc hf hg
  · exact put_w _ _ _ _ _ _ _ _ hr hc hf hg
  · exact put_r _ _ _ _ _ _ _ _ hr hc hf hg
  · exact put_d _ _ _ _ _ _ _ _ hr hc hf hg
  · exact put_o _ _ _ _ _ _ _ _ hr hc hf hg
  · exact put_f _ _ _ _ _ _ _ _ hr hc hf hg
end Go.Proofs.Ytbmaeaknlpgdmaa
