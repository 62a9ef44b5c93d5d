/- A statement's bytes: the reference's answer. -/
import Derived.Test.YtbmaeaknlpgdmaaA24
import Derived.Test.YtbmaeaknlpgdmaaA21
import Derived.Test.YtbmaeaknlpgdmaaA22
namespace Go.Proofs.Ytbmaeaknlpgdmaa
open Go.RowKit
set_option linter.unusedVariables false
set_option linter.unusedSimpArgs false
set_option linter.constructorNameAsVariable false
set_option maxRecDepth 100000 in
set_option maxHeartbeats 4000000 in
theorem rencode_no (s : St) (A A' : Option Addr) (n c m d : Nat) (w : World) (hr : RdV w A n s.row) (hc : RdC w A' m s.cols) (hg : goodS s = false) :
    Pure Try.prog 14 #[s.agg (.slice A n c) (.slice A' m d)] w (.tuple #[.string ByteArray.empty, .int .i64 11]) := by
  have HR := Lib.hid hr
  have HC := Lib.hid hc
  have HG := Lib.hid ((goodS_eq s).symm.trans hg)
  clear hr hc hg
  go_enter Try.func14, Try.ntmps14
  go_wp2_with fail
  refine (rgoodS_any s A A' n c m d _ (HR.out.keep (by (repeat (first | assumption | exact Below.refl _ _ | refine bl_drewN ?_ _ | refine bl_drew ?_ | refine bl_alloc ?_ _ | refine bl_step ?_ (by assumption))))) (HC.out.keep (by (repeat (first | assumption | exact Below.refl _ _ | refine bl_drewN ?_ _ | refine bl_drew ?_ | refine bl_alloc ?_ _ | refine bl_step ?_ (by assumption)))))).mono ?_
  rintro e w1 ⟨rfl, hb1⟩
  rw [HG.out]
  go_wp2
  go_ret2
  exact ⟨rfl, by (repeat (first | assumption | exact Below.refl _ _ | refine bl_drewN ?_ _ | refine bl_drew ?_ | refine bl_alloc ?_ _ | refine bl_step ?_ (by assumption)))⟩
set_option maxRecDepth 100000 in
set_option maxHeartbeats 4000000 in
theorem rencode_yes (s : St) (A A' : Option Addr) (n c m d : Nat) (w : World) (hr : RdV w A n s.row) (hc : RdC w A' m s.cols) (hf : Flt s) (hg : goodS s = true) :
    Pure Try.prog 14 #[s.agg (.slice A n c) (.slice A' m d)] w (.tuple #[.string (encS s), .int .i64 0]) := by
  have HR := Lib.hid hr
  have HC := Lib.hid hc
  have HG := Lib.hid ((goodS_eq s).symm.trans hg)
  have HF := Lib.hid hf
  have HA := Lib.hid (goodS_all hg).2
  obtain ⟨hk1, hk2⟩ := (goodS_all hg).1
  clear hr hc hg hf
  have hcv := conv1
  have hwr : IntKind.u8.wrap s.k = s.k := by rw [IntKind.wrap_u8]; omega
  go_enter Try.func14, Try.ntmps14
  go_wp2_with fail
  refine (rgoodS_any s A A' n c m d _ (HR.out.keep (by (repeat (first | assumption | exact Below.refl _ _ | refine bl_drewN ?_ _ | refine bl_drew ?_ | refine bl_alloc ?_ _ | refine bl_step ?_ (by assumption))))) (HC.out.keep (by (repeat (first | assumption | exact Below.refl _ _ | refine bl_drewN ?_ _ | refine bl_drew ?_ | refine bl_alloc ?_ _ | refine bl_step ?_ (by assumption)))))).mono ?_
  rintro e w1 ⟨rfl, hb1⟩
  rw [HG.out]
  have B1 := Lib.hid (blk_below (blk_new w _) hb1)
  have hB1 := Lib.hid (show Below w.heap.size w w1 by (repeat (first | assumption | exact Below.refl _ _ | refine bl_drewN ?_ _ | refine bl_drew ?_ | refine bl_alloc ?_ _ | refine bl_step ?_ (by assumption))))
  clear hb1
  obtain ⟨k1, f1⟩ := blk_rules B1.out
  have hz := blk_lt B1.out
  go_wp2_with fail
  refine (has_any s.k _).mono ?_
  rintro e w2 ⟨rfl, hb2⟩
  have B2 := Lib.hid (blk_below (blk_old B1.out _) hb2)
  have hB2 := Lib.hid (bl_step (bl_alloc hB1.out _) hb2)
  clear k1 f1 hz hb2 hcv hwr
  obtain ⟨h, hh⟩ : ∃ h, rstr (fieldsF s.k) = h := ⟨_, rfl⟩
  rw [hh]
  have HH := Lib.hid hh
  have Hl := Lib.hid (show h.size = (fieldsF s.k).length by rw [← hh, rstr_size])
  have hl5 : h.size ≤ 5 := by have := fieldsF_len s.k; rw [Hl.out]; exact this
  clear hh
  go_wp2
  go_loopw [4, 6] (fun b i wr => ∃ k : Nat, k ≤ h.size ∧ i = .int .i64 k ∧ b = .string (encTo s (strOfNums [s.k]) ((fieldsF s.k).take k)) ∧ Below w2.heap.size w2 wr) (fun _ i _ => h.size - (intOf i).toNat)
  case atStart => exact ⟨0, Nat.zero_le _, rfl, rfl, Below.refl _ _⟩
  case round =>
    obtain ⟨k, hk, rfl, rfl, hb⟩ := hrel
    by_cases hlt : k < h.size
    · have hk' : k < (fieldsF s.k).length := by rw [← Hl.out]; exact hlt
      obtain ⟨x, hx⟩ : ∃ x, (fieldsF s.k)[k]? = some x := ⟨_, List.getElem?_eq_getElem hk'⟩
      have Hx := Lib.hid hx
      obtain ⟨_, hch⟩ := rstr_at HH.out hx
      have hgx := HA.out x (List.mem_of_getElem? hx)
      have hs2 := putE_size HF.out hgx
      have hs1 : (encTo s (strOfNums [s.k]) ((fieldsF s.k).take k)).size ≤ 10000 := by
        have h1 := encTo_size HF.out (l := (fieldsF s.k).take k) (fun y hy => HA.out y (List.mem_of_mem_take hy)) (strOfNums [s.k])
        rw [strOfNums_size, List.length_take] at h1
        simp only [List.length_cons, List.length_nil] at h1
        omega
      obtain ⟨E0, hE0⟩ : ∃ E0, encTo s (strOfNums [s.k]) ((fieldsF s.k).take k) = E0 := ⟨_, rfl⟩
      have HE := Lib.hid hE0
      rw [hE0] at hs1 ⊢
      have Hgx := Lib.hid hgx
      obtain ⟨k1, f1⟩ := blk_rules (blk_below B2.out hb)
      have hz := blk_lt (blk_below B2.out hb)
      have HB := Lib.hid hb
      clear hx hk' hgx hE0 hb
      cases x with
      | t =>
        have hix := ix_str h k hlt _ hch
        have hs3 : (nameE s.t).size ≤ 1700 := hs2
        clear hch hs2
        go_wp2_with fail
        refine (rnameE_any s.t _ (by have := (nameB_size (s := s.t) Hgx.out).2; omega)).mono ?_
        rintro e w8 ⟨rfl, hb8⟩
        clear k1 f1 hz hix
        go_wp2
        go_roundw
        case rel => exact ⟨k + 1, by omega, by go_num, by rw [encTo_snoc Hx.out, HE.out]; rfl, bl_step HB.out hb8⟩
        case measure => simp [intOf]; omega
      | n =>
        have hix := ix_str h k hlt _ hch
        have hs3 : (nameE s.nm).size ≤ 1700 := hs2
        clear hch hs2
        go_wp2_with fail
        refine (rnameE_any s.nm _ (by have := (nameB_size (s := s.nm) Hgx.out).2; omega)).mono ?_
        rintro e w8 ⟨rfl, hb8⟩
        clear k1 f1 hz hix
        go_wp2
        go_roundw
        case rel => exact ⟨k + 1, by omega, by go_num, by rw [encTo_snoc Hx.out, HE.out]; rfl, bl_step HB.out hb8⟩
        case measure => simp [intOf]; omega
      | c =>
        have hix := ix_str h k hlt _ hch
        have hs3 : (nameE s.c).size ≤ 1700 := hs2
        clear hch hs2
        go_wp2_with fail
        refine (rnameE_any s.c _ (by have := (nameB_size (s := s.c) Hgx.out).2; omega)).mono ?_
        rintro e w8 ⟨rfl, hb8⟩
        clear k1 f1 hz hix
        go_wp2
        go_roundw
        case rel => exact ⟨k + 1, by omega, by go_num, by rw [encTo_snoc Hx.out, HE.out]; rfl, bl_step HB.out hb8⟩
        case measure => simp [intOf]; omega
      | s =>
        have hix := ix_str h k hlt _ hch
        have hs3 : (nameE s.se).size ≤ 1700 := hs2
        clear hch hs2
        go_wp2_with fail
        refine (rnameE_any s.se _ (by have := (nameB_size (s := s.se) Hgx.out).2; omega)).mono ?_
        rintro e w8 ⟨rfl, hb8⟩
        clear k1 f1 hz hix
        go_wp2
        go_roundw
        case rel => exact ⟨k + 1, by omega, by go_num, by rw [encTo_snoc Hx.out, HE.out]; rfl, bl_step HB.out hb8⟩
        case measure => simp [intOf]; omega
      | v =>
        have hix := ix_str h k hlt _ hch
        have hs3 : (encV s.v).size ≤ 1700 := hs2
        clear hch hs2
        go_wp2_with fail
        refine (rval_any s.v _ HF.out.1 Hgx.out).mono ?_
        rintro e w8 ⟨rfl, hb8⟩
        clear k1 f1 hz hix
        go_wp2
        go_roundw
        case rel => exact ⟨k + 1, by omega, by go_num, by rw [encTo_snoc Hx.out, HE.out]; rfl, bl_step HB.out hb8⟩
        case measure => simp [intOf]; omega
      | w =>
        have hix := ix_str h k hlt _ hch
        have hs3 : (encV s.w).size ≤ 1700 := hs2
        clear hch hs2
        go_wp2_with fail
        refine (rval_any s.w _ HF.out.2.1 Hgx.out).mono ?_
        rintro e w8 ⟨rfl, hb8⟩
        clear k1 f1 hz hix
        go_wp2
        go_roundw
        case rel => exact ⟨k + 1, by omega, by go_num, by rw [encTo_snoc Hx.out, HE.out]; rfl, bl_step HB.out hb8⟩
        case measure => simp [intOf]; omega
      | r =>
        have hix := ix_str h k hlt _ hch
        have hs3 : (encRow s.row).size ≤ 1700 := hs2
        have Hr := Lib.hid (good_row HF.out Hgx.out)
        have hn : n ≤ 6 := by have := Hr.out.2; rw [HR.out.1] at this; exact this
        clear hch hs2
        go_wp2_with fail
        refine (rrow_any A n c s.row _ (HR.out.keep (bl_step hB2.out HB.out)) Hr.out.1 hn).mono ?_
        rintro e w8 ⟨rfl, hb8⟩
        clear k1 f1 hz hix
        go_wp2
        go_roundw
        case rel => exact ⟨k + 1, by omega, by go_num, by rw [encTo_snoc Hx.out, HE.out]; rfl, bl_step HB.out hb8⟩
        case measure => simp [intOf]; omega
      | d =>
        have hix := ix_str h k hlt _ hch
        have hs3 : (colsE s.cols).size ≤ 1700 := hs2
        have Hr := Lib.hid (good_cols HF.out Hgx.out)
        have hn : m ≤ 6 := by have := Hr.out.2; rw [HC.out.1] at this; exact this
        clear hch hs2
        go_wp2_with fail
        refine (rcols_any A' m d s.cols _ (HC.out.keep (bl_step hB2.out HB.out)) Hr.out.1 hn).mono ?_
        rintro e w8 ⟨rfl, hb8⟩
        clear k1 f1 hz hix
        go_wp2
        go_roundw
        case rel => exact ⟨k + 1, by omega, by go_num, by rw [encTo_snoc Hx.out, HE.out]; rfl, bl_step HB.out hb8⟩
        case measure => simp [intOf]; omega
      | o =>
        have hix := ix_str h k hlt _ hch
        have hs3 : (colsE s.cols).size ≤ 1700 := hs2
        have Hr := Lib.hid (good_cols HF.out (by have h1 := Hgx.out; unfold goodF at h1; simp only [Bool.and_eq_true] at h1; exact h1.2))
        have hn : m ≤ 6 := by have := Hr.out.2; rw [HC.out.1] at this; exact this
        clear hch hs2
        go_wp2_with fail
        refine (rcols_any A' m d s.cols _ (HC.out.keep (bl_step hB2.out HB.out)) Hr.out.1 hn).mono ?_
        rintro e w8 ⟨rfl, hb8⟩
        clear k1 f1 hz hix
        go_wp2
        go_roundw
        case rel => exact ⟨k + 1, by omega, by go_num, by rw [encTo_snoc Hx.out, HE.out]; rfl, bl_step HB.out hb8⟩
        case measure => simp [intOf]; omega
      | f =>
        have hix := ix_str h k hlt _ hch
        have hs3 : (flagE s.fl).size ≤ 1700 := hs2
        clear hch hs2
        go_wp2_with fail
        refine (rflag_any s.fl _).mono ?_
        rintro e w8 ⟨rfl, rfl⟩
        clear k1 f1 hz hix
        go_wp2
        go_roundw
        case rel => exact ⟨k + 1, by omega, by go_num, by rw [encTo_snoc Hx.out, HE.out]; rfl, HB.out⟩
        case measure => simp [intOf]; omega
    · obtain rfl : k = h.size := by omega
      have E := Lib.hid (show encTo s (strOfNums [s.k]) ((fieldsF s.k).take h.size) = encS s by unfold encS; rw [Hl.out, List.take_length])
      go_wp2
      go_ret2
      exact ⟨by rw [← E.out]; rfl, bl_step hB2.out hb⟩
end Go.Proofs.Ytbmaeaknlpgdmaa
