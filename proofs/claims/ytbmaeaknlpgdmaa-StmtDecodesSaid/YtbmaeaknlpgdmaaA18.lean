/- Has a statement a form: the reference's answer. -/
import Derived.Test.YtbmaeaknlpgdmaaA17
import Derived.Test.YtbmaeaknlpgdmaaA14
import Derived.Test.YtbmaeaknlpgdmaaA03
import Derived.Test.YtbmaeaknlpgdmaaA06
import Derived.Deep.Cut
namespace Go.Proofs.Ytbmaeaknlpgdmaa
open Go.RowKit
set_option maxRecDepth 100000 in
set_option maxHeartbeats 1000000 in
theorem rgoods_any (A : Option Addr) (n c : Nat) (xs : List Vl) (w : World) (hx : RdV w A n xs) : Pure Try.prog 42 #[.slice A n c] w (.bool (decide (xs.length ≤ 6) && xs.all goodV)) := by
  have Hl := Lib.hid hx.1
  have hxm := hx.2.1
  have HX := Lib.hid hx
  clear hx
  go_enter Try.func42, Try.ntmps42
  go_wp2
  go_loopw [3] (fun i wr => ∃ k : Nat, k ≤ n ∧ i = .int .i64 k ∧ (∀ j y, j < k → xs[j]? = some y → goodV y = true) ∧ Below w.heap.size w wr) (fun i _ => n - (intOf i).toNat)
  case atStart => exact ⟨0, Nat.zero_le _, rfl, fun j x hj => by omega, Below.refl _ _⟩
  case round =>
    obtain ⟨k, hk, rfl, hall, hb⟩ := hrel
    have Hall := Lib.hid hall
    clear hall
    by_cases hlt : k < n
    · obtain ⟨b1, o1, x, hA, hxk, x0, x1, x2, x3, hb1⟩ := HX.out.get_ hb hlt
      subst hA
      have Hxk := Lib.hid hxk
      clear hxk
      go_wp2_with fail
      refine (rgood_any x _).mono ?_
      rintro e w1 ⟨rfl, hb1⟩
      cases hv : goodV x with
      | false =>
        have H := Lib.hid (show (decide (xs.length ≤ 6) && xs.all goodV) = false by rw [all_hit Hxk.out hv]; simp)
        clear hv x0 x1 x2 x3
        go_wp2
        go_ret
        exact ⟨by rw [H.out]; rfl, bl_step hb hb1⟩
      | true =>
        have Hv := Lib.hid hv
        clear hv x0 x1 x2 x3
        go_wp2
        go_roundw
        case rel => exact ⟨k + 1, by omega, by go_num, fun j y hj hy => (Nat.lt_succ_iff_lt_or_eq.1 hj).elim (fun h => Hall.out j y h hy) (fun h => by subst h; rw [Hxk.out] at hy; cases hy; exact Hv.out), bl_step hb hb1⟩
        case measure => simp [intOf]; omega
    · obtain rfl : k = n := by omega
      have H := Lib.hid (show (decide (xs.length ≤ 6) && xs.all goodV) = decide ((k : Int) ≤ 6) by
        rw [all_none (fun j y hj hy => Hall.out j y (by rw [← Hl.out]; exact hj) hy), Bool.and_true, Hl.out]
        rw [decide_eq_decide]; omega)
      by_cases h6 : k ≤ 6
      · go_wp2
        go_ret
        exact ⟨by rw [H.out]; simp; try omega, hb⟩
      · go_wp2
        go_ret
        exact ⟨by rw [H.out]; simp; try omega, hb⟩
/-- Has a statement a form, by the reference? -/
def rgoodS (s : St) : Bool := kindOK s.k && eqSt s (only s) && (fieldsF s.k).all (goodF s)

set_option maxRecDepth 100000 in
set_option maxHeartbeats 4000000 in
theorem rgoodS_any (s : St) (A A' : Option Addr) (n c m d : Nat) (w : World) (hr : RdV w A n s.row) (hc : RdC w A' m s.cols) : Pure Try.prog 15 #[s.agg (.slice A n c) (.slice A' m d)] w (.bool (rgoodS s)) := by
  have HR := Lib.hid hr
  have HC := Lib.hid hc
  clear hr hc
  by_cases hk : 1 ≤ s.k ∧ s.k ≤ 17
  · have HK := Lib.hid hk
    have hk1 : ¬ s.k < 1 := by omega
    have hk2 : ¬ 17 < s.k := by omega
    clear hk
    go_enter Try.func15, Try.ntmps15
    go_upto_region 1 with fail
    have HB := Lib.hid (show Below w.heap.size w (w.alloc (.cells (s.row16 (.slice A n c) (.slice A' m d)) 28)) by (repeat (first | assumption | exact Below.refl _ _ | refine bl_drewN ?_ _ | refine bl_drew ?_ | refine bl_alloc ?_ _ | refine bl_step ?_ (by assumption))))
    have B0 := Lib.hid (blk_new w (.cells (s.row16 (.slice A n c) (.slice A' m d)) 28))
    generalize w.alloc (.cells (s.row16 (.slice A n c) (.slice A' m d)) 28) = W at HB B0 ⊢
    rename_i hK0
    have HBd := Lib.hid (bl_drew HB.out)
    have HRd := Lib.hid ((blk_rules B0.out).1)
    have hFr : True := trivial
    go_region_held3 (fun w' => (∀ j, w'.cell? ⟨w.heap.size, j, none⟩ = (s.row16 (.slice A n c) (.slice A' m d))[j]?) ∧ Below w.heap.size w w' ∧ w'.heap[w.heap.size]? = some (.cells (s.row16 (.slice A n c) (.slice A' m d)) 28 (0, 0))) (first | exact ⟨HRd.out, HBd.out, B0.out⟩ | exact ⟨R5, H5, B5⟩ | exact ⟨R6, H6, B6⟩)
      (first | (go_at_call 21; refine (only_any s A A' n c m d _ (HR.out.keep HBd.out) (HC.out.keep HBd.out)).mono ?_; rintro e w5 ⟨P, n', c', P', m', d', rfl, hr', hc', hb'⟩; have H5 : Below w.heap.size w w5 := bl_step HBd.out hb'; have B5 := blk_below (w := W.drew) B0.out hb'; have R5 := (blk_rules B5).1; have Hr5 := Lib.hid (hr'.keep hb'); have Hc5 := Lib.hid (hc'.keep hb'); clear hr' hc' hb') | (go_at_call 12; refine (kStmt s (only s) A A' P P' n c m d n' c' m' d' _ (HR.out.keep H5) (HC.out.keep H5) Hr5.out Hc5.out).mono ?_; rintro e w6 ⟨rfl, hb6⟩; have H6 : Below w.heap.size w w6 := bl_step H5 hb6; have B6 := blk_below B5 hb6; have R6 := (blk_rules B6).1; clear hb6))
    cases hq : eqSt s (only s) with
    | false =>
      have H := Lib.hid (show rgoodS s = false by unfold rgoodS; rw [hq]; simp)
      clear hq
      go_wp2
      go_ret
      exact ⟨by rw [H.out]; rfl, H6⟩
    | true =>
      have Hq := Lib.hid hq
      have HB6 := Lib.hid H6
      have HC6 := Lib.hid B6
      clear hq H5 H6 B5 B6 R5 HRd hFr
      go_wp2_with fail
      refine (has_any s.k _).mono ?_
      rintro e w7 ⟨rfl, hb7⟩
      have B7 := Lib.hid (blk_below HC6.out hb7)
      have HB7 := Lib.hid (bl_step HB6.out hb7)
      clear R6 hb7
      obtain ⟨h, hh⟩ : ∃ h, rstr (fieldsF s.k) = h := ⟨_, rfl⟩
      rw [hh]
      have HH := Lib.hid hh
      have Hl := Lib.hid (show h.size = (fieldsF s.k).length by rw [← hh, rstr_size])
      have hl5 : h.size ≤ 5 := by have := fieldsF_len s.k; rw [Hl.out]; exact this
      clear hh
      go_wp2
      go_loopw [4] (fun i wr => ∃ k : Nat, k ≤ h.size ∧ i = .int .i64 k ∧ (∀ j y, j < k → (fieldsF s.k)[j]? = some y → goodF s y = true) ∧ Below w7.heap.size w7 wr) (fun i _ => h.size - (intOf i).toNat)
      case atStart => exact ⟨0, Nat.zero_le _, rfl, fun j x hj => by omega, Below.refl _ _⟩
      case round =>
        obtain ⟨k, hk, rfl, hall, hb⟩ := hrel
        have Hall := Lib.hid hall
        clear hall
        by_cases hlt : k < h.size
        · have hk' : k < (fieldsF s.k).length := by rw [← Hl.out]; exact hlt
          obtain ⟨x, hx⟩ : ∃ x, (fieldsF s.k)[k]? = some x := ⟨_, List.getElem?_eq_getElem hk'⟩
          have Hx := Lib.hid hx
          obtain ⟨_, hch⟩ := rstr_at HH.out hx
          obtain ⟨k1, f1⟩ := blk_rules (blk_below B7.out hb)
          have hz := blk_lt (blk_below B7.out hb)
          clear hx hk'
          cases x with
          | t =>
            have hix := ix_str h k hlt _ hch
            clear hch
            go_wp2_with fail
            refine (rname_any s.t _).mono ?_
            rintro e w8 ⟨rfl, rfl⟩
            cases hv : nameB s.t with
            | false =>
              have H := Lib.hid (show rgoodS s = false by unfold rgoodS; rw [allF_hit Hx.out hv]; simp)
              clear hv 
              go_wp2
              go_ret
              exact ⟨by rw [H.out]; rfl, bl_step HB7.out hb⟩
            | true =>
              have Hv := Lib.hid hv
              clear hv 
              go_wp2
              go_roundw
              case rel => exact ⟨k + 1, by omega, by go_num, fun j y hj hy => (Nat.lt_succ_iff_lt_or_eq.1 hj).elim (fun h => Hall.out j y h hy) (fun h => by subst h; rw [Hx.out] at hy; cases hy; exact Hv.out), hb⟩
              case measure => simp [intOf]; omega
          | n =>
            have hix := ix_str h k hlt _ hch
            clear hch
            go_wp2_with fail
            refine (rname_any s.nm _).mono ?_
            rintro e w8 ⟨rfl, rfl⟩
            cases hv : nameB s.nm with
            | false =>
              have H := Lib.hid (show rgoodS s = false by unfold rgoodS; rw [allF_hit Hx.out hv]; simp)
              clear hv 
              go_wp2
              go_ret
              exact ⟨by rw [H.out]; rfl, bl_step HB7.out hb⟩
            | true =>
              have Hv := Lib.hid hv
              clear hv 
              go_wp2
              go_roundw
              case rel => exact ⟨k + 1, by omega, by go_num, fun j y hj hy => (Nat.lt_succ_iff_lt_or_eq.1 hj).elim (fun h => Hall.out j y h hy) (fun h => by subst h; rw [Hx.out] at hy; cases hy; exact Hv.out), hb⟩
              case measure => simp [intOf]; omega
          | c =>
            have hix := ix_str h k hlt _ hch
            clear hch
            go_wp2_with fail
            refine (rname_any s.c _).mono ?_
            rintro e w8 ⟨rfl, rfl⟩
            cases hv : nameB s.c with
            | false =>
              have H := Lib.hid (show rgoodS s = false by unfold rgoodS; rw [allF_hit Hx.out hv]; simp)
              clear hv 
              go_wp2
              go_ret
              exact ⟨by rw [H.out]; rfl, bl_step HB7.out hb⟩
            | true =>
              have Hv := Lib.hid hv
              clear hv 
              go_wp2
              go_roundw
              case rel => exact ⟨k + 1, by omega, by go_num, fun j y hj hy => (Nat.lt_succ_iff_lt_or_eq.1 hj).elim (fun h => Hall.out j y h hy) (fun h => by subst h; rw [Hx.out] at hy; cases hy; exact Hv.out), hb⟩
              case measure => simp [intOf]; omega
          | s =>
            have hix := ix_str h k hlt _ hch
            clear hch
            go_wp2_with fail
            refine (rname_any s.se _).mono ?_
            rintro e w8 ⟨rfl, rfl⟩
            cases hv : nameB s.se with
            | false =>
              have H := Lib.hid (show rgoodS s = false by unfold rgoodS; rw [allF_hit Hx.out hv]; simp)
              clear hv 
              go_wp2
              go_ret
              exact ⟨by rw [H.out]; rfl, bl_step HB7.out hb⟩
            | true =>
              have Hv := Lib.hid hv
              clear hv 
              go_wp2
              go_roundw
              case rel => exact ⟨k + 1, by omega, by go_num, fun j y hj hy => (Nat.lt_succ_iff_lt_or_eq.1 hj).elim (fun h => Hall.out j y h hy) (fun h => by subst h; rw [Hx.out] at hy; cases hy; exact Hv.out), hb⟩
              case measure => simp [intOf]; omega
          | v =>
            have hix := ix_str h k hlt _ hch
            clear hch
            go_wp2_with fail
            refine (rgood_any s.v _).mono ?_
            rintro e w8 ⟨rfl, hb8⟩
            cases hv : goodV s.v with
            | false =>
              have H := Lib.hid (show rgoodS s = false by unfold rgoodS; rw [allF_hit Hx.out hv]; simp)
              clear hv 
              go_wp2
              go_ret
              exact ⟨by rw [H.out]; rfl, bl_step HB7.out (bl_step hb hb8)⟩
            | true =>
              have Hv := Lib.hid hv
              clear hv 
              go_wp2
              go_roundw
              case rel => exact ⟨k + 1, by omega, by go_num, fun j y hj hy => (Nat.lt_succ_iff_lt_or_eq.1 hj).elim (fun h => Hall.out j y h hy) (fun h => by subst h; rw [Hx.out] at hy; cases hy; exact Hv.out), (bl_step hb hb8)⟩
              case measure => simp [intOf]; omega
          | w =>
            have hix := ix_str h k hlt _ hch
            clear hch
            go_wp2_with fail
            refine (rgood_any s.w _).mono ?_
            rintro e w8 ⟨rfl, hb8⟩
            cases hv : goodV s.w with
            | false =>
              have H := Lib.hid (show rgoodS s = false by unfold rgoodS; rw [allF_hit Hx.out hv]; simp)
              clear hv 
              go_wp2
              go_ret
              exact ⟨by rw [H.out]; rfl, bl_step HB7.out (bl_step hb hb8)⟩
            | true =>
              have Hv := Lib.hid hv
              clear hv 
              go_wp2
              go_roundw
              case rel => exact ⟨k + 1, by omega, by go_num, fun j y hj hy => (Nat.lt_succ_iff_lt_or_eq.1 hj).elim (fun h => Hall.out j y h hy) (fun h => by subst h; rw [Hx.out] at hy; cases hy; exact Hv.out), (bl_step hb hb8)⟩
              case measure => simp [intOf]; omega
          | r =>
            have hix := ix_str h k hlt _ hch
            clear hch
            go_wp2_with fail
            refine (rgoods_any A n c s.row _ (HR.out.keep (bl_step HB7.out hb))).mono ?_
            rintro e w8 ⟨rfl, hb8⟩
            cases hv : (decide (s.row.length ≤ 6) && s.row.all goodV) with
            | false =>
              have H := Lib.hid (show rgoodS s = false by unfold rgoodS; rw [allF_hit Hx.out hv]; simp)
              clear hv 
              go_wp2
              go_ret
              exact ⟨by rw [H.out]; rfl, bl_step HB7.out (bl_step hb hb8)⟩
            | true =>
              have Hv := Lib.hid hv
              clear hv 
              go_wp2
              go_roundw
              case rel => exact ⟨k + 1, by omega, by go_num, fun j y hj hy => (Nat.lt_succ_iff_lt_or_eq.1 hj).elim (fun h => Hall.out j y h hy) (fun h => by subst h; rw [Hx.out] at hy; cases hy; exact Hv.out), (bl_step hb hb8)⟩
              case measure => simp [intOf]; omega
          | d =>
            have hix := ix_str h k hlt _ hch
            clear hch
            go_wp2_with fail
            refine (rgoodCs_any A' m d s.cols _ (HC.out.keep (bl_step HB7.out hb))).mono ?_
            rintro e w8 ⟨rfl, hb8⟩
            cases hv : goodCs s.cols with
            | false =>
              have H := Lib.hid (show rgoodS s = false by unfold rgoodS; rw [allF_hit Hx.out hv]; simp)
              clear hv 
              go_wp2
              go_ret
              exact ⟨by rw [H.out]; rfl, bl_step HB7.out (bl_step hb hb8)⟩
            | true =>
              have Hv := Lib.hid hv
              clear hv 
              go_wp2
              go_roundw
              case rel => exact ⟨k + 1, by omega, by go_num, fun j y hj hy => (Nat.lt_succ_iff_lt_or_eq.1 hj).elim (fun h => Hall.out j y h hy) (fun h => by subst h; rw [Hx.out] at hy; cases hy; exact Hv.out), (bl_step hb hb8)⟩
              case measure => simp [intOf]; omega
          | o =>
            have hix := ix_str h k hlt _ hch
            clear hch
            have hlm := HC.out.1
            by_cases h1 : m = 1
            · subst h1
              have HO := Lib.hid (show goodF s .o = goodCs s.cols by unfold goodF; rw [hlm]; simp)
              clear hlm
              go_wp2_with fail
              refine (rgoodCs_any A' 1 d s.cols _ (HC.out.keep (bl_step HB7.out hb))).mono ?_
              rintro e w8 ⟨rfl, hb8⟩
              cases hv : goodCs s.cols with
              | false =>
                have H := Lib.hid (show rgoodS s = false by unfold rgoodS; rw [allF_hit Hx.out (HO.out.trans hv)]; simp)
                clear hv 
                go_wp2
                go_ret
                exact ⟨by rw [H.out]; rfl, bl_step HB7.out (bl_step hb hb8)⟩
              | true =>
                have Hv := Lib.hid hv
                clear hv 
                go_wp2
                go_roundw
                case rel => exact ⟨k + 1, by omega, by go_num, fun j y hj hy => (Nat.lt_succ_iff_lt_or_eq.1 hj).elim (fun h => Hall.out j y h hy) (fun h => by subst h; rw [Hx.out] at hy; cases hy; exact HO.out.trans Hv.out), (bl_step hb hb8)⟩
                case measure => simp [intOf]; omega
            · have H := Lib.hid (show rgoodS s = false by
                unfold rgoodS; rw [allF_hit Hx.out (show goodF s .o = false by unfold goodF; rw [hlm]; simp [h1])]; simp)
              have h7 : ((m : Int) == 1) = false := by simp; omega
              clear hlm h1
              go_wp2
              go_ret
              exact ⟨by rw [H.out]; rfl, bl_step HB7.out hb⟩
          | f =>
            have hix := ix_str h k hlt _ hch
            clear hch
            go_wp2
            go_roundw
            case rel => exact ⟨k + 1, by omega, by go_num, fun j y hj hy => (Nat.lt_succ_iff_lt_or_eq.1 hj).elim (fun h => Hall.out j y h hy) (fun h => by subst h; rw [Hx.out] at hy; cases hy; rfl), hb⟩
            case measure => simp [intOf]; omega
        · obtain rfl : k = h.size := by omega
          have H := Lib.hid (show rgoodS s = true by
            unfold rgoodS
            rw [show kindOK s.k = true by unfold kindOK; exact decide_eq_true HK.out, Hq.out, allF_none (fun j y hj hy => Hall.out j y (by rw [Hl.out]; exact hj) hy)]; rfl)
          go_wp2
          go_ret
          exact ⟨by rw [H.out]; rfl, bl_step HB7.out hb⟩
  · have H := Lib.hid (show rgoodS s = false by unfold rgoodS kindOK; rw [decide_eq_false hk]; rfl)
    have hk' : s.k < 1 ∨ 17 < s.k := by omega
    clear hk
    rcases hk' with h | h
    · go_enter Try.func15, Try.ntmps15
      go_upto_region 1 with fail
      have HB := Lib.hid (show Below w.heap.size w (w.alloc (.cells (s.row16 (.slice A n c) (.slice A' m d)) 28)) by (repeat (first | assumption | exact Below.refl _ _ | refine bl_drewN ?_ _ | refine bl_drew ?_ | refine bl_alloc ?_ _ | refine bl_step ?_ (by assumption))))
      have B0 := Lib.hid (blk_new w (.cells (s.row16 (.slice A n c) (.slice A' m d)) 28))
      generalize w.alloc (.cells (s.row16 (.slice A n c) (.slice A' m d)) 28) = W at HB B0 ⊢
      obtain ⟨k1, f1⟩ := blk_rules B0.out
      go_quiet (fail)
      go_wp2
      go_ret
      exact ⟨by rw [H.out]; rfl, below_drewN HB.out _⟩
    · have h0 : decide (s.k < 1) = false := by simp; omega
      have h1 : decide (17 < s.k) = true := by simp; omega
      go_enter Try.func15, Try.ntmps15
      go_upto_region 1 with fail
      have HB := Lib.hid (show Below w.heap.size w (w.alloc (.cells (s.row16 (.slice A n c) (.slice A' m d)) 28)) by (repeat (first | assumption | exact Below.refl _ _ | refine bl_drewN ?_ _ | refine bl_drew ?_ | refine bl_alloc ?_ _ | refine bl_step ?_ (by assumption))))
      have B0 := Lib.hid (blk_new w (.cells (s.row16 (.slice A n c) (.slice A' m d)) 28))
      generalize w.alloc (.cells (s.row16 (.slice A n c) (.slice A' m d)) 28) = W at HB B0 ⊢
      obtain ⟨k1, f1⟩ := blk_rules B0.out
      go_quiet (fail)
      go_wp2
      go_ret
      exact ⟨by rw [H.out]; rfl, below_drewN HB.out _⟩
end Go.Proofs.Ytbmaeaknlpgdmaa
