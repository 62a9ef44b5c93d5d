/- A statement's bytes: the program's answer. -/
import Derived.Test.YtbmaeaknlpgdmaaA23
import Derived.Test.YtbmaeaknlpgdmaaA16
import Derived.Test.YtbmaeaknlpgdmaaA17
namespace Go.Proofs.Ytbmaeaknlpgdmaa
open Go.RowKit
set_option linter.unusedVariables false
set_option linter.unusedSimpArgs false
set_option linter.constructorNameAsVariable false
def encTo (s : St) (s0 : ByteArray) (l : List Fld) : ByteArray := l.foldl (fun b x => b ++ putE s x) s0
/-- A statement's bytes. -/
def encS (s : St) : ByteArray := encTo s (strOfNums [s.k]) (fieldsF s.k)
theorem encTo_snoc {s : St} {s0 : ByteArray} {l : List Fld} {k : Nat} {x : Fld} (h : l[k]? = some x) : encTo s s0 (l.take (k + 1)) = encTo s s0 (l.take k) ++ putE s x := by
  rw [take_snoc' h]; unfold encTo; rw [List.foldl_append]; rfl
theorem putE_size {s : St} (hf : Flt s) {x : Fld} (h : goodF s x = true) : (putE s x).size ≤ 1700 := by
  cases x with
  | t => have := (nameB_size (s := s.t) h).2; show (nameE s.t).size ≤ _; rw [nameE_size]; omega
  | n => have := (nameB_size (s := s.nm) h).2; show (nameE s.nm).size ≤ _; rw [nameE_size]; omega
  | c => have := (nameB_size (s := s.c) h).2; show (nameE s.c).size ≤ _; rw [nameE_size]; omega
  | s => have := (nameB_size (s := s.se) h).2; show (nameE s.se).size ≤ _; rw [nameE_size]; omega
  | v => have := encV_size (v := s.v) h; show (encV s.v).size ≤ _; omega
  | w => have := encV_size (v := s.w) h; show (encV s.w).size ≤ _; omega
  | r =>
    obtain ⟨h1, h2⟩ := good_row hf h
    have := catTo_size (s0 := strOfNums [(s.row.length : Int)]) h1
    rw [strOfNums_size] at this
    simp only [List.length_cons, List.length_nil] at this
    show (encRow s.row).size ≤ _
    unfold encRow
    omega
  | d =>
    obtain ⟨h1, h2⟩ := good_cols hf h
    have := colsTo_size (s0 := strOfNums [(s.cols.length : Int)]) h1
    rw [strOfNums_size] at this
    simp only [List.length_cons, List.length_nil] at this
    show (colsE s.cols).size ≤ _
    unfold colsE
    omega
  | o =>
    obtain ⟨h1, h2⟩ := good_cols hf (by unfold goodF at h; simp only [Bool.and_eq_true] at h; exact h.2)
    have := colsTo_size (s0 := strOfNums [(s.cols.length : Int)]) h1
    rw [strOfNums_size] at this
    simp only [List.length_cons, List.length_nil] at this
    show (colsE s.cols).size ≤ _
    unfold colsE
    omega
  | f => show (flagE s.fl).size ≤ _; rw [flagE_size]; omega
theorem encTo_size {s : St} (hf : Flt s) {l : List Fld} (h : ∀ x ∈ l, goodF s x = true) (s0 : ByteArray) : (encTo s s0 l).size ≤ s0.size + 1700 * l.length := by
  induction l generalizing s0 with
  | nil => simp [encTo]
  | cons c l ih =>
    have h1 := ih (fun x hx => h x (List.mem_cons_of_mem _ hx)) (s0 ++ putE s c)
    have h2 := putE_size hf (h c (List.mem_cons_self ..))
    have h3 : encTo s s0 (c :: l) = encTo s (s0 ++ putE s c) l := rfl
    rw [h3]
    rw [ByteArray.size_append] at h1
    simp only [List.length_cons]
    omega
theorem goodS_all {s : St} (h : goodS s = true) : (1 ≤ s.k ∧ s.k ≤ 17) ∧ ∀ x ∈ fieldsF s.k, goodF s x = true := by
  unfold goodS at h
  simp only [Bool.and_eq_true, List.all_eq_true, kindOK, decide_eq_true_eq] at h
  exact ⟨h.1.1, h.2⟩
set_option maxRecDepth 100000 in
set_option maxHeartbeats 4000000 in
theorem sencode_no (s : St) (A A' : Option Addr) (n c m d : Nat) (w : World) (hr : RdV w A n s.row) (hc : RdC w A' m s.cols) (hg : goodS s = false) :
    Pure Try.prog 9 #[s.agg (.slice A n c) (.slice A' m d)] w (.tuple #[.string ByteArray.empty, .int .i64 11]) := by
  have HR := Lib.hid hr
  have HC := Lib.hid hc
  have HG := Lib.hid hg
  clear hr hc hg
  go_enter Try.func9, Try.ntmps9
  go_wp2_with fail
  refine (goodS_any s A A' n c m d _ (HR.out.keep (by (repeat (first | assumption | exact Below.refl _ _ | refine bl_drewN ?_ _ | refine bl_drew ?_ | refine bl_alloc ?_ _ | refine bl_step ?_ (by assumption))))) (HC.out.keep (by (repeat (first | assumption | exact Below.refl _ _ | refine bl_drewN ?_ _ | refine bl_drew ?_ | refine bl_alloc ?_ _ | refine bl_step ?_ (by assumption)))))).mono ?_
  rintro e w1 ⟨rfl, hb1⟩
  rw [HG.out]
  go_wp2
  go_ret2
  exact ⟨rfl, by (repeat (first | assumption | exact Below.refl _ _ | refine bl_drewN ?_ _ | refine bl_drew ?_ | refine bl_alloc ?_ _ | refine bl_step ?_ (by assumption)))⟩
set_option maxRecDepth 100000 in
set_option maxHeartbeats 4000000 in
theorem sencode_yes (s : St) (A A' : Option Addr) (n c m d : Nat) (w : World) (hr : RdV w A n s.row) (hc : RdC w A' m s.cols) (hf : Flt s) (hg : goodS s = true) :
    Pure Try.prog 9 #[s.agg (.slice A n c) (.slice A' m d)] w (.tuple #[.string (encS s), .int .i64 0]) := by
  have HR := Lib.hid hr
  have HC := Lib.hid hc
  have HG := Lib.hid hg
  have HF := Lib.hid hf
  have HA := Lib.hid (goodS_all hg).2
  obtain ⟨hk1, hk2⟩ := (goodS_all hg).1
  clear hr hc hg hf
  have hcv := conv1
  have hwr : IntKind.u8.wrap s.k = s.k := by rw [IntKind.wrap_u8]; omega
  go_enter Try.func9, Try.ntmps9
  go_wp2_with fail
  refine (goodS_any s A A' n c m d _ (HR.out.keep (by (repeat (first | assumption | exact Below.refl _ _ | refine bl_drewN ?_ _ | refine bl_drew ?_ | refine bl_alloc ?_ _ | refine bl_step ?_ (by assumption))))) (HC.out.keep (by (repeat (first | assumption | exact Below.refl _ _ | refine bl_drewN ?_ _ | refine bl_drew ?_ | refine bl_alloc ?_ _ | refine bl_step ?_ (by assumption)))))).mono ?_
  rintro e w1 ⟨rfl, hb1⟩
  rw [HG.out]
  have B1 := Lib.hid (blk_below (blk_new w _) hb1)
  have hB1 := Lib.hid (show Below w.heap.size w w1 by (repeat (first | assumption | exact Below.refl _ _ | refine bl_drewN ?_ _ | refine bl_drew ?_ | refine bl_alloc ?_ _ | refine bl_step ?_ (by assumption))))
  clear hb1
  obtain ⟨k1, f1⟩ := blk_rules B1.out
  have hz := blk_lt B1.out
  go_wp2_with fail
  refine (fields_any s.k _).mono ?_
  rintro e w2 ⟨rfl, hb2⟩
  have B2 := Lib.hid (blk_below B1.out hb2)
  have hB2 := Lib.hid (bl_step hB1.out hb2)
  clear k1 f1 hz hb2
  obtain ⟨l, hl⟩ : ∃ l, pstr (fieldsF s.k) = l := ⟨_, rfl⟩
  have HL := Lib.hid hl
  rw [hl]
  clear hl
  have Hl := Lib.hid (show l.size = (fieldsF s.k).length by rw [← HL.out, pstr_size])
  have hl5 : l.size ≤ 5 := by have := fieldsF_len s.k; rw [Hl.out]; exact this
  obtain ⟨k1, f1⟩ := blk_rules B2.out
  have hz := blk_lt B2.out
  go_wp2
  have hW : Below w.heap.size w (w2.alloc (.cells #[.int .u8 s.k] 5)) := bl_alloc hB2.out _
  have B3 := Lib.hid (blk_old B2.out (.cells #[.int .u8 s.k] 5))
  have HW := Lib.hid hW
  clear hW k1 f1 hz hcv hwr
  generalize w2.alloc (.cells #[.int .u8 s.k] 5) = W at B3 HW ⊢
  go_loopw [6, 24] (fun b i wr => ∃ k : Nat, k ≤ l.size ∧ i = .int .i64 k ∧ b = .string (encTo s (strOfNums [s.k]) ((fieldsF s.k).take k)) ∧ Below W.heap.size W wr) (fun _ i _ => l.size - (intOf i).toNat)
  case atStart => exact ⟨0, Nat.zero_le _, rfl, rfl, Below.refl _ _⟩
  case round =>
    obtain ⟨k, hk, rfl, rfl, hb⟩ := hrel
    by_cases hlt : k < l.size
    · have hk' : k < (fieldsF s.k).length := by rw [← Hl.out]; exact hlt
      obtain ⟨x, hx⟩ : ∃ x, (fieldsF s.k)[k]? = some x := ⟨_, List.getElem?_eq_getElem hk'⟩
      have Hx := Lib.hid hx
      have hch : l[k] = pcode x := by
        have h2 := (List.getElem?_eq_some_iff.1 hx).2
        have h3 := pstr_get (fieldsF s.k) k (by rw [HL.out]; exact hlt) hk'
        rw [h2] at h3
        rw [← h3]
        have h4 := HL.out
        subst h4
        rfl
      have hix := ix_str l k hlt _ hch
      have hgx := HA.out x (List.mem_of_getElem? hx)
      have hs2 := putE_size HF.out hgx
      have hs1 : (encTo s (strOfNums [s.k]) ((fieldsF s.k).take k)).size ≤ 10000 := by
        have h1 := encTo_size HF.out (l := (fieldsF s.k).take k) (fun y hy => HA.out y (List.mem_of_mem_take hy)) (strOfNums [s.k])
        rw [strOfNums_size, List.length_take] at h1
        simp only [List.length_cons, List.length_nil] at h1
        omega
      have q : ¬ (9223372036854775807 < (encTo s (strOfNums [s.k]) ((fieldsF s.k).take k)).size + (putE s x).size) := by omega
      have Hgx := Lib.hid hgx
      clear hx hch hk' hgx
      obtain ⟨k1, f1⟩ := blk_rules (blk_below B3.out hb)
      have hz := blk_lt (blk_below B3.out hb)
      have hS0 : (∀ j, wr.drew.cell? ⟨w.heap.size, j, none⟩ = (s.row16 (.slice A n c) (.slice A' m d))[j]?) ∧ Below w.heap.size w wr.drew ∧ wr.drew.heap[w.heap.size]? = some (.cells (s.row16 (.slice A n c) (.slice A' m d)) 28 (0, 0)) := ⟨k1, bl_step HW.out (bl_drew hb), blk_below B3.out (bl_drew hb)⟩
      have Hb := Lib.hid hb
      clear hb
      go_upto_region 8 with fail
      go_region_held3 (fun w' => (∀ j, w'.cell? ⟨w.heap.size, j, none⟩ = (s.row16 (.slice A n c) (.slice A' m d))[j]?) ∧ Below w.heap.size w w' ∧ w'.heap[w.heap.size]? = some (.cells (s.row16 (.slice A n c) (.slice A' m d)) 28 (0, 0)))
        (first | assumption | exact S_below (by assumption) hb4)
        (first | (go_at_call 26; refine (put_any s A A' n c m d _ (HR.out.keep hS0.2.1) (HC.out.keep hS0.2.1) HF.out x Hgx.out).mono ?_; rintro e w4 ⟨rfl, hb4⟩))
      all_goals clear k1 f1 hz hix
      all_goals go_wp2
      all_goals go_roundw
      all_goals first
        | exact ⟨k + 1, by omega, by go_num, by rw [encTo_snoc Hx.out], bl_step (bl_drew Hb.out) hb4⟩
        | (simp [intOf]; omega)
    · obtain rfl : k = l.size := by omega
      have E := Lib.hid (show encTo s (strOfNums [s.k]) ((fieldsF s.k).take l.size) = encS s by unfold encS; rw [Hl.out, List.take_length])
      go_wp2
      go_ret2
      exact ⟨by rw [← E.out]; rfl, bl_step HW.out hb⟩
end Go.Proofs.Ytbmaeaknlpgdmaa
