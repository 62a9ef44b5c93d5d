/- A row more. -/
import Derived.Test.YtbmaeaknlpgdmaaGreatA18
namespace Go.Proofs.YtbmaeaknlpgdmaaGreat
open Go.RowKit Go.Sort
set_option linter.unusedVariables false
set_option linter.unusedSimpArgs false
/-- What unique answers of a table and rows. -/
def UniqOK (t : Tb) (rows : List (List Vl)) (b : Bool) : Prop := ∀ (D D' : Nat → Prop) (w : World) (tb : Nat) (A : Option Addr) (n c : Nat), TbAt D w tb t → RowsD D' w (.slice A n c) rows → Pure Tryz.prog 92 #[.pointer (some ⟨tb, 0, none⟩), .slice A n c] w (.bool b)
theorem uniqOK_nil {t : Tb} {rows : List (List Vl)} (h : t.idx = []) : UniqOK t rows true := fun D _ w tb A n c ht _ => unique_nil D tb t A n c w ht h
/-- A reply's numbers, and the table behind it. -/
structure TRep where
  code : Int
  n : Int
  t : Tb
def insT (t : Tb) (r : List Vl) (b : Bool) : TRep :=
  if fillE t.cols r ≠ 0 then ⟨fillE t.cols r, 0, t⟩ else if b = false then ⟨70, 0, t⟩ else if 512 < t.rows.length + 1 then ⟨74, 0, t⟩ else ⟨0, 1, { t with rows := t.rows ++ [padL t.cols r] }⟩
/-- What a statement leaves that tells no rows. -/
def TPost (D : Nat → Prop) (tb : Nat) (x : TRep) (w : World) (e : Ending) (w' : World) : Prop :=
  e = .returned (replyV x.code x.n (.slice none 0 0)) ∧ TbAt (Dn D w w') w' tb x.t ∧ Fr D w w'
theorem rowsD_snoc {D : Nat → Prop} {w : World} {ds : List Sl} {V : Value} {rs : List (List Vl)} {x : Sl} {r : List Vl} (hV : SlD Sl.cs 1 34 D w V (ds ++ [x])) (hl : ds.length = rs.length)
    (hr : ∀ (i : Nat) (s : Sl) (r : List Vl), ds[i]? = some s → rs[i]? = some r → SlD Vl.cs 4 33 D w s.v r) (hx : SlD Vl.cs 4 33 D w x.v r) : RowsD D w V (rs ++ [r]) := by
  refine ⟨ds ++ [x], hV, by simp [hl], fun i s r' h1 h2 => ?_⟩
  by_cases hi : i < ds.length
  · rw [List.getElem?_append_left hi] at h1
    rw [List.getElem?_append_left (by omega)] at h2
    exact hr i s r' h1 h2
  · have := (List.getElem?_eq_some_iff.1 h1).1
    rw [List.length_append] at this
    simp at this
    have hi' : i = ds.length := by omega
    subst hi'
    rw [List.getElem?_append_right (Nat.le_refl _), Nat.sub_self] at h1
    rw [List.getElem?_append_right (by omega), hl, Nat.sub_self] at h2
    simp at h1 h2
    subst h1 h2
    exact hx
set_option maxRecDepth 100000 in
set_option maxHeartbeats 8000000 in
theorem insert_any (D : Nat → Prop) (tb : Nat) (t : Tb) (mp : Value) (s : St) (A : Option Addr) (m c : Nat) (C : Value) (w : World) (b : Bool) (h : TbAt D w tb t) (hr : RdV w A m s.row) (hc6 : t.cols.length ≤ 1000) (hr512 : t.rows.length ≤ 1000)
    (hu : UniqOK t (t.rows ++ [padL t.cols s.row]) b) :
    Calls Tryz.prog 38 #[mp, .pointer (some ⟨tb, 0, none⟩), s.agg (.slice A m c) C] w (TPost D tb (insT t s.row b) w) := by
  have HT := Lib.hid h
  have HR := Lib.hid hr
  have HU := Lib.hid hu
  clear hu
  obtain ⟨ib, CC, RR, h1, h2, h3, h4, h5, h6⟩ := h
  obtain ⟨Ac, cc, rfl, hcd, _⟩ := h4.rd cl_len
  have HC := Lib.hid hcd
  obtain ⟨ds, hd1, hd2, hd3⟩ := h5
  obtain ⟨Ar, cr, rfl, hrd, _⟩ := hd1.rd sl_len
  obtain ⟨nr, hnr⟩ : ∃ nr, ds.length = nr := ⟨_, rfl⟩
  rw [hnr] at hrd h3 hd1
  have HRD := Lib.hid hrd
  have HD1 := Lib.hid hd1
  have HD3 := Lib.hid hd3
  have HNR := Lib.hid hnr
  have HNT := Lib.hid (show nr = t.rows.length by rw [← hnr, hd2])
  have hnr2 : nr ≤ 1000 := by omega
  clear hd3 hnr hd2 hd1 hrd
  have hlt := blk_lt h3
  have H3 := Lib.hid h3
  have h1' := Lib.hid h1
  clear h1 h2 h3 h4 h6 hcd hr
  go_enter Tryz.func38, Tryz.ntmps38
  go_upto_region 1 with fail
  have PS := blk_old (blk_new w (.cells (s.row16 (.slice A m c) C) 37)) (.cells #[.int .i64 0, .int .i64 0, .slice none 0 0] 29)
  have PQ := blk_new (w.alloc (.cells (s.row16 (.slice A m c) C) 37)) (.cells #[.int .i64 0, .int .i64 0, .slice none 0 0] 29)
  rw [szal] at PQ
  have PT := blk_old (blk_old H3.out (.cells (s.row16 (.slice A m c) C) 37)) (.cells #[.int .i64 0, .int .i64 0, .slice none 0 0] 29)
  have PL : Below w.heap.size w ((w.alloc (.cells (s.row16 (.slice A m c) C) 37)).alloc (.cells #[.int .i64 0, .int .i64 0, .slice none 0 0] 29)) := by (repeat (first | assumption | exact Below.refl _ _ | refine bl_drewN ?_ _ | refine bl_drew ?_ | refine bl_alloc ?_ _ | refine bl_step ?_ (by assumption)))
  generalize (w.alloc (.cells (s.row16 (.slice A m c) C) 37)).alloc (.cells #[.int .i64 0, .int .i64 0, .slice none 0 0] 29) = W0 at PS PQ PT PL ⊢
  have HQ := Lib.hid PQ
  have HT0 := Lib.hid PT
  have HL := Lib.hid PL
  have HS0 := Lib.hid PS
  have HK1 := Lib.hid ((blk_rules PT).1)
  have HK2 := Lib.hid ((blk_rules PS).1)
  clear PS PQ PT PL
  go_region_held3 (fun w' => (∀ j, w'.cell? ⟨tb, j, none⟩ = (#[.slice Ac t.cols.length cc, .slice Ar nr cr, .map (some ib)] : Array Value)[j]?) ∧ (∀ j, w'.cell? ⟨w.heap.size, j, none⟩ = (s.row16 (.slice A m c) C)[j]?)) (first | exact ⟨HK1.out, HK2.out⟩ | exact ⟨R1, R2⟩)
    (first | (go_at_call 90; refine (fill_any Ac A _ m cc c t.cols s.row _ (HC.out.keep (bl_drew HL.out)) (HR.out.keep (bl_drew HL.out)) hc6).mono ?_; rintro e w1 ⟨A1, n1, c1, rfl, hb1, hfill⟩; have HL1 := Lib.hid (bl_step (bl_drew HL.out) hb1); have HQ1 := Lib.hid (blk_below (w := W0.drew) HQ.out hb1); have HT1 := Lib.hid (blk_below (w := W0.drew) HT0.out hb1); have HS1 := Lib.hid (blk_below (w := W0.drew) HS0.out hb1); have HFI := Lib.hid hfill; have HB1 := Lib.hid hb1; have R1 := (blk_rules HT1.out).1; have R2 := (blk_rules HS1.out).1; clear hfill hb1))
  clear R1 R2
  by_cases hf : fillE t.cols s.row = 0
  · have hcase : n1 = t.cols.length ∧ Own Vl.cs 4 33 w1 W0.drew.heap.size (.slice A1 n1 c1) (padL t.cols s.row) := by
      rcases HFI.out with ⟨_, h1, h2⟩ | h
      · exact ⟨h1, h2⟩
      · exact absurd hf h
    have HN1 := Lib.hid hcase.1
    have HO1 := Lib.hid hcase.2
    have hf' : (fillE t.cols s.row == 0) = true := by simpa using hf
    have hf'' : (fillE t.cols s.row != 0) = false := by simpa using hf
    have HF := Lib.hid hf
    obtain ⟨k1, f1⟩ := blk_rules HT1.out
    have hz1 := blk_lt HT1.out
    clear hcase hf
    go_wp2_with fail
    refine (cloneR Ar nr cr ds _ (HRD.out.keep HL1.out) (by omega)).mono ?_
    rintro e w2 ⟨A2, c2, rfl, hown2, hb2⟩
    have HO2 := Lib.hid hown2
    have HB2 := Lib.hid hb2
    have HL2 := Lib.hid (bl_step HL1.out hb2)
    clear hown2 hb2 k1 f1
    go_wp2_with (at_builtin; go_loud (refine wp_app (cs := Sl.cs) (size := 1) sl_len (by omega) sl_one rfl (.tmp 28) (.tmp 30) _ rfl w1.heap.size 34 _ 24 Tryz.uRows Tryz.iRow rfl (.slice A2 nr c2) ds rfl (HO2.out.alloc_ _) (some ⟨w2.heap.size, 0, none⟩) 1 1 [⟨A1, n1, c1⟩] rfl (rd_one rfl (blk_new w2 _)) (by rw [HNR.out]; omega) (by rw [HNR.out]; omega) (by have := HB2.out.size; simp; omega) ?_))
    intro A3 c3 w3 hown3 hg3 hat3
    rw [HNR.out] at hown3 ⊢
    have hb3 : Below w1.heap.size w1 w3 := below_own (bl_alloc HB2.out _) hg3 (fun g hg => (HO2.out.lt g hg).1)
    have hb30 : Below w2.heap.size w2 w2 := Below.refl _ _
    have HL3 := Lib.hid (bl_step HL1.out hb3)
    have HQ3 := Lib.hid (blk_below HQ1.out hb3)
    have HT3 := Lib.hid (blk_below HT1.out hb3)
    have HO3 := Lib.hid hown3
    have HR3 := Lib.hid (show RowsD (fun g => D g ∨ w.heap.size ≤ g) w3 (.slice A3 (nr + 1) c3) (t.rows ++ [padL t.cols s.row]) from by
      refine rowsD_snoc (ds := ds) (x := ⟨A1, n1, c1⟩) ?_ (by rw [HNR.out]; exact HNT.out) (fun i s' r' h1 h2 => ((HD3.out i s' r' h1 h2).keep HL3.out).mono fun g _ hg => .inl hg) ?_
      · exact SlD.of_own HO3.out (fun g hg _ => .inr (by have := HL1.out.size; omega))
      · exact SlD.of_own (HO1.out.kept hb3) (fun g hg _ => .inr (by have := HL.out.size; have h0 : W0.drew.heap.size = W0.heap.size := rfl; omega)))
    clear hown3 hg3 hat3 hb3 hb30
    go_wp2_with fail
    refine (HU.out D _ _ tb A3 (nr + 1) c3 (HT.out.keep HL3.out) HR3.out).mono ?_
    rintro e w4 ⟨rfl, hb4⟩
    have HL4 := Lib.hid (bl_step HL3.out hb4)
    have HQ4 := Lib.hid (blk_below HQ3.out hb4)
    have HT4 := Lib.hid (blk_below HT3.out hb4)
    have HR4 := Lib.hid (HR3.out.keep hb4)
    clear hb4
    obtain ⟨k1, f1⟩ := blk_rules HQ4.out
    have hz4 := blk_lt HQ4.out
    cases b with
    | false =>
      have HE := Lib.hid (show insT t s.row false = ⟨70, 0, t⟩ by unfold insT; rw [if_neg (by rw [HF.out]; simp), if_pos rfl])
      go_wp2_with fail
      refine (code_any _ _).mono ?_
      rintro e w9 ⟨rfl, hb9⟩
      have HQ9 := Lib.hid (blk_below HQ4.out hb9)
      have HL9 := Lib.hid (bl_step HL4.out hb9)
      clear k1 f1 hb9
      obtain ⟨k1, f1⟩ := blk_rules HQ9.out
      have hz9 := blk_lt HQ9.out
      go_wp2
      have HLF := bl_set (p := ⟨w.heap.size + 1, 2, none⟩) (bl_set (p := ⟨w.heap.size + 1, 1, none⟩) (bl_set (p := ⟨w.heap.size + 1, 0, none⟩) HL9.out (by simp) (.int .i64 70)) (by simp) (.int .i64 0)) (by simp) (.slice none 0 0)
      exact bodyPost_ret (results_blk (T := 29) (b := w.heap.size + 1) rfl (fun _ => by kernel_rfl) (fun _ => by kernel_rfl) _ rfl (blk_set3 rfl HQ9.out _ _ _)) rfl (by rw [HE.out]; exact ⟨rfl, HT.out.dn HLF, fr_below HLF⟩)
    | true =>
      by_cases h5 : 512 < nr + 1
      · have HE := Lib.hid (show insT t s.row true = ⟨74, 0, t⟩ by unfold insT; rw [if_neg (by rw [HF.out]; simp), if_neg (by simp), if_pos (by rw [← HNT.out]; exact h5)])
        have h5' : (512 : Int) < (nr : Int) + 1 := by omega
        go_wp2_with fail
        refine (code_any _ _).mono ?_
        rintro e w9 ⟨rfl, hb9⟩
        have HQ9 := Lib.hid (blk_below HQ4.out hb9)
        have HL9 := Lib.hid (bl_step HL4.out hb9)
        clear k1 f1 hb9
        obtain ⟨k1, f1⟩ := blk_rules HQ9.out
        have hz9 := blk_lt HQ9.out
        go_wp2
        have HLF := bl_set (p := ⟨w.heap.size + 1, 2, none⟩) (bl_set (p := ⟨w.heap.size + 1, 1, none⟩) (bl_set (p := ⟨w.heap.size + 1, 0, none⟩) HL9.out (by simp) (.int .i64 74)) (by simp) (.int .i64 0)) (by simp) (.slice none 0 0)
        exact bodyPost_ret (results_blk (T := 29) (b := w.heap.size + 1) rfl (fun _ => by kernel_rfl) (fun _ => by kernel_rfl) _ rfl (blk_set3 rfl HQ9.out _ _ _)) rfl (by rw [HE.out]; exact ⟨rfl, HT.out.dn HLF, fr_below HLF⟩)
      · have HE := Lib.hid (show insT t s.row true = ⟨0, 1, { t with rows := t.rows ++ [padL t.cols s.row] }⟩ by unfold insT; rw [if_neg (by rw [HF.out]; simp), if_neg (by simp), if_neg (by rw [← HNT.out]; exact h5)])
        have h5' : (nr : Int) + 1 ≤ 512 := by omega
        obtain ⟨k2, f2⟩ := blk_rules HT4.out
        have htb : tb ≠ w.heap.size + 1 := by omega
        have hz5 := blk_lt HT4.out
        go_wp2
        have hq4 := blk_far (p := ⟨tb, 1, none⟩) HQ4.out (Ne.symm htb) (.slice A3 (nr + 1) c3)
        have hfr : Fr D w ((((w4.setCell ⟨tb, 1, none⟩ (.slice A3 (nr + 1) c3)).setCell ⟨w.heap.size + 1, 0, none⟩ (.int .i64 0)).setCell ⟨w.heap.size + 1, 1, none⟩ (.int .i64 1)).setCell ⟨w.heap.size + 1, 2, none⟩ (.slice none 0 0)) :=
          fr_set (p := ⟨w.heap.size + 1, 2, none⟩) (fr_set (p := ⟨w.heap.size + 1, 1, none⟩) (fr_set (p := ⟨w.heap.size + 1, 0, none⟩) (fr_set (p := ⟨tb, 1, none⟩) (fr_below HL4.out) (.inl h1'.out) _) (.inr (by simp)) _) (.inr (by simp)) _) (.inr (by simp)) _
        have hta := (((HT.out.keep HL4.out).rows_ (D' := fun g => D g ∨ w.heap.size ≤ g) (fun g hg => .inl hg) HR4.out).set3 rfl hq4 (.int .i64 0) (.int .i64 1) (.slice none 0 0)).mono (D' := Dn D w ((((w4.setCell ⟨tb, 1, none⟩ (.slice A3 (nr + 1) c3)).setCell ⟨w.heap.size + 1, 0, none⟩ (.int .i64 0)).setCell ⟨w.heap.size + 1, 1, none⟩ (.int .i64 1)).setCell ⟨w.heap.size + 1, 2, none⟩ (.slice none 0 0))) (fun g hg1 hg2 => hg2.elim .inl fun hg2 => .inr ⟨hg2, hg1⟩)
        exact bodyPost_ret (results_blk (T := 29) (b := w.heap.size + 1) rfl (fun _ => by kernel_rfl) (fun _ => by kernel_rfl) _ rfl (blk_set3 rfl hq4 _ _ _)) rfl (by rw [HE.out]; exact ⟨rfl, hta, hfr⟩)
  · have HE := Lib.hid (show insT t s.row b = ⟨fillE t.cols s.row, 0, t⟩ from if_pos hf)
    have hf' : (fillE t.cols s.row == 0) = false := by simpa using hf
    have hf'' : (fillE t.cols s.row != 0) = true := by simpa using hf
    obtain ⟨k1, f1⟩ := blk_rules HQ1.out
    have hz1 := blk_lt HQ1.out
    clear hf
    go_wp2_with fail
    refine (code_any _ _).mono ?_
    rintro e w9 ⟨rfl, hb9⟩
    have HQ9 := Lib.hid (blk_below HQ1.out hb9)
    have HL9 := Lib.hid (bl_step HL1.out hb9)
    clear k1 f1 hb9
    obtain ⟨k1, f1⟩ := blk_rules HQ9.out
    have hz9 := blk_lt HQ9.out
    go_wp2
    have HLF := bl_set (p := ⟨w.heap.size + 1, 2, none⟩) (bl_set (p := ⟨w.heap.size + 1, 1, none⟩) (bl_set (p := ⟨w.heap.size + 1, 0, none⟩) HL9.out (by simp) (.int .i64 (fillE t.cols s.row))) (by simp) (.int .i64 0)) (by simp) (.slice none 0 0)
    exact bodyPost_ret (results_blk (T := 29) (b := w.heap.size + 1) rfl (fun _ => by kernel_rfl) (fun _ => by kernel_rfl) _ rfl (blk_set3 rfl HQ9.out _ _ _)) rfl (by rw [HE.out]; exact ⟨rfl, HT.out.dn HLF, fr_below HLF⟩)
end Go.Proofs.YtbmaeaknlpgdmaaGreat
