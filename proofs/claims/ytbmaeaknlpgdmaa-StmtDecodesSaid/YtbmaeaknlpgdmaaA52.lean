/- The reference's Decode. -/
import Derived.Test.YtbmaeaknlpgdmaaA50
import Derived.Test.YtbmaeaknlpgdmaaA41
namespace Go.Proofs.Ytbmaeaknlpgdmaa
open Go.RowKit
set_option linter.unusedVariables false
set_option linter.unusedSimpArgs false
set_option linter.constructorNameAsVariable false
set_option maxRecDepth 100000 in
set_option maxHeartbeats 8000000 in
theorem rdecode_R (b : ByteArray) (w : World) (hz : b.size ≤ 100000) (n : Nat) (b1 : ByteArray) (hn : numD b = some (n, b1)) (hF : ∀ (k : Nat) (x : Fld), (fieldsF (n : Int))[k]? = some x → x = .t ∨ x = .r) : Calls Try.prog 16 #[.string b] w (SPost b w) := by
  have HNUM := Lib.hid hn
  have HF := Lib.hid hF
  clear hn hF
  go_enter Try.func16, Try.ntmps16
  go_wp2_with fail
  have R0 := blk_old (blk_new w (.cells #[.int .i64 0, .string ⟨#[]⟩, .string ⟨#[]⟩, .string ⟨#[]⟩, .string ⟨#[]⟩, .int .i64 0, .int .i64 0, .float .f64 0, .string ⟨#[]⟩, .int .i64 0, .int .i64 0, .float .f64 0, .string ⟨#[]⟩, .slice none 0 0, .slice none 0 0, .bool false] 28)) (.cells #[.string b, .int .i64 0, .bool false] 73)
  have RR := blk_new (w.alloc (.cells #[.int .i64 0, .string ⟨#[]⟩, .string ⟨#[]⟩, .string ⟨#[]⟩, .string ⟨#[]⟩, .int .i64 0, .int .i64 0, .float .f64 0, .string ⟨#[]⟩, .int .i64 0, .int .i64 0, .float .f64 0, .string ⟨#[]⟩, .slice none 0 0, .slice none 0 0, .bool false] 28)) (.cells #[.string b, .int .i64 0, .bool false] 73)
  rw [szal] at RR
  have BB : Below w.heap.size w ((w.alloc (.cells #[.int .i64 0, .string ⟨#[]⟩, .string ⟨#[]⟩, .string ⟨#[]⟩, .string ⟨#[]⟩, .int .i64 0, .int .i64 0, .float .f64 0, .string ⟨#[]⟩, .int .i64 0, .int .i64 0, .float .f64 0, .string ⟨#[]⟩, .slice none 0 0, .slice none 0 0, .bool false] 28)).alloc (.cells #[.string b, .int .i64 0, .bool false] 73)) := by (repeat (first | assumption | exact Below.refl _ _ | refine bl_drewN ?_ _ | refine bl_drew ?_ | refine bl_alloc ?_ _ | refine bl_step ?_ (by assumption)))
  generalize ((w.alloc (.cells #[.int .i64 0, .string ⟨#[]⟩, .string ⟨#[]⟩, .string ⟨#[]⟩, .string ⟨#[]⟩, .int .i64 0, .int .i64 0, .float .f64 0, .string ⟨#[]⟩, .int .i64 0, .int .i64 0, .float .f64 0, .string ⟨#[]⟩, .slice none 0 0, .slice none 0 0, .bool false] 28)).alloc (.cells #[.string b, .int .i64 0, .bool false] 73)) = W0 at R0 RR BB ⊢
  refine (one_r (w.heap.size + 1) b 0 false W0 RR (Nat.zero_le _) hz).mono ?_
  rintro e w1 ⟨n', q1, bad1, rfl, hb1, ho1, hq1, hr⟩
  obtain ⟨rfl, rfl, hb1e⟩ : bad1 = false ∧ n = n' ∧ b1 = b.extract q1 b.size := by
    have e0 : b.extract 0 b.size = b := ByteArray.extract_zero_size
    rcases hr with ⟨h1, h⟩ | ⟨_, h⟩
    · have h' : numD (b.extract 0 b.size) = some (n', b.extract q1 b.size) := h
      rw [e0, HNUM.out] at h'
      cases h'
      exact ⟨h1, rfl, rfl⟩
    · have h' : numD (b.extract 0 b.size) = none := h
      rw [e0, HNUM.out] at h'
      cases h'
  have HB1 := Lib.hid hb1e
  clear hr hb1e
  have hsW : w.heap.size + 1 < W0.heap.size := blk_lt RR
  have hs1 : W0.heap.size ≤ w1.heap.size := ho1.size
  have R1 := Lib.hid (off_blk ho1 R0 (by omega) (by omega))
  have HB := Lib.hid hb1
  have HBL := Lib.hid (bl_off BB ho1 (by omega) (by omega))
  clear hb1 ho1 R0 RR BB
  have hs2 : w.heap.size + 1 < w1.heap.size := by omega
  go_wp2_with fail
  have S2 := blk_new w1 (.cells ((zeroSt (n : Int)).row16 (.slice none 0 0) (.slice none 0 0)) 28)
  have R2 := blk_old R1.out (.cells ((zeroSt (n : Int)).row16 (.slice none 0 0) (.slice none 0 0)) 28)
  have Q2 := blk_old HB.out (.cells ((zeroSt (n : Int)).row16 (.slice none 0 0) (.slice none 0 0)) 28)
  have L2 := bl_alloc HBL.out (.cells ((zeroSt (n : Int)).row16 (.slice none 0 0) (.slice none 0 0)) 28)
  refine (has_any (n : Int) _).mono ?_
  rintro e w2 ⟨rfl, hb2⟩
  have S3 := Lib.hid (blk_below S2 hb2)
  have R3 := Lib.hid (blk_below R2 hb2)
  have Q3 := Lib.hid (blk_below Q2 hb2)
  have L3 := Lib.hid (bl_step L2 hb2)
  have hs3 : w1.heap.size < w2.heap.size := blk_lt S3.out
  clear S2 R2 Q2 L2 hb2 R1 HB HBL
  obtain ⟨l, hl⟩ : ∃ l, rstr (fieldsF (n : Int)) = l := ⟨_, rfl⟩
  have HH := Lib.hid hl
  rw [hl]
  clear hl
  have Hl := Lib.hid (show l.size = (fieldsF (n : Int)).length by rw [← HH.out, rstr_size])
  have hl5 : l.size ≤ 5 := by have := fieldsF_len (n : Int); rw [Hl.out]; exact this
  have PS : w1.heap.size + 1 ≤ w2.heap.size := hs3
  go_wp2
  go_loopw [7, 8, 9, 10] (fun i _ _ _ wr => ∃ (k : Nat) (s' : St) (R C : Value) (q : Nat) (bad : Bool), k ≤ l.size ∧ i = .int .i64 k ∧ RB2 (w.heap.size + 1) b q bad wr ∧ InS w1.heap.size (w1.heap.size + 1) s' R C wr ∧
    wr.heap[w.heap.size]? = some (.cells ((zeroSt 0).row16 (.slice none 0 0) (.slice none 0 0)) 28 (0, 0)) ∧ Below w.heap.size w wr ∧ q ≤ b.size ∧ w1.heap.size + 1 ≤ wr.heap.size ∧ (k ≤ 1 → s'.cols = [] ∧ C = .slice none 0 0 ∧ s'.row = [] ∧ R = .slice none 0 0) ∧ DSt b b1 n k s' q bad) (fun i _ _ _ _ => l.size - (intOf i).toNat)
  case atStart =>
    exact ⟨0, zeroSt n, .slice none 0 0, .slice none 0 0, q1, false, Nat.zero_le _, rfl, Q3.out, ⟨S3.out, LS_nil _ _ _ _, LS_nil _ _ _ _⟩, R3.out, L3.out, hq1, PS, fun _ => ⟨rfl, rfl, rfl, rfl⟩, .inl ⟨rfl, by rw [← HB1.out]; rfl⟩⟩
  case round =>
    obtain ⟨k, s', R, C, q, bad, hk, rfl, hrb, hin, hr0, hbl, hq, hlo, hc1, hst⟩ := hrel
    have KB := Lib.hid hrb
    have KI := Lib.hid hin
    have K0 := Lib.hid hr0
    have KL := Lib.hid hbl
    have KC := Lib.hid hc1
    have KD := Lib.hid hst
    clear hrb hin hr0 hbl hc1 hst S3 R3 Q3 L3 HB1
    by_cases hlt : k < l.size
    · have hk' : k < (fieldsF (n : Int)).length := by rw [← Hl.out]; exact hlt
      obtain ⟨x, hx⟩ : ∃ x, (fieldsF (n : Int))[k]? = some x := ⟨_, List.getElem?_eq_getElem hk'⟩
      have Hx := Lib.hid hx
      obtain ⟨_, hch⟩ := rstr_at HH.out hx
      have hix := ix_str l k hlt _ hch
      clear hx hch hk'
      cases x with
      | t =>
        go_wp2_with fail
        refine (name_e (w.heap.size + 1) b q bad wr KB.out hq hz).mono ?_
        rintro e w3 ⟨x, q3, bad3, rfl, hb3, ho3, hq3, hr3⟩
        have HB := Lib.hid hb3
        have HO := Lib.hid ho3
        have H0 := Lib.hid (off_blk ho3 K0.out (by omega) (by omega))
        have HS := Lib.hid (off_blk ho3 KI.out.1 (by omega) (by omega))
        have HL := Lib.hid (bl_off KL.out ho3 (by omega) (by omega))
        have hlo3 : w1.heap.size + 1 ≤ w3.heap.size := Nat.le_trans hlo ho3.size
        have HR := Lib.hid (map_post2 (f := fun y => { s' with t := y }) hr3)
        obtain ⟨k1, f1⟩ := blk_rules HS.out
        clear hb3 ho3 hr3 hix
        go_wp2
        go_roundw
        case rel =>
          have hO : Off (w.heap.size + 1) w1.heap.size wr _ := off_set (p := ⟨w1.heap.size, 1, none⟩) (off_l HO.out) (.inr (.inl rfl)) (.string x)
          exact ⟨k + 1, { s' with t := x }, R, C, q3, bad3, by omega, by go_num, blk_far (p := ⟨w1.heap.size, 1, none⟩) (HB.out) (show w.heap.size + 1 ≠ w1.heap.size by omega) (.string x), ⟨blk_set_eq (HS.out) 1 (.string x) rfl, KI.out.2.1.off hO (by omega) (by omega), KI.out.2.2.off hO (by omega) (by omega)⟩, blk_far (p := ⟨w1.heap.size, 1, none⟩) (H0.out) (show w.heap.size ≠ w1.heap.size by omega) (.string x), bl_set (p := ⟨w1.heap.size, 1, none⟩) (HL.out) (show w.heap.size ≤ w1.heap.size by omega) (.string x), hq3, (by simp only [sz_set]; omega), fun hk1 => KC.out (by omega), dst_step Hx.out KD.out HR.out (fun h => h)⟩
        case measure => simp [intOf]; omega
      | n =>
        have hno := HF.out k _ Hx.out
        simp at hno
      | c =>
        have hno := HF.out k _ Hx.out
        simp at hno
      | s =>
        have hno := HF.out k _ Hx.out
        simp at hno
      | v =>
        have hno := HF.out k _ Hx.out
        simp at hno
      | w =>
        have hno := HF.out k _ Hx.out
        simp at hno
      | r =>
        have HK1 := Lib.hid (r_at Hx.out)
        obtain ⟨k1, f1⟩ := blk_rules KB.out
        have hsb := blk_lt KB.out
        go_wp2_with fail
        refine (rtake_any b q wr (by omega) hz).mono ?_
        rintro e w3 ⟨A3, c3, xs, sz, rfl, hb3, hrd3, hfar3, hr3⟩
        have hlo3 : wr.heap.size ≤ w3.heap.size := hb3.size
        have HB := Lib.hid (blk_below KB.out hb3)
        have H0 := Lib.hid (blk_below K0.out hb3)
        have HS := Lib.hid (blk_below KI.out.1 hb3)
        have HL := Lib.hid (bl_step KL.out hb3)
        have HO : Off (w.heap.size + 1) w1.heap.size wr w3 := off_below (off_refl _ _ _) hb3
        have HD := Lib.hid hrd3
        have HFA := Lib.hid hfar3
        have HR3 := Lib.hid hr3
        obtain ⟨k2, f2⟩ := blk_rules (blk_below KB.out hb3)
        obtain ⟨k3, f3⟩ := blk_rules (blk_below K0.out hb3)
        obtain ⟨k4, f4⟩ := blk_rules (blk_below KI.out.1 hb3)
        have z2 : w.heap.size + 1 < w3.heap.size := by omega
        have z3 : w1.heap.size < w3.heap.size := by omega
        have z4 : w.heap.size < w3.heap.size := by omega
        clear hb3 hrd3 hfar3 hr3 hix k1 f1
        cases bad with
        | true =>
          have N := Lib.hid (decS_no HNUM.out (dst_r_no Hx.out KD.out (.inl rfl)))
          go_wp2
          exact bodyPost_ret (results_blk1 (p := 2) (u := 3) (T := 28) (b := w.heap.size) rfl (fun _ => by kernel_rfl) (fun _ => by kernel_rfl) _ rfl (blk_old (blk_set16 rfl H0.out _ _ _ _ _ _ _ _ _ _ _ _ _ _ _ _) (.cells #[.slice A3 xs.length c3, .int .i64 sz] 77))) rfl (spost_none N.out (bl_alloc (bl_set16 HL.out (Nat.le_refl _) _ _ _ _ _ _ _ _ _ _ _ _ _ _ _ _) (.cells #[.slice A3 xs.length c3, .int .i64 sz] 77)))
        | false =>
          rcases HR3.out with ⟨hz3, hz4, hz5⟩ | ⟨rfl, hz3⟩
          · have HRD := Lib.hid hz5
            have hzz : ((sz : Int) == 0) = false := by simp; omega
            clear hz5
            go_wp2_with fail
            have PB := blk_old (blk_far (p := ⟨w1.heap.size, 13, none⟩) HB.out (show w.heap.size + 1 ≠ w1.heap.size by omega) (.slice A3 xs.length c3)) (.cells #[.slice A3 xs.length c3, .int .i64 sz] 77)
            have P0 := blk_old (blk_far (p := ⟨w1.heap.size, 13, none⟩) H0.out (show w.heap.size ≠ w1.heap.size by omega) (.slice A3 xs.length c3)) (.cells #[.slice A3 xs.length c3, .int .i64 sz] 77)
            have PS1 := blk_old (blk_set_eq (L' := { s' with row := xs }.row16 (.slice A3 xs.length c3) C) HS.out 13 (.slice A3 xs.length c3) rfl) (.cells #[.slice A3 xs.length c3, .int .i64 sz] 77)
            have PT := blk_new_set w3 ⟨w1.heap.size, 13, none⟩ (.slice A3 xs.length c3) (.cells #[.slice A3 xs.length c3, .int .i64 sz] 77)
            have PL := bl_alloc (bl_set (p := ⟨w1.heap.size, 13, none⟩) HL.out (show w.heap.size ≤ w1.heap.size by omega) (.slice A3 xs.length c3)) (.cells #[.slice A3 xs.length c3, .int .i64 sz] 77)
            have PO := off_alloc (off_set (p := ⟨w1.heap.size, 13, none⟩) HO (.inr (.inl rfl)) (.slice A3 xs.length c3)) (.cells #[.slice A3 xs.length c3, .int .i64 sz] 77)
            have PD := (HD.out.off (off_one w1.heap.size 13 (.slice A3 xs.length c3) w3) (fun p hp => by have := HFA.out p hp; omega)).keep (bl_alloc (Below.refl _ _) (.cells #[.slice A3 xs.length c3, .int .i64 sz] 77))
            have PZ : w3.heap.size + 1 ≤ ((w3.setCell ⟨w1.heap.size, 13, none⟩ (.slice A3 xs.length c3)).alloc (.cells #[.slice A3 xs.length c3, .int .i64 sz] 77)).heap.size := by rw [szal, sz_set]; exact Nat.le_refl _
            generalize (w3.setCell ⟨w1.heap.size, 13, none⟩ (.slice A3 xs.length c3)).alloc (.cells #[.slice A3 xs.length c3, .int .i64 sz] 77) = W at PB P0 PS1 PT PL PO PD PZ ⊢
            clear k2 f2 k3 f3 k4 f4 HB H0 HS HL HD
            obtain ⟨k2, f2⟩ := blk_rules PB
            obtain ⟨k3, f3⟩ := blk_rules PT
            have HB := Lib.hid PB
            have H0 := Lib.hid P0
            have HS := Lib.hid PS1
            have HL := Lib.hid PL
            have HW := Lib.hid PO
            have HD := Lib.hid PD
            have z5 : w.heap.size + 1 < W.heap.size := by omega
            have z6 : w3.heap.size < W.heap.size := by omega
            clear PB P0 PS1 PT PL PO PD
            go_still_tail 7, (by kernel_rfl)
            change wpList _ _ _ _ _ W.drew
            go_wp2
            go_roundw
            case rel =>
              have hO : Off (w.heap.size + 1) w1.heap.size wr _ := off_drew (off_set (p := ⟨w.heap.size + 1, 1, none⟩) HW.out (.inl rfl) (.int .i64 ((q : Int) + sz)))
              have hD := (HD.out.off (off_one (w.heap.size + 1) 1 (.int .i64 ((q : Int) + sz)) W) (fun p hp => by have := HFA.out p hp; omega)).keep (bl_drew (Below.refl _ _))
              exact ⟨k + 1, { s' with row := xs }, .slice A3 xs.length c3, C, q + sz, false, by omega, by go_num, blk_drewN (blk_set_eq (L' := #[.string b, .int .i64 ((q : Int) + sz), .bool false]) HB.out 1 (.int .i64 ((q : Int) + sz)) rfl) 1,
                ⟨blk_drewN (blk_far (p := ⟨w.heap.size + 1, 1, none⟩) HS.out (show w1.heap.size ≠ w.heap.size + 1 by omega) _) 1, ⟨A3, c3, rfl, hD, fun p hp => by have := HFA.out p hp; omega⟩, KI.out.2.2.off hO (by omega) (by omega)⟩,
                blk_drewN (blk_far (p := ⟨w.heap.size + 1, 1, none⟩) H0.out (show w.heap.size ≠ w.heap.size + 1 by omega) _) 1, bl_drew (bl_set (p := ⟨w.heap.size + 1, 1, none⟩) HL.out (show w.heap.size ≤ w.heap.size + 1 by omega) _), hz4,
                (by show w1.heap.size + 1 ≤ ((W.setCell ⟨w.heap.size + 1, 1, none⟩ (.int .i64 ((q : Int) + sz))).drew).heap.size; have := hO.size; omega), fun h => absurd HK1.out (by omega),
                dst_step Hx.out KD.out (.inl ⟨rfl, by show (rowD _).map _ = _; rw [HRD.out]; rfl⟩) (fun h => h)⟩
            case measure => simp [intOf]; omega
          · have N := Lib.hid (decS_no HNUM.out (dst_r_no Hx.out KD.out (.inr hz3)))
            clear hz3
            go_wp2
            exact bodyPost_ret (results_blk1 (p := 2) (u := 3) (T := 28) (b := w.heap.size) rfl (fun _ => by kernel_rfl) (fun _ => by kernel_rfl) _ rfl (blk_old (blk_set16 rfl H0.out _ _ _ _ _ _ _ _ _ _ _ _ _ _ _ _) (.cells #[.slice A3 xs.length c3, .int .i64 0] 77))) rfl (spost_none N.out (bl_alloc (bl_set16 HL.out (Nat.le_refl _) _ _ _ _ _ _ _ _ _ _ _ _ _ _ _ _) (.cells #[.slice A3 xs.length c3, .int .i64 0] 77)))
      | d =>
        have hno := HF.out k _ Hx.out
        simp at hno
      | o =>
        have hno := HF.out k _ Hx.out
        simp at hno
      | f =>
        have hno := HF.out k _ Hx.out
        simp at hno
    · obtain rfl : k = l.size := by omega
      have hfull : (fieldsF (n : Int)).take l.size = fieldsF n := by rw [Hl.out, List.take_length]
      obtain ⟨A, c, rfl, hrd, hfr⟩ := KI.out.2.1
      obtain ⟨A', d, rfl, hcd, hfc⟩ := KI.out.2.2
      have HRD := Lib.hid hrd
      have HCD := Lib.hid hcd
      have HFR := Lib.hid hfr
      have HFC := Lib.hid hfc
      obtain ⟨k0, f0⟩ := blk_rules K0.out
      obtain ⟨k1, f1⟩ := blk_rules KB.out
      have hsr := blk_lt KI.out.1
      have hsb := blk_lt KB.out
      have hs0 := blk_lt K0.out
      have hS := KD.out
      unfold DSt at hS
      rw [hfull] at hS
      clear hrd hcd hfr hfc hfull
      cases bad with
      | true =>
        have N := Lib.hid (show decS b = none by
          rcases hS with ⟨h, _⟩ | ⟨_, h⟩
          · cases h
          · exact decS_no HNUM.out h)
        clear hS
        go_wp2
        exact bodyPost_ret (results_blk1 (p := 2) (u := 3) (T := 28) (b := w.heap.size) rfl (fun _ => by kernel_rfl) (fun _ => by kernel_rfl) _ rfl (blk_set16 rfl K0.out _ _ _ _ _ _ _ _ _ _ _ _ _ _ _ _)) rfl (spost_none N.out (bl_set16 KL.out (Nat.le_refl _) _ _ _ _ _ _ _ _ _ _ _ _ _ _ _ _))
      | false =>
        by_cases hqs : q = b.size
        · obtain ⟨g, hg⟩ : ∃ g, rgoodS s' = g := ⟨_, rfl⟩
          have N := Lib.hid (show decS b = if g = true then some s' else none by
            rcases hS with ⟨_, h⟩ | ⟨h1, h2⟩
            · rw [decS_fin HNUM.out h, goodS_eq, hg, extract_sz]
              have e0 : b.size - q = 0 := by omega
              simp [e0]
            · have e1 : g = false := by
                rcases h1 with h1 | h1
                · cases h1
                · rw [← hg, ← goodS_eq]; exact long_no h1
              rw [e1, decS_no HNUM.out h2]; rfl)
          have HG := Lib.hid hg
          clear hS hg
          subst hqs
          go_wp2_with (refine wpl_load16g rfl _ rfl _ rfl rfl KI.out.1 ?_)
          go_wp2_with fail
          refine (rgoodS_any s' A A' s'.row.length c s'.cols.length d _ HRD.out HCD.out).mono ?_
          rintro e w4 ⟨rfl, hb4⟩
          have M0 := Lib.hid (blk_below K0.out hb4)
          have M2 := Lib.hid (blk_below KI.out.1 hb4)
          have ML := Lib.hid (bl_step KL.out hb4)
          have MR := Lib.hid (HRD.out.keep hb4)
          have MC := Lib.hid (HCD.out.keep hb4)
          obtain ⟨k3, f3⟩ := blk_rules M0.out
          have hs4 := blk_lt M2.out
          have hs5 := blk_lt M0.out
          clear k0 f0 k1 f1 hb4
          rw [HG.out]
          cases g with
          | false =>
            go_wp2
            exact bodyPost_ret (results_blk1 (p := 2) (u := 3) (T := 28) (b := w.heap.size) rfl (fun _ => by kernel_rfl) (fun _ => by kernel_rfl) _ rfl (blk_set16 rfl M0.out _ _ _ _ _ _ _ _ _ _ _ _ _ _ _ _)) rfl (spost_none N.out (bl_set16 ML.out (Nat.le_refl _) _ _ _ _ _ _ _ _ _ _ _ _ _ _ _ _))
          | true =>
            go_wp2_with (refine wpl_load16 rfl _ rfl _ rfl rfl M2.out ?_)
            go_wp2
            exact bodyPost_ret (results_blk1 (p := 2) (u := 3) (T := 28) (b := w.heap.size) rfl (fun _ => by kernel_rfl) (fun _ => by kernel_rfl) _ rfl (blk_set16 rfl M0.out _ _ _ _ _ _ _ _ _ _ _ _ _ _ _ _)) rfl (spost_some N.out (MR.out.off (off_set16 w.heap.size w4 _ _ _ _ _ _ _ _ _ _ _ _ _ _ _ _) (fun p hp => by have := HFR.out p hp; omega)) (MC.out.off (off_set16 w.heap.size w4 _ _ _ _ _ _ _ _ _ _ _ _ _ _ _ _) (fun p hp => by have := HFC.out p hp; omega)) (bl_set16 ML.out (Nat.le_refl _) _ _ _ _ _ _ _ _ _ _ _ _ _ _ _ _))
        · have N := Lib.hid (show decS b = none by
            rcases hS with ⟨_, h⟩ | ⟨h1, h2⟩
            · rw [decS_fin HNUM.out h]
              exact if_neg (by rintro ⟨h3, _⟩; rw [extract_sz] at h3; omega)
            · exact decS_no HNUM.out h2)
          have hne : ((q : Int) == (b.size : Int)) = false := by simp; omega
          clear hS
          go_wp2
          exact bodyPost_ret (results_blk1 (p := 2) (u := 3) (T := 28) (b := w.heap.size) rfl (fun _ => by kernel_rfl) (fun _ => by kernel_rfl) _ rfl (blk_set16 rfl K0.out _ _ _ _ _ _ _ _ _ _ _ _ _ _ _ _)) rfl (spost_none N.out (bl_set16 KL.out (Nat.le_refl _) _ _ _ _ _ _ _ _ _ _ _ _ _ _ _ _))
end Go.Proofs.Ytbmaeaknlpgdmaa
