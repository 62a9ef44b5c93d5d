/- The reference's Decode. -/
import Derived.Test.YtbmaeaknlpgdmaaA50
import Derived.Test.YtbmaeaknlpgdmaaA41
namespace Go.Proofs.Ytbmaeaknlpgdmaa
open Go.RowKit
set_option linter.unusedVariables false
set_option linter.unusedSimpArgs false
set_option linter.constructorNameAsVariable false
set_option maxRecDepth 100000 in
set_option maxHeartbeats 8000000 in
theorem rdecode_D (b : ByteArray) (w : World) (hz : b.size ≤ 100000) (n : Nat) (b1 : ByteArray) (hn : numD b = some (n, b1)) (hF : ∀ (k : Nat) (x : Fld), (fieldsF (n : Int))[k]? = some x → x = .t ∨ x = .d) : Calls Try.prog 16 #[.string b] w (SPost b w) := by
  have HNUM := Lib.hid hn
  have HF := Lib.hid hF
  clear hn hF
  go_enter Try.func16, Try.ntmps16
  go_wp2_with fail
  have R0 := blk_old (blk_new w (.cells #[.int .i64 0, .string ⟨#[]⟩, .string ⟨#[]⟩, .string ⟨#[]⟩, .string ⟨#[]⟩, .int .i64 0, .int .i64 0, .float .f64 0, .string ⟨#[]⟩, .int .i64 0, .int .i64 0, .float .f64 0, .string ⟨#[]⟩, .slice none 0 0, .slice none 0 0, .bool false] 28)) (.cells #[.string b, .int .i64 0, .bool false] 73)
  have RR := blk_new (w.alloc (.cells #[.int .i64 0, .string ⟨#[]⟩, .string ⟨#[]⟩, .string ⟨#[]⟩, .string ⟨#[]⟩, .int .i64 0, .int .i64 0, .float .f64 0, .string ⟨#[]⟩, .int .i64 0, .int .i64 0, .float .f64 0, .string ⟨#[]⟩, .slice none 0 0, .slice none 0 0, .bool false] 28)) (.cells #[.string b, .int .i64 0, .bool false] 73)
  rw [szal] at RR
  have BB : Below w.heap.size w ((w.alloc (.cells #[.int .i64 0, .string ⟨#[]⟩, .string ⟨#[]⟩, .string ⟨#[]⟩, .string ⟨#[]⟩, .int .i64 0, .int .i64 0, .float .f64 0, .string ⟨#[]⟩, .int .i64 0, .int .i64 0, .float .f64 0, .string ⟨#[]⟩, .slice none 0 0, .slice none 0 0, .bool false] 28)).alloc (.cells #[.string b, .int .i64 0, .bool false] 73)) := by (repeat (first | assumption | exact Below.refl _ _ | refine bl_drewN ?_ _ | refine bl_drew ?_ | refine bl_alloc ?_ _ | refine bl_step ?_ (by assumption)))
  generalize ((w.alloc (.cells #[.int .i64 0, .string ⟨#[]⟩, .string ⟨#[]⟩, .string ⟨#[]⟩, .string ⟨#[]⟩, .int .i64 0, .int .i64 0, .float .f64 0, .string ⟨#[]⟩, .int .i64 0, .int .i64 0, .float .f64 0, .string ⟨#[]⟩, .slice none 0 0, .slice none 0 0, .bool false] 28)).alloc (.cells #[.string b, .int .i64 0, .bool false] 73)) = W0 at R0 RR BB ⊢
  refine (one_r (w.heap.size + 1) b 0 false W0 RR (Nat.zero_le _) hz).mono ?_
  rintro e w1 ⟨n', q1, bad1, rfl, hb1, ho1, hq1, hr⟩
  obtain ⟨rfl, rfl, hb1e⟩ : bad1 = false ∧ n = n' ∧ b1 = b.extract q1 b.size := by
    have e0 : b.extract 0 b.size = b := ByteArray.extract_zero_size
    rcases hr with ⟨h1, h⟩ | ⟨_, h⟩
    · have h' : numD (b.extract 0 b.size) = some (n', b.extract q1 b.size) := h
      rw [e0, HNUM.out] at h'
      cases h'
      exact ⟨h1, rfl, rfl⟩
    · have h' : numD (b.extract 0 b.size) = none := h
      rw [e0, HNUM.out] at h'
      cases h'
  have HB1 := Lib.hid hb1e
  clear hr hb1e
  have hsW : w.heap.size + 1 < W0.heap.size := blk_lt RR
  have hs1 : W0.heap.size ≤ w1.heap.size := ho1.size
  have R1 := Lib.hid (off_blk ho1 R0 (by omega) (by omega))
  have HB := Lib.hid hb1
  have HBL := Lib.hid (bl_off BB ho1 (by omega) (by omega))
  clear hb1 ho1 R0 RR BB
  have hs2 : w.heap.size + 1 < w1.heap.size := by omega
  go_wp2_with fail
  have S2 := blk_new w1 (.cells ((zeroSt (n : Int)).row16 (.slice none 0 0) (.slice none 0 0)) 28)
  have R2 := blk_old R1.out (.cells ((zeroSt (n : Int)).row16 (.slice none 0 0) (.slice none 0 0)) 28)
  have Q2 := blk_old HB.out (.cells ((zeroSt (n : Int)).row16 (.slice none 0 0) (.slice none 0 0)) 28)
  have L2 := bl_alloc HBL.out (.cells ((zeroSt (n : Int)).row16 (.slice none 0 0) (.slice none 0 0)) 28)
  refine (has_any (n : Int) _).mono ?_
  rintro e w2 ⟨rfl, hb2⟩
  have S3 := Lib.hid (blk_below S2 hb2)
  have R3 := Lib.hid (blk_below R2 hb2)
  have Q3 := Lib.hid (blk_below Q2 hb2)
  have L3 := Lib.hid (bl_step L2 hb2)
  have hs3 : w1.heap.size < w2.heap.size := blk_lt S3.out
  clear S2 R2 Q2 L2 hb2 R1 HB HBL
  obtain ⟨l, hl⟩ : ∃ l, rstr (fieldsF (n : Int)) = l := ⟨_, rfl⟩
  have HH := Lib.hid hl
  rw [hl]
  clear hl
  have Hl := Lib.hid (show l.size = (fieldsF (n : Int)).length by rw [← HH.out, rstr_size])
  have hl5 : l.size ≤ 5 := by have := fieldsF_len (n : Int); rw [Hl.out]; exact this
  have PS : w1.heap.size + 1 ≤ w2.heap.size := hs3
  go_wp2
  go_loopw [7, 8, 9, 10] (fun i _ _ _ wr => ∃ (k : Nat) (s' : St) (R C : Value) (q : Nat) (bad : Bool), k ≤ l.size ∧ i = .int .i64 k ∧ RB2 (w.heap.size + 1) b q bad wr ∧ InS w1.heap.size (w1.heap.size + 1) s' R C wr ∧
    wr.heap[w.heap.size]? = some (.cells ((zeroSt 0).row16 (.slice none 0 0) (.slice none 0 0)) 28 (0, 0)) ∧ Below w.heap.size w wr ∧ q ≤ b.size ∧ w1.heap.size + 1 ≤ wr.heap.size ∧ (k ≤ 1 → s'.cols = [] ∧ C = .slice none 0 0 ∧ s'.row = [] ∧ R = .slice none 0 0) ∧ DSt b b1 n k s' q bad) (fun i _ _ _ _ => l.size - (intOf i).toNat)
  case atStart =>
    exact ⟨0, zeroSt n, .slice none 0 0, .slice none 0 0, q1, false, Nat.zero_le _, rfl, Q3.out, ⟨S3.out, LS_nil _ _ _ _, LS_nil _ _ _ _⟩, R3.out, L3.out, hq1, PS, fun _ => ⟨rfl, rfl, rfl, rfl⟩, .inl ⟨rfl, by rw [← HB1.out]; rfl⟩⟩
  case round =>
    obtain ⟨k, s', R, C, q, bad, hk, rfl, hrb, hin, hr0, hbl, hq, hlo, hc1, hst⟩ := hrel
    have KB := Lib.hid hrb
    have KI := Lib.hid hin
    have K0 := Lib.hid hr0
    have KL := Lib.hid hbl
    have KC := Lib.hid hc1
    have KD := Lib.hid hst
    clear hrb hin hr0 hbl hc1 hst S3 R3 Q3 L3 HB1
    by_cases hlt : k < l.size
    · have hk' : k < (fieldsF (n : Int)).length := by rw [← Hl.out]; exact hlt
      obtain ⟨x, hx⟩ : ∃ x, (fieldsF (n : Int))[k]? = some x := ⟨_, List.getElem?_eq_getElem hk'⟩
      have Hx := Lib.hid hx
      obtain ⟨_, hch⟩ := rstr_at HH.out hx
      have hix := ix_str l k hlt _ hch
      clear hx hch hk'
      cases x with
      | t =>
        go_wp2_with fail
        refine (name_e (w.heap.size + 1) b q bad wr KB.out hq hz).mono ?_
        rintro e w3 ⟨x, q3, bad3, rfl, hb3, ho3, hq3, hr3⟩
        have HB := Lib.hid hb3
        have HO := Lib.hid ho3
        have H0 := Lib.hid (off_blk ho3 K0.out (by omega) (by omega))
        have HS := Lib.hid (off_blk ho3 KI.out.1 (by omega) (by omega))
        have HL := Lib.hid (bl_off KL.out ho3 (by omega) (by omega))
        have hlo3 : w1.heap.size + 1 ≤ w3.heap.size := Nat.le_trans hlo ho3.size
        have HR := Lib.hid (map_post2 (f := fun y => { s' with t := y }) hr3)
        obtain ⟨k1, f1⟩ := blk_rules HS.out
        clear hb3 ho3 hr3 hix
        go_wp2
        go_roundw
        case rel =>
          have hO : Off (w.heap.size + 1) w1.heap.size wr _ := off_set (p := ⟨w1.heap.size, 1, none⟩) (off_l HO.out) (.inr (.inl rfl)) (.string x)
          exact ⟨k + 1, { s' with t := x }, R, C, q3, bad3, by omega, by go_num, blk_far (p := ⟨w1.heap.size, 1, none⟩) (HB.out) (show w.heap.size + 1 ≠ w1.heap.size by omega) (.string x), ⟨blk_set_eq (HS.out) 1 (.string x) rfl, KI.out.2.1.off hO (by omega) (by omega), KI.out.2.2.off hO (by omega) (by omega)⟩, blk_far (p := ⟨w1.heap.size, 1, none⟩) (H0.out) (show w.heap.size ≠ w1.heap.size by omega) (.string x), bl_set (p := ⟨w1.heap.size, 1, none⟩) (HL.out) (show w.heap.size ≤ w1.heap.size by omega) (.string x), hq3, (by simp only [sz_set]; omega), fun hk1 => KC.out (by omega), dst_step Hx.out KD.out HR.out (fun h => h)⟩
        case measure => simp [intOf]; omega
      | n =>
        have hno := HF.out k _ Hx.out
        simp at hno
      | c =>
        have hno := HF.out k _ Hx.out
        simp at hno
      | s =>
        have hno := HF.out k _ Hx.out
        simp at hno
      | v =>
        have hno := HF.out k _ Hx.out
        simp at hno
      | w =>
        have hno := HF.out k _ Hx.out
        simp at hno
      | r =>
        have hno := HF.out k _ Hx.out
        simp at hno
      | d =>
        have HK1 := Lib.hid (d_at (.inl Hx.out))
        have Hx1 := Lib.hid (show (fieldsF (n : Int))[1]? = some .d by have := Hx.out; rw [HK1.out] at this; exact this)
        obtain ⟨hc0, hC, hw0, hR⟩ := KC.out (by have := HK1.out; omega)
        subst hC hR
        have HST := Lib.hid (show DSt b b1 n 1 s' q bad by have := KD.out; rw [HK1.out] at this; exact this)
        have HC0 := Lib.hid hc0
        have HW0 := Lib.hid hw0
        clear hc0 hw0
        go_wp2_with fail
        refine (one_r (w.heap.size + 1) b q bad wr KB.out hq hz).mono ?_
        rintro e w3 ⟨N, q3, bad3, rfl, hb3, ho3, hq3, hr3⟩
        have HCS := Lib.hid (cst_start Hx1.out (.inl rfl) HST.out HC0.out hr3)
        have HNB := Lib.hid (show bad3 = false → N < 256 by
          intro h
          rcases hr3 with ⟨_, hr3⟩ | ⟨h2, _⟩
          · exact (numD_le (okD_true hr3).2).2
          · rw [h] at h2; cases h2)
        have HB := Lib.hid hb3
        have H0 := Lib.hid (off_blk ho3 K0.out (by omega) (by omega))
        have HS := Lib.hid (off_blk ho3 KI.out.1 (by omega) (by omega))
        have HL := Lib.hid (bl_off KL.out ho3 (by omega) (by omega))
        have hlo3 : w1.heap.size + 1 ≤ w3.heap.size := Nat.le_trans hlo ho3.size
        clear hb3 ho3 hr3 hix HC0 HST
        go_wp2
        go_loopw [9, 10] (fun nv _ wr => ∃ (xs : List Cl) (j rem : Nat) (A : Option Addr) (cc q4 : Nat) (bad4 : Bool), xs.length = j ∧ j + rem = N ∧ (bad4 = false → N < 256) ∧ nv = .int .i64 rem ∧ RB2 (w.heap.size + 1) b q4 bad4 wr ∧
          wr.heap[w1.heap.size]? = some (.cells (s'.row16 (.slice none 0 0) (.slice A j cc)) 28 (0, 0)) ∧ wr.heap[w.heap.size]? = some (.cells ((zeroSt 0).row16 (.slice none 0 0) (.slice none 0 0)) 28 (0, 0)) ∧ Below w.heap.size w wr ∧
          Own Cl.cs 7 80 wr (w1.heap.size + 1) (.slice A j cc) xs ∧ q4 ≤ b.size ∧ w1.heap.size + 1 ≤ wr.heap.size ∧ CSt b b1 n q s' N q3 j xs q4 bad4) (fun nv _ _ => (intOf nv).toNat)
        case atStart => exact ⟨[], 0, N, none, 0, q3, bad3, rfl, by omega, HNB.out, rfl, HB.out, HS.out, H0.out, HL.out, own_nil' _ _ _, hq3, hlo3, HCS.out⟩
        case round =>
          obtain ⟨xs, j, rem, A, cc, q4, bad4, hxl, hjN, hN, rfl, g1, g2, g3, g4, g5, hq4, hlo4, hcs⟩ := hrel
          have G1 := Lib.hid g1
          have G2 := Lib.hid g2
          have G3 := Lib.hid g3
          have G4 := Lib.hid g4
          have G5 := Lib.hid g5
          have GC := Lib.hid hcs
          have GL := Lib.hid hxl
          obtain ⟨k1, f1⟩ := blk_rules g1
          have hsb := blk_lt g1
          clear g1 g2 g3 g4 g5 hcs HCS HNB HB H0 HS HL
          by_cases hgo : 0 < rem ∧ bad4 = false
          · obtain ⟨hrem, rfl⟩ := hgo
            have hN' : N < 256 := hN rfl
            have hrem' : (0 : Int) < (rem : Int) := by omega
            clear hN hxl
            go_wp2_with fail
            refine (name_e (w.heap.size + 1) b q4 false wr G1.out hq4 hz).mono ?_
            rintro e x1 ⟨cn, q5, bad5, rfl, d1, o1, hq5, hs1⟩
            have hcb : wr.heap.size ≤ x1.heap.size := o1.size
            have D1 := blk_old d1 (.cells #[.string cn, .int .i64 0, .bool false, .int .i64 0, .int .i64 0, .float .f64 0, .string ⟨#[]⟩] 80)
            have P1 := blk_new x1 (.cells #[.string cn, .int .i64 0, .bool false, .int .i64 0, .int .i64 0, .float .f64 0, .string ⟨#[]⟩] 80)
            have O1 := off_alloc o1 (.cells #[.string cn, .int .i64 0, .bool false, .int .i64 0, .int .i64 0, .float .f64 0, .string ⟨#[]⟩] 80)
            have HS1 := Lib.hid hs1
            clear d1 o1 hs1 k1 f1
            go_wp2_with fail
            generalize x1.alloc (.cells #[.string cn, .int .i64 0, .bool false, .int .i64 0, .int .i64 0, .float .f64 0, .string ⟨#[]⟩] 80) = y1 at D1 P1 O1 ⊢
            generalize x1.heap.size = cb at P1 hcb ⊢
            have hy1 : cb < y1.heap.size := blk_lt P1
            refine (one_r (w.heap.size + 1) b q5 bad5 y1 D1 hq5 hz).mono ?_
            rintro e x2 ⟨ck, q6, bad6, rfl, d2, o2, hq6, hs2⟩
            have P2 := off_blk o2 P1 (by omega) (by omega)
            have O2 := off_trans O1 o2
            have HS2 := Lib.hid hs2
            obtain ⟨k5, f5⟩ := blk_rules P2
            have hy2 := blk_lt P2
            have HD2 := Lib.hid d2
            have HP2 := Lib.hid P2
            have HO2 := Lib.hid O2
            clear D1 P1 O1 d2 o2 hs2 P2 O2
            go_wp2_with fail
            have D3 := blk_far (p := ⟨cb, 1, none⟩) HD2.out (show w.heap.size + 1 ≠ cb by omega) (.int .i64 (ck : Int))
            have P3 := blk_set_eq HP2.out 1 (.int .i64 (ck : Int)) rfl
            have O3 := off_set (p := ⟨cb, 1, none⟩) HO2.out (.inr (.inr hcb)) (.int .i64 (ck : Int))
            generalize x2.setCell ⟨cb, 1, none⟩ (.int .i64 (ck : Int)) = y3 at D3 P3 O3 ⊢
            clear HD2 HP2 HO2 k5 f5 hy2 hy1
            refine (flag_e (w.heap.size + 1) b q6 bad6 y3 D3 hq6 hz).mono ?_
            rintro e x4 ⟨cf, q7, bad7, rfl, d4, o4, hq7, hs4⟩
            have P4 := off_blk o4 P3 (by omega) (by omega)
            have O4 := off_trans O3 o4
            have HS4 := Lib.hid hs4
            obtain ⟨k5, f5⟩ := blk_rules P4
            have hy4 := blk_lt P4
            have HD4 := Lib.hid d4
            have HP4 := Lib.hid P4
            have HO4 := Lib.hid O4
            clear D3 P3 O3 d4 o4 hs4 P4 O4
            go_wp2_with fail
            have D5 := blk_far (p := ⟨cb, 2, none⟩) HD4.out (show w.heap.size + 1 ≠ cb by omega) (.bool cf)
            have P5 := blk_set_eq HP4.out 2 (.bool cf) rfl
            have O5 := off_set (p := ⟨cb, 2, none⟩) HO4.out (.inr (.inr hcb)) (.bool cf)
            generalize x4.setCell ⟨cb, 2, none⟩ (.bool cf) = y5 at D5 P5 O5 ⊢
            clear HD4 HP4 HO4 k5 f5 hy4
            refine (val_e (w.heap.size + 1) b q7 bad7 y5 D5 hq7 hz).mono ?_
            rintro e x6 ⟨cv, q8, bad8, rfl, d6, o6, hq8, hs6⟩
            have P6 := off_blk o6 P5 (by omega) (by omega)
            have O6 := off_trans O5 o6
            have HCH := Lib.hid (ecol_chain HS1.out HS2.out HS4.out hs6)
            have S6 := off_blk O6 G2.out (by omega) (by omega)
            have Z6 := off_blk O6 G3.out (by omega) (by omega)
            obtain ⟨k5, f5⟩ := blk_rules P6
            obtain ⟨k6, f6⟩ := blk_rules S6
            have hy6 := blk_lt P6
            have hy7 := blk_lt S6
            have OW := off_set4 (c := cb) O6 (.inr (.inr hcb)) (.int .i64 cv.k) (.int .i64 cv.n) (.float .f64 cv.f) (.string cv.s)
            have HOW := Lib.hid (off_set (p := ⟨cb, 6, none⟩) (off_set (p := ⟨cb, 5, none⟩) (off_set (p := ⟨cb, 4, none⟩) (off_set (p := ⟨cb, 3, none⟩) O6 (.inr (.inr hcb)) (.int .i64 cv.k)) (.inr (.inr hcb)) (.int .i64 cv.n)) (.inr (.inr hcb)) (.float .f64 cv.f)) (.inr (.inr hcb)) (.string cv.s))
            have HD6 := Lib.hid d6
            have HS6 := Lib.hid S6
            have HZ6 := Lib.hid Z6
            clear D5 P5 O5 d6 o6 hs6 P6 O6 S6 Z6 OW HS1 HS2 HS4
            go_wp2_with (at_builtin; go_loud (refine wp_app (cs := Cl.cs) (size := 7) cl_len (by omega) cl_one rfl (.tmp 118) (.tmp 120) _ rfl (w1.heap.size + 1) 80 _ 72 Try.uCols Try.iCol rfl (.slice A j cc) xs rfl ((G5.out.off HOW.out (by omega) (by omega)).alloc_ _) (some ⟨x6.heap.size, 0, none⟩) 1 1 [(⟨cn, ck, cf, cv⟩ : Cl)] rfl (rd_one rfl (by have hh := blk_new ((((x6.setCell ⟨cb, 3, none⟩ (.int .i64 cv.k)).setCell ⟨cb, 4, none⟩ (.int .i64 cv.n)).setCell ⟨cb, 5, none⟩ (.float .f64 cv.f)).setCell ⟨cb, 6, none⟩ (.string cv.s)) (.cells #[.string cn, .int .i64 (ck : Int), .bool cf, .int .i64 cv.k, .int .i64 cv.n, .float .f64 cv.f, .string cv.s] 80); rw [sz_set, sz_set, sz_set, sz_set] at hh; exact hh)) (by rw [GL.out]; omega) (by rw [GL.out]; omega) (by simp only [szal, sz_set]; omega) ?_))
            intro A9 c9 x9 hown9 hg9 hat9
            rw [GL.out] at hown9 ⊢
            have hfar : ∀ g, (Value.slice A j cc).ownBlock = some g → w1.heap.size + 1 ≤ g := fun g hg => (G5.out.lt g hg).1
            have hL6 := bl_alloc (bl_off G4.out HOW.out (by omega) (by omega)) (.cells #[.string cn, .int .i64 (ck : Int), .bool cf, .int .i64 cv.k, .int .i64 cv.n, .float .f64 cv.f, .string cv.s] 80)
            have hD9 := blk_grown (blk_old (blk_far36 HD6.out (c := cb) (show w.heap.size + 1 ≠ cb by omega) (.int .i64 cv.k) (.int .i64 cv.n) (.float .f64 cv.f) (.string cv.s)) (.cells #[.string cn, .int .i64 (ck : Int), .bool cf, .int .i64 cv.k, .int .i64 cv.n, .float .f64 cv.f, .string cv.s] 80)) hg9 (by intro h; have := hfar _ h.symm; omega)
            have hS9 := blk_grown (blk_old (blk_far36 HS6.out (c := cb) (show w1.heap.size ≠ cb by omega) (.int .i64 cv.k) (.int .i64 cv.n) (.float .f64 cv.f) (.string cv.s)) (.cells #[.string cn, .int .i64 (ck : Int), .bool cf, .int .i64 cv.k, .int .i64 cv.n, .float .f64 cv.f, .string cv.s] 80)) hg9 (by intro h; have := hfar _ h.symm; omega)
            have hZ9 := blk_grown (blk_old (blk_far36 HZ6.out (c := cb) (show w.heap.size ≠ cb by omega) (.int .i64 cv.k) (.int .i64 cv.n) (.float .f64 cv.f) (.string cv.s)) (.cells #[.string cn, .int .i64 (ck : Int), .bool cf, .int .i64 cv.k, .int .i64 cv.n, .float .f64 cv.f, .string cv.s] 80)) hg9 (by intro h; have := hfar _ h.symm; omega)
            have hL9 := below_own hL6 hg9 (fun g hg => by have := hfar g hg; omega)
            obtain ⟨k8, f8⟩ := blk_rules hS9
            have hy8 := blk_lt hS9
            have HD9 := Lib.hid hD9
            have HS9 := Lib.hid hS9
            have HZ9 := Lib.hid hZ9
            have HL9 := Lib.hid hL9
            have HN9 := Lib.hid hown9
            clear hD9 hS9 hZ9 hL9 hL6 hown9 hg9 hat9 hfar k5 f5 k6 f6
            go_wp2
            go_roundw
            case rel =>
              have hne : (Value.slice A9 (j + 1) c9).ownBlock ≠ some w1.heap.size := by intro h; have := (HN9.out.lt _ h).1; omega
              exact ⟨xs ++ [(⟨cn, ck, cf, cv⟩ : Cl)], j + 1, rem - 1, A9, c9, q8, bad8, by rw [List.length_append, GL.out]; rfl, by omega, fun _ => hN', (by rw [show ((rem - 1 : Nat) : Int) = (rem : Int) - 1 by omega]),
                blk_far (p := ⟨w1.heap.size, 14, none⟩) HD9.out (show w.heap.size + 1 ≠ w1.heap.size by omega) (.slice A9 (j + 1) c9), blk_set_eq HS9.out 14 (.slice A9 (j + 1) c9) rfl, blk_far (p := ⟨w1.heap.size, 14, none⟩) HZ9.out (show w.heap.size ≠ w1.heap.size by omega) (.slice A9 (j + 1) c9),
                bl_set (p := ⟨w1.heap.size, 14, none⟩) HL9.out (show w.heap.size ≤ w1.heap.size by omega) (.slice A9 (j + 1) c9), HN9.out.set_ (p := ⟨w1.heap.size, 14, none⟩) hne (.slice A9 (j + 1) c9), hq8, (by rw [sz_set]; omega), cst_step Hx1.out (.inl rfl) GC.out (by omega) HCH.out⟩
            case measure => simp [intOf]; omega
          · have hend := cst_end Hx1.out (.inl rfl) GC.out (show bad4 = true ∨ j = N by
              cases bad4 with
              | true => exact .inl rfl
              | false => right; have : ¬ 0 < rem := fun h => hgo ⟨h, rfl⟩; omega) GL.out
            have hex : rem = 0 ∨ (0 < (rem : Int) ∧ bad4 = true) := by
              cases bad4 with
              | true => exact (Nat.eq_zero_or_pos rem).imp id (fun h => ⟨by omega, rfl⟩)
              | false => left; have : ¬ 0 < rem := fun h => hgo ⟨h, rfl⟩; omega
            have HE := Lib.hid hend
            clear hgo hend hN
            rcases hex with rfl | ⟨hr0, rfl⟩
            all_goals
              go_wp2
              go_roundw
              case rel =>
                exact ⟨k + 1, { s' with cols := xs }, .slice none 0 0, .slice A j cc, q4, _, by omega, by go_num, G1.out, ⟨G2.out, (by show LS Vl.cs 4 _ _ s'.row _; rw [HW0.out]; exact LS_nil _ _ _ _), ⟨A, cc, (by show Value.slice A j cc = .slice A xs.length cc; rw [GL.out]), (by have := own_rd cl_len G5.out; rw [← GL.out] at this; exact this), G5.out.far⟩⟩, G3.out, G4.out, hq4, hlo4, fun h => absurd HK1.out (by omega), (by rw [HK1.out]; exact HE.out)⟩
              case measure => simp [intOf]; omega
      | o =>
        have hno := HF.out k _ Hx.out
        simp at hno
      | f =>
        have hno := HF.out k _ Hx.out
        simp at hno
    · obtain rfl : k = l.size := by omega
      have hfull : (fieldsF (n : Int)).take l.size = fieldsF n := by rw [Hl.out, List.take_length]
      obtain ⟨A, c, rfl, hrd, hfr⟩ := KI.out.2.1
      obtain ⟨A', d, rfl, hcd, hfc⟩ := KI.out.2.2
      have HRD := Lib.hid hrd
      have HCD := Lib.hid hcd
      have HFR := Lib.hid hfr
      have HFC := Lib.hid hfc
      obtain ⟨k0, f0⟩ := blk_rules K0.out
      obtain ⟨k1, f1⟩ := blk_rules KB.out
      have hsr := blk_lt KI.out.1
      have hsb := blk_lt KB.out
      have hs0 := blk_lt K0.out
      have hS := KD.out
      unfold DSt at hS
      rw [hfull] at hS
      clear hrd hcd hfr hfc hfull
      cases bad with
      | true =>
        have N := Lib.hid (show decS b = none by
          rcases hS with ⟨h, _⟩ | ⟨_, h⟩
          · cases h
          · exact decS_no HNUM.out h)
        clear hS
        go_wp2
        exact bodyPost_ret (results_blk1 (p := 2) (u := 3) (T := 28) (b := w.heap.size) rfl (fun _ => by kernel_rfl) (fun _ => by kernel_rfl) _ rfl (blk_set16 rfl K0.out _ _ _ _ _ _ _ _ _ _ _ _ _ _ _ _)) rfl (spost_none N.out (bl_set16 KL.out (Nat.le_refl _) _ _ _ _ _ _ _ _ _ _ _ _ _ _ _ _))
      | false =>
        by_cases hqs : q = b.size
        · obtain ⟨g, hg⟩ : ∃ g, rgoodS s' = g := ⟨_, rfl⟩
          have N := Lib.hid (show decS b = if g = true then some s' else none by
            rcases hS with ⟨_, h⟩ | ⟨h1, h2⟩
            · rw [decS_fin HNUM.out h, goodS_eq, hg, extract_sz]
              have e0 : b.size - q = 0 := by omega
              simp [e0]
            · have e1 : g = false := by
                rcases h1 with h1 | h1
                · cases h1
                · rw [← hg, ← goodS_eq]; exact long_no h1
              rw [e1, decS_no HNUM.out h2]; rfl)
          have HG := Lib.hid hg
          clear hS hg
          subst hqs
          go_wp2_with (refine wpl_load16g rfl _ rfl _ rfl rfl KI.out.1 ?_)
          go_wp2_with fail
          refine (rgoodS_any s' A A' s'.row.length c s'.cols.length d _ HRD.out HCD.out).mono ?_
          rintro e w4 ⟨rfl, hb4⟩
          have M0 := Lib.hid (blk_below K0.out hb4)
          have M2 := Lib.hid (blk_below KI.out.1 hb4)
          have ML := Lib.hid (bl_step KL.out hb4)
          have MR := Lib.hid (HRD.out.keep hb4)
          have MC := Lib.hid (HCD.out.keep hb4)
          obtain ⟨k3, f3⟩ := blk_rules M0.out
          have hs4 := blk_lt M2.out
          have hs5 := blk_lt M0.out
          clear k0 f0 k1 f1 hb4
          rw [HG.out]
          cases g with
          | false =>
            go_wp2
            exact bodyPost_ret (results_blk1 (p := 2) (u := 3) (T := 28) (b := w.heap.size) rfl (fun _ => by kernel_rfl) (fun _ => by kernel_rfl) _ rfl (blk_set16 rfl M0.out _ _ _ _ _ _ _ _ _ _ _ _ _ _ _ _)) rfl (spost_none N.out (bl_set16 ML.out (Nat.le_refl _) _ _ _ _ _ _ _ _ _ _ _ _ _ _ _ _))
          | true =>
            go_wp2_with (refine wpl_load16 rfl _ rfl _ rfl rfl M2.out ?_)
            go_wp2
            exact bodyPost_ret (results_blk1 (p := 2) (u := 3) (T := 28) (b := w.heap.size) rfl (fun _ => by kernel_rfl) (fun _ => by kernel_rfl) _ rfl (blk_set16 rfl M0.out _ _ _ _ _ _ _ _ _ _ _ _ _ _ _ _)) rfl (spost_some N.out (MR.out.off (off_set16 w.heap.size w4 _ _ _ _ _ _ _ _ _ _ _ _ _ _ _ _) (fun p hp => by have := HFR.out p hp; omega)) (MC.out.off (off_set16 w.heap.size w4 _ _ _ _ _ _ _ _ _ _ _ _ _ _ _ _) (fun p hp => by have := HFC.out p hp; omega)) (bl_set16 ML.out (Nat.le_refl _) _ _ _ _ _ _ _ _ _ _ _ _ _ _ _ _))
        · have N := Lib.hid (show decS b = none by
            rcases hS with ⟨_, h⟩ | ⟨h1, h2⟩
            · rw [decS_fin HNUM.out h]
              exact if_neg (by rintro ⟨h3, _⟩; rw [extract_sz] at h3; omega)
            · exact decS_no HNUM.out h2)
          have hne : ((q : Int) == (b.size : Int)) = false := by simp; omega
          clear hS
          go_wp2
          exact bodyPost_ret (results_blk1 (p := 2) (u := 3) (T := 28) (b := w.heap.size) rfl (fun _ => by kernel_rfl) (fun _ => by kernel_rfl) _ rfl (blk_set16 rfl K0.out _ _ _ _ _ _ _ _ _ _ _ _ _ _ _ _)) rfl (spost_none N.out (bl_set16 KL.out (Nat.le_refl _) _ _ _ _ _ _ _ _ _ _ _ _ _ _ _ _))
end Go.Proofs.Ytbmaeaknlpgdmaa
