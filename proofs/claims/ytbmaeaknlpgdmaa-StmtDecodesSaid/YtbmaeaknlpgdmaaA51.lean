/- The reference's Decode: no byte at all. The reference's Decode. -/
import Derived.Test.YtbmaeaknlpgdmaaA50
import Derived.Test.YtbmaeaknlpgdmaaA41
namespace Go.Proofs.Ytbmaeaknlpgdmaa
open Go.RowKit
set_option linter.unusedVariables false
set_option linter.unusedSimpArgs false
set_option linter.constructorNameAsVariable false
set_option maxRecDepth 100000 in
set_option maxHeartbeats 4000000 in
theorem one_0 (br : Nat) (s : ByteArray) (w : World) (hw : RB2 br s 0 false w) (hz : s.size = 0) :
    Calls Try.prog 44 #[.pointer (some ⟨br, 0, none⟩)] w (fun e w' => e = .returned (.int .i64 0) ∧ RB2 br s 0 true w' ∧ Off br br w w') := by
  have HW := Lib.hid hw
  obtain ⟨k1, f1⟩ := blk_rules hw
  have hlt := blk_lt hw
  clear hw
  have hd : decide ((s.size : Int) ≤ 0) = true := decide_eq_true (by omega)
  go_enter Try.func44, Try.ntmps44
  go_wp2
  go_quiet (fail)
  go_wp2
  go_ret
  exact ⟨rfl, blk_set_eq (blk_drewN HW.out _) 2 _ rfl, off_set (off_drewN (off_refl br br w) _) (p := ⟨br, 2, none⟩) (.inl rfl) _⟩
theorem fields0 : rstr (fieldsF 0) = ⟨#[]⟩ := rfl
set_option maxRecDepth 100000 in
set_option maxHeartbeats 8000000 in
theorem rdecode_0 (b : ByteArray) (w : World) (hz : b.size = 0) : Calls Try.prog 16 #[.string b] w (SPost b w) := by
  have N := Lib.hid (show decS b = none by unfold decS numD; rw [if_neg (by omega)]; rfl)
  go_enter Try.func16, Try.ntmps16
  go_wp2_with fail
  have R0 := blk_old (blk_new w (.cells #[.int .i64 0, .string ⟨#[]⟩, .string ⟨#[]⟩, .string ⟨#[]⟩, .string ⟨#[]⟩, .int .i64 0, .int .i64 0, .float .f64 0, .string ⟨#[]⟩, .int .i64 0, .int .i64 0, .float .f64 0, .string ⟨#[]⟩, .slice none 0 0, .slice none 0 0, .bool false] 28)) (.cells #[.string b, .int .i64 0, .bool false] 73)
  have RR := blk_new (w.alloc (.cells #[.int .i64 0, .string ⟨#[]⟩, .string ⟨#[]⟩, .string ⟨#[]⟩, .string ⟨#[]⟩, .int .i64 0, .int .i64 0, .float .f64 0, .string ⟨#[]⟩, .int .i64 0, .int .i64 0, .float .f64 0, .string ⟨#[]⟩, .slice none 0 0, .slice none 0 0, .bool false] 28)) (.cells #[.string b, .int .i64 0, .bool false] 73)
  rw [szal] at RR
  have BB : Below w.heap.size w ((w.alloc (.cells #[.int .i64 0, .string ⟨#[]⟩, .string ⟨#[]⟩, .string ⟨#[]⟩, .string ⟨#[]⟩, .int .i64 0, .int .i64 0, .float .f64 0, .string ⟨#[]⟩, .int .i64 0, .int .i64 0, .float .f64 0, .string ⟨#[]⟩, .slice none 0 0, .slice none 0 0, .bool false] 28)).alloc (.cells #[.string b, .int .i64 0, .bool false] 73)) := by (repeat (first | assumption | exact Below.refl _ _ | refine bl_drewN ?_ _ | refine bl_drew ?_ | refine bl_alloc ?_ _ | refine bl_step ?_ (by assumption)))
  generalize ((w.alloc (.cells #[.int .i64 0, .string ⟨#[]⟩, .string ⟨#[]⟩, .string ⟨#[]⟩, .string ⟨#[]⟩, .int .i64 0, .int .i64 0, .float .f64 0, .string ⟨#[]⟩, .int .i64 0, .int .i64 0, .float .f64 0, .string ⟨#[]⟩, .slice none 0 0, .slice none 0 0, .bool false] 28)).alloc (.cells #[.string b, .int .i64 0, .bool false] 73)) = W0 at R0 RR BB ⊢
  refine (one_0 (w.heap.size + 1) b W0 RR hz).mono ?_
  rintro e w1 ⟨rfl, hb1, ho1⟩
  have hsW : w.heap.size + 1 < W0.heap.size := blk_lt RR
  have hs1 : W0.heap.size ≤ w1.heap.size := ho1.size
  have R1 := Lib.hid (off_blk ho1 R0 (by omega) (by omega))
  have HB := Lib.hid hb1
  have HBL := Lib.hid (bl_off BB ho1 (by omega) (by omega))
  clear hb1 ho1 R0 RR BB
  have hs2 : w.heap.size + 1 < w1.heap.size := by omega
  go_wp2_with fail
  have R2 := blk_old R1.out (.cells #[.int .i64 0, .string ⟨#[]⟩, .string ⟨#[]⟩, .string ⟨#[]⟩, .string ⟨#[]⟩, .int .i64 0, .int .i64 0, .float .f64 0, .string ⟨#[]⟩, .int .i64 0, .int .i64 0, .float .f64 0, .string ⟨#[]⟩, .slice none 0 0, .slice none 0 0, .bool false] 28)
  have Q2 := blk_old HB.out (.cells #[.int .i64 0, .string ⟨#[]⟩, .string ⟨#[]⟩, .string ⟨#[]⟩, .string ⟨#[]⟩, .int .i64 0, .int .i64 0, .float .f64 0, .string ⟨#[]⟩, .int .i64 0, .int .i64 0, .float .f64 0, .string ⟨#[]⟩, .slice none 0 0, .slice none 0 0, .bool false] 28)
  have L2 := bl_alloc HBL.out (.cells #[.int .i64 0, .string ⟨#[]⟩, .string ⟨#[]⟩, .string ⟨#[]⟩, .string ⟨#[]⟩, .int .i64 0, .int .i64 0, .float .f64 0, .string ⟨#[]⟩, .int .i64 0, .int .i64 0, .float .f64 0, .string ⟨#[]⟩, .slice none 0 0, .slice none 0 0, .bool false] 28)
  refine (has_any 0 _).mono ?_
  rw [fields0]
  rintro e w2 ⟨rfl, hb2⟩
  have R3 := Lib.hid (blk_below R2 hb2)
  have Q3 := Lib.hid (blk_below Q2 hb2)
  have L3 := Lib.hid (bl_step L2 hb2)
  clear R2 Q2 L2 hb2 R1 HB HBL
  go_wp2
  go_loopw [7, 8, 9, 10] (fun i _ _ _ wr => i = .int .i64 0 ∧ RB2 (w.heap.size + 1) b 0 true wr ∧ wr.heap[w.heap.size]? = some (.cells #[.int .i64 0, .string ⟨#[]⟩, .string ⟨#[]⟩, .string ⟨#[]⟩, .string ⟨#[]⟩, .int .i64 0, .int .i64 0, .float .f64 0, .string ⟨#[]⟩, .int .i64 0, .int .i64 0, .float .f64 0, .string ⟨#[]⟩, .slice none 0 0, .slice none 0 0, .bool false] 28 (0, 0)) ∧ Below w.heap.size w wr) (fun i _ _ _ _ => 1 - (intOf i).toNat)
  case atStart => exact ⟨rfl, Q3.out, R3.out, L3.out⟩
  case round =>
    obtain ⟨rfl, hrb, hr0, hbl⟩ := hrel
    have K0 := Lib.hid hr0
    have KL := Lib.hid hbl
    obtain ⟨k0, f0⟩ := blk_rules hr0
    obtain ⟨k1, f1⟩ := blk_rules hrb
    have hsb := blk_lt hrb
    have hs0 := blk_lt hr0
    clear hrb hr0 hbl R3 Q3 L3
    go_wp2
    exact bodyPost_ret (results_blk1 (p := 2) (u := 3) (T := 28) (b := w.heap.size) rfl (fun _ => by kernel_rfl) (fun _ => by kernel_rfl) _ rfl (blk_set16 rfl K0.out _ _ _ _ _ _ _ _ _ _ _ _ _ _ _ _)) rfl (spost_none N.out (bl_set16 KL.out (Nat.le_refl _) _ _ _ _ _ _ _ _ _ _ _ _ _ _ _ _))
end Go.Proofs.Ytbmaeaknlpgdmaa
namespace Go.Proofs.Ytbmaeaknlpgdmaa
open Go.RowKit
set_option linter.unusedVariables false
set_option linter.unusedSimpArgs false
set_option linter.constructorNameAsVariable false
set_option maxRecDepth 100000 in
set_option maxHeartbeats 8000000 in
theorem rdecode_S (b : ByteArray) (w : World) (hz : b.size ≤ 100000) (n : Nat) (b1 : ByteArray) (hn : numD b = some (n, b1)) (hF : ∀ (k : Nat) (x : Fld), (fieldsF (n : Int))[k]? = some x → x = .t ∨ x = .n ∨ x = .c ∨ x = .s ∨ x = .v ∨ x = .w ∨ x = .f) : Calls Try.prog 16 #[.string b] w (SPost b w) := by
  have HNUM := Lib.hid hn
  have HF := Lib.hid hF
  clear hn hF
  go_enter Try.func16, Try.ntmps16
  go_wp2_with fail
  have R0 := blk_old (blk_new w (.cells #[.int .i64 0, .string ⟨#[]⟩, .string ⟨#[]⟩, .string ⟨#[]⟩, .string ⟨#[]⟩, .int .i64 0, .int .i64 0, .float .f64 0, .string ⟨#[]⟩, .int .i64 0, .int .i64 0, .float .f64 0, .string ⟨#[]⟩, .slice none 0 0, .slice none 0 0, .bool false] 28)) (.cells #[.string b, .int .i64 0, .bool false] 73)
  have RR := blk_new (w.alloc (.cells #[.int .i64 0, .string ⟨#[]⟩, .string ⟨#[]⟩, .string ⟨#[]⟩, .string ⟨#[]⟩, .int .i64 0, .int .i64 0, .float .f64 0, .string ⟨#[]⟩, .int .i64 0, .int .i64 0, .float .f64 0, .string ⟨#[]⟩, .slice none 0 0, .slice none 0 0, .bool false] 28)) (.cells #[.string b, .int .i64 0, .bool false] 73)
  rw [szal] at RR
  have BB : Below w.heap.size w ((w.alloc (.cells #[.int .i64 0, .string ⟨#[]⟩, .string ⟨#[]⟩, .string ⟨#[]⟩, .string ⟨#[]⟩, .int .i64 0, .int .i64 0, .float .f64 0, .string ⟨#[]⟩, .int .i64 0, .int .i64 0, .float .f64 0, .string ⟨#[]⟩, .slice none 0 0, .slice none 0 0, .bool false] 28)).alloc (.cells #[.string b, .int .i64 0, .bool false] 73)) := by (repeat (first | assumption | exact Below.refl _ _ | refine bl_drewN ?_ _ | refine bl_drew ?_ | refine bl_alloc ?_ _ | refine bl_step ?_ (by assumption)))
  generalize ((w.alloc (.cells #[.int .i64 0, .string ⟨#[]⟩, .string ⟨#[]⟩, .string ⟨#[]⟩, .string ⟨#[]⟩, .int .i64 0, .int .i64 0, .float .f64 0, .string ⟨#[]⟩, .int .i64 0, .int .i64 0, .float .f64 0, .string ⟨#[]⟩, .slice none 0 0, .slice none 0 0, .bool false] 28)).alloc (.cells #[.string b, .int .i64 0, .bool false] 73)) = W0 at R0 RR BB ⊢
  refine (one_r (w.heap.size + 1) b 0 false W0 RR (Nat.zero_le _) hz).mono ?_
  rintro e w1 ⟨n', q1, bad1, rfl, hb1, ho1, hq1, hr⟩
  obtain ⟨rfl, rfl, hb1e⟩ : bad1 = false ∧ n = n' ∧ b1 = b.extract q1 b.size := by
    have e0 : b.extract 0 b.size = b := ByteArray.extract_zero_size
    rcases hr with ⟨h1, h⟩ | ⟨_, h⟩
    · have h' : numD (b.extract 0 b.size) = some (n', b.extract q1 b.size) := h
      rw [e0, HNUM.out] at h'
      cases h'
      exact ⟨h1, rfl, rfl⟩
    · have h' : numD (b.extract 0 b.size) = none := h
      rw [e0, HNUM.out] at h'
      cases h'
  have HB1 := Lib.hid hb1e
  clear hr hb1e
  have hsW : w.heap.size + 1 < W0.heap.size := blk_lt RR
  have hs1 : W0.heap.size ≤ w1.heap.size := ho1.size
  have R1 := Lib.hid (off_blk ho1 R0 (by omega) (by omega))
  have HB := Lib.hid hb1
  have HBL := Lib.hid (bl_off BB ho1 (by omega) (by omega))
  clear hb1 ho1 R0 RR BB
  have hs2 : w.heap.size + 1 < w1.heap.size := by omega
  go_wp2_with fail
  have S2 := blk_new w1 (.cells ((zeroSt (n : Int)).row16 (.slice none 0 0) (.slice none 0 0)) 28)
  have R2 := blk_old R1.out (.cells ((zeroSt (n : Int)).row16 (.slice none 0 0) (.slice none 0 0)) 28)
  have Q2 := blk_old HB.out (.cells ((zeroSt (n : Int)).row16 (.slice none 0 0) (.slice none 0 0)) 28)
  have L2 := bl_alloc HBL.out (.cells ((zeroSt (n : Int)).row16 (.slice none 0 0) (.slice none 0 0)) 28)
  refine (has_any (n : Int) _).mono ?_
  rintro e w2 ⟨rfl, hb2⟩
  have S3 := Lib.hid (blk_below S2 hb2)
  have R3 := Lib.hid (blk_below R2 hb2)
  have Q3 := Lib.hid (blk_below Q2 hb2)
  have L3 := Lib.hid (bl_step L2 hb2)
  have hs3 : w1.heap.size < w2.heap.size := blk_lt S3.out
  clear S2 R2 Q2 L2 hb2 R1 HB HBL
  obtain ⟨l, hl⟩ : ∃ l, rstr (fieldsF (n : Int)) = l := ⟨_, rfl⟩
  have HH := Lib.hid hl
  rw [hl]
  clear hl
  have Hl := Lib.hid (show l.size = (fieldsF (n : Int)).length by rw [← HH.out, rstr_size])
  have hl5 : l.size ≤ 5 := by have := fieldsF_len (n : Int); rw [Hl.out]; exact this
  have PS : w1.heap.size + 1 ≤ w2.heap.size := hs3
  go_wp2
  go_loopw [7, 8, 9, 10] (fun i _ _ _ wr => ∃ (k : Nat) (s' : St) (R C : Value) (q : Nat) (bad : Bool), k ≤ l.size ∧ i = .int .i64 k ∧ RB2 (w.heap.size + 1) b q bad wr ∧ InS w1.heap.size (w1.heap.size + 1) s' R C wr ∧
    wr.heap[w.heap.size]? = some (.cells ((zeroSt 0).row16 (.slice none 0 0) (.slice none 0 0)) 28 (0, 0)) ∧ Below w.heap.size w wr ∧ q ≤ b.size ∧ w1.heap.size + 1 ≤ wr.heap.size ∧ (k ≤ 1 → s'.cols = [] ∧ C = .slice none 0 0 ∧ s'.row = [] ∧ R = .slice none 0 0) ∧ DSt b b1 n k s' q bad) (fun i _ _ _ _ => l.size - (intOf i).toNat)
  case atStart =>
    exact ⟨0, zeroSt n, .slice none 0 0, .slice none 0 0, q1, false, Nat.zero_le _, rfl, Q3.out, ⟨S3.out, LS_nil _ _ _ _, LS_nil _ _ _ _⟩, R3.out, L3.out, hq1, PS, fun _ => ⟨rfl, rfl, rfl, rfl⟩, .inl ⟨rfl, by rw [← HB1.out]; rfl⟩⟩
  case round =>
    obtain ⟨k, s', R, C, q, bad, hk, rfl, hrb, hin, hr0, hbl, hq, hlo, hc1, hst⟩ := hrel
    have KB := Lib.hid hrb
    have KI := Lib.hid hin
    have K0 := Lib.hid hr0
    have KL := Lib.hid hbl
    have KC := Lib.hid hc1
    have KD := Lib.hid hst
    clear hrb hin hr0 hbl hc1 hst S3 R3 Q3 L3 HB1
    by_cases hlt : k < l.size
    · have hk' : k < (fieldsF (n : Int)).length := by rw [← Hl.out]; exact hlt
      obtain ⟨x, hx⟩ : ∃ x, (fieldsF (n : Int))[k]? = some x := ⟨_, List.getElem?_eq_getElem hk'⟩
      have Hx := Lib.hid hx
      obtain ⟨_, hch⟩ := rstr_at HH.out hx
      have hix := ix_str l k hlt _ hch
      clear hx hch hk'
      cases x with
      | t =>
        go_wp2_with fail
        refine (name_e (w.heap.size + 1) b q bad wr KB.out hq hz).mono ?_
        rintro e w3 ⟨x, q3, bad3, rfl, hb3, ho3, hq3, hr3⟩
        have HB := Lib.hid hb3
        have HO := Lib.hid ho3
        have H0 := Lib.hid (off_blk ho3 K0.out (by omega) (by omega))
        have HS := Lib.hid (off_blk ho3 KI.out.1 (by omega) (by omega))
        have HL := Lib.hid (bl_off KL.out ho3 (by omega) (by omega))
        have hlo3 : w1.heap.size + 1 ≤ w3.heap.size := Nat.le_trans hlo ho3.size
        have HR := Lib.hid (map_post2 (f := fun y => { s' with t := y }) hr3)
        obtain ⟨k1, f1⟩ := blk_rules HS.out
        clear hb3 ho3 hr3 hix
        go_wp2
        go_roundw
        case rel =>
          have hO : Off (w.heap.size + 1) w1.heap.size wr _ := off_set (p := ⟨w1.heap.size, 1, none⟩) (off_l HO.out) (.inr (.inl rfl)) (.string x)
          exact ⟨k + 1, { s' with t := x }, R, C, q3, bad3, by omega, by go_num, blk_far (p := ⟨w1.heap.size, 1, none⟩) (HB.out) (show w.heap.size + 1 ≠ w1.heap.size by omega) (.string x), ⟨blk_set_eq (HS.out) 1 (.string x) rfl, KI.out.2.1.off hO (by omega) (by omega), KI.out.2.2.off hO (by omega) (by omega)⟩, blk_far (p := ⟨w1.heap.size, 1, none⟩) (H0.out) (show w.heap.size ≠ w1.heap.size by omega) (.string x), bl_set (p := ⟨w1.heap.size, 1, none⟩) (HL.out) (show w.heap.size ≤ w1.heap.size by omega) (.string x), hq3, (by simp only [sz_set]; omega), fun hk1 => KC.out (by omega), dst_step Hx.out KD.out HR.out (fun h => h)⟩
        case measure => simp [intOf]; omega
      | n =>
        go_wp2_with fail
        refine (name_e (w.heap.size + 1) b q bad wr KB.out hq hz).mono ?_
        rintro e w3 ⟨x, q3, bad3, rfl, hb3, ho3, hq3, hr3⟩
        have HB := Lib.hid hb3
        have HO := Lib.hid ho3
        have H0 := Lib.hid (off_blk ho3 K0.out (by omega) (by omega))
        have HS := Lib.hid (off_blk ho3 KI.out.1 (by omega) (by omega))
        have HL := Lib.hid (bl_off KL.out ho3 (by omega) (by omega))
        have hlo3 : w1.heap.size + 1 ≤ w3.heap.size := Nat.le_trans hlo ho3.size
        have HR := Lib.hid (map_post2 (f := fun y => { s' with nm := y }) hr3)
        obtain ⟨k1, f1⟩ := blk_rules HS.out
        clear hb3 ho3 hr3 hix
        go_wp2
        go_roundw
        case rel =>
          have hO : Off (w.heap.size + 1) w1.heap.size wr _ := off_set (p := ⟨w1.heap.size, 2, none⟩) (off_l HO.out) (.inr (.inl rfl)) (.string x)
          exact ⟨k + 1, { s' with nm := x }, R, C, q3, bad3, by omega, by go_num, blk_far (p := ⟨w1.heap.size, 2, none⟩) (HB.out) (show w.heap.size + 1 ≠ w1.heap.size by omega) (.string x), ⟨blk_set_eq (HS.out) 2 (.string x) rfl, KI.out.2.1.off hO (by omega) (by omega), KI.out.2.2.off hO (by omega) (by omega)⟩, blk_far (p := ⟨w1.heap.size, 2, none⟩) (H0.out) (show w.heap.size ≠ w1.heap.size by omega) (.string x), bl_set (p := ⟨w1.heap.size, 2, none⟩) (HL.out) (show w.heap.size ≤ w1.heap.size by omega) (.string x), hq3, (by simp only [sz_set]; omega), fun hk1 => KC.out (by omega), dst_step Hx.out KD.out HR.out (fun h => h)⟩
        case measure => simp [intOf]; omega
      | c =>
        go_wp2_with fail
        refine (name_e (w.heap.size + 1) b q bad wr KB.out hq hz).mono ?_
        rintro e w3 ⟨x, q3, bad3, rfl, hb3, ho3, hq3, hr3⟩
        have HB := Lib.hid hb3
        have HO := Lib.hid ho3
        have H0 := Lib.hid (off_blk ho3 K0.out (by omega) (by omega))
        have HS := Lib.hid (off_blk ho3 KI.out.1 (by omega) (by omega))
        have HL := Lib.hid (bl_off KL.out ho3 (by omega) (by omega))
        have hlo3 : w1.heap.size + 1 ≤ w3.heap.size := Nat.le_trans hlo ho3.size
        have HR := Lib.hid (map_post2 (f := fun y => { s' with c := y }) hr3)
        obtain ⟨k1, f1⟩ := blk_rules HS.out
        clear hb3 ho3 hr3 hix
        go_wp2
        go_roundw
        case rel =>
          have hO : Off (w.heap.size + 1) w1.heap.size wr _ := off_set (p := ⟨w1.heap.size, 3, none⟩) (off_l HO.out) (.inr (.inl rfl)) (.string x)
          exact ⟨k + 1, { s' with c := x }, R, C, q3, bad3, by omega, by go_num, blk_far (p := ⟨w1.heap.size, 3, none⟩) (HB.out) (show w.heap.size + 1 ≠ w1.heap.size by omega) (.string x), ⟨blk_set_eq (HS.out) 3 (.string x) rfl, KI.out.2.1.off hO (by omega) (by omega), KI.out.2.2.off hO (by omega) (by omega)⟩, blk_far (p := ⟨w1.heap.size, 3, none⟩) (H0.out) (show w.heap.size ≠ w1.heap.size by omega) (.string x), bl_set (p := ⟨w1.heap.size, 3, none⟩) (HL.out) (show w.heap.size ≤ w1.heap.size by omega) (.string x), hq3, (by simp only [sz_set]; omega), fun hk1 => KC.out (by omega), dst_step Hx.out KD.out HR.out (fun h => h)⟩
        case measure => simp [intOf]; omega
      | s =>
        go_wp2_with fail
        refine (name_e (w.heap.size + 1) b q bad wr KB.out hq hz).mono ?_
        rintro e w3 ⟨x, q3, bad3, rfl, hb3, ho3, hq3, hr3⟩
        have HB := Lib.hid hb3
        have HO := Lib.hid ho3
        have H0 := Lib.hid (off_blk ho3 K0.out (by omega) (by omega))
        have HS := Lib.hid (off_blk ho3 KI.out.1 (by omega) (by omega))
        have HL := Lib.hid (bl_off KL.out ho3 (by omega) (by omega))
        have hlo3 : w1.heap.size + 1 ≤ w3.heap.size := Nat.le_trans hlo ho3.size
        have HR := Lib.hid (map_post2 (f := fun y => { s' with se := y }) hr3)
        obtain ⟨k1, f1⟩ := blk_rules HS.out
        clear hb3 ho3 hr3 hix
        go_wp2
        go_roundw
        case rel =>
          have hO : Off (w.heap.size + 1) w1.heap.size wr _ := off_set (p := ⟨w1.heap.size, 4, none⟩) (off_l HO.out) (.inr (.inl rfl)) (.string x)
          exact ⟨k + 1, { s' with se := x }, R, C, q3, bad3, by omega, by go_num, blk_far (p := ⟨w1.heap.size, 4, none⟩) (HB.out) (show w.heap.size + 1 ≠ w1.heap.size by omega) (.string x), ⟨blk_set_eq (HS.out) 4 (.string x) rfl, KI.out.2.1.off hO (by omega) (by omega), KI.out.2.2.off hO (by omega) (by omega)⟩, blk_far (p := ⟨w1.heap.size, 4, none⟩) (H0.out) (show w.heap.size ≠ w1.heap.size by omega) (.string x), bl_set (p := ⟨w1.heap.size, 4, none⟩) (HL.out) (show w.heap.size ≤ w1.heap.size by omega) (.string x), hq3, (by simp only [sz_set]; omega), fun hk1 => KC.out (by omega), dst_step Hx.out KD.out HR.out (fun h => h)⟩
        case measure => simp [intOf]; omega
      | v =>
        go_wp2_with fail
        refine (val_e (w.heap.size + 1) b q bad wr KB.out hq hz).mono ?_
        rintro e w3 ⟨x, q3, bad3, rfl, hb3, ho3, hq3, hr3⟩
        have HB := Lib.hid hb3
        have HO := Lib.hid ho3
        have H0 := Lib.hid (off_blk ho3 K0.out (by omega) (by omega))
        have HS := Lib.hid (off_blk ho3 KI.out.1 (by omega) (by omega))
        have HL := Lib.hid (bl_off KL.out ho3 (by omega) (by omega))
        have hlo3 : w1.heap.size + 1 ≤ w3.heap.size := Nat.le_trans hlo ho3.size
        have HR := Lib.hid (map_post2 (f := fun y => { s' with v := y }) hr3)
        obtain ⟨k1, f1⟩ := blk_rules HS.out
        clear hb3 ho3 hr3 hix
        go_wp2
        go_roundw
        case rel =>
          have hO : Off (w.heap.size + 1) w1.heap.size wr _ := off_set (p := ⟨w1.heap.size, 8, none⟩) (off_set (p := ⟨w1.heap.size, 7, none⟩) (off_set (p := ⟨w1.heap.size, 6, none⟩) (off_set (p := ⟨w1.heap.size, 5, none⟩) (off_l HO.out) (.inr (.inl rfl)) (.int .i64 x.k)) (.inr (.inl rfl)) (.int .i64 x.n)) (.inr (.inl rfl)) (.float .f64 x.f)) (.inr (.inl rfl)) (.string x.s)
          exact ⟨k + 1, { s' with v := x }, R, C, q3, bad3, by omega, by go_num, blk_far (p := ⟨w1.heap.size, 8, none⟩) (blk_far (p := ⟨w1.heap.size, 7, none⟩) (blk_far (p := ⟨w1.heap.size, 6, none⟩) (blk_far (p := ⟨w1.heap.size, 5, none⟩) (HB.out) (show w.heap.size + 1 ≠ w1.heap.size by omega) (.int .i64 x.k)) (show w.heap.size + 1 ≠ w1.heap.size by omega) (.int .i64 x.n)) (show w.heap.size + 1 ≠ w1.heap.size by omega) (.float .f64 x.f)) (show w.heap.size + 1 ≠ w1.heap.size by omega) (.string x.s), ⟨blk_set_eq (blk_set_eq (blk_set_eq (blk_set_eq (HS.out) 5 (.int .i64 x.k) rfl) 6 (.int .i64 x.n) rfl) 7 (.float .f64 x.f) rfl) 8 (.string x.s) rfl, KI.out.2.1.off hO (by omega) (by omega), KI.out.2.2.off hO (by omega) (by omega)⟩, blk_far (p := ⟨w1.heap.size, 8, none⟩) (blk_far (p := ⟨w1.heap.size, 7, none⟩) (blk_far (p := ⟨w1.heap.size, 6, none⟩) (blk_far (p := ⟨w1.heap.size, 5, none⟩) (H0.out) (show w.heap.size ≠ w1.heap.size by omega) (.int .i64 x.k)) (show w.heap.size ≠ w1.heap.size by omega) (.int .i64 x.n)) (show w.heap.size ≠ w1.heap.size by omega) (.float .f64 x.f)) (show w.heap.size ≠ w1.heap.size by omega) (.string x.s), bl_set (p := ⟨w1.heap.size, 8, none⟩) (bl_set (p := ⟨w1.heap.size, 7, none⟩) (bl_set (p := ⟨w1.heap.size, 6, none⟩) (bl_set (p := ⟨w1.heap.size, 5, none⟩) (HL.out) (show w.heap.size ≤ w1.heap.size by omega) (.int .i64 x.k)) (show w.heap.size ≤ w1.heap.size by omega) (.int .i64 x.n)) (show w.heap.size ≤ w1.heap.size by omega) (.float .f64 x.f)) (show w.heap.size ≤ w1.heap.size by omega) (.string x.s), hq3, (by simp only [sz_set]; omega), fun hk1 => KC.out (by omega), dst_step Hx.out KD.out HR.out (fun h => h)⟩
        case measure => simp [intOf]; omega
      | w =>
        go_wp2_with fail
        refine (val_e (w.heap.size + 1) b q bad wr KB.out hq hz).mono ?_
        rintro e w3 ⟨x, q3, bad3, rfl, hb3, ho3, hq3, hr3⟩
        have HB := Lib.hid hb3
        have HO := Lib.hid ho3
        have H0 := Lib.hid (off_blk ho3 K0.out (by omega) (by omega))
        have HS := Lib.hid (off_blk ho3 KI.out.1 (by omega) (by omega))
        have HL := Lib.hid (bl_off KL.out ho3 (by omega) (by omega))
        have hlo3 : w1.heap.size + 1 ≤ w3.heap.size := Nat.le_trans hlo ho3.size
        have HR := Lib.hid (map_post2 (f := fun y => { s' with w := y }) hr3)
        obtain ⟨k1, f1⟩ := blk_rules HS.out
        clear hb3 ho3 hr3 hix
        go_wp2
        go_roundw
        case rel =>
          have hO : Off (w.heap.size + 1) w1.heap.size wr _ := off_set (p := ⟨w1.heap.size, 12, none⟩) (off_set (p := ⟨w1.heap.size, 11, none⟩) (off_set (p := ⟨w1.heap.size, 10, none⟩) (off_set (p := ⟨w1.heap.size, 9, none⟩) (off_l HO.out) (.inr (.inl rfl)) (.int .i64 x.k)) (.inr (.inl rfl)) (.int .i64 x.n)) (.inr (.inl rfl)) (.float .f64 x.f)) (.inr (.inl rfl)) (.string x.s)
          exact ⟨k + 1, { s' with w := x }, R, C, q3, bad3, by omega, by go_num, blk_far (p := ⟨w1.heap.size, 12, none⟩) (blk_far (p := ⟨w1.heap.size, 11, none⟩) (blk_far (p := ⟨w1.heap.size, 10, none⟩) (blk_far (p := ⟨w1.heap.size, 9, none⟩) (HB.out) (show w.heap.size + 1 ≠ w1.heap.size by omega) (.int .i64 x.k)) (show w.heap.size + 1 ≠ w1.heap.size by omega) (.int .i64 x.n)) (show w.heap.size + 1 ≠ w1.heap.size by omega) (.float .f64 x.f)) (show w.heap.size + 1 ≠ w1.heap.size by omega) (.string x.s), ⟨blk_set_eq (blk_set_eq (blk_set_eq (blk_set_eq (HS.out) 9 (.int .i64 x.k) rfl) 10 (.int .i64 x.n) rfl) 11 (.float .f64 x.f) rfl) 12 (.string x.s) rfl, KI.out.2.1.off hO (by omega) (by omega), KI.out.2.2.off hO (by omega) (by omega)⟩, blk_far (p := ⟨w1.heap.size, 12, none⟩) (blk_far (p := ⟨w1.heap.size, 11, none⟩) (blk_far (p := ⟨w1.heap.size, 10, none⟩) (blk_far (p := ⟨w1.heap.size, 9, none⟩) (H0.out) (show w.heap.size ≠ w1.heap.size by omega) (.int .i64 x.k)) (show w.heap.size ≠ w1.heap.size by omega) (.int .i64 x.n)) (show w.heap.size ≠ w1.heap.size by omega) (.float .f64 x.f)) (show w.heap.size ≠ w1.heap.size by omega) (.string x.s), bl_set (p := ⟨w1.heap.size, 12, none⟩) (bl_set (p := ⟨w1.heap.size, 11, none⟩) (bl_set (p := ⟨w1.heap.size, 10, none⟩) (bl_set (p := ⟨w1.heap.size, 9, none⟩) (HL.out) (show w.heap.size ≤ w1.heap.size by omega) (.int .i64 x.k)) (show w.heap.size ≤ w1.heap.size by omega) (.int .i64 x.n)) (show w.heap.size ≤ w1.heap.size by omega) (.float .f64 x.f)) (show w.heap.size ≤ w1.heap.size by omega) (.string x.s), hq3, (by simp only [sz_set]; omega), fun hk1 => KC.out (by omega), dst_step Hx.out KD.out HR.out (fun h => h)⟩
        case measure => simp [intOf]; omega
      | r =>
        have hno := HF.out k _ Hx.out
        simp at hno
      | d =>
        have hno := HF.out k _ Hx.out
        simp at hno
      | o =>
        have hno := HF.out k _ Hx.out
        simp at hno
      | f =>
        go_wp2_with fail
        refine (flag_e (w.heap.size + 1) b q bad wr KB.out hq hz).mono ?_
        rintro e w3 ⟨x, q3, bad3, rfl, hb3, ho3, hq3, hr3⟩
        have HB := Lib.hid hb3
        have HO := Lib.hid ho3
        have H0 := Lib.hid (off_blk ho3 K0.out (by omega) (by omega))
        have HS := Lib.hid (off_blk ho3 KI.out.1 (by omega) (by omega))
        have HL := Lib.hid (bl_off KL.out ho3 (by omega) (by omega))
        have hlo3 : w1.heap.size + 1 ≤ w3.heap.size := Nat.le_trans hlo ho3.size
        have HR := Lib.hid (map_post2 (f := fun y => { s' with fl := y }) hr3)
        obtain ⟨k1, f1⟩ := blk_rules HS.out
        clear hb3 ho3 hr3 hix
        go_wp2
        go_roundw
        case rel =>
          have hO : Off (w.heap.size + 1) w1.heap.size wr _ := off_set (p := ⟨w1.heap.size, 15, none⟩) (off_l HO.out) (.inr (.inl rfl)) (.bool x)
          exact ⟨k + 1, { s' with fl := x }, R, C, q3, bad3, by omega, by go_num, blk_far (p := ⟨w1.heap.size, 15, none⟩) (HB.out) (show w.heap.size + 1 ≠ w1.heap.size by omega) (.bool x), ⟨blk_set_eq (HS.out) 15 (.bool x) rfl, KI.out.2.1.off hO (by omega) (by omega), KI.out.2.2.off hO (by omega) (by omega)⟩, blk_far (p := ⟨w1.heap.size, 15, none⟩) (H0.out) (show w.heap.size ≠ w1.heap.size by omega) (.bool x), bl_set (p := ⟨w1.heap.size, 15, none⟩) (HL.out) (show w.heap.size ≤ w1.heap.size by omega) (.bool x), hq3, (by simp only [sz_set]; omega), fun hk1 => KC.out (by omega), dst_step Hx.out KD.out HR.out (fun h => h)⟩
        case measure => simp [intOf]; omega
    · obtain rfl : k = l.size := by omega
      have hfull : (fieldsF (n : Int)).take l.size = fieldsF n := by rw [Hl.out, List.take_length]
      obtain ⟨A, c, rfl, hrd, hfr⟩ := KI.out.2.1
      obtain ⟨A', d, rfl, hcd, hfc⟩ := KI.out.2.2
      have HRD := Lib.hid hrd
      have HCD := Lib.hid hcd
      have HFR := Lib.hid hfr
      have HFC := Lib.hid hfc
      obtain ⟨k0, f0⟩ := blk_rules K0.out
      obtain ⟨k1, f1⟩ := blk_rules KB.out
      have hsr := blk_lt KI.out.1
      have hsb := blk_lt KB.out
      have hs0 := blk_lt K0.out
      have hS := KD.out
      unfold DSt at hS
      rw [hfull] at hS
      clear hrd hcd hfr hfc hfull
      cases bad with
      | true =>
        have N := Lib.hid (show decS b = none by
          rcases hS with ⟨h, _⟩ | ⟨_, h⟩
          · cases h
          · exact decS_no HNUM.out h)
        clear hS
        go_wp2
        exact bodyPost_ret (results_blk1 (p := 2) (u := 3) (T := 28) (b := w.heap.size) rfl (fun _ => by kernel_rfl) (fun _ => by kernel_rfl) _ rfl (blk_set16 rfl K0.out _ _ _ _ _ _ _ _ _ _ _ _ _ _ _ _)) rfl (spost_none N.out (bl_set16 KL.out (Nat.le_refl _) _ _ _ _ _ _ _ _ _ _ _ _ _ _ _ _))
      | false =>
        by_cases hqs : q = b.size
        · obtain ⟨g, hg⟩ : ∃ g, rgoodS s' = g := ⟨_, rfl⟩
          have N := Lib.hid (show decS b = if g = true then some s' else none by
            rcases hS with ⟨_, h⟩ | ⟨h1, h2⟩
            · rw [decS_fin HNUM.out h, goodS_eq, hg, extract_sz]
              have e0 : b.size - q = 0 := by omega
              simp [e0]
            · have e1 : g = false := by
                rcases h1 with h1 | h1
                · cases h1
                · rw [← hg, ← goodS_eq]; exact long_no h1
              rw [e1, decS_no HNUM.out h2]; rfl)
          have HG := Lib.hid hg
          clear hS hg
          subst hqs
          go_wp2_with (refine wpl_load16g rfl _ rfl _ rfl rfl KI.out.1 ?_)
          go_wp2_with fail
          refine (rgoodS_any s' A A' s'.row.length c s'.cols.length d _ HRD.out HCD.out).mono ?_
          rintro e w4 ⟨rfl, hb4⟩
          have M0 := Lib.hid (blk_below K0.out hb4)
          have M2 := Lib.hid (blk_below KI.out.1 hb4)
          have ML := Lib.hid (bl_step KL.out hb4)
          have MR := Lib.hid (HRD.out.keep hb4)
          have MC := Lib.hid (HCD.out.keep hb4)
          obtain ⟨k3, f3⟩ := blk_rules M0.out
          have hs4 := blk_lt M2.out
          have hs5 := blk_lt M0.out
          clear k0 f0 k1 f1 hb4
          rw [HG.out]
          cases g with
          | false =>
            go_wp2
            exact bodyPost_ret (results_blk1 (p := 2) (u := 3) (T := 28) (b := w.heap.size) rfl (fun _ => by kernel_rfl) (fun _ => by kernel_rfl) _ rfl (blk_set16 rfl M0.out _ _ _ _ _ _ _ _ _ _ _ _ _ _ _ _)) rfl (spost_none N.out (bl_set16 ML.out (Nat.le_refl _) _ _ _ _ _ _ _ _ _ _ _ _ _ _ _ _))
          | true =>
            go_wp2_with (refine wpl_load16 rfl _ rfl _ rfl rfl M2.out ?_)
            go_wp2
            exact bodyPost_ret (results_blk1 (p := 2) (u := 3) (T := 28) (b := w.heap.size) rfl (fun _ => by kernel_rfl) (fun _ => by kernel_rfl) _ rfl (blk_set16 rfl M0.out _ _ _ _ _ _ _ _ _ _ _ _ _ _ _ _)) rfl (spost_some N.out (MR.out.off (off_set16 w.heap.size w4 _ _ _ _ _ _ _ _ _ _ _ _ _ _ _ _) (fun p hp => by have := HFR.out p hp; omega)) (MC.out.off (off_set16 w.heap.size w4 _ _ _ _ _ _ _ _ _ _ _ _ _ _ _ _) (fun p hp => by have := HFC.out p hp; omega)) (bl_set16 ML.out (Nat.le_refl _) _ _ _ _ _ _ _ _ _ _ _ _ _ _ _ _))
        · have N := Lib.hid (show decS b = none by
            rcases hS with ⟨_, h⟩ | ⟨h1, h2⟩
            · rw [decS_fin HNUM.out h]
              exact if_neg (by rintro ⟨h3, _⟩; rw [extract_sz] at h3; omega)
            · exact decS_no HNUM.out h2)
          have hne : ((q : Int) == (b.size : Int)) = false := by simp; omega
          clear hS
          go_wp2
          exact bodyPost_ret (results_blk1 (p := 2) (u := 3) (T := 28) (b := w.heap.size) rfl (fun _ => by kernel_rfl) (fun _ => by kernel_rfl) _ rfl (blk_set16 rfl K0.out _ _ _ _ _ _ _ _ _ _ _ _ _ _ _ _)) rfl (spost_none N.out (bl_set16 KL.out (Nat.le_refl _) _ _ _ _ _ _ _ _ _ _ _ _ _ _ _ _))
end Go.Proofs.Ytbmaeaknlpgdmaa
