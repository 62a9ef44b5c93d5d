/- stmt.Decode: bytes of a statement. -/
import Derived.Test.YtbmaeaknlpgdmaaA30
namespace Go.Proofs.Ytbmaeaknlpgdmaa
open Go.RowKit
set_option linter.unusedVariables false
set_option linter.unusedSimpArgs false
set_option linter.constructorNameAsVariable false
set_option maxRecDepth 100000 in
set_option maxHeartbeats 4000000 in
theorem sdec_4 (b : ByteArray) (w : World) (hz : b.size ≤ 100000) (n : Nat) (b1 : ByteArray) (ok2 : Bool) (hn : numD b = some (n, b1)) (hk : kindOK (n : Int) = ok2) (s0 : St) (b0 : ByteArray) (hd : ok2 = true ∧ decTo (zeroSt n) b1 (fieldsF n) = some (s0, b0)) (hx : b0.size = 0 ∧ goodS s0 = true) : Calls Try.prog 11 #[.string b] w (SPost b w) := by
  have HNUM := Lib.hid hn
  have HK := Lib.hid hk
  have HD := Lib.hid hd
  have HX := Lib.hid hx
  clear hn hk hd hx
  go_enter Try.func11, Try.ntmps11
  go_wp2_with fail
  have R0 := blk_old (blk_new w (.cells #[.int .i64 0, .string ⟨#[]⟩, .string ⟨#[]⟩, .string ⟨#[]⟩, .string ⟨#[]⟩, .int .i64 0, .int .i64 0, .float .f64 0, .string ⟨#[]⟩, .int .i64 0, .int .i64 0, .float .f64 0, .string ⟨#[]⟩, .slice none 0 0, .slice none 0 0, .bool false] 28)) (.cells #[.string b, .bool true] 55)
  have RR := blk_new (w.alloc (.cells #[.int .i64 0, .string ⟨#[]⟩, .string ⟨#[]⟩, .string ⟨#[]⟩, .string ⟨#[]⟩, .int .i64 0, .int .i64 0, .float .f64 0, .string ⟨#[]⟩, .int .i64 0, .int .i64 0, .float .f64 0, .string ⟨#[]⟩, .slice none 0 0, .slice none 0 0, .bool false] 28)) (.cells #[.string b, .bool true] 55)
  rw [szal] at RR
  have BB : Below w.heap.size w ((w.alloc (.cells #[.int .i64 0, .string ⟨#[]⟩, .string ⟨#[]⟩, .string ⟨#[]⟩, .string ⟨#[]⟩, .int .i64 0, .int .i64 0, .float .f64 0, .string ⟨#[]⟩, .int .i64 0, .int .i64 0, .float .f64 0, .string ⟨#[]⟩, .slice none 0 0, .slice none 0 0, .bool false] 28)).alloc (.cells #[.string b, .bool true] 55)) := by (repeat (first | assumption | exact Below.refl _ _ | refine bl_drewN ?_ _ | refine bl_drew ?_ | refine bl_alloc ?_ _ | refine bl_step ?_ (by assumption)))
  generalize ((w.alloc (.cells #[.int .i64 0, .string ⟨#[]⟩, .string ⟨#[]⟩, .string ⟨#[]⟩, .string ⟨#[]⟩, .int .i64 0, .int .i64 0, .float .f64 0, .string ⟨#[]⟩, .int .i64 0, .int .i64 0, .float .f64 0, .string ⟨#[]⟩, .slice none 0 0, .slice none 0 0, .bool false] 28)).alloc (.cells #[.string b, .bool true] 55)) = W0 at R0 RR BB ⊢
  refine (num_any (w.heap.size + 1) b true W0 RR hz).mono ?_
  rintro e w1 ⟨n', b1', ok1, rfl, hb1, ho1, hz1, hr⟩
  obtain ⟨hok, hn1, hn2⟩ : ok1 = true ∧ n = n' ∧ b1 = b1' := by
    rcases hr with ⟨h1, h⟩ | ⟨_, h, _⟩
    · have h' : numD b = some (n', b1') := h
      rw [HNUM.out] at h'
      cases h'
      exact ⟨h1, rfl, rfl⟩
    · have h' : numD b = none := h
      rw [HNUM.out] at h'
      cases h'
  subst hok
  subst hn1
  subst hn2
  clear hr
  have hsW : w.heap.size + 1 < W0.heap.size := blk_lt RR
  have hs1 : W0.heap.size ≤ w1.heap.size := ho1.size
  have R1 := Lib.hid (off_blk ho1 R0 (by omega) (by omega))
  have HB := Lib.hid hb1
  have HBL := Lib.hid (bl_off BB ho1 (by omega) (by omega))
  clear hb1 ho1 R0 RR BB
  obtain ⟨k1, f1⟩ := blk_rules HB.out
  have hs2 : w.heap.size + 1 < w1.heap.size := by omega
  go_wp2_with fail
  have S2 := blk_new w1 (.cells ((zeroSt (n : Int)).row16 (.slice none 0 0) (.slice none 0 0)) 28)
  have R2 := blk_old R1.out (.cells ((zeroSt (n : Int)).row16 (.slice none 0 0) (.slice none 0 0)) 28)
  have Q2 := blk_old HB.out (.cells ((zeroSt (n : Int)).row16 (.slice none 0 0) (.slice none 0 0)) 28)
  have L2 := bl_alloc HBL.out (.cells ((zeroSt (n : Int)).row16 (.slice none 0 0) (.slice none 0 0)) 28)
  refine (fields_any (n : Int) _).mono ?_
  rintro e w2 ⟨rfl, hb2⟩
  have S3 := Lib.hid (blk_below S2 hb2)
  have R3 := Lib.hid (blk_below R2 hb2)
  have Q3 := Lib.hid (blk_below Q2 hb2)
  have L3 := Lib.hid (bl_step L2 hb2)
  have hs3 : w1.heap.size < w2.heap.size := blk_lt S3.out
  clear S2 R2 Q2 L2 hb2 k1 f1 R1 HB HBL
  obtain ⟨k1, f1⟩ := blk_rules Q3.out
  obtain ⟨l, hl⟩ : ∃ l, pstr (fieldsF (n : Int)) = l := ⟨_, rfl⟩
  have HL := Lib.hid hl
  rw [hl]
  clear hl
  have Hl := Lib.hid (show l.size = (fieldsF (n : Int)).length by rw [← HL.out, pstr_size])
  have hl5 : l.size ≤ 5 := by have := fieldsF_len (n : Int); rw [Hl.out]; exact this
  rw [HK.out]
  have P2 := Lib.hid (blk_set_eq (L' := #[.string b1, .bool ok2]) Q3.out 1 (.bool ok2) rfl)
  have P0 := Lib.hid (blk_far (p := ⟨w.heap.size + 1, 1, none⟩) R3.out (show w.heap.size ≠ w.heap.size + 1 by omega) (.bool ok2))
  have P1 := Lib.hid (blk_far (p := ⟨w.heap.size + 1, 1, none⟩) S3.out (show w1.heap.size ≠ w.heap.size + 1 by omega) (.bool ok2))
  have PL := Lib.hid (bl_set (p := ⟨w.heap.size + 1, 1, none⟩) L3.out (show w.heap.size ≤ w.heap.size + 1 by omega) (.bool ok2))
  have PS : w1.heap.size + 1 ≤ (w2.setCell ⟨w.heap.size + 1, 1, none⟩ (.bool ok2)).heap.size := by rw [sz_set]; omega
  go_wp2
  go_loopw [8, 33] (fun _ i wr => ∃ (k : Nat) (s' : St) (R C : Value) (bb : ByteArray) (okk : Bool), k ≤ l.size ∧ i = .int .i64 k ∧ RB (w.heap.size + 1) bb okk wr ∧ InS w1.heap.size (w1.heap.size + 1) s' R C wr ∧
    wr.heap[w.heap.size]? = some (.cells ((zeroSt 0).row16 (.slice none 0 0) (.slice none 0 0)) 28 (0, 0)) ∧ Below w.heap.size w wr ∧ bb.size ≤ 100000 ∧ w1.heap.size + 1 ≤ wr.heap.size ∧
    ((okk = true ∧ ok2 = true ∧ decTo (zeroSt n) b1 ((fieldsF n).take k) = some (s', bb)) ∨ (okk = false ∧ (ok2 = false ∨ decTo (zeroSt n) b1 (fieldsF n) = none)))) (fun _ i _ => l.size - (intOf i).toNat)
  case atStart =>
    refine ⟨0, zeroSt n, .slice none 0 0, .slice none 0 0, b1, _, Nat.zero_le _, rfl, P2.out, ⟨P1.out, LS_nil _ _ _ _, LS_nil _ _ _ _⟩, P0.out, PL.out, hz1, PS, ?_⟩
    cases ok2 with
    | true => exact .inl ⟨rfl, rfl, rfl⟩
    | false => exact .inr ⟨rfl, .inl rfl⟩
  case round =>
    obtain ⟨k, s', R, C, bb, okk, hk, rfl, hrb, hin, hr0, hbl, hbz, hlo, hst⟩ := hrel
    have KB := Lib.hid hrb
    have KI := Lib.hid hin
    have K0 := Lib.hid hr0
    have KL := Lib.hid hbl
    have KS := Lib.hid hst
    have hne : w.heap.size + 1 ≠ w1.heap.size := by omega
    clear hrb hin hr0 hbl hst k1 f1 S3 R3 Q3 L3 P2 P0 P1 PL PS
    by_cases hlt : k < l.size
    · have hk' : k < (fieldsF (n : Int)).length := by rw [← Hl.out]; exact hlt
      obtain ⟨x, hx⟩ : ∃ x, (fieldsF (n : Int))[k]? = some x := ⟨_, List.getElem?_eq_getElem hk'⟩
      have Hx := Lib.hid hx
      have hch : l[k] = pcode x := by
        have h2 := (List.getElem?_eq_some_iff.1 hx).2
        have h3 := pstr_get (fieldsF (n : Int)) k (by rw [HL.out]; exact hlt) hk'
        rw [h2] at h3
        rw [← h3]
        have h4 := HL.out
        subst h4
        rfl
      have hix := ix_str l k hlt _ hch
      clear hx hch hk'
      go_wp2_with fail
      refine (get_any (w.heap.size + 1) w1.heap.size (w1.heap.size + 1) bb okk s' R C wr KB.out hbz KI.out hne (by omega) (by omega) hlo x).mono ?_
      rintro e w3 ⟨s3, R3, C3, b3, ok3, rfl, hb3, hi3, ho3, hz3, hr3⟩
      have GB := Lib.hid hb3
      have GI := Lib.hid hi3
      have GO := Lib.hid (bl_off KL.out ho3 (by omega) (by omega))
      have G0 := Lib.hid (off_blk ho3 K0.out (by omega) (by omega))
      have hlo3 : w1.heap.size + 1 ≤ w3.heap.size := Nat.le_trans hlo ho3.size
      have GR := Lib.hid hr3
      clear hb3 hi3 ho3 hix hr3
      go_wp2
      go_roundw
      case rel =>
        refine ⟨k + 1, s3, R3, C3, b3, ok3, by omega, by go_num, GB.out, GI.out, G0.out, GO.out, hz3, hlo3, ?_⟩
        rcases KS.out with ⟨hok, hf, hd⟩ | ⟨hok, hd⟩
        · subst hok
          have hd2 := decTo_snoc (s := zeroSt n) (b := b1) Hx.out
          rw [hd] at hd2
          rcases GR.out with ⟨h3, h⟩ | ⟨h3, h⟩
          · exact .inl ⟨h3, hf, hd2.trans h⟩
          · exact .inr ⟨h3, .inr (decTo_none (hd2.trans h))⟩
        · subst hok
          rcases GR.out with ⟨h3, h⟩ | ⟨h3, h⟩
          · cases h
          · exact .inr ⟨h3, hd⟩
      case measure => simp [intOf]; omega
    · obtain rfl : k = l.size := by omega
      have hfull : (fieldsF (n : Int)).take l.size = fieldsF n := by rw [Hl.out, List.take_length]
      obtain ⟨A, c, rfl, hrd, hfr⟩ := KI.out.2.1
      obtain ⟨A', d, rfl, hcd, hfc⟩ := KI.out.2.2
      have HRD := Lib.hid hrd
      have HCD := Lib.hid hcd
      have HFR := Lib.hid hfr
      have HFC := Lib.hid hfc
      obtain ⟨k0, f0⟩ := blk_rules K0.out
      obtain ⟨k1, f1⟩ := blk_rules KB.out
      obtain ⟨k2, f2⟩ := blk_rules KI.out.1
      have hsr := blk_lt KI.out.1
      clear hrd hcd hfr hfc
      have hS := KS.out
      rw [hfull] at hS
      clear hfull
      obtain ⟨hokk, hs0, hb0, hds⟩ : okk = true ∧ s' = s0 ∧ bb = b0 ∧ decS b = if b0.size = 0 ∧ goodS s0 = true then some s0 else none := by
        rcases hS with ⟨h0, h1, h2⟩ | ⟨h1, h2⟩
        · rw [HD.out.2] at h2
          cases h2
          refine ⟨h0, rfl, rfl, ?_⟩
          unfold decS
          rw [HNUM.out]
          show (if kindOK (n : Int) = true then _ else _) = _
          rw [if_pos (HK.out.trans HD.out.1), HD.out.2]
          rfl
        · rcases h2 with h | h
          · rw [HD.out.1] at h; cases h
          · rw [HD.out.2] at h; cases h
      subst hokk
      subst hs0
      subst hb0
      have N := Lib.hid (show decS b = some s' by rw [hds]; exact if_pos HX.out)
      clear hds hS
      have he : bb = ByteArray.empty := by
        apply ByteArray.ext; apply Array.eq_empty_of_size_eq_zero; exact HX.out.1
      subst he
      go_wp2_with fail
      refine (goodS_any s' A A' s'.row.length c s'.cols.length d _ HRD.out HCD.out).mono ?_
      rintro e w4 ⟨rfl, hb4⟩
      have M0 := Lib.hid (blk_below K0.out hb4)
      have M2 := Lib.hid (blk_below KI.out.1 hb4)
      have ML := Lib.hid (bl_step KL.out hb4)
      have MR := Lib.hid (HRD.out.keep hb4)
      have MC := Lib.hid (HCD.out.keep hb4)
      obtain ⟨k3, f3⟩ := blk_rules M0.out
      obtain ⟨k4, f4⟩ := blk_rules M2.out
      have hs4 := blk_lt M2.out
      clear k0 f0 k1 f1 k2 f2 hb4
      rw [HX.out.2]
      go_wp2
      exact bodyPost_ret (results_blk1 (p := 2) (u := 3) (T := 28) (b := w.heap.size) rfl (fun _ => by kernel_rfl) (fun _ => by kernel_rfl) _ rfl (blk_set16 rfl M0.out _ _ _ _ _ _ _ _ _ _ _ _ _ _ _ _)) rfl (spost_some N.out (MR.out.off (off_set16 w.heap.size w4 _ _ _ _ _ _ _ _ _ _ _ _ _ _ _ _) (fun p hp => by have := HFR.out p hp; omega)) (MC.out.off (off_set16 w.heap.size w4 _ _ _ _ _ _ _ _ _ _ _ _ _ _ _ _) (fun p hp => by have := HFC.out p hp; omega)) (bl_set16 ML.out (Nat.le_refl _) _ _ _ _ _ _ _ _ _ _ _ _ _ _ _ _))
end Go.Proofs.Ytbmaeaknlpgdmaa
