/- stmt.Decode: no bytes. -/
import Derived.Test.YtbmaeaknlpgdmaaA30
namespace Go.Proofs.Ytbmaeaknlpgdmaa
open Go.RowKit
set_option linter.unusedVariables false
set_option linter.unusedSimpArgs false
set_option linter.constructorNameAsVariable false
set_option maxRecDepth 100000 in
set_option maxHeartbeats 4000000 in
theorem sdec_0 (b : ByteArray) (w : World) (hz : b.size ≤ 100000) (hn : numD b = none) : Calls Try.prog 11 #[.string b] w (SPost b w) := by
  have HNUM := Lib.hid hn
  clear hn
  go_enter Try.func11, Try.ntmps11
  go_wp2_with fail
  have R0 := blk_old (blk_new w (.cells #[.int .i64 0, .string ⟨#[]⟩, .string ⟨#[]⟩, .string ⟨#[]⟩, .string ⟨#[]⟩, .int .i64 0, .int .i64 0, .float .f64 0, .string ⟨#[]⟩, .int .i64 0, .int .i64 0, .float .f64 0, .string ⟨#[]⟩, .slice none 0 0, .slice none 0 0, .bool false] 28)) (.cells #[.string b, .bool true] 55)
  have RR := blk_new (w.alloc (.cells #[.int .i64 0, .string ⟨#[]⟩, .string ⟨#[]⟩, .string ⟨#[]⟩, .string ⟨#[]⟩, .int .i64 0, .int .i64 0, .float .f64 0, .string ⟨#[]⟩, .int .i64 0, .int .i64 0, .float .f64 0, .string ⟨#[]⟩, .slice none 0 0, .slice none 0 0, .bool false] 28)) (.cells #[.string b, .bool true] 55)
  rw [szal] at RR
  have BB : Below w.heap.size w ((w.alloc (.cells #[.int .i64 0, .string ⟨#[]⟩, .string ⟨#[]⟩, .string ⟨#[]⟩, .string ⟨#[]⟩, .int .i64 0, .int .i64 0, .float .f64 0, .string ⟨#[]⟩, .int .i64 0, .int .i64 0, .float .f64 0, .string ⟨#[]⟩, .slice none 0 0, .slice none 0 0, .bool false] 28)).alloc (.cells #[.string b, .bool true] 55)) := by (repeat (first | assumption | exact Below.refl _ _ | refine bl_drewN ?_ _ | refine bl_drew ?_ | refine bl_alloc ?_ _ | refine bl_step ?_ (by assumption)))
  generalize ((w.alloc (.cells #[.int .i64 0, .string ⟨#[]⟩, .string ⟨#[]⟩, .string ⟨#[]⟩, .string ⟨#[]⟩, .int .i64 0, .int .i64 0, .float .f64 0, .string ⟨#[]⟩, .int .i64 0, .int .i64 0, .float .f64 0, .string ⟨#[]⟩, .slice none 0 0, .slice none 0 0, .bool false] 28)).alloc (.cells #[.string b, .bool true] 55)) = W0 at R0 RR BB ⊢
  refine (num_any (w.heap.size + 1) b true W0 RR hz).mono ?_
  rintro e w1 ⟨n', b1', ok1, rfl, hb1, ho1, hz1, hr⟩
  obtain ⟨hok, hn1⟩ : ok1 = false ∧ n' = 0 := by
    rcases hr with ⟨h1, h⟩ | ⟨h1, _, h⟩
    · have h' : numD b = some (n', b1') := h
      rw [HNUM.out] at h'
      cases h'
    · exact ⟨h1, h⟩
  subst hok
  subst hn1
  clear hr
  have hsW : w.heap.size + 1 < W0.heap.size := blk_lt RR
  have hs1 : W0.heap.size ≤ w1.heap.size := ho1.size
  have R1 := Lib.hid (off_blk ho1 R0 (by omega) (by omega))
  have HB := Lib.hid hb1
  have HBL := Lib.hid (bl_off BB ho1 (by omega) (by omega))
  clear hb1 ho1 R0 RR BB
  obtain ⟨k1, f1⟩ := blk_rules HB.out
  have hs2 : w.heap.size + 1 < w1.heap.size := by omega
  go_wp2_with fail
  have S2 := blk_new w1 (.cells ((zeroSt (0 : Int)).row16 (.slice none 0 0) (.slice none 0 0)) 28)
  have R2 := blk_old R1.out (.cells ((zeroSt (0 : Int)).row16 (.slice none 0 0) (.slice none 0 0)) 28)
  have Q2 := blk_old HB.out (.cells ((zeroSt (0 : Int)).row16 (.slice none 0 0) (.slice none 0 0)) 28)
  have L2 := bl_alloc HBL.out (.cells ((zeroSt (0 : Int)).row16 (.slice none 0 0) (.slice none 0 0)) 28)
  refine (fields_any (0 : Int) _).mono ?_
  rintro e w2 ⟨rfl, hb2⟩
  have S3 := Lib.hid (blk_below S2 hb2)
  have R3 := Lib.hid (blk_below R2 hb2)
  have Q3 := Lib.hid (blk_below Q2 hb2)
  have L3 := Lib.hid (bl_step L2 hb2)
  have hs3 : w1.heap.size < w2.heap.size := blk_lt S3.out
  clear S2 R2 Q2 L2 hb2 k1 f1 R1 HB HBL
  obtain ⟨k1, f1⟩ := blk_rules Q3.out
  obtain ⟨l, hl⟩ : ∃ l, pstr (fieldsF (0 : Int)) = l := ⟨_, rfl⟩
  have HL := Lib.hid hl
  rw [hl]
  clear hl
  have Hl := Lib.hid (show l.size = (fieldsF (0 : Int)).length by rw [← HL.out, pstr_size])
  have hl5 : l.size ≤ 5 := by have := fieldsF_len (0 : Int); rw [Hl.out]; exact this
  have hl0 : l.size = 0 := by rw [Hl.out]; rfl
  have N := Lib.hid (show decS b = none by unfold decS; rw [HNUM.out]; rfl)
  have P2 := Lib.hid (blk_set_eq (L' := #[.string b1', .bool false]) Q3.out 1 (.bool false) rfl)
  have P0 := Lib.hid (blk_far (p := ⟨w.heap.size + 1, 1, none⟩) R3.out (show w.heap.size ≠ w.heap.size + 1 by omega) (.bool false))
  have PL := Lib.hid (bl_set (p := ⟨w.heap.size + 1, 1, none⟩) L3.out (show w.heap.size ≤ w.heap.size + 1 by omega) (.bool false))
  go_wp2
  go_loopw [8, 33] (fun _ i wr => i = .int .i64 0 ∧ RB (w.heap.size + 1) b1' false wr ∧ wr.heap[w.heap.size]? = some (.cells ((zeroSt 0).row16 (.slice none 0 0) (.slice none 0 0)) 28 (0, 0)) ∧ Below w.heap.size w wr) (fun _ i _ => l.size - (intOf i).toNat)
  case atStart => exact ⟨rfl, P2.out, P0.out, PL.out⟩
  case round =>
    obtain ⟨rfl, hrb, hr0, hbl⟩ := hrel
    have KB := Lib.hid hrb
    have K0 := Lib.hid hr0
    have KL := Lib.hid hbl
    obtain ⟨k0, f0⟩ := blk_rules K0.out
    obtain ⟨k2, f2⟩ := blk_rules KB.out
    clear hrb hr0 hbl k1 f1 S3 R3 Q3 L3 P2 P0 PL
    go_wp2
    exact bodyPost_ret (results_blk1 (p := 2) (u := 3) (T := 28) (b := w.heap.size) rfl (fun _ => by kernel_rfl) (fun _ => by kernel_rfl) _ rfl (blk_set16 rfl K0.out _ _ _ _ _ _ _ _ _ _ _ _ _ _ _ _)) rfl (spost_none N.out (bl_set16 KL.out (Nat.le_refl _) _ _ _ _ _ _ _ _ _ _ _ _ _ _ _ _))
end Go.Proofs.Ytbmaeaknlpgdmaa
