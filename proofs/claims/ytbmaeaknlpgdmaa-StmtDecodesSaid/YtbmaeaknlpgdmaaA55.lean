/- The reference's Decode of bytes that are there: by the kind's fields. StmtDecodes answers true. -/
import Derived.Test.YtbmaeaknlpgdmaaA51
import Derived.Test.YtbmaeaknlpgdmaaA52
import Derived.Test.YtbmaeaknlpgdmaaA53
import Derived.Test.YtbmaeaknlpgdmaaA54
import Derived.Test.YtbmaeaknlpgdmaaA36
import Derived.Test.YtbmaeaknlpgdmaaA06
namespace Go.Proofs.Ytbmaeaknlpgdmaa
open Go.RowKit
theorem fieldsF_S {n : Int} (h4 : n ≠ 4) (h10 : n ≠ 10) (h12 : n ≠ 12) (k : Nat) (x : Fld) (hx : (fieldsF n)[k]? = some x) : x = .t ∨ x = .n ∨ x = .c ∨ x = .s ∨ x = .v ∨ x = .w ∨ x = .f := by
  have hm := List.mem_of_getElem? hx
  clear hx
  by_cases h : 1 ≤ n ∧ n ≤ 17
  · rcases kinds17 h with rfl | rfl | rfl | rfl | rfl | rfl | rfl | rfl | rfl | rfl | rfl | rfl | rfl | rfl | rfl | rfl | rfl
    all_goals first | (exact absurd rfl h4) | (exact absurd rfl h10) | (exact absurd rfl h12) | (revert hm; cases x <;> simp [fieldsF])
  · rw [fieldsF_no h] at hm; cases hm
theorem rdecode_1 (b : ByteArray) (w : World) (hz : b.size ≤ 100000) (n : Nat) (b1 : ByteArray) (hn : numD b = some (n, b1)) : Calls Try.prog 16 #[.string b] w (SPost b w) := by
  by_cases h4 : (n : Int) = 4
  · exact rdecode_R b w hz n b1 hn (fun k x hx => by rw [h4] at hx; have hm := List.mem_of_getElem? hx; revert hm; cases x <;> simp [fieldsF])
  by_cases h10 : (n : Int) = 10
  · exact rdecode_D b w hz n b1 hn (fun k x hx => by rw [h10] at hx; have hm := List.mem_of_getElem? hx; revert hm; cases x <;> simp [fieldsF])
  by_cases h12 : (n : Int) = 12
  · exact rdecode_O b w hz n b1 hn (fun k x hx => by rw [h12] at hx; have hm := List.mem_of_getElem? hx; revert hm; cases x <;> simp [fieldsF])
  exact rdecode_S b w hz n b1 hn (fun k x hx => fieldsF_S h4 h10 h12 k x hx)
end Go.Proofs.Ytbmaeaknlpgdmaa
namespace Go.Proofs.Ytbmaeaknlpgdmaa
open Go.RowKit
set_option linter.unusedVariables false
set_option linter.unusedSimpArgs false
set_option linter.constructorNameAsVariable false
theorem rdecode_any (b : ByteArray) (w : World) (hz : b.size ≤ 100000) : Calls Try.prog 16 #[.string b] w (SPost b w) := by
  by_cases h0 : b.size = 0
  · exact rdecode_0 b w h0
  · exact rdecode_1 b w hz (byteAt b 0) (b.extract 1 b.size) (if_pos (by omega))
set_option maxRecDepth 100000 in
set_option maxHeartbeats 4000000 in
theorem decodes_b (b : ByteArray) (k c : Int) (w : World) (hb : ¬ b.size ≤ 20000) :
    Pure Try.prog 5 #[.string b, .int .i64 k, .int .i64 c] w (.bool true) := by
  have hb20 : (20000 : Int) < (b.size : Int) := by omega
  go_enter Try.func5, Try.ntmps5
  go_wp2_with fail
  refine (wakes_any _).mono ?_
  rintro e w9 ⟨rfl, hb9⟩
  go_wp2
  go_ret
  exact ⟨rfl, hb9⟩
set_option maxRecDepth 100000 in
set_option maxHeartbeats 4000000 in
theorem decodes_s (b : ByteArray) (k c : Int) (w : World) (hb : b.size ≤ 20000) :
    Pure Try.prog 5 #[.string b, .int .i64 k, .int .i64 c] w (.bool true) := by
  have hb20 : ¬ ((20000 : Int) < (b.size : Int)) := by omega
  obtain ⟨t, x, hD⟩ : ∃ t x, decR b = (t, x) := ⟨_, _, rfl⟩
  have HD := Lib.hid hD
  have HE := Lib.hid (show eqSt t t = true by rw [eqSt_iff]; exact decide_eq_true rfl)
  clear hD
  go_enter Try.func5, Try.ntmps5
  go_wp2_with fail
  refine (sdec_any b _ (by omega)).mono ?_
  rintro e w1 ⟨A, a, A', a', rfl, h1, h2, hb1⟩
  rw [HD.out] at h1 h2 ⊢
  have B1 := Lib.hid (blk_new w1 (.cells (t.row16 (.slice A t.row.length a) (.slice A' t.cols.length a')) 28))
  have L1 := Lib.hid (bl_alloc hb1 (.cells (t.row16 (.slice A t.row.length a) (.slice A' t.cols.length a')) 28))
  have R1 := Lib.hid (h1.keep (bl_alloc (Below.refl w1.heap.size w1) (.cells (t.row16 (.slice A t.row.length a) (.slice A' t.cols.length a')) 28)))
  have Q1 := Lib.hid (h2.keep (bl_alloc (Below.refl w1.heap.size w1) (.cells (t.row16 (.slice A t.row.length a) (.slice A' t.cols.length a')) 28)))
  clear h1 h2 hb1
  go_wp2_with fail
  refine (rdecode_any b _ (by omega)).mono ?_
  rintro e w2 ⟨B, d, B', d', rfl, h1, h2, hb2⟩
  rw [HD.out] at h1 h2 ⊢
  have C1 := Lib.hid (blk_old (blk_below B1.out hb2) (.cells (t.row16 (.slice B t.row.length d) (.slice B' t.cols.length d')) 28))
  have B2 := Lib.hid (blk_new w2 (.cells (t.row16 (.slice B t.row.length d) (.slice B' t.cols.length d')) 28))
  have L2 := Lib.hid (bl_alloc (bl_step L1.out hb2) (.cells (t.row16 (.slice B t.row.length d) (.slice B' t.cols.length d')) 28))
  have R2 := Lib.hid ((R1.out.keep hb2).keep (bl_alloc (Below.refl w2.heap.size w2) (.cells (t.row16 (.slice B t.row.length d) (.slice B' t.cols.length d')) 28)))
  have Q2 := Lib.hid ((Q1.out.keep hb2).keep (bl_alloc (Below.refl w2.heap.size w2) (.cells (t.row16 (.slice B t.row.length d) (.slice B' t.cols.length d')) 28)))
  have R3 := Lib.hid (h1.keep (bl_alloc (Below.refl w2.heap.size w2) (.cells (t.row16 (.slice B t.row.length d) (.slice B' t.cols.length d')) 28)))
  have Q3 := Lib.hid (h2.keep (bl_alloc (Below.refl w2.heap.size w2) (.cells (t.row16 (.slice B t.row.length d) (.slice B' t.cols.length d')) 28)))
  clear h1 h2 hb2
  go_wp2_with (refine wpl_load16 rfl _ rfl _ rfl rfl C1.out ?_)
  go_wp2_with (refine wpl_load16 rfl _ rfl _ rfl rfl B2.out ?_)
  refine (kStmt t t A A' B B' _ a _ a' _ d _ d' _ R2.out Q2.out R3.out Q3.out).mono ?_
  rintro e w3 ⟨rfl, hb3⟩
  have L3 := Lib.hid (bl_step L2.out hb3)
  rw [HE.out]
  clear hb3
  go_wp2_with fail
  refine (reads_any k _).mono ?_
  rintro e w4 ⟨rfl, rfl⟩
  go_wp2_with fail
  refine (rreads_any k _).mono ?_
  rintro e w4 ⟨rfl, rfl⟩
  have hk : (readsB k == readsB k) = true := by cases readsB k <;> rfl
  go_wp2_with fail
  refine (fatal_any c _).mono ?_
  rintro e w4 ⟨rfl, rfl⟩
  go_wp2_with fail
  refine (rfatal_any c _).mono ?_
  rintro e w4 ⟨rfl, rfl⟩
  have hc : (fatalB c == fatalB c) = true := by cases fatalB c <;> rfl
  go_wp2_with fail
  refine (wakes_any _).mono ?_
  rintro e w9 ⟨rfl, hb9⟩
  go_wp2
  go_ret
  exact ⟨rfl, bl_step L3.out hb9⟩
theorem decodes_any (b : ByteArray) (k c : Int) (w : World) : Pure Try.prog 5 #[.string b, .int .i64 k, .int .i64 c] w (.bool true) := by
  by_cases h : b.size ≤ 20000
  · exact decodes_s b k c w h
  · exact decodes_b b k c w h
end Go.Proofs.Ytbmaeaknlpgdmaa
