/- stmt.Decode, at any bytes. stmt.Reads, stmt.Fatal, the reference's; wakes. wakes answers true. -/
import Derived.Test.YtbmaeaknlpgdmaaA31
import Derived.Test.YtbmaeaknlpgdmaaA32
import Derived.Test.YtbmaeaknlpgdmaaA33
import Derived.Test.YtbmaeaknlpgdmaaA34
import Derived.Test.YtbmaeaknlpgdmaaA35
import Derived.Test.YtbmaeaknlpgdmaaA30
import Derived.Test.YtbmaeaknlpgdmaaA24
namespace Go.Proofs.Ytbmaeaknlpgdmaa
open Go.RowKit
theorem sdec_any (b : ByteArray) (w : World) (hz : b.size ≤ 100000) : Calls Try.prog 11 #[.string b] w (SPost b w) := by
  cases hn : numD b with
  | none => exact sdec_0 b w hz hn
  | some x =>
    obtain ⟨n, b1⟩ := x
    by_cases h1 : kindOK (n : Int) = false ∨ decTo (zeroSt n) b1 (fieldsF n) = none
    · exact sdec_1 b w hz n b1 _ hn rfl h1
    · cases hd : decTo (zeroSt n) b1 (fieldsF n) with
      | none => exact absurd (.inr hd) h1
      | some y =>
        obtain ⟨s0, b0⟩ := y
        have hk : kindOK (n : Int) = true := by
          cases hk : kindOK (n : Int) with
          | true => rfl
          | false => exact absurd (.inl hk) h1
        by_cases h0 : b0.size = 0
        · cases hg : goodS s0 with
          | true => exact sdec_4 b w hz n b1 _ hn rfl s0 b0 ⟨hk, hd⟩ ⟨h0, hg⟩
          | false => exact sdec_3 b w hz n b1 _ hn rfl s0 b0 ⟨hk, hd⟩ ⟨h0, hg⟩
        · exact sdec_2 b w hz n b1 _ hn rfl s0 b0 ⟨hk, hd⟩ h0
end Go.Proofs.Ytbmaeaknlpgdmaa
namespace Go.Proofs.Ytbmaeaknlpgdmaa
open Go.RowKit
set_option linter.unusedVariables false
set_option linter.unusedSimpArgs false
set_option linter.constructorNameAsVariable false
def readsB (k : Int) : Bool := decide (k = 1 ∨ k = 2 ∨ k = 3 ∨ k = 7 ∨ k = 8 ∨ k = 9)
def fatalB (k : Int) : Bool := decide (k = 3 ∨ k = 63 ∨ (70 ≤ k ∧ k ≤ 74))
theorem reads_cases (k : Int) : k = 1 ∨ k = 2 ∨ k = 3 ∨ k = 7 ∨ k = 8 ∨ k = 9 ∨ k < 1 ∨ (4 ≤ k ∧ k ≤ 6) ∨ 10 ≤ k := by omega
theorem fatal_cases (k : Int) : k = 3 ∨ k = 63 ∨ k = 70 ∨ k = 71 ∨ k = 72 ∨ k = 73 ∨ k = 74 ∨ k < 3 ∨ (4 ≤ k ∧ k ≤ 62) ∨ (64 ≤ k ∧ k ≤ 69) ∨ 75 ≤ k := by omega
theorem readsB_no {k : Int} (h : k < 1 ∨ (4 ≤ k ∧ k ≤ 6) ∨ 10 ≤ k) : readsB k = false := by unfold readsB; rw [decide_eq_false_iff_not]; omega
theorem fatalB_no {k : Int} (h : k < 3 ∨ (4 ≤ k ∧ k ≤ 62) ∨ (64 ≤ k ∧ k ≤ 69) ∨ 75 ≤ k) : fatalB k = false := by unfold fatalB; rw [decide_eq_false_iff_not]; omega
set_option maxRecDepth 100000 in
set_option maxHeartbeats 1000000 in
theorem reads_any (k : Int) (w : World) : Calls Try.prog 17 #[.int .i64 k] w fun e w' => e = .returned (.bool (readsB k)) ∧ w = w' := by
  rcases reads_cases k with rfl | rfl | rfl | rfl | rfl | rfl | h | h | h
  all_goals first
    | (have N := Lib.hid (readsB_no (by first | exact .inl h | exact .inr (.inl h) | exact .inr (.inr h)) : readsB k = false)
       go_enter Try.func17, Try.ntmps17
       go_wp2
       go_ret
       exact ⟨ret_bool N.out.symm, rfl⟩)
    | (go_enter Try.func17, Try.ntmps17
       go_wp2
       go_ret
       exact ⟨rfl, rfl⟩)
set_option maxRecDepth 100000 in
set_option maxHeartbeats 1000000 in
theorem rreads_any (k : Int) (w : World) : Calls Try.prog 18 #[.int .i64 k] w fun e w' => e = .returned (.bool (readsB k)) ∧ w = w' := by
  rcases reads_cases k with rfl | rfl | rfl | rfl | rfl | rfl | h | h | h
  all_goals first
    | (have N := Lib.hid (readsB_no (by first | exact .inl h | exact .inr (.inl h) | exact .inr (.inr h)) : readsB k = false)
       have n1 : (k == 1) = false := by simp; omega
       have n2 : (k == 2) = false := by simp; omega
       have n3 : (k == 3) = false := by simp; omega
       have n7 : (k == 7) = false := by simp; omega
       have n8 : (k == 8) = false := by simp; omega
       have n9 : (k == 9) = false := by simp; omega
       go_enter Try.func18, Try.ntmps18
       go_wp2
       go_ret
       exact ⟨ret_bool N.out.symm, rfl⟩)
    | (go_enter Try.func18, Try.ntmps18
       go_wp2
       go_ret
       exact ⟨rfl, rfl⟩)
set_option maxRecDepth 100000 in
set_option maxHeartbeats 1000000 in
theorem fatal_any (k : Int) (w : World) : Calls Try.prog 19 #[.int .i64 k] w fun e w' => e = .returned (.bool (fatalB k)) ∧ w = w' := by
  rcases fatal_cases k with rfl | rfl | rfl | rfl | rfl | rfl | rfl | h | h | h | h
  all_goals first
    | (have N := Lib.hid (fatalB_no (by first | exact .inl h | exact .inr (.inl h) | exact .inr (.inr (.inl h)) | exact .inr (.inr (.inr h))) : fatalB k = false)
       go_enter Try.func19, Try.ntmps19
       go_wp2
       go_ret
       exact ⟨ret_bool N.out.symm, rfl⟩)
    | (go_enter Try.func19, Try.ntmps19
       go_wp2
       go_ret
       exact ⟨rfl, rfl⟩)
set_option maxRecDepth 100000 in
set_option maxHeartbeats 1000000 in
theorem rfatal_any (k : Int) (w : World) : Calls Try.prog 20 #[.int .i64 k] w fun e w' => e = .returned (.bool (fatalB k)) ∧ w = w' := by
  rcases fatal_cases k with rfl | rfl | rfl | rfl | rfl | rfl | rfl | h | h | h | h
  all_goals first
    | (have N := Lib.hid (fatalB_no (by first | exact .inl h | exact .inr (.inl h) | exact .inr (.inr (.inl h)) | exact .inr (.inr (.inr h))) : fatalB k = false)
       have n1 : (k == 3) = false := by simp; omega
       have n2 : (k == 63) = false := by simp; omega
       go_enter Try.func20, Try.ntmps20
       go_wp2
       go_ret
       first | exact ⟨ret_bool N.out.symm, rfl⟩ | exact ⟨ret_bool ((decide_eq_false (by omega)).trans N.out.symm), rfl⟩)
    | (go_enter Try.func20, Try.ntmps20
       go_wp2
       go_ret
       exact ⟨rfl, rfl⟩)
/-- The statement that wakes asks for. -/
def scanT : St := { zeroSt 9 with t := ⟨#[116]⟩ }
theorem scanT_good : goodS scanT = true := by decide +kernel
theorem scanT_enc : encS scanT = ⟨#[9, 1, 116]⟩ := by decide +kernel
theorem scanT_dec : decR ⟨#[9, 1, 116]⟩ = (scanT, 0) := by decide +kernel
theorem scanT_no : decR ⟨#[9, 1, 84]⟩ = (zeroSt 0, 11) := by decide +kernel
end Go.Proofs.Ytbmaeaknlpgdmaa
namespace Go.Proofs.Ytbmaeaknlpgdmaa
open Go.RowKit
set_option linter.unusedVariables false
set_option linter.unusedSimpArgs false
set_option linter.constructorNameAsVariable false
theorem scanT_flt : Flt scanT := by
  refine ⟨by decide, by decide, ?_, ?_⟩ <;> (intro v hv; cases hv)
set_option maxRecDepth 100000 in
set_option maxHeartbeats 4000000 in
theorem wakes_any (w : World) : Pure Try.prog 8 #[] w (.bool true) := by
  go_enter Try.func8, Try.ntmps8
  go_wp2_with fail
  refine (sencode_yes scanT none none 0 0 0 0 _ ⟨rfl, by simp, fun h => absurd h (by simp)⟩ ⟨rfl, by simp, fun h => absurd h (by simp)⟩ scanT_flt scanT_good).mono ?_
  rintro e w1 ⟨rfl, hb1⟩
  have B1 := Lib.hid hb1
  clear hb1
  rw [scanT_enc]
  go_wp2_with fail
  refine (sdec_any ⟨#[9, 1, 116]⟩ _ (by decide)).mono ?_
  rintro e w2 ⟨A, c, A', d, rfl, _, _, hb2⟩
  have B2 := Lib.hid (bl_step B1.out hb2)
  clear hb2
  rw [scanT_dec]
  go_wp2_with fail
  have C2 := blk_new w2 (.cells (scanT.row16 (.slice A scanT.row.length c) (.slice A' scanT.cols.length d)) 28)
  have L2 := bl_alloc B2.out (.cells (scanT.row16 (.slice A scanT.row.length c) (.slice A' scanT.cols.length d)) 28)
  refine (sdec_any ⟨#[9, 1, 84]⟩ _ (by decide)).mono ?_
  rintro e w3 ⟨A3, c3, A4, d4, rfl, _, _, hb3⟩
  have C3 := Lib.hid (blk_below C2 hb3)
  have B3 := Lib.hid (bl_step L2 hb3)
  have hs3 := blk_lt C3.out
  obtain ⟨k3, f3⟩ := blk_rules C3.out
  clear hb3 C2 L2
  rw [scanT_no]
  have hT : (scanT.t.toList == [116]) = true := by decide +kernel
  go_wp2
  go_ret
  exact ⟨rfl, bl_alloc B3.out _⟩
end Go.Proofs.Ytbmaeaknlpgdmaa
