/- A map from int to functions that a function makes for itself and asks once. -/
import Derived.Test.YtbmaeaknlpgdmaaA01
import Derived.MapKept
import Derived.Test.YtbmaeaknlpgdmaaA02
namespace Go.Proofs.Ytbmaeaknlpgdmaa
open Go.RowKit
def chOK (i c : Nat) : Bool := decide (97 ≤ c ∧ c ≤ 122) || (decide (0 < i) && decide ((48 ≤ c ∧ c ≤ 57) ∨ c = 95))
def byteAt (s : ByteArray) (i : Nat) : Nat := if h : i < s.size then s[i].toNat else 0
theorem byteAt_ {s : ByteArray} {i : Nat} (h : i < s.size) : byteAt s i = s[i].toNat := by unfold byteAt; rw [dif_pos h]
theorem byteAt_lt (s : ByteArray) (i : Nat) : byteAt s i < 256 := by
  unfold byteAt; split
  · exact UInt8.toNat_lt _
  · omega
def nameB (s : ByteArray) : Bool := decide (1 ≤ s.size ∧ s.size ≤ 8 ∧ ∀ i, i < s.size → chOK i (byteAt s i) = true)
theorem nameB_size {s : ByteArray} (h : nameB s = true) : 1 ≤ s.size ∧ s.size ≤ 8 := by
  unfold nameB at h; simp at h; omega

theorem all_succ {s : ByteArray} {k : Nat} (h : ∀ j, j < k → chOK j (byteAt s j) = true) (hk : chOK k (byteAt s k) = true) : ∀ j, j < k + 1 → chOK j (byteAt s j) = true := by
  intro j hj
  rcases Nat.lt_succ_iff_lt_or_eq.1 hj with h1 | h1
  · exact h j h1
  · rw [h1]; exact hk
theorem nameB_no {s : ByteArray} {k : Nat} (hk : k < s.size) (h : chOK k (byteAt s k) = false) : nameB s = false := by
  unfold nameB; simp only [decide_eq_false_iff_not]; rintro ⟨_, _, h3⟩; rw [h3 k hk] at h; cases h
theorem nameB_yes {s : ByteArray} (h0 : ¬ s.size < 1) (h8 : ¬ 8 < s.size) (h : ∀ j, j < s.size → chOK j (byteAt s j) = true) : nameB s = true := by
  unfold nameB; simp only [decide_eq_true_eq]; exact ⟨by omega, by omega, h⟩

set_option maxRecDepth 100000 in
set_option maxHeartbeats 4000000 in
theorem name_any (s : ByteArray) (w : World) : Calls Try.prog 65 #[.string s] w fun e w' => e = .returned (.bool (nameB s)) ∧ w = w' := by
  by_cases h0 : s.size < 1
  · have E := Lib.hid (show nameB s = false by unfold nameB; simp; omega)
    go_enter Try.func65, Try.ntmps65
    go_wp2
    go_ret
    exact ⟨by rw [E.out]; rfl, rfl⟩
  by_cases h8 : 8 < s.size
  · have E := Lib.hid (show nameB s = false by unfold nameB; simp; omega)
    go_enter Try.func65, Try.ntmps65
    go_wp2
    go_ret
    exact ⟨by rw [E.out]; rfl, rfl⟩
  go_enter Try.func65, Try.ntmps65
  go_wp2
  go_loop [16] (fun i => ∃ k : Nat, k ≤ s.size ∧ i = .int .i64 k ∧ ∀ j, j < k → chOK j (byteAt s j) = true) (fun i => s.size - (intOf i).toNat)
  case atStart => exact ⟨0, Nat.zero_le _, rfl, fun j hj => by omega⟩
  case round =>
    obtain ⟨k, hk, rfl, hall⟩ := hrel
    have Hall := Lib.hid hall
    clear hall
    by_cases hlt : k < s.size
    · have hc : byteAt s k = s[k].toNat := byteAt_ hlt
      have hc2 := byteAt_lt s k
      have Hc := Lib.hid hc
      rw [hc] at hc2
      clear hc
      have hcs : (k = 0 ∨ 1 ≤ k) ∧ ((s[k].toNat : Int) ≤ 47 ∨ (48 ≤ (s[k].toNat : Int) ∧ (s[k].toNat : Int) ≤ 57) ∨ (58 ≤ (s[k].toNat : Int) ∧ (s[k].toNat : Int) ≤ 94) ∨ (95 ≤ (s[k].toNat : Int) ∧ (s[k].toNat : Int) ≤ 95) ∨ (96 ≤ (s[k].toNat : Int) ∧ (s[k].toNat : Int) ≤ 96) ∨ (97 ≤ (s[k].toNat : Int) ∧ (s[k].toNat : Int) ≤ 122) ∨ 123 ≤ (s[k].toNat : Int)) := by omega
      obtain ⟨hk0, hcs⟩ := hcs
      rcases hk0 with hk0 | hk0 <;> rcases hcs with hcs | hcs | hcs | hcs | hcs | hcs | hcs
      · skip
        have t0 : decide (48 ≤ (s[k].toNat : Int)) = false := by simp; omega
        have t1 : decide ((s[k].toNat : Int) ≤ 57) = true := by simp; omega
        have t2 : ((s[k].toNat : Int) == 95) = false := by simp; omega
        have t3 : decide ((s[k].toNat : Int) < 97) = true := by simp; omega
        have t4 : decide (122 < (s[k].toNat : Int)) = false := by simp; omega
        have t5 : decide (97 ≤ (s[k].toNat : Int)) = false := by simp; omega
        have t6 : decide ((s[k].toNat : Int) ≤ 122) = true := by simp; omega
        have t7 : ((k : Int) == 0) = true := by simp; omega
        have hok : chOK k (byteAt s k) = false := by unfold chOK; rw [Hc.out]; simp; omega
        have Hok := Lib.hid hok; clear hok hk0 hcs hc2
        go_wp2
        have E := Lib.hid (nameB_no hlt Hok.out)
        go_ret
        exact ⟨by rw [E.out]; rfl, rfl⟩
      · skip
        have t0 : decide (48 ≤ (s[k].toNat : Int)) = true := by simp; omega
        have t1 : decide ((s[k].toNat : Int) ≤ 57) = true := by simp; omega
        have t2 : ((s[k].toNat : Int) == 95) = false := by simp; omega
        have t3 : decide ((s[k].toNat : Int) < 97) = true := by simp; omega
        have t4 : decide (122 < (s[k].toNat : Int)) = false := by simp; omega
        have t5 : decide (97 ≤ (s[k].toNat : Int)) = false := by simp; omega
        have t6 : decide ((s[k].toNat : Int) ≤ 122) = true := by simp; omega
        have t7 : ((k : Int) == 0) = true := by simp; omega
        have hok : chOK k (byteAt s k) = false := by unfold chOK; rw [Hc.out]; simp; omega
        have Hok := Lib.hid hok; clear hok hk0 hcs hc2
        go_wp2
        have E := Lib.hid (nameB_no hlt Hok.out)
        go_ret
        exact ⟨by rw [E.out]; rfl, rfl⟩
      · skip
        have t0 : decide (48 ≤ (s[k].toNat : Int)) = true := by simp; omega
        have t1 : decide ((s[k].toNat : Int) ≤ 57) = false := by simp; omega
        have t2 : ((s[k].toNat : Int) == 95) = false := by simp; omega
        have t3 : decide ((s[k].toNat : Int) < 97) = true := by simp; omega
        have t4 : decide (122 < (s[k].toNat : Int)) = false := by simp; omega
        have t5 : decide (97 ≤ (s[k].toNat : Int)) = false := by simp; omega
        have t6 : decide ((s[k].toNat : Int) ≤ 122) = true := by simp; omega
        have t7 : ((k : Int) == 0) = true := by simp; omega
        have hok : chOK k (byteAt s k) = false := by unfold chOK; rw [Hc.out]; simp; omega
        have Hok := Lib.hid hok; clear hok hk0 hcs hc2
        go_wp2
        have E := Lib.hid (nameB_no hlt Hok.out)
        go_ret
        exact ⟨by rw [E.out]; rfl, rfl⟩
      · skip
        have t0 : decide (48 ≤ (s[k].toNat : Int)) = true := by simp; omega
        have t1 : decide ((s[k].toNat : Int) ≤ 57) = false := by simp; omega
        have t2 : ((s[k].toNat : Int) == 95) = true := by simp; omega
        have t3 : decide ((s[k].toNat : Int) < 97) = true := by simp; omega
        have t4 : decide (122 < (s[k].toNat : Int)) = false := by simp; omega
        have t5 : decide (97 ≤ (s[k].toNat : Int)) = false := by simp; omega
        have t6 : decide ((s[k].toNat : Int) ≤ 122) = true := by simp; omega
        have t7 : ((k : Int) == 0) = true := by simp; omega
        have hok : chOK k (byteAt s k) = false := by unfold chOK; rw [Hc.out]; simp; omega
        have Hok := Lib.hid hok; clear hok hk0 hcs hc2
        go_wp2
        have E := Lib.hid (nameB_no hlt Hok.out)
        go_ret
        exact ⟨by rw [E.out]; rfl, rfl⟩
      · skip
        have t0 : decide (48 ≤ (s[k].toNat : Int)) = true := by simp; omega
        have t1 : decide ((s[k].toNat : Int) ≤ 57) = false := by simp; omega
        have t2 : ((s[k].toNat : Int) == 95) = false := by simp; omega
        have t3 : decide ((s[k].toNat : Int) < 97) = true := by simp; omega
        have t4 : decide (122 < (s[k].toNat : Int)) = false := by simp; omega
        have t5 : decide (97 ≤ (s[k].toNat : Int)) = false := by simp; omega
        have t6 : decide ((s[k].toNat : Int) ≤ 122) = true := by simp; omega
        have t7 : ((k : Int) == 0) = true := by simp; omega
        have hok : chOK k (byteAt s k) = false := by unfold chOK; rw [Hc.out]; simp; omega
        have Hok := Lib.hid hok; clear hok hk0 hcs hc2
        go_wp2
        have E := Lib.hid (nameB_no hlt Hok.out)
        go_ret
        exact ⟨by rw [E.out]; rfl, rfl⟩
      · skip
        have t0 : decide (48 ≤ (s[k].toNat : Int)) = true := by simp; omega
        have t1 : decide ((s[k].toNat : Int) ≤ 57) = false := by simp; omega
        have t2 : ((s[k].toNat : Int) == 95) = false := by simp; omega
        have t3 : decide ((s[k].toNat : Int) < 97) = false := by simp; omega
        have t4 : decide (122 < (s[k].toNat : Int)) = false := by simp; omega
        have t5 : decide (97 ≤ (s[k].toNat : Int)) = true := by simp; omega
        have t6 : decide ((s[k].toNat : Int) ≤ 122) = true := by simp; omega
        have t7 : ((k : Int) == 0) = true := by simp; omega
        have hok : chOK k (byteAt s k) = true := by unfold chOK; rw [Hc.out]; simp; omega
        have Hok := Lib.hid hok; clear hok hk0 hcs hc2
        go_wp2
        go_round
        case rel => exact ⟨k + 1, by omega, by go_num, all_succ Hall.out Hok.out⟩
        case measure => simp [intOf]; omega
      · skip
        have t0 : decide (48 ≤ (s[k].toNat : Int)) = true := by simp; omega
        have t1 : decide ((s[k].toNat : Int) ≤ 57) = false := by simp; omega
        have t2 : ((s[k].toNat : Int) == 95) = false := by simp; omega
        have t3 : decide ((s[k].toNat : Int) < 97) = false := by simp; omega
        have t4 : decide (122 < (s[k].toNat : Int)) = true := by simp; omega
        have t5 : decide (97 ≤ (s[k].toNat : Int)) = true := by simp; omega
        have t6 : decide ((s[k].toNat : Int) ≤ 122) = false := by simp; omega
        have t7 : ((k : Int) == 0) = true := by simp; omega
        have hok : chOK k (byteAt s k) = false := by unfold chOK; rw [Hc.out]; simp; omega
        have Hok := Lib.hid hok; clear hok hk0 hcs hc2
        go_wp2
        have E := Lib.hid (nameB_no hlt Hok.out)
        go_ret
        exact ⟨by rw [E.out]; rfl, rfl⟩
      · skip
        have t0 : decide (48 ≤ (s[k].toNat : Int)) = false := by simp; omega
        have t1 : decide ((s[k].toNat : Int) ≤ 57) = true := by simp; omega
        have t2 : ((s[k].toNat : Int) == 95) = false := by simp; omega
        have t3 : decide ((s[k].toNat : Int) < 97) = true := by simp; omega
        have t4 : decide (122 < (s[k].toNat : Int)) = false := by simp; omega
        have t5 : decide (97 ≤ (s[k].toNat : Int)) = false := by simp; omega
        have t6 : decide ((s[k].toNat : Int) ≤ 122) = true := by simp; omega
        have t7 : ((k : Int) == 0) = false := by simp; omega
        have hok : chOK k (byteAt s k) = false := by unfold chOK; rw [Hc.out]; simp; omega
        have Hok := Lib.hid hok; clear hok hk0 hcs hc2
        go_wp2
        have E := Lib.hid (nameB_no hlt Hok.out)
        go_ret
        exact ⟨by rw [E.out]; rfl, rfl⟩
      · skip
        have t0 : decide (48 ≤ (s[k].toNat : Int)) = true := by simp; omega
        have t1 : decide ((s[k].toNat : Int) ≤ 57) = true := by simp; omega
        have t2 : ((s[k].toNat : Int) == 95) = false := by simp; omega
        have t3 : decide ((s[k].toNat : Int) < 97) = true := by simp; omega
        have t4 : decide (122 < (s[k].toNat : Int)) = false := by simp; omega
        have t5 : decide (97 ≤ (s[k].toNat : Int)) = false := by simp; omega
        have t6 : decide ((s[k].toNat : Int) ≤ 122) = true := by simp; omega
        have t7 : ((k : Int) == 0) = false := by simp; omega
        have hok : chOK k (byteAt s k) = true := by unfold chOK; rw [Hc.out]; simp; omega
        have Hok := Lib.hid hok; clear hok hk0 hcs hc2
        go_wp2
        go_round
        case rel => exact ⟨k + 1, by omega, by go_num, all_succ Hall.out Hok.out⟩
        case measure => simp [intOf]; omega
      · skip
        have t0 : decide (48 ≤ (s[k].toNat : Int)) = true := by simp; omega
        have t1 : decide ((s[k].toNat : Int) ≤ 57) = false := by simp; omega
        have t2 : ((s[k].toNat : Int) == 95) = false := by simp; omega
        have t3 : decide ((s[k].toNat : Int) < 97) = true := by simp; omega
        have t4 : decide (122 < (s[k].toNat : Int)) = false := by simp; omega
        have t5 : decide (97 ≤ (s[k].toNat : Int)) = false := by simp; omega
        have t6 : decide ((s[k].toNat : Int) ≤ 122) = true := by simp; omega
        have t7 : ((k : Int) == 0) = false := by simp; omega
        have hok : chOK k (byteAt s k) = false := by unfold chOK; rw [Hc.out]; simp; omega
        have Hok := Lib.hid hok; clear hok hk0 hcs hc2
        go_wp2
        have E := Lib.hid (nameB_no hlt Hok.out)
        go_ret
        exact ⟨by rw [E.out]; rfl, rfl⟩
      · skip
        have t0 : decide (48 ≤ (s[k].toNat : Int)) = true := by simp; omega
        have t1 : decide ((s[k].toNat : Int) ≤ 57) = false := by simp; omega
        have t2 : ((s[k].toNat : Int) == 95) = true := by simp; omega
        have t3 : decide ((s[k].toNat : Int) < 97) = true := by simp; omega
        have t4 : decide (122 < (s[k].toNat : Int)) = false := by simp; omega
        have t5 : decide (97 ≤ (s[k].toNat : Int)) = false := by simp; omega
        have t6 : decide ((s[k].toNat : Int) ≤ 122) = true := by simp; omega
        have t7 : ((k : Int) == 0) = false := by simp; omega
        have hok : chOK k (byteAt s k) = true := by unfold chOK; rw [Hc.out]; simp; omega
        have Hok := Lib.hid hok; clear hok hk0 hcs hc2
        go_wp2
        go_round
        case rel => exact ⟨k + 1, by omega, by go_num, all_succ Hall.out Hok.out⟩
        case measure => simp [intOf]; omega
      · skip
        have t0 : decide (48 ≤ (s[k].toNat : Int)) = true := by simp; omega
        have t1 : decide ((s[k].toNat : Int) ≤ 57) = false := by simp; omega
        have t2 : ((s[k].toNat : Int) == 95) = false := by simp; omega
        have t3 : decide ((s[k].toNat : Int) < 97) = true := by simp; omega
        have t4 : decide (122 < (s[k].toNat : Int)) = false := by simp; omega
        have t5 : decide (97 ≤ (s[k].toNat : Int)) = false := by simp; omega
        have t6 : decide ((s[k].toNat : Int) ≤ 122) = true := by simp; omega
        have t7 : ((k : Int) == 0) = false := by simp; omega
        have hok : chOK k (byteAt s k) = false := by unfold chOK; rw [Hc.out]; simp; omega
        have Hok := Lib.hid hok; clear hok hk0 hcs hc2
        go_wp2
        have E := Lib.hid (nameB_no hlt Hok.out)
        go_ret
        exact ⟨by rw [E.out]; rfl, rfl⟩
      · skip
        have t0 : decide (48 ≤ (s[k].toNat : Int)) = true := by simp; omega
        have t1 : decide ((s[k].toNat : Int) ≤ 57) = false := by simp; omega
        have t2 : ((s[k].toNat : Int) == 95) = false := by simp; omega
        have t3 : decide ((s[k].toNat : Int) < 97) = false := by simp; omega
        have t4 : decide (122 < (s[k].toNat : Int)) = false := by simp; omega
        have t5 : decide (97 ≤ (s[k].toNat : Int)) = true := by simp; omega
        have t6 : decide ((s[k].toNat : Int) ≤ 122) = true := by simp; omega
        have t7 : ((k : Int) == 0) = false := by simp; omega
        have hok : chOK k (byteAt s k) = true := by unfold chOK; rw [Hc.out]; simp; omega
        have Hok := Lib.hid hok; clear hok hk0 hcs hc2
        go_wp2
        go_round
        case rel => exact ⟨k + 1, by omega, by go_num, all_succ Hall.out Hok.out⟩
        case measure => simp [intOf]; omega
      · skip
        have t0 : decide (48 ≤ (s[k].toNat : Int)) = true := by simp; omega
        have t1 : decide ((s[k].toNat : Int) ≤ 57) = false := by simp; omega
        have t2 : ((s[k].toNat : Int) == 95) = false := by simp; omega
        have t3 : decide ((s[k].toNat : Int) < 97) = false := by simp; omega
        have t4 : decide (122 < (s[k].toNat : Int)) = true := by simp; omega
        have t5 : decide (97 ≤ (s[k].toNat : Int)) = true := by simp; omega
        have t6 : decide ((s[k].toNat : Int) ≤ 122) = false := by simp; omega
        have t7 : ((k : Int) == 0) = false := by simp; omega
        have hok : chOK k (byteAt s k) = false := by unfold chOK; rw [Hc.out]; simp; omega
        have Hok := Lib.hid hok; clear hok hk0 hcs hc2
        go_wp2
        have E := Lib.hid (nameB_no hlt Hok.out)
        go_ret
        exact ⟨by rw [E.out]; rfl, rfl⟩
    · obtain rfl : k = s.size := by omega
      have E := Lib.hid (nameB_yes h0 h8 Hall.out)
      go_wp2
      go_ret
      exact ⟨by rw [E.out]; rfl, rfl⟩

set_option maxRecDepth 100000 in
set_option maxHeartbeats 4000000 in
theorem rname_any (s : ByteArray) (w : World) : Calls Try.prog 40 #[.string s] w fun e w' => e = .returned (.bool (nameB s)) ∧ w = w' := by
  by_cases h0 : s.size < 1
  · have E := Lib.hid (show nameB s = false by unfold nameB; simp; omega)
    go_enter Try.func40, Try.ntmps40
    go_wp2
    go_ret
    exact ⟨by rw [E.out]; rfl, rfl⟩
  by_cases h8 : 8 < s.size
  · have E := Lib.hid (show nameB s = false by unfold nameB; simp; omega)
    go_enter Try.func40, Try.ntmps40
    go_wp2
    go_ret
    exact ⟨by rw [E.out]; rfl, rfl⟩
  go_enter Try.func40, Try.ntmps40
  go_wp2
  go_loop [3] (fun i => ∃ k : Nat, k ≤ s.size ∧ i = .int .i64 k ∧ ∀ j, j < k → chOK j (byteAt s j) = true) (fun i => s.size - (intOf i).toNat)
  case atStart => exact ⟨0, Nat.zero_le _, rfl, fun j hj => by omega⟩
  case round =>
    obtain ⟨k, hk, rfl, hall⟩ := hrel
    have Hall := Lib.hid hall
    clear hall
    by_cases hlt : k < s.size
    · have hc : byteAt s k = s[k].toNat := byteAt_ hlt
      have hc2 := byteAt_lt s k
      have Hc := Lib.hid hc
      rw [hc] at hc2
      clear hc
      have hcs : (k = 0 ∨ 1 ≤ k) ∧ ((s[k].toNat : Int) ≤ 47 ∨ (48 ≤ (s[k].toNat : Int) ∧ (s[k].toNat : Int) ≤ 57) ∨ (58 ≤ (s[k].toNat : Int) ∧ (s[k].toNat : Int) ≤ 94) ∨ (95 ≤ (s[k].toNat : Int) ∧ (s[k].toNat : Int) ≤ 95) ∨ (96 ≤ (s[k].toNat : Int) ∧ (s[k].toNat : Int) ≤ 96) ∨ (97 ≤ (s[k].toNat : Int) ∧ (s[k].toNat : Int) ≤ 122) ∨ 123 ≤ (s[k].toNat : Int)) := by omega
      obtain ⟨hk0, hcs⟩ := hcs
      rcases hk0 with hk0 | hk0 <;> rcases hcs with hcs | hcs | hcs | hcs | hcs | hcs | hcs
      · skip
        have t0 : decide (48 ≤ (s[k].toNat : Int)) = false := by simp; omega
        have t1 : decide ((s[k].toNat : Int) ≤ 57) = true := by simp; omega
        have t2 : ((s[k].toNat : Int) == 95) = false := by simp; omega
        have t3 : decide ((s[k].toNat : Int) < 97) = true := by simp; omega
        have t4 : decide (122 < (s[k].toNat : Int)) = false := by simp; omega
        have t5 : decide (97 ≤ (s[k].toNat : Int)) = false := by simp; omega
        have t6 : decide ((s[k].toNat : Int) ≤ 122) = true := by simp; omega
        have t7 : ((k : Int) == 0) = true := by simp; omega
        have hok : chOK k (byteAt s k) = false := by unfold chOK; rw [Hc.out]; simp; omega
        have Hok := Lib.hid hok; clear hok hk0 hcs hc2
        go_wp2
        have E := Lib.hid (nameB_no hlt Hok.out)
        go_ret
        exact ⟨by rw [E.out]; rfl, rfl⟩
      · skip
        have t0 : decide (48 ≤ (s[k].toNat : Int)) = true := by simp; omega
        have t1 : decide ((s[k].toNat : Int) ≤ 57) = true := by simp; omega
        have t2 : ((s[k].toNat : Int) == 95) = false := by simp; omega
        have t3 : decide ((s[k].toNat : Int) < 97) = true := by simp; omega
        have t4 : decide (122 < (s[k].toNat : Int)) = false := by simp; omega
        have t5 : decide (97 ≤ (s[k].toNat : Int)) = false := by simp; omega
        have t6 : decide ((s[k].toNat : Int) ≤ 122) = true := by simp; omega
        have t7 : ((k : Int) == 0) = true := by simp; omega
        have hok : chOK k (byteAt s k) = false := by unfold chOK; rw [Hc.out]; simp; omega
        have Hok := Lib.hid hok; clear hok hk0 hcs hc2
        go_wp2
        have E := Lib.hid (nameB_no hlt Hok.out)
        go_ret
        exact ⟨by rw [E.out]; rfl, rfl⟩
      · skip
        have t0 : decide (48 ≤ (s[k].toNat : Int)) = true := by simp; omega
        have t1 : decide ((s[k].toNat : Int) ≤ 57) = false := by simp; omega
        have t2 : ((s[k].toNat : Int) == 95) = false := by simp; omega
        have t3 : decide ((s[k].toNat : Int) < 97) = true := by simp; omega
        have t4 : decide (122 < (s[k].toNat : Int)) = false := by simp; omega
        have t5 : decide (97 ≤ (s[k].toNat : Int)) = false := by simp; omega
        have t6 : decide ((s[k].toNat : Int) ≤ 122) = true := by simp; omega
        have t7 : ((k : Int) == 0) = true := by simp; omega
        have hok : chOK k (byteAt s k) = false := by unfold chOK; rw [Hc.out]; simp; omega
        have Hok := Lib.hid hok; clear hok hk0 hcs hc2
        go_wp2
        have E := Lib.hid (nameB_no hlt Hok.out)
        go_ret
        exact ⟨by rw [E.out]; rfl, rfl⟩
      · skip
        have t0 : decide (48 ≤ (s[k].toNat : Int)) = true := by simp; omega
        have t1 : decide ((s[k].toNat : Int) ≤ 57) = false := by simp; omega
        have t2 : ((s[k].toNat : Int) == 95) = true := by simp; omega
        have t3 : decide ((s[k].toNat : Int) < 97) = true := by simp; omega
        have t4 : decide (122 < (s[k].toNat : Int)) = false := by simp; omega
        have t5 : decide (97 ≤ (s[k].toNat : Int)) = false := by simp; omega
        have t6 : decide ((s[k].toNat : Int) ≤ 122) = true := by simp; omega
        have t7 : ((k : Int) == 0) = true := by simp; omega
        have hok : chOK k (byteAt s k) = false := by unfold chOK; rw [Hc.out]; simp; omega
        have Hok := Lib.hid hok; clear hok hk0 hcs hc2
        go_wp2
        have E := Lib.hid (nameB_no hlt Hok.out)
        go_ret
        exact ⟨by rw [E.out]; rfl, rfl⟩
      · skip
        have t0 : decide (48 ≤ (s[k].toNat : Int)) = true := by simp; omega
        have t1 : decide ((s[k].toNat : Int) ≤ 57) = false := by simp; omega
        have t2 : ((s[k].toNat : Int) == 95) = false := by simp; omega
        have t3 : decide ((s[k].toNat : Int) < 97) = true := by simp; omega
        have t4 : decide (122 < (s[k].toNat : Int)) = false := by simp; omega
        have t5 : decide (97 ≤ (s[k].toNat : Int)) = false := by simp; omega
        have t6 : decide ((s[k].toNat : Int) ≤ 122) = true := by simp; omega
        have t7 : ((k : Int) == 0) = true := by simp; omega
        have hok : chOK k (byteAt s k) = false := by unfold chOK; rw [Hc.out]; simp; omega
        have Hok := Lib.hid hok; clear hok hk0 hcs hc2
        go_wp2
        have E := Lib.hid (nameB_no hlt Hok.out)
        go_ret
        exact ⟨by rw [E.out]; rfl, rfl⟩
      · skip
        have t0 : decide (48 ≤ (s[k].toNat : Int)) = true := by simp; omega
        have t1 : decide ((s[k].toNat : Int) ≤ 57) = false := by simp; omega
        have t2 : ((s[k].toNat : Int) == 95) = false := by simp; omega
        have t3 : decide ((s[k].toNat : Int) < 97) = false := by simp; omega
        have t4 : decide (122 < (s[k].toNat : Int)) = false := by simp; omega
        have t5 : decide (97 ≤ (s[k].toNat : Int)) = true := by simp; omega
        have t6 : decide ((s[k].toNat : Int) ≤ 122) = true := by simp; omega
        have t7 : ((k : Int) == 0) = true := by simp; omega
        have hok : chOK k (byteAt s k) = true := by unfold chOK; rw [Hc.out]; simp; omega
        have Hok := Lib.hid hok; clear hok hk0 hcs hc2
        go_wp2
        go_round
        case rel => exact ⟨k + 1, by omega, by go_num, all_succ Hall.out Hok.out⟩
        case measure => simp [intOf]; omega
      · skip
        have t0 : decide (48 ≤ (s[k].toNat : Int)) = true := by simp; omega
        have t1 : decide ((s[k].toNat : Int) ≤ 57) = false := by simp; omega
        have t2 : ((s[k].toNat : Int) == 95) = false := by simp; omega
        have t3 : decide ((s[k].toNat : Int) < 97) = false := by simp; omega
        have t4 : decide (122 < (s[k].toNat : Int)) = true := by simp; omega
        have t5 : decide (97 ≤ (s[k].toNat : Int)) = true := by simp; omega
        have t6 : decide ((s[k].toNat : Int) ≤ 122) = false := by simp; omega
        have t7 : ((k : Int) == 0) = true := by simp; omega
        have hok : chOK k (byteAt s k) = false := by unfold chOK; rw [Hc.out]; simp; omega
        have Hok := Lib.hid hok; clear hok hk0 hcs hc2
        go_wp2
        have E := Lib.hid (nameB_no hlt Hok.out)
        go_ret
        exact ⟨by rw [E.out]; rfl, rfl⟩
      · skip
        have t0 : decide (48 ≤ (s[k].toNat : Int)) = false := by simp; omega
        have t1 : decide ((s[k].toNat : Int) ≤ 57) = true := by simp; omega
        have t2 : ((s[k].toNat : Int) == 95) = false := by simp; omega
        have t3 : decide ((s[k].toNat : Int) < 97) = true := by simp; omega
        have t4 : decide (122 < (s[k].toNat : Int)) = false := by simp; omega
        have t5 : decide (97 ≤ (s[k].toNat : Int)) = false := by simp; omega
        have t6 : decide ((s[k].toNat : Int) ≤ 122) = true := by simp; omega
        have t7 : ((k : Int) == 0) = false := by simp; omega
        have hok : chOK k (byteAt s k) = false := by unfold chOK; rw [Hc.out]; simp; omega
        have Hok := Lib.hid hok; clear hok hk0 hcs hc2
        go_wp2
        have E := Lib.hid (nameB_no hlt Hok.out)
        go_ret
        exact ⟨by rw [E.out]; rfl, rfl⟩
      · skip
        have t0 : decide (48 ≤ (s[k].toNat : Int)) = true := by simp; omega
        have t1 : decide ((s[k].toNat : Int) ≤ 57) = true := by simp; omega
        have t2 : ((s[k].toNat : Int) == 95) = false := by simp; omega
        have t3 : decide ((s[k].toNat : Int) < 97) = true := by simp; omega
        have t4 : decide (122 < (s[k].toNat : Int)) = false := by simp; omega
        have t5 : decide (97 ≤ (s[k].toNat : Int)) = false := by simp; omega
        have t6 : decide ((s[k].toNat : Int) ≤ 122) = true := by simp; omega
        have t7 : ((k : Int) == 0) = false := by simp; omega
        have hok : chOK k (byteAt s k) = true := by unfold chOK; rw [Hc.out]; simp; omega
        have Hok := Lib.hid hok; clear hok hk0 hcs hc2
        go_wp2
        go_round
        case rel => exact ⟨k + 1, by omega, by go_num, all_succ Hall.out Hok.out⟩
        case measure => simp [intOf]; omega
      · skip
        have t0 : decide (48 ≤ (s[k].toNat : Int)) = true := by simp; omega
        have t1 : decide ((s[k].toNat : Int) ≤ 57) = false := by simp; omega
        have t2 : ((s[k].toNat : Int) == 95) = false := by simp; omega
        have t3 : decide ((s[k].toNat : Int) < 97) = true := by simp; omega
        have t4 : decide (122 < (s[k].toNat : Int)) = false := by simp; omega
        have t5 : decide (97 ≤ (s[k].toNat : Int)) = false := by simp; omega
        have t6 : decide ((s[k].toNat : Int) ≤ 122) = true := by simp; omega
        have t7 : ((k : Int) == 0) = false := by simp; omega
        have hok : chOK k (byteAt s k) = false := by unfold chOK; rw [Hc.out]; simp; omega
        have Hok := Lib.hid hok; clear hok hk0 hcs hc2
        go_wp2
        have E := Lib.hid (nameB_no hlt Hok.out)
        go_ret
        exact ⟨by rw [E.out]; rfl, rfl⟩
      · skip
        have t0 : decide (48 ≤ (s[k].toNat : Int)) = true := by simp; omega
        have t1 : decide ((s[k].toNat : Int) ≤ 57) = false := by simp; omega
        have t2 : ((s[k].toNat : Int) == 95) = true := by simp; omega
        have t3 : decide ((s[k].toNat : Int) < 97) = true := by simp; omega
        have t4 : decide (122 < (s[k].toNat : Int)) = false := by simp; omega
        have t5 : decide (97 ≤ (s[k].toNat : Int)) = false := by simp; omega
        have t6 : decide ((s[k].toNat : Int) ≤ 122) = true := by simp; omega
        have t7 : ((k : Int) == 0) = false := by simp; omega
        have hok : chOK k (byteAt s k) = true := by unfold chOK; rw [Hc.out]; simp; omega
        have Hok := Lib.hid hok; clear hok hk0 hcs hc2
        go_wp2
        go_round
        case rel => exact ⟨k + 1, by omega, by go_num, all_succ Hall.out Hok.out⟩
        case measure => simp [intOf]; omega
      · skip
        have t0 : decide (48 ≤ (s[k].toNat : Int)) = true := by simp; omega
        have t1 : decide ((s[k].toNat : Int) ≤ 57) = false := by simp; omega
        have t2 : ((s[k].toNat : Int) == 95) = false := by simp; omega
        have t3 : decide ((s[k].toNat : Int) < 97) = true := by simp; omega
        have t4 : decide (122 < (s[k].toNat : Int)) = false := by simp; omega
        have t5 : decide (97 ≤ (s[k].toNat : Int)) = false := by simp; omega
        have t6 : decide ((s[k].toNat : Int) ≤ 122) = true := by simp; omega
        have t7 : ((k : Int) == 0) = false := by simp; omega
        have hok : chOK k (byteAt s k) = false := by unfold chOK; rw [Hc.out]; simp; omega
        have Hok := Lib.hid hok; clear hok hk0 hcs hc2
        go_wp2
        have E := Lib.hid (nameB_no hlt Hok.out)
        go_ret
        exact ⟨by rw [E.out]; rfl, rfl⟩
      · skip
        have t0 : decide (48 ≤ (s[k].toNat : Int)) = true := by simp; omega
        have t1 : decide ((s[k].toNat : Int) ≤ 57) = false := by simp; omega
        have t2 : ((s[k].toNat : Int) == 95) = false := by simp; omega
        have t3 : decide ((s[k].toNat : Int) < 97) = false := by simp; omega
        have t4 : decide (122 < (s[k].toNat : Int)) = false := by simp; omega
        have t5 : decide (97 ≤ (s[k].toNat : Int)) = true := by simp; omega
        have t6 : decide ((s[k].toNat : Int) ≤ 122) = true := by simp; omega
        have t7 : ((k : Int) == 0) = false := by simp; omega
        have hok : chOK k (byteAt s k) = true := by unfold chOK; rw [Hc.out]; simp; omega
        have Hok := Lib.hid hok; clear hok hk0 hcs hc2
        go_wp2
        go_round
        case rel => exact ⟨k + 1, by omega, by go_num, all_succ Hall.out Hok.out⟩
        case measure => simp [intOf]; omega
      · skip
        have t0 : decide (48 ≤ (s[k].toNat : Int)) = true := by simp; omega
        have t1 : decide ((s[k].toNat : Int) ≤ 57) = false := by simp; omega
        have t2 : ((s[k].toNat : Int) == 95) = false := by simp; omega
        have t3 : decide ((s[k].toNat : Int) < 97) = false := by simp; omega
        have t4 : decide (122 < (s[k].toNat : Int)) = true := by simp; omega
        have t5 : decide (97 ≤ (s[k].toNat : Int)) = true := by simp; omega
        have t6 : decide ((s[k].toNat : Int) ≤ 122) = false := by simp; omega
        have t7 : ((k : Int) == 0) = false := by simp; omega
        have hok : chOK k (byteAt s k) = false := by unfold chOK; rw [Hc.out]; simp; omega
        have Hok := Lib.hid hok; clear hok hk0 hcs hc2
        go_wp2
        have E := Lib.hid (nameB_no hlt Hok.out)
        go_ret
        exact ⟨by rw [E.out]; rfl, rfl⟩
    · obtain rfl : k = s.size := by omega
      have E := Lib.hid (nameB_yes h0 h8 Hall.out)
      go_wp2
      go_ret
      exact ⟨by rw [E.out]; rfl, rfl⟩

end Go.Proofs.Ytbmaeaknlpgdmaa
namespace Go.Proofs.Ytbmaeaknlpgdmaa
open Go.RowKit
theorem set_push {α : Type} (xs : Array α) (a b : α) : (xs.push a).setIfInBounds xs.size b = xs.push b := by
  apply Array.ext_getElem?
  intro i
  rw [Array.getElem?_setIfInBounds, Array.getElem?_push, Array.getElem?_push]
  by_cases h : i = xs.size
  · subst h; simp
  · simp [h, Ne.symm h]
section
variable {P : Program} {t kt et : TypeId}
theorem chk_int (hk : P.underlying kt = some (.int .i64)) (em : Bool) (n : Nat) (k : Int) (w : World) : (Instr.checkKey em (n + 1) kt (.int .i64 k)).run P w = .ok () w := by
  simp [Instr.checkKey, run_underlying hk]
theorem chk_int' (hk : P.underlying kt = some (.int .i64)) (em : Bool) (k : Int) (w : World) : (Instr.checkKey em 10000 kt (.int .i64 k)).run P w = .ok () w := chk_int hk em 9999 k w
theorem find_now (hk : P.underlying kt = some (.int .i64)) (k : Int) (es : List MapEntry) (r : Option (Nat × Value)) (h : Instr.findNow (.int .i64) (.int .i64 k) es 0 = some r) (w : World) :
    (Instr.findKey kt (.int .i64 k) es).run P w = .ok r w := by
  simp [Instr.findKey, run_underlying hk, h]
theorem run_ins_int (ht : P.underlying t = some (.map kt et)) (hk : P.underlying kt = some (.int .i64)) (W : World) (es : Array MapEntry) (c : Nat) (k : Int) (v : Value)
    (h : Instr.findNow (.int .i64) (.int .i64 k) es.toList 0 = some none) :
    (Instr.mapUpdate t (.map (some W.heap.size)) (.int .i64 k) v).run P (W.alloc (.map es c)) = .ok () (W.alloc (.map (es.push ⟨.int .i64 k, v, c⟩) (c + 1))) := by
  have hb : (W.alloc (.map es c)).heap[W.heap.size]? = some (.map es c) := heap_alloc_new W (.map es c)
  simp [Instr.mapUpdate, run_underlying ht, MapKept.run_getObj_map hb, chk_int' hk, find_now hk k es.toList _ h, MapKept.run_setObj_map _ hb]
  show _ = World.mk _ _ _ _ _
  congr 1
  exact set_push _ _ _
theorem run_look_int (ht : P.underlying t = some (.map kt et)) (hk : P.underlying kt = some (.int .i64)) (W : World) (r : Nat) (es : Array MapEntry) (c : Nat) (hb : W.heap[r]? = some (.map es c)) (k : Int) (i : Nat) (v : Value)
    (h : Instr.findNow (.int .i64) (.int .i64 k) es.toList 0 = some (some (i, v))) :
    (Instr.lookup t (.map (some r)) (.int .i64 k) false).run P W = .ok v W := by
  simp [Instr.lookup, run_underlying ht, MapKept.run_getObj_map hb, chk_int' hk, find_now hk k es.toList _ h]
theorem run_look_none (ht : P.underlying t = some (.map kt et)) (hk : P.underlying kt = some (.int .i64)) (W : World) (r : Nat) (es : Array MapEntry) (c : Nat) (hb : W.heap[r]? = some (.map es c)) (k : Int) (z : Value)
    (hz : ∀ w, (zeroValue et).run P w = .ok z w) (h : Instr.findNow (.int .i64) (.int .i64 k) es.toList 0 = some none) :
    (Instr.lookup t (.map (some r)) (.int .i64 k) false).run P W = .ok z W := by
  simp [Instr.lookup, run_underlying ht, MapKept.run_getObj_map hb, chk_int' hk, find_now hk k es.toList _ h, hz]
end
end Go.Proofs.Ytbmaeaknlpgdmaa
namespace Go.Proofs.Ytbmaeaknlpgdmaa
open Go.RowKit
def bareB (v : Vl) (n f s : Bool) : Bool := (n || (v.n == 0)) && (f || ((v.f : Int) == 0)) && (s || v.s.toList.isEmpty)
set_option maxRecDepth 100000 in
set_option maxHeartbeats 4000000 in
theorem bare_any (v : Vl) (n f s : Bool) (w : World) : Pure Try.prog 102 #[v.agg, .bool n, .bool f, .bool s] w (.bool (bareB v n f s)) := by
  have hfb := Try.float64bits
  obtain ⟨vk, vn, vf, vs⟩ := v
  unfold bareB
  dsimp only
  go_enter Try.func102, Try.ntmps102
  go_wp2
  all_goals
    go_ret
    refine ⟨?_, by (repeat (first | assumption | exact Below.refl _ _ | refine bl_drewN ?_ _ | refine bl_drew ?_ | refine bl_alloc ?_ _ | refine bl_step ?_ (by assumption)))⟩
    show Ending.returned (.bool _) = _
    simp_all


def nullB (v : Vl) : Bool := bareB v false false false
set_option maxRecDepth 100000 in
theorem null_any (v : Vl) (w : World) : Pure Try.prog 87 #[v.agg] w (.bool (bareB v false false false)) := by
  go_enter Try.func87, Try.ntmps87
  go_wp2_with (go_at_call 102; refine (bare_any v _ _ _ _).mono ?_; rintro e w1 ⟨rfl, hb⟩)
  go_ret
  exact ⟨rfl, by (repeat (first | assumption | exact Below.refl _ _ | refine bl_drewN ?_ _ | refine bl_drew ?_ | refine bl_alloc ?_ _ | refine bl_step ?_ (by assumption)))⟩

set_option maxRecDepth 100000 in
theorem int_any (v : Vl) (w : World) : Pure Try.prog 89 #[v.agg] w (.bool (bareB v true false false)) := by
  go_enter Try.func89, Try.ntmps89
  go_wp2_with (go_at_call 102; refine (bare_any v _ _ _ _).mono ?_; rintro e w1 ⟨rfl, hb⟩)
  go_ret
  exact ⟨rfl, by (repeat (first | assumption | exact Below.refl _ _ | refine bl_drewN ?_ _ | refine bl_drew ?_ | refine bl_alloc ?_ _ | refine bl_step ?_ (by assumption)))⟩

set_option maxRecDepth 100000 in
theorem own_bool_any (v : Vl) (w : World) : Pure Try.prog 88 #[v.agg] w (.bool (bareB v true false false && (v.n == 0 || v.n == 1))) := by
  go_enter Try.func88, Try.ntmps88
  go_wp2_with fail
  refine (bare_any v _ _ _ _).mono ?_
  rintro e w1 ⟨rfl, hb⟩
  obtain ⟨hc, hf⟩ := bcell hb
  have hz := hb.size
  go_wp2
  all_goals
    go_ret
    refine ⟨?_, by (repeat (first | assumption | exact Below.refl _ _ | refine bl_drewN ?_ _ | refine bl_drew ?_ | refine bl_alloc ?_ _ | refine bl_step ?_ (by assumption)))⟩
    show Ending.returned (.bool _) = _
    simp_all

set_option maxRecDepth 100000 in
theorem own_float_any (v : Vl) (w : World) : Pure Try.prog 90 #[v.agg] w (.bool (bareB v false true false && isF v.f)) := by
  go_enter Try.func90, Try.ntmps90
  go_wp2_with fail
  refine (bare_any v _ _ _ _).mono ?_
  rintro e w1 ⟨rfl, hb⟩
  obtain ⟨hc, hf⟩ := bcell hb
  have hz := hb.size
  go_wp2_with (go_at_call 103; refine (is_any _ _).mono ?_; rintro e w' ⟨rfl, rfl⟩)
  all_goals
    go_ret
    refine ⟨?_, by (repeat (first | assumption | exact Below.refl _ _ | refine bl_drewN ?_ _ | refine bl_drew ?_ | refine bl_alloc ?_ _ | refine bl_step ?_ (by assumption)))⟩
    show Ending.returned (.bool _) = _
    simp_all

set_option maxRecDepth 100000 in
theorem own_text_any (v : Vl) (w : World) : Pure Try.prog 91 #[v.agg] w (.bool (bareB v false false true && decide ((v.s.size : Int) ≤ 256))) := by
  go_enter Try.func91, Try.ntmps91
  go_wp2_with fail
  refine (bare_any v _ _ _ _).mono ?_
  rintro e w1 ⟨rfl, hb⟩
  obtain ⟨hc, hf⟩ := bcell hb
  have hz := hb.size
  go_wp2
  all_goals
    go_ret
    refine ⟨?_, by (repeat (first | assumption | exact Below.refl _ _ | refine bl_drewN ?_ _ | refine bl_drew ?_ | refine bl_alloc ?_ _ | refine bl_step ?_ (by assumption)))⟩
    show Ending.returned (.bool _) = _
    simp_all

theorem Try.uFmap : Try.prog.underlying 102 = some (.map 3 100) := by kernel_rfl
theorem Try.uInt : Try.prog.underlying 3 = some (.int .i64) := by kernel_rfl
abbrev gm : Array MapEntry := #[⟨.int .i64 0, .func (.func 87) #[] #[], 0⟩, ⟨.int .i64 1, .func (.func 88) #[] #[], 1⟩, ⟨.int .i64 2, .func (.func 89) #[] #[], 2⟩, ⟨.int .i64 3, .func (.func 90) #[] #[], 3⟩, ⟨.int .i64 4, .func (.func 91) #[] #[], 4⟩]
theorem szal (W : World) (O : Obj) : (W.alloc O).heap.size = W.heap.size + 1 := by simp
theorem gm_ins (W : World) (O : Obj) (es : Array MapEntry) (c : Nat) (k : Int) (f : Nat) (h : Instr.findNow (.int .i64) (.int .i64 k) es.toList 0 = some none) :
    (Instr.mapUpdate 102 (.map (some (W.heap.size + 1))) (.int .i64 k) (.func (.func f) #[] #[])).run Try.prog ((W.alloc O).alloc (.map es c)) = .ok () ((W.alloc O).alloc (.map (es.push ⟨.int .i64 k, .func (.func f) #[] #[], c⟩) (c + 1))) := by
  have h1 := run_ins_int Try.uFmap Try.uInt (W.alloc O) es c k (.func (.func f) #[] #[]) h
  rwa [szal] at h1
theorem gm_ins0 (W : World) (O : Obj) (f0 : Nat) : (Instr.mapUpdate 102 (.map (some (W.heap.size + 1))) (.int .i64 0) (.func (.func f0) #[] #[])).run Try.prog ((W.alloc O).alloc (.map #[] 0)) = .ok () ((W.alloc O).alloc (.map #[⟨.int .i64 0, .func (.func f0) #[] #[], 0⟩] 1)) := gm_ins W O #[] 0 0 f0 rfl
theorem gm_ins1 (W : World) (O : Obj) (f0 f1 : Nat) : (Instr.mapUpdate 102 (.map (some (W.heap.size + 1))) (.int .i64 1) (.func (.func f1) #[] #[])).run Try.prog ((W.alloc O).alloc (.map #[⟨.int .i64 0, .func (.func f0) #[] #[], 0⟩] 1)) = .ok () ((W.alloc O).alloc (.map #[⟨.int .i64 0, .func (.func f0) #[] #[], 0⟩, ⟨.int .i64 1, .func (.func f1) #[] #[], 1⟩] 2)) := gm_ins W O #[⟨.int .i64 0, .func (.func f0) #[] #[], 0⟩] 1 1 f1 rfl
theorem gm_ins2 (W : World) (O : Obj) (f0 f1 f2 : Nat) : (Instr.mapUpdate 102 (.map (some (W.heap.size + 1))) (.int .i64 2) (.func (.func f2) #[] #[])).run Try.prog ((W.alloc O).alloc (.map #[⟨.int .i64 0, .func (.func f0) #[] #[], 0⟩, ⟨.int .i64 1, .func (.func f1) #[] #[], 1⟩] 2)) = .ok () ((W.alloc O).alloc (.map #[⟨.int .i64 0, .func (.func f0) #[] #[], 0⟩, ⟨.int .i64 1, .func (.func f1) #[] #[], 1⟩, ⟨.int .i64 2, .func (.func f2) #[] #[], 2⟩] 3)) := gm_ins W O #[⟨.int .i64 0, .func (.func f0) #[] #[], 0⟩, ⟨.int .i64 1, .func (.func f1) #[] #[], 1⟩] 2 2 f2 rfl
theorem gm_ins3 (W : World) (O : Obj) (f0 f1 f2 f3 : Nat) : (Instr.mapUpdate 102 (.map (some (W.heap.size + 1))) (.int .i64 3) (.func (.func f3) #[] #[])).run Try.prog ((W.alloc O).alloc (.map #[⟨.int .i64 0, .func (.func f0) #[] #[], 0⟩, ⟨.int .i64 1, .func (.func f1) #[] #[], 1⟩, ⟨.int .i64 2, .func (.func f2) #[] #[], 2⟩] 3)) = .ok () ((W.alloc O).alloc (.map #[⟨.int .i64 0, .func (.func f0) #[] #[], 0⟩, ⟨.int .i64 1, .func (.func f1) #[] #[], 1⟩, ⟨.int .i64 2, .func (.func f2) #[] #[], 2⟩, ⟨.int .i64 3, .func (.func f3) #[] #[], 3⟩] 4)) := gm_ins W O #[⟨.int .i64 0, .func (.func f0) #[] #[], 0⟩, ⟨.int .i64 1, .func (.func f1) #[] #[], 1⟩, ⟨.int .i64 2, .func (.func f2) #[] #[], 2⟩] 3 3 f3 rfl
theorem gm_ins4 (W : World) (O : Obj) (f0 f1 f2 f3 f4 : Nat) : (Instr.mapUpdate 102 (.map (some (W.heap.size + 1))) (.int .i64 4) (.func (.func f4) #[] #[])).run Try.prog ((W.alloc O).alloc (.map #[⟨.int .i64 0, .func (.func f0) #[] #[], 0⟩, ⟨.int .i64 1, .func (.func f1) #[] #[], 1⟩, ⟨.int .i64 2, .func (.func f2) #[] #[], 2⟩, ⟨.int .i64 3, .func (.func f3) #[] #[], 3⟩] 4)) = .ok () ((W.alloc O).alloc (.map #[⟨.int .i64 0, .func (.func f0) #[] #[], 0⟩, ⟨.int .i64 1, .func (.func f1) #[] #[], 1⟩, ⟨.int .i64 2, .func (.func f2) #[] #[], 2⟩, ⟨.int .i64 3, .func (.func f3) #[] #[], 3⟩, ⟨.int .i64 4, .func (.func f4) #[] #[], 4⟩] 5)) := gm_ins W O #[⟨.int .i64 0, .func (.func f0) #[] #[], 0⟩, ⟨.int .i64 1, .func (.func f1) #[] #[], 1⟩, ⟨.int .i64 2, .func (.func f2) #[] #[], 2⟩, ⟨.int .i64 3, .func (.func f3) #[] #[], 3⟩] 4 4 f4 rfl
theorem gm_look (k : Int) (i f : Nat) (h : Instr.findNow (.int .i64) (.int .i64 k) gm.toList 0 = some (some (i, .func (.func f) #[] #[]))) (W : World) (O : Obj) :
    (Instr.lookup 102 (.map (some (W.heap.size + 1))) (.int .i64 k) false).run Try.prog ((W.alloc O).alloc (.map gm 5)) = .ok (.func (.func f) #[] #[]) ((W.alloc O).alloc (.map gm 5)) :=
  run_look_int Try.uFmap Try.uInt _ _ _ _ (by rw [← szal W O]; exact heap_alloc_new (W.alloc O) _) k i _ h
theorem gm_no (k : Int) (h : k < 0 ∨ 4 < k) (W : World) (O : Obj) :
    (Instr.lookup 102 (.map (some (W.heap.size + 1))) (.int .i64 k) false).run Try.prog ((W.alloc O).alloc (.map gm 5)) = .ok .nilFunc ((W.alloc O).alloc (.map gm 5)) :=
  run_look_none Try.uFmap Try.uInt _ _ _ _ (by rw [← szal W O]; exact heap_alloc_new (W.alloc O) _) k _ (fun w => by kernel_rfl) (by
    have h0 : (k == 0) = false := by simp; omega
    have h1 : (k == 1) = false := by simp; omega
    have h2 : (k == 2) = false := by simp; omega
    have h3 : (k == 3) = false := by simp; omega
    have h4 : (k == 4) = false := by simp; omega
    simp [Instr.findNow, Instr.sameNow, h0, h1, h2, h3, h4])

theorem fneq (f : Nat) (w : World) : (binOp .neq 100 (.func (.func f) #[] #[]) .nilFunc).run Try.prog w = .ok (.bool true) w := by kernel_rfl
theorem fneq0 (w : World) : (binOp .neq 100 .nilFunc .nilFunc).run Try.prog w = .ok (.bool false) w := by kernel_rfl

set_option maxRecDepth 100000 in
theorem good0 (vn : Int) (vf : Nat) (vs : ByteArray) (w : World) : Pure Try.prog 70 #[.agg #[.int .i64 0, .int .i64 vn, .float .f64 vf, .string vs]] w (.bool (bareB ⟨0, vn, vf, vs⟩ false false false)) := by
  have hmm := @run_makeMap Try.prog; have i0 := gm_ins0; have i1 := gm_ins1; have i2 := gm_ins2; have i3 := gm_ins3; have i4 := gm_ins4
  have hl := gm_look 0 0 _ rfl
  have hne := fneq
  go_enter Try.func70, Try.ntmps70
  go_wp2_with fail
  refine (null_any ⟨0, vn, vf, vs⟩ _).mono ?_
  rintro e w1 ⟨rfl, hb⟩
  go_wp2
  go_ret
  exact ⟨rfl, by (repeat (first | assumption | exact Below.refl _ _ | refine bl_drewN ?_ _ | refine bl_drew ?_ | refine bl_alloc ?_ _ | refine bl_step ?_ (by assumption)))⟩

set_option maxRecDepth 100000 in
theorem good1 (vn : Int) (vf : Nat) (vs : ByteArray) (w : World) : Pure Try.prog 70 #[.agg #[.int .i64 1, .int .i64 vn, .float .f64 vf, .string vs]] w (.bool (bareB ⟨1, vn, vf, vs⟩ true false false && (vn == 0 || vn == 1))) := by
  have hmm := @run_makeMap Try.prog; have i0 := gm_ins0; have i1 := gm_ins1; have i2 := gm_ins2; have i3 := gm_ins3; have i4 := gm_ins4
  have hl := gm_look 1 1 _ rfl
  have hne := fneq
  go_enter Try.func70, Try.ntmps70
  go_wp2_with fail
  refine (own_bool_any ⟨1, vn, vf, vs⟩ _).mono ?_
  rintro e w1 ⟨rfl, hb⟩
  go_wp2
  go_ret
  exact ⟨rfl, by (repeat (first | assumption | exact Below.refl _ _ | refine bl_drewN ?_ _ | refine bl_drew ?_ | refine bl_alloc ?_ _ | refine bl_step ?_ (by assumption)))⟩

set_option maxRecDepth 100000 in
theorem good2 (vn : Int) (vf : Nat) (vs : ByteArray) (w : World) : Pure Try.prog 70 #[.agg #[.int .i64 2, .int .i64 vn, .float .f64 vf, .string vs]] w (.bool (bareB ⟨2, vn, vf, vs⟩ true false false)) := by
  have hmm := @run_makeMap Try.prog; have i0 := gm_ins0; have i1 := gm_ins1; have i2 := gm_ins2; have i3 := gm_ins3; have i4 := gm_ins4
  have hl := gm_look 2 2 _ rfl
  have hne := fneq
  go_enter Try.func70, Try.ntmps70
  go_wp2_with fail
  refine (int_any ⟨2, vn, vf, vs⟩ _).mono ?_
  rintro e w1 ⟨rfl, hb⟩
  go_wp2
  go_ret
  exact ⟨rfl, by (repeat (first | assumption | exact Below.refl _ _ | refine bl_drewN ?_ _ | refine bl_drew ?_ | refine bl_alloc ?_ _ | refine bl_step ?_ (by assumption)))⟩

set_option maxRecDepth 100000 in
theorem good3 (vn : Int) (vf : Nat) (vs : ByteArray) (w : World) : Pure Try.prog 70 #[.agg #[.int .i64 3, .int .i64 vn, .float .f64 vf, .string vs]] w (.bool (bareB ⟨3, vn, vf, vs⟩ false true false && isF vf)) := by
  have hmm := @run_makeMap Try.prog; have i0 := gm_ins0; have i1 := gm_ins1; have i2 := gm_ins2; have i3 := gm_ins3; have i4 := gm_ins4
  have hl := gm_look 3 3 _ rfl
  have hne := fneq
  go_enter Try.func70, Try.ntmps70
  go_wp2_with fail
  refine (own_float_any ⟨3, vn, vf, vs⟩ _).mono ?_
  rintro e w1 ⟨rfl, hb⟩
  go_wp2
  go_ret
  exact ⟨rfl, by (repeat (first | assumption | exact Below.refl _ _ | refine bl_drewN ?_ _ | refine bl_drew ?_ | refine bl_alloc ?_ _ | refine bl_step ?_ (by assumption)))⟩

set_option maxRecDepth 100000 in
theorem good4 (vn : Int) (vf : Nat) (vs : ByteArray) (w : World) : Pure Try.prog 70 #[.agg #[.int .i64 4, .int .i64 vn, .float .f64 vf, .string vs]] w (.bool (bareB ⟨4, vn, vf, vs⟩ false false true && decide ((vs.size : Int) ≤ 256))) := by
  have hmm := @run_makeMap Try.prog; have i0 := gm_ins0; have i1 := gm_ins1; have i2 := gm_ins2; have i3 := gm_ins3; have i4 := gm_ins4
  have hl := gm_look 4 4 _ rfl
  have hne := fneq
  go_enter Try.func70, Try.ntmps70
  go_wp2_with fail
  refine (own_text_any ⟨4, vn, vf, vs⟩ _).mono ?_
  rintro e w1 ⟨rfl, hb⟩
  go_wp2
  go_ret
  exact ⟨rfl, by (repeat (first | assumption | exact Below.refl _ _ | refine bl_drewN ?_ _ | refine bl_drew ?_ | refine bl_alloc ?_ _ | refine bl_step ?_ (by assumption)))⟩

set_option maxRecDepth 100000 in
theorem good_no (vk vn : Int) (vf : Nat) (vs : ByteArray) (w : World) (h : vk < 0 ∨ 4 < vk) : Pure Try.prog 70 #[.agg #[.int .i64 vk, .int .i64 vn, .float .f64 vf, .string vs]] w (.bool false) := by
  have hmm := @run_makeMap Try.prog; have i0 := gm_ins0; have i1 := gm_ins1; have i2 := gm_ins2; have i3 := gm_ins3; have i4 := gm_ins4
  have hl := gm_no vk h
  have hne := fneq0
  clear h
  go_enter Try.func70, Try.ntmps70
  go_wp2
  go_ret
  exact ⟨rfl, by (repeat (first | assumption | exact Below.refl _ _ | refine bl_drewN ?_ _ | refine bl_drew ?_ | refine bl_alloc ?_ _ | refine bl_step ?_ (by assumption)))⟩

/-- Is a value good? -/
def goodV (v : Vl) : Bool :=
  if v.k = 0 then bareB v false false false else if v.k = 1 then bareB v true false false && (v.n == 0 || v.n == 1) else if v.k = 2 then bareB v true false false
  else if v.k = 3 then bareB v false true false && isF v.f else if v.k = 4 then bareB v false false true && decide ((v.s.size : Int) ≤ 256) else false

theorem kinds5 (k : Int) : k = 0 ∨ k = 1 ∨ k = 2 ∨ k = 3 ∨ k = 4 ∨ (k < 0 ∨ 4 < k) := by omega
theorem good_any (v : Vl) (w : World) : Pure Try.prog 70 #[v.agg] w (.bool (goodV v)) := by
  obtain ⟨vk, vn, vf, vs⟩ := v
  rcases kinds5 vk with rfl | rfl | rfl | rfl | rfl | h
  · exact good0 vn vf vs w
  · exact good1 vn vf vs w
  · exact good2 vn vf vs w
  · exact good3 vn vf vs w
  · exact good4 vn vf vs w
  · have e : goodV ⟨vk, vn, vf, vs⟩ = false := by
      unfold goodV; dsimp only
      rw [if_neg (by omega), if_neg (by omega), if_neg (by omega), if_neg (by omega), if_neg (by omega)]
    rw [e]
    exact good_no vk vn vf vs w h
end Go.Proofs.Ytbmaeaknlpgdmaa
namespace Go.Proofs.Ytbmaeaknlpgdmaa
open Go.RowKit
set_option maxRecDepth 100000 in
theorem plain_any (f : Nat) (w : World) : Calls Try.prog 80 #[.float .f64 f] w fun e w' => e = .returned (.bool ((f : Int) == 0)) ∧ w = w' := by
  have hfb := Try.float64bits
  go_enter Try.func80, Try.ntmps80
  go_wp2
  go_ret
  exact ⟨rfl, rfl⟩

theorem rgood_no (vk vn : Int) (vf : Nat) (vs : ByteArray) (w : World) (h : vk < 0 ∨ 4 < vk) : Pure Try.prog 41 #[.agg #[.int .i64 vk, .int .i64 vn, .float .f64 vf, .string vs]] w (.bool false) := by
  have h0 : (vk == 0) = false := by simp; omega
  have h1 : (vk == 1) = false := by simp; omega
  have h2 : (vk == 2) = false := by simp; omega
  have h3 : (vk == 3) = false := by simp; omega
  have h4 : (vk == 4) = false := by simp; omega
  clear h
  go_enter Try.func41, Try.ntmps41
  go_wp2
  go_ret
  exact ⟨rfl, by (repeat (first | assumption | exact Below.refl _ _ | refine bl_drewN ?_ _ | refine bl_drew ?_ | refine bl_alloc ?_ _ | refine bl_step ?_ (by assumption)))⟩

set_option maxRecDepth 100000 in
set_option maxHeartbeats 1000000 in
theorem rgood0 (vn : Int) (vf : Nat) (vs : ByteArray) (w : World) : Pure Try.prog 41 #[.agg #[.int .i64 0, .int .i64 vn, .float .f64 vf, .string vs]] w (.bool (goodV ⟨0, vn, vf, vs⟩)) := by
  go_enter Try.func41, Try.ntmps41
  go_wp2_with (first | (go_at_call 80; refine (plain_any _ _).mono ?_; rintro e w' ⟨rfl, rfl⟩) | (go_at_call 81; refine (ris_any _ _).mono ?_; rintro e w' ⟨rfl, rfl⟩))
  all_goals
    go_ret
    refine ⟨?_, by (repeat (first | assumption | exact Below.refl _ _ | refine bl_drewN ?_ _ | refine bl_drew ?_ | refine bl_alloc ?_ _ | refine bl_step ?_ (by assumption)))⟩
    show Ending.returned (.bool _) = _
    simp_all [goodV, bareB]

set_option maxRecDepth 100000 in
set_option maxHeartbeats 1000000 in
theorem rgood1 (vn : Int) (vf : Nat) (vs : ByteArray) (w : World) : Pure Try.prog 41 #[.agg #[.int .i64 1, .int .i64 vn, .float .f64 vf, .string vs]] w (.bool (goodV ⟨1, vn, vf, vs⟩)) := by
  go_enter Try.func41, Try.ntmps41
  go_wp2_with (first | (go_at_call 80; refine (plain_any _ _).mono ?_; rintro e w' ⟨rfl, rfl⟩) | (go_at_call 81; refine (ris_any _ _).mono ?_; rintro e w' ⟨rfl, rfl⟩))
  all_goals
    go_ret
    refine ⟨?_, by (repeat (first | assumption | exact Below.refl _ _ | refine bl_drewN ?_ _ | refine bl_drew ?_ | refine bl_alloc ?_ _ | refine bl_step ?_ (by assumption)))⟩
    show Ending.returned (.bool _) = _
    simp_all [goodV, bareB]

set_option maxRecDepth 100000 in
set_option maxHeartbeats 1000000 in
theorem rgood2 (vn : Int) (vf : Nat) (vs : ByteArray) (w : World) : Pure Try.prog 41 #[.agg #[.int .i64 2, .int .i64 vn, .float .f64 vf, .string vs]] w (.bool (goodV ⟨2, vn, vf, vs⟩)) := by
  go_enter Try.func41, Try.ntmps41
  go_wp2_with (first | (go_at_call 80; refine (plain_any _ _).mono ?_; rintro e w' ⟨rfl, rfl⟩) | (go_at_call 81; refine (ris_any _ _).mono ?_; rintro e w' ⟨rfl, rfl⟩))
  all_goals
    go_ret
    refine ⟨?_, by (repeat (first | assumption | exact Below.refl _ _ | refine bl_drewN ?_ _ | refine bl_drew ?_ | refine bl_alloc ?_ _ | refine bl_step ?_ (by assumption)))⟩
    show Ending.returned (.bool _) = _
    simp_all [goodV, bareB]

set_option maxRecDepth 100000 in
set_option maxHeartbeats 1000000 in
theorem rgood3 (vn : Int) (vf : Nat) (vs : ByteArray) (w : World) : Pure Try.prog 41 #[.agg #[.int .i64 3, .int .i64 vn, .float .f64 vf, .string vs]] w (.bool (goodV ⟨3, vn, vf, vs⟩)) := by
  go_enter Try.func41, Try.ntmps41
  go_wp2_with (first | (go_at_call 80; refine (plain_any _ _).mono ?_; rintro e w' ⟨rfl, rfl⟩) | (go_at_call 81; refine (ris_any _ _).mono ?_; rintro e w' ⟨rfl, rfl⟩))
  all_goals
    go_ret
    refine ⟨?_, by (repeat (first | assumption | exact Below.refl _ _ | refine bl_drewN ?_ _ | refine bl_drew ?_ | refine bl_alloc ?_ _ | refine bl_step ?_ (by assumption)))⟩
    show Ending.returned (.bool _) = _
    simp_all [goodV, bareB]

set_option maxRecDepth 100000 in
set_option maxHeartbeats 1000000 in
theorem rgood4 (vn : Int) (vf : Nat) (vs : ByteArray) (w : World) : Pure Try.prog 41 #[.agg #[.int .i64 4, .int .i64 vn, .float .f64 vf, .string vs]] w (.bool (goodV ⟨4, vn, vf, vs⟩)) := by
  go_enter Try.func41, Try.ntmps41
  go_wp2_with (first | (go_at_call 80; refine (plain_any _ _).mono ?_; rintro e w' ⟨rfl, rfl⟩) | (go_at_call 81; refine (ris_any _ _).mono ?_; rintro e w' ⟨rfl, rfl⟩))
  all_goals
    go_ret
    refine ⟨?_, by (repeat (first | assumption | exact Below.refl _ _ | refine bl_drewN ?_ _ | refine bl_drew ?_ | refine bl_alloc ?_ _ | refine bl_step ?_ (by assumption)))⟩
    show Ending.returned (.bool _) = _
    simp_all [goodV, bareB]

theorem rgood_any (v : Vl) (w : World) : Pure Try.prog 41 #[v.agg] w (.bool (goodV v)) := by
  obtain ⟨vk, vn, vf, vs⟩ := v
  rcases kinds5 vk with rfl | rfl | rfl | rfl | rfl | h
  · exact rgood0 vn vf vs w
  · exact rgood1 vn vf vs w
  · exact rgood2 vn vf vs w
  · exact rgood3 vn vf vs w
  · exact rgood4 vn vf vs w
  · have e : goodV ⟨vk, vn, vf, vs⟩ = false := by
      unfold goodV; dsimp only
      rw [if_neg (by omega), if_neg (by omega), if_neg (by omega), if_neg (by omega), if_neg (by omega)]
    rw [e]
    exact rgood_no vk vn vf vs w h
end Go.Proofs.Ytbmaeaknlpgdmaa
namespace Go.Proofs.Ytbmaeaknlpgdmaa
open Go.RowKit
def numTo (s : ByteArray) : Nat → Nat
  | 0 => 0
  | k + 1 => (numTo s k * 256 + byteAt s k) % 18446744073709551616
def numB (s : ByteArray) : Nat := numTo s s.size
theorem numTo_lt (s : ByteArray) (k : Nat) : numTo s k < 18446744073709551616 := by
  cases k with
  | zero => unfold numTo; omega
  | succ k => unfold numTo; omega

theorem u64w (n : Int) : IntKind.u64.wrap n = n % 18446744073709551616 := IntKind.wrap_u64 n
theorem numTo_or {s : ByteArray} {k : Nat} {c : Int} (hk : k < s.size) (hc : ((numTo s k : Nat) : Int) = c) : bits .or .u64 (IntKind.u64.wrap (c * 256)) (IntKind.u64.wrap ((s[k].toNat : Nat) : Int)) = ((numTo s (k + 1) : Nat) : Int) := by
  have hb := byteAt_lt s k
  have hn := numTo_lt s k
  rw [byteAt_ hk] at hb
  have e1 : IntKind.u64.wrap (c * 256) = ((numTo s k * 256 % 18446744073709551616 : Nat) : Int) := by rw [u64w, ← hc]; omega
  have e2 : IntKind.u64.wrap ((s[k].toNat : Nat) : Int) = ((s[k].toNat : Nat) : Int) := by rw [u64w]; omega
  rw [e1, e2, u64_or_nat _ _ (by omega) (by omega)]
  have e3 : numTo s (k + 1) = numTo s k * 256 % 18446744073709551616 + s[k].toNat := by
    show (numTo s k * 256 + byteAt s k) % 18446744073709551616 = _
    rw [byteAt_ hk]; omega
  rw [e3, nat_join 8 _ _ (by omega) (by omega)]
theorem numTo_add {s : ByteArray} {k : Nat} {c : Int} (hk : k < s.size) (hc : ((numTo s k : Nat) : Int) = c) : IntKind.u64.wrap (IntKind.u64.wrap (c * 256) + IntKind.u64.wrap ((s[k].toNat : Nat) : Int)) = ((numTo s (k + 1) : Nat) : Int) := by
  rw [u64w, u64w, u64w, ← hc]
  show _ = (((numTo s k * 256 + byteAt s k) % 18446744073709551616 : Nat) : Int)
  rw [byteAt_ hk]; omega

set_option maxRecDepth 100000 in
set_option maxHeartbeats 1000000 in
theorem number_any (s : ByteArray) (w : World) (hs : s.size ≤ 9223372036854775807) : Calls Try.prog 108 #[.string s] w fun e w' => e = .returned (.int .u64 (numB s)) ∧ w = w' := by
  go_enter Try.func108, Try.ntmps108
  go_wp2
  go_loop [3, 7] (fun u i => ∃ k : Nat, k ≤ s.size ∧ i = .int .i64 k ∧ u = .int .u64 (numTo s k)) (fun _ i => s.size - (intOf i).toNat)
  case atStart => exact ⟨0, Nat.zero_le _, rfl, rfl⟩
  case round =>
    obtain ⟨k, hk, rfl, rfl⟩ := hrel
    obtain ⟨c, hc⟩ : ∃ c, ((numTo s k : Nat) : Int) = c := ⟨_, rfl⟩
    rw [hc]
    have HC := Lib.hid hc
    clear hc
    by_cases hlt : k < s.size
    · go_wp2
      go_round
      case rel => exact ⟨k + 1, by omega, by go_num, by rw [numTo_or hlt HC.out]⟩
      case measure => simp [intOf]; omega
    · obtain rfl : k = s.size := by omega
      go_wp2
      go_ret
      exact ⟨ret_int HC.out.symm, rfl⟩
set_option maxRecDepth 100000 in
theorem rnumber_any (s : ByteArray) (w : World) (hs : s.size ≤ 9223372036854775807) : Calls Try.prog 98 #[.string s] w fun e w' => e = .returned (.int .u64 (numB s)) ∧ w = w' := by
  go_enter Try.func98, Try.ntmps98
  go_wp2
  go_loop [3, 4] (fun u i => ∃ k : Nat, k ≤ s.size ∧ i = .int .i64 k ∧ u = .int .u64 (numTo s k)) (fun _ i => s.size - (intOf i).toNat)
  case atStart => exact ⟨0, Nat.zero_le _, rfl, rfl⟩
  case round =>
    obtain ⟨k, hk, rfl, rfl⟩ := hrel
    obtain ⟨c, hc⟩ : ∃ c, ((numTo s k : Nat) : Int) = c := ⟨_, rfl⟩
    rw [hc]
    have HC := Lib.hid hc
    clear hc
    by_cases hlt : k < s.size
    · go_wp2
      go_round
      case rel => exact ⟨k + 1, by omega, by go_num, by rw [numTo_add hlt HC.out]⟩
      case measure => simp [intOf]; omega
    · obtain rfl : k = s.size := by omega
      go_wp2
      go_ret
      exact ⟨ret_int HC.out.symm, rfl⟩
end Go.Proofs.Ytbmaeaknlpgdmaa
