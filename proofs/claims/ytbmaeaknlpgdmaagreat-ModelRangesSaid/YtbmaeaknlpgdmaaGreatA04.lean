/- Lemmas on what the functions under this seat compute. -/
import Derived.Test.YtbmaeaknlpgdmaaGreatA01
namespace Go.Proofs.YtbmaeaknlpgdmaaGreat
open Go.RowKit
def chOK (i c : Nat) : Bool := decide (97 ≤ c ∧ c ≤ 122) || (decide (0 < i) && decide ((48 ≤ c ∧ c ≤ 57) ∨ c = 95))
def byteAt (s : ByteArray) (i : Nat) : Nat := if h : i < s.size then s[i].toNat else 0
theorem byteAt_ {s : ByteArray} {i : Nat} (h : i < s.size) : byteAt s i = s[i].toNat := by unfold byteAt; rw [dif_pos h]
theorem byteAt_lt (s : ByteArray) (i : Nat) : byteAt s i < 256 := by
  unfold byteAt; split
  · exact UInt8.toNat_lt _
  · omega
def nameB (s : ByteArray) : Bool := decide (1 ≤ s.size ∧ s.size ≤ 8 ∧ ∀ i, i < s.size → chOK i (byteAt s i) = true)
theorem nameB_size {s : ByteArray} (h : nameB s = true) : 1 ≤ s.size ∧ s.size ≤ 8 := by
  unfold nameB at h; simp at h; omega

theorem all_succ {s : ByteArray} {k : Nat} (h : ∀ j, j < k → chOK j (byteAt s j) = true) (hk : chOK k (byteAt s k) = true) : ∀ j, j < k + 1 → chOK j (byteAt s j) = true := by
  intro j hj
  rcases Nat.lt_succ_iff_lt_or_eq.1 hj with h1 | h1
  · exact h j h1
  · rw [h1]; exact hk
theorem nameB_no {s : ByteArray} {k : Nat} (hk : k < s.size) (h : chOK k (byteAt s k) = false) : nameB s = false := by
  unfold nameB; simp only [decide_eq_false_iff_not]; rintro ⟨_, _, h3⟩; rw [h3 k hk] at h; cases h
theorem nameB_yes {s : ByteArray} (h0 : ¬ s.size < 1) (h8 : ¬ 8 < s.size) (h : ∀ j, j < s.size → chOK j (byteAt s j) = true) : nameB s = true := by
  unfold nameB; simp only [decide_eq_true_eq]; exact ⟨by omega, by omega, h⟩

set_option maxRecDepth 100000 in
set_option maxHeartbeats 4000000 in
theorem name_any (s : ByteArray) (w : World) : Calls Tryz.prog 141 #[.string s] w fun e w' => e = .returned (.bool (nameB s)) ∧ w = w' := by
  by_cases h0 : s.size < 1
  · have E := Lib.hid (show nameB s = false by unfold nameB; simp; omega)
    go_enter Tryz.func141, Tryz.ntmps141
    go_wp2
    go_ret
    exact ⟨by rw [E.out]; rfl, rfl⟩
  by_cases h8 : 8 < s.size
  · have E := Lib.hid (show nameB s = false by unfold nameB; simp; omega)
    go_enter Tryz.func141, Tryz.ntmps141
    go_wp2
    go_ret
    exact ⟨by rw [E.out]; rfl, rfl⟩
  go_enter Tryz.func141, Tryz.ntmps141
  go_wp2
  go_loop [16] (fun i => ∃ k : Nat, k ≤ s.size ∧ i = .int .i64 k ∧ ∀ j, j < k → chOK j (byteAt s j) = true) (fun i => s.size - (intOf i).toNat)
  case atStart => exact ⟨0, Nat.zero_le _, rfl, fun j hj => by omega⟩
  case round =>
    obtain ⟨k, hk, rfl, hall⟩ := hrel
    have Hall := Lib.hid hall
    clear hall
    by_cases hlt : k < s.size
    · have hc : byteAt s k = s[k].toNat := byteAt_ hlt
      have hc2 := byteAt_lt s k
      have Hc := Lib.hid hc
      rw [hc] at hc2
      clear hc
      have hcs : (k = 0 ∨ 1 ≤ k) ∧ ((s[k].toNat : Int) ≤ 47 ∨ (48 ≤ (s[k].toNat : Int) ∧ (s[k].toNat : Int) ≤ 57) ∨ (58 ≤ (s[k].toNat : Int) ∧ (s[k].toNat : Int) ≤ 94) ∨ (95 ≤ (s[k].toNat : Int) ∧ (s[k].toNat : Int) ≤ 95) ∨ (96 ≤ (s[k].toNat : Int) ∧ (s[k].toNat : Int) ≤ 96) ∨ (97 ≤ (s[k].toNat : Int) ∧ (s[k].toNat : Int) ≤ 122) ∨ 123 ≤ (s[k].toNat : Int)) := by omega
      obtain ⟨hk0, hcs⟩ := hcs
      rcases hk0 with hk0 | hk0 <;> rcases hcs with hcs | hcs | hcs | hcs | hcs | hcs | hcs
      · skip
        have t0 : decide (48 ≤ (s[k].toNat : Int)) = false := by simp; omega
        have t1 : decide ((s[k].toNat : Int) ≤ 57) = true := by simp; omega
        have t2 : ((s[k].toNat : Int) == 95) = false := by simp; omega
        have t3 : decide ((s[k].toNat : Int) < 97) = true := by simp; omega
        have t4 : decide (122 < (s[k].toNat : Int)) = false := by simp; omega
        have t5 : decide (97 ≤ (s[k].toNat : Int)) = false := by simp; omega
        have t6 : decide ((s[k].toNat : Int) ≤ 122) = true := by simp; omega
        have t7 : ((k : Int) == 0) = true := by simp; omega
        have hok : chOK k (byteAt s k) = false := by unfold chOK; rw [Hc.out]; simp; omega
        have Hok := Lib.hid hok; clear hok hk0 hcs hc2
        go_wp2
        have E := Lib.hid (nameB_no hlt Hok.out)
        go_ret
        exact ⟨by rw [E.out]; rfl, rfl⟩
      · skip
        have t0 : decide (48 ≤ (s[k].toNat : Int)) = true := by simp; omega
        have t1 : decide ((s[k].toNat : Int) ≤ 57) = true := by simp; omega
        have t2 : ((s[k].toNat : Int) == 95) = false := by simp; omega
        have t3 : decide ((s[k].toNat : Int) < 97) = true := by simp; omega
        have t4 : decide (122 < (s[k].toNat : Int)) = false := by simp; omega
        have t5 : decide (97 ≤ (s[k].toNat : Int)) = false := by simp; omega
        have t6 : decide ((s[k].toNat : Int) ≤ 122) = true := by simp; omega
        have t7 : ((k : Int) == 0) = true := by simp; omega
        have hok : chOK k (byteAt s k) = false := by unfold chOK; rw [Hc.out]; simp; omega
        have Hok := Lib.hid hok; clear hok hk0 hcs hc2
        go_wp2
        have E := Lib.hid (nameB_no hlt Hok.out)
        go_ret
        exact ⟨by rw [E.out]; rfl, rfl⟩
      · skip
        have t0 : decide (48 ≤ (s[k].toNat : Int)) = true := by simp; omega
        have t1 : decide ((s[k].toNat : Int) ≤ 57) = false := by simp; omega
        have t2 : ((s[k].toNat : Int) == 95) = false := by simp; omega
        have t3 : decide ((s[k].toNat : Int) < 97) = true := by simp; omega
        have t4 : decide (122 < (s[k].toNat : Int)) = false := by simp; omega
        have t5 : decide (97 ≤ (s[k].toNat : Int)) = false := by simp; omega
        have t6 : decide ((s[k].toNat : Int) ≤ 122) = true := by simp; omega
        have t7 : ((k : Int) == 0) = true := by simp; omega
        have hok : chOK k (byteAt s k) = false := by unfold chOK; rw [Hc.out]; simp; omega
        have Hok := Lib.hid hok; clear hok hk0 hcs hc2
        go_wp2
        have E := Lib.hid (nameB_no hlt Hok.out)
        go_ret
        exact ⟨by rw [E.out]; rfl, rfl⟩
      · skip
        have t0 : decide (48 ≤ (s[k].toNat : Int)) = true := by simp; omega
        have t1 : decide ((s[k].toNat : Int) ≤ 57) = false := by simp; omega
        have t2 : ((s[k].toNat : Int) == 95) = true := by simp; omega
        have t3 : decide ((s[k].toNat : Int) < 97) = true := by simp; omega
        have t4 : decide (122 < (s[k].toNat : Int)) = false := by simp; omega
        have t5 : decide (97 ≤ (s[k].toNat : Int)) = false := by simp; omega
        have t6 : decide ((s[k].toNat : Int) ≤ 122) = true := by simp; omega
        have t7 : ((k : Int) == 0) = true := by simp; omega
        have hok : chOK k (byteAt s k) = false := by unfold chOK; rw [Hc.out]; simp; omega
        have Hok := Lib.hid hok; clear hok hk0 hcs hc2
        go_wp2
        have E := Lib.hid (nameB_no hlt Hok.out)
        go_ret
        exact ⟨by rw [E.out]; rfl, rfl⟩
      · skip
        have t0 : decide (48 ≤ (s[k].toNat : Int)) = true := by simp; omega
        have t1 : decide ((s[k].toNat : Int) ≤ 57) = false := by simp; omega
        have t2 : ((s[k].toNat : Int) == 95) = false := by simp; omega
        have t3 : decide ((s[k].toNat : Int) < 97) = true := by simp; omega
        have t4 : decide (122 < (s[k].toNat : Int)) = false := by simp; omega
        have t5 : decide (97 ≤ (s[k].toNat : Int)) = false := by simp; omega
        have t6 : decide ((s[k].toNat : Int) ≤ 122) = true := by simp; omega
        have t7 : ((k : Int) == 0) = true := by simp; omega
        have hok : chOK k (byteAt s k) = false := by unfold chOK; rw [Hc.out]; simp; omega
        have Hok := Lib.hid hok; clear hok hk0 hcs hc2
        go_wp2
        have E := Lib.hid (nameB_no hlt Hok.out)
        go_ret
        exact ⟨by rw [E.out]; rfl, rfl⟩
      · skip
        have t0 : decide (48 ≤ (s[k].toNat : Int)) = true := by simp; omega
        have t1 : decide ((s[k].toNat : Int) ≤ 57) = false := by simp; omega
        have t2 : ((s[k].toNat : Int) == 95) = false := by simp; omega
        have t3 : decide ((s[k].toNat : Int) < 97) = false := by simp; omega
        have t4 : decide (122 < (s[k].toNat : Int)) = false := by simp; omega
        have t5 : decide (97 ≤ (s[k].toNat : Int)) = true := by simp; omega
        have t6 : decide ((s[k].toNat : Int) ≤ 122) = true := by simp; omega
        have t7 : ((k : Int) == 0) = true := by simp; omega
        have hok : chOK k (byteAt s k) = true := by unfold chOK; rw [Hc.out]; simp; omega
        have Hok := Lib.hid hok; clear hok hk0 hcs hc2
        go_wp2
        go_round
        case rel => exact ⟨k + 1, by omega, by go_num, all_succ Hall.out Hok.out⟩
        case measure => simp [intOf]; omega
      · skip
        have t0 : decide (48 ≤ (s[k].toNat : Int)) = true := by simp; omega
        have t1 : decide ((s[k].toNat : Int) ≤ 57) = false := by simp; omega
        have t2 : ((s[k].toNat : Int) == 95) = false := by simp; omega
        have t3 : decide ((s[k].toNat : Int) < 97) = false := by simp; omega
        have t4 : decide (122 < (s[k].toNat : Int)) = true := by simp; omega
        have t5 : decide (97 ≤ (s[k].toNat : Int)) = true := by simp; omega
        have t6 : decide ((s[k].toNat : Int) ≤ 122) = false := by simp; omega
        have t7 : ((k : Int) == 0) = true := by simp; omega
        have hok : chOK k (byteAt s k) = false := by unfold chOK; rw [Hc.out]; simp; omega
        have Hok := Lib.hid hok; clear hok hk0 hcs hc2
        go_wp2
        have E := Lib.hid (nameB_no hlt Hok.out)
        go_ret
        exact ⟨by rw [E.out]; rfl, rfl⟩
      · skip
        have t0 : decide (48 ≤ (s[k].toNat : Int)) = false := by simp; omega
        have t1 : decide ((s[k].toNat : Int) ≤ 57) = true := by simp; omega
        have t2 : ((s[k].toNat : Int) == 95) = false := by simp; omega
        have t3 : decide ((s[k].toNat : Int) < 97) = true := by simp; omega
        have t4 : decide (122 < (s[k].toNat : Int)) = false := by simp; omega
        have t5 : decide (97 ≤ (s[k].toNat : Int)) = false := by simp; omega
        have t6 : decide ((s[k].toNat : Int) ≤ 122) = true := by simp; omega
        have t7 : ((k : Int) == 0) = false := by simp; omega
        have hok : chOK k (byteAt s k) = false := by unfold chOK; rw [Hc.out]; simp; omega
        have Hok := Lib.hid hok; clear hok hk0 hcs hc2
        go_wp2
        have E := Lib.hid (nameB_no hlt Hok.out)
        go_ret
        exact ⟨by rw [E.out]; rfl, rfl⟩
      · skip
        have t0 : decide (48 ≤ (s[k].toNat : Int)) = true := by simp; omega
        have t1 : decide ((s[k].toNat : Int) ≤ 57) = true := by simp; omega
        have t2 : ((s[k].toNat : Int) == 95) = false := by simp; omega
        have t3 : decide ((s[k].toNat : Int) < 97) = true := by simp; omega
        have t4 : decide (122 < (s[k].toNat : Int)) = false := by simp; omega
        have t5 : decide (97 ≤ (s[k].toNat : Int)) = false := by simp; omega
        have t6 : decide ((s[k].toNat : Int) ≤ 122) = true := by simp; omega
        have t7 : ((k : Int) == 0) = false := by simp; omega
        have hok : chOK k (byteAt s k) = true := by unfold chOK; rw [Hc.out]; simp; omega
        have Hok := Lib.hid hok; clear hok hk0 hcs hc2
        go_wp2
        go_round
        case rel => exact ⟨k + 1, by omega, by go_num, all_succ Hall.out Hok.out⟩
        case measure => simp [intOf]; omega
      · skip
        have t0 : decide (48 ≤ (s[k].toNat : Int)) = true := by simp; omega
        have t1 : decide ((s[k].toNat : Int) ≤ 57) = false := by simp; omega
        have t2 : ((s[k].toNat : Int) == 95) = false := by simp; omega
        have t3 : decide ((s[k].toNat : Int) < 97) = true := by simp; omega
        have t4 : decide (122 < (s[k].toNat : Int)) = false := by simp; omega
        have t5 : decide (97 ≤ (s[k].toNat : Int)) = false := by simp; omega
        have t6 : decide ((s[k].toNat : Int) ≤ 122) = true := by simp; omega
        have t7 : ((k : Int) == 0) = false := by simp; omega
        have hok : chOK k (byteAt s k) = false := by unfold chOK; rw [Hc.out]; simp; omega
        have Hok := Lib.hid hok; clear hok hk0 hcs hc2
        go_wp2
        have E := Lib.hid (nameB_no hlt Hok.out)
        go_ret
        exact ⟨by rw [E.out]; rfl, rfl⟩
      · skip
        have t0 : decide (48 ≤ (s[k].toNat : Int)) = true := by simp; omega
        have t1 : decide ((s[k].toNat : Int) ≤ 57) = false := by simp; omega
        have t2 : ((s[k].toNat : Int) == 95) = true := by simp; omega
        have t3 : decide ((s[k].toNat : Int) < 97) = true := by simp; omega
        have t4 : decide (122 < (s[k].toNat : Int)) = false := by simp; omega
        have t5 : decide (97 ≤ (s[k].toNat : Int)) = false := by simp; omega
        have t6 : decide ((s[k].toNat : Int) ≤ 122) = true := by simp; omega
        have t7 : ((k : Int) == 0) = false := by simp; omega
        have hok : chOK k (byteAt s k) = true := by unfold chOK; rw [Hc.out]; simp; omega
        have Hok := Lib.hid hok; clear hok hk0 hcs hc2
        go_wp2
        go_round
        case rel => exact ⟨k + 1, by omega, by go_num, all_succ Hall.out Hok.out⟩
        case measure => simp [intOf]; omega
      · skip
        have t0 : decide (48 ≤ (s[k].toNat : Int)) = true := by simp; omega
        have t1 : decide ((s[k].toNat : Int) ≤ 57) = false := by simp; omega
        have t2 : ((s[k].toNat : Int) == 95) = false := by simp; omega
        have t3 : decide ((s[k].toNat : Int) < 97) = true := by simp; omega
        have t4 : decide (122 < (s[k].toNat : Int)) = false := by simp; omega
        have t5 : decide (97 ≤ (s[k].toNat : Int)) = false := by simp; omega
        have t6 : decide ((s[k].toNat : Int) ≤ 122) = true := by simp; omega
        have t7 : ((k : Int) == 0) = false := by simp; omega
        have hok : chOK k (byteAt s k) = false := by unfold chOK; rw [Hc.out]; simp; omega
        have Hok := Lib.hid hok; clear hok hk0 hcs hc2
        go_wp2
        have E := Lib.hid (nameB_no hlt Hok.out)
        go_ret
        exact ⟨by rw [E.out]; rfl, rfl⟩
      · skip
        have t0 : decide (48 ≤ (s[k].toNat : Int)) = true := by simp; omega
        have t1 : decide ((s[k].toNat : Int) ≤ 57) = false := by simp; omega
        have t2 : ((s[k].toNat : Int) == 95) = false := by simp; omega
        have t3 : decide ((s[k].toNat : Int) < 97) = false := by simp; omega
        have t4 : decide (122 < (s[k].toNat : Int)) = false := by simp; omega
        have t5 : decide (97 ≤ (s[k].toNat : Int)) = true := by simp; omega
        have t6 : decide ((s[k].toNat : Int) ≤ 122) = true := by simp; omega
        have t7 : ((k : Int) == 0) = false := by simp; omega
        have hok : chOK k (byteAt s k) = true := by unfold chOK; rw [Hc.out]; simp; omega
        have Hok := Lib.hid hok; clear hok hk0 hcs hc2
        go_wp2
        go_round
        case rel => exact ⟨k + 1, by omega, by go_num, all_succ Hall.out Hok.out⟩
        case measure => simp [intOf]; omega
      · skip
        have t0 : decide (48 ≤ (s[k].toNat : Int)) = true := by simp; omega
        have t1 : decide ((s[k].toNat : Int) ≤ 57) = false := by simp; omega
        have t2 : ((s[k].toNat : Int) == 95) = false := by simp; omega
        have t3 : decide ((s[k].toNat : Int) < 97) = false := by simp; omega
        have t4 : decide (122 < (s[k].toNat : Int)) = true := by simp; omega
        have t5 : decide (97 ≤ (s[k].toNat : Int)) = true := by simp; omega
        have t6 : decide ((s[k].toNat : Int) ≤ 122) = false := by simp; omega
        have t7 : ((k : Int) == 0) = false := by simp; omega
        have hok : chOK k (byteAt s k) = false := by unfold chOK; rw [Hc.out]; simp; omega
        have Hok := Lib.hid hok; clear hok hk0 hcs hc2
        go_wp2
        have E := Lib.hid (nameB_no hlt Hok.out)
        go_ret
        exact ⟨by rw [E.out]; rfl, rfl⟩
    · obtain rfl : k = s.size := by omega
      have E := Lib.hid (nameB_yes h0 h8 Hall.out)
      go_wp2
      go_ret
      exact ⟨by rw [E.out]; rfl, rfl⟩

set_option maxRecDepth 100000 in
set_option maxHeartbeats 4000000 in
theorem rname_any (s : ByteArray) (w : World) : Calls Tryz.prog 107 #[.string s] w fun e w' => e = .returned (.bool (nameB s)) ∧ w = w' := by
  by_cases h0 : s.size < 1
  · have E := Lib.hid (show nameB s = false by unfold nameB; simp; omega)
    go_enter Tryz.func107, Tryz.ntmps107
    go_wp2
    go_ret
    exact ⟨by rw [E.out]; rfl, rfl⟩
  by_cases h8 : 8 < s.size
  · have E := Lib.hid (show nameB s = false by unfold nameB; simp; omega)
    go_enter Tryz.func107, Tryz.ntmps107
    go_wp2
    go_ret
    exact ⟨by rw [E.out]; rfl, rfl⟩
  go_enter Tryz.func107, Tryz.ntmps107
  go_wp2
  go_loop [3] (fun i => ∃ k : Nat, k ≤ s.size ∧ i = .int .i64 k ∧ ∀ j, j < k → chOK j (byteAt s j) = true) (fun i => s.size - (intOf i).toNat)
  case atStart => exact ⟨0, Nat.zero_le _, rfl, fun j hj => by omega⟩
  case round =>
    obtain ⟨k, hk, rfl, hall⟩ := hrel
    have Hall := Lib.hid hall
    clear hall
    by_cases hlt : k < s.size
    · have hc : byteAt s k = s[k].toNat := byteAt_ hlt
      have hc2 := byteAt_lt s k
      have Hc := Lib.hid hc
      rw [hc] at hc2
      clear hc
      have hcs : (k = 0 ∨ 1 ≤ k) ∧ ((s[k].toNat : Int) ≤ 47 ∨ (48 ≤ (s[k].toNat : Int) ∧ (s[k].toNat : Int) ≤ 57) ∨ (58 ≤ (s[k].toNat : Int) ∧ (s[k].toNat : Int) ≤ 94) ∨ (95 ≤ (s[k].toNat : Int) ∧ (s[k].toNat : Int) ≤ 95) ∨ (96 ≤ (s[k].toNat : Int) ∧ (s[k].toNat : Int) ≤ 96) ∨ (97 ≤ (s[k].toNat : Int) ∧ (s[k].toNat : Int) ≤ 122) ∨ 123 ≤ (s[k].toNat : Int)) := by omega
      obtain ⟨hk0, hcs⟩ := hcs
      rcases hk0 with hk0 | hk0 <;> rcases hcs with hcs | hcs | hcs | hcs | hcs | hcs | hcs
      · skip
        have t0 : decide (48 ≤ (s[k].toNat : Int)) = false := by simp; omega
        have t1 : decide ((s[k].toNat : Int) ≤ 57) = true := by simp; omega
        have t2 : ((s[k].toNat : Int) == 95) = false := by simp; omega
        have t3 : decide ((s[k].toNat : Int) < 97) = true := by simp; omega
        have t4 : decide (122 < (s[k].toNat : Int)) = false := by simp; omega
        have t5 : decide (97 ≤ (s[k].toNat : Int)) = false := by simp; omega
        have t6 : decide ((s[k].toNat : Int) ≤ 122) = true := by simp; omega
        have t7 : ((k : Int) == 0) = true := by simp; omega
        have hok : chOK k (byteAt s k) = false := by unfold chOK; rw [Hc.out]; simp; omega
        have Hok := Lib.hid hok; clear hok hk0 hcs hc2
        go_wp2
        have E := Lib.hid (nameB_no hlt Hok.out)
        go_ret
        exact ⟨by rw [E.out]; rfl, rfl⟩
      · skip
        have t0 : decide (48 ≤ (s[k].toNat : Int)) = true := by simp; omega
        have t1 : decide ((s[k].toNat : Int) ≤ 57) = true := by simp; omega
        have t2 : ((s[k].toNat : Int) == 95) = false := by simp; omega
        have t3 : decide ((s[k].toNat : Int) < 97) = true := by simp; omega
        have t4 : decide (122 < (s[k].toNat : Int)) = false := by simp; omega
        have t5 : decide (97 ≤ (s[k].toNat : Int)) = false := by simp; omega
        have t6 : decide ((s[k].toNat : Int) ≤ 122) = true := by simp; omega
        have t7 : ((k : Int) == 0) = true := by simp; omega
        have hok : chOK k (byteAt s k) = false := by unfold chOK; rw [Hc.out]; simp; omega
        have Hok := Lib.hid hok; clear hok hk0 hcs hc2
        go_wp2
        have E := Lib.hid (nameB_no hlt Hok.out)
        go_ret
        exact ⟨by rw [E.out]; rfl, rfl⟩
      · skip
        have t0 : decide (48 ≤ (s[k].toNat : Int)) = true := by simp; omega
        have t1 : decide ((s[k].toNat : Int) ≤ 57) = false := by simp; omega
        have t2 : ((s[k].toNat : Int) == 95) = false := by simp; omega
        have t3 : decide ((s[k].toNat : Int) < 97) = true := by simp; omega
        have t4 : decide (122 < (s[k].toNat : Int)) = false := by simp; omega
        have t5 : decide (97 ≤ (s[k].toNat : Int)) = false := by simp; omega
        have t6 : decide ((s[k].toNat : Int) ≤ 122) = true := by simp; omega
        have t7 : ((k : Int) == 0) = true := by simp; omega
        have hok : chOK k (byteAt s k) = false := by unfold chOK; rw [Hc.out]; simp; omega
        have Hok := Lib.hid hok; clear hok hk0 hcs hc2
        go_wp2
        have E := Lib.hid (nameB_no hlt Hok.out)
        go_ret
        exact ⟨by rw [E.out]; rfl, rfl⟩
      · skip
        have t0 : decide (48 ≤ (s[k].toNat : Int)) = true := by simp; omega
        have t1 : decide ((s[k].toNat : Int) ≤ 57) = false := by simp; omega
        have t2 : ((s[k].toNat : Int) == 95) = true := by simp; omega
        have t3 : decide ((s[k].toNat : Int) < 97) = true := by simp; omega
        have t4 : decide (122 < (s[k].toNat : Int)) = false := by simp; omega
        have t5 : decide (97 ≤ (s[k].toNat : Int)) = false := by simp; omega
        have t6 : decide ((s[k].toNat : Int) ≤ 122) = true := by simp; omega
        have t7 : ((k : Int) == 0) = true := by simp; omega
        have hok : chOK k (byteAt s k) = false := by unfold chOK; rw [Hc.out]; simp; omega
        have Hok := Lib.hid hok; clear hok hk0 hcs hc2
        go_wp2
        have E := Lib.hid (nameB_no hlt Hok.out)
        go_ret
        exact ⟨by rw [E.out]; rfl, rfl⟩
      · skip
        have t0 : decide (48 ≤ (s[k].toNat : Int)) = true := by simp; omega
        have t1 : decide ((s[k].toNat : Int) ≤ 57) = false := by simp; omega
        have t2 : ((s[k].toNat : Int) == 95) = false := by simp; omega
        have t3 : decide ((s[k].toNat : Int) < 97) = true := by simp; omega
        have t4 : decide (122 < (s[k].toNat : Int)) = false := by simp; omega
        have t5 : decide (97 ≤ (s[k].toNat : Int)) = false := by simp; omega
        have t6 : decide ((s[k].toNat : Int) ≤ 122) = true := by simp; omega
        have t7 : ((k : Int) == 0) = true := by simp; omega
        have hok : chOK k (byteAt s k) = false := by unfold chOK; rw [Hc.out]; simp; omega
        have Hok := Lib.hid hok; clear hok hk0 hcs hc2
        go_wp2
        have E := Lib.hid (nameB_no hlt Hok.out)
        go_ret
        exact ⟨by rw [E.out]; rfl, rfl⟩
      · skip
        have t0 : decide (48 ≤ (s[k].toNat : Int)) = true := by simp; omega
        have t1 : decide ((s[k].toNat : Int) ≤ 57) = false := by simp; omega
        have t2 : ((s[k].toNat : Int) == 95) = false := by simp; omega
        have t3 : decide ((s[k].toNat : Int) < 97) = false := by simp; omega
        have t4 : decide (122 < (s[k].toNat : Int)) = false := by simp; omega
        have t5 : decide (97 ≤ (s[k].toNat : Int)) = true := by simp; omega
        have t6 : decide ((s[k].toNat : Int) ≤ 122) = true := by simp; omega
        have t7 : ((k : Int) == 0) = true := by simp; omega
        have hok : chOK k (byteAt s k) = true := by unfold chOK; rw [Hc.out]; simp; omega
        have Hok := Lib.hid hok; clear hok hk0 hcs hc2
        go_wp2
        go_round
        case rel => exact ⟨k + 1, by omega, by go_num, all_succ Hall.out Hok.out⟩
        case measure => simp [intOf]; omega
      · skip
        have t0 : decide (48 ≤ (s[k].toNat : Int)) = true := by simp; omega
        have t1 : decide ((s[k].toNat : Int) ≤ 57) = false := by simp; omega
        have t2 : ((s[k].toNat : Int) == 95) = false := by simp; omega
        have t3 : decide ((s[k].toNat : Int) < 97) = false := by simp; omega
        have t4 : decide (122 < (s[k].toNat : Int)) = true := by simp; omega
        have t5 : decide (97 ≤ (s[k].toNat : Int)) = true := by simp; omega
        have t6 : decide ((s[k].toNat : Int) ≤ 122) = false := by simp; omega
        have t7 : ((k : Int) == 0) = true := by simp; omega
        have hok : chOK k (byteAt s k) = false := by unfold chOK; rw [Hc.out]; simp; omega
        have Hok := Lib.hid hok; clear hok hk0 hcs hc2
        go_wp2
        have E := Lib.hid (nameB_no hlt Hok.out)
        go_ret
        exact ⟨by rw [E.out]; rfl, rfl⟩
      · skip
        have t0 : decide (48 ≤ (s[k].toNat : Int)) = false := by simp; omega
        have t1 : decide ((s[k].toNat : Int) ≤ 57) = true := by simp; omega
        have t2 : ((s[k].toNat : Int) == 95) = false := by simp; omega
        have t3 : decide ((s[k].toNat : Int) < 97) = true := by simp; omega
        have t4 : decide (122 < (s[k].toNat : Int)) = false := by simp; omega
        have t5 : decide (97 ≤ (s[k].toNat : Int)) = false := by simp; omega
        have t6 : decide ((s[k].toNat : Int) ≤ 122) = true := by simp; omega
        have t7 : ((k : Int) == 0) = false := by simp; omega
        have hok : chOK k (byteAt s k) = false := by unfold chOK; rw [Hc.out]; simp; omega
        have Hok := Lib.hid hok; clear hok hk0 hcs hc2
        go_wp2
        have E := Lib.hid (nameB_no hlt Hok.out)
        go_ret
        exact ⟨by rw [E.out]; rfl, rfl⟩
      · skip
        have t0 : decide (48 ≤ (s[k].toNat : Int)) = true := by simp; omega
        have t1 : decide ((s[k].toNat : Int) ≤ 57) = true := by simp; omega
        have t2 : ((s[k].toNat : Int) == 95) = false := by simp; omega
        have t3 : decide ((s[k].toNat : Int) < 97) = true := by simp; omega
        have t4 : decide (122 < (s[k].toNat : Int)) = false := by simp; omega
        have t5 : decide (97 ≤ (s[k].toNat : Int)) = false := by simp; omega
        have t6 : decide ((s[k].toNat : Int) ≤ 122) = true := by simp; omega
        have t7 : ((k : Int) == 0) = false := by simp; omega
        have hok : chOK k (byteAt s k) = true := by unfold chOK; rw [Hc.out]; simp; omega
        have Hok := Lib.hid hok; clear hok hk0 hcs hc2
        go_wp2
        go_round
        case rel => exact ⟨k + 1, by omega, by go_num, all_succ Hall.out Hok.out⟩
        case measure => simp [intOf]; omega
      · skip
        have t0 : decide (48 ≤ (s[k].toNat : Int)) = true := by simp; omega
        have t1 : decide ((s[k].toNat : Int) ≤ 57) = false := by simp; omega
        have t2 : ((s[k].toNat : Int) == 95) = false := by simp; omega
        have t3 : decide ((s[k].toNat : Int) < 97) = true := by simp; omega
        have t4 : decide (122 < (s[k].toNat : Int)) = false := by simp; omega
        have t5 : decide (97 ≤ (s[k].toNat : Int)) = false := by simp; omega
        have t6 : decide ((s[k].toNat : Int) ≤ 122) = true := by simp; omega
        have t7 : ((k : Int) == 0) = false := by simp; omega
        have hok : chOK k (byteAt s k) = false := by unfold chOK; rw [Hc.out]; simp; omega
        have Hok := Lib.hid hok; clear hok hk0 hcs hc2
        go_wp2
        have E := Lib.hid (nameB_no hlt Hok.out)
        go_ret
        exact ⟨by rw [E.out]; rfl, rfl⟩
      · skip
        have t0 : decide (48 ≤ (s[k].toNat : Int)) = true := by simp; omega
        have t1 : decide ((s[k].toNat : Int) ≤ 57) = false := by simp; omega
        have t2 : ((s[k].toNat : Int) == 95) = true := by simp; omega
        have t3 : decide ((s[k].toNat : Int) < 97) = true := by simp; omega
        have t4 : decide (122 < (s[k].toNat : Int)) = false := by simp; omega
        have t5 : decide (97 ≤ (s[k].toNat : Int)) = false := by simp; omega
        have t6 : decide ((s[k].toNat : Int) ≤ 122) = true := by simp; omega
        have t7 : ((k : Int) == 0) = false := by simp; omega
        have hok : chOK k (byteAt s k) = true := by unfold chOK; rw [Hc.out]; simp; omega
        have Hok := Lib.hid hok; clear hok hk0 hcs hc2
        go_wp2
        go_round
        case rel => exact ⟨k + 1, by omega, by go_num, all_succ Hall.out Hok.out⟩
        case measure => simp [intOf]; omega
      · skip
        have t0 : decide (48 ≤ (s[k].toNat : Int)) = true := by simp; omega
        have t1 : decide ((s[k].toNat : Int) ≤ 57) = false := by simp; omega
        have t2 : ((s[k].toNat : Int) == 95) = false := by simp; omega
        have t3 : decide ((s[k].toNat : Int) < 97) = true := by simp; omega
        have t4 : decide (122 < (s[k].toNat : Int)) = false := by simp; omega
        have t5 : decide (97 ≤ (s[k].toNat : Int)) = false := by simp; omega
        have t6 : decide ((s[k].toNat : Int) ≤ 122) = true := by simp; omega
        have t7 : ((k : Int) == 0) = false := by simp; omega
        have hok : chOK k (byteAt s k) = false := by unfold chOK; rw [Hc.out]; simp; omega
        have Hok := Lib.hid hok; clear hok hk0 hcs hc2
        go_wp2
        have E := Lib.hid (nameB_no hlt Hok.out)
        go_ret
        exact ⟨by rw [E.out]; rfl, rfl⟩
      · skip
        have t0 : decide (48 ≤ (s[k].toNat : Int)) = true := by simp; omega
        have t1 : decide ((s[k].toNat : Int) ≤ 57) = false := by simp; omega
        have t2 : ((s[k].toNat : Int) == 95) = false := by simp; omega
        have t3 : decide ((s[k].toNat : Int) < 97) = false := by simp; omega
        have t4 : decide (122 < (s[k].toNat : Int)) = false := by simp; omega
        have t5 : decide (97 ≤ (s[k].toNat : Int)) = true := by simp; omega
        have t6 : decide ((s[k].toNat : Int) ≤ 122) = true := by simp; omega
        have t7 : ((k : Int) == 0) = false := by simp; omega
        have hok : chOK k (byteAt s k) = true := by unfold chOK; rw [Hc.out]; simp; omega
        have Hok := Lib.hid hok; clear hok hk0 hcs hc2
        go_wp2
        go_round
        case rel => exact ⟨k + 1, by omega, by go_num, all_succ Hall.out Hok.out⟩
        case measure => simp [intOf]; omega
      · skip
        have t0 : decide (48 ≤ (s[k].toNat : Int)) = true := by simp; omega
        have t1 : decide ((s[k].toNat : Int) ≤ 57) = false := by simp; omega
        have t2 : ((s[k].toNat : Int) == 95) = false := by simp; omega
        have t3 : decide ((s[k].toNat : Int) < 97) = false := by simp; omega
        have t4 : decide (122 < (s[k].toNat : Int)) = true := by simp; omega
        have t5 : decide (97 ≤ (s[k].toNat : Int)) = true := by simp; omega
        have t6 : decide ((s[k].toNat : Int) ≤ 122) = false := by simp; omega
        have t7 : ((k : Int) == 0) = false := by simp; omega
        have hok : chOK k (byteAt s k) = false := by unfold chOK; rw [Hc.out]; simp; omega
        have Hok := Lib.hid hok; clear hok hk0 hcs hc2
        go_wp2
        have E := Lib.hid (nameB_no hlt Hok.out)
        go_ret
        exact ⟨by rw [E.out]; rfl, rfl⟩
    · obtain rfl : k = s.size := by omega
      have E := Lib.hid (nameB_yes h0 h8 Hall.out)
      go_wp2
      go_ret
      exact ⟨by rw [E.out]; rfl, rfl⟩

end Go.Proofs.YtbmaeaknlpgdmaaGreat
