/- liverykeep: two values are alike just if they are one. liverykeep: rows. The floats of the program and of the reference: what Canon, Is, Bits, From come to. -/
import Derived.Test.YtbmaeaknlpgdmaaGreatA01
namespace Go.Proofs.YtbmaeaknlpgdmaaGreat
open Go.RowKit
theorem Tryz.float64bits (b : Nat) (w : World) : (callFunc 117 #[.float .f64 b]).run Tryz.prog w = .ok (.value (.int .u64 b)) w := by kernel_rfl

set_option maxHeartbeats 1000000 in
theorem keepValue_any (k n : Int) (f : Nat) (s : ByteArray) (k' n' : Int) (f' : Nat) (s' : ByteArray) (w : World) :
    Pure Tryz.prog 66 #[.agg #[.int .i64 k, .int .i64 n, .float .f64 f, .string s], .agg #[.int .i64 k', .int .i64 n', .float .f64 f', .string s']] w (.bool (decide ((⟨k, n, f, s⟩ : Vl) = ⟨k', n', f', s'⟩))) := by
  have hfb := Tryz.float64bits
  by_cases h1 : (k == k') = true
  · by_cases h2 : (n == n') = true
    · by_cases h3 : ((f : Int) == (f' : Int)) = true
      · have hd : decide ((⟨k, n, f, s⟩ : Vl) = ⟨k', n', f', s'⟩) = (s.toList == s'.toList) := by
          have h3' : f = f' := by simp at h3; omega
          simp at h1 h2; rw [str_beq]; simp [h1, h2, h3']
        have H := Lib.hid hd; clear hd
        go_enter Tryz.func66, Tryz.ntmps66
        go_wp2
        go_quiet (fail)
        go_wp2
        go_ret
        exact ⟨by rw [H.out]; rfl, by (repeat (first | assumption | exact Below.refl _ _ | refine bl_drewN ?_ _ | refine bl_drew ?_ | refine bl_alloc ?_ _ | refine bl_step ?_ (by assumption)))⟩
      · have h3' : ((f : Int) == (f' : Int)) = false := by simpa using h3
        have hd : decide ((⟨k, n, f, s⟩ : Vl) = ⟨k', n', f', s'⟩) = false := by
          have h : ¬ f = f' := by simp at h3; omega
          simp [h]
        clear h3
        have H := Lib.hid hd; clear hd
        go_enter Tryz.func66, Tryz.ntmps66
        go_wp2
        go_quiet (fail)
        go_wp2
        go_ret
        exact ⟨by rw [H.out]; rfl, by (repeat (first | assumption | exact Below.refl _ _ | refine bl_drewN ?_ _ | refine bl_drew ?_ | refine bl_alloc ?_ _ | refine bl_step ?_ (by assumption)))⟩
    · have h2' : (n == n') = false := by simpa using h2
      have hd : decide ((⟨k, n, f, s⟩ : Vl) = ⟨k', n', f', s'⟩) = false := by simp at h2; simp [h2]
      clear h2
      have H := Lib.hid hd; clear hd
      go_enter Tryz.func66, Tryz.ntmps66
      go_wp2
      go_quiet (fail)
      go_wp2
      go_ret
      exact ⟨by rw [H.out]; rfl, by (repeat (first | assumption | exact Below.refl _ _ | refine bl_drewN ?_ _ | refine bl_drew ?_ | refine bl_alloc ?_ _ | refine bl_step ?_ (by assumption)))⟩
  · have h1' : (k == k') = false := by simpa using h1
    have hd : decide ((⟨k, n, f, s⟩ : Vl) = ⟨k', n', f', s'⟩) = false := by simp at h1; simp [h1]
    clear h1
    have H := Lib.hid hd; clear hd
    go_enter Tryz.func66, Tryz.ntmps66
    go_wp2
    go_quiet (fail)
    go_wp2
    go_ret
    exact ⟨by rw [H.out]; rfl, by (repeat (first | assumption | exact Below.refl _ _ | refine bl_drewN ?_ _ | refine bl_drew ?_ | refine bl_alloc ?_ _ | refine bl_step ?_ (by assumption)))⟩
end Go.Proofs.YtbmaeaknlpgdmaaGreat
namespace Go.Proofs.YtbmaeaknlpgdmaaGreat
open Go.RowKit
set_option maxHeartbeats 1000000 in
set_option maxRecDepth 100000 in
theorem keepValues_any (A A' : Option Addr) (n c n' c' : Nat) (xs ys : List Vl) (w : World) (hx : RdV w A n xs) (hy : RdV w A' n' ys) :
    Pure Tryz.prog 51 #[.slice A n c, .slice A' n' c'] w (.bool (decide (xs = ys))) := by
  have hxl := hx.1
  have hyl := hy.1
  have hxm := hx.2.1
  by_cases hn : ((n : Int) != (n' : Int)) = true
  · have hd : decide (xs = ys) = false := by
      simp at hn ⊢; rintro rfl; omega
    have H := Lib.hid hd; clear hd hxl hyl hx hy
    go_enter Tryz.func51, Tryz.ntmps51
    go_wp2
    go_ret
    exact ⟨by rw [H.out]; rfl, by (repeat (first | assumption | exact Below.refl _ _ | refine bl_drewN ?_ _ | refine bl_drew ?_ | refine bl_alloc ?_ _ | refine bl_step ?_ (by assumption)))⟩
  · obtain rfl : n = n' := by simp at hn; omega
    clear hn
    have Hx := Lib.hid hxl
    have Hy := Lib.hid hyl
    have HX := Lib.hid hx
    have HY := Lib.hid hy
    clear hxl hyl hx hy
    go_enter Tryz.func51, Tryz.ntmps51
    go_wp2
    go_loopw [5] (fun i wr => ∃ k : Nat, k ≤ n ∧ i = .int .i64 k ∧ xs.take k = ys.take k ∧ Below w.heap.size w wr) (fun i _ => n - (intOf i).toNat)
    case atStart => exact ⟨0, Nat.zero_le _, rfl, rfl, Below.refl _ _⟩
    case round =>
      obtain ⟨k, hk, rfl, hxy, hb⟩ := hrel
      by_cases hlt : k < n
      · obtain ⟨b1, o1, k1, n1, f1, s1, hA, hxk, x0, x1, x2, x3, hb1⟩ := HX.out.at_ hb hlt
        obtain ⟨b2, o2, k2, n2, f2, s2, hA', hyk, y0, y1, y2, y3, hb2⟩ := HY.out.at_ hb hlt
        subst hA hA'
        have Hxk := Lib.hid hxk
        have Hyk := Lib.hid hyk
        have Hxy := Lib.hid hxy
        clear hxk hyk hxy
        go_wp2
        go_still_tail 8, (by kernel_rfl)
        change wpList _ _ _ _ _ wr.drew
        go_wp2_with fail
        refine (keepValue_any k1 n1 f1 s1 k2 n2 f2 s2 _).mono ?_
        rintro e w1 ⟨rfl, hb1⟩
        by_cases hv : (⟨k1, n1, f1, s1⟩ : Vl) = ⟨k2, n2, f2, s2⟩
        · have hdv := decide_eq_true hv
          rw [hdv]
          have Hv := Lib.hid hv
          clear hv hdv x0 x1 x2 x3 y0 y1 y2 y3
          go_wp2
          go_roundw
          case rel => exact ⟨k + 1, by omega, by go_num, by rw [take_snoc' Hxk.out, take_snoc' Hyk.out, Hxy.out, Hv.out], bl_step (bl_drew hb) hb1⟩
          case measure => simp [intOf]; omega
        · have hdv := decide_eq_false hv
          rw [hdv]
          have hd : decide (xs = ys) = false := by
            simp; rintro rfl; exact hv (Option.some.inj (Hxk.out.symm.trans Hyk.out))
          have H := Lib.hid hd
          clear hv hdv hd x0 x1 x2 x3 y0 y1 y2 y3
          go_wp2
          go_ret
          exact ⟨by rw [H.out]; rfl, bl_step (bl_drew hb) hb1⟩
      · obtain rfl : k = n := by omega
        have hd : decide (xs = ys) = true := by
          simp; rw [← List.take_of_length_le (Nat.le_of_eq Hx.out), hxy, List.take_of_length_le (Nat.le_of_eq Hy.out)]
        have H := Lib.hid hd
        clear hd hxy
        go_wp2
        go_ret
        exact ⟨by rw [H.out]; rfl, hb⟩
end Go.Proofs.YtbmaeaknlpgdmaaGreat
namespace Go.Proofs.YtbmaeaknlpgdmaaGreat
open Go.RowKit

def ford (a b : Nat) : Option Ordering := FloatKind.f64.format.order a b
def canonF (f : Nat) : Nat := if (FloatKind.f64.format.order f f != some .eq) = true then 9221120237041090560 else if (FloatKind.f64.format.order f 0 == some .eq) = true then 0 else f
def isF (f : Nat) : Bool := (f : Int) == (canonF f : Int)
def bitsF (f : Nat) : Nat := if canonF f < 9223372036854775808 then canonF f + 9223372036854775808 else 18446744073709551615 - canonF f
def unbits (u : Nat) : Nat := if u < 9223372036854775808 then 18446744073709551615 - u else u - 9223372036854775808
def fromF (u : Nat) : Option Nat := if isF (unbits u) then some (unbits u) else none

theorem canonF_lt {f : Nat} (h : f < 18446744073709551616) : canonF f < 18446744073709551616 := by
  unfold canonF; split
  · omega
  · split <;> omega

theorem Tryz.frombits (n : Int) (w : World) : (callFunc 211 #[.int .u64 n]).run Tryz.prog w = .ok (.value (.float .f64 n.toNat)) w := by kernel_rfl

set_option maxRecDepth 100000 in
theorem canon_any (f : Nat) (w : World) : Calls Tryz.prog 216 #[.float .f64 f] w fun e w' => e = .returned (.float .f64 (canonF f)) ∧ w = w' := by
  have hfb := Tryz.frombits
  by_cases h1 : (FloatKind.f64.format.order f f != some .eq) = true
  · have hc : canonF f = 9221120237041090560 := if_pos h1
    have H := Lib.hid hc; clear hc
    go_enter Tryz.func216, Tryz.ntmps216
    go_wp2
    go_ret
    exact ⟨by rw [H.out]; rfl, rfl⟩
  · have h1' : (FloatKind.f64.format.order f f != some .eq) = false := by simpa using h1
    by_cases h2 : (FloatKind.f64.format.order f 0 == some .eq) = true
    · have hc : canonF f = 0 := (if_neg h1).trans (if_pos h2)
      have H := Lib.hid hc; clear hc
      go_enter Tryz.func216, Tryz.ntmps216
      go_wp2
      go_ret
      exact ⟨by rw [H.out]; rfl, rfl⟩
    · have h2' : (FloatKind.f64.format.order f 0 == some .eq) = false := by simpa using h2
      have hc : canonF f = f := (if_neg h1).trans (if_neg h2)
      have H := Lib.hid hc; clear hc
      go_enter Tryz.func216, Tryz.ntmps216
      go_wp2
      go_ret
      exact ⟨by rw [H.out]; rfl, rfl⟩

set_option maxRecDepth 100000 in
theorem isnan_any (f : Nat) (w : World) : Calls Tryz.prog 179 #[.float .f64 f] w fun e w' => e = .returned (.bool (FloatKind.f64.format.order f f != some .eq)) ∧ w = w' := by
  go_enter Tryz.func179, Tryz.ntmps179
  go_wp2
  go_ret
  exact ⟨rfl, rfl⟩

set_option maxRecDepth 100000 in
theorem rcanon_any (f : Nat) (w : World) : Calls Tryz.prog 187 #[.float .f64 f] w fun e w' => e = .returned (.float .f64 (canonF f)) ∧ w = w' := by
  have hfb := Tryz.frombits
  by_cases h1 : (FloatKind.f64.format.order f f != some .eq) = true
  · have hc : canonF f = 9221120237041090560 := if_pos h1
    have H := Lib.hid hc; clear hc
    go_enter Tryz.func187, Tryz.ntmps187
    go_wp2_with (go_at_call 179; refine (isnan_any _ _).mono ?_; rintro e w' ⟨rfl, rfl⟩)
    go_ret
    exact ⟨by rw [H.out]; rfl, rfl⟩
  · have h1' : (FloatKind.f64.format.order f f != some .eq) = false := by simpa using h1
    by_cases h2 : (FloatKind.f64.format.order f 0 == some .eq) = true
    · have hc : canonF f = 0 := (if_neg h1).trans (if_pos h2)
      have H := Lib.hid hc; clear hc
      go_enter Tryz.func187, Tryz.ntmps187
      go_wp2_with (go_at_call 179; refine (isnan_any _ _).mono ?_; rintro e w' ⟨rfl, rfl⟩)
      go_ret
      exact ⟨by rw [H.out]; rfl, rfl⟩
    · have h2' : (FloatKind.f64.format.order f 0 == some .eq) = false := by simpa using h2
      have hc : canonF f = f := (if_neg h1).trans (if_neg h2)
      have H := Lib.hid hc; clear hc
      go_enter Tryz.func187, Tryz.ntmps187
      go_wp2_with (go_at_call 179; refine (isnan_any _ _).mono ?_; rintro e w' ⟨rfl, rfl⟩)
      go_ret
      exact ⟨by rw [H.out]; rfl, rfl⟩

set_option maxRecDepth 100000 in
theorem is_any (f : Nat) (w : World) : Calls Tryz.prog 202 #[.float .f64 f] w fun e w' => e = .returned (.bool (isF f)) ∧ w = w' := by
  have hfb := Tryz.float64bits
  go_enter Tryz.func202, Tryz.ntmps202
  go_wp2_with (go_at_call 216; refine (canon_any _ _).mono ?_; rintro e w' ⟨rfl, rfl⟩)
  go_ret
  exact ⟨rfl, rfl⟩

set_option maxRecDepth 100000 in
theorem ris_any (f : Nat) (w : World) : Calls Tryz.prog 154 #[.float .f64 f] w fun e w' => e = .returned (.bool (isF f)) ∧ w = w' := by
  have hfb := Tryz.float64bits
  go_enter Tryz.func154, Tryz.ntmps154
  go_wp2_with (go_at_call 187; refine (rcanon_any _ _).mono ?_; rintro e w' ⟨rfl, rfl⟩)
  go_ret
  exact ⟨rfl, rfl⟩
end Go.Proofs.YtbmaeaknlpgdmaaGreat
namespace Go.Proofs.YtbmaeaknlpgdmaaGreat
open Go.RowKit
theorem b_and (u : Nat) (hu : u < 18446744073709551616) : bits .and .u64 (u : Int) 9223372036854775808 = if u < 9223372036854775808 then 0 else 9223372036854775808 := by
  have h := u64_and_nat u 9223372036854775808 hu (by omega)
  rw [show ((9223372036854775808 : Nat) : Int) = 9223372036854775808 from rfl] at h
  rw [h]
  have hb := nat_bit 63 u
  rw [show (2 : Nat) ^ 63 = 9223372036854775808 from rfl] at hb
  rw [hb]
  split <;> omega
theorem b_xor (u : Nat) (hu : u < 18446744073709551616) : bits .xor .u64 IntKind.u64.max (u : Int) = ((18446744073709551615 - u : Nat) : Int) := by
  have h := u64_xor_nat 18446744073709551615 u (by omega) hu
  rw [show ((18446744073709551615 : Nat) : Int) = IntKind.u64.max from rfl] at h
  rw [h]
  congr 1
  have e := BitVec.toNat_not (x := BitVec.ofNat 64 u)
  have e2 : (~~~ (BitVec.ofNat 64 u)) = BitVec.allOnes 64 ^^^ BitVec.ofNat 64 u := (BitVec.allOnes_xor).symm
  rw [e2, BitVec.toNat_xor, BitVec.toNat_allOnes, BitVec.toNat_ofNat, Nat.mod_eq_of_lt (show u < 2 ^ 64 by omega)] at e
  rw [show (2 : Nat) ^ 64 - 1 = 18446744073709551615 from rfl] at e
  rw [e]
theorem b_or (u : Nat) (hu : u < 9223372036854775808) : bits .or .u64 (u : Int) 9223372036854775808 = ((u + 9223372036854775808 : Nat) : Int) := by
  have h := u64_or_nat u 9223372036854775808 (by omega) (by omega)
  rw [show ((9223372036854775808 : Nat) : Int) = 9223372036854775808 from rfl] at h
  rw [h]
  congr 1
  rw [Nat.or_comm, nat_join 63 9223372036854775808 u (by decide) (by omega)]
  omega
theorem mask63 (u : Nat) (hu : u < 18446744073709551616) (h63 : 9223372036854775808 ≤ u) : u &&& 9223372036854775807 = u - 9223372036854775808 := by
  have h := Nat.and_two_pow_sub_one_eq_mod u 63
  rw [show (2 : Nat) ^ 63 - 1 = 9223372036854775807 from by simp, show (2 : Nat) ^ 63 = 9223372036854775808 from by simp] at h
  omega
theorem b_andNot (u : Nat) (hu : u < 18446744073709551616) (h63 : 9223372036854775808 ≤ u) : bits .andNot .u64 (u : Int) 9223372036854775808 = ((u - 9223372036854775808 : Nat) : Int) := by
  have h := u64_andNot_nat u 9223372036854775808 hu (by omega)
  rw [show ((9223372036854775808 : Nat) : Int) = 9223372036854775808 from rfl] at h
  rw [h, ← mask63 u hu h63]
theorem and_hi {u : Nat} (hu : u < 18446744073709551616) (h : (bits .and .u64 (u : Int) 9223372036854775808 != 0) = true) : 9223372036854775808 ≤ u := by
  rw [b_and u hu] at h
  split at h
  · simp at h
  · omega
theorem and_lo {u : Nat} (hu : u < 18446744073709551616) (h : (bits .and .u64 (u : Int) 9223372036854775808 != 0) = false) : u < 9223372036854775808 := by
  rw [b_and u hu] at h
  split at h
  · assumption
  · simp at h
end Go.Proofs.YtbmaeaknlpgdmaaGreat
namespace Go.Proofs.YtbmaeaknlpgdmaaGreat
open Go.RowKit
def geSign (x : Int) : Bool := decide (x ≥ 9223372036854775808)
theorem run_geSign (x : Int) (w : World) : (binOp .geq 155 (.int .u64 x) (.int .u64 9223372036854775808)).run Tryz.prog w = .ok (.bool (geSign x)) w := by kernel_rfl
def addSign (x : Int) : Int := IntKind.u64.wrap (x + 9223372036854775808)
def subSign (x : Int) : Int := IntKind.u64.wrap (x - 9223372036854775808)
theorem run_addSign (x : Int) (w : World) : (binOp .add 155 (.int .u64 x) (.int .u64 9223372036854775808)).run Tryz.prog w = .ok (.int .u64 (addSign x)) w := by kernel_rfl
theorem run_subSign (x : Int) (w : World) : (binOp .sub 155 (.int .u64 x) (.int .u64 9223372036854775808)).run Tryz.prog w = .ok (.int .u64 (subSign x)) w := by kernel_rfl
theorem bitsF_hi {f : Nat} (h : 9223372036854775808 ≤ canonF f) : bitsF f = 18446744073709551615 - canonF f := by unfold bitsF; rw [if_neg (by omega)]
theorem bitsF_lo {f : Nat} (h : canonF f < 9223372036854775808) : bitsF f = canonF f + 9223372036854775808 := by unfold bitsF; rw [if_pos h]
theorem addSign_ {c : Nat} (h : c < 9223372036854775808) : IntKind.u64.wrap ((c : Int) + 9223372036854775808) = ((c + 9223372036854775808 : Nat) : Int) := by rw [IntKind.wrap_u64]; omega
theorem subSign_ {c : Nat} (h : 9223372036854775808 ≤ c) (h2 : c < 18446744073709551616) : IntKind.u64.wrap ((c : Int) - 9223372036854775808) = ((c - 9223372036854775808 : Nat) : Int) := by rw [IntKind.wrap_u64]; omega
theorem ret_u64 {a b : Int} (h : a = b) : Ending.returned (.int .u64 a) = .returned (.int .u64 b) := by rw [h]

theorem unbits_hi {u : Nat} (h : 9223372036854775808 ≤ u) : unbits u = u - 9223372036854775808 := by unfold unbits; rw [if_neg (by omega)]
theorem unbits_lo {u : Nat} (h : u < 9223372036854775808) : unbits u = 18446744073709551615 - u := by unfold unbits; rw [if_pos h]

end Go.Proofs.YtbmaeaknlpgdmaaGreat
namespace Go.Proofs.YtbmaeaknlpgdmaaGreat
open Go.RowKit
theorem isF_canon {x : Nat} (h : isF x = true) : canonF x = x := by unfold isF at h; simp at h; omega
theorem bits_unbits {u : Nat} (hu : u < 18446744073709551616) (h : isF (unbits u) = true) : bitsF (unbits u) = u := by
  have hc := isF_canon h
  unfold bitsF; rw [hc]; unfold unbits; split <;> split <;> omega
theorem unbits_lt {u : Nat} (hu : u < 18446744073709551616) : unbits u < 18446744073709551616 := by unfold unbits; split <;> omega

end Go.Proofs.YtbmaeaknlpgdmaaGreat
