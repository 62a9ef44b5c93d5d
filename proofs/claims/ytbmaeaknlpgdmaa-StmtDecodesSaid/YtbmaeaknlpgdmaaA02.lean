/- The floats of the program and of the reference: what Canon, Is, Bits, From come to. -/
import Derived.Test.YtbmaeaknlpgdmaaA01
namespace Go.Proofs.Ytbmaeaknlpgdmaa
open Go.RowKit

def ford (a b : Nat) : Option Ordering := FloatKind.f64.format.order a b
def canonF (f : Nat) : Nat := if (FloatKind.f64.format.order f f != some .eq) = true then 9221120237041090560 else if (FloatKind.f64.format.order f 0 == some .eq) = true then 0 else f
def isF (f : Nat) : Bool := (f : Int) == (canonF f : Int)
def bitsF (f : Nat) : Nat := if canonF f < 9223372036854775808 then canonF f + 9223372036854775808 else 18446744073709551615 - canonF f
def unbits (u : Nat) : Nat := if u < 9223372036854775808 then 18446744073709551615 - u else u - 9223372036854775808
def fromF (u : Nat) : Option Nat := if isF (unbits u) then some (unbits u) else none

theorem canonF_lt {f : Nat} (h : f < 18446744073709551616) : canonF f < 18446744073709551616 := by
  unfold canonF; split
  · omega
  · split <;> omega

theorem Try.frombits (n : Int) (w : World) : (callFunc 107 #[.int .u64 n]).run Try.prog w = .ok (.value (.float .f64 n.toNat)) w := by kernel_rfl

set_option maxRecDepth 100000 in
theorem canon_any (f : Nat) (w : World) : Calls Try.prog 100 #[.float .f64 f] w fun e w' => e = .returned (.float .f64 (canonF f)) ∧ w = w' := by
  have hfb := Try.frombits
  by_cases h1 : (FloatKind.f64.format.order f f != some .eq) = true
  · have hc : canonF f = 9221120237041090560 := if_pos h1
    have H := Lib.hid hc; clear hc
    go_enter Try.func100, Try.ntmps100
    go_wp2
    go_ret
    exact ⟨by rw [H.out]; rfl, rfl⟩
  · have h1' : (FloatKind.f64.format.order f f != some .eq) = false := by simpa using h1
    by_cases h2 : (FloatKind.f64.format.order f 0 == some .eq) = true
    · have hc : canonF f = 0 := (if_neg h1).trans (if_pos h2)
      have H := Lib.hid hc; clear hc
      go_enter Try.func100, Try.ntmps100
      go_wp2
      go_ret
      exact ⟨by rw [H.out]; rfl, rfl⟩
    · have h2' : (FloatKind.f64.format.order f 0 == some .eq) = false := by simpa using h2
      have hc : canonF f = f := (if_neg h1).trans (if_neg h2)
      have H := Lib.hid hc; clear hc
      go_enter Try.func100, Try.ntmps100
      go_wp2
      go_ret
      exact ⟨by rw [H.out]; rfl, rfl⟩

set_option maxRecDepth 100000 in
theorem isnan_any (f : Nat) (w : World) : Calls Try.prog 106 #[.float .f64 f] w fun e w' => e = .returned (.bool (FloatKind.f64.format.order f f != some .eq)) ∧ w = w' := by
  go_enter Try.func106, Try.ntmps106
  go_wp2
  go_ret
  exact ⟨rfl, rfl⟩

set_option maxRecDepth 100000 in
theorem rcanon_any (f : Nat) (w : World) : Calls Try.prog 97 #[.float .f64 f] w fun e w' => e = .returned (.float .f64 (canonF f)) ∧ w = w' := by
  have hfb := Try.frombits
  by_cases h1 : (FloatKind.f64.format.order f f != some .eq) = true
  · have hc : canonF f = 9221120237041090560 := if_pos h1
    have H := Lib.hid hc; clear hc
    go_enter Try.func97, Try.ntmps97
    go_wp2_with (go_at_call 106; refine (isnan_any _ _).mono ?_; rintro e w' ⟨rfl, rfl⟩)
    go_ret
    exact ⟨by rw [H.out]; rfl, rfl⟩
  · have h1' : (FloatKind.f64.format.order f f != some .eq) = false := by simpa using h1
    by_cases h2 : (FloatKind.f64.format.order f 0 == some .eq) = true
    · have hc : canonF f = 0 := (if_neg h1).trans (if_pos h2)
      have H := Lib.hid hc; clear hc
      go_enter Try.func97, Try.ntmps97
      go_wp2_with (go_at_call 106; refine (isnan_any _ _).mono ?_; rintro e w' ⟨rfl, rfl⟩)
      go_ret
      exact ⟨by rw [H.out]; rfl, rfl⟩
    · have h2' : (FloatKind.f64.format.order f 0 == some .eq) = false := by simpa using h2
      have hc : canonF f = f := (if_neg h1).trans (if_neg h2)
      have H := Lib.hid hc; clear hc
      go_enter Try.func97, Try.ntmps97
      go_wp2_with (go_at_call 106; refine (isnan_any _ _).mono ?_; rintro e w' ⟨rfl, rfl⟩)
      go_ret
      exact ⟨by rw [H.out]; rfl, rfl⟩

set_option maxRecDepth 100000 in
theorem is_any (f : Nat) (w : World) : Calls Try.prog 103 #[.float .f64 f] w fun e w' => e = .returned (.bool (isF f)) ∧ w = w' := by
  have hfb := Try.float64bits
  go_enter Try.func103, Try.ntmps103
  go_wp2_with (go_at_call 100; refine (canon_any _ _).mono ?_; rintro e w' ⟨rfl, rfl⟩)
  go_ret
  exact ⟨rfl, rfl⟩

set_option maxRecDepth 100000 in
theorem ris_any (f : Nat) (w : World) : Calls Try.prog 81 #[.float .f64 f] w fun e w' => e = .returned (.bool (isF f)) ∧ w = w' := by
  have hfb := Try.float64bits
  go_enter Try.func81, Try.ntmps81
  go_wp2_with (go_at_call 97; refine (rcanon_any _ _).mono ?_; rintro e w' ⟨rfl, rfl⟩)
  go_ret
  exact ⟨rfl, rfl⟩
end Go.Proofs.Ytbmaeaknlpgdmaa
namespace Go.Proofs.Ytbmaeaknlpgdmaa
open Go.RowKit
theorem b_and (u : Nat) (hu : u < 18446744073709551616) : bits .and .u64 (u : Int) 9223372036854775808 = if u < 9223372036854775808 then 0 else 9223372036854775808 := by
  have h := u64_and_nat u 9223372036854775808 hu (by omega)
  rw [show ((9223372036854775808 : Nat) : Int) = 9223372036854775808 from rfl] at h
  rw [h]
  have hb := nat_bit 63 u
  rw [show (2 : Nat) ^ 63 = 9223372036854775808 from rfl] at hb
  rw [hb]
  split <;> omega
theorem b_xor (u : Nat) (hu : u < 18446744073709551616) : bits .xor .u64 IntKind.u64.max (u : Int) = ((18446744073709551615 - u : Nat) : Int) := by
  have h := u64_xor_nat 18446744073709551615 u (by omega) hu
  rw [show ((18446744073709551615 : Nat) : Int) = IntKind.u64.max from rfl] at h
  rw [h]
  congr 1
  have e := BitVec.toNat_not (x := BitVec.ofNat 64 u)
  have e2 : (~~~ (BitVec.ofNat 64 u)) = BitVec.allOnes 64 ^^^ BitVec.ofNat 64 u := (BitVec.allOnes_xor).symm
  rw [e2, BitVec.toNat_xor, BitVec.toNat_allOnes, BitVec.toNat_ofNat, Nat.mod_eq_of_lt (show u < 2 ^ 64 by omega)] at e
  rw [show (2 : Nat) ^ 64 - 1 = 18446744073709551615 from rfl] at e
  rw [e]
theorem b_or (u : Nat) (hu : u < 9223372036854775808) : bits .or .u64 (u : Int) 9223372036854775808 = ((u + 9223372036854775808 : Nat) : Int) := by
  have h := u64_or_nat u 9223372036854775808 (by omega) (by omega)
  rw [show ((9223372036854775808 : Nat) : Int) = 9223372036854775808 from rfl] at h
  rw [h]
  congr 1
  rw [Nat.or_comm, nat_join 63 9223372036854775808 u (by decide) (by omega)]
  omega
theorem mask63 (u : Nat) (hu : u < 18446744073709551616) (h63 : 9223372036854775808 ≤ u) : u &&& 9223372036854775807 = u - 9223372036854775808 := by
  have h := Nat.and_two_pow_sub_one_eq_mod u 63
  rw [show (2 : Nat) ^ 63 - 1 = 9223372036854775807 from by simp, show (2 : Nat) ^ 63 = 9223372036854775808 from by simp] at h
  omega
theorem b_andNot (u : Nat) (hu : u < 18446744073709551616) (h63 : 9223372036854775808 ≤ u) : bits .andNot .u64 (u : Int) 9223372036854775808 = ((u - 9223372036854775808 : Nat) : Int) := by
  have h := u64_andNot_nat u 9223372036854775808 hu (by omega)
  rw [show ((9223372036854775808 : Nat) : Int) = 9223372036854775808 from rfl] at h
  rw [h, ← mask63 u hu h63]
theorem and_hi {u : Nat} (hu : u < 18446744073709551616) (h : (bits .and .u64 (u : Int) 9223372036854775808 != 0) = true) : 9223372036854775808 ≤ u := by
  rw [b_and u hu] at h
  split at h
  · simp at h
  · omega
theorem and_lo {u : Nat} (hu : u < 18446744073709551616) (h : (bits .and .u64 (u : Int) 9223372036854775808 != 0) = false) : u < 9223372036854775808 := by
  rw [b_and u hu] at h
  split at h
  · assumption
  · simp at h
end Go.Proofs.Ytbmaeaknlpgdmaa
namespace Go.Proofs.Ytbmaeaknlpgdmaa
open Go.RowKit
def geSign (x : Int) : Bool := decide (x ≥ 9223372036854775808)
theorem run_geSign (x : Int) (w : World) : (binOp .geq 86 (.int .u64 x) (.int .u64 9223372036854775808)).run Try.prog w = .ok (.bool (geSign x)) w := by kernel_rfl
def addSign (x : Int) : Int := IntKind.u64.wrap (x + 9223372036854775808)
def subSign (x : Int) : Int := IntKind.u64.wrap (x - 9223372036854775808)
theorem run_addSign (x : Int) (w : World) : (binOp .add 86 (.int .u64 x) (.int .u64 9223372036854775808)).run Try.prog w = .ok (.int .u64 (addSign x)) w := by kernel_rfl
theorem run_subSign (x : Int) (w : World) : (binOp .sub 86 (.int .u64 x) (.int .u64 9223372036854775808)).run Try.prog w = .ok (.int .u64 (subSign x)) w := by kernel_rfl
theorem bitsF_hi {f : Nat} (h : 9223372036854775808 ≤ canonF f) : bitsF f = 18446744073709551615 - canonF f := by unfold bitsF; rw [if_neg (by omega)]
theorem bitsF_lo {f : Nat} (h : canonF f < 9223372036854775808) : bitsF f = canonF f + 9223372036854775808 := by unfold bitsF; rw [if_pos h]
theorem addSign_ {c : Nat} (h : c < 9223372036854775808) : IntKind.u64.wrap ((c : Int) + 9223372036854775808) = ((c + 9223372036854775808 : Nat) : Int) := by rw [IntKind.wrap_u64]; omega
theorem subSign_ {c : Nat} (h : 9223372036854775808 ≤ c) (h2 : c < 18446744073709551616) : IntKind.u64.wrap ((c : Int) - 9223372036854775808) = ((c - 9223372036854775808 : Nat) : Int) := by rw [IntKind.wrap_u64]; omega
theorem ret_u64 {a b : Int} (h : a = b) : Ending.returned (.int .u64 a) = .returned (.int .u64 b) := by rw [h]

set_option maxRecDepth 100000 in
theorem bits_any (f : Nat) (hf : f < 18446744073709551616) (w : World) : Calls Try.prog 85 #[.float .f64 f] w fun e w' => e = .returned (.int .u64 (bitsF f)) ∧ w = w' := by
  have hfb := Try.float64bits
  have Hc := Lib.hid (canonF_lt hf)
  clear hf
  go_enter Try.func85, Try.ntmps85
  go_wp2_with (go_at_call 100; refine (canon_any _ _).mono ?_; rintro e w' ⟨rfl, rfl⟩)
  · have h : (bits .and .u64 (canonF f : Int) 9223372036854775808 != 0) = true := by assumption
    have e := (b_xor _ Hc.out).trans (congrArg Int.ofNat (bitsF_hi (and_hi Hc.out h)).symm)
    have E := Lib.hid e
    clear e
    go_ret
    exact ⟨ret_u64 E.out, rfl⟩
  · have h : (bits .and .u64 (canonF f : Int) 9223372036854775808 != 0) = false := by assumption
    have e := (b_or _ (and_lo Hc.out h)).trans (congrArg Int.ofNat (bitsF_lo (and_lo Hc.out h)).symm)
    have E := Lib.hid e
    clear e
    go_ret
    exact ⟨ret_u64 E.out, rfl⟩

set_option maxRecDepth 100000 in
theorem rbits_any (f : Nat) (hf : f < 18446744073709551616) (w : World) : Calls Try.prog 96 #[.float .f64 f] w fun e w' => e = .returned (.int .u64 (bitsF f)) ∧ w = w' := by
  have hg : ∀ c, ((canonF f : Nat) : Int) = c → ∀ (w : World), (callFunc 60 #[.float .f64 (canonF f)]).run Try.prog w = .ok (.value (.int .u64 c)) w := by
    rintro c rfl; exact fun w => Try.float64bits _ w
  obtain ⟨c, hc⟩ : ∃ c, ((canonF f : Nat) : Int) = c := ⟨_, rfl⟩
  have hfb := hg c hc
  clear hg
  have Hc := Lib.hid (canonF_lt hf)
  have HC := Lib.hid hc
  clear hf hc
  go_enter Try.func96, Try.ntmps96
  go_wp2_with (go_at_call 97; refine (rcanon_any _ _).mono ?_; rintro e w' ⟨rfl, rfl⟩)
  · have h : 9223372036854775808 ≤ c := by assumption
    have e : bits .xor .u64 IntKind.u64.max c = (bitsF f : Int) := by
      have := HC.out
      rw [← this, b_xor _ Hc.out, bitsF_hi (by omega)]
    have E := Lib.hid e
    clear e
    go_ret
    exact ⟨ret_u64 E.out, rfl⟩
  · have h : c < 9223372036854775808 := by assumption
    have e : IntKind.u64.wrap (c + 9223372036854775808) = (bitsF f : Int) := by
      have := HC.out
      rw [← this, addSign_ (by omega), bitsF_lo (by omega)]
    have E := Lib.hid e
    clear e
    go_ret
    exact ⟨ret_u64 (by first | exact E.out | (rw [← E.out, IntKind.wrap_u64]; have := HC.out; omega)), rfl⟩

theorem unbits_hi {u : Nat} (h : 9223372036854775808 ≤ u) : unbits u = u - 9223372036854775808 := by unfold unbits; rw [if_neg (by omega)]
theorem unbits_lo {u : Nat} (h : u < 9223372036854775808) : unbits u = 18446744073709551615 - u := by unfold unbits; rw [if_pos h]

set_option maxRecDepth 100000 in
theorem from_any (u : Nat) (hu : u < 18446744073709551616) (w : World) : Calls Try.prog 109 #[.int .u64 u] w fun e w' => e = .returned (.tuple #[.float .f64 ((fromF u).getD 0), .bool (fromF u).isSome]) ∧ w = w' := by
  have hfb := Try.frombits
  have Hu := Lib.hid hu
  clear hu
  go_enter Try.func109, Try.ntmps109
  go_wp2_with fail
  · have h : (bits .and .u64 (u : Int) 9223372036854775808 != 0) = true := by assumption
    rw [b_andNot u Hu.out (and_hi Hu.out h), ← unbits_hi (and_hi Hu.out h), Int.toNat_natCast]
    refine (is_any _ _).mono ?_
    rintro e w' ⟨rfl, rfl⟩
    by_cases hi : isF (unbits u) = true
    · have E := Lib.hid (show fromF u = some (unbits u) from if_pos hi)
      go_wp2
      go_ret2
      exact ⟨by rw [E.out]; rfl, rfl⟩
    · have hi' : isF (unbits u) = false := by simpa using hi
      have E := Lib.hid (show fromF u = none from if_neg hi)
      clear hi
      go_wp2
      go_ret2
      exact ⟨by rw [E.out]; rfl, rfl⟩
  · have h : (bits .and .u64 (u : Int) 9223372036854775808 != 0) = false := by assumption
    rw [b_xor u Hu.out, ← unbits_lo (and_lo Hu.out h), Int.toNat_natCast]
    refine (is_any _ _).mono ?_
    rintro e w' ⟨rfl, rfl⟩
    by_cases hi : isF (unbits u) = true
    · have E := Lib.hid (show fromF u = some (unbits u) from if_pos hi)
      go_wp2
      go_ret2
      exact ⟨by rw [E.out]; rfl, rfl⟩
    · have hi' : isF (unbits u) = false := by simpa using hi
      have E := Lib.hid (show fromF u = none from if_neg hi)
      clear hi
      go_wp2
      go_ret2
      exact ⟨by rw [E.out]; rfl, rfl⟩
end Go.Proofs.Ytbmaeaknlpgdmaa
namespace Go.Proofs.Ytbmaeaknlpgdmaa
open Go.RowKit
theorem isF_canon {x : Nat} (h : isF x = true) : canonF x = x := by unfold isF at h; simp at h; omega
theorem bits_unbits {u : Nat} (hu : u < 18446744073709551616) (h : isF (unbits u) = true) : bitsF (unbits u) = u := by
  have hc := isF_canon h
  unfold bitsF; rw [hc]; unfold unbits; split <;> split <;> omega
theorem unbits_lt {u : Nat} (hu : u < 18446744073709551616) : unbits u < 18446744073709551616 := by unfold unbits; split <;> omega

set_option maxRecDepth 100000 in
theorem rfrom_any (u : Nat) (hu : u < 18446744073709551616) (w : World) : Pure Try.prog 99 #[.int .u64 u] w (.agg #[.float .f64 ((fromF u).getD 0), .bool (fromF u).isSome]) := by
  have hfb := Try.frombits
  obtain ⟨c, hc⟩ : ∃ c, (u : Int) = c := ⟨_, rfl⟩
  rw [hc]
  have Hu := Lib.hid hu
  have Hc := Lib.hid hc
  clear hu hc
  go_enter Try.func99, Try.ntmps99
  go_wp2_with fail
  · have h : 9223372036854775808 ≤ c := by assumption
    have e : (IntKind.u64.wrap (c - 9223372036854775808)).toNat = unbits u := by
      have := Hc.out
      rw [← this, subSign_ (by omega) Hu.out, unbits_hi (by omega), Int.toNat_natCast]
    rw [e]
    clear h
    refine (ris_any _ _).mono ?_
    rintro e w' ⟨rfl, rfl⟩
    by_cases hi : isF (unbits u) = true
    · have E := Lib.hid (show fromF u = some (unbits u) from if_pos hi)
      have hb := bits_unbits Hu.out hi
      have hb' : (((bitsF (unbits u) : Nat) : Int) != c) = false := by have := Hc.out; rw [hb]; simp [this]
      clear hb
      go_wp2_with fail
      refine (rbits_any _ (unbits_lt Hu.out) _).mono ?_
      rintro e w' ⟨rfl, rfl⟩
      go_wp2
      exact bodyPost_ret (v := .agg #[.float .f64 (unbits u), .bool true]) (by simp [results, Try.results99, go_sem]) rfl ⟨by rw [E.out]; rfl, by (repeat (first | assumption | exact Below.refl _ _ | refine bl_drewN ?_ _ | refine bl_drew ?_ | refine bl_alloc ?_ _ | refine bl_step ?_ (by assumption)))⟩
    · have hi' : isF (unbits u) = false := by simpa using hi
      have E := Lib.hid (show fromF u = none from if_neg hi)
      clear hi
      go_wp2
      exact bodyPost_ret (v := .agg #[.float .f64 0, .bool false]) (by simp [results, Try.results99, go_sem]) rfl ⟨by rw [E.out]; rfl, by (repeat (first | assumption | exact Below.refl _ _ | refine bl_drewN ?_ _ | refine bl_drew ?_ | refine bl_alloc ?_ _ | refine bl_step ?_ (by assumption)))⟩
  · have h : c < 9223372036854775808 := by assumption
    have e : (bits .xor .u64 IntKind.u64.max c).toNat = unbits u := by
      have := Hc.out
      rw [← this, b_xor _ Hu.out, unbits_lo (by omega), Int.toNat_natCast]
    rw [e]
    clear h
    refine (ris_any _ _).mono ?_
    rintro e w' ⟨rfl, rfl⟩
    by_cases hi : isF (unbits u) = true
    · have E := Lib.hid (show fromF u = some (unbits u) from if_pos hi)
      have hb := bits_unbits Hu.out hi
      have hb' : (((bitsF (unbits u) : Nat) : Int) != c) = false := by have := Hc.out; rw [hb]; simp [this]
      clear hb
      go_wp2_with fail
      refine (rbits_any _ (unbits_lt Hu.out) _).mono ?_
      rintro e w' ⟨rfl, rfl⟩
      go_wp2
      exact bodyPost_ret (v := .agg #[.float .f64 (unbits u), .bool true]) (by simp [results, Try.results99, go_sem]) rfl ⟨by rw [E.out]; rfl, by (repeat (first | assumption | exact Below.refl _ _ | refine bl_drewN ?_ _ | refine bl_drew ?_ | refine bl_alloc ?_ _ | refine bl_step ?_ (by assumption)))⟩
    · have hi' : isF (unbits u) = false := by simpa using hi
      have E := Lib.hid (show fromF u = none from if_neg hi)
      clear hi
      go_wp2
      exact bodyPost_ret (v := .agg #[.float .f64 0, .bool false]) (by simp [results, Try.results99, go_sem]) rfl ⟨by rw [E.out]; rfl, by (repeat (first | assumption | exact Below.refl _ _ | refine bl_drewN ?_ _ | refine bl_drew ?_ | refine bl_alloc ?_ _ | refine bl_step ?_ (by assumption)))⟩
end Go.Proofs.Ytbmaeaknlpgdmaa
