/- Lemmas on what the functions under this seat compute. -/
import Derived.Test.YtbmaeaknlpgdmaaA01
import Derived.Test.YtbmaeaknlpgdmaaA03
namespace Go.Proofs.Ytbmaeaknlpgdmaa
open Go.RowKit
theorem Try.uBytes : Try.prog.underlying 51 = some (.slice 5) := by kernel_rfl
theorem Try.uByte : Try.prog.underlying 5 = some (.int .u8) := by kernel_rfl
theorem Try.uString : Try.prog.underlying 9 = some .string := by kernel_rfl
theorem conv_n (xs : List Int) (n c : Nat) (hn : xs.length = n) (w : World) :
    (convert 51 9 (.slice (some ⟨w.heap.size, 0, none⟩) n c)).run Try.prog (w.alloc (.cells (xs.map (Value.int .u8)).toArray 5)) = .ok (.string (strOfNums xs)) (w.alloc (.cells (xs.map (Value.int .u8)).toArray 5)) := by
  refine run_convert_bytes_arg _ _ _ Try.uBytes Try.uByte _ 0 n c xs hn (fun i hi => ?_) _ Try.uString
  rw [cell_of_row _ _ _ _ _ _ (heap_alloc_new w _)]
  simp [List.getElem?_eq_getElem (show i < xs.length by omega), List.getD_eq_getElem?_getD]
theorem conv1 (a : Int) (w : World) (m c : Nat) (hm : m = w.heap.size) : (convert 51 9 (.slice (some ⟨m, 0, none⟩) 1 c)).run Try.prog (w.alloc (.cells #[.int .u8 a] 5)) = .ok (.string (strOfNums [a])) (w.alloc (.cells #[.int .u8 a] 5)) := by
  subst hm; exact conv_n [a] 1 c rfl w
theorem conv2 (a b : Int) (w : World) (m c : Nat) (hm : m = w.heap.size) : (convert 51 9 (.slice (some ⟨m, 0, none⟩) 2 c)).run Try.prog (w.alloc (.cells #[.int .u8 a, .int .u8 b] 5)) = .ok (.string (strOfNums [a, b])) (w.alloc (.cells #[.int .u8 a, .int .u8 b] 5)) := by
  subst hm; exact conv_n [a, b] 2 c rfl w
theorem conv8 (a b d e f g h i : Int) (w : World) (m c : Nat) (hm : m = w.heap.size) : (convert 51 9 (.slice (some ⟨m, 0, none⟩) 8 c)).run Try.prog (w.alloc (.cells #[.int .u8 a, .int .u8 b, .int .u8 d, .int .u8 e, .int .u8 f, .int .u8 g, .int .u8 h, .int .u8 i] 5)) = .ok (.string (strOfNums [a, b, d, e, f, g, h, i])) (w.alloc (.cells #[.int .u8 a, .int .u8 b, .int .u8 d, .int .u8 e, .int .u8 f, .int .u8 g, .int .u8 h, .int .u8 i] 5)) := by
  subst hm; exact conv_n [a, b, d, e, f, g, h, i] 8 c rfl w
theorem mk8 (w : World) : (Instr.makeSlice 51 (.int .i64 8) (.int .i64 8)).run Try.prog w = .ok (.slice (some ⟨w.heap.size, 0, none⟩) 8 8) (w.alloc (.cells #[.int .u8 0, .int .u8 0, .int .u8 0, .int .u8 0, .int .u8 0, .int .u8 0, .int .u8 0, .int .u8 0] 5)) := by kernel_rfl

/-- A number's eight bytes, the highest first. -/
def eightB (u : Nat) : ByteArray := strOfNums [(u / 72057594037927936 % 256 : Nat), (u / 281474976710656 % 256 : Nat), (u / 1099511627776 % 256 : Nat), (u / 4294967296 % 256 : Nat), (u / 16777216 % 256 : Nat), (u / 65536 % 256 : Nat), (u / 256 % 256 : Nat), (u % 256 : Nat)]

set_option maxRecDepth 100000 in
set_option maxHeartbeats 4000000 in
theorem eight_any (u : Nat) (hu : u < 18446744073709551616) (w : World) : Pure Try.prog 84 #[.int .u64 u] w (.string (eightB u)) := by
  have hmk := mk8
  have hcv := conv8
  have Hu := Lib.hid hu
  have h0 : (0 : Int) ≤ u := by omega
  clear hu
  obtain ⟨c, hc⟩ : ∃ c, (u : Int) = c := ⟨_, rfl⟩
  have E : eightB u = strOfNums [c / 72057594037927936 % 256, c / 281474976710656 % 256, c / 1099511627776 % 256, c / 4294967296 % 256, c / 16777216 % 256, c / 65536 % 256, c / 256 % 256, c % 256] := by
    rw [← hc]; rfl
  rw [hc] at h0 ⊢
  have HE := Lib.hid E
  clear E hc
  go_enter Try.func84, Try.ntmps84
  go_wp2
  refine wp_loop_rounds 9 ?_
  iterate 8
    rw [rounds_succ]
    go_wp2
  rw [rounds_succ]
  go_wp2
  go_ret
  exact ⟨by rw [HE.out]; rfl, by (repeat (first | assumption | exact Below.refl _ _ | refine bl_drewN ?_ _ | refine bl_drew ?_ | refine bl_alloc ?_ _ | refine bl_step ?_ (by assumption)))⟩

set_option maxRecDepth 100000 in
set_option maxHeartbeats 4000000 in
theorem reight_any (u : Nat) (hu : u < 18446744073709551616) (w : World) : Pure Try.prog 95 #[.int .u64 u] w (.string (eightB u)) := by
  have hmk := mk8
  have hcv := conv8
  have Hu := Lib.hid hu
  have h0 : (0 : Int) ≤ u := by omega
  clear hu
  obtain ⟨c, hc⟩ : ∃ c, (u : Int) = c := ⟨_, rfl⟩
  have E : eightB u = strOfNums [c / 72057594037927936 % 256, c / 281474976710656 % 256, c / 1099511627776 % 256, c / 4294967296 % 256, c / 16777216 % 256, c / 65536 % 256, c / 256 % 256, c % 256] := by
    rw [← hc]; rfl
  rw [hc] at h0 ⊢
  have E2 : eightB u = strOfNums [c / 256 / 256 / 256 / 256 / 256 / 256 / 256 % 256, c / 256 / 256 / 256 / 256 / 256 / 256 % 256, c / 256 / 256 / 256 / 256 / 256 % 256, c / 256 / 256 / 256 / 256 % 256, c / 256 / 256 / 256 % 256, c / 256 / 256 % 256, c / 256 % 256, c % 256] := by
    rw [E, show c / 256 / 256 / 256 / 256 / 256 / 256 / 256 = c / 72057594037927936 from by omega, show c / 256 / 256 / 256 / 256 / 256 / 256 = c / 281474976710656 from by omega, show c / 256 / 256 / 256 / 256 / 256 = c / 1099511627776 from by omega,
      show c / 256 / 256 / 256 / 256 = c / 4294967296 from by omega, show c / 256 / 256 / 256 = c / 16777216 from by omega, show c / 256 / 256 = c / 65536 from by omega]
  have HE := Lib.hid E2
  have hlt : c < 18446744073709551616 := by have := Hu.out; omega
  clear E E2 hc
  go_enter Try.func95, Try.ntmps95
  go_wp2
  refine wp_loop_rounds 9 ?_
  iterate 8
    rw [rounds_succ]
    go_wp2
  rw [rounds_succ]
  go_wp2
  go_ret
  exact ⟨by rw [HE.out]; rfl, by (repeat (first | assumption | exact Below.refl _ _ | refine bl_drewN ?_ _ | refine bl_drew ?_ | refine bl_alloc ?_ _ | refine bl_step ?_ (by assumption)))⟩
end Go.Proofs.Ytbmaeaknlpgdmaa
namespace Go.Proofs.Ytbmaeaknlpgdmaa
open Go.RowKit
def u64N (n : Int) : Nat := (n % 18446744073709551616).toNat
theorem u64N_eq (n : Int) : IntKind.u64.wrap n = ((u64N n : Nat) : Int) := by rw [IntKind.wrap_u64]; unfold u64N; omega
theorem u64N_lt (n : Int) : u64N n < 18446744073709551616 := by unfold u64N; omega
theorem bitsF_lt {f : Nat} (h : f < 18446744073709551616) : bitsF f < 18446744073709551616 := by
  have := canonF_lt h
  unfold bitsF; split <;> omega
theorem eightB_size (u : Nat) : (eightB u).size = 8 := by unfold eightB; rw [strOfNums_size]; rfl
/-- A good value's bytes. -/
def encV (v : Vl) : ByteArray :=
  if v.k = 0 then strOfNums [0] else if v.k = 1 then strOfNums [1] ++ strOfNums [v.n] else if v.k = 2 then strOfNums [2] ++ eightB (u64N v.n)
  else if v.k = 3 then strOfNums [3] ++ eightB (bitsF v.f) else strOfNums [4] ++ (strOfNums [(v.s.size : Int) / 256, (v.s.size : Int) % 256] ++ v.s)
theorem ba_assoc (a b c : ByteArray) : a ++ b ++ c = a ++ (b ++ c) := by apply ByteArray.ext; simp
theorem good_k {v : Vl} (h : goodV v = true) : v.k = 0 ∨ v.k = 1 ∨ v.k = 2 ∨ v.k = 3 ∨ v.k = 4 := by
  rcases kinds5 v.k with h0 | h0 | h0 | h0 | h0 | h0
  · exact .inl h0
  · exact .inr (.inl h0)
  · exact .inr (.inr (.inl h0))
  · exact .inr (.inr (.inr (.inl h0)))
  · exact .inr (.inr (.inr (.inr h0)))
  · unfold goodV at h
    rw [if_neg (by omega), if_neg (by omega), if_neg (by omega), if_neg (by omega), if_neg (by omega)] at h
    cases h

set_option maxRecDepth 100000 in
set_option maxHeartbeats 1000000 in
theorem enc0 (vn : Int) (vf : Nat) (vs : ByteArray) (w : World) (hf0 : vf < 18446744073709551616) (hg : goodV ⟨0, vn, vf, vs⟩ = true) : Pure Try.prog 50 #[.agg #[.int .i64 0, .int .i64 vn, .float .f64 vf, .string vs]] w (.tuple #[.string (encV ⟨0, vn, vf, vs⟩), .int .i64 0]) := by
  have h1 := conv1
  have h2 := conv2
  have hsz := strOfNums_size
  have Hg := Lib.hid hg
  have Hf := Lib.hid hf0
  clear hg hf0
  go_enter Try.func50, Try.ntmps50
  go_wp2_with fail
  refine (good_any ⟨0, vn, vf, vs⟩ _).mono ?_
  rintro e w1 ⟨rfl, hb⟩
  have hz : w.heap.size < w1.heap.size := by have := hb.size; simp at this; omega
  obtain ⟨hc, hf⟩ := bcell hb
  rw [Hg.out]
  go_wp2
  go_ret2
  exact ⟨by rfl, by (repeat (first | assumption | exact Below.refl _ _ | refine bl_drewN ?_ _ | refine bl_drew ?_ | refine bl_alloc ?_ _ | refine bl_step ?_ (by assumption)))⟩

set_option maxRecDepth 100000 in
set_option maxHeartbeats 1000000 in
theorem enc1 (vn : Int) (vf : Nat) (vs : ByteArray) (w : World) (hf0 : vf < 18446744073709551616) (hg : goodV ⟨1, vn, vf, vs⟩ = true) : Pure Try.prog 50 #[.agg #[.int .i64 1, .int .i64 vn, .float .f64 vf, .string vs]] w (.tuple #[.string (encV ⟨1, vn, vf, vs⟩), .int .i64 0]) := by
  obtain hn : vn = 0 ∨ vn = 1 := by simp [goodV, bareB] at hg; omega
  rcases hn with rfl | rfl
  · have h1 := conv1
    have h2 := conv2
    have hsz := strOfNums_size
    have Hg := Lib.hid hg
    have Hf := Lib.hid hf0
    clear hg hf0
    go_enter Try.func50, Try.ntmps50
    go_wp2_with fail
    refine (good_any ⟨1, 0, vf, vs⟩ _).mono ?_
    rintro e w1 ⟨rfl, hb⟩
    have hz : w.heap.size < w1.heap.size := by have := hb.size; simp at this; omega
    obtain ⟨hc, hf⟩ := bcell hb
    rw [Hg.out]
    go_wp2
    go_ret2
    exact ⟨by rfl, by (repeat (first | assumption | exact Below.refl _ _ | refine bl_drewN ?_ _ | refine bl_drew ?_ | refine bl_alloc ?_ _ | refine bl_step ?_ (by assumption)))⟩
  · have h1 := conv1
    have h2 := conv2
    have hsz := strOfNums_size
    have Hg := Lib.hid hg
    have Hf := Lib.hid hf0
    clear hg hf0
    go_enter Try.func50, Try.ntmps50
    go_wp2_with fail
    refine (good_any ⟨1, 1, vf, vs⟩ _).mono ?_
    rintro e w1 ⟨rfl, hb⟩
    have hz : w.heap.size < w1.heap.size := by have := hb.size; simp at this; omega
    obtain ⟨hc, hf⟩ := bcell hb
    rw [Hg.out]
    go_wp2
    go_ret2
    exact ⟨by rfl, by (repeat (first | assumption | exact Below.refl _ _ | refine bl_drewN ?_ _ | refine bl_drew ?_ | refine bl_alloc ?_ _ | refine bl_step ?_ (by assumption)))⟩

set_option maxRecDepth 100000 in
set_option maxHeartbeats 1000000 in
theorem enc2 (vn : Int) (vf : Nat) (vs : ByteArray) (w : World) (hf0 : vf < 18446744073709551616) (hg : goodV ⟨2, vn, vf, vs⟩ = true) : Pure Try.prog 50 #[.agg #[.int .i64 2, .int .i64 vn, .float .f64 vf, .string vs]] w (.tuple #[.string (encV ⟨2, vn, vf, vs⟩), .int .i64 0]) := by
  have h1 := conv1
  have h2 := conv2
  have hsz := strOfNums_size
  have Hg := Lib.hid hg
  have Hf := Lib.hid hf0
  clear hg hf0
  go_enter Try.func50, Try.ntmps50
  go_wp2_with fail
  refine (good_any ⟨2, vn, vf, vs⟩ _).mono ?_
  rintro e w1 ⟨rfl, hb⟩
  have hz : w.heap.size < w1.heap.size := by have := hb.size; simp at this; omega
  obtain ⟨hc, hf⟩ := bcell hb
  rw [Hg.out]
  go_wp2_with fail
  rw [u64N_eq]
  refine (eight_any _ (u64N_lt vn) _).mono ?_
  rintro e w2 ⟨rfl, hb2⟩
  have hz2 := hb2.size
  obtain ⟨hc2, hf2⟩ := bcell hb2
  have he := eightB_size
  go_wp2
  go_ret2
  exact ⟨by rfl, by (repeat (first | assumption | exact Below.refl _ _ | refine bl_drewN ?_ _ | refine bl_drew ?_ | refine bl_alloc ?_ _ | refine bl_step ?_ (by assumption)))⟩

set_option maxRecDepth 100000 in
set_option maxHeartbeats 1000000 in
theorem enc3 (vn : Int) (vf : Nat) (vs : ByteArray) (w : World) (hf0 : vf < 18446744073709551616) (hg : goodV ⟨3, vn, vf, vs⟩ = true) : Pure Try.prog 50 #[.agg #[.int .i64 3, .int .i64 vn, .float .f64 vf, .string vs]] w (.tuple #[.string (encV ⟨3, vn, vf, vs⟩), .int .i64 0]) := by
  have h1 := conv1
  have h2 := conv2
  have hsz := strOfNums_size
  have Hg := Lib.hid hg
  have Hf := Lib.hid hf0
  clear hg hf0
  go_enter Try.func50, Try.ntmps50
  go_wp2_with fail
  refine (good_any ⟨3, vn, vf, vs⟩ _).mono ?_
  rintro e w1 ⟨rfl, hb⟩
  have hz : w.heap.size < w1.heap.size := by have := hb.size; simp at this; omega
  obtain ⟨hc, hf⟩ := bcell hb
  rw [Hg.out]
  go_wp2_with fail
  refine (bits_any vf Hf.out _).mono ?_
  rintro e w2 ⟨rfl, rfl⟩
  go_wp2_with fail
  refine (eight_any _ (bitsF_lt Hf.out) _).mono ?_
  rintro e w2 ⟨rfl, hb2⟩
  have hz2 := hb2.size
  obtain ⟨hc2, hf2⟩ := bcell hb2
  have he := eightB_size
  go_wp2
  go_ret2
  exact ⟨by rfl, by (repeat (first | assumption | exact Below.refl _ _ | refine bl_drewN ?_ _ | refine bl_drew ?_ | refine bl_alloc ?_ _ | refine bl_step ?_ (by assumption)))⟩

set_option maxRecDepth 100000 in
set_option maxHeartbeats 1000000 in
theorem enc4 (vn : Int) (vf : Nat) (vs : ByteArray) (w : World) (hf0 : vf < 18446744073709551616) (hg : goodV ⟨4, vn, vf, vs⟩ = true) : Pure Try.prog 50 #[.agg #[.int .i64 4, .int .i64 vn, .float .f64 vf, .string vs]] w (.tuple #[.string (encV ⟨4, vn, vf, vs⟩), .int .i64 0]) := by
  have hs : vs.size ≤ 256 := by simp [goodV, bareB] at hg; omega
  have h1 := conv1
  have h2 := conv2
  have hsz := strOfNums_size
  have Hg := Lib.hid hg
  have Hf := Lib.hid hf0
  clear hg hf0
  go_enter Try.func50, Try.ntmps50
  go_wp2_with fail
  refine (good_any ⟨4, vn, vf, vs⟩ _).mono ?_
  rintro e w1 ⟨rfl, hb⟩
  have hz : w.heap.size < w1.heap.size := by have := hb.size; simp at this; omega
  obtain ⟨hc, hf⟩ := bcell hb
  rw [Hg.out]
  go_wp2
  go_ret2
  exact ⟨by rfl, by (repeat (first | assumption | exact Below.refl _ _ | refine bl_drewN ?_ _ | refine bl_drew ?_ | refine bl_alloc ?_ _ | refine bl_step ?_ (by assumption)))⟩

set_option maxRecDepth 100000 in
theorem enc_no (v : Vl) (w : World) (hg : goodV v = false) : Pure Try.prog 50 #[v.agg] w (.tuple #[.string ByteArray.empty, .int .i64 11]) := by
  have Hg := Lib.hid hg
  clear hg
  go_enter Try.func50, Try.ntmps50
  go_wp2_with fail
  refine (good_any v _).mono ?_
  rintro e w1 ⟨rfl, hb⟩
  rw [Hg.out]
  go_wp2
  go_ret2
  exact ⟨rfl, by (repeat (first | assumption | exact Below.refl _ _ | refine bl_drewN ?_ _ | refine bl_drew ?_ | refine bl_alloc ?_ _ | refine bl_step ?_ (by assumption)))⟩

theorem enc_any (v : Vl) (w : World) (hf : v.f < 18446744073709551616) (hg : goodV v = true) : Pure Try.prog 50 #[v.agg] w (.tuple #[.string (encV v), .int .i64 0]) := by
  obtain ⟨vk, vn, vf, vs⟩ := v
  rcases good_k hg with h | h | h | h | h
  · obtain rfl : vk = 0 := h
    exact enc0 vn vf vs w hf hg
  · obtain rfl : vk = 1 := h
    exact enc1 vn vf vs w hf hg
  · obtain rfl : vk = 2 := h
    exact enc2 vn vf vs w hf hg
  · obtain rfl : vk = 3 := h
    exact enc3 vn vf vs w hf hg
  · obtain rfl : vk = 4 := h
    exact enc4 vn vf vs w hf hg

set_option maxRecDepth 100000 in
set_option maxHeartbeats 1000000 in
theorem renc0 (vn : Int) (vf : Nat) (vs : ByteArray) (w : World) (hf0 : vf < 18446744073709551616) (hg : goodV ⟨0, vn, vf, vs⟩ = true) : Pure Try.prog 79 #[.agg #[.int .i64 0, .int .i64 vn, .float .f64 vf, .string vs]] w (.tuple #[.string (encV ⟨0, vn, vf, vs⟩), .int .i64 0]) := by
  have h1 := conv1
  have h2 := conv2
  have hsz := strOfNums_size
  have Hg := Lib.hid hg
  have Hf := Lib.hid hf0
  clear hg hf0
  go_enter Try.func79, Try.ntmps79
  go_wp2_with fail
  refine (rgood_any ⟨0, vn, vf, vs⟩ _).mono ?_
  rintro e w1 ⟨rfl, hb⟩
  have hz : w.heap.size < w1.heap.size := by have := hb.size; simp at this; omega
  obtain ⟨hc, hf⟩ := bcell hb
  rw [Hg.out]
  go_wp2
  go_ret2
  exact ⟨by rfl, by (repeat (first | assumption | exact Below.refl _ _ | refine bl_drewN ?_ _ | refine bl_drew ?_ | refine bl_alloc ?_ _ | refine bl_step ?_ (by assumption)))⟩

set_option maxRecDepth 100000 in
set_option maxHeartbeats 1000000 in
theorem renc1 (vn : Int) (vf : Nat) (vs : ByteArray) (w : World) (hf0 : vf < 18446744073709551616) (hg : goodV ⟨1, vn, vf, vs⟩ = true) : Pure Try.prog 79 #[.agg #[.int .i64 1, .int .i64 vn, .float .f64 vf, .string vs]] w (.tuple #[.string (encV ⟨1, vn, vf, vs⟩), .int .i64 0]) := by
  obtain hn : vn = 0 ∨ vn = 1 := by simp [goodV, bareB] at hg; omega
  rcases hn with rfl | rfl
  · have h1 := conv1
    have h2 := conv2
    have hsz := strOfNums_size
    have Hg := Lib.hid hg
    have Hf := Lib.hid hf0
    clear hg hf0
    go_enter Try.func79, Try.ntmps79
    go_wp2_with fail
    refine (rgood_any ⟨1, 0, vf, vs⟩ _).mono ?_
    rintro e w1 ⟨rfl, hb⟩
    have hz : w.heap.size < w1.heap.size := by have := hb.size; simp at this; omega
    obtain ⟨hc, hf⟩ := bcell hb
    rw [Hg.out]
    go_wp2
    go_ret2
    exact ⟨by rfl, by (repeat (first | assumption | exact Below.refl _ _ | refine bl_drewN ?_ _ | refine bl_drew ?_ | refine bl_alloc ?_ _ | refine bl_step ?_ (by assumption)))⟩
  · have h1 := conv1
    have h2 := conv2
    have hsz := strOfNums_size
    have Hg := Lib.hid hg
    have Hf := Lib.hid hf0
    clear hg hf0
    go_enter Try.func79, Try.ntmps79
    go_wp2_with fail
    refine (rgood_any ⟨1, 1, vf, vs⟩ _).mono ?_
    rintro e w1 ⟨rfl, hb⟩
    have hz : w.heap.size < w1.heap.size := by have := hb.size; simp at this; omega
    obtain ⟨hc, hf⟩ := bcell hb
    rw [Hg.out]
    go_wp2
    go_ret2
    exact ⟨by rfl, by (repeat (first | assumption | exact Below.refl _ _ | refine bl_drewN ?_ _ | refine bl_drew ?_ | refine bl_alloc ?_ _ | refine bl_step ?_ (by assumption)))⟩

set_option maxRecDepth 100000 in
set_option maxHeartbeats 1000000 in
theorem renc2 (vn : Int) (vf : Nat) (vs : ByteArray) (w : World) (hf0 : vf < 18446744073709551616) (hg : goodV ⟨2, vn, vf, vs⟩ = true) : Pure Try.prog 79 #[.agg #[.int .i64 2, .int .i64 vn, .float .f64 vf, .string vs]] w (.tuple #[.string (encV ⟨2, vn, vf, vs⟩), .int .i64 0]) := by
  have h1 := conv1
  have h2 := conv2
  have hsz := strOfNums_size
  have Hg := Lib.hid hg
  have Hf := Lib.hid hf0
  clear hg hf0
  go_enter Try.func79, Try.ntmps79
  go_wp2_with fail
  refine (rgood_any ⟨2, vn, vf, vs⟩ _).mono ?_
  rintro e w1 ⟨rfl, hb⟩
  have hz : w.heap.size < w1.heap.size := by have := hb.size; simp at this; omega
  obtain ⟨hc, hf⟩ := bcell hb
  rw [Hg.out]
  go_wp2_with fail
  rw [u64N_eq]
  refine (reight_any _ (u64N_lt vn) _).mono ?_
  rintro e w2 ⟨rfl, hb2⟩
  have hz2 := hb2.size
  obtain ⟨hc2, hf2⟩ := bcell hb2
  have he := eightB_size
  go_wp2
  go_ret2
  exact ⟨by rfl, by (repeat (first | assumption | exact Below.refl _ _ | refine bl_drewN ?_ _ | refine bl_drew ?_ | refine bl_alloc ?_ _ | refine bl_step ?_ (by assumption)))⟩

set_option maxRecDepth 100000 in
set_option maxHeartbeats 1000000 in
theorem renc3 (vn : Int) (vf : Nat) (vs : ByteArray) (w : World) (hf0 : vf < 18446744073709551616) (hg : goodV ⟨3, vn, vf, vs⟩ = true) : Pure Try.prog 79 #[.agg #[.int .i64 3, .int .i64 vn, .float .f64 vf, .string vs]] w (.tuple #[.string (encV ⟨3, vn, vf, vs⟩), .int .i64 0]) := by
  have h1 := conv1
  have h2 := conv2
  have hsz := strOfNums_size
  have Hg := Lib.hid hg
  have Hf := Lib.hid hf0
  clear hg hf0
  go_enter Try.func79, Try.ntmps79
  go_wp2_with fail
  refine (rgood_any ⟨3, vn, vf, vs⟩ _).mono ?_
  rintro e w1 ⟨rfl, hb⟩
  have hz : w.heap.size < w1.heap.size := by have := hb.size; simp at this; omega
  obtain ⟨hc, hf⟩ := bcell hb
  rw [Hg.out]
  go_wp2_with fail
  refine (rbits_any vf Hf.out _).mono ?_
  rintro e w2 ⟨rfl, rfl⟩
  go_wp2_with fail
  refine (reight_any _ (bitsF_lt Hf.out) _).mono ?_
  rintro e w2 ⟨rfl, hb2⟩
  have hz2 := hb2.size
  obtain ⟨hc2, hf2⟩ := bcell hb2
  have he := eightB_size
  go_wp2
  go_ret2
  exact ⟨by rfl, by (repeat (first | assumption | exact Below.refl _ _ | refine bl_drewN ?_ _ | refine bl_drew ?_ | refine bl_alloc ?_ _ | refine bl_step ?_ (by assumption)))⟩

set_option maxRecDepth 100000 in
set_option maxHeartbeats 1000000 in
theorem renc4 (vn : Int) (vf : Nat) (vs : ByteArray) (w : World) (hf0 : vf < 18446744073709551616) (hg : goodV ⟨4, vn, vf, vs⟩ = true) : Pure Try.prog 79 #[.agg #[.int .i64 4, .int .i64 vn, .float .f64 vf, .string vs]] w (.tuple #[.string (encV ⟨4, vn, vf, vs⟩), .int .i64 0]) := by
  have hs : vs.size ≤ 256 := by simp [goodV, bareB] at hg; omega
  have h1 := conv1
  have h2 := conv2
  have hsz := strOfNums_size
  have Hg := Lib.hid hg
  have Hf := Lib.hid hf0
  clear hg hf0
  go_enter Try.func79, Try.ntmps79
  go_wp2_with fail
  refine (rgood_any ⟨4, vn, vf, vs⟩ _).mono ?_
  rintro e w1 ⟨rfl, hb⟩
  have hz : w.heap.size < w1.heap.size := by have := hb.size; simp at this; omega
  obtain ⟨hc, hf⟩ := bcell hb
  rw [Hg.out]
  go_wp2
  go_ret2
  exact ⟨by rw [ba_assoc]; rfl, by (repeat (first | assumption | exact Below.refl _ _ | refine bl_drewN ?_ _ | refine bl_drew ?_ | refine bl_alloc ?_ _ | refine bl_step ?_ (by assumption)))⟩

set_option maxRecDepth 100000 in
theorem renc_no (v : Vl) (w : World) (hg : goodV v = false) : Pure Try.prog 79 #[v.agg] w (.tuple #[.string ByteArray.empty, .int .i64 11]) := by
  have Hg := Lib.hid hg
  clear hg
  go_enter Try.func79, Try.ntmps79
  go_wp2_with fail
  refine (rgood_any v _).mono ?_
  rintro e w1 ⟨rfl, hb⟩
  rw [Hg.out]
  go_wp2
  go_ret2
  exact ⟨rfl, by (repeat (first | assumption | exact Below.refl _ _ | refine bl_drewN ?_ _ | refine bl_drew ?_ | refine bl_alloc ?_ _ | refine bl_step ?_ (by assumption)))⟩

theorem renc_any (v : Vl) (w : World) (hf : v.f < 18446744073709551616) (hg : goodV v = true) : Pure Try.prog 79 #[v.agg] w (.tuple #[.string (encV v), .int .i64 0]) := by
  obtain ⟨vk, vn, vf, vs⟩ := v
  rcases good_k hg with h | h | h | h | h
  · obtain rfl : vk = 0 := h
    exact renc0 vn vf vs w hf hg
  · obtain rfl : vk = 1 := h
    exact renc1 vn vf vs w hf hg
  · obtain rfl : vk = 2 := h
    exact renc2 vn vf vs w hf hg
  · obtain rfl : vk = 3 := h
    exact renc3 vn vf vs w hf hg
  · obtain rfl : vk = 4 := h
    exact renc4 vn vf vs w hf hg

end Go.Proofs.Ytbmaeaknlpgdmaa
namespace Go.Proofs.Ytbmaeaknlpgdmaa
open Go.RowKit
def GoodL (vs : List Vl) : Prop := ∀ v ∈ vs, goodV v = true ∧ v.f < 18446744073709551616
theorem GoodL.get_ {vs : List Vl} (h : GoodL vs) {k : Nat} {x : Vl} (hx : vs[k]? = some x) : goodV x = true ∧ x.f < 18446744073709551616 := h x (List.mem_of_getElem? hx)
def catTo (s0 : ByteArray) (vs : List Vl) : ByteArray := vs.foldl (fun s v => s ++ encV v) s0
theorem catTo_snoc {s0 : ByteArray} {vs : List Vl} {k : Nat} {x : Vl} (h : vs[k]? = some x) : catTo s0 (vs.take (k + 1)) = catTo s0 (vs.take k) ++ encV x := by
  rw [take_snoc' h]; unfold catTo; rw [List.foldl_append]; rfl
theorem encV_size {v : Vl} (h : goodV v = true) : (encV v).size ≤ 259 := by
  have e1 : ∀ a, (strOfNums [a]).size = 1 := fun a => strOfNums_size _
  have e2 : ∀ a b, (strOfNums [a, b]).size = 2 := fun a b => strOfNums_size _
  have e8 := eightB_size
  unfold encV
  rcases good_k h with h0 | h0 | h0 | h0 | h0
  · rw [if_pos h0, e1]; omega
  · rw [if_neg (by omega), if_pos h0, ByteArray.size_append, e1, e1]; omega
  · rw [if_neg (by omega), if_neg (by omega), if_pos h0, ByteArray.size_append, e1, e8]; omega
  · rw [if_neg (by omega), if_neg (by omega), if_neg (by omega), if_pos h0, ByteArray.size_append, e1, e8]; omega
  · have hs : v.s.size ≤ 256 := by
      unfold goodV at h
      rw [if_neg (by omega), if_neg (by omega), if_neg (by omega), if_neg (by omega), if_pos h0] at h
      simp at h; omega
    rw [if_neg (by omega), if_neg (by omega), if_neg (by omega), if_neg (by omega), ByteArray.size_append, ByteArray.size_append, e1, e2]; omega
theorem catTo_size {s0 : ByteArray} {vs : List Vl} (h : GoodL vs) : (catTo s0 vs).size ≤ s0.size + 259 * vs.length := by
  unfold catTo
  induction vs generalizing s0 with
  | nil => simp
  | cons v vs ih =>
    have h1 := encV_size (h v List.mem_cons_self).1
    have h2 := ih (s0 := s0 ++ encV v) (fun x hx => h x (List.mem_cons_of_mem _ hx))
    rw [ByteArray.size_append] at h2
    simp only [List.foldl_cons, List.length_cons]
    omega
def encRow (vs : List Vl) : ByteArray := catTo (strOfNums [(vs.length : Int)]) vs

set_option maxRecDepth 100000 in
set_option maxHeartbeats 1000000 in
theorem row_any (A : Option Addr) (n c : Nat) (vs : List Vl) (w : World) (hr : RdV w A n vs) (hg : GoodL vs) (hn : n ≤ 6) :
    Pure Try.prog 51 #[.slice A n c] w (.tuple #[.string (encRow vs), .int .i64 0]) := by
  have HR := Lib.hid hr
  have HG := Lib.hid hg
  have E := Lib.hid (show catTo (strOfNums [(n : Int)]) (vs.take n) = encRow vs by rw [List.take_of_length_le (by rw [hr.1]; exact Nat.le_refl n)]; unfold encRow; rw [hr.1])
  have S := Lib.hid (fun k (hk : k ≤ n) => show (catTo (strOfNums [(n : Int)]) (vs.take k)).size ≤ 2000 by
    have h1 := catTo_size (s0 := strOfNums [(n : Int)]) (vs := vs.take k) (fun v hv => hg v (List.mem_of_mem_take hv))
    rw [strOfNums_size, List.length_take] at h1
    simp only [List.length_cons, List.length_nil] at h1
    omega)
  clear hr hg
  have hcv := conv1
  go_enter Try.func51, Try.ntmps51
  go_wp2
  go_loopw [4, 19] (fun s i wr => ∃ k : Nat, k ≤ n ∧ i = .int .i64 k ∧ s = .string (catTo (strOfNums [(n : Int)]) (vs.take k)) ∧ Below w.heap.size w wr) (fun _ i _ => n - (intOf i).toNat)
  case atStart => exact ⟨0, Nat.zero_le _, rfl, rfl, by (repeat (first | assumption | exact Below.refl _ _ | refine bl_drewN ?_ _ | refine bl_drew ?_ | refine bl_alloc ?_ _ | refine bl_step ?_ (by assumption)))⟩
  case round =>
    obtain ⟨k, hk, rfl, rfl, hb⟩ := hrel
    by_cases hlt : k < n
    · obtain ⟨b, o, x, hA, hx, x0, x1, x2, x3, hbo⟩ := HR.out.get_ hb hlt
      subst hA
      have Hx := Lib.hid hx
      have hs1 := S.out k hk
      have hgx := HG.out.get_ hx
      have hs2 := encV_size hgx.1
      have Hgx := Lib.hid hgx
      clear hx hgx
      go_wp2_with fail
      refine (enc_any x _ Hgx.out.2 Hgx.out.1).mono ?_
      rintro e w1 ⟨rfl, hb1⟩
      go_wp2
      go_roundw
      case rel => exact ⟨k + 1, by omega, by go_num, by rw [catTo_snoc Hx.out], by (repeat (first | assumption | exact Below.refl _ _ | refine bl_drewN ?_ _ | refine bl_drew ?_ | refine bl_alloc ?_ _ | refine bl_step ?_ (by assumption)))⟩
      case measure => simp [intOf]; omega
    · obtain rfl : k = n := by omega
      go_wp2
      go_ret2
      exact ⟨by rw [← E.out]; rfl, by (repeat (first | assumption | exact Below.refl _ _ | refine bl_drewN ?_ _ | refine bl_drew ?_ | refine bl_alloc ?_ _ | refine bl_step ?_ (by assumption)))⟩

set_option maxRecDepth 100000 in
set_option maxHeartbeats 1000000 in
theorem rrow_any (A : Option Addr) (n c : Nat) (vs : List Vl) (w : World) (hr : RdV w A n vs) (hg : GoodL vs) (hn : n ≤ 6) :
    Pure Try.prog 37 #[.slice A n c] w (.tuple #[.string (encRow vs), .int .i64 0]) := by
  have HR := Lib.hid hr
  have HG := Lib.hid hg
  have E := Lib.hid (show catTo (strOfNums [(n : Int)]) (vs.take n) = encRow vs by rw [List.take_of_length_le (by rw [hr.1]; exact Nat.le_refl n)]; unfold encRow; rw [hr.1])
  have S := Lib.hid (fun k (hk : k ≤ n) => show (catTo (strOfNums [(n : Int)]) (vs.take k)).size ≤ 2000 by
    have h1 := catTo_size (s0 := strOfNums [(n : Int)]) (vs := vs.take k) (fun v hv => hg v (List.mem_of_mem_take hv))
    rw [strOfNums_size, List.length_take] at h1
    simp only [List.length_cons, List.length_nil] at h1
    omega)
  clear hr hg
  have hcv := conv1
  go_enter Try.func37, Try.ntmps37
  go_wp2
  go_loopw [4, 5] (fun s i wr => ∃ k : Nat, k ≤ n ∧ i = .int .i64 k ∧ s = .string (catTo (strOfNums [(n : Int)]) (vs.take k)) ∧ Below w.heap.size w wr) (fun _ i _ => n - (intOf i).toNat)
  case atStart => exact ⟨0, Nat.zero_le _, rfl, rfl, by (repeat (first | assumption | exact Below.refl _ _ | refine bl_drewN ?_ _ | refine bl_drew ?_ | refine bl_alloc ?_ _ | refine bl_step ?_ (by assumption)))⟩
  case round =>
    obtain ⟨k, hk, rfl, rfl, hb⟩ := hrel
    by_cases hlt : k < n
    · obtain ⟨b, o, x, hA, hx, x0, x1, x2, x3, hbo⟩ := HR.out.get_ hb hlt
      subst hA
      have Hx := Lib.hid hx
      have hs1 := S.out k hk
      have hgx := HG.out.get_ hx
      have hs2 := encV_size hgx.1
      have Hgx := Lib.hid hgx
      clear hx hgx
      go_wp2_with fail
      refine (renc_any x _ Hgx.out.2 Hgx.out.1).mono ?_
      rintro e w1 ⟨rfl, hb1⟩
      go_wp2
      go_roundw
      case rel => exact ⟨k + 1, by omega, by go_num, by rw [catTo_snoc Hx.out], by (repeat (first | assumption | exact Below.refl _ _ | refine bl_drewN ?_ _ | refine bl_drew ?_ | refine bl_alloc ?_ _ | refine bl_step ?_ (by assumption)))⟩
      case measure => simp [intOf]; omega
    · obtain rfl : k = n := by omega
      go_wp2
      go_ret2
      exact ⟨by rw [← E.out]; rfl, by (repeat (first | assumption | exact Below.refl _ _ | refine bl_drewN ?_ _ | refine bl_drew ?_ | refine bl_alloc ?_ _ | refine bl_step ?_ (by assumption)))⟩
end Go.Proofs.Ytbmaeaknlpgdmaa
