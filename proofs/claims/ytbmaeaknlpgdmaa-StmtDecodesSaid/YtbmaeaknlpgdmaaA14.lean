/- The functions that tell whether one field of a statement is good. -/
import Derived.Test.YtbmaeaknlpgdmaaA10
import Derived.Test.YtbmaeaknlpgdmaaA13
namespace Go.Proofs.Ytbmaeaknlpgdmaa
open Go.RowKit
/-- Is a field good? -/
def goodF (s : St) : Fld → Bool
  | .t => nameB s.t | .n => nameB s.nm | .c => nameB s.c | .s => nameB s.se | .v => goodV s.v | .w => goodV s.w
  | .r => decide (s.row.length ≤ 6) && s.row.all goodV
  | .d => goodCs s.cols
  | .o => decide (s.cols.length = 1) && goodCs s.cols
  | .f => true
theorem all_hit {xs : List Vl} {k : Nat} {x : Vl} (hx : xs[k]? = some x) (h : goodV x = false) : xs.all goodV = false := by
  rw [List.all_eq_false]
  exact ⟨x, List.mem_of_getElem? hx, by rw [h]; decide⟩
theorem all_none {xs : List Vl} (h : ∀ j x, j < xs.length → xs[j]? = some x → goodV x = true) : xs.all goodV = true := by
  rw [List.all_eq_true]
  intro x hx
  obtain ⟨j, hj, rfl⟩ := List.getElem_of_mem hx
  exact h j _ hj (List.getElem?_eq_getElem hj)

theorem allF_hit {xs : List Fld} {s : St} {k : Nat} {x : Fld} (hx : xs[k]? = some x) (h : goodF s x = false) : xs.all (goodF s) = false := by
  rw [List.all_eq_false]
  exact ⟨x, List.mem_of_getElem? hx, by rw [h]; decide⟩
theorem allF_none {xs : List Fld} {s : St} (h : ∀ j x, j < xs.length → xs[j]? = some x → goodF s x = true) : xs.all (goodF s) = true := by
  rw [List.all_eq_true]
  intro x hx
  obtain ⟨j, hj, rfl⟩ := List.getElem_of_mem hx
  exact h j _ hj (List.getElem?_eq_getElem hj)

set_option maxRecDepth 100000 in
theorem bad1_any (v : Vl) (w : World) : Pure Try.prog 74 #[v.agg] w (.bool (!goodV v)) := by
  go_enter Try.func74, Try.ntmps74
  go_wp2_with fail
  refine (good_any v _).mono ?_
  rintro e w1 ⟨rfl, hb1⟩
  go_wp2
  go_ret
  exact ⟨rfl, by (repeat (first | assumption | exact Below.refl _ _ | refine bl_drewN ?_ _ | refine bl_drew ?_ | refine bl_alloc ?_ _ | refine bl_step ?_ (by assumption)))⟩

set_option maxRecDepth 100000 in
theorem ixf_val (A : Option Addr) (n c : Nat) (xs : List Vl) (w : World) (hx : RdV w A n xs) :
    Calls Try.prog 92 #[.slice A n c, .func (.func 74) #[] #[]] w fun e w' => ∃ i : Int, e = .returned (.int .i64 i) ∧ decide (0 ≤ i) = (!xs.all goodV) ∧ Below w.heap.size w w' := by
  have Hl := Lib.hid hx.1
  have hxm := hx.2.1
  have HX := Lib.hid hx
  clear hx
  go_enter Try.func92, Try.ntmps92
  go_wp2
  go_loopw [8] (fun i wr => ∃ k : Nat, k ≤ n ∧ i = .int .i64 k ∧ (∀ j y, j < k → xs[j]? = some y → goodV y = true) ∧ Below w.heap.size w wr) (fun i _ => n - (intOf i).toNat)
  case atStart => exact ⟨0, Nat.zero_le _, rfl, fun j x hj => by omega, Below.refl _ _⟩
  case round =>
    obtain ⟨k, hk, rfl, hall, hb⟩ := hrel
    have Hall := Lib.hid hall
    clear hall
    by_cases hlt : k < n
    · obtain ⟨b1, o1, x, hA, hxk, x0, x1, x2, x3, hb1⟩ := HX.out.get_ hb hlt
      subst hA
      have Hxk := Lib.hid hxk
      clear hxk
      go_wp2_with fail
      refine (bad1_any x _).mono ?_
      rintro e w1 ⟨rfl, hb1⟩
      cases hv : goodV x with
      | false =>
        have H := Lib.hid (all_hit Hxk.out hv)
        clear hv x0 x1 x2 x3
        go_wp2
        go_ret
        exact ⟨k, rfl, by rw [H.out]; simp, bl_step hb hb1⟩
      | true =>
        have Hv := Lib.hid hv
        clear hv x0 x1 x2 x3
        go_wp2
        go_roundw
        case rel => exact ⟨k + 1, by omega, by go_num, fun j y hj hy => (Nat.lt_succ_iff_lt_or_eq.1 hj).elim (fun h => Hall.out j y h hy) (fun h => by subst h; rw [Hxk.out] at hy; cases hy; exact Hv.out), bl_step hb hb1⟩
        case measure => simp [intOf]; omega
    · obtain rfl : k = n := by omega
      have H := Lib.hid (all_none (fun j y hj hy => Hall.out j y (by rw [← Hl.out]; exact hj) hy))
      go_wp2
      go_ret
      exact ⟨-1, rfl, by rw [H.out]; simp, hb⟩

set_option maxRecDepth 100000 in
theorem ctf_val (A : Option Addr) (n c : Nat) (xs : List Vl) (w : World) (hx : RdV w A n xs) :
    Pure Try.prog 73 #[.slice A n c, .func (.func 74) #[] #[]] w (.bool (!xs.all goodV)) := by
  have HX := Lib.hid hx
  clear hx
  go_enter Try.func73, Try.ntmps73
  go_wp2_with fail
  refine (ixf_val A n c xs _ HX.out).mono ?_
  rintro e w1 ⟨i, rfl, hi, hb1⟩
  have Hi := Lib.hid hi
  clear hi
  go_wp2
  go_ret
  exact ⟨by rw [Hi.out]; rfl, by (repeat (first | assumption | exact Below.refl _ _ | refine bl_drewN ?_ _ | refine bl_drew ?_ | refine bl_alloc ?_ _ | refine bl_step ?_ (by assumption)))⟩

set_option maxRecDepth 100000 in
set_option maxHeartbeats 1000000 in
theorem clo1 (s : St) (A A' : Option Addr) (n c m d : Nat) (w : World) : Pure Try.prog 64 #[s.agg (.slice A n c) (.slice A' m d)] w (.bool (nameB s.t)) := by
  go_enter Try.func64, Try.ntmps64
  go_wp2_with fail
  refine (name_any s.t _).mono ?_
  rintro e w1 ⟨rfl, rfl⟩
  go_wp2
  go_ret
  exact ⟨rfl, by (repeat (first | assumption | exact Below.refl _ _ | refine bl_drewN ?_ _ | refine bl_drew ?_ | refine bl_alloc ?_ _ | refine bl_step ?_ (by assumption)))⟩
set_option maxRecDepth 100000 in
set_option maxHeartbeats 1000000 in
theorem clo2 (s : St) (A A' : Option Addr) (n c m d : Nat) (w : World) : Pure Try.prog 66 #[s.agg (.slice A n c) (.slice A' m d)] w (.bool (nameB s.nm)) := by
  go_enter Try.func66, Try.ntmps66
  go_wp2_with fail
  refine (name_any s.nm _).mono ?_
  rintro e w1 ⟨rfl, rfl⟩
  go_wp2
  go_ret
  exact ⟨rfl, by (repeat (first | assumption | exact Below.refl _ _ | refine bl_drewN ?_ _ | refine bl_drew ?_ | refine bl_alloc ?_ _ | refine bl_step ?_ (by assumption)))⟩
set_option maxRecDepth 100000 in
set_option maxHeartbeats 1000000 in
theorem clo3 (s : St) (A A' : Option Addr) (n c m d : Nat) (w : World) : Pure Try.prog 67 #[s.agg (.slice A n c) (.slice A' m d)] w (.bool (nameB s.c)) := by
  go_enter Try.func67, Try.ntmps67
  go_wp2_with fail
  refine (name_any s.c _).mono ?_
  rintro e w1 ⟨rfl, rfl⟩
  go_wp2
  go_ret
  exact ⟨rfl, by (repeat (first | assumption | exact Below.refl _ _ | refine bl_drewN ?_ _ | refine bl_drew ?_ | refine bl_alloc ?_ _ | refine bl_step ?_ (by assumption)))⟩
set_option maxRecDepth 100000 in
set_option maxHeartbeats 1000000 in
theorem clo4 (s : St) (A A' : Option Addr) (n c m d : Nat) (w : World) : Pure Try.prog 68 #[s.agg (.slice A n c) (.slice A' m d)] w (.bool (nameB s.se)) := by
  go_enter Try.func68, Try.ntmps68
  go_wp2_with fail
  refine (name_any s.se _).mono ?_
  rintro e w1 ⟨rfl, rfl⟩
  go_wp2
  go_ret
  exact ⟨rfl, by (repeat (first | assumption | exact Below.refl _ _ | refine bl_drewN ?_ _ | refine bl_drew ?_ | refine bl_alloc ?_ _ | refine bl_step ?_ (by assumption)))⟩
set_option maxRecDepth 100000 in
set_option maxHeartbeats 1000000 in
theorem clo5 (s : St) (A A' : Option Addr) (n c m d : Nat) (w : World) : Pure Try.prog 69 #[s.agg (.slice A n c) (.slice A' m d)] w (.bool (goodV s.v)) := by
  go_enter Try.func69, Try.ntmps69
  go_wp2_with fail
  refine (good_any s.v _).mono ?_
  rintro e w1 ⟨rfl, hb1⟩
  go_wp2
  go_ret
  exact ⟨rfl, by (repeat (first | assumption | exact Below.refl _ _ | refine bl_drewN ?_ _ | refine bl_drew ?_ | refine bl_alloc ?_ _ | refine bl_step ?_ (by assumption)))⟩
set_option maxRecDepth 100000 in
set_option maxHeartbeats 1000000 in
theorem clo6 (s : St) (A A' : Option Addr) (n c m d : Nat) (w : World) : Pure Try.prog 71 #[s.agg (.slice A n c) (.slice A' m d)] w (.bool (goodV s.w)) := by
  go_enter Try.func71, Try.ntmps71
  go_wp2_with fail
  refine (good_any s.w _).mono ?_
  rintro e w1 ⟨rfl, hb1⟩
  go_wp2
  go_ret
  exact ⟨rfl, by (repeat (first | assumption | exact Below.refl _ _ | refine bl_drewN ?_ _ | refine bl_drew ?_ | refine bl_alloc ?_ _ | refine bl_step ?_ (by assumption)))⟩
set_option maxRecDepth 100000 in
set_option maxHeartbeats 1000000 in
theorem clo7 (s : St) (A A' : Option Addr) (n c m d : Nat) (w : World) (hr : RdV w A n s.row) : Pure Try.prog 72 #[s.agg (.slice A n c) (.slice A' m d)] w (.bool (decide (s.row.length ≤ 6) && s.row.all goodV)) := by
  have hl := hr.1
  have HR := Lib.hid hr
  clear hr
  by_cases h6 : n ≤ 6
  · have H := Lib.hid (show (decide (s.row.length ≤ 6) && s.row.all goodV) = s.row.all goodV by rw [hl]; simp [h6])
    clear hl
    go_enter Try.func72, Try.ntmps72
    go_wp2_with fail
    refine (ctf_val A n c s.row _ (HR.out.keep (by (repeat (first | assumption | exact Below.refl _ _ | refine bl_drewN ?_ _ | refine bl_drew ?_ | refine bl_alloc ?_ _ | refine bl_step ?_ (by assumption)))))).mono ?_
    rintro e w1 ⟨rfl, hb1⟩
    go_wp2
    go_ret
    exact ⟨by rw [H.out]; rfl, by (repeat (first | assumption | exact Below.refl _ _ | refine bl_drewN ?_ _ | refine bl_drew ?_ | refine bl_alloc ?_ _ | refine bl_step ?_ (by assumption)))⟩
  · have H := Lib.hid (show (decide (s.row.length ≤ 6) && s.row.all goodV) = false by rw [hl]; simp [h6])
    clear hl
    go_enter Try.func72, Try.ntmps72
    go_wp2
    go_ret
    exact ⟨by rw [H.out]; rfl, by (repeat (first | assumption | exact Below.refl _ _ | refine bl_drewN ?_ _ | refine bl_drew ?_ | refine bl_alloc ?_ _ | refine bl_step ?_ (by assumption)))⟩
set_option maxRecDepth 100000 in
set_option maxHeartbeats 1000000 in
theorem clo8 (s : St) (A A' : Option Addr) (n c m d : Nat) (w : World) (hr : RdC w A' m s.cols) : Pure Try.prog 75 #[s.agg (.slice A n c) (.slice A' m d)] w (.bool (goodCs s.cols)) := by
  have HR := Lib.hid hr
  clear hr
  go_enter Try.func75, Try.ntmps75
  go_wp2_with fail
  refine (goodCs_any A' m d s.cols _ (HR.out.keep (by (repeat (first | assumption | exact Below.refl _ _ | refine bl_drewN ?_ _ | refine bl_drew ?_ | refine bl_alloc ?_ _ | refine bl_step ?_ (by assumption)))))).mono ?_
  rintro e w1 ⟨rfl, hb1⟩
  go_wp2
  go_ret
  exact ⟨rfl, by (repeat (first | assumption | exact Below.refl _ _ | refine bl_drewN ?_ _ | refine bl_drew ?_ | refine bl_alloc ?_ _ | refine bl_step ?_ (by assumption)))⟩
set_option maxRecDepth 100000 in
set_option maxHeartbeats 1000000 in
theorem clo9 (s : St) (A A' : Option Addr) (n c m d : Nat) (w : World) (hr : RdC w A' m s.cols) : Pure Try.prog 77 #[s.agg (.slice A n c) (.slice A' m d)] w (.bool (decide (s.cols.length = 1) && goodCs s.cols)) := by
  have hl := hr.1
  have HR := Lib.hid hr
  clear hr
  by_cases h6 : m = 1
  · subst h6
    have H := Lib.hid (show (decide (s.cols.length = 1) && goodCs s.cols) = goodCs s.cols by rw [hl]; simp)
    clear hl
    go_enter Try.func77, Try.ntmps77
    go_wp2_with fail
    refine (goodCs_any A' 1 d s.cols _ (HR.out.keep (by (repeat (first | assumption | exact Below.refl _ _ | refine bl_drewN ?_ _ | refine bl_drew ?_ | refine bl_alloc ?_ _ | refine bl_step ?_ (by assumption)))))).mono ?_
    rintro e w1 ⟨rfl, hb1⟩
    go_wp2
    go_ret
    exact ⟨by rw [H.out]; rfl, by (repeat (first | assumption | exact Below.refl _ _ | refine bl_drewN ?_ _ | refine bl_drew ?_ | refine bl_alloc ?_ _ | refine bl_step ?_ (by assumption)))⟩
  · have H := Lib.hid (show (decide (s.cols.length = 1) && goodCs s.cols) = false by rw [hl]; simp [h6])
    have h7 : ((m : Int) == 1) = false := by simp; omega
    clear hl h6
    go_enter Try.func77, Try.ntmps77
    go_wp2
    go_ret
    exact ⟨by rw [H.out]; rfl, by (repeat (first | assumption | exact Below.refl _ _ | refine bl_drewN ?_ _ | refine bl_drew ?_ | refine bl_alloc ?_ _ | refine bl_step ?_ (by assumption)))⟩
set_option maxRecDepth 100000 in
set_option maxHeartbeats 1000000 in
theorem clo10 (s : St) (A A' : Option Addr) (n c m d : Nat) (w : World) : Pure Try.prog 78 #[s.agg (.slice A n c) (.slice A' m d)] w (.bool true) := by
  go_enter Try.func78, Try.ntmps78
  go_wp2
  go_ret
  exact ⟨rfl, by (repeat (first | assumption | exact Below.refl _ _ | refine bl_drewN ?_ _ | refine bl_drew ?_ | refine bl_alloc ?_ _ | refine bl_step ?_ (by assumption)))⟩

/-- The function that tells of a field. -/
def gfn : Fld → FuncId
  | .t => 64 | .n => 66 | .c => 67 | .s => 68 | .v => 69 | .w => 71
  | .r => 72 | .d => 75 | .o => 77 | .f => 78
theorem clo_any (s : St) (A A' : Option Addr) (n c m d : Nat) (w : World) (hr : RdV w A n s.row) (hc : RdC w A' m s.cols) (x : Fld) : Pure Try.prog (gfn x) #[s.agg (.slice A n c) (.slice A' m d)] w (.bool (goodF s x)) := by
  cases x
  · exact clo1 _ _ _ _ _ _ _ _
  · exact clo2 _ _ _ _ _ _ _ _
  · exact clo3 _ _ _ _ _ _ _ _
  · exact clo4 _ _ _ _ _ _ _ _
  · exact clo5 _ _ _ _ _ _ _ _
  · exact clo6 _ _ _ _ _ _ _ _
  · exact clo7 _ _ _ _ _ _ _ _ hr
  · exact clo8 _ _ _ _ _ _ _ _ hc
  · exact clo9 _ _ _ _ _ _ _ _ hc
  · exact clo10 _ _ _ _ _ _ _ _
end Go.Proofs.Ytbmaeaknlpgdmaa
