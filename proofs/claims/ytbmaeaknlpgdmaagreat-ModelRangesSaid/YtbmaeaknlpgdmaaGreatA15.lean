/- The functions that tell whether one field of a statement is good. -/
import Derived.Test.YtbmaeaknlpgdmaaGreatA13
import Derived.Test.YtbmaeaknlpgdmaaGreatA12
namespace Go.Proofs.YtbmaeaknlpgdmaaGreat
open Go.RowKit
/-- The fields of a kind, in their order. -/
def fieldsF (k : Int) : List Fld :=
  if k = 1 then [.f] else if k = 4 then [.t, .r] else if k = 5 then [.t, .c, .v, .s, .w] else if k = 6 then [.t, .c, .v] else if k = 7 then [.t, .c, .v] else if k = 8 then [.t, .c, .v, .w]
  else if k = 9 then [.t] else if k = 10 then [.t, .d] else if k = 11 then [.t] else if k = 12 then [.t, .o] else if k = 13 then [.t, .n, .c, .f] else if k = 14 then [.t, .n] else if k = 15 then [.t]
  else if k = 16 then [.t] else if k = 17 then [.t, .n, .c, .f] else []
def kindOK (k : Int) : Bool := decide (1 ≤ k ∧ k ≤ 17)
theorem kinds17 {k : Int} (h : 1 ≤ k ∧ k ≤ 17) : k = 1 ∨ k = 2 ∨ k = 3 ∨ k = 4 ∨ k = 5 ∨ k = 6 ∨ k = 7 ∨ k = 8 ∨ k = 9 ∨ k = 10 ∨ k = 11 ∨ k = 12 ∨ k = 13 ∨ k = 14 ∨ k = 15 ∨ k = 16 ∨ k = 17 := by omega
theorem fieldsF_no {k : Int} (h : ¬ (1 ≤ k ∧ k ≤ 17)) : fieldsF k = [] := by
  unfold fieldsF
  iterate 15 rw [if_neg (by omega)]

theorem fieldsF_len (k : Int) : (fieldsF k).length ≤ 5 := by
  by_cases h : 1 ≤ k ∧ k ≤ 17
  · rcases kinds17 h with rfl | rfl | rfl | rfl | rfl | rfl | rfl | rfl | rfl | rfl | rfl | rfl | rfl | rfl | rfl | rfl | rfl <;> decide
  · rw [fieldsF_no h]; decide
abbrev St.row16 (s : St) (R C : Value) : Array Value := #[.int .i64 s.k, .string s.t, .string s.nm, .string s.c, .string s.se, .int .i64 s.v.k, .int .i64 s.v.n, .float .f64 s.v.f, .string s.v.s, .int .i64 s.w.k, .int .i64 s.w.n, .float .f64 s.w.f, .string s.w.s, R, C, .bool s.fl]

set_option maxRecDepth 100000 in
set_option maxHeartbeats 4000000 in
theorem fields_any (k : Int) (w : World) : Pure Tryz.prog 102 #[.int .i64 k] w (.tuple #[.string (pstr (fieldsF k)), .bool (kindOK k)]) := by
  go_enter Tryz.func102, Tryz.ntmps102
  go_upto_region 2 with fail
  by_cases h : 1 ≤ k ∧ k ≤ 17
  · rcases kinds17 h with rfl | rfl | rfl | rfl | rfl | rfl | rfl | rfl | rfl | rfl | rfl | rfl | rfl | rfl | rfl | rfl | rfl
    all_goals
      clear h
      go_wp2
      go_ret2
      exact ⟨rfl, by (repeat (first | assumption | exact Below.refl _ _ | refine bl_drewN ?_ _ | refine bl_drew ?_ | refine bl_alloc ?_ _ | refine bl_step ?_ (by assumption)))⟩
  · have E := Lib.hid (fieldsF_no h)
    have E2 := Lib.hid (show kindOK k = false by unfold kindOK; simp; omega)
    have h' : k < 1 ∨ 18 ≤ k := by omega
    clear h
    rcases h' with h | h
    all_goals
      go_wp2
      go_ret2
      exact ⟨by rw [E.out, E2.out]; rfl, by (repeat (first | assumption | exact Below.refl _ _ | refine bl_drewN ?_ _ | refine bl_drew ?_ | refine bl_alloc ?_ _ | refine bl_step ?_ (by assumption)))⟩

def rcode : Fld → UInt8
  | .t => 84 | .n => 78 | .c => 67 | .v => 86 | .s => 83 | .w => 87 | .r => 82 | .d => 76 | .o => 79 | .f => 70
def rstr (l : List Fld) : ByteArray := ⟨(l.map rcode).toArray⟩
theorem rstr_size (l : List Fld) : (rstr l).size = l.length := by simp [rstr, ByteArray.size]
theorem rstr_get (l : List Fld) (i : Nat) (h : i < (rstr l).size) (h' : i < l.length) : (rstr l)[i] = rcode l[i] := by
  have e : (rstr l)[i] = (rstr l).data[i]'h := rfl
  rw [e]
  simp [rstr]
set_option maxRecDepth 100000 in
set_option maxHeartbeats 4000000 in
theorem has_yes (k : Int) (w : World) (h : 1 ≤ k ∧ k ≤ 17) : Pure Tryz.prog 106 #[.int .i64 k] w (.string (rstr (fieldsF k))) := by
  rcases kinds17 h with rfl | rfl | rfl | rfl | rfl | rfl | rfl | rfl | rfl | rfl | rfl | rfl | rfl | rfl | rfl | rfl | rfl
  all_goals
    clear h
    go_enter Tryz.func106, Tryz.ntmps106
    go_wp2
    go_ret
    exact ⟨rfl, by (repeat (first | assumption | exact Below.refl _ _ | refine bl_drewN ?_ _ | refine bl_drew ?_ | refine bl_alloc ?_ _ | refine bl_step ?_ (by assumption)))⟩
set_option maxRecDepth 100000 in
set_option maxHeartbeats 4000000 in
theorem has_no (k : Int) (w : World) (h : ¬ (1 ≤ k ∧ k ≤ 17)) : Pure Tryz.prog 106 #[.int .i64 k] w (.string ByteArray.empty) := by
  have h' : k < 1 ∨ 18 ≤ k := by omega
  clear h
  rcases h' with h | h
  all_goals
    go_enter Tryz.func106, Tryz.ntmps106
    go_wp2
    go_ret
    exact ⟨rfl, by (repeat (first | assumption | exact Below.refl _ _ | refine bl_drewN ?_ _ | refine bl_drew ?_ | refine bl_alloc ?_ _ | refine bl_step ?_ (by assumption)))⟩
theorem has_any (k : Int) (w : World) : Pure Tryz.prog 106 #[.int .i64 k] w (.string (rstr (fieldsF k))) := by
  by_cases h : 1 ≤ k ∧ k ≤ 17
  · exact has_yes k w h
  · rw [fieldsF_no h]; exact has_no k w h
end Go.Proofs.YtbmaeaknlpgdmaaGreat
namespace Go.Proofs.YtbmaeaknlpgdmaaGreat
open Go.RowKit
/-- Is a field good? -/
def goodF (s : St) : Fld → Bool
  | .t => nameB s.t | .n => nameB s.nm | .c => nameB s.c | .s => nameB s.se | .v => goodV s.v | .w => goodV s.w
  | .r => decide (s.row.length ≤ 6) && s.row.all goodV
  | .d => goodCs s.cols
  | .o => decide (s.cols.length = 1) && goodCs s.cols
  | .f => true
theorem all_hit {xs : List Vl} {k : Nat} {x : Vl} (hx : xs[k]? = some x) (h : goodV x = false) : xs.all goodV = false := by
  rw [List.all_eq_false]
  exact ⟨x, List.mem_of_getElem? hx, by rw [h]; decide⟩
theorem all_none {xs : List Vl} (h : ∀ j x, j < xs.length → xs[j]? = some x → goodV x = true) : xs.all goodV = true := by
  rw [List.all_eq_true]
  intro x hx
  obtain ⟨j, hj, rfl⟩ := List.getElem_of_mem hx
  exact h j _ hj (List.getElem?_eq_getElem hj)

theorem allF_hit {xs : List Fld} {s : St} {k : Nat} {x : Fld} (hx : xs[k]? = some x) (h : goodF s x = false) : xs.all (goodF s) = false := by
  rw [List.all_eq_false]
  exact ⟨x, List.mem_of_getElem? hx, by rw [h]; decide⟩
theorem allF_none {xs : List Fld} {s : St} (h : ∀ j x, j < xs.length → xs[j]? = some x → goodF s x = true) : xs.all (goodF s) = true := by
  rw [List.all_eq_true]
  intro x hx
  obtain ⟨j, hj, rfl⟩ := List.getElem_of_mem hx
  exact h j _ hj (List.getElem?_eq_getElem hj)

set_option maxRecDepth 100000 in
theorem bad1_any (v : Vl) (w : World) : Pure Tryz.prog 149 #[v.agg] w (.bool (!goodV v)) := by
  go_enter Tryz.func149, Tryz.ntmps149
  go_wp2_with fail
  refine (good_any v _).mono ?_
  rintro e w1 ⟨rfl, hb1⟩
  go_wp2
  go_ret
  exact ⟨rfl, by (repeat (first | assumption | exact Below.refl _ _ | refine bl_drewN ?_ _ | refine bl_drew ?_ | refine bl_alloc ?_ _ | refine bl_step ?_ (by assumption)))⟩

set_option maxRecDepth 100000 in
theorem ixf_val (A : Option Addr) (n c : Nat) (xs : List Vl) (w : World) (hx : RdV w A n xs) :
    Calls Tryz.prog 186 #[.slice A n c, .func (.func 149) #[] #[]] w fun e w' => ∃ i : Int, e = .returned (.int .i64 i) ∧ decide (0 ≤ i) = (!xs.all goodV) ∧ Below w.heap.size w w' := by
  have Hl := Lib.hid hx.1
  have hxm := hx.2.1
  have HX := Lib.hid hx
  clear hx
  go_enter Tryz.func186, Tryz.ntmps186
  go_wp2
  go_loopw [8] (fun i wr => ∃ k : Nat, k ≤ n ∧ i = .int .i64 k ∧ (∀ j y, j < k → xs[j]? = some y → goodV y = true) ∧ Below w.heap.size w wr) (fun i _ => n - (intOf i).toNat)
  case atStart => exact ⟨0, Nat.zero_le _, rfl, fun j x hj => by omega, Below.refl _ _⟩
  case round =>
    obtain ⟨k, hk, rfl, hall, hb⟩ := hrel
    have Hall := Lib.hid hall
    clear hall
    by_cases hlt : k < n
    · obtain ⟨b1, o1, x, hA, hxk, x0, x1, x2, x3, hb1⟩ := HX.out.get_ hb hlt
      subst hA
      have Hxk := Lib.hid hxk
      clear hxk
      go_wp2_with fail
      refine (bad1_any x _).mono ?_
      rintro e w1 ⟨rfl, hb1⟩
      cases hv : goodV x with
      | false =>
        have H := Lib.hid (all_hit Hxk.out hv)
        clear hv x0 x1 x2 x3
        go_wp2
        go_ret
        exact ⟨k, rfl, by rw [H.out]; simp, bl_step hb hb1⟩
      | true =>
        have Hv := Lib.hid hv
        clear hv x0 x1 x2 x3
        go_wp2
        go_roundw
        case rel => exact ⟨k + 1, by omega, by go_num, fun j y hj hy => (Nat.lt_succ_iff_lt_or_eq.1 hj).elim (fun h => Hall.out j y h hy) (fun h => by subst h; rw [Hxk.out] at hy; cases hy; exact Hv.out), bl_step hb hb1⟩
        case measure => simp [intOf]; omega
    · obtain rfl : k = n := by omega
      have H := Lib.hid (all_none (fun j y hj hy => Hall.out j y (by rw [← Hl.out]; exact hj) hy))
      go_wp2
      go_ret
      exact ⟨-1, rfl, by rw [H.out]; simp, hb⟩

set_option maxRecDepth 100000 in
theorem ctf_val (A : Option Addr) (n c : Nat) (xs : List Vl) (w : World) (hx : RdV w A n xs) :
    Pure Tryz.prog 148 #[.slice A n c, .func (.func 149) #[] #[]] w (.bool (!xs.all goodV)) := by
  have HX := Lib.hid hx
  clear hx
  go_enter Tryz.func148, Tryz.ntmps148
  go_wp2_with fail
  refine (ixf_val A n c xs _ HX.out).mono ?_
  rintro e w1 ⟨i, rfl, hi, hb1⟩
  have Hi := Lib.hid hi
  clear hi
  go_wp2
  go_ret
  exact ⟨by rw [Hi.out]; rfl, by (repeat (first | assumption | exact Below.refl _ _ | refine bl_drewN ?_ _ | refine bl_drew ?_ | refine bl_alloc ?_ _ | refine bl_step ?_ (by assumption)))⟩

set_option maxRecDepth 100000 in
set_option maxHeartbeats 1000000 in
theorem clo1 (s : St) (A A' : Option Addr) (n c m d : Nat) (w : World) : Pure Tryz.prog 140 #[s.agg (.slice A n c) (.slice A' m d)] w (.bool (nameB s.t)) := by
  go_enter Tryz.func140, Tryz.ntmps140
  go_wp2_with fail
  refine (name_any s.t _).mono ?_
  rintro e w1 ⟨rfl, rfl⟩
  go_wp2
  go_ret
  exact ⟨rfl, by (repeat (first | assumption | exact Below.refl _ _ | refine bl_drewN ?_ _ | refine bl_drew ?_ | refine bl_alloc ?_ _ | refine bl_step ?_ (by assumption)))⟩
set_option maxRecDepth 100000 in
set_option maxHeartbeats 1000000 in
theorem clo2 (s : St) (A A' : Option Addr) (n c m d : Nat) (w : World) : Pure Tryz.prog 142 #[s.agg (.slice A n c) (.slice A' m d)] w (.bool (nameB s.nm)) := by
  go_enter Tryz.func142, Tryz.ntmps142
  go_wp2_with fail
  refine (name_any s.nm _).mono ?_
  rintro e w1 ⟨rfl, rfl⟩
  go_wp2
  go_ret
  exact ⟨rfl, by (repeat (first | assumption | exact Below.refl _ _ | refine bl_drewN ?_ _ | refine bl_drew ?_ | refine bl_alloc ?_ _ | refine bl_step ?_ (by assumption)))⟩
set_option maxRecDepth 100000 in
set_option maxHeartbeats 1000000 in
theorem clo3 (s : St) (A A' : Option Addr) (n c m d : Nat) (w : World) : Pure Tryz.prog 143 #[s.agg (.slice A n c) (.slice A' m d)] w (.bool (nameB s.c)) := by
  go_enter Tryz.func143, Tryz.ntmps143
  go_wp2_with fail
  refine (name_any s.c _).mono ?_
  rintro e w1 ⟨rfl, rfl⟩
  go_wp2
  go_ret
  exact ⟨rfl, by (repeat (first | assumption | exact Below.refl _ _ | refine bl_drewN ?_ _ | refine bl_drew ?_ | refine bl_alloc ?_ _ | refine bl_step ?_ (by assumption)))⟩
set_option maxRecDepth 100000 in
set_option maxHeartbeats 1000000 in
theorem clo4 (s : St) (A A' : Option Addr) (n c m d : Nat) (w : World) : Pure Tryz.prog 144 #[s.agg (.slice A n c) (.slice A' m d)] w (.bool (nameB s.se)) := by
  go_enter Tryz.func144, Tryz.ntmps144
  go_wp2_with fail
  refine (name_any s.se _).mono ?_
  rintro e w1 ⟨rfl, rfl⟩
  go_wp2
  go_ret
  exact ⟨rfl, by (repeat (first | assumption | exact Below.refl _ _ | refine bl_drewN ?_ _ | refine bl_drew ?_ | refine bl_alloc ?_ _ | refine bl_step ?_ (by assumption)))⟩
set_option maxRecDepth 100000 in
set_option maxHeartbeats 1000000 in
theorem clo5 (s : St) (A A' : Option Addr) (n c m d : Nat) (w : World) : Pure Tryz.prog 145 #[s.agg (.slice A n c) (.slice A' m d)] w (.bool (goodV s.v)) := by
  go_enter Tryz.func145, Tryz.ntmps145
  go_wp2_with fail
  refine (good_any s.v _).mono ?_
  rintro e w1 ⟨rfl, hb1⟩
  go_wp2
  go_ret
  exact ⟨rfl, by (repeat (first | assumption | exact Below.refl _ _ | refine bl_drewN ?_ _ | refine bl_drew ?_ | refine bl_alloc ?_ _ | refine bl_step ?_ (by assumption)))⟩
set_option maxRecDepth 100000 in
set_option maxHeartbeats 1000000 in
theorem clo6 (s : St) (A A' : Option Addr) (n c m d : Nat) (w : World) : Pure Tryz.prog 146 #[s.agg (.slice A n c) (.slice A' m d)] w (.bool (goodV s.w)) := by
  go_enter Tryz.func146, Tryz.ntmps146
  go_wp2_with fail
  refine (good_any s.w _).mono ?_
  rintro e w1 ⟨rfl, hb1⟩
  go_wp2
  go_ret
  exact ⟨rfl, by (repeat (first | assumption | exact Below.refl _ _ | refine bl_drewN ?_ _ | refine bl_drew ?_ | refine bl_alloc ?_ _ | refine bl_step ?_ (by assumption)))⟩
set_option maxRecDepth 100000 in
set_option maxHeartbeats 1000000 in
theorem clo7 (s : St) (A A' : Option Addr) (n c m d : Nat) (w : World) (hr : RdV w A n s.row) : Pure Tryz.prog 147 #[s.agg (.slice A n c) (.slice A' m d)] w (.bool (decide (s.row.length ≤ 6) && s.row.all goodV)) := by
  have hl := hr.1
  have HR := Lib.hid hr
  clear hr
  by_cases h6 : n ≤ 6
  · have H := Lib.hid (show (decide (s.row.length ≤ 6) && s.row.all goodV) = s.row.all goodV by rw [hl]; simp [h6])
    clear hl
    go_enter Tryz.func147, Tryz.ntmps147
    go_wp2_with fail
    refine (ctf_val A n c s.row _ (HR.out.keep (by (repeat (first | assumption | exact Below.refl _ _ | refine bl_drewN ?_ _ | refine bl_drew ?_ | refine bl_alloc ?_ _ | refine bl_step ?_ (by assumption)))))).mono ?_
    rintro e w1 ⟨rfl, hb1⟩
    go_wp2
    go_ret
    exact ⟨by rw [H.out]; rfl, by (repeat (first | assumption | exact Below.refl _ _ | refine bl_drewN ?_ _ | refine bl_drew ?_ | refine bl_alloc ?_ _ | refine bl_step ?_ (by assumption)))⟩
  · have H := Lib.hid (show (decide (s.row.length ≤ 6) && s.row.all goodV) = false by rw [hl]; simp [h6])
    clear hl
    go_enter Tryz.func147, Tryz.ntmps147
    go_wp2
    go_ret
    exact ⟨by rw [H.out]; rfl, by (repeat (first | assumption | exact Below.refl _ _ | refine bl_drewN ?_ _ | refine bl_drew ?_ | refine bl_alloc ?_ _ | refine bl_step ?_ (by assumption)))⟩
set_option maxRecDepth 100000 in
set_option maxHeartbeats 1000000 in
theorem clo8 (s : St) (A A' : Option Addr) (n c m d : Nat) (w : World) (hr : RdC w A' m s.cols) : Pure Tryz.prog 150 #[s.agg (.slice A n c) (.slice A' m d)] w (.bool (goodCs s.cols)) := by
  have HR := Lib.hid hr
  clear hr
  go_enter Tryz.func150, Tryz.ntmps150
  go_wp2_with fail
  refine (goodCs_any A' m d s.cols _ (HR.out.keep (by (repeat (first | assumption | exact Below.refl _ _ | refine bl_drewN ?_ _ | refine bl_drew ?_ | refine bl_alloc ?_ _ | refine bl_step ?_ (by assumption)))))).mono ?_
  rintro e w1 ⟨rfl, hb1⟩
  go_wp2
  go_ret
  exact ⟨rfl, by (repeat (first | assumption | exact Below.refl _ _ | refine bl_drewN ?_ _ | refine bl_drew ?_ | refine bl_alloc ?_ _ | refine bl_step ?_ (by assumption)))⟩
set_option maxRecDepth 100000 in
set_option maxHeartbeats 1000000 in
theorem clo9 (s : St) (A A' : Option Addr) (n c m d : Nat) (w : World) (hr : RdC w A' m s.cols) : Pure Tryz.prog 151 #[s.agg (.slice A n c) (.slice A' m d)] w (.bool (decide (s.cols.length = 1) && goodCs s.cols)) := by
  have hl := hr.1
  have HR := Lib.hid hr
  clear hr
  by_cases h6 : m = 1
  · subst h6
    have H := Lib.hid (show (decide (s.cols.length = 1) && goodCs s.cols) = goodCs s.cols by rw [hl]; simp)
    clear hl
    go_enter Tryz.func151, Tryz.ntmps151
    go_wp2_with fail
    refine (goodCs_any A' 1 d s.cols _ (HR.out.keep (by (repeat (first | assumption | exact Below.refl _ _ | refine bl_drewN ?_ _ | refine bl_drew ?_ | refine bl_alloc ?_ _ | refine bl_step ?_ (by assumption)))))).mono ?_
    rintro e w1 ⟨rfl, hb1⟩
    go_wp2
    go_ret
    exact ⟨by rw [H.out]; rfl, by (repeat (first | assumption | exact Below.refl _ _ | refine bl_drewN ?_ _ | refine bl_drew ?_ | refine bl_alloc ?_ _ | refine bl_step ?_ (by assumption)))⟩
  · have H := Lib.hid (show (decide (s.cols.length = 1) && goodCs s.cols) = false by rw [hl]; simp [h6])
    have h7 : ((m : Int) == 1) = false := by simp; omega
    clear hl h6
    go_enter Tryz.func151, Tryz.ntmps151
    go_wp2
    go_ret
    exact ⟨by rw [H.out]; rfl, by (repeat (first | assumption | exact Below.refl _ _ | refine bl_drewN ?_ _ | refine bl_drew ?_ | refine bl_alloc ?_ _ | refine bl_step ?_ (by assumption)))⟩
set_option maxRecDepth 100000 in
set_option maxHeartbeats 1000000 in
theorem clo10 (s : St) (A A' : Option Addr) (n c m d : Nat) (w : World) : Pure Tryz.prog 152 #[s.agg (.slice A n c) (.slice A' m d)] w (.bool true) := by
  go_enter Tryz.func152, Tryz.ntmps152
  go_wp2
  go_ret
  exact ⟨rfl, by (repeat (first | assumption | exact Below.refl _ _ | refine bl_drewN ?_ _ | refine bl_drew ?_ | refine bl_alloc ?_ _ | refine bl_step ?_ (by assumption)))⟩

/-- The function that tells of a field. -/
def gfn : Fld → FuncId
  | .t => 140 | .n => 142 | .c => 143 | .s => 144 | .v => 145 | .w => 146
  | .r => 147 | .d => 150 | .o => 151 | .f => 152
theorem clo_any (s : St) (A A' : Option Addr) (n c m d : Nat) (w : World) (hr : RdV w A n s.row) (hc : RdC w A' m s.cols) (x : Fld) : Pure Tryz.prog (gfn x) #[s.agg (.slice A n c) (.slice A' m d)] w (.bool (goodF s x)) := by
  cases x
  · exact clo1 _ _ _ _ _ _ _ _
  · exact clo2 _ _ _ _ _ _ _ _
  · exact clo3 _ _ _ _ _ _ _ _
  · exact clo4 _ _ _ _ _ _ _ _
  · exact clo5 _ _ _ _ _ _ _ _
  · exact clo6 _ _ _ _ _ _ _ _
  · exact clo7 _ _ _ _ _ _ _ _ hr
  · exact clo8 _ _ _ _ _ _ _ _ hc
  · exact clo9 _ _ _ _ _ _ _ _ hc
  · exact clo10 _ _ _ _ _ _ _ _
end Go.Proofs.YtbmaeaknlpgdmaaGreat
