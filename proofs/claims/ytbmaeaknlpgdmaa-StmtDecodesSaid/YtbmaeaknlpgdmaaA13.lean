/- Lemmas on what the functions under this seat compute. -/
import Derived.Test.YtbmaeaknlpgdmaaA11
namespace Go.Proofs.Ytbmaeaknlpgdmaa
open Go.RowKit
/-- The fields of a kind, in their order. -/
def fieldsF (k : Int) : List Fld :=
  if k = 1 then [.f] else if k = 4 then [.t, .r] else if k = 5 then [.t, .c, .v, .s, .w] else if k = 6 then [.t, .c, .v] else if k = 7 then [.t, .c, .v] else if k = 8 then [.t, .c, .v, .w]
  else if k = 9 then [.t] else if k = 10 then [.t, .d] else if k = 11 then [.t] else if k = 12 then [.t, .o] else if k = 13 then [.t, .n, .c, .f] else if k = 14 then [.t, .n] else if k = 15 then [.t]
  else if k = 16 then [.t] else if k = 17 then [.t, .n, .c, .f] else []
def kindOK (k : Int) : Bool := decide (1 ≤ k ∧ k ≤ 17)
theorem kinds17 {k : Int} (h : 1 ≤ k ∧ k ≤ 17) : k = 1 ∨ k = 2 ∨ k = 3 ∨ k = 4 ∨ k = 5 ∨ k = 6 ∨ k = 7 ∨ k = 8 ∨ k = 9 ∨ k = 10 ∨ k = 11 ∨ k = 12 ∨ k = 13 ∨ k = 14 ∨ k = 15 ∨ k = 16 ∨ k = 17 := by omega
theorem fieldsF_no {k : Int} (h : ¬ (1 ≤ k ∧ k ≤ 17)) : fieldsF k = [] := by
  unfold fieldsF
  iterate 15 rw [if_neg (by omega)]

theorem fieldsF_len (k : Int) : (fieldsF k).length ≤ 5 := by
  by_cases h : 1 ≤ k ∧ k ≤ 17
  · rcases kinds17 h with rfl | rfl | rfl | rfl | rfl | rfl | rfl | rfl | rfl | rfl | rfl | rfl | rfl | rfl | rfl | rfl | rfl <;> decide
  · rw [fieldsF_no h]; decide
abbrev St.row16 (s : St) (R C : Value) : Array Value := #[.int .i64 s.k, .string s.t, .string s.nm, .string s.c, .string s.se, .int .i64 s.v.k, .int .i64 s.v.n, .float .f64 s.v.f, .string s.v.s, .int .i64 s.w.k, .int .i64 s.w.n, .float .f64 s.w.f, .string s.w.s, R, C, .bool s.fl]

set_option maxRecDepth 100000 in
set_option maxHeartbeats 4000000 in
theorem fields_any (k : Int) (w : World) : Pure Try.prog 25 #[.int .i64 k] w (.tuple #[.string (pstr (fieldsF k)), .bool (kindOK k)]) := by
  go_enter Try.func25, Try.ntmps25
  go_upto_region 2 with fail
  by_cases h : 1 ≤ k ∧ k ≤ 17
  · rcases kinds17 h with rfl | rfl | rfl | rfl | rfl | rfl | rfl | rfl | rfl | rfl | rfl | rfl | rfl | rfl | rfl | rfl | rfl
    all_goals
      clear h
      go_wp2
      go_ret2
      exact ⟨rfl, by (repeat (first | assumption | exact Below.refl _ _ | refine bl_drewN ?_ _ | refine bl_drew ?_ | refine bl_alloc ?_ _ | refine bl_step ?_ (by assumption)))⟩
  · have E := Lib.hid (fieldsF_no h)
    have E2 := Lib.hid (show kindOK k = false by unfold kindOK; simp; omega)
    have h' : k < 1 ∨ 18 ≤ k := by omega
    clear h
    rcases h' with h | h
    all_goals
      go_wp2
      go_ret2
      exact ⟨by rw [E.out, E2.out]; rfl, by (repeat (first | assumption | exact Below.refl _ _ | refine bl_drewN ?_ _ | refine bl_drew ?_ | refine bl_alloc ?_ _ | refine bl_step ?_ (by assumption)))⟩

def rcode : Fld → UInt8
  | .t => 84 | .n => 78 | .c => 67 | .v => 86 | .s => 83 | .w => 87 | .r => 82 | .d => 76 | .o => 79 | .f => 70
def rstr (l : List Fld) : ByteArray := ⟨(l.map rcode).toArray⟩
theorem rstr_size (l : List Fld) : (rstr l).size = l.length := by simp [rstr, ByteArray.size]
theorem rstr_get (l : List Fld) (i : Nat) (h : i < (rstr l).size) (h' : i < l.length) : (rstr l)[i] = rcode l[i] := by
  have e : (rstr l)[i] = (rstr l).data[i]'h := rfl
  rw [e]
  simp [rstr]
set_option maxRecDepth 100000 in
set_option maxHeartbeats 4000000 in
theorem has_yes (k : Int) (w : World) (h : 1 ≤ k ∧ k ≤ 17) : Pure Try.prog 34 #[.int .i64 k] w (.string (rstr (fieldsF k))) := by
  rcases kinds17 h with rfl | rfl | rfl | rfl | rfl | rfl | rfl | rfl | rfl | rfl | rfl | rfl | rfl | rfl | rfl | rfl | rfl
  all_goals
    clear h
    go_enter Try.func34, Try.ntmps34
    go_wp2
    go_ret
    exact ⟨rfl, by (repeat (first | assumption | exact Below.refl _ _ | refine bl_drewN ?_ _ | refine bl_drew ?_ | refine bl_alloc ?_ _ | refine bl_step ?_ (by assumption)))⟩
set_option maxRecDepth 100000 in
set_option maxHeartbeats 4000000 in
theorem has_no (k : Int) (w : World) (h : ¬ (1 ≤ k ∧ k ≤ 17)) : Pure Try.prog 34 #[.int .i64 k] w (.string ByteArray.empty) := by
  have h' : k < 1 ∨ 18 ≤ k := by omega
  clear h
  rcases h' with h | h
  all_goals
    go_enter Try.func34, Try.ntmps34
    go_wp2
    go_ret
    exact ⟨rfl, by (repeat (first | assumption | exact Below.refl _ _ | refine bl_drewN ?_ _ | refine bl_drew ?_ | refine bl_alloc ?_ _ | refine bl_step ?_ (by assumption)))⟩
theorem has_any (k : Int) (w : World) : Pure Try.prog 34 #[.int .i64 k] w (.string (rstr (fieldsF k))) := by
  by_cases h : 1 ≤ k ∧ k ≤ 17
  · exact has_yes k w h
  · rw [fieldsF_no h]; exact has_no k w h
end Go.Proofs.Ytbmaeaknlpgdmaa
