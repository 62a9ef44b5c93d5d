/- Lemmas on what the functions under this seat compute. -/
import Derived.Test.YtbmaeaknlpgdmaaGreatA03
import Derived.Test.YtbmaeaknlpgdmaaGreatA04
import Derived.Test.YtbmaeaknlpgdmaaGreatA01
namespace Go.Proofs.YtbmaeaknlpgdmaaGreat
open Go.RowKit
def bareB (v : Vl) (n f s : Bool) : Bool := (n || (v.n == 0)) && (f || ((v.f : Int) == 0)) && (s || v.s.toList.isEmpty)
set_option maxRecDepth 100000 in
set_option maxHeartbeats 4000000 in
theorem bare_any (v : Vl) (n f s : Bool) (w : World) : Pure Tryz.prog 201 #[v.agg, .bool n, .bool f, .bool s] w (.bool (bareB v n f s)) := by
  have hfb := Tryz.float64bits
  obtain ⟨vk, vn, vf, vs⟩ := v
  unfold bareB
  dsimp only
  go_enter Tryz.func201, Tryz.ntmps201
  go_wp2
  all_goals
    go_ret
    refine ⟨?_, by (repeat (first | assumption | exact Below.refl _ _ | refine bl_drewN ?_ _ | refine bl_drew ?_ | refine bl_alloc ?_ _ | refine bl_step ?_ (by assumption)))⟩
    show Ending.returned (.bool _) = _
    simp_all


def nullB (v : Vl) : Bool := bareB v false false false
set_option maxRecDepth 100000 in
theorem null_any (v : Vl) (w : World) : Pure Tryz.prog 180 #[v.agg] w (.bool (bareB v false false false)) := by
  go_enter Tryz.func180, Tryz.ntmps180
  go_wp2_with (go_at_call 201; refine (bare_any v _ _ _ _).mono ?_; rintro e w1 ⟨rfl, hb⟩)
  go_ret
  exact ⟨rfl, by (repeat (first | assumption | exact Below.refl _ _ | refine bl_drewN ?_ _ | refine bl_drew ?_ | refine bl_alloc ?_ _ | refine bl_step ?_ (by assumption)))⟩

set_option maxRecDepth 100000 in
theorem int_any (v : Vl) (w : World) : Pure Tryz.prog 182 #[v.agg] w (.bool (bareB v true false false)) := by
  go_enter Tryz.func182, Tryz.ntmps182
  go_wp2_with (go_at_call 201; refine (bare_any v _ _ _ _).mono ?_; rintro e w1 ⟨rfl, hb⟩)
  go_ret
  exact ⟨rfl, by (repeat (first | assumption | exact Below.refl _ _ | refine bl_drewN ?_ _ | refine bl_drew ?_ | refine bl_alloc ?_ _ | refine bl_step ?_ (by assumption)))⟩

set_option maxRecDepth 100000 in
theorem own_bool_any (v : Vl) (w : World) : Pure Tryz.prog 181 #[v.agg] w (.bool (bareB v true false false && (v.n == 0 || v.n == 1))) := by
  go_enter Tryz.func181, Tryz.ntmps181
  go_wp2_with fail
  refine (bare_any v _ _ _ _).mono ?_
  rintro e w1 ⟨rfl, hb⟩
  obtain ⟨hc, hf⟩ := bcell hb
  have hz := hb.size
  go_wp2
  all_goals
    go_ret
    refine ⟨?_, by (repeat (first | assumption | exact Below.refl _ _ | refine bl_drewN ?_ _ | refine bl_drew ?_ | refine bl_alloc ?_ _ | refine bl_step ?_ (by assumption)))⟩
    show Ending.returned (.bool _) = _
    simp_all

set_option maxRecDepth 100000 in
theorem own_float_any (v : Vl) (w : World) : Pure Tryz.prog 183 #[v.agg] w (.bool (bareB v false true false && isF v.f)) := by
  go_enter Tryz.func183, Tryz.ntmps183
  go_wp2_with fail
  refine (bare_any v _ _ _ _).mono ?_
  rintro e w1 ⟨rfl, hb⟩
  obtain ⟨hc, hf⟩ := bcell hb
  have hz := hb.size
  go_wp2_with (go_at_call 202; refine (is_any _ _).mono ?_; rintro e w' ⟨rfl, rfl⟩)
  all_goals
    go_ret
    refine ⟨?_, by (repeat (first | assumption | exact Below.refl _ _ | refine bl_drewN ?_ _ | refine bl_drew ?_ | refine bl_alloc ?_ _ | refine bl_step ?_ (by assumption)))⟩
    show Ending.returned (.bool _) = _
    simp_all

set_option maxRecDepth 100000 in
theorem own_text_any (v : Vl) (w : World) : Pure Tryz.prog 184 #[v.agg] w (.bool (bareB v false false true && decide ((v.s.size : Int) ≤ 256))) := by
  go_enter Tryz.func184, Tryz.ntmps184
  go_wp2_with fail
  refine (bare_any v _ _ _ _).mono ?_
  rintro e w1 ⟨rfl, hb⟩
  obtain ⟨hc, hf⟩ := bcell hb
  have hz := hb.size
  go_wp2
  all_goals
    go_ret
    refine ⟨?_, by (repeat (first | assumption | exact Below.refl _ _ | refine bl_drewN ?_ _ | refine bl_drew ?_ | refine bl_alloc ?_ _ | refine bl_step ?_ (by assumption)))⟩
    show Ending.returned (.bool _) = _
    simp_all

theorem Tryz.uFmap : Tryz.prog.underlying 195 = some (.map 3 193) := by kernel_rfl
theorem Tryz.uInt : Tryz.prog.underlying 3 = some (.int .i64) := by kernel_rfl
abbrev gm : Array MapEntry := #[⟨.int .i64 0, .func (.func 180) #[] #[], 0⟩, ⟨.int .i64 1, .func (.func 181) #[] #[], 1⟩, ⟨.int .i64 2, .func (.func 182) #[] #[], 2⟩, ⟨.int .i64 3, .func (.func 183) #[] #[], 3⟩, ⟨.int .i64 4, .func (.func 184) #[] #[], 4⟩]
theorem szal (W : World) (O : Obj) : (W.alloc O).heap.size = W.heap.size + 1 := by simp
theorem gm_ins (W : World) (O : Obj) (es : Array MapEntry) (c : Nat) (k : Int) (f : Nat) (h : Instr.findNow (.int .i64) (.int .i64 k) es.toList 0 = some none) :
    (Instr.mapUpdate 195 (.map (some (W.heap.size + 1))) (.int .i64 k) (.func (.func f) #[] #[])).run Tryz.prog ((W.alloc O).alloc (.map es c)) = .ok () ((W.alloc O).alloc (.map (es.push ⟨.int .i64 k, .func (.func f) #[] #[], c⟩) (c + 1))) := by
  have h1 := run_ins_int Tryz.uFmap Tryz.uInt (W.alloc O) es c k (.func (.func f) #[] #[]) h
  rwa [szal] at h1
theorem gm_ins0 (W : World) (O : Obj) (f0 : Nat) : (Instr.mapUpdate 195 (.map (some (W.heap.size + 1))) (.int .i64 0) (.func (.func f0) #[] #[])).run Tryz.prog ((W.alloc O).alloc (.map #[] 0)) = .ok () ((W.alloc O).alloc (.map #[⟨.int .i64 0, .func (.func f0) #[] #[], 0⟩] 1)) := gm_ins W O #[] 0 0 f0 rfl
theorem gm_ins1 (W : World) (O : Obj) (f0 f1 : Nat) : (Instr.mapUpdate 195 (.map (some (W.heap.size + 1))) (.int .i64 1) (.func (.func f1) #[] #[])).run Tryz.prog ((W.alloc O).alloc (.map #[⟨.int .i64 0, .func (.func f0) #[] #[], 0⟩] 1)) = .ok () ((W.alloc O).alloc (.map #[⟨.int .i64 0, .func (.func f0) #[] #[], 0⟩, ⟨.int .i64 1, .func (.func f1) #[] #[], 1⟩] 2)) := gm_ins W O #[⟨.int .i64 0, .func (.func f0) #[] #[], 0⟩] 1 1 f1 rfl
theorem gm_ins2 (W : World) (O : Obj) (f0 f1 f2 : Nat) : (Instr.mapUpdate 195 (.map (some (W.heap.size + 1))) (.int .i64 2) (.func (.func f2) #[] #[])).run Tryz.prog ((W.alloc O).alloc (.map #[⟨.int .i64 0, .func (.func f0) #[] #[], 0⟩, ⟨.int .i64 1, .func (.func f1) #[] #[], 1⟩] 2)) = .ok () ((W.alloc O).alloc (.map #[⟨.int .i64 0, .func (.func f0) #[] #[], 0⟩, ⟨.int .i64 1, .func (.func f1) #[] #[], 1⟩, ⟨.int .i64 2, .func (.func f2) #[] #[], 2⟩] 3)) := gm_ins W O #[⟨.int .i64 0, .func (.func f0) #[] #[], 0⟩, ⟨.int .i64 1, .func (.func f1) #[] #[], 1⟩] 2 2 f2 rfl
theorem gm_ins3 (W : World) (O : Obj) (f0 f1 f2 f3 : Nat) : (Instr.mapUpdate 195 (.map (some (W.heap.size + 1))) (.int .i64 3) (.func (.func f3) #[] #[])).run Tryz.prog ((W.alloc O).alloc (.map #[⟨.int .i64 0, .func (.func f0) #[] #[], 0⟩, ⟨.int .i64 1, .func (.func f1) #[] #[], 1⟩, ⟨.int .i64 2, .func (.func f2) #[] #[], 2⟩] 3)) = .ok () ((W.alloc O).alloc (.map #[⟨.int .i64 0, .func (.func f0) #[] #[], 0⟩, ⟨.int .i64 1, .func (.func f1) #[] #[], 1⟩, ⟨.int .i64 2, .func (.func f2) #[] #[], 2⟩, ⟨.int .i64 3, .func (.func f3) #[] #[], 3⟩] 4)) := gm_ins W O #[⟨.int .i64 0, .func (.func f0) #[] #[], 0⟩, ⟨.int .i64 1, .func (.func f1) #[] #[], 1⟩, ⟨.int .i64 2, .func (.func f2) #[] #[], 2⟩] 3 3 f3 rfl
theorem gm_ins4 (W : World) (O : Obj) (f0 f1 f2 f3 f4 : Nat) : (Instr.mapUpdate 195 (.map (some (W.heap.size + 1))) (.int .i64 4) (.func (.func f4) #[] #[])).run Tryz.prog ((W.alloc O).alloc (.map #[⟨.int .i64 0, .func (.func f0) #[] #[], 0⟩, ⟨.int .i64 1, .func (.func f1) #[] #[], 1⟩, ⟨.int .i64 2, .func (.func f2) #[] #[], 2⟩, ⟨.int .i64 3, .func (.func f3) #[] #[], 3⟩] 4)) = .ok () ((W.alloc O).alloc (.map #[⟨.int .i64 0, .func (.func f0) #[] #[], 0⟩, ⟨.int .i64 1, .func (.func f1) #[] #[], 1⟩, ⟨.int .i64 2, .func (.func f2) #[] #[], 2⟩, ⟨.int .i64 3, .func (.func f3) #[] #[], 3⟩, ⟨.int .i64 4, .func (.func f4) #[] #[], 4⟩] 5)) := gm_ins W O #[⟨.int .i64 0, .func (.func f0) #[] #[], 0⟩, ⟨.int .i64 1, .func (.func f1) #[] #[], 1⟩, ⟨.int .i64 2, .func (.func f2) #[] #[], 2⟩, ⟨.int .i64 3, .func (.func f3) #[] #[], 3⟩] 4 4 f4 rfl
theorem gm_look (k : Int) (i f : Nat) (h : Instr.findNow (.int .i64) (.int .i64 k) gm.toList 0 = some (some (i, .func (.func f) #[] #[]))) (W : World) (O : Obj) :
    (Instr.lookup 195 (.map (some (W.heap.size + 1))) (.int .i64 k) false).run Tryz.prog ((W.alloc O).alloc (.map gm 5)) = .ok (.func (.func f) #[] #[]) ((W.alloc O).alloc (.map gm 5)) :=
  run_look_int Tryz.uFmap Tryz.uInt _ _ _ _ (by rw [← szal W O]; exact heap_alloc_new (W.alloc O) _) k i _ h
theorem gm_no (k : Int) (h : k < 0 ∨ 4 < k) (W : World) (O : Obj) :
    (Instr.lookup 195 (.map (some (W.heap.size + 1))) (.int .i64 k) false).run Tryz.prog ((W.alloc O).alloc (.map gm 5)) = .ok .nilFunc ((W.alloc O).alloc (.map gm 5)) :=
  run_look_none Tryz.uFmap Tryz.uInt _ _ _ _ (by rw [← szal W O]; exact heap_alloc_new (W.alloc O) _) k _ (fun w => by kernel_rfl) (by
    have h0 : (k == 0) = false := by simp; omega
    have h1 : (k == 1) = false := by simp; omega
    have h2 : (k == 2) = false := by simp; omega
    have h3 : (k == 3) = false := by simp; omega
    have h4 : (k == 4) = false := by simp; omega
    simp [Instr.findNow, Instr.sameNow, h0, h1, h2, h3, h4])

theorem fneq (f : Nat) (w : World) : (binOp .neq 193 (.func (.func f) #[] #[]) .nilFunc).run Tryz.prog w = .ok (.bool true) w := by kernel_rfl
theorem fneq0 (w : World) : (binOp .neq 193 .nilFunc .nilFunc).run Tryz.prog w = .ok (.bool false) w := by kernel_rfl

set_option maxRecDepth 100000 in
theorem good0 (vn : Int) (vf : Nat) (vs : ByteArray) (w : World) : Pure Tryz.prog 133 #[.agg #[.int .i64 0, .int .i64 vn, .float .f64 vf, .string vs]] w (.bool (bareB ⟨0, vn, vf, vs⟩ false false false)) := by
  have hmm := @run_makeMap Tryz.prog; have i0 := gm_ins0; have i1 := gm_ins1; have i2 := gm_ins2; have i3 := gm_ins3; have i4 := gm_ins4
  have hl := gm_look 0 0 _ rfl
  have hne := fneq
  go_enter Tryz.func133, Tryz.ntmps133
  go_wp2_with fail
  refine (null_any ⟨0, vn, vf, vs⟩ _).mono ?_
  rintro e w1 ⟨rfl, hb⟩
  go_wp2
  go_ret
  exact ⟨rfl, by (repeat (first | assumption | exact Below.refl _ _ | refine bl_drewN ?_ _ | refine bl_drew ?_ | refine bl_alloc ?_ _ | refine bl_step ?_ (by assumption)))⟩

set_option maxRecDepth 100000 in
theorem good1 (vn : Int) (vf : Nat) (vs : ByteArray) (w : World) : Pure Tryz.prog 133 #[.agg #[.int .i64 1, .int .i64 vn, .float .f64 vf, .string vs]] w (.bool (bareB ⟨1, vn, vf, vs⟩ true false false && (vn == 0 || vn == 1))) := by
  have hmm := @run_makeMap Tryz.prog; have i0 := gm_ins0; have i1 := gm_ins1; have i2 := gm_ins2; have i3 := gm_ins3; have i4 := gm_ins4
  have hl := gm_look 1 1 _ rfl
  have hne := fneq
  go_enter Tryz.func133, Tryz.ntmps133
  go_wp2_with fail
  refine (own_bool_any ⟨1, vn, vf, vs⟩ _).mono ?_
  rintro e w1 ⟨rfl, hb⟩
  go_wp2
  go_ret
  exact ⟨rfl, by (repeat (first | assumption | exact Below.refl _ _ | refine bl_drewN ?_ _ | refine bl_drew ?_ | refine bl_alloc ?_ _ | refine bl_step ?_ (by assumption)))⟩

set_option maxRecDepth 100000 in
theorem good2 (vn : Int) (vf : Nat) (vs : ByteArray) (w : World) : Pure Tryz.prog 133 #[.agg #[.int .i64 2, .int .i64 vn, .float .f64 vf, .string vs]] w (.bool (bareB ⟨2, vn, vf, vs⟩ true false false)) := by
  have hmm := @run_makeMap Tryz.prog; have i0 := gm_ins0; have i1 := gm_ins1; have i2 := gm_ins2; have i3 := gm_ins3; have i4 := gm_ins4
  have hl := gm_look 2 2 _ rfl
  have hne := fneq
  go_enter Tryz.func133, Tryz.ntmps133
  go_wp2_with fail
  refine (int_any ⟨2, vn, vf, vs⟩ _).mono ?_
  rintro e w1 ⟨rfl, hb⟩
  go_wp2
  go_ret
  exact ⟨rfl, by (repeat (first | assumption | exact Below.refl _ _ | refine bl_drewN ?_ _ | refine bl_drew ?_ | refine bl_alloc ?_ _ | refine bl_step ?_ (by assumption)))⟩

set_option maxRecDepth 100000 in
theorem good3 (vn : Int) (vf : Nat) (vs : ByteArray) (w : World) : Pure Tryz.prog 133 #[.agg #[.int .i64 3, .int .i64 vn, .float .f64 vf, .string vs]] w (.bool (bareB ⟨3, vn, vf, vs⟩ false true false && isF vf)) := by
  have hmm := @run_makeMap Tryz.prog; have i0 := gm_ins0; have i1 := gm_ins1; have i2 := gm_ins2; have i3 := gm_ins3; have i4 := gm_ins4
  have hl := gm_look 3 3 _ rfl
  have hne := fneq
  go_enter Tryz.func133, Tryz.ntmps133
  go_wp2_with fail
  refine (own_float_any ⟨3, vn, vf, vs⟩ _).mono ?_
  rintro e w1 ⟨rfl, hb⟩
  go_wp2
  go_ret
  exact ⟨rfl, by (repeat (first | assumption | exact Below.refl _ _ | refine bl_drewN ?_ _ | refine bl_drew ?_ | refine bl_alloc ?_ _ | refine bl_step ?_ (by assumption)))⟩

set_option maxRecDepth 100000 in
theorem good4 (vn : Int) (vf : Nat) (vs : ByteArray) (w : World) : Pure Tryz.prog 133 #[.agg #[.int .i64 4, .int .i64 vn, .float .f64 vf, .string vs]] w (.bool (bareB ⟨4, vn, vf, vs⟩ false false true && decide ((vs.size : Int) ≤ 256))) := by
  have hmm := @run_makeMap Tryz.prog; have i0 := gm_ins0; have i1 := gm_ins1; have i2 := gm_ins2; have i3 := gm_ins3; have i4 := gm_ins4
  have hl := gm_look 4 4 _ rfl
  have hne := fneq
  go_enter Tryz.func133, Tryz.ntmps133
  go_wp2_with fail
  refine (own_text_any ⟨4, vn, vf, vs⟩ _).mono ?_
  rintro e w1 ⟨rfl, hb⟩
  go_wp2
  go_ret
  exact ⟨rfl, by (repeat (first | assumption | exact Below.refl _ _ | refine bl_drewN ?_ _ | refine bl_drew ?_ | refine bl_alloc ?_ _ | refine bl_step ?_ (by assumption)))⟩

set_option maxRecDepth 100000 in
theorem good_no (vk vn : Int) (vf : Nat) (vs : ByteArray) (w : World) (h : vk < 0 ∨ 4 < vk) : Pure Tryz.prog 133 #[.agg #[.int .i64 vk, .int .i64 vn, .float .f64 vf, .string vs]] w (.bool false) := by
  have hmm := @run_makeMap Tryz.prog; have i0 := gm_ins0; have i1 := gm_ins1; have i2 := gm_ins2; have i3 := gm_ins3; have i4 := gm_ins4
  have hl := gm_no vk h
  have hne := fneq0
  clear h
  go_enter Tryz.func133, Tryz.ntmps133
  go_wp2
  go_ret
  exact ⟨rfl, by (repeat (first | assumption | exact Below.refl _ _ | refine bl_drewN ?_ _ | refine bl_drew ?_ | refine bl_alloc ?_ _ | refine bl_step ?_ (by assumption)))⟩

/-- Is a value good? -/
def goodV (v : Vl) : Bool :=
  if v.k = 0 then bareB v false false false else if v.k = 1 then bareB v true false false && (v.n == 0 || v.n == 1) else if v.k = 2 then bareB v true false false
  else if v.k = 3 then bareB v false true false && isF v.f else if v.k = 4 then bareB v false false true && decide ((v.s.size : Int) ≤ 256) else false

theorem kinds5 (k : Int) : k = 0 ∨ k = 1 ∨ k = 2 ∨ k = 3 ∨ k = 4 ∨ (k < 0 ∨ 4 < k) := by omega
theorem good_any (v : Vl) (w : World) : Pure Tryz.prog 133 #[v.agg] w (.bool (goodV v)) := by
  obtain ⟨vk, vn, vf, vs⟩ := v
  rcases kinds5 vk with rfl | rfl | rfl | rfl | rfl | h
  · exact good0 vn vf vs w
  · exact good1 vn vf vs w
  · exact good2 vn vf vs w
  · exact good3 vn vf vs w
  · exact good4 vn vf vs w
  · have e : goodV ⟨vk, vn, vf, vs⟩ = false := by
      unfold goodV; dsimp only
      rw [if_neg (by omega), if_neg (by omega), if_neg (by omega), if_neg (by omega), if_neg (by omega)]
    rw [e]
    exact good_no vk vn vf vs w h
end Go.Proofs.YtbmaeaknlpgdmaaGreat
namespace Go.Proofs.YtbmaeaknlpgdmaaGreat
open Go.RowKit
set_option maxRecDepth 100000 in
theorem plain_any (f : Nat) (w : World) : Calls Tryz.prog 153 #[.float .f64 f] w fun e w' => e = .returned (.bool ((f : Int) == 0)) ∧ w = w' := by
  have hfb := Tryz.float64bits
  go_enter Tryz.func153, Tryz.ntmps153
  go_wp2
  go_ret
  exact ⟨rfl, rfl⟩

theorem rgood_no (vk vn : Int) (vf : Nat) (vs : ByteArray) (w : World) (h : vk < 0 ∨ 4 < vk) : Pure Tryz.prog 108 #[.agg #[.int .i64 vk, .int .i64 vn, .float .f64 vf, .string vs]] w (.bool false) := by
  have h0 : (vk == 0) = false := by simp; omega
  have h1 : (vk == 1) = false := by simp; omega
  have h2 : (vk == 2) = false := by simp; omega
  have h3 : (vk == 3) = false := by simp; omega
  have h4 : (vk == 4) = false := by simp; omega
  clear h
  go_enter Tryz.func108, Tryz.ntmps108
  go_wp2
  go_ret
  exact ⟨rfl, by (repeat (first | assumption | exact Below.refl _ _ | refine bl_drewN ?_ _ | refine bl_drew ?_ | refine bl_alloc ?_ _ | refine bl_step ?_ (by assumption)))⟩

set_option maxRecDepth 100000 in
set_option maxHeartbeats 1000000 in
theorem rgood0 (vn : Int) (vf : Nat) (vs : ByteArray) (w : World) : Pure Tryz.prog 108 #[.agg #[.int .i64 0, .int .i64 vn, .float .f64 vf, .string vs]] w (.bool (goodV ⟨0, vn, vf, vs⟩)) := by
  go_enter Tryz.func108, Tryz.ntmps108
  go_wp2_with (first | (go_at_call 153; refine (plain_any _ _).mono ?_; rintro e w' ⟨rfl, rfl⟩) | (go_at_call 154; refine (ris_any _ _).mono ?_; rintro e w' ⟨rfl, rfl⟩))
  all_goals
    go_ret
    refine ⟨?_, by (repeat (first | assumption | exact Below.refl _ _ | refine bl_drewN ?_ _ | refine bl_drew ?_ | refine bl_alloc ?_ _ | refine bl_step ?_ (by assumption)))⟩
    show Ending.returned (.bool _) = _
    simp_all [goodV, bareB]

set_option maxRecDepth 100000 in
set_option maxHeartbeats 1000000 in
theorem rgood1 (vn : Int) (vf : Nat) (vs : ByteArray) (w : World) : Pure Tryz.prog 108 #[.agg #[.int .i64 1, .int .i64 vn, .float .f64 vf, .string vs]] w (.bool (goodV ⟨1, vn, vf, vs⟩)) := by
  go_enter Tryz.func108, Tryz.ntmps108
  go_wp2_with (first | (go_at_call 153; refine (plain_any _ _).mono ?_; rintro e w' ⟨rfl, rfl⟩) | (go_at_call 154; refine (ris_any _ _).mono ?_; rintro e w' ⟨rfl, rfl⟩))
  all_goals
    go_ret
    refine ⟨?_, by (repeat (first | assumption | exact Below.refl _ _ | refine bl_drewN ?_ _ | refine bl_drew ?_ | refine bl_alloc ?_ _ | refine bl_step ?_ (by assumption)))⟩
    show Ending.returned (.bool _) = _
    simp_all [goodV, bareB]

set_option maxRecDepth 100000 in
set_option maxHeartbeats 1000000 in
theorem rgood2 (vn : Int) (vf : Nat) (vs : ByteArray) (w : World) : Pure Tryz.prog 108 #[.agg #[.int .i64 2, .int .i64 vn, .float .f64 vf, .string vs]] w (.bool (goodV ⟨2, vn, vf, vs⟩)) := by
  go_enter Tryz.func108, Tryz.ntmps108
  go_wp2_with (first | (go_at_call 153; refine (plain_any _ _).mono ?_; rintro e w' ⟨rfl, rfl⟩) | (go_at_call 154; refine (ris_any _ _).mono ?_; rintro e w' ⟨rfl, rfl⟩))
  all_goals
    go_ret
    refine ⟨?_, by (repeat (first | assumption | exact Below.refl _ _ | refine bl_drewN ?_ _ | refine bl_drew ?_ | refine bl_alloc ?_ _ | refine bl_step ?_ (by assumption)))⟩
    show Ending.returned (.bool _) = _
    simp_all [goodV, bareB]

set_option maxRecDepth 100000 in
set_option maxHeartbeats 1000000 in
theorem rgood3 (vn : Int) (vf : Nat) (vs : ByteArray) (w : World) : Pure Tryz.prog 108 #[.agg #[.int .i64 3, .int .i64 vn, .float .f64 vf, .string vs]] w (.bool (goodV ⟨3, vn, vf, vs⟩)) := by
  go_enter Tryz.func108, Tryz.ntmps108
  go_wp2_with (first | (go_at_call 153; refine (plain_any _ _).mono ?_; rintro e w' ⟨rfl, rfl⟩) | (go_at_call 154; refine (ris_any _ _).mono ?_; rintro e w' ⟨rfl, rfl⟩))
  all_goals
    go_ret
    refine ⟨?_, by (repeat (first | assumption | exact Below.refl _ _ | refine bl_drewN ?_ _ | refine bl_drew ?_ | refine bl_alloc ?_ _ | refine bl_step ?_ (by assumption)))⟩
    show Ending.returned (.bool _) = _
    simp_all [goodV, bareB]

set_option maxRecDepth 100000 in
set_option maxHeartbeats 1000000 in
theorem rgood4 (vn : Int) (vf : Nat) (vs : ByteArray) (w : World) : Pure Tryz.prog 108 #[.agg #[.int .i64 4, .int .i64 vn, .float .f64 vf, .string vs]] w (.bool (goodV ⟨4, vn, vf, vs⟩)) := by
  go_enter Tryz.func108, Tryz.ntmps108
  go_wp2_with (first | (go_at_call 153; refine (plain_any _ _).mono ?_; rintro e w' ⟨rfl, rfl⟩) | (go_at_call 154; refine (ris_any _ _).mono ?_; rintro e w' ⟨rfl, rfl⟩))
  all_goals
    go_ret
    refine ⟨?_, by (repeat (first | assumption | exact Below.refl _ _ | refine bl_drewN ?_ _ | refine bl_drew ?_ | refine bl_alloc ?_ _ | refine bl_step ?_ (by assumption)))⟩
    show Ending.returned (.bool _) = _
    simp_all [goodV, bareB]

theorem rgood_any (v : Vl) (w : World) : Pure Tryz.prog 108 #[v.agg] w (.bool (goodV v)) := by
  obtain ⟨vk, vn, vf, vs⟩ := v
  rcases kinds5 vk with rfl | rfl | rfl | rfl | rfl | h
  · exact rgood0 vn vf vs w
  · exact rgood1 vn vf vs w
  · exact rgood2 vn vf vs w
  · exact rgood3 vn vf vs w
  · exact rgood4 vn vf vs w
  · have e : goodV ⟨vk, vn, vf, vs⟩ = false := by
      unfold goodV; dsimp only
      rw [if_neg (by omega), if_neg (by omega), if_neg (by omega), if_neg (by omega), if_neg (by omega)]
    rw [e]
    exact rgood_no vk vn vf vs w h
end Go.Proofs.YtbmaeaknlpgdmaaGreat
