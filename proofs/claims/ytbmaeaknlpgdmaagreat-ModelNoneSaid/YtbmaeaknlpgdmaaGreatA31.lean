/- ModelNone answers true. -/
import Derived.Test.YtbmaeaknlpgdmaaGreatA29
import Derived.Test.YtbmaeaknlpgdmaaGreatA30
namespace Go.Proofs.YtbmaeaknlpgdmaaGreat
open Go.RowKit Go.Sort Go.Lib
set_option linter.unusedVariables false
set_option linter.unusedSimpArgs false
set_option maxRecDepth 100000 in
theorem copy_nil (w : World) : Calls Tryz.prog 30 #[.pointer none] w fun e w' => e = .returned (.pointer none) ∧ w = w' := by
  go_enter Tryz.func30, Tryz.ntmps30
  go_wp2
  go_ret
  exact ⟨rfl, rfl⟩
set_option maxRecDepth 100000 in
theorem tables_nil (w : World) : Calls Tryz.prog 33 #[.pointer none] w fun e w' => e = .returned (.slice none 0 0) ∧ w = w' := by
  go_enter Tryz.func33, Tryz.ntmps33
  go_wp2
  go_ret
  exact ⟨rfl, rfl⟩
set_option maxRecDepth 100000 in
theorem rows_nil (s : ByteArray) (w : World) : Calls Tryz.prog 25 #[.pointer none, .string s] w fun e w' => e = .returned (.slice none 0 0) ∧ Below w.heap.size w w' := by
  go_enter Tryz.func25, Tryz.ntmps25
  go_wp2
  go_ret
  exact ⟨rfl, by (repeat (first | assumption | exact Below.refl _ _ | refine bl_drewN ?_ _ | refine bl_drew ?_ | refine bl_alloc ?_ _ | refine bl_step ?_ (by assumption)))⟩
set_option maxRecDepth 100000 in
theorem indexes_nil (s : ByteArray) (w : World) : Calls Tryz.prog 26 #[.pointer none, .string s] w fun e w' => e = .returned (.slice none 0 0) ∧ Below w.heap.size w w' := by
  go_enter Tryz.func26, Tryz.ntmps26
  go_wp2
  go_ret
  exact ⟨rfl, by (repeat (first | assumption | exact Below.refl _ _ | refine bl_drewN ?_ _ | refine bl_drew ?_ | refine bl_alloc ?_ _ | refine bl_step ?_ (by assumption)))⟩
set_option maxRecDepth 100000 in
theorem same_nil (w : World) : Pure Tryz.prog 29 #[.pointer none, .pointer none] w (.bool true) := by
  go_enter Tryz.func29, Tryz.ntmps29
  go_wp2
  go_ret
  exact ⟨rfl, by (repeat (first | assumption | exact Below.refl _ _ | refine bl_drewN ?_ _ | refine bl_drew ?_ | refine bl_alloc ?_ _ | refine bl_step ?_ (by assumption)))⟩
set_option maxRecDepth 100000 in
theorem same_nil1 (m : Nat) (w : World) : Pure Tryz.prog 29 #[.pointer none, .pointer (some ⟨m, 0, none⟩)] w (.bool false) := by
  have heq : ∀ w, (binOp .eql 25 (.pointer none) (.pointer (some ⟨m, 0, none⟩))).run Tryz.prog w = .ok (.bool false) w := fun w => by kernel_rfl
  go_enter Tryz.func29, Tryz.ntmps29
  go_wp2
  go_ret
  exact ⟨rfl, by (repeat (first | assumption | exact Below.refl _ _ | refine bl_drewN ?_ _ | refine bl_drew ?_ | refine bl_alloc ?_ _ | refine bl_step ?_ (by assumption)))⟩
set_option maxRecDepth 100000 in
set_option maxHeartbeats 4000000 in
theorem mnone_any (s : St) (A A' : Option Addr) (n c mc d : Nat) (w : World) (hr : RdV w A n s.row) (hc : RdC w A' mc s.cols) : Pure Tryz.prog 7 #[s.agg (.slice A n c) (.slice A' mc d)] w (.bool true) := by
  have HR := Lib.hid hr
  have HC := Lib.hid hc
  clear hr hc
  go_enter Tryz.func7, Tryz.ntmps7
  go_upto_region 1 with fail
  have P0 := blk_new w (.cells (s.row16 (.slice A n c) (.slice A' mc d)) 37)
  have PL : Below w.heap.size w (w.alloc (.cells (s.row16 (.slice A n c) (.slice A' mc d)) 37)) := by (repeat (first | assumption | exact Below.refl _ _ | refine bl_drewN ?_ _ | refine bl_drew ?_ | refine bl_alloc ?_ _ | refine bl_step ?_ (by assumption)))
  generalize w.alloc (.cells (s.row16 (.slice A n c) (.slice A' mc d)) 37) = W0 at P0 PL ⊢
  have H0 := Lib.hid P0
  have HL0 := Lib.hid PL
  clear P0 PL
  go_wp2_with (refine wpl_load16 rfl _ rfl _ rfl rfl H0.out ?_)
  go_wp2_with fail
  refine (largeSt_any s A A' n c mc d _ (HR.out.keep HL0.out) (HC.out.keep HL0.out)).mono ?_
  rintro e w1 ⟨rfl, hb1⟩
  have H1 := Lib.hid (blk_below H0.out hb1)
  have HL1 := Lib.hid (bl_step HL0.out hb1)
  clear hb1
  cases largeSt s with
  | true =>
    go_wp2_with fail
    refine (wakes_any _).mono ?_
    rintro e w2 ⟨rfl, hb2⟩
    have hh := bl_step HL1.out hb2
    clear hb2
    go_wp2
    go_ret
    exact ⟨rfl, hh⟩
  | false =>
    have fl0 := fld0
    go_wp2_with (refine wpl_load16 rfl _ rfl _ rfl rfl H1.out ?_)
    go_wp2_with fail
    refine (do_nil s _ _ _).mono ?_
    rintro e w2 ⟨rfl, hb2⟩
    have HL2 := Lib.hid (bl_step HL1.out hb2)
    clear hb2
    dsimp only [replyV]
    go_wp2_with fail
    refine (copy_nil _).mono ?_
    rintro e w3 ⟨rfl, rfl⟩
    go_wp2_with fail
    refine (tables_nil _).mono ?_
    rintro e w3 ⟨rfl, rfl⟩
    go_wp2_with fail
    refine (rows_nil _ _).mono ?_
    rintro e w3 ⟨rfl, hb3⟩
    have HL3 := Lib.hid (bl_step HL2.out hb3)
    clear hb3
    go_wp2_with fail
    refine (indexes_nil _ _).mono ?_
    rintro e w4 ⟨rfl, hb4⟩
    have HL4 := Lib.hid (bl_step HL3.out hb4)
    clear hb4
    go_wp2_with fail
    refine (same_nil _).mono ?_
    rintro e w5 ⟨rfl, hb5⟩
    have HL5 := Lib.hid (bl_step HL4.out hb5)
    clear hb5
    go_wp2_with fail
    refine (new_any _).mono ?_
    rintro e w6 ⟨m, rfl, _, _, hb6⟩
    have HL6 := Lib.hid (bl_step HL5.out hb6)
    clear hb6
    go_wp2_with fail
    refine (same_nil1 m _).mono ?_
    rintro e w7 ⟨rfl, hb7⟩
    have HL7 := Lib.hid (bl_step HL6.out hb7)
    clear hb7
    go_wp2_with fail
    refine (wakes_any _).mono ?_
    rintro e w8 ⟨rfl, hb8⟩
    have hh := bl_step HL7.out hb8
    clear hb8
    go_wp2
    go_ret
    exact ⟨rfl, hh⟩
end Go.Proofs.YtbmaeaknlpgdmaaGreat
