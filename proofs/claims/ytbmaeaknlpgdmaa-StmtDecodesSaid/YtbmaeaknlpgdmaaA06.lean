/- Lemmas on what the functions under this seat compute. -/
import Derived.Test.YtbmaeaknlpgdmaaA05
namespace Go.Proofs.Ytbmaeaknlpgdmaa
open Go.RowKit
def eqSt (a b : St) : Bool := (a.k == b.k) && (a.t.toList == b.t.toList) && (a.nm.toList == b.nm.toList) && (a.c.toList == b.c.toList) && (a.se.toList == b.se.toList) && eqV a.v b.v && eqV a.w b.w && eqVs a.row b.row && eqCs a.cols b.cols && (a.fl == b.fl)
theorem eqSt_iff (a b : St) : eqSt a b = decide (a = b) := by
  obtain ⟨a1, a2, a3, a4, a5, a6, a7, a8, a9, a10⟩ := a
  obtain ⟨b1, b2, b3, b4, b5, b6, b7, b8, b9, b10⟩ := b
  unfold eqSt eqV eqVs eqCs
  simp only [str_beq]
  rw [Bool.eq_iff_iff]
  simp [and_assoc]

set_option maxRecDepth 100000 in
set_option maxHeartbeats 4000000 in
theorem kStmt (a b : St) (A A' B B' : Option Addr) (n c n' c' m d m' d' : Nat) (w : World) (ha : RdV w A n a.row) (ha' : RdC w A' n' a.cols) (hb : RdV w B m b.row) (hb' : RdC w B' m' b.cols) :
    Pure Try.prog 12 #[a.agg (.slice A n c) (.slice A' n' c'), b.agg (.slice B m d) (.slice B' m' d')] w (.bool (eqSt a b)) := by
  have HA := Lib.hid ha
  have HA' := Lib.hid ha'
  have HB := Lib.hid hb
  have HB' := Lib.hid hb'
  clear ha ha' hb hb'
  have heb := eql_bool
  go_enter Try.func12, Try.ntmps12
  go_wp2_with fail
  all_goals try (go_ret; refine ⟨?_, by (repeat (first | assumption | exact Below.refl _ _ | refine bl_drewN ?_ _ | refine bl_drew ?_ | refine bl_alloc ?_ _ | refine bl_step ?_ (by assumption)))⟩; show Ending.returned (.bool _) = _; first | (simp_all [eqSt]; done) | (simp_all [eqSt]; omega) | (simp_all [eqSt]; intros; omega))
  refine (kValue a.v b.v _).mono ?_
  rintro e w1 ⟨rfl, hb1⟩
  have hz1 : w.heap.size + 1 < w1.heap.size := by have := hb1.size; simp at this; omega
  obtain ⟨hc1, hf1⟩ := bcell hb1
  go_wp2_with fail
  all_goals try (go_ret; refine ⟨?_, by (repeat (first | assumption | exact Below.refl _ _ | refine bl_drewN ?_ _ | refine bl_drew ?_ | refine bl_alloc ?_ _ | refine bl_step ?_ (by assumption)))⟩; show Ending.returned (.bool _) = _; first | (simp_all [eqSt]; done) | (simp_all [eqSt]; omega) | (simp_all [eqSt]; intros; omega))
  refine (kValue a.w b.w _).mono ?_
  rintro e w2 ⟨rfl, hb2⟩
  have hz2 : w.heap.size + 1 < w2.heap.size := by have := hb2.size; omega
  have hB : Below w.heap.size w w2 := by (repeat (first | assumption | exact Below.refl _ _ | refine bl_drewN ?_ _ | refine bl_drew ?_ | refine bl_alloc ?_ _ | refine bl_step ?_ (by assumption)))
  have c0 : ∀ j, w2.cell? ⟨w.heap.size, j, none⟩ = w1.cell? ⟨w.heap.size, j, none⟩ := fun j => (bcell hb2).1 _ _ (by omega)
  have c1 : ∀ j, w2.cell? ⟨w.heap.size + 1, j, none⟩ = w1.cell? ⟨w.heap.size + 1, j, none⟩ := fun j => (bcell hb2).1 _ _ (by omega)
  go_wp2_with fail
  all_goals try (go_ret; refine ⟨?_, by (repeat (first | assumption | exact Below.refl _ _ | refine bl_drewN ?_ _ | refine bl_drew ?_ | refine bl_alloc ?_ _ | refine bl_step ?_ (by assumption)))⟩; show Ending.returned (.bool _) = _; first | (simp_all [eqSt]; done) | (simp_all [eqSt]; omega) | (simp_all [eqSt]; intros; omega))
  refine (kValues A B n c m d a.row b.row _ (HA.out.keep hB) (HB.out.keep hB)).mono ?_
  rintro e w3 ⟨rfl, hb3⟩
  have hz3 : w.heap.size + 1 < w3.heap.size := by have := hb3.size; omega
  have hB3 : Below w.heap.size w w3 := by (repeat (first | assumption | exact Below.refl _ _ | refine bl_drewN ?_ _ | refine bl_drew ?_ | refine bl_alloc ?_ _ | refine bl_step ?_ (by assumption)))
  have d0 : ∀ j, w3.cell? ⟨w.heap.size, j, none⟩ = w2.cell? ⟨w.heap.size, j, none⟩ := fun j => (bcell hb3).1 _ _ (by omega)
  have d1 : ∀ j, w3.cell? ⟨w.heap.size + 1, j, none⟩ = w2.cell? ⟨w.heap.size + 1, j, none⟩ := fun j => (bcell hb3).1 _ _ (by omega)
  go_wp2_with fail
  all_goals try (go_ret; refine ⟨?_, by (repeat (first | assumption | exact Below.refl _ _ | refine bl_drewN ?_ _ | refine bl_drew ?_ | refine bl_alloc ?_ _ | refine bl_step ?_ (by assumption)))⟩; show Ending.returned (.bool _) = _; first | (simp_all [eqSt]; done) | (simp_all [eqSt]; omega) | (simp_all [eqSt]; intros; omega))
  refine (kColumns A' B' n' c' m' d' a.cols b.cols _ (HA'.out.keep hB3) (HB'.out.keep hB3)).mono ?_
  rintro e w4 ⟨rfl, hb4⟩
  have hz4 : w.heap.size + 1 < w4.heap.size := by have := hb4.size; omega
  have e0 : ∀ j, w4.cell? ⟨w.heap.size, j, none⟩ = w3.cell? ⟨w.heap.size, j, none⟩ := fun j => (bcell hb4).1 _ _ (by omega)
  have e1 : ∀ j, w4.cell? ⟨w.heap.size + 1, j, none⟩ = w3.cell? ⟨w.heap.size + 1, j, none⟩ := fun j => (bcell hb4).1 _ _ (by omega)
  go_wp2
  all_goals (go_ret; refine ⟨?_, by (repeat (first | assumption | exact Below.refl _ _ | refine bl_drewN ?_ _ | refine bl_drew ?_ | refine bl_alloc ?_ _ | refine bl_step ?_ (by assumption)))⟩; show Ending.returned (.bool _) = _; first | (simp_all [eqSt]; done) | (simp_all [eqSt]; omega) | (simp_all [eqSt]; intros; omega))
end Go.Proofs.Ytbmaeaknlpgdmaa
