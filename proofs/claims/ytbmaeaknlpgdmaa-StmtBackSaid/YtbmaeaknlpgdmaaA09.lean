/- Lemmas on what the functions under this seat compute. -/
import Derived.Test.YtbmaeaknlpgdmaaA05
namespace Go.Proofs.Ytbmaeaknlpgdmaa
open Go.RowKit
def largeV (v : Vl) : Bool := decide (2000 < (v.s.size : Int))
def largeC (c : Cl) : Bool := decide (1000 < (c.name.size : Int)) || largeV c.d
def largeR (l : List Vl) : Bool := decide (50 < (l.length : Int)) || l.any largeV
def largeCs (l : List Cl) : Bool := decide (50 < (l.length : Int)) || l.any largeC
def largeSt (s : St) : Bool := decide (1000 < (s.t.size : Int)) || decide (1000 < (s.nm.size : Int)) || decide (1000 < (s.c.size : Int)) || decide (1000 < (s.se.size : Int)) || largeV s.v || largeV s.w || largeR s.row || largeCs s.cols

set_option maxRecDepth 100000 in
theorem largeV_any (v : Vl) (w : World) : Pure Try.prog 22 #[v.agg] w (.bool (largeV v)) := by
  go_enter Try.func22, Try.ntmps22
  go_wp2
  go_ret
  exact ⟨rfl, by (repeat (first | assumption | exact Below.refl _ _ | refine bl_drewN ?_ _ | refine bl_drew ?_ | refine bl_alloc ?_ _ | refine bl_step ?_ (by assumption)))⟩

theorem any_yes {α : Type} {p : α → Bool} {xs : List α} {k : Nat} {x : α} (h : xs[k]? = some x) (hp : p x = true) : xs.any p = true := List.any_eq_true.2 ⟨x, List.mem_of_getElem? h, hp⟩
theorem any_no {α : Type} {p : α → Bool} {xs : List α} (h : ∀ j x, j < xs.length → xs[j]? = some x → p x = false) : xs.any p = false := by
  rw [List.any_eq_false]
  intro x hx
  obtain ⟨j, hj, rfl⟩ := List.getElem_of_mem hx
  rw [h j _ hj (List.getElem?_eq_getElem hj)]; simp

set_option maxRecDepth 100000 in
theorem largeR_any (A : Option Addr) (n c : Nat) (xs : List Vl) (w : World) (hx : RdV w A n xs) : Pure Try.prog 23 #[.slice A n c] w (.bool (largeR xs)) := by
  have hl := hx.1
  have hxm := hx.2.1
  by_cases hn : 50 < n
  · have H := Lib.hid (show largeR xs = true by unfold largeR; rw [hl]; simp; omega)
    clear hl hx
    go_enter Try.func23, Try.ntmps23
    go_wp2
    go_ret
    exact ⟨by rw [H.out]; rfl, by (repeat (first | assumption | exact Below.refl _ _ | refine bl_drewN ?_ _ | refine bl_drew ?_ | refine bl_alloc ?_ _ | refine bl_step ?_ (by assumption)))⟩
  · have Hl := Lib.hid hl
    have HX := Lib.hid hx
    have hr : largeR xs = xs.any largeV := by unfold largeR; rw [hl]; have : decide (50 < (n : Int)) = false := by simp; omega
                                              rw [this, Bool.false_or]
    have HR := Lib.hid hr
    clear hl hx hr
    go_enter Try.func23, Try.ntmps23
    go_wp2
    go_loopw [3] (fun i wr => ∃ k : Nat, k ≤ n ∧ i = .int .i64 k ∧ (∀ j x, j < k → xs[j]? = some x → largeV x = false) ∧ Below w.heap.size w wr) (fun i _ => n - (intOf i).toNat)
    case atStart => exact ⟨0, Nat.zero_le _, rfl, fun j x hj => by omega, Below.refl _ _⟩
    case round =>
      obtain ⟨k, hk, rfl, hall, hb⟩ := hrel
      have Hall := Lib.hid hall
      clear hall
      by_cases hlt : k < n
      · obtain ⟨b1, o1, x, hA, hxk, x0, x1, x2, x3, hb1⟩ := HX.out.get_ hb hlt
        subst hA
        have Hxk := Lib.hid hxk
        clear hxk
        go_wp2_with fail
        refine (largeV_any x _).mono ?_
        rintro e w1 ⟨rfl, hb1⟩
        cases hv : largeV x with
        | true =>
          have H := Lib.hid (HR.out.trans (any_yes Hxk.out hv))
          clear hv x0 x1 x2 x3
          go_wp2
          go_ret
          exact ⟨by rw [H.out]; rfl, bl_step hb hb1⟩
        | false =>
          have Hv := Lib.hid hv
          clear hv x0 x1 x2 x3
          go_wp2
          go_roundw
          case rel => exact ⟨k + 1, by omega, by go_num, fun j y hj hy => (Nat.lt_succ_iff_lt_or_eq.1 hj).elim (fun h => Hall.out j y h hy) (fun h => by subst h; rw [Hxk.out] at hy; cases hy; exact Hv.out), bl_step hb hb1⟩
          case measure => simp [intOf]; omega
      · obtain rfl : k = n := by omega
        have H := Lib.hid (HR.out.trans (any_no (fun j x hj hx => Hall.out j x (by rw [← Hl.out]; exact hj) hx)))
        go_wp2
        go_ret
        exact ⟨by rw [H.out]; rfl, hb⟩

set_option maxRecDepth 100000 in
set_option maxHeartbeats 1000000 in
theorem largeCs_any (A : Option Addr) (n c : Nat) (xs : List Cl) (w : World) (hx : RdC w A n xs) : Pure Try.prog 24 #[.slice A n c] w (.bool (largeCs xs)) := by
  have hl := hx.1
  have hxm := hx.2.1
  by_cases hn : 50 < n
  · have H := Lib.hid (show largeCs xs = true by unfold largeCs; rw [hl]; simp; omega)
    clear hl hx
    go_enter Try.func24, Try.ntmps24
    go_wp2
    go_ret
    exact ⟨by rw [H.out]; rfl, by (repeat (first | assumption | exact Below.refl _ _ | refine bl_drewN ?_ _ | refine bl_drew ?_ | refine bl_alloc ?_ _ | refine bl_step ?_ (by assumption)))⟩
  · have Hl := Lib.hid hl
    have HX := Lib.hid hx
    have hr : largeCs xs = xs.any largeC := by unfold largeCs; rw [hl]; have : decide (50 < (n : Int)) = false := by simp; omega
                                               rw [this, Bool.false_or]
    have HR := Lib.hid hr
    clear hl hx hr
    go_enter Try.func24, Try.ntmps24
    go_wp2
    go_loopw [3] (fun i wr => ∃ k : Nat, k ≤ n ∧ i = .int .i64 k ∧ (∀ j x, j < k → xs[j]? = some x → largeC x = false) ∧ Below w.heap.size w wr) (fun i _ => n - (intOf i).toNat)
    case atStart => exact ⟨0, Nat.zero_le _, rfl, fun j x hj => by omega, Below.refl _ _⟩
    case round =>
      obtain ⟨k, hk, rfl, hall, hb⟩ := hrel
      have Hall := Lib.hid hall
      clear hall
      by_cases hlt : k < n
      · obtain ⟨b1, o1, x, hA, hxk, x0, x1, x2, x3, x4, x5, x6, hb1⟩ := HX.out.get_ hb hlt
        subst hA
        have Hxk := Lib.hid hxk
        clear hxk
        by_cases hnm : 1000 < x.name.size
        · have H := Lib.hid (HR.out.trans (any_yes Hxk.out (by unfold largeC; simp; omega)))
          go_wp2
          go_ret
          exact ⟨by rw [H.out]; rfl, by (repeat (first | assumption | exact Below.refl _ _ | refine bl_drewN ?_ _ | refine bl_drew ?_ | refine bl_alloc ?_ _ | refine bl_step ?_ (by assumption)))⟩
        · have hc : largeC x = largeV x.d := by unfold largeC; have : decide (1000 < (x.name.size : Int)) = false := by simp; omega
                                                rw [this, Bool.false_or]
          have Hc := Lib.hid hc
          clear hc
          go_wp2_with fail
          refine (largeV_any x.d _).mono ?_
          rintro e w1 ⟨rfl, hb1⟩
          cases hv : largeV x.d with
          | true =>
            have H := Lib.hid (HR.out.trans (any_yes Hxk.out (Hc.out.trans hv)))
            clear hv x0 x1 x2 x3
            go_wp2
            go_ret
            exact ⟨by rw [H.out]; rfl, bl_step hb hb1⟩
          | false =>
            have Hv := Lib.hid (Hc.out.trans hv)
            clear hv x0 x1 x2 x3
            go_wp2
            go_roundw
            case rel => exact ⟨k + 1, by omega, by go_num, fun j y hj hy => (Nat.lt_succ_iff_lt_or_eq.1 hj).elim (fun h => Hall.out j y h hy) (fun h => by subst h; rw [Hxk.out] at hy; cases hy; exact Hv.out), bl_step hb hb1⟩
            case measure => simp [intOf]; omega
      · obtain rfl : k = n := by omega
        have H := Lib.hid (HR.out.trans (any_no (fun j x hj hx => Hall.out j x (by rw [← Hl.out]; exact hj) hx)))
        go_wp2
        go_ret
        exact ⟨by rw [H.out]; rfl, hb⟩

set_option maxRecDepth 100000 in
set_option maxHeartbeats 4000000 in
theorem largeSt_any (s : St) (A A' : Option Addr) (n c m d : Nat) (w : World) (hr : RdV w A n s.row) (hc : RdC w A' m s.cols) : Pure Try.prog 7 #[s.agg (.slice A n c) (.slice A' m d)] w (.bool (largeSt s)) := by
  have HR := Lib.hid hr
  have HC := Lib.hid hc
  clear hr hc
  go_enter Try.func7, Try.ntmps7
  go_wp2_with fail
  all_goals try (go_ret; refine ⟨?_, by (repeat (first | assumption | exact Below.refl _ _ | refine bl_drewN ?_ _ | refine bl_drew ?_ | refine bl_alloc ?_ _ | refine bl_step ?_ (by assumption)))⟩; show Ending.returned (.bool _) = _; first | (simp_all [largeSt]; done) | (simp_all [largeSt]; omega) | (simp_all [largeSt]; intros; omega))
  refine (largeV_any s.v _).mono ?_
  rintro e w1 ⟨rfl, hb1⟩
  have B1 := blk_below (blk_new w _) hb1
  obtain ⟨k1, f1⟩ := blk_rules B1
  have hB1 : Below w.heap.size w w1 := by (repeat (first | assumption | exact Below.refl _ _ | refine bl_drewN ?_ _ | refine bl_drew ?_ | refine bl_alloc ?_ _ | refine bl_step ?_ (by assumption)))
  have B1 := Lib.hid B1
  have hz := blk_lt B1.out
  go_wp2_with fail
  all_goals try (go_ret; refine ⟨?_, by (repeat (first | assumption | exact Below.refl _ _ | refine bl_drewN ?_ _ | refine bl_drew ?_ | refine bl_alloc ?_ _ | refine bl_step ?_ (by assumption)))⟩; show Ending.returned (.bool _) = _; first | (simp_all [largeSt]; done) | (simp_all [largeSt]; omega) | (simp_all [largeSt]; intros; omega))
  refine (largeV_any s.w _).mono ?_
  rintro e w2 ⟨rfl, hb2⟩
  have B2 := blk_below B1.out hb2
  obtain ⟨k2, f2⟩ := blk_rules B2
  have hB2 : Below w.heap.size w w2 := by (repeat (first | assumption | exact Below.refl _ _ | refine bl_drewN ?_ _ | refine bl_drew ?_ | refine bl_alloc ?_ _ | refine bl_step ?_ (by assumption)))
  have B2 := Lib.hid B2
  have hz2 := blk_lt B2.out
  clear k1 f1 hb1 B1
  go_wp2_with fail
  all_goals try (go_ret; refine ⟨?_, by (repeat (first | assumption | exact Below.refl _ _ | refine bl_drewN ?_ _ | refine bl_drew ?_ | refine bl_alloc ?_ _ | refine bl_step ?_ (by assumption)))⟩; show Ending.returned (.bool _) = _; first | (simp_all [largeSt]; done) | (simp_all [largeSt]; omega) | (simp_all [largeSt]; intros; omega))
  refine (largeR_any A n c s.row _ (HR.out.keep hB2)).mono ?_
  rintro e w3 ⟨rfl, hb3⟩
  have B3 := blk_below B2.out hb3
  obtain ⟨k3, f3⟩ := blk_rules B3
  have hB3 : Below w.heap.size w w3 := by (repeat (first | assumption | exact Below.refl _ _ | refine bl_drewN ?_ _ | refine bl_drew ?_ | refine bl_alloc ?_ _ | refine bl_step ?_ (by assumption)))
  have hz3 := blk_lt B3
  clear k2 f2 hb2 B2
  clear B3
  go_wp2_with fail
  all_goals try (go_ret; refine ⟨?_, by (repeat (first | assumption | exact Below.refl _ _ | refine bl_drewN ?_ _ | refine bl_drew ?_ | refine bl_alloc ?_ _ | refine bl_step ?_ (by assumption)))⟩; show Ending.returned (.bool _) = _; first | (simp_all [largeSt]; done) | (simp_all [largeSt]; omega) | (simp_all [largeSt]; intros; omega))
  refine (largeCs_any A' m d s.cols _ (HC.out.keep hB3)).mono ?_
  rintro e w4 ⟨rfl, hb4⟩
  go_wp2
  all_goals (go_ret; refine ⟨?_, by (repeat (first | assumption | exact Below.refl _ _ | refine bl_drewN ?_ _ | refine bl_drew ?_ | refine bl_alloc ?_ _ | refine bl_step ?_ (by assumption)))⟩; show Ending.returned (.bool _) = _; first | (simp_all [largeSt]; done) | (simp_all [largeSt]; omega) | (simp_all [largeSt]; intros; omega))
end Go.Proofs.Ytbmaeaknlpgdmaa
