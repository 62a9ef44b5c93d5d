/- Lemmas on what the functions under this seat compute. -/
import Derived.Test.YtbmaeaknlpgdmaaGreatA03
namespace Go.Proofs.YtbmaeaknlpgdmaaGreat
open Go.RowKit
theorem kValue (a b : Vl) (w : World) : Pure Tryz.prog 66 #[a.agg, b.agg] w (.bool (eqV a b)) := keepValue_any a.k a.n a.f a.s b.k b.n b.f b.s w
theorem kValues (A A' : Option Addr) (n c n' c' : Nat) (xs ys : List Vl) (w : World) (hx : RdV w A n xs) (hy : RdV w A' n' ys) :
    Pure Tryz.prog 51 #[.slice A n c, .slice A' n' c'] w (.bool (eqVs xs ys)) := keepValues_any A A' n c n' c' xs ys w hx hy
theorem neq_bool (a b : Bool) (w : World) : (binOp .neq 4 (.bool a) (.bool b)).run Tryz.prog w = .ok (.bool (a != b)) w := by cases a <;> cases b <;> kernel_rfl
theorem eql_bool (a b : Bool) (w : World) : (binOp .eql 4 (.bool a) (.bool b)).run Tryz.prog w = .ok (.bool (a == b)) w := by cases a <;> cases b <;> kernel_rfl
def eqC (a b : Cl) : Bool := !(!(a.name.toList == b.name.toList) || (a.kind != b.kind) || (a.nn != b.nn) || !(eqV a.d b.d))
theorem eqC_iff (a b : Cl) : eqC a b = decide (a = b) := by
  obtain ⟨a1, a2, a3, a4⟩ := a
  obtain ⟨b1, b2, b3, b4⟩ := b
  unfold eqC eqV
  rw [str_beq, Bool.eq_iff_iff]
  simp [bne]
  constructor
  · rintro ⟨⟨⟨h1, h2⟩, h3⟩, h4⟩; exact ⟨h1, h2, h3, h4⟩
  · rintro ⟨h1, h2, h3, h4⟩; exact ⟨⟨⟨h1, h2⟩, h3⟩, h4⟩

set_option maxRecDepth 100000 in
set_option maxHeartbeats 4000000 in
theorem kColumns (A A' : Option Addr) (n c n' c' : Nat) (xs ys : List Cl) (w : World) (hx : RdC w A n xs) (hy : RdC w A' n' ys) :
    Pure Tryz.prog 67 #[.slice A n c, .slice A' n' c'] w (.bool (eqCs xs ys)) := by
  have hxl := hx.1
  have hyl := hy.1
  have hxm := hx.2.1
  by_cases hn : ((n : Int) != (n' : Int)) = true
  · have hd : eqCs xs ys = false := by
      unfold eqCs; simp at hn ⊢; rintro rfl; omega
    have H := Lib.hid hd; clear hd hxl hyl hx hy
    go_enter Tryz.func67, Tryz.ntmps67
    go_wp2
    go_ret
    exact ⟨by rw [H.out]; rfl, by (repeat (first | assumption | exact Below.refl _ _ | refine bl_drewN ?_ _ | refine bl_drew ?_ | refine bl_alloc ?_ _ | refine bl_step ?_ (by assumption)))⟩
  · obtain rfl : n = n' := by simp at hn; omega
    clear hn
    have Hx := Lib.hid hxl
    have Hy := Lib.hid hyl
    have HX := Lib.hid hx
    have HY := Lib.hid hy
    clear hxl hyl hx hy
    have hnb := neq_bool
    go_enter Tryz.func67, Tryz.ntmps67
    go_wp2
    go_loopw [5] (fun i wr => ∃ k : Nat, k ≤ n ∧ i = .int .i64 k ∧ xs.take k = ys.take k ∧ Below w.heap.size w wr) (fun i _ => n - (intOf i).toNat)
    case atStart => exact ⟨0, Nat.zero_le _, rfl, rfl, Below.refl _ _⟩
    case round =>
      obtain ⟨k, hk, rfl, hxy, hb⟩ := hrel
      by_cases hlt : k < n
      · obtain ⟨b1, o1, x, hA, hxk, x0, x1, x2, x3, x4, x5, x6, hb1⟩ := HX.out.get_ hb hlt
        obtain ⟨b2, o2, y, hA', hyk, y0, y1, y2, y3, y4, y5, y6, hb2⟩ := HY.out.get_ hb hlt
        subst hA hA'
        have Hxk := Lib.hid hxk
        have Hyk := Lib.hid hyk
        have Hxy := Lib.hid hxy
        have hno : x ≠ y → eqCs xs ys = false := by
          intro h; unfold eqCs; simp; rintro rfl; exact h (Option.some.inj (hxk.symm.trans hyk))
        have Hno := Lib.hid hno
        clear hxk hyk hxy hno
        by_cases e1 : (x.name.toList == y.name.toList) = true
        · by_cases e2 : (x.kind != y.kind) = true
          · have Hd := Lib.hid (Hno.out (by rintro rfl; simp at e2))
            go_wp2
            go_quiet (fail)
            go_wp2
            go_ret
            exact ⟨by rw [Hd.out]; rfl, by (repeat (first | assumption | exact Below.refl _ _ | refine bl_drewN ?_ _ | refine bl_drew ?_ | refine bl_alloc ?_ _ | refine bl_step ?_ (by assumption)))⟩
          · have e2' : (x.kind != y.kind) = false := by simpa using e2
            clear e2
            by_cases e3 : (x.nn != y.nn) = true
            · have Hd := Lib.hid (Hno.out (by rintro rfl; simp at e3))
              go_wp2
              go_quiet (fail)
              go_wp2
              go_ret
              exact ⟨by rw [Hd.out]; rfl, by (repeat (first | assumption | exact Below.refl _ _ | refine bl_drewN ?_ _ | refine bl_drew ?_ | refine bl_alloc ?_ _ | refine bl_step ?_ (by assumption)))⟩
            · have e3' : (x.nn != y.nn) = false := by simpa using e3
              clear e3
              go_wp2
              go_still_tail 48, (by kernel_rfl)
              change wpList _ _ _ _ _ wr.drew
              go_wp2_with fail
              refine (kValue x.d y.d _).mono ?_
              rintro e w1 ⟨rfl, hb1⟩
              cases hv : eqV x.d y.d with
              | true =>
                have hxy : x = y := by
                  unfold eqV at hv; simp at hv e1 e2' e3'
                  have e1 : x.name = y.name := by have := str_beq x.name y.name; rw [e1] at this; simpa using this
                  obtain ⟨a, b, c, d⟩ := x; obtain ⟨a', b', c', d'⟩ := y
                  simp_all
                have Hv := Lib.hid hxy
                clear hv hxy x0 x1 x2 x3 x4 x5 x6 y0 y1 y2 y3 y4 y5 y6 e1 e2' e3'
                go_wp2
                go_roundw
                case rel => exact ⟨k + 1, by omega, by go_num, by rw [take_snoc' Hxk.out, take_snoc' Hyk.out, Hxy.out, Hv.out], bl_step (bl_drew hb) hb1⟩
                case measure => simp [intOf]; omega
              | false =>
                have Hd := Lib.hid (Hno.out (by rintro rfl; unfold eqV at hv; simp at hv))
                clear hv x0 x1 x2 x3 x4 x5 x6 y0 y1 y2 y3 y4 y5 y6 e1 e2' e3'
                go_wp2
                go_ret
                exact ⟨by rw [Hd.out]; rfl, bl_step (bl_drew hb) hb1⟩
        · have e1' : (x.name.toList == y.name.toList) = false := by simpa using e1
          have Hd := Lib.hid (Hno.out (by rintro rfl; simp at e1))
          clear e1
          go_wp2
          go_quiet (fail)
          go_wp2
          go_ret
          exact ⟨by rw [Hd.out]; rfl, by (repeat (first | assumption | exact Below.refl _ _ | refine bl_drewN ?_ _ | refine bl_drew ?_ | refine bl_alloc ?_ _ | refine bl_step ?_ (by assumption)))⟩
      · obtain rfl : k = n := by omega
        have hd : eqCs xs ys = true := by
          unfold eqCs; simp; rw [← List.take_of_length_le (Nat.le_of_eq Hx.out), hxy, List.take_of_length_le (Nat.le_of_eq Hy.out)]
        have H := Lib.hid hd
        clear hd hxy
        go_wp2
        go_ret
        exact ⟨by rw [H.out]; rfl, hb⟩
end Go.Proofs.YtbmaeaknlpgdmaaGreat
namespace Go.Proofs.YtbmaeaknlpgdmaaGreat
open Go.RowKit
def largeV (v : Vl) : Bool := decide (2000 < (v.s.size : Int))
def largeC (c : Cl) : Bool := decide (1000 < (c.name.size : Int)) || largeV c.d
def largeR (l : List Vl) : Bool := decide (50 < (l.length : Int)) || l.any largeV
def largeCs (l : List Cl) : Bool := decide (50 < (l.length : Int)) || l.any largeC
def largeSt (s : St) : Bool := decide (1000 < (s.t.size : Int)) || decide (1000 < (s.nm.size : Int)) || decide (1000 < (s.c.size : Int)) || decide (1000 < (s.se.size : Int)) || largeV s.v || largeV s.w || largeR s.row || largeCs s.cols

set_option maxRecDepth 100000 in
theorem largeV_any (v : Vl) (w : World) : Pure Tryz.prog 85 #[v.agg] w (.bool (largeV v)) := by
  go_enter Tryz.func85, Tryz.ntmps85
  go_wp2
  go_ret
  exact ⟨rfl, by (repeat (first | assumption | exact Below.refl _ _ | refine bl_drewN ?_ _ | refine bl_drew ?_ | refine bl_alloc ?_ _ | refine bl_step ?_ (by assumption)))⟩

theorem any_yes {α : Type} {p : α → Bool} {xs : List α} {k : Nat} {x : α} (h : xs[k]? = some x) (hp : p x = true) : xs.any p = true := List.any_eq_true.2 ⟨x, List.mem_of_getElem? h, hp⟩
theorem any_no {α : Type} {p : α → Bool} {xs : List α} (h : ∀ j x, j < xs.length → xs[j]? = some x → p x = false) : xs.any p = false := by
  rw [List.any_eq_false]
  intro x hx
  obtain ⟨j, hj, rfl⟩ := List.getElem_of_mem hx
  rw [h j _ hj (List.getElem?_eq_getElem hj)]; simp

set_option maxRecDepth 100000 in
theorem largeR_any (A : Option Addr) (n c : Nat) (xs : List Vl) (w : World) (hx : RdV w A n xs) : Pure Tryz.prog 72 #[.slice A n c] w (.bool (largeR xs)) := by
  have hl := hx.1
  have hxm := hx.2.1
  by_cases hn : 50 < n
  · have H := Lib.hid (show largeR xs = true by unfold largeR; rw [hl]; simp; omega)
    clear hl hx
    go_enter Tryz.func72, Tryz.ntmps72
    go_wp2
    go_ret
    exact ⟨by rw [H.out]; rfl, by (repeat (first | assumption | exact Below.refl _ _ | refine bl_drewN ?_ _ | refine bl_drew ?_ | refine bl_alloc ?_ _ | refine bl_step ?_ (by assumption)))⟩
  · have Hl := Lib.hid hl
    have HX := Lib.hid hx
    have hr : largeR xs = xs.any largeV := by unfold largeR; rw [hl]; have : decide (50 < (n : Int)) = false := by simp; omega
                                              rw [this, Bool.false_or]
    have HR := Lib.hid hr
    clear hl hx hr
    go_enter Tryz.func72, Tryz.ntmps72
    go_wp2
    go_loopw [3] (fun i wr => ∃ k : Nat, k ≤ n ∧ i = .int .i64 k ∧ (∀ j x, j < k → xs[j]? = some x → largeV x = false) ∧ Below w.heap.size w wr) (fun i _ => n - (intOf i).toNat)
    case atStart => exact ⟨0, Nat.zero_le _, rfl, fun j x hj => by omega, Below.refl _ _⟩
    case round =>
      obtain ⟨k, hk, rfl, hall, hb⟩ := hrel
      have Hall := Lib.hid hall
      clear hall
      by_cases hlt : k < n
      · obtain ⟨b1, o1, x, hA, hxk, x0, x1, x2, x3, hb1⟩ := HX.out.get_ hb hlt
        subst hA
        have Hxk := Lib.hid hxk
        clear hxk
        go_wp2_with fail
        refine (largeV_any x _).mono ?_
        rintro e w1 ⟨rfl, hb1⟩
        cases hv : largeV x with
        | true =>
          have H := Lib.hid (HR.out.trans (any_yes Hxk.out hv))
          clear hv x0 x1 x2 x3
          go_wp2
          go_ret
          exact ⟨by rw [H.out]; rfl, bl_step hb hb1⟩
        | false =>
          have Hv := Lib.hid hv
          clear hv x0 x1 x2 x3
          go_wp2
          go_roundw
          case rel => exact ⟨k + 1, by omega, by go_num, fun j y hj hy => (Nat.lt_succ_iff_lt_or_eq.1 hj).elim (fun h => Hall.out j y h hy) (fun h => by subst h; rw [Hxk.out] at hy; cases hy; exact Hv.out), bl_step hb hb1⟩
          case measure => simp [intOf]; omega
      · obtain rfl : k = n := by omega
        have H := Lib.hid (HR.out.trans (any_no (fun j x hj hx => Hall.out j x (by rw [← Hl.out]; exact hj) hx)))
        go_wp2
        go_ret
        exact ⟨by rw [H.out]; rfl, hb⟩

set_option maxRecDepth 100000 in
set_option maxHeartbeats 1000000 in
theorem largeCs_any (A : Option Addr) (n c : Nat) (xs : List Cl) (w : World) (hx : RdC w A n xs) : Pure Tryz.prog 86 #[.slice A n c] w (.bool (largeCs xs)) := by
  have hl := hx.1
  have hxm := hx.2.1
  by_cases hn : 50 < n
  · have H := Lib.hid (show largeCs xs = true by unfold largeCs; rw [hl]; simp; omega)
    clear hl hx
    go_enter Tryz.func86, Tryz.ntmps86
    go_wp2
    go_ret
    exact ⟨by rw [H.out]; rfl, by (repeat (first | assumption | exact Below.refl _ _ | refine bl_drewN ?_ _ | refine bl_drew ?_ | refine bl_alloc ?_ _ | refine bl_step ?_ (by assumption)))⟩
  · have Hl := Lib.hid hl
    have HX := Lib.hid hx
    have hr : largeCs xs = xs.any largeC := by unfold largeCs; rw [hl]; have : decide (50 < (n : Int)) = false := by simp; omega
                                               rw [this, Bool.false_or]
    have HR := Lib.hid hr
    clear hl hx hr
    go_enter Tryz.func86, Tryz.ntmps86
    go_wp2
    go_loopw [3] (fun i wr => ∃ k : Nat, k ≤ n ∧ i = .int .i64 k ∧ (∀ j x, j < k → xs[j]? = some x → largeC x = false) ∧ Below w.heap.size w wr) (fun i _ => n - (intOf i).toNat)
    case atStart => exact ⟨0, Nat.zero_le _, rfl, fun j x hj => by omega, Below.refl _ _⟩
    case round =>
      obtain ⟨k, hk, rfl, hall, hb⟩ := hrel
      have Hall := Lib.hid hall
      clear hall
      by_cases hlt : k < n
      · obtain ⟨b1, o1, x, hA, hxk, x0, x1, x2, x3, x4, x5, x6, hb1⟩ := HX.out.get_ hb hlt
        subst hA
        have Hxk := Lib.hid hxk
        clear hxk
        by_cases hnm : 1000 < x.name.size
        · have H := Lib.hid (HR.out.trans (any_yes Hxk.out (by unfold largeC; simp; omega)))
          go_wp2
          go_ret
          exact ⟨by rw [H.out]; rfl, by (repeat (first | assumption | exact Below.refl _ _ | refine bl_drewN ?_ _ | refine bl_drew ?_ | refine bl_alloc ?_ _ | refine bl_step ?_ (by assumption)))⟩
        · have hc : largeC x = largeV x.d := by unfold largeC; have : decide (1000 < (x.name.size : Int)) = false := by simp; omega
                                                rw [this, Bool.false_or]
          have Hc := Lib.hid hc
          clear hc
          go_wp2_with fail
          refine (largeV_any x.d _).mono ?_
          rintro e w1 ⟨rfl, hb1⟩
          cases hv : largeV x.d with
          | true =>
            have H := Lib.hid (HR.out.trans (any_yes Hxk.out (Hc.out.trans hv)))
            clear hv x0 x1 x2 x3
            go_wp2
            go_ret
            exact ⟨by rw [H.out]; rfl, bl_step hb hb1⟩
          | false =>
            have Hv := Lib.hid (Hc.out.trans hv)
            clear hv x0 x1 x2 x3
            go_wp2
            go_roundw
            case rel => exact ⟨k + 1, by omega, by go_num, fun j y hj hy => (Nat.lt_succ_iff_lt_or_eq.1 hj).elim (fun h => Hall.out j y h hy) (fun h => by subst h; rw [Hxk.out] at hy; cases hy; exact Hv.out), bl_step hb hb1⟩
            case measure => simp [intOf]; omega
      · obtain rfl : k = n := by omega
        have H := Lib.hid (HR.out.trans (any_no (fun j x hj hx => Hall.out j x (by rw [← Hl.out]; exact hj) hx)))
        go_wp2
        go_ret
        exact ⟨by rw [H.out]; rfl, hb⟩

set_option maxRecDepth 100000 in
set_option maxHeartbeats 4000000 in
theorem largeSt_any (s : St) (A A' : Option Addr) (n c m d : Nat) (w : World) (hr : RdV w A n s.row) (hc : RdC w A' m s.cols) : Pure Tryz.prog 32 #[s.agg (.slice A n c) (.slice A' m d)] w (.bool (largeSt s)) := by
  have HR := Lib.hid hr
  have HC := Lib.hid hc
  clear hr hc
  go_enter Tryz.func32, Tryz.ntmps32
  go_wp2_with fail
  all_goals try (go_ret; refine ⟨?_, by (repeat (first | assumption | exact Below.refl _ _ | refine bl_drewN ?_ _ | refine bl_drew ?_ | refine bl_alloc ?_ _ | refine bl_step ?_ (by assumption)))⟩; show Ending.returned (.bool _) = _; first | (simp_all [largeSt]; done) | (simp_all [largeSt]; omega) | (simp_all [largeSt]; intros; omega))
  refine (largeV_any s.v _).mono ?_
  rintro e w1 ⟨rfl, hb1⟩
  have B1 := blk_below (blk_new w _) hb1
  obtain ⟨k1, f1⟩ := blk_rules B1
  have hB1 : Below w.heap.size w w1 := by (repeat (first | assumption | exact Below.refl _ _ | refine bl_drewN ?_ _ | refine bl_drew ?_ | refine bl_alloc ?_ _ | refine bl_step ?_ (by assumption)))
  have B1 := Lib.hid B1
  have hz := blk_lt B1.out
  go_wp2_with fail
  all_goals try (go_ret; refine ⟨?_, by (repeat (first | assumption | exact Below.refl _ _ | refine bl_drewN ?_ _ | refine bl_drew ?_ | refine bl_alloc ?_ _ | refine bl_step ?_ (by assumption)))⟩; show Ending.returned (.bool _) = _; first | (simp_all [largeSt]; done) | (simp_all [largeSt]; omega) | (simp_all [largeSt]; intros; omega))
  refine (largeV_any s.w _).mono ?_
  rintro e w2 ⟨rfl, hb2⟩
  have B2 := blk_below B1.out hb2
  obtain ⟨k2, f2⟩ := blk_rules B2
  have hB2 : Below w.heap.size w w2 := by (repeat (first | assumption | exact Below.refl _ _ | refine bl_drewN ?_ _ | refine bl_drew ?_ | refine bl_alloc ?_ _ | refine bl_step ?_ (by assumption)))
  have B2 := Lib.hid B2
  have hz2 := blk_lt B2.out
  clear k1 f1 hb1 B1
  go_wp2_with fail
  all_goals try (go_ret; refine ⟨?_, by (repeat (first | assumption | exact Below.refl _ _ | refine bl_drewN ?_ _ | refine bl_drew ?_ | refine bl_alloc ?_ _ | refine bl_step ?_ (by assumption)))⟩; show Ending.returned (.bool _) = _; first | (simp_all [largeSt]; done) | (simp_all [largeSt]; omega) | (simp_all [largeSt]; intros; omega))
  refine (largeR_any A n c s.row _ (HR.out.keep hB2)).mono ?_
  rintro e w3 ⟨rfl, hb3⟩
  have B3 := blk_below B2.out hb3
  obtain ⟨k3, f3⟩ := blk_rules B3
  have hB3 : Below w.heap.size w w3 := by (repeat (first | assumption | exact Below.refl _ _ | refine bl_drewN ?_ _ | refine bl_drew ?_ | refine bl_alloc ?_ _ | refine bl_step ?_ (by assumption)))
  have hz3 := blk_lt B3
  clear k2 f2 hb2 B2
  clear B3
  go_wp2_with fail
  all_goals try (go_ret; refine ⟨?_, by (repeat (first | assumption | exact Below.refl _ _ | refine bl_drewN ?_ _ | refine bl_drew ?_ | refine bl_alloc ?_ _ | refine bl_step ?_ (by assumption)))⟩; show Ending.returned (.bool _) = _; first | (simp_all [largeSt]; done) | (simp_all [largeSt]; omega) | (simp_all [largeSt]; intros; omega))
  refine (largeCs_any A' m d s.cols _ (HC.out.keep hB3)).mono ?_
  rintro e w4 ⟨rfl, hb4⟩
  go_wp2
  all_goals (go_ret; refine ⟨?_, by (repeat (first | assumption | exact Below.refl _ _ | refine bl_drewN ?_ _ | refine bl_drew ?_ | refine bl_alloc ?_ _ | refine bl_step ?_ (by assumption)))⟩; show Ending.returned (.bool _) = _; first | (simp_all [largeSt]; done) | (simp_all [largeSt]; omega) | (simp_all [largeSt]; intros; omega))
end Go.Proofs.YtbmaeaknlpgdmaaGreat
