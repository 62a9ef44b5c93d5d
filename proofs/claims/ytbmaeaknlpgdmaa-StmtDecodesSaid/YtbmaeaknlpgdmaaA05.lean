/- Lemmas on what the functions under this seat compute. -/
import Derived.Test.YtbmaeaknlpgdmaaA01
namespace Go.Proofs.Ytbmaeaknlpgdmaa
open Go.RowKit
theorem kValue (a b : Vl) (w : World) : Pure Try.prog 29 #[a.agg, b.agg] w (.bool (eqV a b)) := keepValue_any a.k a.n a.f a.s b.k b.n b.f b.s w
theorem kValues (A A' : Option Addr) (n c n' c' : Nat) (xs ys : List Vl) (w : World) (hx : RdV w A n xs) (hy : RdV w A' n' ys) :
    Pure Try.prog 30 #[.slice A n c, .slice A' n' c'] w (.bool (eqVs xs ys)) := keepValues_any A A' n c n' c' xs ys w hx hy
theorem neq_bool (a b : Bool) (w : World) : (binOp .neq 4 (.bool a) (.bool b)).run Try.prog w = .ok (.bool (a != b)) w := by cases a <;> cases b <;> kernel_rfl
theorem eql_bool (a b : Bool) (w : World) : (binOp .eql 4 (.bool a) (.bool b)).run Try.prog w = .ok (.bool (a == b)) w := by cases a <;> cases b <;> kernel_rfl
def eqC (a b : Cl) : Bool := !(!(a.name.toList == b.name.toList) || (a.kind != b.kind) || (a.nn != b.nn) || !(eqV a.d b.d))
theorem eqC_iff (a b : Cl) : eqC a b = decide (a = b) := by
  obtain ⟨a1, a2, a3, a4⟩ := a
  obtain ⟨b1, b2, b3, b4⟩ := b
  unfold eqC eqV
  rw [str_beq, Bool.eq_iff_iff]
  simp [bne]
  constructor
  · rintro ⟨⟨⟨h1, h2⟩, h3⟩, h4⟩; exact ⟨h1, h2, h3, h4⟩
  · rintro ⟨h1, h2, h3, h4⟩; exact ⟨⟨⟨h1, h2⟩, h3⟩, h4⟩

set_option maxRecDepth 100000 in
set_option maxHeartbeats 4000000 in
theorem kColumns (A A' : Option Addr) (n c n' c' : Nat) (xs ys : List Cl) (w : World) (hx : RdC w A n xs) (hy : RdC w A' n' ys) :
    Pure Try.prog 31 #[.slice A n c, .slice A' n' c'] w (.bool (eqCs xs ys)) := by
  have hxl := hx.1
  have hyl := hy.1
  have hxm := hx.2.1
  by_cases hn : ((n : Int) != (n' : Int)) = true
  · have hd : eqCs xs ys = false := by
      unfold eqCs; simp at hn ⊢; rintro rfl; omega
    have H := Lib.hid hd; clear hd hxl hyl hx hy
    go_enter Try.func31, Try.ntmps31
    go_wp2
    go_ret
    exact ⟨by rw [H.out]; rfl, by (repeat (first | assumption | exact Below.refl _ _ | refine bl_drewN ?_ _ | refine bl_drew ?_ | refine bl_alloc ?_ _ | refine bl_step ?_ (by assumption)))⟩
  · obtain rfl : n = n' := by simp at hn; omega
    clear hn
    have Hx := Lib.hid hxl
    have Hy := Lib.hid hyl
    have HX := Lib.hid hx
    have HY := Lib.hid hy
    clear hxl hyl hx hy
    have hnb := neq_bool
    go_enter Try.func31, Try.ntmps31
    go_wp2
    go_loopw [5] (fun i wr => ∃ k : Nat, k ≤ n ∧ i = .int .i64 k ∧ xs.take k = ys.take k ∧ Below w.heap.size w wr) (fun i _ => n - (intOf i).toNat)
    case atStart => exact ⟨0, Nat.zero_le _, rfl, rfl, Below.refl _ _⟩
    case round =>
      obtain ⟨k, hk, rfl, hxy, hb⟩ := hrel
      by_cases hlt : k < n
      · obtain ⟨b1, o1, x, hA, hxk, x0, x1, x2, x3, x4, x5, x6, hb1⟩ := HX.out.get_ hb hlt
        obtain ⟨b2, o2, y, hA', hyk, y0, y1, y2, y3, y4, y5, y6, hb2⟩ := HY.out.get_ hb hlt
        subst hA hA'
        have Hxk := Lib.hid hxk
        have Hyk := Lib.hid hyk
        have Hxy := Lib.hid hxy
        have hno : x ≠ y → eqCs xs ys = false := by
          intro h; unfold eqCs; simp; rintro rfl; exact h (Option.some.inj (hxk.symm.trans hyk))
        have Hno := Lib.hid hno
        clear hxk hyk hxy hno
        by_cases e1 : (x.name.toList == y.name.toList) = true
        · by_cases e2 : (x.kind != y.kind) = true
          · have Hd := Lib.hid (Hno.out (by rintro rfl; simp at e2))
            go_wp2
            go_quiet (fail)
            go_wp2
            go_ret
            exact ⟨by rw [Hd.out]; rfl, by (repeat (first | assumption | exact Below.refl _ _ | refine bl_drewN ?_ _ | refine bl_drew ?_ | refine bl_alloc ?_ _ | refine bl_step ?_ (by assumption)))⟩
          · have e2' : (x.kind != y.kind) = false := by simpa using e2
            clear e2
            by_cases e3 : (x.nn != y.nn) = true
            · have Hd := Lib.hid (Hno.out (by rintro rfl; simp at e3))
              go_wp2
              go_quiet (fail)
              go_wp2
              go_ret
              exact ⟨by rw [Hd.out]; rfl, by (repeat (first | assumption | exact Below.refl _ _ | refine bl_drewN ?_ _ | refine bl_drew ?_ | refine bl_alloc ?_ _ | refine bl_step ?_ (by assumption)))⟩
            · have e3' : (x.nn != y.nn) = false := by simpa using e3
              clear e3
              go_wp2
              go_still_tail 48, (by kernel_rfl)
              change wpList _ _ _ _ _ wr.drew
              go_wp2_with fail
              refine (kValue x.d y.d _).mono ?_
              rintro e w1 ⟨rfl, hb1⟩
              cases hv : eqV x.d y.d with
              | true =>
                have hxy : x = y := by
                  unfold eqV at hv; simp at hv e1 e2' e3'
                  have e1 : x.name = y.name := by have := str_beq x.name y.name; rw [e1] at this; simpa using this
                  obtain ⟨a, b, c, d⟩ := x; obtain ⟨a', b', c', d'⟩ := y
                  simp_all
                have Hv := Lib.hid hxy
                clear hv hxy x0 x1 x2 x3 x4 x5 x6 y0 y1 y2 y3 y4 y5 y6 e1 e2' e3'
                go_wp2
                go_roundw
                case rel => exact ⟨k + 1, by omega, by go_num, by rw [take_snoc' Hxk.out, take_snoc' Hyk.out, Hxy.out, Hv.out], bl_step (bl_drew hb) hb1⟩
                case measure => simp [intOf]; omega
              | false =>
                have Hd := Lib.hid (Hno.out (by rintro rfl; unfold eqV at hv; simp at hv))
                clear hv x0 x1 x2 x3 x4 x5 x6 y0 y1 y2 y3 y4 y5 y6 e1 e2' e3'
                go_wp2
                go_ret
                exact ⟨by rw [Hd.out]; rfl, bl_step (bl_drew hb) hb1⟩
        · have e1' : (x.name.toList == y.name.toList) = false := by simpa using e1
          have Hd := Lib.hid (Hno.out (by rintro rfl; simp at e1))
          clear e1
          go_wp2
          go_quiet (fail)
          go_wp2
          go_ret
          exact ⟨by rw [Hd.out]; rfl, by (repeat (first | assumption | exact Below.refl _ _ | refine bl_drewN ?_ _ | refine bl_drew ?_ | refine bl_alloc ?_ _ | refine bl_step ?_ (by assumption)))⟩
      · obtain rfl : k = n := by omega
        have hd : eqCs xs ys = true := by
          unfold eqCs; simp; rw [← List.take_of_length_le (Nat.le_of_eq Hx.out), hxy, List.take_of_length_le (Nat.le_of_eq Hy.out)]
        have H := Lib.hid hd
        clear hd hxy
        go_wp2
        go_ret
        exact ⟨by rw [H.out]; rfl, hb⟩
end Go.Proofs.Ytbmaeaknlpgdmaa
