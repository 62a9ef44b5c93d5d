/- The order of values, and of rows. The order of rows; what is alike. -/
import Derived.Test.YtbmaeaknlpgdmaaGreatA05
import Derived.Lib.Bytealg
import Derived.Deep.Cut
import Derived.Deep.CutRange
import Derived.Test.YtbmaeaknlpgdmaaGreatA06
namespace Go.Proofs.YtbmaeaknlpgdmaaGreat
open Go.RowKit
set_option linter.unusedVariables false
set_option linter.unusedSimpArgs false
/-- The order of two whole numbers. -/
def cmpI (a b : Int) : Int := if a < b then -1 else if b < a then 1 else 0
def nanB (f : Nat) : Bool := FloatKind.f64.format.order f f != some .eq
/-- The order of two floats, by their bits. -/
def cmpF (a b : Nat) : Int :=
  if (nanB a && nanB b) = true then 0 else if nanB a = true then 1 else if nanB b = true then -1 else if (FloatKind.f64.format.order a b == some .lt) = true then -1 else if (FloatKind.f64.format.order a b == some .gt) = true then 1 else 0
abbrev cmpS (a b : ByteArray) : Int := Lib.compareBytes a.data.toList b.data.toList
def orL : List Int → Int
  | [] => 0
  | x :: l => if x = 0 then orL l else x
/-- The order of two values. -/
def cmpV (a b : Vl) : Int := orL [cmpI a.k b.k, cmpI a.n b.n, cmpF a.f b.f, cmpS a.s b.s]
/-- The order of two rows. -/
def cmpR : List Vl → List Vl → Int
  | [], [] => 0
  | [], _ :: _ => -1
  | _ :: _, [] => 1
  | x :: l, y :: m => if cmpV x y = 0 then cmpR l m else cmpV x y
set_option maxRecDepth 100000 in
theorem cmpI_any (a b : Int) (w : World) : Calls Tryz.prog 157 #[.int .i64 a, .int .i64 b] w fun e w' => e = .returned (.int .i64 (cmpI a b)) ∧ w' = w := by
  have hn : ∀ (a : Int) (w : World), Calls Tryz.prog 190 #[.int .i64 a] w fun e w' => e = .returned (.bool false) ∧ w = w' := fun a w => by
    go_enter Tryz.func190, Tryz.ntmps190
    go_wp2
    go_ret
    exact ⟨rfl, rfl⟩
  by_cases h1 : a < b
  · have H := Lib.hid (show cmpI a b = -1 from if_pos h1)
    go_enter Tryz.func157, Tryz.ntmps157
    go_wp2_with (go_at_call 190; refine (hn _ _).mono ?_; rintro e w' ⟨rfl, rfl⟩)
    go_ret
    exact ⟨by rw [H.out]; rfl, rfl⟩
  · by_cases h2 : b < a
    · have H := Lib.hid (show cmpI a b = 1 by unfold cmpI; rw [if_neg h1, if_pos h2])
      go_enter Tryz.func157, Tryz.ntmps157
      go_wp2_with (go_at_call 190; refine (hn _ _).mono ?_; rintro e w' ⟨rfl, rfl⟩)
      go_ret
      exact ⟨by rw [H.out]; rfl, rfl⟩
    · have H := Lib.hid (show cmpI a b = 0 by unfold cmpI; rw [if_neg h1, if_neg h2])
      go_enter Tryz.func157, Tryz.ntmps157
      go_wp2_with (go_at_call 190; refine (hn _ _).mono ?_; rintro e w' ⟨rfl, rfl⟩)
      go_ret
      exact ⟨by rw [H.out]; rfl, rfl⟩
set_option maxRecDepth 100000 in
theorem cmpI64_any (a b : Int) (w : World) : Calls Tryz.prog 158 #[.int .i64 a, .int .i64 b] w fun e w' => e = .returned (.int .i64 (cmpI a b)) ∧ w' = w := by
  have hn : ∀ (a : Int) (w : World), Calls Tryz.prog 191 #[.int .i64 a] w fun e w' => e = .returned (.bool false) ∧ w = w' := fun a w => by
    go_enter Tryz.func191, Tryz.ntmps191
    go_wp2
    go_ret
    exact ⟨rfl, rfl⟩
  by_cases h1 : a < b
  · have H := Lib.hid (show cmpI a b = -1 from if_pos h1)
    go_enter Tryz.func158, Tryz.ntmps158
    go_wp2_with (go_at_call 191; refine (hn _ _).mono ?_; rintro e w' ⟨rfl, rfl⟩)
    go_ret
    exact ⟨by rw [H.out]; rfl, rfl⟩
  · by_cases h2 : b < a
    · have H := Lib.hid (show cmpI a b = 1 by unfold cmpI; rw [if_neg h1, if_pos h2])
      go_enter Tryz.func158, Tryz.ntmps158
      go_wp2_with (go_at_call 191; refine (hn _ _).mono ?_; rintro e w' ⟨rfl, rfl⟩)
      go_ret
      exact ⟨by rw [H.out]; rfl, rfl⟩
    · have H := Lib.hid (show cmpI a b = 0 by unfold cmpI; rw [if_neg h1, if_neg h2])
      go_enter Tryz.func158, Tryz.ntmps158
      go_wp2_with (go_at_call 191; refine (hn _ _).mono ?_; rintro e w' ⟨rfl, rfl⟩)
      go_ret
      exact ⟨by rw [H.out]; rfl, rfl⟩
set_option maxRecDepth 100000 in
theorem cmpF_any (a b : Nat) (w : World) : Calls Tryz.prog 159 #[.float .f64 a, .float .f64 b] w fun e w' => e = .returned (.int .i64 (cmpF a b)) ∧ w' = w := by
  cases ha : (FloatKind.f64.format.order a a != some .eq) with
  | true =>
    have Ha := Lib.hid (show nanB a = true from ha)
    cases hb : (FloatKind.f64.format.order b b != some .eq) with
    | true =>
      have H := Lib.hid (show cmpF a b = 0 by unfold cmpF; rw [Ha.out, show nanB b = true from hb]; rfl)
      go_enter Tryz.func159, Tryz.ntmps159
      go_wp2
      go_ret
      exact ⟨by rw [H.out]; rfl, rfl⟩
    | false =>
      have H := Lib.hid (show cmpF a b = 1 by unfold cmpF; rw [Ha.out, show nanB b = false from hb]; rfl)
      go_enter Tryz.func159, Tryz.ntmps159
      go_wp2
      go_ret
      exact ⟨by rw [H.out]; rfl, rfl⟩
  | false =>
    have Ha := Lib.hid (show nanB a = false from ha)
    cases hb : (FloatKind.f64.format.order b b != some .eq) with
    | true =>
      have H := Lib.hid (show cmpF a b = -1 by unfold cmpF; rw [Ha.out, show nanB b = true from hb]; rfl)
      go_enter Tryz.func159, Tryz.ntmps159
      go_wp2
      go_ret
      exact ⟨by rw [H.out]; rfl, rfl⟩
    | false =>
      have Hb := Lib.hid (show nanB b = false from hb)
      cases hl : (FloatKind.f64.format.order a b == some .lt) with
      | true =>
        have H := Lib.hid (show cmpF a b = -1 by unfold cmpF; rw [Ha.out, Hb.out, hl]; rfl)
        go_enter Tryz.func159, Tryz.ntmps159
        go_wp2
        go_ret
        exact ⟨by rw [H.out]; rfl, rfl⟩
      | false =>
        cases hg : (FloatKind.f64.format.order a b == some .gt) with
        | true =>
          have H := Lib.hid (show cmpF a b = 1 by unfold cmpF; rw [Ha.out, Hb.out, hl, hg]; rfl)
          go_enter Tryz.func159, Tryz.ntmps159
          go_wp2
          go_ret
          exact ⟨by rw [H.out]; rfl, rfl⟩
        | false =>
          have H := Lib.hid (show cmpF a b = 0 by unfold cmpF; rw [Ha.out, Hb.out, hl, hg]; rfl)
          go_enter Tryz.func159, Tryz.ntmps159
          go_wp2
          go_ret
          exact ⟨by rw [H.out]; rfl, rfl⟩
set_option maxRecDepth 100000 in
set_option maxHeartbeats 1000000 in
theorem cmpB_any (a b : ByteArray) (w : World) : Calls Tryz.prog 192 #[.string a, .string b] w fun e w' => e = .returned (.int .i64 (cmpS a b)) ∧ w' = w := by
  go_enter Tryz.func192, Tryz.ntmps192
  go_wp2
  rw [run_callFunc_extern Tryz.func213 (by kernel_rfl) (by kernel_rfl) (by kernel_rfl) (e := Extern.BytealgCompare.compare) (by kernel_rfl), Lib.run_compareString]
  simp only [Result.andThen]
  rw [Oper.upon_value]
  go_wp2
  go_ret
  exact ⟨rfl, rfl⟩
set_option maxRecDepth 100000 in
theorem cmpS_any (a b : ByteArray) (w : World) : Calls Tryz.prog 160 #[.string a, .string b] w fun e w' => e = .returned (.int .i64 (cmpS a b)) ∧ w' = w := by
  go_enter Tryz.func160, Tryz.ntmps160
  go_wp2_with (go_at_call 192; refine (cmpB_any _ _ _).mono ?_; rintro e w' ⟨rfl, rfl⟩)
  go_ret
  exact ⟨rfl, rfl⟩
abbrev intCs (x : Int) : List Value := [.int .i64 x]
theorem RdI.get_ {w : World} {A : Option Addr} {n : Nat} {xs : List Int} (h : Rd intCs 1 w A n xs) {k : Nat} (hk : k < n) : ∃ b o x, A = some ⟨b, o, none⟩ ∧ xs[k]? = some x ∧ w.cell? ⟨b, o + k, none⟩ = some (.int .i64 x) := by
  obtain ⟨b, o, e, hc⟩ := h.2.2 (by omega)
  have hl : k < xs.length := by rw [h.1]; exact hk
  have hx : xs[k]? = some xs[k] := List.getElem?_eq_getElem hl
  have := hc k _ hx 0 _ rfl
  rw [Nat.mul_one, Nat.add_zero] at this
  exact ⟨b, o, xs[k], e, hx, this⟩
theorem drop_at {α : Type} {xs : List α} {k : Nat} {x : α} (h : xs[k]? = some x) : xs.drop k = x :: xs.drop (k + 1) := by
  obtain ⟨hk, rfl⟩ := List.getElem?_eq_some_iff.1 h
  exact List.drop_eq_getElem_cons hk
set_option maxRecDepth 100000 in
theorem or_any (A : Option Addr) (n c : Nat) (xs : List Int) (w : World) (hx : Rd intCs 1 w A n xs) : Calls Tryz.prog 156 #[.slice A n c] w fun e w' => e = .returned (.int .i64 (orL xs)) ∧ w = w' := by
  have hxm := hx.2.1
  have HX := Lib.hid hx
  have HL := Lib.hid hx.1
  clear hx
  go_enter Tryz.func156, Tryz.ntmps156
  go_wp2
  go_loop [8] (fun i => ∃ k : Nat, k ≤ n ∧ i = .int .i64 k ∧ orL (xs.drop k) = orL xs) (fun i => n - (intOf i).toNat)
  case atStart => exact ⟨0, Nat.zero_le _, rfl, rfl⟩
  case round =>
    obtain ⟨k, hk, rfl, ho⟩ := hrel
    have HO := Lib.hid ho
    clear ho
    by_cases hlt : k < n
    · obtain ⟨b, o, x, hA, hxk, hc⟩ := RdI.get_ HX.out hlt
      subst hA
      have hd := drop_at hxk
      by_cases h0 : x = 0
      · subst h0
        have H := Lib.hid (show orL (xs.drop (k + 1)) = orL xs by rw [← HO.out, hd]; rfl)
        clear hd hxk
        go_wp2
        go_round
        case rel => exact ⟨k + 1, by omega, by go_num, H.out⟩
        case measure => simp [intOf]; omega
      · have H := Lib.hid (show orL xs = x by rw [← HO.out, hd]; exact if_neg h0)
        clear hd hxk
        have h0' : (x == 0) = false := by simpa using h0
        go_wp2
        go_ret
        exact ⟨by rw [H.out]; rfl, rfl⟩
    · obtain rfl : k = n := by omega
      have H := Lib.hid (show orL xs = 0 by rw [← HO.out, List.drop_eq_nil_of_le (by rw [HL.out]; exact Nat.le_refl _)]; rfl)
      go_wp2
      go_ret
      exact ⟨by rw [H.out]; rfl, rfl⟩
theorem or_any' (A : Option Addr) (n c : Nat) (xs : List Int) (w : World) (hx : Rd intCs 1 w A n xs) : Calls Tryz.prog 156 #[.slice A n c] w fun e w' => e = .returned (.int .i64 (orL xs)) ∧ w' = w :=
  (or_any A n c xs w hx).mono fun _ _ h => ⟨h.1, h.2.symm⟩
set_option maxRecDepth 100000 in
set_option maxHeartbeats 1000000 in
theorem cmpV_any (a b : Vl) (w : World) : Pure Tryz.prog 121 #[a.agg, b.agg] w (.int .i64 (cmpV a b)) := by
  go_enter Tryz.func121, Tryz.ntmps121
  go_upto_region 1 with fail
  have PA := blk_old (blk_new w (.cells #[.int .i64 a.k, .int .i64 a.n, .float .f64 a.f, .string a.s] 33)) (.cells #[.int .i64 b.k, .int .i64 b.n, .float .f64 b.f, .string b.s] 33)
  have PB := blk_new (w.alloc (.cells #[.int .i64 a.k, .int .i64 a.n, .float .f64 a.f, .string a.s] 33)) (.cells #[.int .i64 b.k, .int .i64 b.n, .float .f64 b.f, .string b.s] 33)
  rw [szal] at PB
  have PL : Below w.heap.size w ((w.alloc (.cells #[.int .i64 a.k, .int .i64 a.n, .float .f64 a.f, .string a.s] 33)).alloc (.cells #[.int .i64 b.k, .int .i64 b.n, .float .f64 b.f, .string b.s] 33)) := by (repeat (first | assumption | exact Below.refl _ _ | refine bl_drewN ?_ _ | refine bl_drew ?_ | refine bl_alloc ?_ _ | refine bl_step ?_ (by assumption)))
  generalize (w.alloc (.cells #[.int .i64 a.k, .int .i64 a.n, .float .f64 a.f, .string a.s] 33)).alloc (.cells #[.int .i64 b.k, .int .i64 b.n, .float .f64 b.f, .string b.s] 33) = W at PA PB PL ⊢
  obtain ⟨k1, f1⟩ := blk_rules PA
  obtain ⟨k2, f2⟩ := blk_rules PB
  clear PA PB
  go_still_tail 20, (by kernel_rfl)
  still_call (cmpI_any _ _ _)
  repeat still_step
  still_call (cmpI64_any _ _ _)
  repeat still_step
  still_call (cmpF_any _ _ _)
  repeat still_step
  still_call (cmpS_any _ _ _)
  try refine wpStill_nil ?_
  change wpList _ _ _ _ _ W.drew
  go_wp2_with fail
  refine (or_any _ 4 4 [cmpI a.k b.k, cmpI a.n b.n, cmpF a.f b.f, cmpS a.s b.s] _ ?_).mono ?_
  · refine ⟨rfl, by simp, fun _ => ⟨W.heap.size, 0, rfl, fun i x hx j u hu => ?_⟩⟩
    have hj : j = 0 := by
      have := (List.getElem?_eq_some_iff.1 hu).1
      simp at this; exact this
    subst hj
    simp only [List.getElem?_cons_zero, Option.some.injEq] at hu
    subst hu
    have hi : i < 4 := (List.getElem?_eq_some_iff.1 hx).1
    match i, hi with
    | 0, _ => simp at hx; subst hx; simp
    | 1, _ => simp at hx; subst hx; simp
    | 2, _ => simp at hx; subst hx; simp
    | 3, _ => simp at hx; subst hx; simp
  · rintro e w1 ⟨rfl, rfl⟩
    go_wp2
    go_ret
    exact ⟨rfl, by (repeat (first | assumption | exact Below.refl _ _ | refine bl_drewN ?_ _ | refine bl_drew ?_ | refine bl_alloc ?_ _ | refine bl_step ?_ (by assumption)))⟩
end Go.Proofs.YtbmaeaknlpgdmaaGreat
namespace Go.Proofs.YtbmaeaknlpgdmaaGreat
open Go.RowKit
set_option linter.unusedVariables false
set_option linter.unusedSimpArgs false
set_option maxRecDepth 100000 in
theorem same_any (a b : Vl) (w : World) : Pure Tryz.prog 78 #[a.agg, b.agg] w (.bool (cmpV a b == 0)) := by
  go_enter Tryz.func78, Tryz.ntmps78
  go_wp2_with fail
  refine (cmpV_any a b _).mono ?_
  rintro e w1 ⟨rfl, hb⟩
  go_wp2
  go_ret
  exact ⟨rfl, by (repeat (first | assumption | exact Below.refl _ _ | refine bl_drewN ?_ _ | refine bl_drew ?_ | refine bl_alloc ?_ _ | refine bl_step ?_ (by assumption)))⟩
theorem cmpR_cons {x y : Vl} {l m : List Vl} : cmpR (x :: l) (y :: m) = if cmpV x y = 0 then cmpR l m else cmpV x y := rfl
theorem cmpR_nil_nil : cmpR [] [] = 0 := rfl
theorem cmpR_nil_cons (y : Vl) (m : List Vl) : cmpR [] (y :: m) = -1 := rfl
theorem cmpR_cons_nil (x : Vl) (l : List Vl) : cmpR (x :: l) [] = 1 := rfl
set_option maxRecDepth 100000 in
set_option maxHeartbeats 1000000 in
theorem cmpFunc_any (A B : Option Addr) (n m c d : Nat) (xs ys : List Vl) (w : World) (hx : RdV w A n xs) (hy : RdV w B m ys) :
    Pure Tryz.prog 120 #[.slice A n c, .slice B m d, .func (.func 121) #[] #[]] w (.int .i64 (cmpR xs ys)) := by
  have hxm := hx.2.1
  have hym := hy.2.1
  have HX := Lib.hid hx
  have HY := Lib.hid hy
  have HL := Lib.hid hx.1
  have HM := Lib.hid hy.1
  clear hx hy
  go_enter Tryz.func120, Tryz.ntmps120
  go_wp2
  go_loopw [13] (fun i wr => ∃ k : Nat, k ≤ n ∧ k ≤ m ∧ i = .int .i64 k ∧ cmpR (xs.drop k) (ys.drop k) = cmpR xs ys ∧ Below w.heap.size w wr) (fun i _ => n - (intOf i).toNat)
  case atStart => exact ⟨0, Nat.zero_le _, Nat.zero_le _, rfl, rfl, Below.refl _ _⟩
  case round =>
    obtain ⟨k, hk, hkm, rfl, hc, hb⟩ := hrel
    have HC := Lib.hid hc
    clear hc
    by_cases hlt : k < n
    · obtain ⟨b1, o1, x, hA, hxk, x0, x1, x2, x3, hb1⟩ := HX.out.get_ hb hlt
      subst hA
      have hdx := Lib.hid (drop_at hxk)
      clear hxk
      by_cases hltm : k < m
      · have hltm' : decide ((m : Int) ≤ (k : Int)) = false := decide_eq_false (by omega)
        obtain ⟨b2, o2, y, hB, hyk, y0, y1, y2, y3, hb2⟩ := HY.out.get_ hb hltm
        subst hB
        have hdy := Lib.hid (drop_at hyk)
        clear hyk
        have q0 := pw_cell (bl_alloc (Below.refl _ wr) (.cells #[.int .i64 x.k, .int .i64 x.n, .float .f64 x.f, .string x.s] 33)) y0
        have q1 := pw_cell (bl_alloc (Below.refl _ wr) (.cells #[.int .i64 x.k, .int .i64 x.n, .float .f64 x.f, .string x.s] 33)) y1
        have q2 := pw_cell (bl_alloc (Below.refl _ wr) (.cells #[.int .i64 x.k, .int .i64 x.n, .float .f64 x.f, .string x.s] 33)) y2
        have q3 := pw_cell (bl_alloc (Below.refl _ wr) (.cells #[.int .i64 x.k, .int .i64 x.n, .float .f64 x.f, .string x.s] 33)) y3
        go_wp2_with fail
        refine (cmpV_any x y _).mono ?_
        rintro e w1 ⟨rfl, hb3⟩
        have hbb : Below w.heap.size w w1 := bl_step (bl_alloc (bl_alloc hb _) _) hb3
        clear x0 x1 x2 x3 y0 y1 y2 y3 q0 q1 q2 q3
        by_cases h0 : cmpV x y = 0
        · have H := Lib.hid (show cmpR (xs.drop (k + 1)) (ys.drop (k + 1)) = cmpR xs ys by rw [← HC.out, hdx.out, hdy.out, cmpR_cons, if_pos h0])
          have h0' : (cmpV x y == 0) = true := by simpa using h0
          have h0'' : (cmpV x y != 0) = false := by simpa using h0
          clear h0
          go_wp2
          go_roundw
          case rel => exact ⟨k + 1, by omega, by omega, by go_num, H.out, hbb⟩
          case measure => simp [intOf]; omega
        · have H := Lib.hid (show cmpR xs ys = cmpV x y by rw [← HC.out, hdx.out, hdy.out, cmpR_cons, if_neg h0])
          have h0' : (cmpV x y == 0) = false := by simpa using h0
          have h0'' : (cmpV x y != 0) = true := by simpa using h0
          clear h0
          go_wp2
          go_ret
          exact ⟨by rw [H.out]; rfl, hbb⟩
      · obtain rfl : k = m := by omega
        have H := Lib.hid (show cmpR xs ys = 1 by rw [← HC.out, hdx.out, show ys.drop k = [] from List.drop_eq_nil_of_le (by rw [HM.out]; exact Nat.le_refl _), cmpR_cons_nil])
        go_wp2
        go_ret
        exact ⟨by rw [H.out]; rfl, bl_alloc hb _⟩
    · obtain rfl : k = n := by omega
      by_cases hm : k < m
      · obtain ⟨b2, o2, y, hB, hyk, _⟩ := HY.out.get_ hb hm
        have hdy := drop_at hyk
        have H := Lib.hid (show cmpR xs ys = -1 by rw [← HC.out, hdy, show xs.drop k = [] from List.drop_eq_nil_of_le (by rw [HL.out]; exact Nat.le_refl _), cmpR_nil_cons])
        clear hyk hdy hB
        go_wp2
        go_ret
        exact ⟨by rw [H.out]; rfl, hb⟩
      · obtain rfl : k = m := by omega
        have H := Lib.hid (show cmpR xs ys = 0 by rw [← HC.out, show xs.drop k = [] from List.drop_eq_nil_of_le (by rw [HL.out]; exact Nat.le_refl _), show ys.drop k = [] from List.drop_eq_nil_of_le (by rw [HM.out]; exact Nat.le_refl _), cmpR_nil_nil])
        go_wp2
        go_ret
        exact ⟨by rw [H.out]; rfl, hb⟩
set_option maxRecDepth 100000 in
theorem rows1_any (A B : Option Addr) (n m c d : Nat) (xs ys : List Vl) (w : World) (hx : RdV w A n xs) (hy : RdV w B m ys) :
    Pure Tryz.prog 119 #[.slice A n c, .slice B m d] w (.int .i64 (cmpR xs ys)) := by
  have HX := Lib.hid hx
  have HY := Lib.hid hy
  clear hx hy
  go_enter Tryz.func119, Tryz.ntmps119
  go_wp2_with fail
  refine (cmpFunc_any A B n m c d xs ys _ HX.out HY.out).mono ?_
  rintro e w1 ⟨rfl, hb⟩
  go_wp2
  go_ret
  exact ⟨rfl, by (repeat (first | assumption | exact Below.refl _ _ | refine bl_drewN ?_ _ | refine bl_drew ?_ | refine bl_alloc ?_ _ | refine bl_step ?_ (by assumption)))⟩
end Go.Proofs.YtbmaeaknlpgdmaaGreat
