/- The orders of values and of rows are total. The library's stable sort of rows: of any row of rows. -/
import Derived.Test.YtbmaeaknlpgdmaaGreatA08
import Derived.Test.YtbmaeaknlpgdmaaGreatA38
import Derived.Test.YtbmaeaknlpgdmaaGreatA37
namespace Go.Proofs.YtbmaeaknlpgdmaaGreat
open Go.RowKit Go.Sort
set_option linter.unusedVariables false
set_option linter.unusedSimpArgs false
/-- A comparison that is one: antisymmetric, transitive. -/
structure Ord {α : Type} (c : α → α → Int) : Prop where
  anti : ∀ x y, c y x = - c x y
  tr : ∀ x y z, c x y ≤ 0 → c y z ≤ 0 → c x z ≤ 0
theorem Ord.refl {α : Type} {c : α → α → Int} (h : Ord c) (x : α) : c x x = 0 := by have := h.anti x x; omega
theorem Ord.lt1 {α : Type} {c : α → α → Int} (h : Ord c) {x y z : α} (a : c x y < 0) (b : c y z ≤ 0) : c x z < 0 := by
  have h1 := h.tr x y z (by omega) b
  have h2 := h.anti x z
  have h3 := h.anti x y
  have h4 := h.tr y z x b
  omega
theorem Ord.lt2 {α : Type} {c : α → α → Int} (h : Ord c) {x y z : α} (a : c x y ≤ 0) (b : c y z < 0) : c x z < 0 := by
  have h1 := h.tr x y z a (by omega)
  have h2 := h.anti x z
  have h3 := h.anti y z
  have h4 := h.tr z x y
  omega
theorem Ord.eq {α : Type} {c : α → α → Int} (h : Ord c) {x y z : α} (a : c x y = 0) (b : c y z = 0) : c x z = 0 := by
  have h1 := h.tr x y z (by omega) (by omega)
  have h2 := h.anti x z
  have h3 := h.anti y z
  have h5 := h.anti x y
  have h4 := h.tr z y x (by omega) (by omega)
  omega
theorem Ord.swo {α β : Type} {c : α → α → Int} (h : Ord c) (ρ : β → α) : SWO (fun s t => decide (c (ρ s) (ρ t) < 0)) := by
  refine ⟨fun x => ?_, fun x y z => ?_, fun x y z => ?_⟩
  · rw [h.refl]; rfl
  · rw [decide_eq_true_eq, decide_eq_true_eq, decide_eq_true_eq]
    intro a b
    exact h.lt1 a (by omega)
  · rw [decide_eq_false_iff_not, decide_eq_false_iff_not, decide_eq_false_iff_not]
    intro a b
    have h1 := h.anti (ρ x) (ρ y)
    have h2 := h.anti (ρ y) (ρ z)
    have h3 := h.anti (ρ x) (ρ z)
    have h4 := h.tr (ρ z) (ρ y) (ρ x) (by omega) (by omega)
    omega
theorem Ord.map {α β : Type} {c : α → α → Int} (h : Ord c) (f : β → α) : Ord (fun x y => c (f x) (f y)) := ⟨fun x y => h.anti _ _, fun x y z => h.tr _ _ _⟩
theorem Ord.lex {α : Type} {c e : α → α → Int} (h : Ord c) (k : Ord e) : Ord (fun x y => if c x y = 0 then e x y else c x y) := by
  refine ⟨fun x y => ?_, fun x y z => ?_⟩
  · have h1 := h.anti x y
    have h2 := k.anti x y
    split <;> split <;> omega
  · show (if c x y = 0 then e x y else c x y) ≤ 0 → (if c y z = 0 then e y z else c y z) ≤ 0 → (if c x z = 0 then e x z else c x z) ≤ 0
    intro a b
    by_cases h1 : c x y = 0
    · rw [if_pos h1] at a
      by_cases h2 : c y z = 0
      · rw [if_pos h2] at b
        rw [if_pos (h.eq h1 h2)]
        exact k.tr x y z a b
      · rw [if_neg h2] at b
        have := h.lt2 (x := x) (y := y) (z := z) (by omega) (by omega)
        rw [if_neg (by omega)]; omega
    · rw [if_neg h1] at a
      have hb : c y z ≤ 0 := by
        by_cases h2 : c y z = 0
        · omega
        · rw [if_neg h2] at b; exact b
      have := h.lt1 (x := x) (y := y) (z := z) (by omega) hb
      rw [if_neg (by omega)]; omega
theorem ord_cmpI : Ord cmpI := ⟨fun x y => by unfold cmpI; split <;> split <;> omega, fun x y z => by unfold cmpI; split <;> split <;> (try split) <;> (try split) <;> (try split) <;> omega⟩
/-- Rows, by their values. -/
theorem ord_list {α : Type} {c : α → α → Int} (h : Ord c) (r : List α → List α → Int) (h0 : r [] [] = 0) (h1 : ∀ x l, r [] (x :: l) = -1) (h2 : ∀ x l, r (x :: l) [] = 1) (h3 : ∀ x l y m, r (x :: l) (y :: m) = if c x y = 0 then r l m else c x y) : Ord r := by
  refine ⟨fun x => ?_, fun x => ?_⟩
  · induction x with
    | nil => intro y; cases y <;> simp [h0, h1, h2]
    | cons a la ih =>
      intro y
      cases y with
      | nil => simp [h1, h2]
      | cons b lb =>
        rw [h3, h3]
        have := ih lb
        have := h.anti a b
        split <;> split <;> omega
  · induction x with
    | nil => intro y z; cases y <;> cases z <;> simp [h0, h1, h2]
    | cons a la ih =>
      intro y z
      cases y with
      | nil => simp [h2]
      | cons b lb =>
        cases z with
        | nil => simp [h2]
        | cons e lc =>
          rw [h3, h3, h3]
          intro u v
          by_cases g1 : c a b = 0
          · rw [if_pos g1] at u
            by_cases g2 : c b e = 0
            · rw [if_pos g2] at v
              rw [if_pos (h.eq g1 g2)]
              exact ih lb lc u v
            · rw [if_neg g2] at v
              have := h.lt2 (x := a) (y := b) (z := e) (by omega) (by omega)
              rw [if_neg (by omega)]; omega
          · rw [if_neg g1] at u
            have hb : c b e ≤ 0 := by
              by_cases g2 : c b e = 0
              · omega
              · rw [if_neg g2] at v; exact v
            have := h.lt1 (x := a) (y := b) (z := e) (by omega) hb
            rw [if_neg (by omega)]; omega
theorem ord_bytes : Ord Lib.compareBytes := ord_list (ord_cmpI.map (fun b : UInt8 => (b.toNat : Int))) _ rfl (fun _ _ => rfl) (fun _ _ => rfl) (fun a l b m => by
  have h1 : (a < b) ↔ a.toNat < b.toNat := UInt8.lt_iff_toNat_lt
  have h2 : (b < a) ↔ b.toNat < a.toNat := UInt8.lt_iff_toNat_lt
  show (if a < b then -1 else if b < a then 1 else Lib.compareBytes l m) = if cmpI a.toNat b.toNat = 0 then Lib.compareBytes l m else cmpI a.toNat b.toNat
  unfold cmpI
  by_cases g1 : a < b
  · have g : (a.toNat : Int) < b.toNat := by have := h1.1 g1; omega
    simp [g1, g]
  · have g : ¬ (a.toNat : Int) < b.toNat := by have := mt h1.2 g1; omega
    by_cases g2 : b < a
    · have g' : (b.toNat : Int) < a.toNat := by have := h2.1 g2; omega
      simp [g1, g2, g, g']
    · have g' : ¬ (b.toNat : Int) < a.toNat := by have := mt h2.2 g2; omega
      simp [g1, g2, g, g'])
theorem ord_cmpS : Ord cmpS := ord_bytes.map (fun (s : ByteArray) => s.data.toList)
/-- Where a float stands, and how far, with a common base. -/
def keyD (B : Int) : Ieee.Datum → Int × Int
  | .nan .. => (3, 0)
  | .infinity s => (if s then 0 else 2, 0)
  | .number s m i => (1, Ieee.signed s m (i - B).toNat)
def lowD (B : Int) : Ieee.Datum → Prop
  | .number _ _ i => B ≤ i
  | _ => True
theorem signed_more (s : Bool) (m x k : Nat) : Ieee.signed s m (x + k) = Ieee.signed s m x * 2 ^ k := by
  unfold Ieee.signed
  rw [Nat.shiftLeft_eq, Nat.shiftLeft_eq, Nat.pow_add]
  cases s
  · simp [Int.mul_assoc]
  · simp [Int.mul_assoc, Int.neg_mul]
theorem cmp_mul (a b : Int) (k : Nat) : compare (a * 2 ^ k) (b * 2 ^ k) = compare a b := by
  have hp : (0 : Int) < 2 ^ k := Int.pow_pos (by omega)
  have h1 : (a * 2 ^ k < b * 2 ^ k) ↔ a < b := Int.mul_lt_mul_right hp
  have h2 : (a * 2 ^ k = b * 2 ^ k) ↔ a = b := Int.mul_eq_mul_right_iff (by omega)
  show compareOfLessAndEq _ _ = compareOfLessAndEq _ _
  unfold compareOfLessAndEq
  simp only [h1, h2]
def cmpP (x y : Int × Int) : Int := if cmpI x.1 y.1 = 0 then cmpI x.2 y.2 else cmpI x.1 y.1
theorem ord_cmpP : Ord cmpP := (ord_cmpI.map (fun p : Int × Int => p.1)).lex (ord_cmpI.map (fun p : Int × Int => p.2))
theorem cmp_key (a b : Int) : some (compare a b) = some (if cmpP (1, a) (1, b) < 0 then Ordering.lt else if cmpP (1, a) (1, b) = 0 then Ordering.eq else Ordering.gt) := by
  congr 1
  show compareOfLessAndEq a b = _
  unfold compareOfLessAndEq
  simp only [cmpP, cmpI, if_neg (show ¬ (1 : Int) < 1 by omega), if_true]
  by_cases h1 : a < b
  · simp [h1]
  · by_cases h2 : a = b
    · subst h2; simp
    · have h3 : b < a := by omega
      simp [h1, h2, h3]
/-- The order of two data by their keys. -/
theorem order_key (B : Int) (x y : Ieee.Datum) (hx : lowD B x) (hy : lowD B y) :
    x.order y = if (keyD B x).1 = 3 ∨ (keyD B y).1 = 3 then none else some (if cmpP (keyD B x) (keyD B y) < 0 then .lt else if cmpP (keyD B x) (keyD B y) = 0 then .eq else .gt) := by
  cases x with
  | nan => cases y <;> simp [Ieee.Datum.order, keyD]
  | infinity s =>
    cases y with
    | nan => simp [Ieee.Datum.order, keyD]
    | infinity t => cases s <;> cases t <;> rfl
    | number t n j => cases s <;> simp [Ieee.Datum.order, keyD, cmpP, cmpI]
  | number s m i =>
    cases y with
    | nan => simp [Ieee.Datum.order, keyD]
    | infinity t => cases t <;> simp [Ieee.Datum.order, keyD, cmpP, cmpI]
    | number t n j =>
      have hx' : B ≤ i := hx
      have hy' : B ≤ j := hy
      rw [if_neg (show ¬ ((keyD B (.number s m i)).1 = 3 ∨ (keyD B (.number t n j)).1 = 3) by simp [keyD])]
      simp only [Ieee.Datum.order, keyD]
      rw [← cmp_mul _ _ ((min i j) - B).toNat, ← signed_more, ← signed_more, show (i - min i j).toNat + (min i j - B).toNat = (i - B).toNat by omega, show (j - min i j).toNat + (min i j - B).toNat = (j - B).toNat by omega]
      exact cmp_key _ _
theorem key_top (B : Int) (x : Ieee.Datum) : (keyD B x).1 ≤ 3 := by cases x <;> simp [keyD]; split <;> omega
theorem key_nan (B : Int) (x : Ieee.Datum) (h : (keyD B x).1 = 3) : keyD B x = (3, 0) := by
  cases x with
  | nan => rfl
  | infinity s => cases s <;> simp [keyD] at h
  | number s m i => simp [keyD] at h
theorem cmpF_key (B : Int) (a b : Nat) (ha : lowD B (FloatKind.f64.format.read a)) (hb : lowD B (FloatKind.f64.format.read b)) : cmpF a b = cmpP (keyD B (FloatKind.f64.format.read a)) (keyD B (FloatKind.f64.format.read b)) := by
  have key : ∀ x y : Ieee.Datum, lowD B x → lowD B y → (if (x.order x != some .eq && y.order y != some .eq) = true then (0 : Int) else if (x.order x != some .eq) = true then 1 else if (y.order y != some .eq) = true then -1 else if (x.order y == some .lt) = true then -1 else if (x.order y == some .gt) = true then 1 else 0) = cmpP (keyD B x) (keyD B y) := by
    intro x y hx hy
    rw [order_key B x x hx hx, order_key B y y hy hy, order_key B x y hx hy, ord_cmpP.refl, ord_cmpP.refl]
    have tx := key_top B x
    have ty := key_top B y
    by_cases gx : (keyD B x).1 = 3
    · have kx := key_nan B x gx
      by_cases gy : (keyD B y).1 = 3
      · have ky := key_nan B y gy
        simp [kx, ky, cmpP, cmpI]
      · have hlt : (keyD B y).1 < 3 := by omega
        simp [kx, gy, cmpP, cmpI, hlt, show ¬ (3 : Int) < (keyD B y).1 by omega]
    · by_cases gy : (keyD B y).1 = 3
      · have ky := key_nan B y gy
        have hlt : (keyD B x).1 < 3 := by omega
        simp [ky, gx, cmpP, cmpI, hlt]
      · simp only [gx, gy, or_self, if_false, if_neg]
        generalize keyD B x = u
        generalize keyD B y = v
        have hc : cmpP u v = -1 ∨ cmpP u v = 0 ∨ cmpP u v = 1 := by
          have hI : ∀ p q, cmpI p q = -1 ∨ cmpI p q = 0 ∨ cmpI p q = 1 := fun p q => by
            unfold cmpI
            split
            · exact .inl rfl
            · split
              · exact .inr (.inr rfl)
              · exact .inr (.inl rfl)
          unfold cmpP
          split
          · exact hI _ _
          · exact hI _ _
        rcases hc with hc | hc | hc <;> rw [hc] <;> rfl
  exact key _ _ ha hb
theorem low_of (x : Ieee.Datum) : ∃ B, ∀ B', B' ≤ B → lowD B' x := by
  cases x with
  | nan => exact ⟨0, fun _ _ => trivial⟩
  | infinity s => exact ⟨0, fun _ _ => trivial⟩
  | number s m i => exact ⟨i, fun _ h => h⟩
theorem ord_cmpF : Ord cmpF := by
  refine ⟨fun x y => ?_, fun x y z => ?_⟩
  · obtain ⟨b1, h1⟩ := low_of (FloatKind.f64.format.read x)
    obtain ⟨b2, h2⟩ := low_of (FloatKind.f64.format.read y)
    rw [cmpF_key (min b1 b2) x y (h1 _ (by omega)) (h2 _ (by omega)), cmpF_key (min b1 b2) y x (h2 _ (by omega)) (h1 _ (by omega))]
    exact ord_cmpP.anti _ _
  · obtain ⟨b1, h1⟩ := low_of (FloatKind.f64.format.read x)
    obtain ⟨b2, h2⟩ := low_of (FloatKind.f64.format.read y)
    obtain ⟨b3, h3⟩ := low_of (FloatKind.f64.format.read z)
    have k1 := h1 (min b1 (min b2 b3)) (by omega)
    have k2 := h2 (min b1 (min b2 b3)) (by omega)
    have k3 := h3 (min b1 (min b2 b3)) (by omega)
    rw [cmpF_key _ x y k1 k2, cmpF_key _ y z k2 k3, cmpF_key _ x z k1 k3]
    exact ord_cmpP.tr _ _ _
theorem ord_cmpV : Ord cmpV := by
  have h := (ord_cmpI.map (fun v : Vl => v.k)).lex ((ord_cmpI.map (fun v : Vl => v.n)).lex ((ord_cmpF.map (fun v : Vl => v.f)).lex (ord_cmpS.map (fun v : Vl => v.s))))
  have e : cmpV = fun (x y : Vl) => if cmpI x.k y.k = 0 then (if cmpI x.n y.n = 0 then (if cmpF x.f y.f = 0 then cmpS x.s y.s else cmpF x.f y.f) else cmpI x.n y.n) else cmpI x.k y.k := by
    funext x y
    unfold cmpV
    simp only [orL]
    by_cases g : cmpS x.s y.s = 0
    · rw [if_pos g]; split <;> first | rfl | (split <;> first | rfl | (split <;> first | rfl | exact g.symm))
    · rw [if_neg g]
  rw [e]
  exact h
theorem ord_cmpR : Ord cmpR := ord_list ord_cmpV cmpR rfl (fun _ _ => rfl) (fun _ _ => rfl) (fun _ _ _ _ => rfl)
theorem swo_R (ρ : Sl → List Vl) : SWO (ltR ρ) := ord_cmpR.swo ρ
end Go.Proofs.YtbmaeaknlpgdmaaGreat
namespace Go.Proofs.YtbmaeaknlpgdmaaGreat
open Go.RowKit Go.Sort
theorem stabOK_any {n : Nat} (hm : n ≤ 1000000) : StabOK n := fun w0 w g cap c d0 d ρ hcx hoff hp hb hn =>
  stable_any w0 w g cap n c d0 d ρ (swo_R ρ) (sym_any w0 g cap n c d0 ρ (swo_R ρ) hcx hn hm n) hcx hoff hp hb hn hm
end Go.Proofs.YtbmaeaknlpgdmaaGreat
