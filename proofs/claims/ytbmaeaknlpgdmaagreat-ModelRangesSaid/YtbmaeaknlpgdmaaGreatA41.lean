/- Ranges, in plain words: what a range finds is what its parts find. -/
import Derived.Test.YtbmaeaknlpgdmaaGreatA40
namespace Go.Proofs.YtbmaeaknlpgdmaaGreat
open Go.RowKit Go.Sort
set_option linter.unusedVariables false
set_option linter.unusedSimpArgs false
/-- A whole number. -/
def nV (n : Int) : Vl := ⟨2, n, 0, ⟨#[]⟩⟩
def z0 : Vl := ⟨0, 0, 0, ⟨#[]⟩⟩
def sA : ByteArray := ⟨#[97]⟩
def sB : ByteArray := ⟨#[98]⟩
def sT : ByteArray := ⟨#[116]⟩
def cols2 : List Cl := [⟨sA, 2, false, z0⟩, ⟨sB, 2, false, z0⟩]
def stC : St := { k := 10, t := sT, nm := ⟨#[]⟩, c := ⟨#[]⟩, se := ⟨#[]⟩, v := z0, w := z0, row := [], cols := cols2, fl := false }
def stI (x i : Int) : St := { k := 4, t := sT, nm := ⟨#[]⟩, c := ⟨#[]⟩, se := ⟨#[]⟩, v := z0, w := z0, row := [nV x, nV i], cols := [], fl := false }
def stR (a b : Int) : St := { k := 8, t := sT, nm := ⟨#[]⟩, c := sA, se := ⟨#[]⟩, v := nV a, w := nV b, row := [], cols := [], fl := false }
def stF (v : Int) : St := { k := 7, t := sT, nm := ⟨#[]⟩, c := sA, se := ⟨#[]⟩, v := nV v, w := z0, row := [], cols := [], fl := false }
/-- The first k rows. -/
def rowsK (xs : List Int) (k : Nat) : List (List Vl) := (List.range k).map fun (i : Nat) => [nV (xs.getD i 0), nV i]
theorem rowsK_succ (xs : List Int) (k : Nat) : rowsK xs (k + 1) = rowsK xs k ++ [[nV (xs.getD k 0), nV k]] := by
  unfold rowsK; rw [List.range_succ, List.map_append]; rfl
theorem rowsK_len (xs : List Int) (k : Nat) : (rowsK xs k).length = k := by simp [rowsK]
def tbK (xs : List Int) (k : Nat) : Tb := ⟨cols2, rowsK xs k, []⟩
theorem rowsK_mem {xs : List Int} {k : Nat} {r : List Vl} (h : r ∈ rowsK xs k) : ∃ x i : Int, r = [nV x, nV i] := by
  simp only [rowsK, List.mem_map] at h
  obtain ⟨i, _, rfl⟩ := h
  exact ⟨_, _, rfl⟩
theorem tbK_ok (xs : List Int) (k : Nat) (hk : k ≤ 1000) : TbOK (tbK xs k) := ⟨by show cols2.length ≤ 1000; decide, by simp [tbK, rowsK_len]; exact hk, fun r hr => by obtain ⟨x, i, rfl⟩ := rowsK_mem hr; rfl⟩
theorem cmp_nV (x a : Int) : cmpV (nV x) (nV a) = cmpI x a := by
  have h1 : cmpI (2 : Int) 2 = 0 := by decide
  have h2 : cmpF 0 0 = 0 := by decide
  have h3 : cmpS ⟨#[]⟩ ⟨#[]⟩ = 0 := rfl
  show (if cmpI 2 2 = 0 then (if cmpI x a = 0 then (if cmpF 0 0 = 0 then (if cmpS ⟨#[]⟩ ⟨#[]⟩ = 0 then 0 else cmpS ⟨#[]⟩ ⟨#[]⟩) else cmpF 0 0) else cmpI x a) else cmpI 2 2) = cmpI x a
  rw [if_pos h1, if_pos h2, if_pos h3]
  split
  · rename_i h; exact h.symm
  · rfl
theorem findA : findC cols2 sA = (0 : Nat) := by kernel_rfl
theorem cmpI_neg (x y : Int) : cmpI x y < 0 ↔ x < y := by unfold cmpI; split <;> (try split) <;> omega
theorem cmpI_zero (x y : Int) : cmpI x y = 0 ↔ x = y := by unfold cmpI; split <;> (try split) <;> omega
theorem cmpI_nn (x y : Int) : 0 ≤ cmpI x y ↔ y ≤ x := by unfold cmpI; split <;> (try split) <;> omega
theorem meansR_rng (a b x i : Int) : meansR (stR a b) 0 [nV x, nV i] = (decide (a ≤ x) && decide (x < b)) := by
  show (decide (0 ≤ cmpV (nV x) (nV a)) && decide (cmpV (nV x) (nV b) < 0)) = _
  rw [cmp_nV, cmp_nV, decide_eq_decide.2 (cmpI_nn x a), decide_eq_decide.2 (cmpI_neg x b)]
theorem meansR_fnd (v x i : Int) : meansR (stF v) 0 [nV x, nV i] = decide (x = v) := by
  show (cmpV (nV x) (nV v) == 0) = _
  rw [cmp_nV, ← decide_eq_decide.2 (cmpI_zero x v)]
  rfl
/-- The rows that a range means. -/
def inR (xs : List Int) (k : Nat) (a b : Int) : List (List Vl) := (rowsK xs k).filter (meansR (stR a b) 0)
def inF (xs : List Int) (k : Nat) (v : Int) : List (List Vl) := (rowsK xs k).filter (meansR (stF v) 0)
theorem rep_rng (xs : List Int) (k : Nat) (a b : Int) : findRep (tbK xs k) (stR a b) = (0, inR xs k a b) := by
  unfold findRep hitsT
  have h : findC (tbK xs k).cols (stR a b).c = (0 : Nat) := findA
  rw [h, if_neg (by omega)]
  rfl
theorem rep_fnd (xs : List Int) (k : Nat) (v : Int) : findRep (tbK xs k) (stF v) = (0, inF xs k v) := by
  unfold findRep hitsT
  have h : findC (tbK xs k).cols (stF v).c = (0 : Nat) := findA
  rw [h, if_neg (by omega)]
  rfl
theorem two_len (l : List (List Vl)) (hl : ∀ r ∈ l, ∃ x i : Int, r = [nV x, nV i]) (p q s : List Vl → Bool) (h : ∀ x i : Int, ((p [nV x, nV i] = (q [nV x, nV i] || s [nV x, nV i])) ∧ (q [nV x, nV i] && s [nV x, nV i]) = false)) : (l.filter p).length = (l.filter q).length + (l.filter s).length ∧ (l.filter p).Perm (l.filter q ++ l.filter s) := by
  induction l with
  | nil => exact ⟨rfl, .refl _⟩
  | cons r l ih =>
    obtain ⟨i1, i2⟩ := ih (fun r hr => hl r (List.mem_cons_of_mem _ hr))
    obtain ⟨x, i, rfl⟩ := hl r (List.mem_cons_self ..)
    obtain ⟨h1, h2⟩ := h x i
    simp only [List.filter_cons, h1]
    cases hq : q [nV x, nV i] <;> cases hs : s [nV x, nV i]
    · simpa using ⟨i1, i2⟩
    · simp only [Bool.or_true, Bool.false_eq_true, if_true, if_false, List.length_cons]
      exact ⟨by omega, (i2.cons _).trans List.perm_middle.symm⟩
    · simp only [Bool.or_false, Bool.false_eq_true, if_true, if_false, List.length_cons]
      exact ⟨by omega, i2.cons _⟩
    · rw [hq, hs] at h2; cases h2
theorem rng_two (xs : List Int) (k : Nat) {a b c : Int} (h1 : a ≤ b) (h2 : b ≤ c) : (inR xs k a c).length = (inR xs k a b).length + (inR xs k b c).length ∧ (inR xs k a c).Perm (inR xs k a b ++ inR xs k b c) :=
  two_len _ (fun r hr => rowsK_mem hr) _ _ _ fun x i => by
    rw [meansR_rng, meansR_rng, meansR_rng]
    by_cases g1 : a ≤ x <;> by_cases g2 : x < b <;> by_cases g3 : b ≤ x <;> by_cases g4 : x < c <;> simp [g1, g2, g3, g4] <;> omega
theorem rng_one (xs : List Int) (k : Nat) {a v : Int} (h1 : a ≤ v) : (inR xs k a (v + 1)).length = (inR xs k a v).length + (inF xs k v).length :=
  (two_len _ (fun r hr => rowsK_mem hr) _ _ _ fun x i => by
    rw [meansR_rng, meansR_rng, meansR_fnd]
    by_cases g1 : a ≤ x <;> by_cases g2 : x < v <;> by_cases g3 : x = v <;> by_cases g4 : x < v + 1 <;> simp [g1, g2, g3, g4] <;> omega).1
theorem rng_none (xs : List Int) (k : Nat) (a : Int) : inR xs k a a = [] := by
  unfold inR
  rw [List.filter_eq_nil_iff]
  intro r hr
  obtain ⟨x, i, rfl⟩ := rowsK_mem hr
  rw [meansR_rng]
  simp
theorem inR_mem {xs : List Int} {k : Nat} {a b : Int} {r : List Vl} (h : r ∈ inR xs k a b) : ∃ x i : Int, r = [nV x, nV i] ∧ a ≤ x ∧ x < b := by
  obtain ⟨h1, h2⟩ := List.mem_filter.1 h
  obtain ⟨x, i, rfl⟩ := rowsK_mem h1
  rw [meansR_rng] at h2
  simp at h2
  exact ⟨x, i, rfl, h2.1, h2.2⟩
theorem cmpR_nV (x i y j : Int) : cmpR [nV x, nV i] [nV y, nV j] = if cmpI x y = 0 then cmpI i j else cmpI x y := by
  show (if cmpV (nV x) (nV y) = 0 then (if cmpV (nV i) (nV j) = 0 then 0 else cmpV (nV i) (nV j)) else cmpV (nV x) (nV y)) = _
  rw [cmp_nV, cmp_nV]
  split
  · split
    · rename_i h; exact h.symm
    · rfl
  · rfl
/-- Sorted, a range is its two parts, one behind the other. -/
theorem rng_app (xs : List Int) (k : Nat) {a b c : Int} (h1 : a ≤ b) (h2 : b ≤ c) {l m n : List (List Vl)} (hl : Ordered (inR xs k a c) l) (hm : Ordered (inR xs k a b) m) (hn : Ordered (inR xs k b c) n) : l = m ++ n := by
  refine List.Perm.eq_of_pairwise (le := fun a b => ¬ cmpR b a < 0) ?_ hl.2 ?_ (hl.1.trans ((rng_two xs k h1 h2).2.trans (hm.1.append hn.1).symm))
  · intro r s hr hs u v
    obtain ⟨x, i, rfl, _, _⟩ := inR_mem (hl.1.mem_iff.1 hr)
    have hs' : s ∈ inR xs k a c := (rng_two xs k h1 h2).2.mem_iff.2 ((hm.1.append hn.1).mem_iff.1 hs)
    obtain ⟨y, j, rfl, _, _⟩ := inR_mem hs'
    rw [cmpR_nV] at u v
    have e1 : x = y := by
      by_cases g : x = y
      · exact g
      · rw [if_neg (mt (cmpI_zero _ _).1 (Ne.symm g))] at u
        rw [if_neg (mt (cmpI_zero _ _).1 g)] at v
        have := mt (cmpI_neg y x).2 u
        have := mt (cmpI_neg x y).2 v
        omega
    subst e1
    rw [if_pos ((cmpI_zero _ _).2 rfl)] at u v
    have := mt (cmpI_neg j i).2 u
    have := mt (cmpI_neg i j).2 v
    rw [show i = j by omega]
  · rw [List.pairwise_append]
    refine ⟨hm.2, hn.2, fun r hr s hs => ?_⟩
    obtain ⟨x, i, rfl, _, hx⟩ := inR_mem (hm.1.mem_iff.1 hr)
    obtain ⟨y, j, rfl, hy, _⟩ := inR_mem (hn.1.mem_iff.1 hs)
    rw [cmpR_nV, if_neg (mt (cmpI_zero _ _).1 (by omega)), cmpI_neg]
    omega
/-- The statements are good. -/
theorem good_nV (n : Int) : goodV (nV n) = true := by kernel_rfl
theorem good_C : goodS stC = true := by decide +kernel
theorem good_I (x i : Int) : goodS (stI x i) = true := by kernel_rfl
theorem good_R (a b : Int) : goodS (stR a b) = true := by kernel_rfl
theorem good_F (v : Int) : goodS (stF v) = true := by kernel_rfl
theorem fill_I (x i : Int) : fillE cols2 (stI x i).row = 0 := by kernel_rfl
theorem pad_I (x i : Int) : padL cols2 (stI x i).row = [nV x, nV i] := by rfl
theorem ins_I (xs : List Int) (k : Nat) (hk : k < 512) : insT (tbK xs k) (stI (xs.getD k 0) k).row true = ⟨0, 1, tbK xs (k + 1)⟩ := by
  unfold insT
  have h1 : fillE (tbK xs k).cols (stI (xs.getD k 0) k).row = 0 := fill_I _ _
  rw [h1, if_neg (by omega), if_neg (by decide), if_neg (by simp [tbK, rowsK_len]; omega)]
  show TRep.mk 0 1 ⟨cols2, rowsK xs k ++ [padL cols2 (stI (xs.getD k 0) k).row], []⟩ = TRep.mk 0 1 ⟨cols2, rowsK xs (k + 1), []⟩
  rw [pad_I, rowsK_succ]
theorem create_C : createM [] stC = (0, [(sT, tbK [] 0)]) := rfl
theorem set_T (t t' : Tb) : setS [(sT, t)] sT t' = [(sT, t')] := by simp [setS]
end Go.Proofs.YtbmaeaknlpgdmaaGreat
