/- Lemmas on what the functions under this seat compute. -/
import Derived.Test.YtbmaeaknlpgdmaaGreatA05
namespace Go.Proofs.YtbmaeaknlpgdmaaGreat
open Go.RowKit
/-- The place of a column; -1: there is none. -/
def findC (l : List Cl) (s : ByteArray) : Int := match l.findIdx? (fun c => c.name.toList == s.toList) with | some k => (k : Int) | none => -1
theorem findC_hit {l : List Cl} {s : ByteArray} {k : Nat} {x : Cl} (hx : l[k]? = some x) (hn : (x.name.toList == s.toList) = true) (hb : ∀ j y, j < k → l[j]? = some y → (y.name.toList == s.toList) = false) : findC l s = k := by
  unfold findC
  have h : l.findIdx? (fun c => c.name.toList == s.toList) = some k := by
    obtain ⟨hk, rfl⟩ := List.getElem?_eq_some_iff.1 hx
    rw [List.findIdx?_eq_some_iff_getElem]
    refine ⟨hk, hn, fun j hj => ?_⟩
    rw [hb j _ hj (List.getElem?_eq_getElem (by omega))]; simp
  rw [h]
theorem findC_none {l : List Cl} {s : ByteArray} (hb : ∀ j y, j < l.length → l[j]? = some y → (y.name.toList == s.toList) = false) : findC l s = -1 := by
  unfold findC
  have h : l.findIdx? (fun c => c.name.toList == s.toList) = none := by
    rw [List.findIdx?_eq_none_iff]
    intro y hy
    obtain ⟨j, hj, rfl⟩ := List.getElem_of_mem hy
    exact hb j _ hj (List.getElem?_eq_getElem hj)
  rw [h]

set_option maxRecDepth 100000 in
theorem find1_any (x : Cl) (B : Nat) (s : ByteArray) (w : World) (hc : w.cell? ⟨B, 0, none⟩ = some (.string s)) : Pure Tryz.prog 132 #[x.agg, .pointer (some ⟨B, 0, none⟩)] w (.bool (x.name.toList == s.toList)) := by
  have hB := World.block_lt_of_cell? w _ hc
  dsimp only at hB
  go_enter Tryz.func132, Tryz.ntmps132
  go_wp2
  go_ret
  exact ⟨rfl, by (repeat (first | assumption | exact Below.refl _ _ | refine bl_drewN ?_ _ | refine bl_drew ?_ | refine bl_alloc ?_ _ | refine bl_step ?_ (by assumption)))⟩

set_option maxRecDepth 100000 in
theorem ixf_col (A : Option Addr) (n c B : Nat) (s : ByteArray) (xs : List Cl) (w : World) (hx : RdC w A n xs) (hc : w.cell? ⟨B, 0, none⟩ = some (.string s)) :
    Pure Tryz.prog 131 #[.slice A n c, .func (.func 132) #[] #[.pointer (some ⟨B, 0, none⟩)]] w (.int .i64 (findC xs s)) := by
  have Hl := Lib.hid hx.1
  have hxm := hx.2.1
  have HX := Lib.hid hx
  have HC := Lib.hid hc
  clear hx hc
  go_enter Tryz.func131, Tryz.ntmps131
  go_wp2
  go_loopw [8] (fun i wr => ∃ k : Nat, k ≤ n ∧ i = .int .i64 k ∧ (∀ j y, j < k → xs[j]? = some y → (y.name.toList == s.toList) = false) ∧ Below w.heap.size w wr) (fun i _ => n - (intOf i).toNat)
  case atStart => exact ⟨0, Nat.zero_le _, rfl, fun j x hj => by omega, Below.refl _ _⟩
  case round =>
    obtain ⟨k, hk, rfl, hall, hb⟩ := hrel
    have Hall := Lib.hid hall
    clear hall
    by_cases hlt : k < n
    · obtain ⟨b1, o1, x, hA, hxk, x0, x1, x2, x3, x4, x5, x6, hb1⟩ := HX.out.get_ hb hlt
      subst hA
      have Hxk := Lib.hid hxk
      clear hxk
      go_wp2_with fail
      refine (find1_any x B s _ (pw_cell hb HC.out)).mono ?_
      rintro e w1 ⟨rfl, hb1⟩
      cases hv : x.name.toList == s.toList with
      | true =>
        have H := Lib.hid (findC_hit Hxk.out hv Hall.out)
        clear hv x0 x1 x2 x3 x4 x5 x6
        go_wp2
        go_ret
        exact ⟨by rw [H.out]; rfl, bl_step hb hb1⟩
      | false =>
        have Hv := Lib.hid hv
        clear hv x0 x1 x2 x3 x4 x5 x6
        go_wp2
        go_roundw
        case rel => exact ⟨k + 1, by omega, by go_num, fun j y hj hy => (Nat.lt_succ_iff_lt_or_eq.1 hj).elim (fun h => Hall.out j y h hy) (fun h => by subst h; rw [Hxk.out] at hy; cases hy; exact Hv.out), bl_step hb hb1⟩
        case measure => simp [intOf]; omega
    · obtain rfl : k = n := by omega
      have H := Lib.hid (findC_none (s := s) (fun j y hj hy => Hall.out j y (by rw [← Hl.out]; exact hj) hy))
      go_wp2
      go_ret
      exact ⟨by rw [H.out]; rfl, hb⟩

set_option maxRecDepth 100000 in
theorem find_any (A : Option Addr) (n c : Nat) (s : ByteArray) (xs : List Cl) (w : World) (hx : RdC w A n xs) : Pure Tryz.prog 97 #[.slice A n c, .string s] w (.int .i64 (findC xs s)) := by
  have HX := Lib.hid hx
  clear hx
  go_enter Tryz.func97, Tryz.ntmps97
  go_wp2_with fail
  refine (ixf_col A n c w.heap.size s xs _ (HX.out.keep (by (repeat (first | assumption | exact Below.refl _ _ | refine bl_drewN ?_ _ | refine bl_drew ?_ | refine bl_alloc ?_ _ | refine bl_step ?_ (by assumption))))) (by simp)).mono ?_
  rintro e w1 ⟨rfl, hb⟩
  go_wp2
  go_ret
  exact ⟨rfl, by (repeat (first | assumption | exact Below.refl _ _ | refine bl_drewN ?_ _ | refine bl_drew ?_ | refine bl_alloc ?_ _ | refine bl_step ?_ (by assumption)))⟩

set_option maxRecDepth 100000 in
theorem rfind_any (A : Option Addr) (n c : Nat) (s : ByteArray) (xs : List Cl) (w : World) (hx : RdC w A n xs) : Calls Tryz.prog 113 #[.slice A n c, .string s] w fun e w' => e = .returned (.int .i64 (findC xs s)) ∧ w = w' := by
  have Hl := Lib.hid hx.1
  have hxm := hx.2.1
  have HX := Lib.hid hx
  clear hx
  go_enter Tryz.func113, Tryz.ntmps113
  go_wp2
  go_loop [5] (fun i => ∃ k : Nat, k ≤ n ∧ i = .int .i64 k ∧ (∀ j y, j < k → xs[j]? = some y → (y.name.toList == s.toList) = false)) (fun i => n - (intOf i).toNat)
  case atStart => exact ⟨0, Nat.zero_le _, rfl, fun j x hj => by omega⟩
  case round =>
    obtain ⟨k, hk, rfl, hall⟩ := hrel
    have Hall := Lib.hid hall
    clear hall
    by_cases hlt : k < n
    · obtain ⟨b1, o1, x, hA, hxk, x0, x1, x2, x3, x4, x5, x6, hb1⟩ := HX.out.get_ (Below.refl _ w) hlt
      subst hA
      have Hxk := Lib.hid hxk
      clear hxk
      cases hv : x.name.toList == s.toList with
      | true =>
        have H := Lib.hid (findC_hit Hxk.out hv Hall.out)
        go_wp2
        go_ret
        exact ⟨by rw [H.out]; rfl, rfl⟩
      | false =>
        have Hv := Lib.hid hv
        go_wp2
        go_round
        case rel => exact ⟨k + 1, by omega, by go_num, fun j y hj hy => (Nat.lt_succ_iff_lt_or_eq.1 hj).elim (fun h => Hall.out j y h hy) (fun h => by subst h; rw [Hxk.out] at hy; cases hy; exact Hv.out)⟩
        case measure => simp [intOf]; omega
    · obtain rfl : k = n := by omega
      have H := Lib.hid (findC_none (s := s) (fun j y hj hy => Hall.out j y (by rw [← Hl.out]; exact hj) hy))
      go_wp2
      go_ret
      exact ⟨by rw [H.out]; rfl, rfl⟩
end Go.Proofs.YtbmaeaknlpgdmaaGreat
namespace Go.Proofs.YtbmaeaknlpgdmaaGreat
open Go.RowKit
def oneC (c : Cl) : Bool := nameB c.name && decide (1 ≤ c.kind) && decide (c.kind ≤ 4) && goodV c.d && ((c.d.k == 0) || (c.d.k == c.kind))
/-- Are columns good? -/
def goodCs (l : List Cl) : Bool := decide (1 ≤ l.length ∧ l.length ≤ 6 ∧ ∀ i, i < l.length → ∀ x, l[i]? = some x → oneC x = true ∧ findC l x.name = (i : Int))
theorem goodCs_no {l : List Cl} {i : Nat} {x : Cl} (h : l[i]? = some x) (hx : oneC x = false ∨ (findC l x.name == (i : Int)) = false) : goodCs l = false := by
  unfold goodCs
  simp only [decide_eq_false_iff_not]
  rintro ⟨_, _, h3⟩
  obtain ⟨h4, h5⟩ := h3 i (List.getElem?_eq_some_iff.1 h).1 x h
  rcases hx with hx | hx
  · rw [h4] at hx; cases hx
  · rw [h5] at hx; simp at hx

set_option maxRecDepth 100000 in
set_option maxHeartbeats 1000000 in
theorem one_any (c : Cl) (w : World) : Pure Tryz.prog 135 #[c.agg] w (.bool (oneC c)) := by
  go_enter Tryz.func135, Tryz.ntmps135
  go_wp2_with fail
  refine (name_any c.name _).mono ?_
  rintro e w1 ⟨rfl, rfl⟩
  go_wp2_with fail
  all_goals try (go_ret; refine ⟨?_, by (repeat (first | assumption | exact Below.refl _ _ | refine bl_drewN ?_ _ | refine bl_drew ?_ | refine bl_alloc ?_ _ | refine bl_step ?_ (by assumption)))⟩; show Ending.returned (.bool _) = _; first | (simp_all [oneC]; done) | (simp_all [oneC]; omega) | (simp_all [oneC]; intros; omega))
  refine (good_any c.d _).mono ?_
  rintro e w1 ⟨rfl, hb1⟩
  have B1 := blk_below (blk_new w _) hb1
  obtain ⟨k1, f1⟩ := blk_rules B1
  have hz := blk_lt B1
  clear B1
  go_wp2
  all_goals (go_ret; refine ⟨?_, by (repeat (first | assumption | exact Below.refl _ _ | refine bl_drewN ?_ _ | refine bl_drew ?_ | refine bl_alloc ?_ _ | refine bl_step ?_ (by assumption)))⟩; show Ending.returned (.bool _) = _; first | (simp_all [oneC]; done) | (simp_all [oneC]; omega) | (simp_all [oneC]; intros; omega))

set_option maxRecDepth 100000 in
set_option maxHeartbeats 1000000 in
theorem goodCs_any (A : Option Addr) (n c : Nat) (xs : List Cl) (w : World) (hx : RdC w A n xs) : Pure Tryz.prog 134 #[.slice A n c] w (.bool (goodCs xs)) := by
  have hl := hx.1
  by_cases h1 : n < 1
  · have H := Lib.hid (show goodCs xs = false by unfold goodCs; rw [hl]; simp; omega)
    clear hl hx
    go_enter Tryz.func134, Tryz.ntmps134
    go_wp2
    go_step3
    go_wp2
    go_ret
    exact ⟨by rw [H.out]; rfl, by (repeat (first | assumption | exact Below.refl _ _ | refine bl_drewN ?_ _ | refine bl_drew ?_ | refine bl_alloc ?_ _ | refine bl_step ?_ (by assumption)))⟩
  by_cases h6 : 6 < n
  · have H := Lib.hid (show goodCs xs = false by unfold goodCs; rw [hl]; simp; omega)
    clear hl hx
    go_enter Tryz.func134, Tryz.ntmps134
    go_wp2
    go_step3
    go_wp2
    try rw [Exit.noGoto_ret]
    go_ret
    exact ⟨by rw [H.out]; rfl, by (repeat (first | assumption | exact Below.refl _ _ | refine bl_drewN ?_ _ | refine bl_drew ?_ | refine bl_alloc ?_ _ | refine bl_step ?_ (by assumption)))⟩
  have Hl := Lib.hid hl
  have HX := Lib.hid hx
  clear hl hx
  go_enter Tryz.func134, Tryz.ntmps134
  go_wp2
  go_step3
  go_wp2
  go_step3
  go_wp2
  go_loopw [15] (fun i wr => ∃ k : Nat, k ≤ n ∧ i = .int .i64 k ∧ (∀ j y, j < k → xs[j]? = some y → oneC y = true ∧ findC xs y.name = (j : Int)) ∧ Below w.heap.size w wr) (fun i _ => n - (intOf i).toNat)
  case atStart => exact ⟨0, Nat.zero_le _, rfl, fun j x hj => by omega, Below.refl _ _⟩
  case round =>
    obtain ⟨k, hk, rfl, hall, hb⟩ := hrel
    have Hall := Lib.hid hall
    clear hall
    by_cases hlt : k < n
    · obtain ⟨b1, o1, x, hA, hxk, x0, x1, x2, x3, x4, x5, x6, hb1⟩ := HX.out.get_ hb hlt
      subst hA
      have Hxk := Lib.hid hxk
      clear hxk
      go_wp2_with fail
      refine (one_any x _).mono ?_
      rintro e w1 ⟨rfl, hb1⟩
      have B1 := Lib.hid (blk_below (blk_new wr _) hb1)
      obtain ⟨k1, f1⟩ := blk_rules B1.out
      have hz := blk_lt B1.out
      have hB : Below w.heap.size w w1 := bl_step (bl_alloc hb _) hb1
      cases hv : oneC x with
      | false =>
        have H := Lib.hid (goodCs_no Hxk.out (.inl hv))
        clear hv x0 x1 x2 x3 x4 x5 x6
        go_wp2
        try rw [Exit.noGoto_ret]
        go_ret
        exact ⟨by rw [H.out]; rfl, hB⟩
      | true =>
        have Hv := Lib.hid hv
        clear hv x0 x1 x2 x3 x4 x5 x6
        go_wp2_with fail
        refine (find_any _ n c x.name xs _ (HX.out.keep hB)).mono ?_
        rintro e w2 ⟨rfl, hb2⟩
        clear k1 f1
        cases hf : findC xs x.name == (k : Int) with
        | false =>
          have H := Lib.hid (goodCs_no Hxk.out (.inr hf))
          go_wp2
          try rw [Exit.noGoto_ret]
          go_ret
          exact ⟨by rw [H.out]; rfl, bl_step hB hb2⟩
        | true =>
          have Hf := Lib.hid hf
          go_wp2
          go_roundw
          case rel => exact ⟨k + 1, by omega, by go_num, fun j y hj hy => (Nat.lt_succ_iff_lt_or_eq.1 hj).elim (fun h => Hall.out j y h hy) (fun h => by subst h; rw [Hxk.out] at hy; cases hy; exact ⟨Hv.out, by have := Hf.out; simpa using this⟩), bl_step hB hb2⟩
          case measure => simp [intOf]; omega
    · obtain rfl : k = n := by omega
      have H := Lib.hid (show goodCs xs = true by
        unfold goodCs; simp only [decide_eq_true_eq]
        exact ⟨by rw [Hl.out]; omega, by rw [Hl.out]; omega, fun i hi x hx => Hall.out i x (by rw [← Hl.out]; exact hi) hx⟩)
      go_wp2
      try rw [Exit.noGoto_ret]
      go_ret
      exact ⟨by rw [H.out]; rfl, hb⟩

theorem oneC_no1 {c : Cl} (h : nameB c.name = false) : oneC c = false := by unfold oneC; rw [h]; rfl
theorem oneC_no2 {c : Cl} (h : ¬ (1 ≤ c.kind ∧ c.kind ≤ 4)) : oneC c = false := by
  unfold oneC; rw [Bool.eq_false_iff]; intro hh; simp only [Bool.and_eq_true, decide_eq_true_eq] at hh; exact h ⟨hh.1.1.1.2, hh.1.1.2⟩
theorem oneC_no3 {c : Cl} (h : goodV c.d = false) : oneC c = false := by unfold oneC; rw [h]; simp
theorem oneC_no4 {c : Cl} (h0 : ¬ c.d.k = 0) (h1 : ¬ c.d.k = c.kind) : oneC c = false := by unfold oneC; simp [h0, h1]
theorem oneC_yes {c : Cl} (h : nameB c.name = true) (h1 : 1 ≤ c.kind) (h2 : c.kind ≤ 4) (h3 : goodV c.d = true) (h4 : c.d.k = 0 ∨ c.d.k = c.kind) : oneC c = true := by unfold oneC; simp [h, h1, h2, h3, h4]

set_option maxRecDepth 100000 in
set_option maxHeartbeats 4000000 in
theorem rgoodCs_any (A : Option Addr) (n c : Nat) (xs : List Cl) (w : World) (hx : RdC w A n xs) : Pure Tryz.prog 110 #[.slice A n c] w (.bool (goodCs xs)) := by
  have hl := hx.1
  by_cases h1 : n < 1
  · have H := Lib.hid (show goodCs xs = false by unfold goodCs; rw [hl]; simp; omega)
    clear hl hx
    go_enter Tryz.func110, Tryz.ntmps110
    go_wp2
    go_ret
    exact ⟨by rw [H.out]; rfl, by (repeat (first | assumption | exact Below.refl _ _ | refine bl_drewN ?_ _ | refine bl_drew ?_ | refine bl_alloc ?_ _ | refine bl_step ?_ (by assumption)))⟩
  by_cases h6 : 6 < n
  · have H := Lib.hid (show goodCs xs = false by unfold goodCs; rw [hl]; simp; omega)
    clear hl hx
    go_enter Tryz.func110, Tryz.ntmps110
    go_wp2
    go_ret
    exact ⟨by rw [H.out]; rfl, by (repeat (first | assumption | exact Below.refl _ _ | refine bl_drewN ?_ _ | refine bl_drew ?_ | refine bl_alloc ?_ _ | refine bl_step ?_ (by assumption)))⟩
  have Hl := Lib.hid hl
  have HX := Lib.hid hx
  clear hl hx
  go_enter Tryz.func110, Tryz.ntmps110
  go_wp2
  go_loopw [3] (fun i wr => ∃ k : Nat, k ≤ n ∧ i = .int .i64 k ∧ (∀ j y, j < k → xs[j]? = some y → oneC y = true ∧ findC xs y.name = (j : Int)) ∧ Below w.heap.size w wr) (fun i _ => n - (intOf i).toNat)
  case atStart => exact ⟨0, Nat.zero_le _, rfl, fun j x hj => by omega, Below.refl _ _⟩
  case round =>
    obtain ⟨k, hk, rfl, hall, hb⟩ := hrel
    have Hall := Lib.hid hall
    clear hall
    by_cases hlt : k < n
    · obtain ⟨b1, o1, x, hA, hxk, x0, x1, x2, x3, x4, x5, x6, hb1⟩ := HX.out.get_ hb hlt
      subst hA
      have Hxk := Lib.hid hxk
      clear hxk
      go_wp2_with fail
      refine (rname_any x.name _).mono ?_
      rintro e w1 ⟨rfl, rfl⟩
      have hBA : Below w.heap.size w (wr.alloc (.cells #[.string x.name, .int .i64 x.kind, .bool x.nn, .int .i64 x.d.k, .int .i64 x.d.n, .float .f64 x.d.f, .string x.d.s] 85)) := bl_alloc hb _
      cases hnb : nameB x.name with
      | false =>
        have H := Lib.hid (goodCs_no Hxk.out (.inl (oneC_no1 hnb)))
        clear x0 x1 x2 x3 x4 x5 x6
        go_wp2
        go_ret
        exact ⟨by rw [H.out]; rfl, hBA⟩
      | true =>
        have Hnb := Lib.hid hnb
        clear hnb x0 x1 x2 x3 x4 x5 x6
        go_wp2_with fail
        refine (rfind_any _ n c x.name xs _ (HX.out.keep hBA)).mono ?_
        rintro e w2 ⟨rfl, rfl⟩
        cases hf : findC xs x.name == (k : Int) with
        | false =>
          have hf' : (findC xs x.name != (k : Int)) = true := by simp at hf; simp [hf]
          have H := Lib.hid (goodCs_no Hxk.out (.inr hf))
          clear hf
          go_wp2
          go_ret
          exact ⟨by rw [H.out]; rfl, hBA⟩
        | true =>
          have hf' : (findC xs x.name != (k : Int)) = false := by simp at hf; simp [hf]
          have Hf := Lib.hid hf
          clear hf
          by_cases hki : 1 ≤ x.kind ∧ x.kind ≤ 4
          · obtain ⟨hk1, hk2⟩ := hki
            go_wp2_with fail
            refine (rgood_any x.d _).mono ?_
            rintro e w3 ⟨rfl, hb3⟩
            have B1 := Lib.hid (blk_below (blk_new wr _) hb3)
            obtain ⟨z1, f1⟩ := blk_rules B1.out
            have hz := blk_lt B1.out
            have hB3 : Below w.heap.size w w3 := bl_step hBA hb3
            cases hg : goodV x.d with
            | false =>
              have H := Lib.hid (goodCs_no Hxk.out (.inl (oneC_no3 hg)))
              clear hg
              go_wp2
              go_ret
              exact ⟨by rw [H.out]; rfl, hB3⟩
            | true =>
              have Hg := Lib.hid hg
              clear hg
              by_cases hd0 : x.d.k = 0
              · have Ho := Lib.hid (oneC_yes Hnb.out hk1 hk2 Hg.out (.inl hd0))
                have hd0' : (x.d.k != 0) = false := by simp [hd0]
                clear hd0
                go_wp2
                go_roundw
                case rel => exact ⟨k + 1, by omega, by go_num, fun j y hj hy => (Nat.lt_succ_iff_lt_or_eq.1 hj).elim (fun h => Hall.out j y h hy) (fun h => by subst h; rw [Hxk.out] at hy; cases hy; exact ⟨Ho.out, by have := Hf.out; simpa using this⟩), hB3⟩
                case measure => simp [intOf]; omega
              · have hd0' : (x.d.k != 0) = true := by simp [hd0]
                by_cases hd1 : x.d.k = x.kind
                · have Ho := Lib.hid (oneC_yes Hnb.out hk1 hk2 Hg.out (.inr hd1))
                  have hd1' : (x.d.k != x.kind) = false := by simp [hd1]
                  clear hd0 hd1
                  go_wp2
                  go_roundw
                  case rel => exact ⟨k + 1, by omega, by go_num, fun j y hj hy => (Nat.lt_succ_iff_lt_or_eq.1 hj).elim (fun h => Hall.out j y h hy) (fun h => by subst h; rw [Hxk.out] at hy; cases hy; exact ⟨Ho.out, by have := Hf.out; simpa using this⟩), hB3⟩
                  case measure => simp [intOf]; omega
                · have H := Lib.hid (goodCs_no Hxk.out (.inl (oneC_no4 hd0 hd1)))
                  have hd1' : (x.d.k != x.kind) = true := by simp [hd1]
                  clear hd0 hd1
                  go_wp2
                  go_ret
                  exact ⟨by rw [H.out]; rfl, hB3⟩
          · have H := Lib.hid (goodCs_no Hxk.out (.inl (oneC_no2 hki)))
            by_cases hk1 : x.kind < 1
            · clear hki
              go_wp2
              go_ret
              exact ⟨by rw [H.out]; rfl, hBA⟩
            · have hk2 : 4 < x.kind := by omega
              clear hki
              go_wp2
              go_ret
              exact ⟨by rw [H.out]; rfl, hBA⟩
    · obtain rfl : k = n := by omega
      have H := Lib.hid (show goodCs xs = true by
        unfold goodCs; simp only [decide_eq_true_eq]
        exact ⟨by rw [Hl.out]; omega, by rw [Hl.out]; omega, fun i hi x hx => Hall.out i x (by rw [← Hl.out]; exact hi) hx⟩)
      go_wp2
      go_ret
      exact ⟨by rw [H.out]; rfl, hb⟩
end Go.Proofs.YtbmaeaknlpgdmaaGreat
