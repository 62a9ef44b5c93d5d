/- What the library's stable sort does to a row of things, in plain words: rotations, merges. The library's insertion sort over a row of rows. The library's stable sort of fewer than twenty rows: its insertion sort. -/
import Derived.Sort.LotA
import Derived.Test.YtbmaeaknlpgdmaaGreatA07
import Derived.Test.YtbmaeaknlpgdmaaGreatA06
import Derived.BigRegion
import Derived.IntWalk
namespace Go.Proofs.YtbmaeaknlpgdmaaGreat
open Go.Sort
set_option linter.unusedVariables false
set_option linter.unusedSectionVars false
variable {α : Type} [Inhabited α] {lt : α → α → Bool}

theorem so_keep {a b : Nat} {d d' : Array α} (h : SortedIn lt a b d) (he : ∀ i, a ≤ i → i < b → d'[i]! = d[i]!) : SortedIn lt a b d' := by
  intro i j h1 h2 h3
  rw [he i h1 (by omega), he j (by omega) h3]
  exact h i j h1 h2 h3
theorem so_sub {a b a' b' : Nat} {d : Array α} (h : SortedIn lt a b d) (h1 : a ≤ a') (h2 : b' ≤ b) : SortedIn lt a' b' d := fun i j x y z => h i j (by omega) y (by omega)
theorem so_one {a b : Nat} {d : Array α} (h : b ≤ a + 1) : SortedIn lt a b d := fun i j _ _ _ => by omega
/-- All of the first part stand ahead of all of the second one. -/
def Cross (lt : α → α → Bool) (a m b : Nat) (d : Array α) : Prop := ∀ i j, a ≤ i → i < m → m ≤ j → j < b → lt d[j]! d[i]! = false
theorem so_join {a m b : Nat} {d : Array α} (h1 : SortedIn lt a m d) (h2 : SortedIn lt m b d) (hc : Cross lt a m b d) : SortedIn lt a b d := by
  intro i j x y z
  by_cases hi : i < m
  · by_cases hj : j < m
    · exact h1 i j x y hj
    · exact hc i j x hi (by omega) z
  · exact h2 i j (by omega) y z
theorem le_tr (hS : SWO lt) {x y z : α} (h1 : lt y x = false) (h2 : lt z y = false) : lt z x = false := hS.ntrans z y x h2 h1
/-- .. it is enough to look at the last one of the first part and the first one of the second. -/
theorem cross_of (hS : SWO lt) {a m b : Nat} {d : Array α} (h1 : SortedIn lt a m d) (h2 : SortedIn lt m b d) (h : m ≤ a ∨ b ≤ m ∨ lt d[m]! d[m - 1]! = false) : Cross lt a m b d := by
  intro i j x hi hj z
  have h' : lt d[m]! d[m - 1]! = false := by rcases h with h | h | h <;> first | omega | exact h
  have e1 : lt d[m]! d[i]! = false := by
    by_cases hh : i = m - 1
    · rw [hh]; exact h'
    · exact le_tr hS (h1 i (m - 1) x (by omega) (by omega)) h'
  by_cases hh : j = m
  · rw [hh]; exact e1
  · exact le_tr hS e1 (h2 m j (Nat.le_refl _) (by omega) z)
theorem cross_l {a m b : Nat} {d d' : Array α} (hc : Cross lt a m b d) (hP : PermIn a m d d') (hm : m ≤ d.size) : Cross lt a m b d' := by
  intro i j x hi hj z
  rw [hP.2.1 j (.inr hj)]
  exact permIn_all d d' a m (fun v => lt d[j]! v = false) hm hP (fun i x hi => hc i j x hi hj z) i x hi
theorem cross_r {a m b : Nat} {d d' : Array α} (hc : Cross lt a m b d) (hP : PermIn m b d d') (hb : b ≤ d.size) : Cross lt a m b d' := by
  intro i j x hi hj z
  rw [hP.2.1 i (.inl hi)]
  exact permIn_all d d' m b (fun v => lt v d[i]! = false) hb hP (fun j hj z => hc i j x hi hj z) j hj z

/-- [a, m) and [m, b) have changed their places. -/
structure Rot (a m b : Nat) (d d' : Array α) : Prop where
  size : d'.size = d.size
  out : ∀ i, i < a ∨ b ≤ i → d'[i]! = d[i]!
  left : ∀ i, a ≤ i → i < a + (b - m) → d'[i]! = d[i + (m - a)]!
  right : ∀ i, a + (b - m) ≤ i → i < b → d'[i]! = d[i - (b - m)]!
theorem rot_id_l {m b : Nat} {d : Array α} (hmb : m ≤ b) : Rot m m b d d := ⟨rfl, fun _ _ => rfl, fun i _ _ => by rw [Nat.sub_self, Nat.add_zero], fun i _ _ => by omega⟩
theorem rot_id_r {a m : Nat} {d : Array α} (ham : a ≤ m) : Rot a m m d d := ⟨rfl, fun _ _ => rfl, fun i _ _ => by omega, fun i _ _ => by rw [Nat.sub_self, Nat.sub_zero]⟩
/-- n places from a on and n places from b on have changed their places. -/
structure Swr (a b n : Nat) (d d' : Array α) : Prop where
  size : d'.size = d.size
  out : ∀ i, (i < a ∨ a + n ≤ i) → (i < b ∨ b + n ≤ i) → d'[i]! = d[i]!
  left : ∀ i, a ≤ i → i < a + n → d'[i]! = d[i - a + b]!
  right : ∀ i, b ≤ i → i < b + n → d'[i]! = d[i - b + a]!
theorem swr_zero (a b : Nat) (d : Array α) : Swr a b 0 d d := ⟨rfl, fun _ _ _ => rfl, fun i _ _ => by omega, fun i _ _ => by omega⟩
theorem swr_succ {a b n : Nat} {d d' : Array α} (h : Swr a b n d d') (hab : a + (n + 1) ≤ b) (hb : b + (n + 1) ≤ d.size) : Swr a b (n + 1) d (swp d' (a + n) (b + n)) := by
  have hs := h.size
  have hg := fun k => swp_get d' (i := a + n) (j := b + n) (by omega) (by omega) k
  refine ⟨by rw [swp_size]; exact hs, fun i h1 h2 => ?_, fun i h1 h2 => ?_, fun i h1 h2 => ?_⟩
  · rw [hg, if_neg (by omega), if_neg (by omega)]; exact h.out i (by omega) (by omega)
  · rw [hg, if_neg (by omega)]
    by_cases hi : i = a + n
    · rw [if_pos hi, h.out (b + n) (by omega) (by omega), hi, show a + n - a + b = b + n by omega]
    · rw [if_neg hi]; exact h.left i h1 (by omega)
  · rw [hg]
    by_cases hi : i = b + n
    · rw [if_pos hi, h.out (a + n) (by omega) (by omega), hi, show b + n - b + a = a + n by omega]
    · rw [if_neg hi, if_neg (by omega)]; exact h.right i h1 (by omega)
theorem swp_perm {d d0 : Array α} {a b i j : Nat} (hP : PermIn a b d0 d) (hi : a ≤ i) (hi2 : i < b) (hj : a ≤ j) (hj2 : j < b) (hb : b ≤ d0.size) : PermIn a b d0 (swp d i j) :=
  permIn_trans _ _ _ _ _ hP (swp_permIn d a b i j hi hi2 hj hj2 (by rw [hP.1]; exact hb))
/-- Rounds of the rotation. -/
theorem rot_big {m i j : Nat} {d d2 d' : Array α} (hji : j < i) (him : i ≤ m) (hs : Swr (m - i) m j d d2) (h : Rot (m - (i - j)) m (m + j) d2 d') : Rot (m - i) m (m + j) d d' := by
  refine ⟨h.size.trans hs.size, fun k hk => ?_, fun k h1 h2 => ?_, fun k h1 h2 => ?_⟩
  · rw [h.out k (by omega)]; exact hs.out k (by omega) (by omega)
  · rw [h.out k (by omega), hs.left k h1 (by omega), show k - (m - i) + m = k + (m - (m - i)) by omega]
  · by_cases hk : k < m - (i - j) + j
    · rw [h.left k (by omega) (by omega), hs.right _ (by omega) (by omega), show k + (m - (m - (i - j))) - m + (m - i) = k - (m + j - m) by omega]
    · rw [h.right k (by omega) h2, hs.out _ (by omega) (by omega)]
theorem rot_small {m i j : Nat} {d d2 d' : Array α} (hij : i < j) (him : i ≤ m) (hs : Swr (m - i) (m + j - i) i d d2) (h : Rot (m - i) m (m + (j - i)) d2 d') : Rot (m - i) m (m + j) d d' := by
  refine ⟨h.size.trans hs.size, fun k hk => ?_, fun k h1 h2 => ?_, fun k h1 h2 => ?_⟩
  · rw [h.out k (by omega)]; exact hs.out k (by omega) (by omega)
  · by_cases hk : k < m - i + (j - i)
    · rw [h.left k h1 (by omega), hs.out _ (by omega) (by omega)]
    · rw [h.right k (by omega) (by omega), hs.left _ (by omega) (by omega), show k - (m + (j - i) - m) - (m - i) + (m + j - i) = k + (m - (m - i)) by omega]
  · rw [h.out k (by omega), hs.right k (by omega) (by omega), show k - (m + j - i) + (m - i) = k - (m + j - m) by omega]
theorem rot_even {m i : Nat} {d d' : Array α} (him : i ≤ m) (hs : Swr (m - i) m i d d') : Rot (m - i) m (m + i) d d' := by
  refine ⟨hs.size, fun k hk => hs.out k (by omega) (by omega), fun k h1 h2 => ?_, fun k h1 h2 => ?_⟩
  · rw [hs.left k h1 (by omega), show k - (m - i) + m = k + (m - (m - i)) by omega]
  · rw [hs.right k (by omega) (by omega), show k - m + (m - i) = k - (m + i - m) by omega]

/-- Sorted parts, rotated at their meeting point. -/
theorem rot_parts {a s m e b : Nat} {d d' : Array α} (h1 : SortedIn lt a m d) (h2 : SortedIn lt m b d) (has : a ≤ s) (hsm : s ≤ m) (hme : m ≤ e) (heb : e ≤ b) (h : Rot s m e d d') :
    SortedIn lt a s d' ∧ SortedIn lt s (s + (e - m)) d' ∧ SortedIn lt (s + (e - m)) e d' ∧ SortedIn lt e b d' := by
  refine ⟨so_keep (so_sub h1 (Nat.le_refl _) hsm) (fun i _ hi => h.out i (.inl hi)), fun i j x y z => ?_, fun i j x y z => ?_, so_keep (so_sub h2 (by omega) (Nat.le_refl _)) (fun i hi _ => h.out i (.inr hi))⟩
  · rw [h.left i x (by omega), h.left j (by omega) z]
    exact h2 _ _ (by omega) (by omega) (by omega)
  · rw [h.right i x (by omega), h.right j (by omega) z]
    exact h1 _ _ (by omega) (by omega) (by omega)
/-- The meeting point well chosen: both halves can be merged each for itself. -/
theorem rot_cross (hS : SWO lt) {a s m e b : Nat} {d d' : Array α} (h1 : SortedIn lt a m d) (h2 : SortedIn lt m b d) (has : a ≤ s) (hsm : s ≤ m) (hme : m ≤ e) (heb : e ≤ b) (h : Rot s m e d d')
    (c1 : s = a ∨ e = b ∨ lt d[e]! d[s - 1]! = false) (c2 : s = m ∨ e = m ∨ lt d[s]! d[e - 1]! = false) : Cross lt a (s + (e - m)) b d' := by
  have ord1 : ∀ i j, a ≤ i → i ≤ j → j < m → lt d[j]! d[i]! = false := fun i j x y z => by
    by_cases hh : i = j
    · rw [hh]; exact hS.irrefl _
    · exact h1 i j x (by omega) z
  have ord2 : ∀ i j, m ≤ i → i ≤ j → j < b → lt d[j]! d[i]! = false := fun i j x y z => by
    by_cases hh : i = j
    · rw [hh]; exact hS.irrefl _
    · exact h2 i j x (by omega) z
  intro i j x hi hj z
  by_cases his : i < s
  · rw [h.out i (.inl his)]
    by_cases hje : j < e
    · rw [h.right j hj hje]
      exact ord1 _ _ x (by omega) (by omega)
    · rw [h.out j (.inr (by omega))]
      have hc : lt d[e]! d[s - 1]! = false := by rcases c1 with c | c | c <;> first | omega | exact c
      exact le_tr hS (le_tr hS (ord1 i (s - 1) x (by omega) (by omega)) hc) (ord2 e j hme (by omega) z)
  · rw [h.left i (by omega) hi]
    by_cases hje : j < e
    · rw [h.right j hj hje]
      have hc : lt d[s]! d[e - 1]! = false := by rcases c2 with c | c | c <;> first | omega | exact c
      exact le_tr hS (le_tr hS (ord2 _ (e - 1) (by omega) (by omega) (by omega)) hc) (ord1 s _ has (by omega) (by omega))
    · rw [h.out j (.inr (by omega))]
      exact ord2 _ _ (by omega) (by omega) z
/-- Both halves merged: all is. -/
theorem sym_done {a mid b : Nat} {d d' d1 d2 : Array α} (hP : PermIn a b d d') (hc : Cross lt a mid b d') (ham : a ≤ mid) (hmb : mid ≤ b) (hb : b ≤ d.size) (hp1 : PermIn a mid d' d1) (hs1 : SortedIn lt a mid d1) (hp2 : PermIn mid b d1 d2) (hs2 : SortedIn lt mid b d2) :
    PermIn a b d d2 ∧ SortedIn lt a b d2 := by
  have z1 := hP.1
  have z2 := hp1.1
  refine ⟨permIn_trans _ _ _ _ _ (permIn_trans _ _ _ _ _ hP (permIn_mono _ _ a mid a b (Nat.le_refl _) hmb (by omega) hp1)) (permIn_mono _ _ mid b a b ham (Nat.le_refl _) (by omega) hp2), ?_⟩
  exact so_join (so_keep hs1 (fun i _ hi => hp2.2.1 i (.inl hi))) hs2 (cross_r (cross_l hc hp1 (by omega)) hp2 (by omega))
/-- One thing ahead of a sorted part: it is put where it belongs. -/
theorem sym_one_l (hS : SWO lt) {a i b : Nat} {d d' : Array α} (hai : a + 1 ≤ i) (hib : i ≤ b) (h2 : SortedIn lt (a + 1) b d) (h : Rot a (a + 1) i d d') (c1 : i = a + 1 ∨ lt d[i - 1]! d[a]! = true) (c2 : i = b ∨ lt d[i]! d[a]! = false) : SortedIn lt a b d' := by
  have h1 : SortedIn lt a (a + 1) d := so_one (Nat.le_refl _)
  obtain ⟨p1, p2, p3, p4⟩ := rot_parts h1 h2 (Nat.le_refl a) (by omega) hai hib h
  have hc := rot_cross hS h1 h2 (Nat.le_refl a) (by omega) hai hib h (.inl rfl) (by
    rcases c1 with c | c
    · exact .inr (.inl c)
    · exact .inr (.inr (hS.asymmA c)))
  have hr : d'[i - 1]! = d[a]! := by rw [h.right (i - 1) (by omega) (by omega), show i - 1 - (i - (a + 1)) = a by omega]
  refine so_join p2 (so_join p3 p4 (cross_of hS p3 p4 ?_)) hc
  by_cases hib' : i = b
  · exact .inr (.inl (by omega))
  · right; right
    rw [hr, h.out i (.inr (Nat.le_refl _))]
    rcases c2 with c | c
    · exact absurd c hib'
    · exact c
/-- One thing behind a sorted part. -/
theorem sym_one_r (hS : SWO lt) {a i m : Nat} {d d' : Array α} (hai : a ≤ i) (him : i ≤ m) (h1 : SortedIn lt a m d) (h : Rot i m (m + 1) d d') (c1 : i = a ∨ lt d[m]! d[i - 1]! = false) (c2 : i = m ∨ lt d[m]! d[i]! = true) : SortedIn lt a (m + 1) d' := by
  have h2 : SortedIn lt m (m + 1) d := so_one (Nat.le_refl _)
  obtain ⟨p1, p2, p3, p4⟩ := rot_parts h1 h2 hai him (by omega) (Nat.le_refl _) h
  have hc := rot_cross hS h1 h2 hai him (by omega) (Nat.le_refl _) h (.inr (.inl rfl)) (by
    rcases c2 with c | c
    · exact .inl c
    · exact .inr (.inr (hS.asymmA c)))
  have hr : d'[i]! = d[m]! := by rw [h.left i (Nat.le_refl _) (by omega), show i + (m - i) = m by omega]
  refine so_join (so_join p1 p2 (cross_of hS p1 p2 ?_)) p3 hc
  by_cases hia : i = a
  · exact .inl (by omega)
  · right; right
    rw [hr, h.out (i - 1) (.inl (by omega))]
    rcases c1 with c | c
    · exact absurd c hia
    · exact c
/-- A thing on its way to the right, one place a step. -/
theorem rot_up {a k : Nat} {d d' : Array α} (hak : a ≤ k) (hk : k + 1 < d.size) (h : Rot a (a + 1) (k + 1) d d') : Rot a (a + 1) (k + 2) d (swp d' k (k + 1)) := by
  have hs := h.size
  have hg := fun x => swp_get d' (i := k) (j := k + 1) (by omega) (by omega) x
  have hr : d'[k]! = d[a]! := by rw [h.right k (by omega) (by omega), show k - (k + 1 - (a + 1)) = a by omega]
  have ho : d'[k + 1]! = d[k + 1]! := h.out _ (.inr (Nat.le_refl _))
  refine ⟨by rw [swp_size]; exact hs, fun i hi => ?_, fun i h1 h2 => ?_, fun i h1 h2 => ?_⟩
  · rw [hg, if_neg (by omega), if_neg (by omega)]; exact h.out i (by omega)
  · rw [hg, if_neg (by omega)]
    by_cases hi : i = k
    · rw [if_pos hi, ho, hi, show k + (a + 1 - a) = k + 1 by omega]
    · rw [if_neg hi]; exact h.left i h1 (by omega)
  · obtain rfl : i = k + 1 := by omega
    rw [hg, if_pos rfl, hr, show k + 1 - (k + 2 - (a + 1)) = a by omega]
/-- A thing on its way to the left: it has come to place k. -/
theorem rot_down {m k : Nat} {d d' : Array α} (hk0 : 0 < k) (hkm : k ≤ m) (hm : m < d.size) (h : Rot k m (m + 1) d d') : Rot (k - 1) m (m + 1) d (swp d' k (k - 1)) := by
  have hs := h.size
  have hg := fun x => swp_get d' (i := k) (j := k - 1) (by omega) (by omega) x
  have hr : d'[k]! = d[m]! := by rw [h.left k (Nat.le_refl _) (by omega), show k + (m - k) = m by omega]
  have ho : d'[k - 1]! = d[k - 1]! := h.out _ (.inl (by omega))
  refine ⟨by rw [swp_size]; exact hs, fun i hi => ?_, fun i h1 h2 => ?_, fun i h1 h2 => ?_⟩
  · rw [hg, if_neg (by omega), if_neg (by omega)]; exact h.out i (by omega)
  · obtain rfl : i = k - 1 := by omega
    rw [hg, if_pos rfl, hr, show k - 1 + (m - (k - 1)) = m by omega]
  · rw [hg, if_neg (by omega)]
    by_cases hi : i = k
    · rw [if_pos hi, ho, hi, show k - (m + 1 - m) = k - 1 by omega]
    · rw [if_neg hi]; exact h.right i (by omega) h2
end Go.Proofs.YtbmaeaknlpgdmaaGreat
namespace Go.Proofs.YtbmaeaknlpgdmaaGreat
open Go.RowKit Go.Sort
set_option linter.unusedVariables false
set_option linter.unusedSimpArgs false
instance : Inhabited Sl := ⟨⟨none, 0, 0⟩⟩
/-- Block g holds these rows, one behind the other. -/
def RowBlk (w : World) (g cap : Nat) (d : Array Sl) : Prop := ∃ L : Array Value, w.heap[g]? = some (.cells L 34 (0, 0)) ∧ L.size = cap ∧ ∀ i, i < d.size → L[i]? = some d[i]!.v
theorem RowBlk.cell {w : World} {g cap : Nat} {d : Array Sl} (h : RowBlk w g cap d) {i : Nat} (hi : i < d.size) {s : Sl} (e : d[i]! = s) : w.cell? ⟨g, i, none⟩ = some (.slice s.A s.n s.c) ∧ w.frozen? ⟨g, i, none⟩ = false := by
  obtain ⟨L, hb, _, hL⟩ := h
  obtain ⟨k, f⟩ := blk_rules hb
  exact ⟨by rw [k, hL i hi, e], f i⟩
theorem RowBlk.lt {w : World} {g cap : Nat} {d : Array Sl} (h : RowBlk w g cap d) : g < w.heap.size := by obtain ⟨L, hb, _⟩ := h; exact blk_lt hb
theorem RowBlk.keep {w w' : World} {g cap : Nat} {d : Array Sl} (h : RowBlk w g cap d) (hb : Below w.heap.size w w') : RowBlk w' g cap d := by
  obtain ⟨L, hg, r⟩ := h; exact ⟨L, blk_below hg hb, r⟩
theorem RowBlk.swap {w : World} {g cap : Nat} {d : Array Sl} (h : RowBlk w g cap d) {i j : Nat} (hi : i < d.size) (hj : j < d.size) {s t : Sl} (hs : d[i]! = s) (ht : d[j]! = t) : RowBlk ((w.setCell ⟨g, i, none⟩ t.v).setCell ⟨g, j, none⟩ s.v) g cap (swp d i j) := by
  obtain ⟨L, hg, hc, hL⟩ := h
  have hLs : ∀ x, x < d.size → x < L.size := fun x hx => (Array.getElem?_eq_some_iff.1 (hL x hx)).1
  refine ⟨(L.setIfInBounds i t.v).setIfInBounds j s.v, blk_set (blk_set hg i _) j _, by simp [hc], fun x hx => ?_⟩
  rw [swp_size] at hx
  rw [swp_get d hi hj, Array.getElem?_setIfInBounds, Array.getElem?_setIfInBounds]
  have := hLs i hi
  have := hLs j hj
  by_cases h1 : x = j
  · subst h1; simp [hs]; omega
  · by_cases h2 : x = i
    · subst h2; simp [h1, Ne.symm h1, ht]; omega
    · simp [h1, h2, Ne.symm h1, Ne.symm h2, hL x hx]
/-- What the rows read as, and that they lie elsewhere. -/
def Cx (w0 : World) (g : Nat) (d0 : Array Sl) (ρ : Sl → List Vl) : Prop := ∀ i, i < d0.size → RdV w0 d0[i]!.A d0[i]!.n (ρ d0[i]!) ∧ ∀ p, d0[i]!.A = some p → p.block ≠ g
theorem Cx.at_ {w0 w : World} {g : Nat} {d0 d : Array Sl} {ρ : Sl → List Vl} (h : Cx w0 g d0 ρ) (ho : Off g g w0 w) (hp : PermIn 0 d0.size d0 d) {i : Nat} (hi : i < d0.size) {s : Sl} (e : d[i]! = s) : RdV w s.A s.n (ρ s) := by
  have := permIn_all d0 d 0 d0.size (fun s => RdV w0 s.A s.n (ρ s) ∧ ∀ p, s.A = some p → p.block ≠ g) (Nat.le_refl _) hp (fun i _ hi => h i hi) i (Nat.zero_le _) hi
  rw [e] at this
  exact this.1.off ho (fun p hp => ⟨this.2 p hp, this.2 p hp⟩)
/-- Which of two rows comes first. -/
def ltR (ρ : Sl → List Vl) (s t : Sl) : Bool := decide (cmpR (ρ s) (ρ t) < 0)
theorem insInner_go (lt : Sl → Sl → Bool) (a j : Nat) (d : Array Sl) (h : a < j) (hl : lt d[j]! d[j - 1]! = true) : insInner lt a j d = insInner lt a (j - 1) (swp d j (j - 1)) := by
  obtain ⟨k, rfl⟩ : ∃ k, j = k + 1 := ⟨j - 1, by omega⟩
  simp only [Nat.add_sub_cancel] at hl ⊢
  rw [insInner]
  simp [h, hl]
theorem insInner_stop (lt : Sl → Sl → Bool) (a j : Nat) (d : Array Sl) (h : j ≤ a ∨ lt d[j]! d[j - 1]! = false) : insInner lt a j d = d := by
  cases j with
  | zero => rfl
  | succ k =>
    simp only [Nat.add_sub_cancel] at h
    rw [insInner]
    rcases h with h | h
    · rw [if_neg]; simp; omega
    · rw [if_neg]; simp [h]
theorem insOuter_go (lt : Sl → Sl → Bool) (a b i : Nat) (d : Array Sl) (h : i < b) : insOuter lt a b i d = insOuter lt a b (i + 1) (insInner lt a i d) := by
  rw [insOuter, if_pos h]
theorem insOuter_stop (lt : Sl → Sl → Bool) (a b i : Nat) (d : Array Sl) (h : ¬ i < b) : insOuter lt a b i d = d := by
  rw [insOuter, if_neg h]
def SortPost (w0 : World) (g cap : Nat) (d' : Array Sl) (e : Ending) (w' : World) : Prop := e = .returned (.tuple #[]) ∧ Off g g w0 w' ∧ RowBlk w' g cap d'
set_option maxRecDepth 100000 in
set_option maxHeartbeats 4000000 in
theorem ins_any (w0 w : World) (g cap n c a b : Nat) (d0 d : Array Sl) (ρ : Sl → List Vl) (hcx : Cx w0 g d0 ρ) (hoff : Off g g w0 w) (hp : PermIn 0 d0.size d0 d) (hb : RowBlk w g cap d) (hn : d0.size = n) (hab : a ≤ b) (hbn : b ≤ n) (hm : n ≤ 1000000) :
    Calls Tryz.prog 188 #[.slice (some ⟨g, 0, none⟩) n c, .int .i64 a, .int .i64 b, .func (.func 119) #[] #[]] w (SortPost w0 g cap (insertionSort (ltR ρ) d a b)) := by
  have HCX := Lib.hid hcx
  have HO := Lib.hid hoff
  have HP := Lib.hid hp
  have HB := Lib.hid hb
  have HN := Lib.hid hn
  clear hcx hoff hp hb hn
  go_enter Tryz.func188, Tryz.ntmps188
  go_wp2
  go_loopw [8, 9] (fun i _ wr => ∃ (k : Nat) (dk : Array Sl), a + 1 ≤ k ∧ k ≤ b + 1 ∧ i = .int .i64 k ∧ PermIn 0 d0.size d0 dk ∧ RowBlk wr g cap dk ∧ Off g g w0 wr ∧ insOuter (ltR ρ) a b k dk = insOuter (ltR ρ) a b (a + 1) d) (fun i _ _ => b - (intOf i).toNat)
  case atStart => exact ⟨a + 1, d, by omega, by omega, by go_num, HP.out, HB.out, HO.out, rfl⟩
  case round =>
    obtain ⟨k, dk, hk1, hk2, rfl, hpk, hbk, hok, hi⟩ := hrel
    have HPK := Lib.hid hpk
    have HBK := Lib.hid hbk
    have HOK := Lib.hid hok
    have HI := Lib.hid hi
    clear hpk hbk hok hi HO HP HB
    obtain ⟨wo, rfl⟩ : ∃ wo : World, wo = wr := ⟨_, rfl⟩
    by_cases hlt : k < b
    · go_wp2
      go_loopw [9] (fun vj wr => ∃ (j : Nat) (dj : Array Sl), a ≤ j ∧ j ≤ k ∧ vj = .int .i64 j ∧ PermIn 0 d0.size d0 dj ∧ RowBlk wr g cap dj ∧ Off g g w0 wr ∧ insInner (ltR ρ) a j dj = insInner (ltR ρ) a k dk) (fun vj _ => (intOf vj).toNat)
      case atStart => exact ⟨k, dk, by omega, Nat.le_refl _, rfl, HPK.out, HBK.out, HOK.out, rfl⟩
      case round =>
        obtain ⟨j, dj, hj1, hj2, rfl, hpj, hbj, hoj, hij⟩ := hrel
        have HPJ := Lib.hid hpj
        have HBJ := Lib.hid hbj
        have HOJ := Lib.hid hoj
        have HIJ := Lib.hid hij
        have hds : dj.size = n := by rw [hpj.1, HN.out]
        have HDS := Lib.hid hds
        clear hpj hbj hoj hij HPK HBK HOK
        by_cases hja : a < j
        · obtain ⟨s, hs⟩ : ∃ s, dj[j]! = s := ⟨_, rfl⟩
          obtain ⟨t, ht⟩ : ∃ t, dj[j - 1]! = t := ⟨_, rfl⟩
          obtain ⟨cs, fs⟩ := HBJ.out.cell (by omega) hs
          obtain ⟨ct, ft⟩ := HBJ.out.cell (by omega) ht
          have HS := Lib.hid hs
          have HT := Lib.hid ht
          have hzj := HBJ.out.lt
          have hRS := Lib.hid (HCX.out.at_ HOJ.out HPJ.out (by rw [HN.out]; omega) hs)
          have hRT := Lib.hid (HCX.out.at_ HOJ.out HPJ.out (by rw [HN.out]; omega) ht)
          have hja' : decide ((a : Int) < (j : Int)) = true := decide_eq_true (by omega)
          have e0 : IntKind.i64.wrap ((j : Int) - 1) = (j : Int) - 1 := IntWalk.i64_in _ (by omega)
          have e1 : ((j : Int) - 1).toNat = j - 1 := by omega
          have e2 : (0 : Int) ≤ (j : Int) - 1 := by omega
          have e3 : (1 : Int) ≤ (j : Int) := by omega
          have e4 : (j : Int) ≤ n := by omega
          have hjn : (j : Int) < n := by omega
          have hjn' : (j : Int) - 1 < n := by omega
          clear hs ht hds
          go_wp2_with fail
          go_still_tail 14, (by kernel_rfl)
          change wpList _ _ _ _ _ wr.drew
          clear e0
          have hb1 := hRS.out.keep (bl_drew (Below.refl wr.heap.size wr))
          go_wp2_with fail
          refine (rows1_any s.A t.A s.n t.n s.c t.c (ρ s) (ρ t) _ (hRS.out.keep (bl_drew (Below.refl wr.heap.size wr))) (hRT.out.keep (bl_drew (Below.refl wr.heap.size wr)))).mono ?_
          rintro e w1 ⟨rfl, hbw⟩
          have HOW := Lib.hid (off_below (off_drew HOJ.out) hbw)
          have HBW := Lib.hid ((HBJ.out.keep (bl_drew (Below.refl wr.heap.size wr))).keep hbw)
          clear cs fs ct ft hzj hbw hb1
          by_cases hl : cmpR (ρ s) (ρ t) < 0
          · have HG := Lib.hid (show ltR ρ dj[j]! dj[j - 1]! = true by rw [HS.out, HT.out]; exact decide_eq_true hl)
            obtain ⟨cs, fs⟩ := HBW.out.cell (by rw [HDS.out]; omega) HS.out
            obtain ⟨ct, ft⟩ := HBW.out.cell (by rw [HDS.out]; omega) HT.out
            have hzj := HBW.out.lt
            go_wp2
            go_region
            go_wp2
            refine ⟨⟨j - 1, swp dj j (j - 1), by omega, by omega, by rw [show ((j - 1 : Nat) : Int) = (j : Int) - 1 by omega], swp_perm HPJ.out (Nat.zero_le _) (by rw [HN.out]; omega) (Nat.zero_le _) (by rw [HN.out]; omega) (Nat.le_refl _), (HBW.out.swap (by rw [HDS.out]; omega) (by rw [HDS.out]; omega) HS.out HT.out).keep (bl_drew (Below.refl _ _)), off_drew (off_set (off_set HOW.out (p := ⟨g, j, none⟩) (.inl rfl) _) (p := ⟨g, j - 1, none⟩) (.inl rfl) _), ?_⟩, by simp [intOf]; omega⟩
            rw [← HIJ.out, insInner_go (ltR ρ) a j dj hja HG.out]
          · have HG := Lib.hid (show ltR ρ dj[j]! dj[j - 1]! = false by rw [HS.out, HT.out]; exact decide_eq_false hl)
            have HE := Lib.hid (show insOuter (ltR ρ) a b (k + 1) dj = insOuter (ltR ρ) a b (a + 1) d by rw [← HI.out, insOuter_go _ _ _ _ _ hlt, ← HIJ.out, insInner_stop _ _ _ _ (.inr HG.out)])
            go_wp2
            go_roundw
            case rel => exact ⟨k + 1, dj, by omega, by omega, by go_num, HPJ.out, HBW.out, HOW.out, HE.out⟩
            case measure => simp [intOf]; omega
        · have hja' : decide ((a : Int) < (j : Int)) = false := decide_eq_false (by omega)
          have HE := Lib.hid (show insOuter (ltR ρ) a b (k + 1) dj = insOuter (ltR ρ) a b (a + 1) d by rw [← HI.out, insOuter_go _ _ _ _ _ hlt, ← HIJ.out, insInner_stop _ _ _ _ (.inl (by omega))])
          go_wp2_with fail
          go_quiet (fail)
          go_wp2
          go_roundw
          case rel => exact ⟨k + 1, dj, by omega, by omega, by go_num, HPJ.out, HBJ.out.keep (bl_drewN (Below.refl _ _) _), off_drewN HOJ.out _, HE.out⟩
          case measure => simp [intOf]; omega
    · have H := Lib.hid (show insertionSort (ltR ρ) d a b = dk by unfold insertionSort; rw [← HI.out, insOuter_stop _ _ _ _ _ hlt])
      go_wp2
      go_end0
      exact ⟨rfl, HOK.out, by rw [H.out]; exact HBK.out⟩
end Go.Proofs.YtbmaeaknlpgdmaaGreat
namespace Go.Proofs.YtbmaeaknlpgdmaaGreat
open Go.RowKit Go.Sort
set_option linter.unusedVariables false
set_option linter.unusedSimpArgs false
set_option maxRecDepth 100000 in
set_option maxHeartbeats 4000000 in
theorem stable_small (w0 w : World) (g cap n c : Nat) (d0 d : Array Sl) (ρ : Sl → List Vl) (hcx : Cx w0 g d0 ρ) (hoff : Off g g w0 w) (hp : PermIn 0 d0.size d0 d) (hb : RowBlk w g cap d) (hn : d0.size = n) (hm : n < 20) :
    Calls Tryz.prog 155 #[.slice (some ⟨g, 0, none⟩) n c, .int .i64 n, .func (.func 119) #[] #[]] w (SortPost w0 g cap (insertionSort (ltR ρ) d 0 n)) := by
  have HCX := Lib.hid hcx
  have HO := Lib.hid hoff
  have HP := Lib.hid hp
  have HB := Lib.hid hb
  have HN := Lib.hid hn
  have hm' : (n : Int) < 20 := by omega
  clear hcx hoff hp hb hn
  go_enter Tryz.func155, Tryz.ntmps155
  go_wp2
  refine wp_loop_rounds 1 ?_
  rw [rounds_succ]
  go_wp2_with fail
  refine (ins_any w0 w g cap n c 0 n d0 d ρ HCX.out HO.out HP.out HB.out HN.out (Nat.zero_le _) (Nat.le_refl _) (by omega)).mono ?_
  rintro e w1 ⟨rfl, hoff, hrow⟩
  have HO1 := Lib.hid hoff
  have HR1 := Lib.hid hrow
  clear hoff hrow
  go_wp2
  refine wp_loop_rounds 1 ?_
  rw [rounds_succ]
  go_wp2
  go_end0
  exact ⟨rfl, HO1.out, HR1.out⟩
end Go.Proofs.YtbmaeaknlpgdmaaGreat
