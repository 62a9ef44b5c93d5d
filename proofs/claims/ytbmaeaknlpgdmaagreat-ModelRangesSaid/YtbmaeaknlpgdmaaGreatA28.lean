/- Do: statements of one table. -/
import Derived.Test.YtbmaeaknlpgdmaaGreatA27
namespace Go.Proofs.YtbmaeaknlpgdmaaGreat
open Go.RowKit Go.Sort Go.Lib
set_option linter.unusedVariables false
set_option linter.unusedSimpArgs false
/-- A table laid anew. -/
def setS (S : List (ByteArray × Tb)) (s : ByteArray) (t : Tb) : List (ByteArray × Tb) := S.map fun p => if p.1 = s then (p.1, t) else p
theorem setS_en {L : List En} {j : Nat} {x : En} (hj : L[j]? = some x) (hn : (L.map (·.name)).Nodup) (D : Nat → Prop) (t : Tb) : enS (L.set j { x with D := D, t := t }) = setS (enS L) x.name t := by
  apply List.ext_getElem?
  intro i
  unfold setS
  rw [List.getElem?_map, List.getElem?_map, List.getElem?_map, List.getElem?_set]
  obtain ⟨hjl, rfl⟩ := List.getElem?_eq_some_iff.1 hj
  by_cases hij : j = i
  · subst hij
    simp [hjl]
  · rw [if_neg hij]
    cases hi : L[i]? with
    | none => rfl
    | some y =>
      simp only [Option.map_some]
      have hne : y.name ≠ (L[j]).name := by
        intro e
        obtain ⟨hil, rfl⟩ := List.getElem?_eq_some_iff.1 hi
        have hp := List.pairwise_iff_getElem.1 (List.nodup_iff_pairwise_ne.1 hn)
        rcases Nat.lt_or_gt_of_ne hij with h | h
        · exact hp j i (by simpa using hjl) (by simpa using hil) h (by simp [e])
        · exact hp i j (by simpa using hil) (by simpa using hjl) h (by simp [e])
      rw [if_neg hne]
/-- One table of a model has turned. -/
theorem MRep.turn {D : Nat → Prop} {W w2 : World} {m hb : Nat} {L : List En} {j : Nat} {x : En} (h : MRep D W m hb L) (hj : L[j]? = some x) {t : Tb} (ht : TbAt (Dn x.D W w2) w2 x.tb t) (hf : Fr x.D W w2) :
    MRep (Dn D W w2) w2 m hb (L.set j { x with D := Dn x.D W w2, t := t }) ∧ Fr D W w2 := by
  have hx := List.mem_of_getElem? hj
  have hdx := h.dom x hx
  obtain ⟨hjl, hje⟩ := List.getElem?_eq_some_iff.1 hj
  have hsame : ∀ b, b < W.heap.size → ¬ x.D b → w2.heap[b]? = W.heap[b]? := fun b h1 h2 => hf.block b h1 h2
  have hmb : m < W.heap.size := blk_lt h.mod
  have hhb : hb < W.heap.size := h.map.lt
  have hapart : ∀ y i, L[i]? = some y → i ≠ j → ∀ b, y.D b → ¬ x.D b := fun y i hi hne b hyb hxb => by
    obtain ⟨hil, rfl⟩ := List.getElem?_eq_some_iff.1 hi
    have hp := List.pairwise_iff_getElem.1 h.apart
    subst hje
    rcases Nat.lt_or_gt_of_ne hne with hh | hh
    · exact hp i j hil hjl hh b hyb hxb
    · exact hp j i hjl hil hh b hxb hyb
  have hget : ∀ (i : Nat) (y : En), (L.set j { x with D := Dn x.D W w2, t := t })[i]? = some y → (i = j ∧ y = { x with D := Dn x.D W w2, t := t }) ∨ (i ≠ j ∧ L[i]? = some y) := fun i y hi => by
    rw [List.getElem?_set] at hi
    by_cases hij : j = i
    · subst hij
      rw [if_pos rfl, if_pos hjl] at hi
      exact .inl ⟨rfl, by cases hi; rfl⟩
    · rw [if_neg hij] at hi
      exact .inr ⟨Ne.symm hij, hi⟩
  have hK : enK (L.set j { x with D := Dn x.D W w2, t := t }) = enK L := by
    apply List.ext_getElem?
    intro i
    rw [List.getElem?_map, List.getElem?_map, List.getElem?_set]
    by_cases hij : j = i
    · subst hij
      subst hje
      simp [hjl]
    · rw [if_neg hij]
  refine ⟨⟨.inl h.dm, .inl h.dh, (hsame m hmb (fun hd => (hdx m hd).2.1 rfl)).trans h.mod, ?_, fun y hy => ?_, fun y hy b hb' => ?_, ?_, ?_⟩, fr_mono hf (fun b hb' => (hdx b hb').1)⟩
  · rw [hK]
    exact h.map.of_blk (hsame hb hhb (fun hd => (hdx hb hd).2.2.1 rfl))
  · obtain ⟨i, hi⟩ := List.getElem?_of_mem hy
    rcases hget i y hi with ⟨rfl, rfl⟩ | ⟨hne, hi'⟩
    · exact ht
    · exact (h.tbs y (List.mem_of_getElem? hi')).fr fun b hb' => hsame b (h.dom y (List.mem_of_getElem? hi') b hb').2.2.2 (hapart y i hi' hne b hb')
  · obtain ⟨i, hi⟩ := List.getElem?_of_mem hy
    rcases hget i y hi with ⟨rfl, rfl⟩ | ⟨hne, hi'⟩
    · rcases hb' with hb' | hb'
      · obtain ⟨a, b', c, d⟩ := hdx b hb'
        exact ⟨.inl a, b', c, Nat.lt_of_lt_of_le d hf.size⟩
      · exact ⟨.inr hb', by omega, by omega, hb'.2⟩
    · obtain ⟨a, b', c, d⟩ := h.dom y (List.mem_of_getElem? hi') b hb'
      exact ⟨.inl a, b', c, Nat.lt_of_lt_of_le d hf.size⟩
  · rw [List.pairwise_iff_getElem]
    intro i k hi hk hik b h1 h2
    have e1 := List.getElem?_eq_getElem hi
    have e2 := List.getElem?_eq_getElem hk
    rcases hget i _ e1 with ⟨rfl, e⟩ | ⟨hne, e⟩
    · rcases hget k _ e2 with ⟨rfl, e'⟩ | ⟨hne', e'⟩
      · omega
      · rw [e] at h1
        rcases h1 with h1 | h1
        · exact hapart _ k e' hne' b h2 h1
        · have := (h.dom _ (List.mem_of_getElem? e') b h2).2.2.2; omega
    · rcases hget k _ e2 with ⟨rfl, e'⟩ | ⟨hne', e'⟩
      · rw [e'] at h2
        rcases h2 with h2 | h2
        · exact hapart _ i e hne b h1 h2
        · have := (h.dom _ (List.mem_of_getElem? e) b h1).2.2.2; omega
      · obtain ⟨hil, e3⟩ := List.getElem?_eq_some_iff.1 e
        obtain ⟨hkl, e4⟩ := List.getElem?_eq_some_iff.1 e'
        have hp := List.pairwise_iff_getElem.1 h.apart i k hil hkl hik b
        rw [e3, e4] at hp
        exact hp h1 h2
  · have : (L.set j { x with D := Dn x.D W w2, t := t }).map (·.name) = L.map (·.name) := by
      apply List.ext_getElem?
      intro i
      rw [List.getElem?_map, List.getElem?_map, List.getElem?_set]
      by_cases hij : j = i
      · subst hij; subst hje; simp [hjl]
      · rw [if_neg hij]
    rw [this]; exact h.names
/-- What a table's statement without rows leaves of the model. -/
theorem do_turn {D : Nat → Prop} {m hb : Nat} {L : List En} {s : St} {R C : Value} {w : World} {e : Ending} {w' : World} {j : Nat} {x : En} (hR : MRep D w m hb L) (hj : L[j]? = some x) (hxn : x.name = s.t) (hDb : ∀ b, D b → b < w.heap.size) (r : TRep)
    (h : CallPost D m hb L s R C (fun W code n A k c w2 => code = r.code ∧ n = r.n ∧ A = none ∧ k = 0 ∧ c = 0 ∧ TbAt (Dn x.D W w2) w2 x.tb r.t ∧ Fr x.D W w2) w e w') : DoPost D m r.code r.n (setS (enS L) s.t r.t) w e w' := by
  obtain ⟨W, code, n, A, k, c, w2, hcd, ⟨rfl, rfl, rfl, rfl, rfl, ht, hf⟩, rfl, rfl⟩ := h
  obtain ⟨hm, hfr⟩ := hcd.rep.turn hj ht hf
  have hS : enS (L.set j { x with D := Dn x.D W w2, t := r.t }) = setS (enS L) s.t r.t := by rw [setS_en hj hR.names, hxn]
  exact ⟨rfl, do_fin ⟨hb, _, hS, hm⟩ (fr_step2 hcd.bel hfr) hcd.bel (Nat.le_refl _) (blk_lt hcd.rp) (fun b hb' hd => by have := hDb b hd; omega) _ _ _⟩
theorem rp_keep {D : Nat → Prop} {m hb : Nat} {L : List En} {s : St} {R C : Value} {w W w2 : World} {D' : Nat → Prop} (hcd : CD D m hb L s R C w W) (hf : Fr D' W w2) (hD' : ∀ b, D' b → b < w.heap.size) : w2.heap[w.heap.size + 1]? = W.heap[w.heap.size + 1]? :=
  hf.block _ (blk_lt hcd.rp) (fun hd => by have := hD' _ hd; omega)
theorem getK_of {D : Nat → Prop} {w : World} {m hb : Nat} {L : List En} (h : MRep D w m hb L) {s : ByteArray} {j : Nat} {x : En} (hj : L[j]? = some x) (hxn : x.name = s) : ∃ i, getK s (enK L) 0 = some (i, .pointer (some ⟨x.tb, 0, none⟩)) := by
  rcases look_tb h s with ⟨_, hn, _⟩ | ⟨i, y, hi, hyn, _, hg, _⟩
  · exact absurd hxn (hn x (List.mem_of_getElem? hj))
  · have : y = x := by
      obtain ⟨hjl, rfl⟩ := List.getElem?_eq_some_iff.1 hj
      obtain ⟨hil, rfl⟩ := List.getElem?_eq_some_iff.1 hi
      have hp := List.pairwise_iff_getElem.1 (List.nodup_iff_pairwise_ne.1 h.names)
      by_cases hij : i = j
      · subst hij; rfl
      · rcases Nat.lt_or_gt_of_ne hij with hh | hh
        · exact (hp i j (by simpa using hil) (by simpa using hjl) hh (by simp [hxn, hyn])).elim
        · exact (hp j i (by simpa using hjl) (by simpa using hil) hh (by simp [hxn, hyn])).elim
    subst this
    exact ⟨i, hg⟩
/-- Insert. -/
theorem do_insert (D : Nat → Prop) (m hb : Nat) (L : List En) (s : St) (A A' : Option Addr) (n c mc d : Nat) (w : World) (h : MRep D w m hb L) (ha : RdV w A n s.row) (hc : RdC w A' mc s.cols) (hDb : ∀ b, D b → b < w.heap.size) (hk : s.k = 4) (hg : goodS s = true) (j : Nat) (x : En) (hj : L[j]? = some x) (hxn : x.name = s.t)
    (hok : TbOK x.t) (b : Bool) (hu : UniqOK x.t (x.t.rows ++ [padL x.t.cols s.row]) b) :
    Calls Tryz.prog 11 #[.pointer (some ⟨m, 0, none⟩), s.agg (.slice A n c) (.slice A' mc d)] w (DoPost D m (insT x.t s.row b).code (insT x.t s.row b).n (setS (enS L) s.t (insT x.t s.row b).t) w) := by
  obtain ⟨i, hgk⟩ := getK_of h hj hxn
  have hxD : ∀ b, x.D b → b < w.heap.size := fun b hb' => (h.dom x (List.mem_of_getElem? hj) b hb').2.2.2
  refine (do_call D m hb L s A A' n c mc d w h ha hc _ (by rw [hk]; rfl) hg i x hgk eg_insert _ (fun W hcd => ?_) (fun W code n' B k e' w2 hcd hq => rp_keep hcd hq.2.2.2.2.2.2 hxD)).mono fun e w' hh => do_turn h hj hxn hDb (insT x.t s.row b) hh
  refine (insert_any x.D x.tb x.t _ s A n c _ W b (hcd.rep.tbs x (List.mem_of_getElem? hj)) (ha.keep hcd.bel) hok.cols hok.rows hu).mono fun e w2 hh => ?_
  obtain ⟨rfl, h1, h2⟩ := hh
  exact ⟨_, _, none, 0, 0, rfl, rfl, rfl, rfl, rfl, rfl, h1, h2⟩
/-- A reply of rows; the model as it was. -/
def RowsPost (D : Nat → Prop) (m : Nat) (code : Int) (hits : List (List Vl)) (S : List (ByteArray × Tb)) (w : World) (e : Ending) (w' : World) : Prop :=
  ∃ V rs', e = .returned (replyV code hits.length V) ∧ RowsD (fun b => w.heap.size ≤ b) w' V rs' ∧ Ordered hits rs' ∧ ModelAt D w' m S ∧ Below w.heap.size w w'
/-- What a statement that only reads leaves of the model. -/
theorem do_rows {D : Nat → Prop} {m hb : Nat} {L : List En} {s : St} {R C : Value} {w : World} {e : Ending} {w' : World} (hR : MRep D w m hb L) (code : Int) (hits : List (List Vl))
    (h : CallPost D m hb L s R C (fun W co n A k c w2 => co = code ∧ n = hits.length ∧ (∃ rs', RowsD (fun b => W.heap.size ≤ b) w2 (.slice A k c) rs' ∧ Ordered hits rs') ∧ Below W.heap.size W w2) w e w') : RowsPost D m code hits (enS L) w e w' := by
  obtain ⟨W, co, n, A, k, c, w2, hcd, ⟨rfl, rfl, ⟨rs', hr, ho⟩, hb2⟩, rfl, rfl⟩ := h
  have hbl := bl_step hcd.bel hb2
  have hq := blk_lt hcd.rp
  have hlf := bl_set (p := ⟨w.heap.size + 1, 2, none⟩) (bl_set (p := ⟨w.heap.size + 1, 1, none⟩) (bl_set (p := ⟨w.heap.size + 1, 0, none⟩) hbl (Nat.le_succ w.heap.size) (.int .i64 co)) (Nat.le_succ w.heap.size) (.int .i64 hits.length)) (Nat.le_succ w.heap.size) (.slice A k c)
  exact ⟨_, rs', rfl, rows_far3 hr hq hcd.bel.size _ _ _, ho, ⟨hb, L, rfl, hR.keep hlf⟩, hlf⟩
/-- Find. -/
theorem do_find (D : Nat → Prop) (m hb : Nat) (L : List En) (s : St) (A A' : Option Addr) (n c mc d : Nat) (w : World) (h : MRep D w m hb L) (ha : RdV w A n s.row) (hc : RdC w A' mc s.cols) (hk : s.k = 7) (hg : goodS s = true) (j : Nat) (x : En) (hj : L[j]? = some x) (hxn : x.name = s.t)
    (hok : TbOK x.t) (hst : StabOK (hitsT x.t s).length) :
    Calls Tryz.prog 11 #[.pointer (some ⟨m, 0, none⟩), s.agg (.slice A n c) (.slice A' mc d)] w (RowsPost D m (findRep x.t s).1 (findRep x.t s).2 (enS L) w) := by
  obtain ⟨i, hgk⟩ := getK_of h hj hxn
  have hff : foundF s = 129 := if_neg (by omega)
  refine (do_call D m hb L s A A' n c mc d w h ha hc _ (by rw [hk]; rfl) hg i x hgk eg_find _ (fun W hcd => ?_) (fun W code n' B k e' w2 hcd hq => (hq.2.2.2.block _ (blk_lt hcd.rp)))).mono fun e w' hh => do_rows h _ _ hh
  refine (find_t_any x.D x.tb x.t _ s _ _ W (hcd.rep.tbs x (List.mem_of_getElem? hj)) hok hst (fun pa ps k hk' => by rw [hff]; exact found2_ok pa ps k _ s _ _ hk' (by omega)) (by rw [hff]; exact eg_2)).mono fun e w2 hh => ?_
  obtain ⟨V, rs', rfl, hr, ho, hbw⟩ := hh
  obtain ⟨B, k, e', rfl, _⟩ := rowsD_sl hr
  exact ⟨_, _, B, k, e', rfl, rfl, rfl, ⟨rs', hr, ho⟩, hbw⟩
end Go.Proofs.YtbmaeaknlpgdmaaGreat
