/- value.Rows: the same rows in order, in new memory. -/
import Derived.Test.YtbmaeaknlpgdmaaGreatA09
namespace Go.Proofs.YtbmaeaknlpgdmaaGreat
open Go.RowKit Go.Sort
set_option linter.unusedVariables false
set_option linter.unusedSimpArgs false
theorem rd_one {α : Type} {cs : α → List Value} {size : Nat} {w : World} {b : Nat} {L : Array Value} {T : TypeId} {x : α} (hL : L = (cs x).toArray) (h : w.heap[b]? = some (.cells L T (0, 0))) : Rd cs size w (some ⟨b, 0, none⟩) 1 [x] :=
  ⟨rfl, by simp, fun _ => ⟨b, 0, rfl, fun i y hy j u hu => by
    have hi : i = 0 := by have := (List.getElem?_eq_some_iff.1 hy).1; simp at this; exact this
    subst hi
    simp at hy
    subst hy
    rw [(blk_rules h).1]
    subst hL
    simpa using hu⟩⟩
theorem RdS.get_ {w w' : World} {A : Option Addr} {n : Nat} {xs : List Sl} (h : Rd Sl.cs 1 w A n xs) (hb : Below w.heap.size w w') {k : Nat} (hk : k < n) :
    ∃ b o x, A = some ⟨b, o, none⟩ ∧ xs[k]? = some x ∧ w'.cell? ⟨b, o + k, none⟩ = some (.slice x.A x.n x.c) ∧ b < w.heap.size := by
  obtain ⟨b, o, e, hc⟩ := h.2.2 (by omega)
  have hl : k < xs.length := by rw [h.1]; exact hk
  have hx : xs[k]? = some xs[k] := List.getElem?_eq_getElem hl
  have hg := hc k _ hx 0 _ rfl
  rw [Nat.mul_one, Nat.add_zero] at hg
  exact ⟨b, o, xs[k], e, hx, pw_cell hb hg, World.block_lt_of_cell? w _ hg⟩
/-- That the library's stable sort of n rows brings them in order. -/
def StabOK (n : Nat) : Prop := ∀ (w0 w : World) (g cap c : Nat) (d0 d : Array Sl) (ρ : Sl → List Vl), Cx w0 g d0 ρ → Off g g w0 w → PermIn 0 d0.size d0 d → RowBlk w g cap d → d0.size = n →
  Calls Tryz.prog 155 #[.slice (some ⟨g, 0, none⟩) n c, .int .i64 n, .func (.func 119) #[] #[]] w fun e w' => ∃ d', SortPost w0 g cap d' e w' ∧ PermIn 0 n d d' ∧ SortedIn (ltR ρ) 0 n d'
theorem stabOK_1 {n : Nat} (hn : n ≤ 1) : StabOK n := by
  intro w0 w g cap c d0 d ρ hcx hoff hp hb hn0
  refine (stable_small w0 w g cap n c d0 d ρ hcx hoff hp hb hn0 (by omega)).mono fun e w' h => ⟨_, h, ?_, ?_⟩
  · unfold insertionSort
    rw [insOuter_stop _ _ _ _ _ (by omega)]
    exact permIn_refl _ _ _
  · intro i j _ _ _; omega
set_option maxRecDepth 100000 in
theorem sortStable_any (n : Nat) (hs : StabOK n) (w0 w : World) (g cap c : Nat) (d0 d : Array Sl) (ρ : Sl → List Vl) (hcx : Cx w0 g d0 ρ) (hoff : Off g g w0 w) (hp : PermIn 0 d0.size d0 d) (hb : RowBlk w g cap d) (hn : d0.size = n) :
    Calls Tryz.prog 118 #[.slice (some ⟨g, 0, none⟩) n c, .func (.func 119) #[] #[]] w fun e w' => ∃ d', SortPost w0 g cap d' e w' ∧ PermIn 0 n d d' ∧ SortedIn (ltR ρ) 0 n d' := by
  have HS := Lib.hid (hs w0 w g cap c d0 d ρ hcx hoff hp hb hn)
  clear hs hcx hoff hp hb hn
  go_enter Tryz.func118, Tryz.ntmps118
  go_wp2_with fail
  refine HS.out.mono ?_
  rintro e w1 ⟨d', ⟨rfl, h1, h2⟩, h3, h4⟩
  have H := Lib.hid (show SortPost w0 g cap d' (.returned (.tuple #[])) w1 ∧ PermIn 0 n d d' ∧ SortedIn (ltR ρ) 0 n d' from ⟨⟨rfl, h1, h2⟩, h3, h4⟩)
  clear h1 h2 h3 h4
  go_wp2
  go_end0
  exact ⟨d', H.out⟩
set_option maxRecDepth 100000 in
theorem sortStable_nil (w : World) (c : Nat) : Calls Tryz.prog 118 #[.slice none 0 c, .func (.func 119) #[] #[]] w fun e w' => e = .returned (.tuple #[]) ∧ w = w' := by
  have hi : ∀ w, Calls Tryz.prog 188 #[.slice none 0 c, .int .i64 0, .int .i64 0, .func (.func 119) #[] #[]] w fun e w' => e = .returned (.tuple #[]) ∧ w = w' := fun w => by
    go_enter Tryz.func188, Tryz.ntmps188
    go_wp2
    refine wp_loop_rounds 1 ?_
    rw [rounds_succ]
    go_wp2
    go_end0
    exact ⟨rfl, rfl⟩
  have hs : ∀ w, Calls Tryz.prog 155 #[.slice none 0 c, .int .i64 0, .func (.func 119) #[] #[]] w fun e w' => e = .returned (.tuple #[]) ∧ w = w' := fun w => by
    go_enter Tryz.func155, Tryz.ntmps155
    go_wp2
    refine wp_loop_rounds 1 ?_
    rw [rounds_succ]
    go_wp2_with fail
    refine (hi _).mono ?_
    rintro e w1 ⟨rfl, rfl⟩
    go_wp2
    refine wp_loop_rounds 1 ?_
    rw [rounds_succ]
    go_wp2
    go_end0
    exact ⟨rfl, rfl⟩
  go_enter Tryz.func118, Tryz.ntmps118
  go_wp2_with fail
  refine (hs _).mono ?_
  rintro e w1 ⟨rfl, rfl⟩
  go_wp2
  go_end0
  exact ⟨rfl, rfl⟩
/-- The rows of one list, in the other one's memory, in order. -/
def Ordered (rs rs' : List (List Vl)) : Prop := rs'.Perm rs ∧ rs'.Pairwise (fun a b => ¬ cmpR b a < 0)
def VRowsPost (rs : List (List Vl)) (w : World) (e : Ending) (w' : World) : Prop := ∃ V rs', e = .returned V ∧ RowsD (fun b => w.heap.size ≤ b) w' V rs' ∧ Ordered rs rs' ∧ Below w.heap.size w w'
theorem own_rowBlk {w : World} {base k c : Nat} {p : Addr} {ds : List Sl} (h : Own Sl.cs 1 34 w base (.slice (some p) k c) ds) :
    ∃ g, p = ⟨g, 0, none⟩ ∧ base ≤ g ∧ RowBlk w g c ds.toArray ∧ ds.length ≤ c ∧ c ≤ maxLen := by
  have hown := h
  rcases h.2 with ⟨h2, _⟩ | ⟨g, cap, cur, hv, hb0, hh, hn, hm, hc, ht⟩
  · cases h2
  · injection hv with e1 e2 e3
    injection e1 with e1
    subst e1 e3
    refine ⟨g, rfl, hb0, ⟨cur, hh, by rw [hc, Nat.mul_one], fun i hi => ?_⟩, hn, hm⟩
    have hi' : i < ds.length := by simpa using hi
    have h1 := flat_at sl_len ds i ds[i] (List.getElem?_eq_getElem hi') 0 (by omega)
    rw [← ht, Nat.mul_one, Nat.add_zero, List.getElem?_take, if_pos (by rw [Nat.mul_one]; exact hi')] at h1
    rw [getElem!_pos _ i hi]
    simpa using h1
theorem rowBlk_own {w : World} {base g c : Nat} {d : Array Sl} (h : RowBlk w g c d) (hb : base ≤ g) (hn : d.size ≤ c) (hm : c ≤ maxLen) : Own Sl.cs 1 34 w base (.slice (some ⟨g, 0, none⟩) d.size c) d.toList := by
  obtain ⟨L, hg, hc, hL⟩ := h
  refine ⟨by rw [flat_len sl_len], .inr ⟨g, c, L, by simp, hb, hg, by simpa using hn, hm, by rw [hc, Nat.mul_one], ?_⟩⟩
  apply List.ext_getElem?
  intro i
  by_cases hi : i < d.size
  · have h1 := flat_at sl_len d.toList i d[i] (by simp [hi]) 0 (by omega)
    rw [Nat.mul_one, Nat.add_zero] at h1
    rw [h1, List.getElem?_take, if_pos (by simpa using hi)]
    have h2 := hL i hi
    rw [getElem!_pos d i hi] at h2
    simpa using h2
  · rw [List.getElem?_eq_none (by rw [List.length_take]; simp; omega), List.getElem?_eq_none (by rw [flat_len sl_len]; simp; omega)]
theorem permIn_list {α : Type} [Inhabited α] {d d' : Array α} (h : PermIn 0 d.size d d') : d'.toList.Perm d.toList := by
  have h3 := h.2.2
  have e1 : d'.extract 0 d.size = d' := by rw [← h.1]; exact Array.extract_size
  rwa [e1, Array.extract_size] at h3
/-- Rows sorted in their block: what the block reads as. -/
theorem vrows_end {w0 w1 w2 : World} {g c k : Nat} {ds : List Sl} {rs : List (List Vl)} {d' : Array Sl} (hk : ds.length = k) (hb : w0.heap.size ≤ g) (hbl : Below w0.heap.size w0 w1) (hn : ds.length ≤ c) (hm : c ≤ maxLen)
    (hl : ds.length = rs.length) (hrows : ∀ (i : Nat) (s : Sl) (r : List Vl), ds[i]? = some s → rs[i]? = some r → Own Vl.cs 4 33 w1 w0.heap.size s.v r)
    (hblk : ∃ L, w1.heap[g]? = some (.cells L 34 (0, 0))) (hoff : Off g g w1 w2) (hrow : RowBlk w2 g c d') (hp : PermIn 0 k ds.toArray d') (hso : SortedIn (ltR (readR w1)) 0 k d') :
    VRowsPost rs w0 (.returned (.slice (some ⟨g, 0, none⟩) k c)) w2 := by
  have hk' : ds.toArray.size = k := by simpa using hk
  have hds : d'.size = k := by rw [hp.1, hk']
  have hpl := permIn_list (d := ds.toArray) (by rw [hk']; exact hp)
  have hread : ∀ (i : Nat) (s : Sl) (r : List Vl), ds[i]? = some s → rs[i]? = some r → readR w1 s = r := fun i s r h1 h2 => readR_eq (own_rd vl_len (hrows i s r h1 h2))
  have hmap : ds.map (readR w1) = rs := by
    apply List.ext_getElem?
    intro i
    rw [List.getElem?_map]
    by_cases hi : i < ds.length
    · have h1 := List.getElem?_eq_getElem hi
      have h2 := List.getElem?_eq_getElem (show i < rs.length by omega)
      rw [h1, h2, Option.map_some, hread i _ _ h1 h2]
    · rw [List.getElem?_eq_none (by omega), List.getElem?_eq_none (by omega)]; rfl
  refine ⟨_, d'.toList.map (readR w1), rfl, ⟨d'.toList, ⟨?_, fun g' hg' => ?_⟩, by simp, fun i s r h1 h2 => ?_⟩, ⟨?_, ?_⟩, bl_off hbl hoff hb hb⟩
  · have := rowBlk_own hrow (Nat.zero_le g) (by rw [hds, ← hk]; exact hn) hm
    rwa [hds] at this
  · simp [Value.ownBlock] at hg'
    omega
  · rw [List.getElem?_map, h1, Option.map_some] at h2
    cases h2
    have hm1 : s ∈ d'.toList := List.mem_of_getElem? h1
    have hm2 : s ∈ ds := by have := hpl.mem_iff.1 hm1; simpa using this
    obtain ⟨j, hj, rfl⟩ := List.getElem_of_mem hm2
    have h3 := List.getElem?_eq_getElem hj
    have h4 := List.getElem?_eq_getElem (show j < rs.length by omega)
    have ho := hrows j _ _ h3 h4
    rw [hread j _ _ h3 h4]
    have hne : ∀ g', (ds[j]).v.ownBlock = some g' → g' ≠ g := fun g' hg' e => by
      subst e
      obtain ⟨L, hL⟩ := hblk
      exact SlD.ne_blk (D := fun _ => True) ⟨ho.lower (Nat.zero_le _), fun _ _ => trivial⟩ hL (fun L' e => by cases e) hg'
    refine SlD.of_own (ho.of_blk fun g' hg' => hoff.block g' (ho.lt g' hg').2 (hne g' hg') (hne g' hg')) (fun b h1 _ => h1)
  · rw [← hmap]
    exact (hpl.map _).trans (by simp)
  · rw [List.pairwise_map, List.pairwise_iff_getElem]
    intro i j hi hj hij
    have h5 := hso i j (Nat.zero_le _) hij (by simpa [hds] using hj)
    rw [getElem!_pos d' j (by simpa using hj), getElem!_pos d' i (by simpa using hi)] at h5
    simpa [ltR] using h5
set_option maxRecDepth 100000 in
set_option maxHeartbeats 4000000 in
theorem vrows_any (D : Nat → Prop) (V : Value) (rs : List (List Vl)) (w : World) (hv : RowsD D w V rs) (hn : rs.length ≤ 1000) (hl : ∀ r ∈ rs, r.length ≤ 1000) (hs : StabOK rs.length) :
    Calls Tryz.prog 68 #[V] w (VRowsPost rs w) := by
  obtain ⟨vs, hv1, hv2, hv3⟩ := hv
  obtain ⟨A, c, rfl, hrd, _⟩ := hv1.rd sl_len
  obtain ⟨n, hvn⟩ : ∃ n, vs.length = n := ⟨_, rfl⟩
  rw [hvn] at hrd hv2 ⊢
  have HR := Lib.hid hrd
  have HV := Lib.hid hv3
  have HL := Lib.hid hl
  have HN := Lib.hid hv2
  have hn' : n ≤ 1000 := by omega
  have HS := Lib.hid hs
  clear hrd hv3 hl hv1 hvn hv2 hs hn
  go_enter Tryz.func68, Tryz.ntmps68
  go_wp2
  go_loopw [3, 8] (fun out i wr => ∃ (k : Nat) (A' : Option Addr) (c' : Nat) (ds : List Sl), k ≤ n ∧ i = .int .i64 k ∧ out = .slice A' k c' ∧ Own Sl.cs 1 34 wr w.heap.size (.slice A' k c') ds ∧ ds.length = k ∧
    (∀ (i : Nat) (s : Sl) (r : List Vl), ds[i]? = some s → rs[i]? = some r → Own Vl.cs 4 33 wr w.heap.size s.v r) ∧ Below w.heap.size w wr) (fun _ i _ => n - (intOf i).toNat)
  case atStart => exact ⟨0, none, 0, [], Nat.zero_le _, rfl, rfl, own_nil' _ _ _, rfl, fun i s r hs => by simp at hs, Below.refl _ _⟩
  case round =>
    obtain ⟨k, A', c', ds, hk, rfl, rfl, hown, hdl, hrows, hb⟩ := hrel
    have HO := Lib.hid hown
    have HD := Lib.hid hdl
    have HW := Lib.hid hrows
    clear hown hdl hrows
    by_cases hlt : k < n
    · obtain ⟨b1, o1, x, hA, hxk, x0, hb1⟩ := RdS.get_ HR.out hb hlt
      subst hA
      have hkr : k < rs.length := by rw [← HN.out]; exact hlt
      obtain ⟨r, hr⟩ : ∃ r, rs[k]? = some r := ⟨_, List.getElem?_eq_getElem hkr⟩
      have hxr := HV.out k x r hxk hr
      obtain ⟨Ar, cr, hxe, hrdr, _⟩ := hxr.rd vl_len
      injection hxe with ea en ec
      have hlen := HL.out r (List.mem_of_getElem? hr)
      have HXR := Lib.hid (show RdV wr x.A x.n r by rw [ea, en]; exact hrdr.keep hb)
      have HRK := Lib.hid hr
      have hxn : x.n ≤ 1000 := by omega
      clear hxk hr hxr hrdr ea en ec hlen
      go_wp2_with fail
      refine (cloneV x.A x.n x.c r _ HXR.out (by omega)).mono ?_
      rintro e w1 ⟨A1, c1, rfl, hown1, hb2⟩
      have HO1 := Lib.hid (hown1.lower hb.size)
      have HB2 := Lib.hid hb2
      have hbb : Below w.heap.size w w1 := bl_step hb hb2
      clear x0 hown1 hb2
      go_wp2_with (at_builtin; go_loud (refine wp_app (cs := Sl.cs) (size := 1) sl_len (by omega) sl_one rfl (.tmp 12) (.tmp 15) _ rfl w.heap.size 34 _ 24 Tryz.uRows Tryz.iRow rfl (.slice A' k c') ds rfl ((HO.out.kept HB2.out).alloc_ _) (some ⟨w1.heap.size, 0, none⟩) 1 1 [⟨A1, x.n, c1⟩] rfl (rd_one rfl (blk_new w1 _)) (by rw [HD.out]; omega) (by rw [HD.out]; omega) (by have := hbb.size; simp; omega) ?_))
      intro A2 c2 w2 hown2 hg2 hat2
      rw [HD.out] at hown2 ⊢
      have hb3 : Below w.heap.size w w2 := below_own (bl_alloc hbb _) hg2 (fun g hg => (HO.out.lt g hg).1)
      have HO2 := Lib.hid hown2
      have HROW := Lib.hid (show ∀ (i : Nat) (s : Sl) (r : List Vl), (ds ++ [(⟨A1, x.n, c1⟩ : Sl)])[i]? = some s → rs[i]? = some r → Own Vl.cs 4 33 w2 w.heap.size s.v r by
        intro i s r' hs hr'
        have hkeep : ∀ {s : Sl} {r : List Vl}, Own Vl.cs 4 33 w1 w.heap.size s.v r → Own Vl.cs 4 33 w2 w.heap.size s.v r := fun {s r} h => by
          refine (h.alloc_ _).grown hg2 ?_
          exact SlD.ne (D := fun _ => True) (D' := fun _ => True) (v := s.v) (v' := Value.slice A' k c') ⟨h.lower (Nat.zero_le _), fun _ _ => trivial⟩ ⟨(HO.out.kept HB2.out).lower (Nat.zero_le _), fun _ _ => trivial⟩ (by decide)
        by_cases hi : i < ds.length
        · rw [List.getElem?_append_left hi] at hs
          exact hkeep ((HW.out i s r' hs hr').kept HB2.out)
        · have hik : i = k := by
            have := (List.getElem?_eq_some_iff.1 hs).1
            rw [List.length_append, HD.out] at this
            have hdl := HD.out
            simp at this
            omega
          subst hik
          rw [List.getElem?_append_right (by rw [HD.out]; exact Nat.le_refl _), HD.out, Nat.sub_self] at hs
          simp at hs
          subst hs
          rw [HRK.out] at hr'
          cases hr'
          exact hkeep HO1.out)
      clear hown2 hg2 hat2
      go_wp2
      go_roundw
      case rel => exact ⟨k + 1, A2, c2, ds ++ [⟨A1, x.n, c1⟩], by omega, by go_num, rfl, HO2.out, by rw [List.length_append, HD.out]; rfl, HROW.out, hb3⟩
      case measure => simp [intOf]; omega
    · obtain rfl : k = n := by omega
      cases A' with
      | none =>
        have h0 : k = 0 ∧ c' = 0 := by
          rcases HO.out.2 with ⟨h2, h3⟩ | ⟨g, cap, cur, hv, _⟩
          · injection h2 with _ h4 h5; exact ⟨h4, h5⟩
          · cases hv
        obtain ⟨rfl, rfl⟩ := h0
        have HRS := Lib.hid (show rs = [] from List.eq_nil_of_length_eq_zero HN.out.symm)
        go_wp2_with fail
        refine (sortStable_nil _ 0).mono ?_
        rintro e w1 ⟨rfl, rfl⟩
        go_wp2
        go_ret
        exact ⟨_, [], rfl, rowsD_nil, by rw [HRS.out]; exact ⟨List.Perm.refl _, List.Pairwise.nil⟩, hb⟩
      | some p =>
        obtain ⟨g, hp, hg, hrb, hnc, hmc⟩ := own_rowBlk HO.out
        subst hp
        have HG := Lib.hid hrb
        have hgl := HG.out.lt
        have hgb : ∃ L, wr.heap[g]? = some (.cells L 34 (0, 0)) := by obtain ⟨L, h, _⟩ := hrb; exact ⟨L, h⟩
        have HGB := Lib.hid hgb
        have HCX := Lib.hid (show Cx wr g ds.toArray (readR wr) from fun i hi => by
          have hi' : i < ds.length := by simpa using hi
          have h1 := List.getElem?_eq_getElem hi'
          have h2 := List.getElem?_eq_getElem (show i < rs.length by rw [← HN.out, ← HD.out]; exact hi')
          have ho := HW.out i _ _ h1 h2
          have e1 : ds.toArray[i]! = ds[i] := by rw [getElem!_pos _ i hi]; simp
          rw [e1, readR_eq (own_rd vl_len ho)]
          refine ⟨own_rd vl_len ho, fun p hp e => ?_⟩
          obtain ⟨L, hL⟩ := HGB.out
          have hob : (ds[i]).v.ownBlock = some g := by rw [← e]; show (Value.slice (ds[i]).A _ _).ownBlock = _; rw [hp]; rfl
          exact SlD.ne_blk (D := fun _ => True) ⟨ho.lower (Nat.zero_le _), fun _ _ => trivial⟩ hL (fun L' e => by cases e) hob)
        clear hrb hgb
        go_wp2_with fail
        refine (sortStable_any k (by rw [HN.out]; exact HS.out) wr wr g c' c' ds.toArray ds.toArray (readR wr) HCX.out (off_refl _ _ _) (permIn_refl _ _ _) HG.out (by simpa using HD.out)).mono ?_
        rintro e w1 ⟨d', ⟨rfl, hoff, hrow⟩, hperm, hso⟩
        have H := Lib.hid (vrows_end (rs := rs) HD.out hg hb (by rw [HD.out]; rw [HD.out] at hnc; exact hnc) hmc (by rw [HD.out]; exact HN.out) HW.out HGB.out hoff hrow hperm hso)
        clear hoff hrow hperm hso
        go_wp2
        go_ret
        exact H.out
end Go.Proofs.YtbmaeaknlpgdmaaGreat
