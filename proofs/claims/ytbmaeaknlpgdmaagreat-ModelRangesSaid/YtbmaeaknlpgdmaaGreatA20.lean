/- The library's IndexFunc and DeleteFunc over rows, whatever is asked of each row. -/
import Derived.Test.YtbmaeaknlpgdmaaGreatA19
import Derived.Lib.SlKept
namespace Go.Proofs.YtbmaeaknlpgdmaaGreat
open Go.RowKit Go.Sort Go.Lib
set_option linter.unusedVariables false
set_option linter.unusedSimpArgs false
/-- The function value f (with what it has caught) answers q of each row that is ok, wherever Hd holds. -/
def PredC (f : Nat) (caps : Array Value) (q : List Vl → Bool) (ok : List Vl → Prop) (Hd : World → Prop) : Prop :=
  ∀ (w : World) (A : Option Addr) (n c : Nat) (r : List Vl), Hd w → RdV w A n r → ok r → Calls Tryz.prog f (#[.slice A n c] ++ caps) w fun e w' => e = .returned (.bool (q r)) ∧ Below w.heap.size w w'
/-- The place of the first row that q takes; -1: there is none. -/
def ixR (q : List Vl → Bool) (rs : List (List Vl)) : Int := match rs.findIdx? q with | some k => (k : Int) | none => -1
theorem ixR_hit {q : List Vl → Bool} {l : List (List Vl)} {k : Nat} {x : List Vl} (hx : l[k]? = some x) (hn : q x = true) (hb : ∀ j y, j < k → l[j]? = some y → q y = false) : ixR q l = k := by
  unfold ixR
  have h : l.findIdx? q = some k := by
    obtain ⟨hk, rfl⟩ := List.getElem?_eq_some_iff.1 hx
    rw [List.findIdx?_eq_some_iff_getElem]
    refine ⟨hk, hn, fun j hj => ?_⟩
    rw [hb j _ hj (List.getElem?_eq_getElem (by omega))]; simp
  rw [h]
theorem ixR_none {q : List Vl → Bool} {l : List (List Vl)} (hb : ∀ j y, j < l.length → l[j]? = some y → q y = false) : ixR q l = -1 := by
  unfold ixR
  have h : l.findIdx? q = none := by
    rw [List.findIdx?_eq_none_iff]
    intro y hy
    obtain ⟨j, hj, rfl⟩ := List.getElem_of_mem hy
    exact hb j _ hj (List.getElem?_eq_getElem hj)
  rw [h]
theorem ixR_spec (q : List Vl → Bool) (l : List (List Vl)) : (ixR q l = -1 ∧ ∀ (j : Nat) (y : List Vl), l[j]? = some y → q y = false) ∨ ∃ (k : Nat) (y : List Vl), k < l.length ∧ ixR q l = (k : Int) ∧ l[k]? = some y ∧ q y = true ∧ ∀ (j : Nat) (y : List Vl), j < k → l[j]? = some y → q y = false := by
  cases h : l.findIdx? q with
  | none =>
    left
    rw [List.findIdx?_eq_none_iff] at h
    exact ⟨by unfold ixR; rw [List.findIdx?_eq_none_iff.2 h], fun j y hy => h y (List.mem_of_getElem? hy)⟩
  | some k =>
    right
    have h' := h
    rw [List.findIdx?_eq_some_iff_getElem] at h
    obtain ⟨hk, hq, hb⟩ := h
    exact ⟨k, l[k], hk, by unfold ixR; rw [h'], List.getElem?_eq_getElem hk, hq, fun j y hj hy => by
      have := hb j hj
      obtain ⟨hj', rfl⟩ := List.getElem?_eq_some_iff.1 hy
      simpa using this⟩
theorem RowBlk.set_ {w : World} {g c : Nat} {d : Array Sl} (h : RowBlk w g c d) (i : Nat) (s : Sl) : RowBlk (w.setCell ⟨g, i, none⟩ s.v) g c (d.setIfInBounds i s) := by
  obtain ⟨L, hg, hc, hL⟩ := h
  refine ⟨L.setIfInBounds i s.v, blk_set hg i _, by simp [hc], fun j hj => ?_⟩
  have hj' : j < d.size := by simpa using hj
  have hlt := (Array.getElem?_eq_some_iff.1 (hL j hj')).1
  by_cases hij : j = i
  · subst hij
    rw [getElem!_pos _ j hj]
    simp [hlt]
  · rw [getElem!_pos _ j hj, Array.getElem?_setIfInBounds, if_neg (Ne.symm hij), hL j hj', getElem!_pos _ j hj', Array.getElem_setIfInBounds (hj := hj') , if_neg (Ne.symm hij)]
theorem RowBlk.sets {g c : Nat} {d : Array Sl} : ∀ (vs : List Value) (o : Nat) (w : World), d.size ≤ o → RowBlk w g c d → RowBlk (w.setCells g o vs) g c d
  | [], _, _, _, h => h
  | v :: r, o, w, ho, h => by
    refine RowBlk.sets r (o + 1) _ (by omega) ?_
    obtain ⟨L, hg, hc, hL⟩ := h
    refine ⟨L.setIfInBounds o v, blk_set hg o _, by simp [hc], fun j hj => ?_⟩
    rw [Array.getElem?_setIfInBounds, if_neg (by omega)]
    exact hL j hj
theorem off_sets {g : Nat} {w0 : World} : ∀ (vs : List Value) (o : Nat) (w : World), Off g g w0 w → Off g g w0 (w.setCells g o vs)
  | [], _, _, h => h
  | v :: r, o, w, h => off_sets r (o + 1) _ (off_set (p := ⟨g, o, none⟩) h (.inl rfl) v)
/-- The places of the rows that q does not take. -/
def leftI (q : List Vl → Bool) (rs : List (List Vl)) : List Nat := (List.range rs.length).filter fun j => !q rs[j]!
theorem leftI_filter (q : List Vl → Bool) (rs : List (List Vl)) : (leftI q rs).map (rs[·]!) = rs.filter fun r => !q r := by
  have h := keptUpTo_filter (fun r => !q r) rs.toArray
  unfold keptUpTo at h
  simpa [leftI] using h
theorem leftI_lt {q : List Vl → Bool} {rs : List (List Vl)} {i j : Nat} (h : (leftI q rs)[i]? = some j) : j < rs.length := by
  have := List.mem_of_getElem? h
  simp only [leftI, List.mem_filter, List.mem_range] at this
  exact this.1
def DelPost (g c : Nat) (d : Array Sl) (q : List Vl → Bool) (rs : List (List Vl)) (w : World) (e : Ending) (w' : World) : Prop :=
  e = .returned (.slice (some ⟨g, 0, none⟩) (leftI q rs).length c) ∧ RowBlk w' g c ((leftI q rs).map (d[·]!)).toArray ∧ Off g g w w'
theorem Tryz.zRow (w : World) : (zeroValue 34).run Tryz.prog w = .ok (.slice none 0 0) w := by kernel_rfl
section
variable (f : Nat) (caps : Array Value) (q : List Vl → Bool) (ok : List Vl → Prop) (Hd : World → Prop)
set_option maxRecDepth 100000 in
set_option maxHeartbeats 4000000 in
theorem ixf_rows (eg : ∀ args w, (callFunc f args).run Tryz.prog w = .ok (.enter f args) w) (hp : PredC f caps q ok Hd) (hk : ∀ w1 w2, Hd w1 → Below w1.heap.size w1 w2 → Hd w2)
    (A : Option Addr) (n c : Nat) (ds : List Sl) (rs : List (List Vl)) (w : World) (hx : Rd Sl.cs 1 w A n ds) (hl : rs.length = n) (hr : ∀ (i : Nat) (s : Sl) (r : List Vl), ds[i]? = some s → rs[i]? = some r → RdV w s.A s.n r ∧ ok r) (hd : Hd w) :
    Pure Tryz.prog 130 #[.slice A n c, .func (.func f) #[] caps] w (.int .i64 (ixR q rs)) := by
  have hxm := hx.2.1
  have HX := Lib.hid hx
  have HL := Lib.hid hl
  have HR := Lib.hid hr
  have HD := Lib.hid hd
  have HP := Lib.hid hp
  have HK := Lib.hid hk
  clear hx hl hr hd hp hk
  go_enter Tryz.func130, Tryz.ntmps130
  go_wp2
  go_loopw [8] (fun i wr => ∃ k : Nat, k ≤ n ∧ i = .int .i64 k ∧ (∀ j y, j < k → rs[j]? = some y → q y = false) ∧ Below w.heap.size w wr) (fun i _ => n - (intOf i).toNat)
  case atStart => exact ⟨0, Nat.zero_le _, rfl, fun j x hj => by omega, Below.refl _ _⟩
  case round =>
    obtain ⟨k, hk, rfl, hall, hb⟩ := hrel
    have Hall := Lib.hid hall
    clear hall
    by_cases hlt : k < n
    · obtain ⟨b1, o1, x, hA, hxk, x0, hb1⟩ := RdS.get_ HX.out hb hlt
      subst hA
      obtain ⟨r, hr⟩ : ∃ r, rs[k]? = some r := ⟨_, List.getElem?_eq_getElem (by rw [HL.out]; exact hlt)⟩
      have hrr := HR.out k x r hxk hr
      have HC := Lib.hid (HP.out wr x.A x.n x.c r (HK.out _ _ HD.out hb) (hrr.1.keep hb) hrr.2)
      have HRK := Lib.hid hr
      clear hxk hr hrr
      cases hq : q r with
      | true =>
        have H := Lib.hid (ixR_hit HRK.out hq Hall.out)
        have HQ := Lib.hid hq
        clear hq
        go_wp2_with fail
        refine HC.out.mono ?_
        rintro e w1 ⟨rfl, hb2⟩
        rw [HQ.out]
        have hbb := bl_step hb hb2
        go_wp2
        go_ret
        exact ⟨by rw [H.out]; rfl, hbb⟩
      | false =>
        have HQ := Lib.hid hq
        clear hq
        go_wp2_with fail
        refine HC.out.mono ?_
        rintro e w1 ⟨rfl, hb2⟩
        rw [HQ.out]
        have hbb := bl_step hb hb2
        clear x0
        go_wp2
        go_roundw
        case rel => exact ⟨k + 1, by omega, by go_num, fun j y hj hy => (Nat.lt_succ_iff_lt_or_eq.1 hj).elim (fun h => Hall.out j y h hy) (fun h => by subst h; rw [HRK.out] at hy; cases hy; exact HQ.out), hbb⟩
        case measure => simp [intOf]; omega
    · obtain rfl : k = n := by omega
      have H := Lib.hid (ixR_none (q := q) (fun j y hj hy => Hall.out j y (by rw [← HL.out]; exact hj) hy))
      go_wp2
      go_ret
      exact ⟨by rw [H.out]; rfl, hb⟩
set_option maxRecDepth 100000 in
set_option maxHeartbeats 4000000 in
theorem delf_nil (eg : ∀ args w, (callFunc f args).run Tryz.prog w = .ok (.enter f args) w) (hp : PredC f caps q ok Hd) (hk : ∀ w1 w2, Hd w1 → Below w1.heap.size w1 w2 → Hd w2) (c : Nat) (w : World) (hd : Hd w) :
    Pure Tryz.prog 95 #[.slice none 0 c, .func (.func f) #[] caps] w (.slice none 0 c) := by
  have HI := Lib.hid (ixf_rows f caps q ok Hd eg hp hk none 0 c [] [] w ⟨rfl, by simp, fun h => absurd h (by simp)⟩ rfl (fun i s r h => by simp at h) hd)
  clear hp hk hd
  go_enter Tryz.func95, Tryz.ntmps95
  go_wp2_with fail
  refine HI.out.mono ?_
  rintro e w1 ⟨rfl, hb⟩
  have h0 : ixR q [] = -1 := rfl
  rw [h0]
  go_wp2
  go_ret
  exact ⟨rfl, hb⟩
set_option maxRecDepth 100000 in
set_option maxHeartbeats 8000000 in
theorem delf_any (eg : ∀ args w, (callFunc f args).run Tryz.prog w = .ok (.enter f args) w) (hp : PredC f caps q ok Hd) (hk : ∀ w1 w2, Hd w1 → Below w1.heap.size w1 w2 → Hd w2)
    (g c n : Nat) (hko : ∀ w1 w2, Hd w1 → Off g g w1 w2 → Hd w2) (d : Array Sl) (rs : List (List Vl)) (w : World) (hb : RowBlk w g c d) (hdn : d.size = n) (hl : rs.length = n) (hnc : n ≤ c) (hcm : c ≤ 9223372036854775807)
    (hr : ∀ (i : Nat), i < n → RdV w d[i]!.A d[i]!.n rs[i]! ∧ ok rs[i]! ∧ ∀ p, d[i]!.A = some p → p.block ≠ g) (hd : Hd w) :
    Calls Tryz.prog 95 #[.slice (some ⟨g, 0, none⟩) n c, .func (.func f) #[] caps] w (DelPost g c d q rs w) := by
  have hrd : Rd Sl.cs 1 w (some ⟨g, 0, none⟩) n d.toList := by
    refine ⟨by simpa using hdn, by omega, fun _ => ⟨g, 0, rfl, fun i x hx j u hu => ?_⟩⟩
    have hj : j = 0 := by have := (List.getElem?_eq_some_iff.1 hu).1; simp at this; exact this
    subst hj
    have hi : i < d.size := by have := (List.getElem?_eq_some_iff.1 hx).1; simpa using this
    have hx' : d[i]! = x := by rw [getElem!_pos d i hi]; have := (List.getElem?_eq_some_iff.1 hx).2; simpa using this
    have := (hb.cell hi hx').1
    simp at hu
    subst hu
    simpa using this
  have hget : ∀ (i : Nat) (s : Sl) (r : List Vl), d.toList[i]? = some s → rs[i]? = some r → RdV w s.A s.n r ∧ ok r := fun i s r h1 h2 => by
    have hi : i < n := by have := (List.getElem?_eq_some_iff.1 h2).1; omega
    have e1 : d[i]! = s := by rw [getElem!_pos d i (by omega)]; have := (List.getElem?_eq_some_iff.1 h1).2; simpa using this
    have e2 : rs[i]! = r := by rw [getElem!_pos rs i (by omega)]; exact (List.getElem?_eq_some_iff.1 h2).2
    have := hr i hi
    rw [e1, e2] at this
    exact ⟨this.1, this.2.1⟩
  have HI := Lib.hid (ixf_rows f caps q ok Hd eg hp hk (some ⟨g, 0, none⟩) n c d.toList rs w hrd hl hget hd)
  have HP := Lib.hid hp
  have HK := Lib.hid hk
  have HKO := Lib.hid hko
  have HB := Lib.hid hb
  have HR := Lib.hid hr
  have HD := Lib.hid hd
  have HDN := Lib.hid hdn
  have HL := Lib.hid hl
  clear hp hk hko hb hr hd hrd hget
  rcases ixR_spec q rs with ⟨e1, hall⟩ | ⟨k0, y0, hk0, e1, hy0, ht, hall⟩
  · have HE1 := Lib.hid e1
    have hleft : leftI q rs = List.range n := by
      unfold leftI
      rw [hl]
      refine List.filter_eq_self.2 fun j hj => ?_
      have hj' : j < rs.length := by rw [hl]; exact List.mem_range.1 hj
      rw [getElem!_pos rs j hj', hall j _ (List.getElem?_eq_getElem hj')]; rfl
    have HLF := Lib.hid hleft
    clear e1 hall hleft hl hdn
    go_enter Tryz.func95, Tryz.ntmps95
    go_wp2_with fail
    refine HI.out.mono ?_
    rintro e w1 ⟨rfl, hb1⟩
    rw [HE1.out]
    go_wp2
    go_ret
    refine ⟨by rw [HLF.out, List.length_range]; rfl, ?_, off_below (off_refl _ _ _) hb1⟩
    rw [HLF.out]
    have hm : ((List.range n).map (d[·]!)).toArray = d := by
      rw [← HDN.out, range_map_get]
    rw [hm]
    exact HB.out.keep hb1
  · have HE1 := Lib.hid e1
    have hk0n : k0 < n := by omega
    have HKP0 := Lib.hid (show ∀ j, j < k0 → (fun j => !q rs[j]!) j = true from fun j hj => by
      have hj' : j < rs.length := by omega
      show (!q rs[j]!) = true
      rw [getElem!_pos rs j hj', hall j _ hj (List.getElem?_eq_getElem hj')]; rfl)
    have HKD := Lib.hid (show (fun j => !q rs[j]!) k0 = false by
      show (!q rs[k0]!) = false
      rw [getElem!_pos rs k0 hk0, (List.getElem?_eq_some_iff.1 hy0).2, ht]; rfl)
    have hne1 : ((k0 : Int) == -1) = false := beq_eq_false_iff_ne.2 (by omega)
    clear e1 hall ht hy0 hl hdn hk0
    go_enter Tryz.func95, Tryz.ntmps95
    go_wp2_with fail
    refine HI.out.mono ?_
    rintro e w1 ⟨rfl, hb1⟩
    rw [HE1.out]
    have HB1 := Lib.hid (HB.out.keep hb1)
    have HO1 := Lib.hid (off_below (off_refl g g w) hb1)
    clear hb1
    go_wp2
    go_loopw [5, 6, 7] (fun s5 s6 _ wr => ∃ (i j : Nat) (dk : Array Sl), s5 = .int .i64 i ∧ s6 = .int .i64 j ∧ j ≤ n ∧ RowBlk wr g c dk ∧ Off g g w wr ∧ KeptInv (fun j => !q rs[j]!) d j i dk) (fun _ s6 _ _ => n - (intOf s6).toNat)
    case atStart => exact ⟨k0, k0 + 1, d, rfl, by go_num, by omega, HB1.out, HO1.out, KeptInv.start HKP0.out HKD.out⟩
    case round =>
      obtain ⟨i, j, dk, rfl, rfl, hjd, hbk, hok, hinv⟩ := hrel
      have hij := hinv.lt
      have HBK := Lib.hid hbk
      have HOK := Lib.hid hok
      have HIN := Lib.hid hinv
      have hds := hinv.size
      clear hbk hok hinv HB1 HO1
      by_cases hlt : j < n
      · have hltz : (j : Int) < (n : Int) := by omega
        obtain ⟨u, hu⟩ : ∃ u, d[j]! = u := ⟨_, rfl⟩
        obtain ⟨cj, fj⟩ := HBK.out.cell (i := j) (by rw [hds, HDN.out]; exact hlt) ((HIN.out.high j (by omega)).trans hu)
        obtain ⟨ci, fi⟩ := HBK.out.cell (i := i) (by rw [hds, HDN.out]; omega) rfl
        have hgl := HBK.out.lt
        have hrj := HR.out j hlt
        rw [hu] at hrj
        have HC := Lib.hid (HP.out wr u.A u.n u.c rs[j]! (HKO.out _ _ HD.out HOK.out) (hrj.1.off HOK.out (fun p hp => ⟨hrj.2.2 p hp, hrj.2.2 p hp⟩)) hrj.2.1)
        have HU := Lib.hid hu
        have HDS := Lib.hid hds
        generalize dk[i]! = old at ci
        clear hu hrj hds
        cases hq : q rs[j]! with
        | true =>
          have HQ := Lib.hid hq
          clear hq
          go_wp2_with fail
          refine HC.out.mono ?_
          rintro e w2 ⟨rfl, hb2⟩
          rw [HQ.out]
          have HB2 := Lib.hid (HBK.out.keep hb2)
          have HO2 := Lib.hid (off_below HOK.out hb2)
          clear cj fj ci fi hb2 hgl
          go_wp2
          go_roundw
          case rel => exact ⟨i, j + 1, dk, rfl, by go_num, by omega, HB2.out, HO2.out, HIN.out.skip (by show (!q rs[j]!) = false; rw [HQ.out]; rfl)⟩
          case measure => simp [intOf]; omega
        | false =>
          have HQ := Lib.hid hq
          clear hq
          go_wp2_with fail
          refine HC.out.mono ?_
          rintro e w2 ⟨rfl, hb2⟩
          rw [HQ.out]
          have HB2 := Lib.hid (HBK.out.keep hb2)
          have HO2 := Lib.hid (off_below HOK.out hb2)
          clear cj fj ci fi hb2 hgl
          obtain ⟨ci, fi⟩ := HB2.out.cell (i := i) (by rw [HDS.out, HDN.out]; omega) rfl
          have hgl := HB2.out.lt
          generalize dk[i]! = old at ci
          have hin : (i : Int) < n := by omega
          go_wp2
          go_roundw
          case rel =>
            have hkeep := HIN.out.keep (by rw [HDN.out]; exact hlt) (by show (!q rs[j]!) = true; rw [HQ.out]; rfl)
            rw [HU.out] at hkeep
            exact ⟨i + 1, j + 1, dk.setIfInBounds i u, by go_num, by go_num, by omega, HB2.out.set_ i u, off_set (p := ⟨g, i, none⟩) HO2.out (.inl rfl) u.v, hkeep⟩
          case measure => simp [intOf]; omega
      · obtain rfl : j = n := by omega
        have hcl : ∀ ty, (Builtin.clear_ #[27] ty #[.slice (some ⟨g, i, none⟩) (j - i) (c - i)]).run Tryz.prog wr = .ok (.tuple #[]) (wr.setCells g i (List.replicate (j - i) (.slice none 0 0))) :=
          fun ty => Lib.run_clear_slice wr _ _ ty _ Tryz.uRows Tryz.zRow rfl rfl g i _ _ (by omega) (fun t ht => by rw [(HBK.out.cell (i := i + t) (by rw [hds, HDN.out]; omega) rfl).1]; rfl) (fun t ht => (HBK.out.cell (i := i + t) (by rw [hds, HDN.out]; omega) rfl).2)
        have hgl := HBK.out.lt
        have HDS := Lib.hid hds
        have hin : (i : Int) ≤ j := by omega
        have hin2 : (i : Int) ≤ c := by omega
        clear hds
        go_wp2
        go_ret
        have hlen : (leftI q rs).length = i := by have := HIN.out.len; unfold keptUpTo at this; rw [List.length_map] at this; unfold leftI; rw [HL.out]; exact this
        refine ⟨by rw [hlen]; rfl, RowBlk.sets _ _ _ (by simp [hlen]) ?_, off_sets _ _ _ HOK.out⟩
        obtain ⟨L, hg, hcc, hL⟩ := HBK.out
        refine ⟨L, hg, hcc, fun t ht => ?_⟩
        have ht' : t < i := by simpa [hlen] using ht
        rw [hL t (by rw [HDS.out, HDN.out]; omega)]
        have hlow := HIN.out.low t ht'
        have hk2 : keptUpTo (fun j => !q rs[j]!) d j = (leftI q rs).map (d[·]!) := by unfold keptUpTo leftI; rw [HL.out]
        rw [hk2] at hlow
        rw [getElem!_pos ((leftI q rs).map (d[·]!)).toArray t ht]
        have e1 : ((leftI q rs).map (d[·]!)).toArray[t] = dk[t]! := by
          have := (List.getElem?_eq_some_iff.1 hlow).2
          simpa using this
        rw [e1]
end
end Go.Proofs.YtbmaeaknlpgdmaaGreat
