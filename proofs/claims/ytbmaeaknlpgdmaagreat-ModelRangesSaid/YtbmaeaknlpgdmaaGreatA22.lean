/- Rows that a statement finds. -/
import Derived.Test.YtbmaeaknlpgdmaaGreatA21
import Derived.Laws.EntriesVeiled
namespace Go.Proofs.YtbmaeaknlpgdmaaGreat
open Go.RowKit Go.Sort Go.Lib
set_option linter.unusedVariables false
set_option linter.unusedSimpArgs false
/-- What is left of cloned rows, as rows. -/
theorem del_rowsD {D : Nat → Prop} {w w2 w3 : World} {g c : Nat} {ds : List Sl} {rs : List (List Vl)} {q : List Vl → Bool} (hl : ds.length = rs.length) (hg : w.heap.size ≤ g) (hbl : Below w.heap.size w w2) (hnc : ds.length ≤ c) (hcm : c ≤ maxLen)
    (hr : ∀ (i : Nat) (s : Sl) (r : List Vl), ds[i]? = some s → rs[i]? = some r → SlD Vl.cs 4 33 D w s.v r)
    (hrow : RowBlk w3 g c ((leftI q rs).map (ds.toArray[·]!)).toArray) (hoff : Off g g w2 w3) :
    RowsD (fun b => D b ∨ w.heap.size ≤ b) w3 (.slice (some ⟨g, 0, none⟩) (leftI q rs).length c) (rs.filter fun r => !q r) := by
  have hll : (leftI q rs).length ≤ rs.length := by
    have := List.length_filter_le (fun j => !q rs[j]!) (List.range rs.length)
    simpa [leftI] using this
  refine ⟨(leftI q rs).map (ds.toArray[·]!), ⟨?_, fun g' hg' => ?_⟩, ?_, fun i s r h1 h2 => ?_⟩
  · have := rowBlk_own hrow (Nat.zero_le g) (by simp; omega) hcm
    simpa using this
  · simp [Value.ownBlock] at hg'
    exact .inr (by omega)
  · rw [← leftI_filter]; simp
  · rw [← leftI_filter] at h2
    rw [List.getElem?_map] at h1 h2
    cases hi : (leftI q rs)[i]? with
    | none => rw [hi] at h1; cases h1
    | some j =>
      rw [hi] at h1 h2
      simp only [Option.map_some, Option.some.injEq] at h1 h2
      have hj := leftI_lt hi
      have e1 : ds[j]? = some s := by rw [← h1, getElem!_pos ds.toArray j (by simp; omega)]; simp [List.getElem?_eq_getElem (show j < ds.length by omega)]
      have e2 : rs[j]? = some r := by rw [← h2, getElem!_pos rs j hj]; exact List.getElem?_eq_getElem hj
      have hs := hr j s r e1 e2
      have hne : ∀ g', s.v.ownBlock = some g' → g' ≠ g := fun g' hg' => by have := (hs.lt hg').2; omega
      exact ⟨(hs.1.kept hbl).of_blk fun g' hg' => hoff.block g' ((hs.1.kept hbl).lt g' hg').2 (hne g' hg') (hne g' hg'), fun g' hg' => .inl (hs.2 g' hg')⟩
theorem rows_far3 {N M q : Nat} {w : World} {V : Value} {rs : List (List Vl)} (h : RowsD (fun b => N ≤ b) w V rs) (hq : q < N) (hM : M ≤ N) (u0 u1 u2 : Value) :
    RowsD (fun b => M ≤ b) (((w.setCell ⟨q, 0, none⟩ u0).setCell ⟨q, 1, none⟩ u1).setCell ⟨q, 2, none⟩ u2) V rs :=
  (h.fr (fun b hb => by
    have hne : b ≠ q := by replace hb : N ≤ b := hb; omega
    rw [Below.heap_setCell _ _ _ _ hne, Below.heap_setCell _ _ _ _ hne, Below.heap_setCell _ _ _ _ hne])).mono (fun b _ hb => Nat.le_trans hM hb)
/-- The rows that a statement means. -/
def hitsT (t : Tb) (s : St) : List (List Vl) := t.rows.filter (meansR s (findC t.cols s.c).toNat)
def findRep (t : Tb) (s : St) : Int × List (List Vl) := if findC t.cols s.c < 0 then (61, []) else (0, hitsT t s)
/-- What stands of a table that a model keeps: its rows have a value for each column. -/
structure TbOK (t : Tb) : Prop where
  cols : t.cols.length ≤ 1000
  rows : t.rows.length ≤ 1000
  wide : ∀ r ∈ t.rows, r.length = t.cols.length
theorem findC_lt {l : List Cl} {s : ByteArray} {k : Nat} (h : findC l s = (k : Int)) : k < l.length := by
  unfold findC at h
  cases hf : l.findIdx? (fun c => c.name.toList == s.toList) with
  | none => rw [hf] at h; exfalso; have h' : (-1 : Int) = (k : Int) := h; omega
  | some j =>
    rw [hf] at h
    have : j = k := by have h' : (j : Int) = (k : Int) := h; omega
    subst this
    exact (List.findIdx?_eq_some_iff_getElem.1 hf).1
set_option maxRecDepth 100000 in
set_option maxHeartbeats 8000000 in
theorem find_t_any (D : Nat → Prop) (tb : Nat) (t : Tb) (mp : Value) (s : St) (R C : Value) (w : World) (h : TbAt D w tb t) (hok : TbOK t) (hst : StabOK (hitsT t s).length)
    (hp : ∀ pa ps k, k < t.cols.length → PredC (foundF s) #[.pointer (some ⟨pa, 0, none⟩), .pointer (some ⟨ps, 0, none⟩)] (meansR s k) (fun r => r.length = t.cols.length) (HdF pa ps k s R C))
    (eg : ∀ args w, (callFunc (foundF s) args).run Tryz.prog w = .ok (.enter (foundF s) args) w) :
    Calls Tryz.prog 39 #[mp, .pointer (some ⟨tb, 0, none⟩), s.agg R C] w (ReplyPost (findRep t s).1 (findRep t s).2.length (findRep t s).2 w) := by
  have HT := Lib.hid h
  have HP := Lib.hid hp
  have HST := Lib.hid hst
  have HOK := Lib.hid hok
  obtain ⟨ff, hff⟩ : ∃ ff, foundF s = ff := ⟨_, rfl⟩
  rw [hff] at eg
  have HFF := Lib.hid hff
  obtain ⟨ib, CC, RR, h1, h2, h3, h4, h5, h6⟩ := h
  obtain ⟨ds, hd1, hd2, hd3⟩ := h5
  obtain ⟨Ar, cr, rfl, hrd, _⟩ := hd1.rd sl_len
  obtain ⟨nr, hnr⟩ : ∃ nr, ds.length = nr := ⟨_, rfl⟩
  rw [hnr] at hrd h3 hd1
  have HRD := Lib.hid hrd
  have HD3 := Lib.hid hd3
  have HNR := Lib.hid hnr
  have HNT := Lib.hid (show nr = t.rows.length by rw [← hnr, hd2])
  have hnr2 : nr ≤ 1000 := by have := hok.rows; omega
  have H3 := Lib.hid h3
  have hlt := blk_lt h3
  clear h1 h2 h3 h4 h6 hd1 hd2 hd3 hrd hnr hp hst hok hff
  go_enter Tryz.func39, Tryz.ntmps39
  go_wp2_with fail
  refine (found_any D tb t s R C _ (HT.out.keep (by (repeat (first | assumption | exact Below.refl _ _ | refine bl_drewN ?_ _ | refine bl_drew ?_ | refine bl_alloc ?_ _ | refine bl_step ?_ (by assumption)))))).mono ?_
  rintro e w1 ⟨hb1, hcase⟩
  have HQ1 := Lib.hid (blk_below (show ((w.alloc _).alloc _).heap[w.heap.size + 1]? = _ by have hh := blk_new (w.alloc (.cells (s.row16 R C) 37)) (.cells #[.int .i64 0, .int .i64 0, .slice none 0 0] 29); rw [szal] at hh; exact hh) hb1)
  have HL1 := Lib.hid (bl_step (bl_alloc (bl_alloc (Below.refl w.heap.size w) _) _) hb1)
  rcases hcase with ⟨hneg, rfl⟩ | ⟨pa, ps, k, hk, rfl, hd, hpa, hps⟩
  · have HE := Lib.hid (show findRep t s = (61, []) from if_pos hneg)
    clear hneg hb1
    go_wp2_with fail
    refine (code_any _ _).mono ?_
    rintro e w2 ⟨rfl, hb2⟩
    have hn1 : w1.heap.size ≤ w1.heap.size + 1 := by omega
    have HQ2 := Lib.hid (blk_below (blk_old HQ1.out _) hb2)
    have HL2 := Lib.hid (bl_step (bl_alloc HL1.out _) hb2)
    obtain ⟨k1, f1⟩ := blk_rules HQ2.out
    have hz2 := blk_lt HQ2.out
    clear hb2
    go_wp2
    have HLF := bl_set (p := ⟨w.heap.size + 1, 2, none⟩) (bl_set (p := ⟨w.heap.size + 1, 1, none⟩) (bl_set (p := ⟨w.heap.size + 1, 0, none⟩) HL2.out (by simp) (.int .i64 61)) (by simp) (.int .i64 0)) (by simp) (.slice none 0 0)
    exact bodyPost_ret (results_blk (T := 29) (b := w.heap.size + 1) rfl (fun _ => by kernel_rfl) (fun _ => by kernel_rfl) _ rfl (blk_set3 rfl HQ2.out _ _ _)) rfl ⟨.slice none 0 0, [], by rw [HE.out]; rfl, rowsD_nil, by rw [HE.out]; exact ⟨List.Perm.refl _, List.Pairwise.nil⟩, HLF⟩
  · rw [HFF.out]
    have hkn := findC_lt hk
    have HK := Lib.hid hk
    have HE := Lib.hid (show findRep t s = (0, hitsT t s) by unfold findRep; rw [if_neg (by omega)])
    have HH := Lib.hid (show hitsT t s = t.rows.filter (meansR s k) by unfold hitsT; rw [hk]; rfl)
    have HN := Lib.hid (not_ok w1.heap.size ff #[.pointer (some ⟨pa, 0, none⟩), .pointer (some ⟨ps, 0, none⟩)] (meansR s k) (fun r => r.length = t.cols.length) (HdF pa ps k s R C) eg (by have := HP.out pa ps k hkn; rwa [HFF.out] at this))
    have HDN := Lib.hid (show HdN w1.heap.size ff #[.pointer (some ⟨pa, 0, none⟩), .pointer (some ⟨ps, 0, none⟩)] (HdF pa ps k s R C) (w1.alloc (.cells #[.func (.func ff) #[] #[.pointer (some ⟨pa, 0, none⟩), .pointer (some ⟨ps, 0, none⟩)]] 118)) from ⟨blk_new w1 _, hd.keep (bl_alloc (Below.refl _ _) _)⟩)
    have hpl := blk_lt hd.1
    have hsl := blk_lt hd.2
    have hq1 := HQ1.out
    have hl1 := HL1.out
    have H31 := Lib.hid (blk_old (blk_below H3.out hl1) (.cells #[.func (.func ff) #[] #[.pointer (some ⟨pa, 0, none⟩), .pointer (some ⟨ps, 0, none⟩)]] 118))
    have hwl : w.heap.size ≤ w1.heap.size := hl1.size
    clear hk hb1 hd hq1 hl1
    go_upto_region 4 with fail
    have HQ2 := Lib.hid (blk_old HQ1.out (.cells #[.func (.func ff) #[] #[.pointer (some ⟨pa, 0, none⟩), .pointer (some ⟨ps, 0, none⟩)]] 118))
    have HL2 := Lib.hid (bl_alloc HL1.out (.cells #[.func (.func ff) #[] #[.pointer (some ⟨pa, 0, none⟩), .pointer (some ⟨ps, 0, none⟩)]] 118))
    have hz2 : w1.heap.size < (w1.alloc (.cells #[.func (.func ff) #[] #[.pointer (some ⟨pa, 0, none⟩), .pointer (some ⟨ps, 0, none⟩)]] 118)).heap.size := by simp
    generalize w1.alloc (.cells #[.func (.func ff) #[] #[.pointer (some ⟨pa, 0, none⟩), .pointer (some ⟨ps, 0, none⟩)]] 118) = W1 at HDN H31 HQ2 HL2 hz2 ⊢
    generalize w1.heap.size = pi at HN HDN hpl hsl hwl hz2 ⊢
    obtain ⟨k1, f1⟩ := blk_rules H31.out
    have htz := blk_lt H31.out
    go_wp2_with fail
    refine (cloneR Ar nr cr ds _ (HRD.out.keep HL2.out) (by omega)).mono ?_
    rintro e w2 ⟨A2, c2, rfl, hown2, hb2⟩
    have HO2 := Lib.hid hown2
    have HB2 := Lib.hid hb2
    have HL3 := Lib.hid (bl_step HL2.out hb2)
    have HQ3 := Lib.hid (blk_below HQ2.out hb2)
    have HDN2 := Lib.hid (show HdN pi ff #[.pointer (some ⟨pa, 0, none⟩), .pointer (some ⟨ps, 0, none⟩)] (HdF pa ps k s R C) w2 from ⟨blk_below HDN.out.1 hb2, HDN.out.2.keep hb2⟩)
    have hkeep : ∀ w1 w2, HdN pi ff #[.pointer (some ⟨pa, 0, none⟩), .pointer (some ⟨ps, 0, none⟩)] (HdF pa ps k s R C) w1 → Below w1.heap.size w1 w2 → HdN pi ff #[.pointer (some ⟨pa, 0, none⟩), .pointer (some ⟨ps, 0, none⟩)] (HdF pa ps k s R C) w2 := fun w1 w2 h hb => ⟨blk_below h.1 hb, h.2.keep hb⟩
    have HKP := Lib.hid hkeep
    clear hown2 hb2 k1 f1 hkeep
    cases A2 with
    | none =>
      have h0 : nr = 0 ∧ c2 = 0 := by
        rcases HO2.out.2 with ⟨h2, h3⟩ | ⟨g, cap, cur, hv, _⟩
        · injection h2 with _ h4 h5; exact ⟨h4, h5⟩
        · cases hv
      obtain ⟨rfl, rfl⟩ := h0
      have HH0 := Lib.hid (show hitsT t s = [] by rw [HH.out, show t.rows = [] from List.eq_nil_of_length_eq_zero HNT.out.symm]; rfl)
      go_wp2_with fail
      refine (delf_nil _ _ _ _ _ eg_n HN.out HKP.out 0 _ HDN2.out).mono ?_
      rintro e w3 ⟨rfl, hb3⟩
      have HL4 := Lib.hid (bl_step HL3.out hb3)
      have HQ4 := Lib.hid (blk_below HQ3.out hb3)
      clear hb3
      go_wp2_with fail
      refine (told_any (fun _ => True) _ [] _ rowsD_nil (by simp) (fun r hr => by cases hr) (stabOK_1 (by simp))).mono ?_
      rintro e w4 ⟨V, rs', rfl, hr4, ho4, hb4⟩
      have HR4 := Lib.hid hr4
      have HO4 := Lib.hid ho4
      have HL5 := Lib.hid (bl_step HL4.out hb4)
      have HQ5 := Lib.hid (blk_below HQ4.out hb4)
      obtain ⟨A5, n5, c5, rfl, hn5⟩ := rowsD_sl hr4
      obtain ⟨k1, f1⟩ := blk_rules HQ5.out
      have hz5 := blk_lt HQ5.out
      have hz6 := HL4.out.size
      clear hr4 ho4 hb4 hn5
      go_wp2
      have HLF := bl_set (p := ⟨w.heap.size + 1, 2, none⟩) (bl_set (p := ⟨w.heap.size + 1, 1, none⟩) (bl_set (p := ⟨w.heap.size + 1, 0, none⟩) HL5.out (by simp) (.int .i64 0)) (by simp) (.int .i64 0)) (by simp) (.slice A5 n5 c5)
      exact bodyPost_ret (results_blk (T := 29) (b := w.heap.size + 1) rfl (fun _ => by kernel_rfl) (fun _ => by kernel_rfl) _ rfl (blk_set3 rfl HQ5.out _ _ _)) rfl (by rw [HE.out, HH0.out]; exact ⟨.slice A5 n5 c5, rs', rfl, rows_far3 HR4.out (blk_lt HQ4.out) hz6 _ _ _, HO4.out, HLF⟩)
    | some p =>
      obtain ⟨g, hpg, hg, hrb, hnc, hmc⟩ := own_rowBlk HO2.out
      subst hpg
      have HRB := Lib.hid hrb
      have HGW := Lib.hid (show w.heap.size ≤ g by have := HL2.out.size; omega)
      have hne1 : pi ≠ g := by omega
      have hko : ∀ w1 w2, HdN pi ff #[.pointer (some ⟨pa, 0, none⟩), .pointer (some ⟨ps, 0, none⟩)] (HdF pa ps k s R C) w1 → Off g g w1 w2 → HdN pi ff #[.pointer (some ⟨pa, 0, none⟩), .pointer (some ⟨ps, 0, none⟩)] (HdF pa ps k s R C) w2 := fun w1 w2 h ho => ⟨off_blk ho h.1 hne1 hne1, h.2.off ho (by omega) (by omega)⟩
      have HKO := Lib.hid hko
      have hrows : ∀ i, i < nr → RdV w2 ds.toArray[i]!.A ds.toArray[i]!.n t.rows[i]! ∧ t.rows[i]!.length = t.cols.length ∧ ∀ p, ds.toArray[i]!.A = some p → p.block ≠ g := fun i hi => by
        have hi1 : i < ds.length := by rw [HNR.out]; exact hi
        have hi2 : i < t.rows.length := by rw [← HNT.out]; exact hi
        have hs := HD3.out i ds[i] t.rows[i] (List.getElem?_eq_getElem hi1) (List.getElem?_eq_getElem hi2)
        have e1 : ds.toArray[i]! = ds[i] := by rw [getElem!_pos ds.toArray i (by simpa using hi1)]; simp
        have e2 : t.rows[i]! = t.rows[i] := by rw [getElem!_pos t.rows i hi2]
        rw [e1, e2]
        refine ⟨own_rd vl_len (hs.1.kept HL3.out), HOK.out.wide _ (List.getElem_mem hi2), fun p hp e => ?_⟩
        have hl := (hs.lt (g := p.block) (by show (Value.slice ds[i].A _ _).ownBlock = _; rw [hp]; rfl)).2
        have := HGW.out
        omega
      have HRW := Lib.hid hrows
      clear hrb hko hrows
      go_wp2_with fail
      refine (delf_any _ _ _ _ _ eg_n HN.out HKP.out g c2 nr HKO.out ds.toArray t.rows _ HRB.out (by simpa using HNR.out) HNT.out.symm (by rw [HNR.out] at hnc; exact hnc) (by simpa [maxLen] using hmc) HRW.out HDN2.out).mono ?_
      rintro e w3 ⟨rfl, hrow3, hoff3⟩
      have HR3 := Lib.hid (del_rowsD (D := D) (w := w) (rs := t.rows) (by rw [HNR.out]; exact HNT.out) HGW.out HL3.out hnc hmc HD3.out hrow3 hoff3)
      have HL4 := Lib.hid (bl_off HL3.out hoff3 HGW.out HGW.out)
      have hqg : w.heap.size + 1 ≠ g := by have := blk_lt HQ2.out; omega
      have HQ4 := Lib.hid (off_blk hoff3 HQ3.out hqg hqg)
      have hfe : (t.rows.filter fun r => !(!meansR s k r)) = hitsT t s := by rw [HH.out]; congr 1; funext r; simp
      rw [hfe] at HR3
      obtain ⟨n3, hn3⟩ : ∃ n3, (leftI (fun r => !meansR s k r) t.rows).length = n3 := ⟨_, rfl⟩
      rw [hn3] at HR3 ⊢
      have hhl : (hitsT t s).length ≤ t.rows.length := List.length_filter_le _ _
      have HLN := Lib.hid (show (hitsT t s).length ≤ 1000 by have := HOK.out.rows; omega)
      have HLR := Lib.hid (show ∀ r ∈ hitsT t s, r.length ≤ 1000 from fun r hr => by have := HOK.out.wide r (List.mem_filter.1 hr |>.1); have := HOK.out.cols; omega)
      clear hrow3 hoff3 hfe hn3 hhl
      go_wp2_with fail
      refine (told_any _ _ (hitsT t s) _ HR3.out HLN.out HLR.out HST.out).mono ?_
      rintro e w4 ⟨V, rs', rfl, hr4, ho4, hb4⟩
      have HR4 := Lib.hid hr4
      have HO4 := Lib.hid ho4
      have HL5 := Lib.hid (bl_step HL4.out hb4)
      have HQ5 := Lib.hid (blk_below HQ4.out hb4)
      obtain ⟨A5, n5, c5, rfl, hn5⟩ := rowsD_sl hr4
      obtain ⟨k1, f1⟩ := blk_rules HQ5.out
      have hz5 := blk_lt HQ5.out
      have hz6 := HL4.out.size
      obtain ⟨nh, hnh⟩ : ∃ nh : Nat, (hitsT t s).length = nh := ⟨_, rfl⟩
      rw [hnh]
      have HNH := Lib.hid hnh
      clear hr4 ho4 hb4 hn5 hnh
      go_wp2
      have HLF := bl_set (p := ⟨w.heap.size + 1, 2, none⟩) (bl_set (p := ⟨w.heap.size + 1, 1, none⟩) (bl_set (p := ⟨w.heap.size + 1, 0, none⟩) HL5.out (by simp) (.int .i64 0)) (by simp) (.int .i64 nh)) (by simp) (.slice A5 n5 c5)
      exact bodyPost_ret (results_blk (T := 29) (b := w.heap.size + 1) rfl (fun _ => by kernel_rfl) (fun _ => by kernel_rfl) _ rfl (blk_set3 rfl HQ5.out _ _ _)) rfl (by rw [HE.out]; exact ⟨.slice A5 n5 c5, rs', by show _ = Ending.returned (replyV 0 ((hitsT t s).length : Int) _); rw [HNH.out], rows_far3 HR4.out (blk_lt HQ4.out) hz6 _ _ _, HO4.out, HLF⟩)
end Go.Proofs.YtbmaeaknlpgdmaaGreat
