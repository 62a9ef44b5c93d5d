/- The library's symmetric merge: both parts have more than one row; the whole. -/
import Derived.Test.YtbmaeaknlpgdmaaGreatA36
namespace Go.Proofs.YtbmaeaknlpgdmaaGreat
open Go.RowKit Go.Sort
set_option linter.unusedVariables false
set_option linter.unusedSimpArgs false
set_option maxRecDepth 100000 in
set_option maxHeartbeats 16000000 in
theorem sym_mid1 (w0 w : World) (g cap n c a m b sz : Nat) (d0 d : Array Sl) (ρ : Sl → List Vl) (hok : SymOk w0 g cap n c d0 ρ sz) (hS : SWO (ltR ρ)) (hcx : Cx w0 g d0 ρ) (hoff : Off g g w0 w) (hp : PermIn 0 d0.size d0 d) (hb : RowBlk w g cap d) (hn : d0.size = n) (ham : a + 1 < m) (hmb : m + 1 < b) (hmm : (a + b) / 2 < m) (hbn : b ≤ n) (hm : n ≤ 1000000) (hsz : b - a ≤ sz + 1) (hs1 : SortedIn (ltR ρ) a m d) (hs2 : SortedIn (ltR ρ) m b d) :
    Calls Tryz.prog 189 #[.slice (some ⟨g, 0, none⟩) n c, .int .i64 a, .int .i64 m, .int .i64 b, .func (.func 119) #[] #[]] w (SymPost w0 g cap a b ρ d) := by
  have HOK := Lib.hid hok
  have HS0 := Lib.hid hS
  have HCX := Lib.hid hcx
  have HO := Lib.hid hoff
  have HP := Lib.hid hp
  have HB := Lib.hid hb
  have HN := Lib.hid hn
  have HS1 := Lib.hid hs1
  have HS2 := Lib.hid hs2
  have hds : d.size = n := by rw [hp.1, hn]
  have HDS := Lib.hid hds
  clear hok hS hcx hoff hp hb hn hs1 hs2 hds
  obtain ⟨mid, hmid⟩ : ∃ mid, mid = (a + b) / 2 := ⟨_, rfl⟩
  have hmid1 : 2 * mid ≤ a + b := by omega
  have hmid2 : a + b ≤ 2 * mid + 1 := by omega
  have E0 : IntKind.i64.wrap ((m : Int) - a) = ((m - a : Nat) : Int) := by rw [IntWalk.i64_in _ (by omega)]; omega
  have E1 : IntKind.i64.wrap ((b : Int) - m) = ((b - m : Nat) : Int) := by rw [IntWalk.i64_in _ (by omega)]; omega
  have E2 : (((m - a : Nat) : Int) == 1) = false := by simp; omega
  have E3 : (((b - m : Nat) : Int) == 1) = false := by simp; omega
  have E4 : IntKind.i64.wrap ((a : Int) + b) = (a : Int) + b := IntWalk.i64_in _ (by omega)
  have E5 : IntKind.u64.wrap ((a : Int) + b) = (a : Int) + b := by rw [show ((a : Int) + b) = ((a + b : Nat) : Int) by omega]; exact IntWalk.u64_in _ (by omega)
  have E6 : IntKind.i64.wrap (((a : Int) + b) / 2 + m) = ((a : Int) + b) / 2 + m := IntWalk.i64_in _ (by omega)
  have E7 : IntKind.i64.wrap (((a : Int) + b) / 2 + m - 1) = ((a : Int) + b) / 2 + m - 1 := IntWalk.i64_in _ (by omega)
  have E8 : IntKind.i64.wrap (((a : Int) + b) / 2 + m - b) = ((a : Int) + b) / 2 + m - b := IntWalk.i64_in _ (by omega)
  have hmm2 : mid < m := by omega
  · have E9 : ((a : Int) + b) / 2 < m := by omega
    go_enter Tryz.func189, Tryz.ntmps189
    go_wp2_with fail
    have hmi : ((a : Int) + b) / 2 = (mid : Int) := by omega
    rw [hmi]
    clear hmi E0 E1 E2 E3 E4 E5 E6 E7 E8 E9 hmid
    go_loopw [20, 21, 23] (fun vi vj _ wr => ∃ (i j : Nat), vi = .int .i64 i ∧ vj = .int .i64 j ∧ mid + m - b ≤ i ∧ i ≤ j ∧ j ≤ mid ∧ (i = mid + m - b ∨ ltR ρ d[mid + m - i]! d[i - 1]! = false) ∧ (j = mid ∨ ltR ρ d[mid + m - 1 - j]! d[j]! = true) ∧ RowBlk wr g cap d ∧ Off g g w0 wr) (fun vi vj _ _ => (intOf vj).toNat - (intOf vi).toNat)
    case atStart => exact ⟨mid + m - b, mid, by go_num, rfl, Nat.le_refl _, by omega, Nat.le_refl _, .inl rfl, .inl rfl, HB.out, HO.out⟩
    case round =>
      obtain ⟨i, j, rfl, rfl, hi, hij, hj, c1, c2, hbk, hok⟩ := hrel
      have C1 := Lib.hid c1
      have C2 := Lib.hid c2
      have HBK := Lib.hid hbk
      have HOF := Lib.hid hok
      clear c1 c2 hbk hok HO HB
      by_cases hlt : i < j
      · have hlt' : (i : Int) < j := by omega
        obtain ⟨h, hh⟩ : ∃ h, h = (i + j) / 2 := ⟨_, rfl⟩
        have hh1 : i ≤ h := by omega
        have hh2 : h < j := by omega
        have e1 : IntKind.i64.wrap ((i : Int) + j) = (i : Int) + j := IntWalk.i64_in _ (by omega)
        have e2 : IntKind.u64.wrap ((i : Int) + j) = (i : Int) + j := by rw [show ((i : Int) + j) = ((i + j : Nat) : Int) by omega]; exact IntWalk.u64_in _ (by omega)
        go_wp2_with fail
        have e3 : ((i : Int) + j) / 2 = (h : Int) := by omega
        rw [e3]
        clear e1 e2 e3 hh
        obtain ⟨q, hq⟩ : ∃ q, q = mid + m - 1 - h := ⟨_, rfl⟩
        have hqn : q < n := by omega
        have hq1 : mid + m - (h + 1) = q := by omega
        have hq2 : (IntKind.i64.wrap ((mid : Int) + m - 1 - h)) = (q : Int) := by rw [IntWalk.i64_in _ (by omega)]; omega
        obtain ⟨s, hs⟩ : ∃ s, d[q]! = s := ⟨_, rfl⟩
        obtain ⟨t, ht⟩ : ∃ t, d[h]! = t := ⟨_, rfl⟩
        obtain ⟨cs, fs⟩ := HBK.out.cell (by rw [HDS.out]; omega) hs
        obtain ⟨ct, ft⟩ := HBK.out.cell (by rw [HDS.out]; omega) ht
        have HS := Lib.hid hs
        have HT := Lib.hid ht
        have HQ := Lib.hid hq
        have HQ1 := Lib.hid hq1
        have hzj := HBK.out.lt
        have hRS := Lib.hid (HCX.out.at_ HOF.out HP.out (by rw [HN.out]; omega) hs)
        have hRT := Lib.hid (HCX.out.at_ HOF.out HP.out (by rw [HN.out]; omega) ht)
        have hhn : (h : Int) < n := by omega
        have hqn' : (q : Int) < n := by omega
        have e4 : IntKind.i64.wrap ((h : Int) + 1) = (h : Int) + 1 := IntWalk.i64_in _ (by omega)
        clear hs ht hq hq1
        go_still_tail 11, (by kernel_rfl)
        change wpList _ _ _ _ _ wr.drew
        clear hq2
        have hb1 := hRS.out.keep (bl_drew (Below.refl wr.heap.size wr))
        go_wp2_with fail
        refine (rows1_any s.A t.A s.n t.n s.c t.c (ρ s) (ρ t) _ (hRS.out.keep (bl_drew (Below.refl wr.heap.size wr))) (hRT.out.keep (bl_drew (Below.refl wr.heap.size wr)))).mono ?_
        rintro e w1 ⟨rfl, hbw⟩
        have HOW := Lib.hid (off_below (off_drew HOF.out) hbw)
        have HBW := Lib.hid ((HBK.out.keep (bl_drew (Below.refl wr.heap.size wr))).keep hbw)
        clear cs fs ct ft hzj hbw hb1
        by_cases hl : cmpR (ρ s) (ρ t) < 0
        · have HG := Lib.hid (show ltR ρ d[q]! d[h]! = true by rw [HS.out, HT.out]; exact decide_eq_true hl)
          have hl' : (!decide (cmpR (ρ s) (ρ t) < 0)) = false := by simp [hl]
          go_wp2
          go_roundw
          case rel => exact ⟨i, h, rfl, rfl, hi, hh1, by omega, C1.out, .inr (by rw [← HQ.out]; exact HG.out), HBW.out, HOW.out⟩
          case measure => simp [intOf]; omega
        · have HG := Lib.hid (show ltR ρ d[q]! d[h]! = false by rw [HS.out, HT.out]; exact decide_eq_false hl)
          have hl' : (!decide (cmpR (ρ s) (ρ t) < 0)) = true := by simpa using hl
          go_wp2
          go_roundw
          case rel => exact ⟨h + 1, j, by go_num, rfl, by omega, by omega, hj, .inr (by rw [HQ1.out, Nat.add_sub_cancel]; exact HG.out), C2.out, HBW.out, HOW.out⟩
          case measure => simp [intOf]; omega
      · have hij' : i = j := by omega
        subst hij'
        obtain ⟨e, he⟩ : ∃ e, e = mid + m - i := ⟨_, rfl⟩
        have he2 : IntKind.i64.wrap ((mid : Int) + m - i) = (e : Int) := by rw [IntWalk.i64_in _ (by omega)]; omega
        have hme : m ≤ e := by omega
        have heb : e ≤ b := by omega
        have hsum : i + (e - m) = mid := by omega
        have him : i ≤ m := by omega
        have hai : a ≤ i := by omega
        have him2 : i ≤ mid := by omega
        have hem2 : mid ≤ e := by omega
        have D1 : Hid (i = a ∨ e = b ∨ ltR ρ d[e]! d[i - 1]! = false) := Lib.hid (by
          rcases C1.out with c | c
          · first | exact .inl c | exact .inr (.inl (by omega))
          · exact .inr (.inr (by rw [he]; exact c)))
        have D2 : Hid (i = m ∨ e = m ∨ ltR ρ d[i]! d[e - 1]! = false) := Lib.hid (by
          rcases C2.out with c | c
          · first | exact .inl c | exact .inr (.inl (by omega))
          · exact .inr (.inr (HS0.out.asymmA (by rw [he, show mid + m - i - 1 = mid + m - 1 - i by omega]; exact c))))
        clear C1 C2 he
        have hR1 : i < m := by omega
        have hR1' : (i : Int) < m := by omega
        by_cases hR2 : m < e
        · have hR2' : (m : Int) < e := by omega
          go_wp2_with fail
          refine (rot_any w0 _ g cap n c i m e d HOF.out HBK.out HDS.out hR1 hR2 (by omega) hm).mono ?_
          rintro er w1 ⟨d1, hrt, hpr, rfl, hor, hbr⟩
          have HPT : Hid (SymPt (ltR ρ) a m b mid i e d d1) := Lib.hid ⟨hai, him, hme, heb, hsum, by rw [HDS.out]; exact hbn, HS1.out, HS2.out, hrt, hpr, D1.out, D2.out⟩
          have HP1 := Lib.hid (permIn_trans _ _ _ _ _ HP.out (hpr 0 d0.size (Nat.zero_le _) (by rw [HN.out]; omega) (by rw [HP.out.1]; exact Nat.le_refl _)))
          have HO1 := Lib.hid hor
          have HB1 := Lib.hid hbr
          clear hrt hpr hor hbr he2
          by_cases hA1 : a < i
          · have hA1' : (a : Int) < i := by omega
            by_cases hA2 : i < mid
            · have hA2' : (i : Int) < mid := by omega
              go_wp2_with fail
              refine (HOK.out _ a i mid _ HO1.out HP1.out HB1.out hA1 hA2 (by omega) (by omega) HPT.out.in1.1 HPT.out.in1.2).mono ?_
              rintro ea wa ⟨d2, hpa, hsa, rfl, hoa, hba⟩
              have HP2 := Lib.hid hpa
              have HS2' := Lib.hid hsa
              have HO2 := Lib.hid hoa
              have HB2 := Lib.hid hba
              have HPA := Lib.hid (permIn_trans _ _ _ _ _ HP1.out (hpa 0 d0.size (Nat.zero_le _) (by rw [HN.out]; omega) (by rw [HP1.out.1]; exact Nat.le_refl _)))
              clear hpa hsa hoa hba
              by_cases hB1 : mid < e
              · have hB1' : (mid : Int) < e := by omega
                by_cases hB2 : e < b
                · have hB2' : (e : Int) < b := by omega
                  go_wp2_with fail
                  refine (HOK.out _ mid e b _ HO2.out HPA.out HB2.out hB1 hB2 hbn (by omega) (HPT.out.in2 HP2.out).1 (HPT.out.in2 HP2.out).2).mono ?_
                  rintro eb wb ⟨d3, hpb, hsb, rfl, hob, hbb⟩
                  have HP3 := Lib.hid hpb
                  have HS3 := Lib.hid hsb
                  have HO3 := Lib.hid hob
                  have HB3 := Lib.hid hbb
                  clear hpb hsb hob hbb
                  have HF := Lib.hid (HPT.out.fin HS0.out HP2.out HS2'.out HP3.out HS3.out)
                  go_wp2
                  go_end0
                  exact ⟨d3, HF.out.1, HF.out.2, rfl, HO3.out, HB3.out⟩
                · have hB2' : ¬ (e : Int) < b := by omega
                  have HF := Lib.hid (HPT.out.fin HS0.out HP2.out HS2'.out (pf_refl _ _ _) (HPT.out.skip2 HP2.out (.inr (by omega))))
                  go_wp2
                  go_end0
                  exact ⟨d2, HF.out.1, HF.out.2, rfl, HO2.out, HB2.out⟩
              · have hB1' : ¬ (mid : Int) < e := by omega
                have HF := Lib.hid (HPT.out.fin HS0.out HP2.out HS2'.out (pf_refl _ _ _) (HPT.out.skip2 HP2.out (.inl (by omega))))
                go_wp2
                go_end0
                exact ⟨d2, HF.out.1, HF.out.2, rfl, HO2.out, HB2.out⟩
            · have hA2' : ¬ (i : Int) < mid := by omega
              have HPA := HP1
              by_cases hB1 : mid < e
              · have hB1' : (mid : Int) < e := by omega
                by_cases hB2 : e < b
                · have hB2' : (e : Int) < b := by omega
                  go_wp2_with fail
                  refine (HOK.out _ mid e b _ HO1.out HPA.out HB1.out hB1 hB2 hbn (by omega) (HPT.out.in2 (pf_refl _ _ _)).1 (HPT.out.in2 (pf_refl _ _ _)).2).mono ?_
                  rintro eb wb ⟨d3, hpb, hsb, rfl, hob, hbb⟩
                  have HP3 := Lib.hid hpb
                  have HS3 := Lib.hid hsb
                  have HO3 := Lib.hid hob
                  have HB3 := Lib.hid hbb
                  clear hpb hsb hob hbb
                  have HF := Lib.hid (HPT.out.fin HS0.out (pf_refl _ _ _) (HPT.out.skip1 (.inr (by omega))) HP3.out HS3.out)
                  go_wp2
                  go_end0
                  exact ⟨d3, HF.out.1, HF.out.2, rfl, HO3.out, HB3.out⟩
                · have hB2' : ¬ (e : Int) < b := by omega
                  have HF := Lib.hid (HPT.out.fin HS0.out (pf_refl _ _ _) (HPT.out.skip1 (.inr (by omega))) (pf_refl _ _ _) (HPT.out.skip2 (pf_refl _ _ _) (.inr (by omega))))
                  go_wp2
                  go_end0
                  exact ⟨d1, HF.out.1, HF.out.2, rfl, HO1.out, HB1.out⟩
              · have hB1' : ¬ (mid : Int) < e := by omega
                have HF := Lib.hid (HPT.out.fin HS0.out (pf_refl _ _ _) (HPT.out.skip1 (.inr (by omega))) (pf_refl _ _ _) (HPT.out.skip2 (pf_refl _ _ _) (.inl (by omega))))
                go_wp2
                go_end0
                exact ⟨d1, HF.out.1, HF.out.2, rfl, HO1.out, HB1.out⟩
          · have hA1' : ¬ (a : Int) < i := by omega
            have HPA := HP1
            by_cases hB1 : mid < e
            · have hB1' : (mid : Int) < e := by omega
              by_cases hB2 : e < b
              · have hB2' : (e : Int) < b := by omega
                go_wp2_with fail
                refine (HOK.out _ mid e b _ HO1.out HPA.out HB1.out hB1 hB2 hbn (by omega) (HPT.out.in2 (pf_refl _ _ _)).1 (HPT.out.in2 (pf_refl _ _ _)).2).mono ?_
                rintro eb wb ⟨d3, hpb, hsb, rfl, hob, hbb⟩
                have HP3 := Lib.hid hpb
                have HS3 := Lib.hid hsb
                have HO3 := Lib.hid hob
                have HB3 := Lib.hid hbb
                clear hpb hsb hob hbb
                have HF := Lib.hid (HPT.out.fin HS0.out (pf_refl _ _ _) (HPT.out.skip1 (.inl (by omega))) HP3.out HS3.out)
                go_wp2
                go_end0
                exact ⟨d3, HF.out.1, HF.out.2, rfl, HO3.out, HB3.out⟩
              · have hB2' : ¬ (e : Int) < b := by omega
                have HF := Lib.hid (HPT.out.fin HS0.out (pf_refl _ _ _) (HPT.out.skip1 (.inl (by omega))) (pf_refl _ _ _) (HPT.out.skip2 (pf_refl _ _ _) (.inr (by omega))))
                go_wp2
                go_end0
                exact ⟨d1, HF.out.1, HF.out.2, rfl, HO1.out, HB1.out⟩
            · have hB1' : ¬ (mid : Int) < e := by omega
              have HF := Lib.hid (HPT.out.fin HS0.out (pf_refl _ _ _) (HPT.out.skip1 (.inl (by omega))) (pf_refl _ _ _) (HPT.out.skip2 (pf_refl _ _ _) (.inl (by omega))))
              go_wp2
              go_end0
              exact ⟨d1, HF.out.1, HF.out.2, rfl, HO1.out, HB1.out⟩
        · have hR2' : ¬ (m : Int) < e := by omega
          have hem : e = m := by omega
          have HPT : Hid (SymPt (ltR ρ) a m b mid i e d d) := Lib.hid ⟨hai, him, hme, heb, hsum, by rw [HDS.out]; exact hbn, HS1.out, HS2.out, (by rw [hem]; exact rot_id_r him), pf_refl _ _ _, D1.out, D2.out⟩
          have HP1 := HP
          clear hem
          by_cases hA1 : a < i
          · have hA1' : (a : Int) < i := by omega
            by_cases hA2 : i < mid
            · have hA2' : (i : Int) < mid := by omega
              go_wp2_with fail
              refine (HOK.out _ a i mid _ HOF.out HP1.out HBK.out hA1 hA2 (by omega) (by omega) HPT.out.in1.1 HPT.out.in1.2).mono ?_
              rintro ea wa ⟨d2, hpa, hsa, rfl, hoa, hba⟩
              have HP2 := Lib.hid hpa
              have HS2' := Lib.hid hsa
              have HO2 := Lib.hid hoa
              have HB2 := Lib.hid hba
              have HPA := Lib.hid (permIn_trans _ _ _ _ _ HP1.out (hpa 0 d0.size (Nat.zero_le _) (by rw [HN.out]; omega) (by rw [HP1.out.1]; exact Nat.le_refl _)))
              clear hpa hsa hoa hba
              by_cases hB1 : mid < e
              · have hB1' : (mid : Int) < e := by omega
                by_cases hB2 : e < b
                · have hB2' : (e : Int) < b := by omega
                  go_wp2_with fail
                  refine (HOK.out _ mid e b _ HO2.out HPA.out HB2.out hB1 hB2 hbn (by omega) (HPT.out.in2 HP2.out).1 (HPT.out.in2 HP2.out).2).mono ?_
                  rintro eb wb ⟨d3, hpb, hsb, rfl, hob, hbb⟩
                  have HP3 := Lib.hid hpb
                  have HS3 := Lib.hid hsb
                  have HO3 := Lib.hid hob
                  have HB3 := Lib.hid hbb
                  clear hpb hsb hob hbb
                  have HF := Lib.hid (HPT.out.fin HS0.out HP2.out HS2'.out HP3.out HS3.out)
                  go_wp2
                  go_end0
                  exact ⟨d3, HF.out.1, HF.out.2, rfl, HO3.out, HB3.out⟩
                · have hB2' : ¬ (e : Int) < b := by omega
                  have HF := Lib.hid (HPT.out.fin HS0.out HP2.out HS2'.out (pf_refl _ _ _) (HPT.out.skip2 HP2.out (.inr (by omega))))
                  go_wp2
                  go_end0
                  exact ⟨d2, HF.out.1, HF.out.2, rfl, HO2.out, HB2.out⟩
              · have hB1' : ¬ (mid : Int) < e := by omega
                have HF := Lib.hid (HPT.out.fin HS0.out HP2.out HS2'.out (pf_refl _ _ _) (HPT.out.skip2 HP2.out (.inl (by omega))))
                go_wp2
                go_end0
                exact ⟨d2, HF.out.1, HF.out.2, rfl, HO2.out, HB2.out⟩
            · have hA2' : ¬ (i : Int) < mid := by omega
              have HPA := HP1
              by_cases hB1 : mid < e
              · have hB1' : (mid : Int) < e := by omega
                by_cases hB2 : e < b
                · have hB2' : (e : Int) < b := by omega
                  go_wp2_with fail
                  refine (HOK.out _ mid e b _ HOF.out HPA.out HBK.out hB1 hB2 hbn (by omega) (HPT.out.in2 (pf_refl _ _ _)).1 (HPT.out.in2 (pf_refl _ _ _)).2).mono ?_
                  rintro eb wb ⟨d3, hpb, hsb, rfl, hob, hbb⟩
                  have HP3 := Lib.hid hpb
                  have HS3 := Lib.hid hsb
                  have HO3 := Lib.hid hob
                  have HB3 := Lib.hid hbb
                  clear hpb hsb hob hbb
                  have HF := Lib.hid (HPT.out.fin HS0.out (pf_refl _ _ _) (HPT.out.skip1 (.inr (by omega))) HP3.out HS3.out)
                  go_wp2
                  go_end0
                  exact ⟨d3, HF.out.1, HF.out.2, rfl, HO3.out, HB3.out⟩
                · have hB2' : ¬ (e : Int) < b := by omega
                  have HF := Lib.hid (HPT.out.fin HS0.out (pf_refl _ _ _) (HPT.out.skip1 (.inr (by omega))) (pf_refl _ _ _) (HPT.out.skip2 (pf_refl _ _ _) (.inr (by omega))))
                  go_wp2
                  go_end0
                  exact ⟨d, HF.out.1, HF.out.2, rfl, HOF.out, HBK.out⟩
              · have hB1' : ¬ (mid : Int) < e := by omega
                have HF := Lib.hid (HPT.out.fin HS0.out (pf_refl _ _ _) (HPT.out.skip1 (.inr (by omega))) (pf_refl _ _ _) (HPT.out.skip2 (pf_refl _ _ _) (.inl (by omega))))
                go_wp2
                go_end0
                exact ⟨d, HF.out.1, HF.out.2, rfl, HOF.out, HBK.out⟩
          · have hA1' : ¬ (a : Int) < i := by omega
            have HPA := HP1
            by_cases hB1 : mid < e
            · have hB1' : (mid : Int) < e := by omega
              by_cases hB2 : e < b
              · have hB2' : (e : Int) < b := by omega
                go_wp2_with fail
                refine (HOK.out _ mid e b _ HOF.out HPA.out HBK.out hB1 hB2 hbn (by omega) (HPT.out.in2 (pf_refl _ _ _)).1 (HPT.out.in2 (pf_refl _ _ _)).2).mono ?_
                rintro eb wb ⟨d3, hpb, hsb, rfl, hob, hbb⟩
                have HP3 := Lib.hid hpb
                have HS3 := Lib.hid hsb
                have HO3 := Lib.hid hob
                have HB3 := Lib.hid hbb
                clear hpb hsb hob hbb
                have HF := Lib.hid (HPT.out.fin HS0.out (pf_refl _ _ _) (HPT.out.skip1 (.inl (by omega))) HP3.out HS3.out)
                go_wp2
                go_end0
                exact ⟨d3, HF.out.1, HF.out.2, rfl, HO3.out, HB3.out⟩
              · have hB2' : ¬ (e : Int) < b := by omega
                have HF := Lib.hid (HPT.out.fin HS0.out (pf_refl _ _ _) (HPT.out.skip1 (.inl (by omega))) (pf_refl _ _ _) (HPT.out.skip2 (pf_refl _ _ _) (.inr (by omega))))
                go_wp2
                go_end0
                exact ⟨d, HF.out.1, HF.out.2, rfl, HOF.out, HBK.out⟩
            · have hB1' : ¬ (mid : Int) < e := by omega
              have HF := Lib.hid (HPT.out.fin HS0.out (pf_refl _ _ _) (HPT.out.skip1 (.inl (by omega))) (pf_refl _ _ _) (HPT.out.skip2 (pf_refl _ _ _) (.inl (by omega))))
              go_wp2
              go_end0
              exact ⟨d, HF.out.1, HF.out.2, rfl, HOF.out, HBK.out⟩
set_option maxRecDepth 100000 in
set_option maxHeartbeats 16000000 in
theorem sym_mid2 (w0 w : World) (g cap n c a m b sz : Nat) (d0 d : Array Sl) (ρ : Sl → List Vl) (hok : SymOk w0 g cap n c d0 ρ sz) (hS : SWO (ltR ρ)) (hcx : Cx w0 g d0 ρ) (hoff : Off g g w0 w) (hp : PermIn 0 d0.size d0 d) (hb : RowBlk w g cap d) (hn : d0.size = n) (ham : a + 1 < m) (hmb : m + 1 < b) (hmm : ¬ (a + b) / 2 < m) (hbn : b ≤ n) (hm : n ≤ 1000000) (hsz : b - a ≤ sz + 1) (hs1 : SortedIn (ltR ρ) a m d) (hs2 : SortedIn (ltR ρ) m b d) :
    Calls Tryz.prog 189 #[.slice (some ⟨g, 0, none⟩) n c, .int .i64 a, .int .i64 m, .int .i64 b, .func (.func 119) #[] #[]] w (SymPost w0 g cap a b ρ d) := by
  have HOK := Lib.hid hok
  have HS0 := Lib.hid hS
  have HCX := Lib.hid hcx
  have HO := Lib.hid hoff
  have HP := Lib.hid hp
  have HB := Lib.hid hb
  have HN := Lib.hid hn
  have HS1 := Lib.hid hs1
  have HS2 := Lib.hid hs2
  have hds : d.size = n := by rw [hp.1, hn]
  have HDS := Lib.hid hds
  clear hok hS hcx hoff hp hb hn hs1 hs2 hds
  obtain ⟨mid, hmid⟩ : ∃ mid, mid = (a + b) / 2 := ⟨_, rfl⟩
  have hmid1 : 2 * mid ≤ a + b := by omega
  have hmid2 : a + b ≤ 2 * mid + 1 := by omega
  have E0 : IntKind.i64.wrap ((m : Int) - a) = ((m - a : Nat) : Int) := by rw [IntWalk.i64_in _ (by omega)]; omega
  have E1 : IntKind.i64.wrap ((b : Int) - m) = ((b - m : Nat) : Int) := by rw [IntWalk.i64_in _ (by omega)]; omega
  have E2 : (((m - a : Nat) : Int) == 1) = false := by simp; omega
  have E3 : (((b - m : Nat) : Int) == 1) = false := by simp; omega
  have E4 : IntKind.i64.wrap ((a : Int) + b) = (a : Int) + b := IntWalk.i64_in _ (by omega)
  have E5 : IntKind.u64.wrap ((a : Int) + b) = (a : Int) + b := by rw [show ((a : Int) + b) = ((a + b : Nat) : Int) by omega]; exact IntWalk.u64_in _ (by omega)
  have E6 : IntKind.i64.wrap (((a : Int) + b) / 2 + m) = ((a : Int) + b) / 2 + m := IntWalk.i64_in _ (by omega)
  have E7 : IntKind.i64.wrap (((a : Int) + b) / 2 + m - 1) = ((a : Int) + b) / 2 + m - 1 := IntWalk.i64_in _ (by omega)
  have E8 : IntKind.i64.wrap (((a : Int) + b) / 2 + m - b) = ((a : Int) + b) / 2 + m - b := IntWalk.i64_in _ (by omega)
  have hmm2 : ¬ mid < m := by omega
  · have E9 : ¬ ((a : Int) + b) / 2 < m := by omega
    go_enter Tryz.func189, Tryz.ntmps189
    go_wp2_with fail
    have hmi : ((a : Int) + b) / 2 = (mid : Int) := by omega
    rw [hmi]
    clear hmi E0 E1 E2 E3 E4 E5 E6 E7 E8 E9 hmid
    go_loopw [20, 21, 23] (fun vi vj _ wr => ∃ (i j : Nat), vi = .int .i64 i ∧ vj = .int .i64 j ∧ a ≤ i ∧ i ≤ j ∧ j ≤ m ∧ (i = a ∨ ltR ρ d[mid + m - i]! d[i - 1]! = false) ∧ (j = m ∨ ltR ρ d[mid + m - 1 - j]! d[j]! = true) ∧ RowBlk wr g cap d ∧ Off g g w0 wr) (fun vi vj _ _ => (intOf vj).toNat - (intOf vi).toNat)
    case atStart => exact ⟨a, m, by go_num, rfl, Nat.le_refl _, by omega, Nat.le_refl _, .inl rfl, .inl rfl, HB.out, HO.out⟩
    case round =>
      obtain ⟨i, j, rfl, rfl, hi, hij, hj, c1, c2, hbk, hok⟩ := hrel
      have C1 := Lib.hid c1
      have C2 := Lib.hid c2
      have HBK := Lib.hid hbk
      have HOF := Lib.hid hok
      clear c1 c2 hbk hok HO HB
      by_cases hlt : i < j
      · have hlt' : (i : Int) < j := by omega
        obtain ⟨h, hh⟩ : ∃ h, h = (i + j) / 2 := ⟨_, rfl⟩
        have hh1 : i ≤ h := by omega
        have hh2 : h < j := by omega
        have e1 : IntKind.i64.wrap ((i : Int) + j) = (i : Int) + j := IntWalk.i64_in _ (by omega)
        have e2 : IntKind.u64.wrap ((i : Int) + j) = (i : Int) + j := by rw [show ((i : Int) + j) = ((i + j : Nat) : Int) by omega]; exact IntWalk.u64_in _ (by omega)
        go_wp2_with fail
        have e3 : ((i : Int) + j) / 2 = (h : Int) := by omega
        rw [e3]
        clear e1 e2 e3 hh
        obtain ⟨q, hq⟩ : ∃ q, q = mid + m - 1 - h := ⟨_, rfl⟩
        have hqn : q < n := by omega
        have hq1 : mid + m - (h + 1) = q := by omega
        have hq2 : (IntKind.i64.wrap ((mid : Int) + m - 1 - h)) = (q : Int) := by rw [IntWalk.i64_in _ (by omega)]; omega
        obtain ⟨s, hs⟩ : ∃ s, d[q]! = s := ⟨_, rfl⟩
        obtain ⟨t, ht⟩ : ∃ t, d[h]! = t := ⟨_, rfl⟩
        obtain ⟨cs, fs⟩ := HBK.out.cell (by rw [HDS.out]; omega) hs
        obtain ⟨ct, ft⟩ := HBK.out.cell (by rw [HDS.out]; omega) ht
        have HS := Lib.hid hs
        have HT := Lib.hid ht
        have HQ := Lib.hid hq
        have HQ1 := Lib.hid hq1
        have hzj := HBK.out.lt
        have hRS := Lib.hid (HCX.out.at_ HOF.out HP.out (by rw [HN.out]; omega) hs)
        have hRT := Lib.hid (HCX.out.at_ HOF.out HP.out (by rw [HN.out]; omega) ht)
        have hhn : (h : Int) < n := by omega
        have hqn' : (q : Int) < n := by omega
        have e4 : IntKind.i64.wrap ((h : Int) + 1) = (h : Int) + 1 := IntWalk.i64_in _ (by omega)
        clear hs ht hq hq1
        go_still_tail 11, (by kernel_rfl)
        change wpList _ _ _ _ _ wr.drew
        clear hq2
        have hb1 := hRS.out.keep (bl_drew (Below.refl wr.heap.size wr))
        go_wp2_with fail
        refine (rows1_any s.A t.A s.n t.n s.c t.c (ρ s) (ρ t) _ (hRS.out.keep (bl_drew (Below.refl wr.heap.size wr))) (hRT.out.keep (bl_drew (Below.refl wr.heap.size wr)))).mono ?_
        rintro e w1 ⟨rfl, hbw⟩
        have HOW := Lib.hid (off_below (off_drew HOF.out) hbw)
        have HBW := Lib.hid ((HBK.out.keep (bl_drew (Below.refl wr.heap.size wr))).keep hbw)
        clear cs fs ct ft hzj hbw hb1
        by_cases hl : cmpR (ρ s) (ρ t) < 0
        · have HG := Lib.hid (show ltR ρ d[q]! d[h]! = true by rw [HS.out, HT.out]; exact decide_eq_true hl)
          have hl' : (!decide (cmpR (ρ s) (ρ t) < 0)) = false := by simp [hl]
          go_wp2
          go_roundw
          case rel => exact ⟨i, h, rfl, rfl, hi, hh1, by omega, C1.out, .inr (by rw [← HQ.out]; exact HG.out), HBW.out, HOW.out⟩
          case measure => simp [intOf]; omega
        · have HG := Lib.hid (show ltR ρ d[q]! d[h]! = false by rw [HS.out, HT.out]; exact decide_eq_false hl)
          have hl' : (!decide (cmpR (ρ s) (ρ t) < 0)) = true := by simpa using hl
          go_wp2
          go_roundw
          case rel => exact ⟨h + 1, j, by go_num, rfl, by omega, by omega, hj, .inr (by rw [HQ1.out, Nat.add_sub_cancel]; exact HG.out), C2.out, HBW.out, HOW.out⟩
          case measure => simp [intOf]; omega
      · have hij' : i = j := by omega
        subst hij'
        obtain ⟨e, he⟩ : ∃ e, e = mid + m - i := ⟨_, rfl⟩
        have he2 : IntKind.i64.wrap ((mid : Int) + m - i) = (e : Int) := by rw [IntWalk.i64_in _ (by omega)]; omega
        have hme : m ≤ e := by omega
        have heb : e ≤ b := by omega
        have hsum : i + (e - m) = mid := by omega
        have him : i ≤ m := by omega
        have hai : a ≤ i := by omega
        have him2 : i ≤ mid := by omega
        have hem2 : mid ≤ e := by omega
        have D1 : Hid (i = a ∨ e = b ∨ ltR ρ d[e]! d[i - 1]! = false) := Lib.hid (by
          rcases C1.out with c | c
          · first | exact .inl c | exact .inr (.inl (by omega))
          · exact .inr (.inr (by rw [he]; exact c)))
        have D2 : Hid (i = m ∨ e = m ∨ ltR ρ d[i]! d[e - 1]! = false) := Lib.hid (by
          rcases C2.out with c | c
          · first | exact .inl c | exact .inr (.inl (by omega))
          · exact .inr (.inr (HS0.out.asymmA (by rw [he, show mid + m - i - 1 = mid + m - 1 - i by omega]; exact c))))
        clear C1 C2 he
        by_cases hR1 : i < m
        · have hR1' : (i : Int) < m := by omega
          have hR2 : m < e := by omega
          have hR2' : (m : Int) < e := by omega
          go_wp2_with fail
          refine (rot_any w0 _ g cap n c i m e d HOF.out HBK.out HDS.out hR1 hR2 (by omega) hm).mono ?_
          rintro er w1 ⟨d1, hrt, hpr, rfl, hor, hbr⟩
          have HPT : Hid (SymPt (ltR ρ) a m b mid i e d d1) := Lib.hid ⟨hai, him, hme, heb, hsum, by rw [HDS.out]; exact hbn, HS1.out, HS2.out, hrt, hpr, D1.out, D2.out⟩
          have HP1 := Lib.hid (permIn_trans _ _ _ _ _ HP.out (hpr 0 d0.size (Nat.zero_le _) (by rw [HN.out]; omega) (by rw [HP.out.1]; exact Nat.le_refl _)))
          have HO1 := Lib.hid hor
          have HB1 := Lib.hid hbr
          clear hrt hpr hor hbr he2
          by_cases hA1 : a < i
          · have hA1' : (a : Int) < i := by omega
            by_cases hA2 : i < mid
            · have hA2' : (i : Int) < mid := by omega
              go_wp2_with fail
              refine (HOK.out _ a i mid _ HO1.out HP1.out HB1.out hA1 hA2 (by omega) (by omega) HPT.out.in1.1 HPT.out.in1.2).mono ?_
              rintro ea wa ⟨d2, hpa, hsa, rfl, hoa, hba⟩
              have HP2 := Lib.hid hpa
              have HS2' := Lib.hid hsa
              have HO2 := Lib.hid hoa
              have HB2 := Lib.hid hba
              have HPA := Lib.hid (permIn_trans _ _ _ _ _ HP1.out (hpa 0 d0.size (Nat.zero_le _) (by rw [HN.out]; omega) (by rw [HP1.out.1]; exact Nat.le_refl _)))
              clear hpa hsa hoa hba
              by_cases hB1 : mid < e
              · have hB1' : (mid : Int) < e := by omega
                by_cases hB2 : e < b
                · have hB2' : (e : Int) < b := by omega
                  go_wp2_with fail
                  refine (HOK.out _ mid e b _ HO2.out HPA.out HB2.out hB1 hB2 hbn (by omega) (HPT.out.in2 HP2.out).1 (HPT.out.in2 HP2.out).2).mono ?_
                  rintro eb wb ⟨d3, hpb, hsb, rfl, hob, hbb⟩
                  have HP3 := Lib.hid hpb
                  have HS3 := Lib.hid hsb
                  have HO3 := Lib.hid hob
                  have HB3 := Lib.hid hbb
                  clear hpb hsb hob hbb
                  have HF := Lib.hid (HPT.out.fin HS0.out HP2.out HS2'.out HP3.out HS3.out)
                  go_wp2
                  go_end0
                  exact ⟨d3, HF.out.1, HF.out.2, rfl, HO3.out, HB3.out⟩
                · have hB2' : ¬ (e : Int) < b := by omega
                  have HF := Lib.hid (HPT.out.fin HS0.out HP2.out HS2'.out (pf_refl _ _ _) (HPT.out.skip2 HP2.out (.inr (by omega))))
                  go_wp2
                  go_end0
                  exact ⟨d2, HF.out.1, HF.out.2, rfl, HO2.out, HB2.out⟩
              · have hB1' : ¬ (mid : Int) < e := by omega
                have HF := Lib.hid (HPT.out.fin HS0.out HP2.out HS2'.out (pf_refl _ _ _) (HPT.out.skip2 HP2.out (.inl (by omega))))
                go_wp2
                go_end0
                exact ⟨d2, HF.out.1, HF.out.2, rfl, HO2.out, HB2.out⟩
            · have hA2' : ¬ (i : Int) < mid := by omega
              have HPA := HP1
              by_cases hB1 : mid < e
              · have hB1' : (mid : Int) < e := by omega
                by_cases hB2 : e < b
                · have hB2' : (e : Int) < b := by omega
                  go_wp2_with fail
                  refine (HOK.out _ mid e b _ HO1.out HPA.out HB1.out hB1 hB2 hbn (by omega) (HPT.out.in2 (pf_refl _ _ _)).1 (HPT.out.in2 (pf_refl _ _ _)).2).mono ?_
                  rintro eb wb ⟨d3, hpb, hsb, rfl, hob, hbb⟩
                  have HP3 := Lib.hid hpb
                  have HS3 := Lib.hid hsb
                  have HO3 := Lib.hid hob
                  have HB3 := Lib.hid hbb
                  clear hpb hsb hob hbb
                  have HF := Lib.hid (HPT.out.fin HS0.out (pf_refl _ _ _) (HPT.out.skip1 (.inr (by omega))) HP3.out HS3.out)
                  go_wp2
                  go_end0
                  exact ⟨d3, HF.out.1, HF.out.2, rfl, HO3.out, HB3.out⟩
                · have hB2' : ¬ (e : Int) < b := by omega
                  have HF := Lib.hid (HPT.out.fin HS0.out (pf_refl _ _ _) (HPT.out.skip1 (.inr (by omega))) (pf_refl _ _ _) (HPT.out.skip2 (pf_refl _ _ _) (.inr (by omega))))
                  go_wp2
                  go_end0
                  exact ⟨d1, HF.out.1, HF.out.2, rfl, HO1.out, HB1.out⟩
              · have hB1' : ¬ (mid : Int) < e := by omega
                have HF := Lib.hid (HPT.out.fin HS0.out (pf_refl _ _ _) (HPT.out.skip1 (.inr (by omega))) (pf_refl _ _ _) (HPT.out.skip2 (pf_refl _ _ _) (.inl (by omega))))
                go_wp2
                go_end0
                exact ⟨d1, HF.out.1, HF.out.2, rfl, HO1.out, HB1.out⟩
          · have hA1' : ¬ (a : Int) < i := by omega
            have HPA := HP1
            by_cases hB1 : mid < e
            · have hB1' : (mid : Int) < e := by omega
              by_cases hB2 : e < b
              · have hB2' : (e : Int) < b := by omega
                go_wp2_with fail
                refine (HOK.out _ mid e b _ HO1.out HPA.out HB1.out hB1 hB2 hbn (by omega) (HPT.out.in2 (pf_refl _ _ _)).1 (HPT.out.in2 (pf_refl _ _ _)).2).mono ?_
                rintro eb wb ⟨d3, hpb, hsb, rfl, hob, hbb⟩
                have HP3 := Lib.hid hpb
                have HS3 := Lib.hid hsb
                have HO3 := Lib.hid hob
                have HB3 := Lib.hid hbb
                clear hpb hsb hob hbb
                have HF := Lib.hid (HPT.out.fin HS0.out (pf_refl _ _ _) (HPT.out.skip1 (.inl (by omega))) HP3.out HS3.out)
                go_wp2
                go_end0
                exact ⟨d3, HF.out.1, HF.out.2, rfl, HO3.out, HB3.out⟩
              · have hB2' : ¬ (e : Int) < b := by omega
                have HF := Lib.hid (HPT.out.fin HS0.out (pf_refl _ _ _) (HPT.out.skip1 (.inl (by omega))) (pf_refl _ _ _) (HPT.out.skip2 (pf_refl _ _ _) (.inr (by omega))))
                go_wp2
                go_end0
                exact ⟨d1, HF.out.1, HF.out.2, rfl, HO1.out, HB1.out⟩
            · have hB1' : ¬ (mid : Int) < e := by omega
              have HF := Lib.hid (HPT.out.fin HS0.out (pf_refl _ _ _) (HPT.out.skip1 (.inl (by omega))) (pf_refl _ _ _) (HPT.out.skip2 (pf_refl _ _ _) (.inl (by omega))))
              go_wp2
              go_end0
              exact ⟨d1, HF.out.1, HF.out.2, rfl, HO1.out, HB1.out⟩
        · have hR1' : ¬ (i : Int) < m := by omega
          have him' : i = m := by omega
          have HPT : Hid (SymPt (ltR ρ) a m b mid i e d d) := Lib.hid ⟨hai, him, hme, heb, hsum, by rw [HDS.out]; exact hbn, HS1.out, HS2.out, (by rw [him']; exact rot_id_l hme), pf_refl _ _ _, D1.out, D2.out⟩
          have HP1 := HP
          clear him'
          by_cases hA1 : a < i
          · have hA1' : (a : Int) < i := by omega
            by_cases hA2 : i < mid
            · have hA2' : (i : Int) < mid := by omega
              go_wp2_with fail
              refine (HOK.out _ a i mid _ HOF.out HP1.out HBK.out hA1 hA2 (by omega) (by omega) HPT.out.in1.1 HPT.out.in1.2).mono ?_
              rintro ea wa ⟨d2, hpa, hsa, rfl, hoa, hba⟩
              have HP2 := Lib.hid hpa
              have HS2' := Lib.hid hsa
              have HO2 := Lib.hid hoa
              have HB2 := Lib.hid hba
              have HPA := Lib.hid (permIn_trans _ _ _ _ _ HP1.out (hpa 0 d0.size (Nat.zero_le _) (by rw [HN.out]; omega) (by rw [HP1.out.1]; exact Nat.le_refl _)))
              clear hpa hsa hoa hba
              by_cases hB1 : mid < e
              · have hB1' : (mid : Int) < e := by omega
                by_cases hB2 : e < b
                · have hB2' : (e : Int) < b := by omega
                  go_wp2_with fail
                  refine (HOK.out _ mid e b _ HO2.out HPA.out HB2.out hB1 hB2 hbn (by omega) (HPT.out.in2 HP2.out).1 (HPT.out.in2 HP2.out).2).mono ?_
                  rintro eb wb ⟨d3, hpb, hsb, rfl, hob, hbb⟩
                  have HP3 := Lib.hid hpb
                  have HS3 := Lib.hid hsb
                  have HO3 := Lib.hid hob
                  have HB3 := Lib.hid hbb
                  clear hpb hsb hob hbb
                  have HF := Lib.hid (HPT.out.fin HS0.out HP2.out HS2'.out HP3.out HS3.out)
                  go_wp2
                  go_end0
                  exact ⟨d3, HF.out.1, HF.out.2, rfl, HO3.out, HB3.out⟩
                · have hB2' : ¬ (e : Int) < b := by omega
                  have HF := Lib.hid (HPT.out.fin HS0.out HP2.out HS2'.out (pf_refl _ _ _) (HPT.out.skip2 HP2.out (.inr (by omega))))
                  go_wp2
                  go_end0
                  exact ⟨d2, HF.out.1, HF.out.2, rfl, HO2.out, HB2.out⟩
              · have hB1' : ¬ (mid : Int) < e := by omega
                have HF := Lib.hid (HPT.out.fin HS0.out HP2.out HS2'.out (pf_refl _ _ _) (HPT.out.skip2 HP2.out (.inl (by omega))))
                go_wp2
                go_end0
                exact ⟨d2, HF.out.1, HF.out.2, rfl, HO2.out, HB2.out⟩
            · have hA2' : ¬ (i : Int) < mid := by omega
              have HPA := HP1
              by_cases hB1 : mid < e
              · have hB1' : (mid : Int) < e := by omega
                by_cases hB2 : e < b
                · have hB2' : (e : Int) < b := by omega
                  go_wp2_with fail
                  refine (HOK.out _ mid e b _ HOF.out HPA.out HBK.out hB1 hB2 hbn (by omega) (HPT.out.in2 (pf_refl _ _ _)).1 (HPT.out.in2 (pf_refl _ _ _)).2).mono ?_
                  rintro eb wb ⟨d3, hpb, hsb, rfl, hob, hbb⟩
                  have HP3 := Lib.hid hpb
                  have HS3 := Lib.hid hsb
                  have HO3 := Lib.hid hob
                  have HB3 := Lib.hid hbb
                  clear hpb hsb hob hbb
                  have HF := Lib.hid (HPT.out.fin HS0.out (pf_refl _ _ _) (HPT.out.skip1 (.inr (by omega))) HP3.out HS3.out)
                  go_wp2
                  go_end0
                  exact ⟨d3, HF.out.1, HF.out.2, rfl, HO3.out, HB3.out⟩
                · have hB2' : ¬ (e : Int) < b := by omega
                  have HF := Lib.hid (HPT.out.fin HS0.out (pf_refl _ _ _) (HPT.out.skip1 (.inr (by omega))) (pf_refl _ _ _) (HPT.out.skip2 (pf_refl _ _ _) (.inr (by omega))))
                  go_wp2
                  go_end0
                  exact ⟨d, HF.out.1, HF.out.2, rfl, HOF.out, HBK.out⟩
              · have hB1' : ¬ (mid : Int) < e := by omega
                have HF := Lib.hid (HPT.out.fin HS0.out (pf_refl _ _ _) (HPT.out.skip1 (.inr (by omega))) (pf_refl _ _ _) (HPT.out.skip2 (pf_refl _ _ _) (.inl (by omega))))
                go_wp2
                go_end0
                exact ⟨d, HF.out.1, HF.out.2, rfl, HOF.out, HBK.out⟩
          · have hA1' : ¬ (a : Int) < i := by omega
            have HPA := HP1
            by_cases hB1 : mid < e
            · have hB1' : (mid : Int) < e := by omega
              by_cases hB2 : e < b
              · have hB2' : (e : Int) < b := by omega
                go_wp2_with fail
                refine (HOK.out _ mid e b _ HOF.out HPA.out HBK.out hB1 hB2 hbn (by omega) (HPT.out.in2 (pf_refl _ _ _)).1 (HPT.out.in2 (pf_refl _ _ _)).2).mono ?_
                rintro eb wb ⟨d3, hpb, hsb, rfl, hob, hbb⟩
                have HP3 := Lib.hid hpb
                have HS3 := Lib.hid hsb
                have HO3 := Lib.hid hob
                have HB3 := Lib.hid hbb
                clear hpb hsb hob hbb
                have HF := Lib.hid (HPT.out.fin HS0.out (pf_refl _ _ _) (HPT.out.skip1 (.inl (by omega))) HP3.out HS3.out)
                go_wp2
                go_end0
                exact ⟨d3, HF.out.1, HF.out.2, rfl, HO3.out, HB3.out⟩
              · have hB2' : ¬ (e : Int) < b := by omega
                have HF := Lib.hid (HPT.out.fin HS0.out (pf_refl _ _ _) (HPT.out.skip1 (.inl (by omega))) (pf_refl _ _ _) (HPT.out.skip2 (pf_refl _ _ _) (.inr (by omega))))
                go_wp2
                go_end0
                exact ⟨d, HF.out.1, HF.out.2, rfl, HOF.out, HBK.out⟩
            · have hB1' : ¬ (mid : Int) < e := by omega
              have HF := Lib.hid (HPT.out.fin HS0.out (pf_refl _ _ _) (HPT.out.skip1 (.inl (by omega))) (pf_refl _ _ _) (HPT.out.skip2 (pf_refl _ _ _) (.inl (by omega))))
              go_wp2
              go_end0
              exact ⟨d, HF.out.1, HF.out.2, rfl, HOF.out, HBK.out⟩
theorem sym_any (w0 : World) (g cap n c : Nat) (d0 : Array Sl) (ρ : Sl → List Vl) (hS : SWO (ltR ρ)) (hcx : Cx w0 g d0 ρ) (hn : d0.size = n) (hm : n ≤ 1000000) : ∀ sz, SymOk w0 g cap n c d0 ρ sz
  | 0 => fun w a m b d hoff hp hb h1 h2 h3 h4 _ _ => by omega
  | sz + 1 => fun w a m b d hoff hp hb h1 h2 h3 h4 hs1 hs2 => by
    by_cases ha : m = a + 1
    · subst ha
      exact sym_l w0 w g cap n c a b d0 d ρ hS hcx hoff hp hb hn h2 h3 hm hs2
    · by_cases hb1 : b = m + 1
      · subst hb1
        exact sym_r w0 w g cap n c a m d0 d ρ hS hcx hoff hp hb hn (by omega) h3 hm hs1
      · by_cases hmm : (a + b) / 2 < m
        · exact sym_mid1 w0 w g cap n c a m b sz d0 d ρ (sym_any w0 g cap n c d0 ρ hS hcx hn hm sz) hS hcx hoff hp hb hn (by omega) (by omega) hmm h3 hm h4 hs1 hs2
        · exact sym_mid2 w0 w g cap n c a m b sz d0 d ρ (sym_any w0 g cap n c d0 ρ hS hcx hn hm sz) hS hcx hoff hp hb hn (by omega) (by omega) hmm h3 hm h4 hs1 hs2
end Go.Proofs.YtbmaeaknlpgdmaaGreat
