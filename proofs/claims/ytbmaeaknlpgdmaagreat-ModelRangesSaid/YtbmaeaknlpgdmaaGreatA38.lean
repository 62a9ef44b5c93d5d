/- Sorted blocks, one behind the other: what the stable sort goes through. The library's stable sort of rows. -/
import Derived.Test.YtbmaeaknlpgdmaaGreatA36
import Derived.Test.YtbmaeaknlpgdmaaGreatA10
namespace Go.Proofs.YtbmaeaknlpgdmaaGreat
open Go.RowKit Go.Sort
set_option linter.unusedVariables false
/-- From the beginning up to a: blocks of bs, each sorted. -/
inductive Ch (lt : Sl → Sl → Bool) (bs : Nat) (d : Array Sl) : Nat → Prop
  | nil : Ch lt bs d 0
  | snoc (a : Nat) : Ch lt bs d a → SortedIn lt a (a + bs) d → Ch lt bs d (a + bs)
/-- From a to the end n. -/
inductive Cf (lt : Sl → Sl → Bool) (bs n : Nat) (d : Array Sl) : Nat → Prop
  | last (a : Nat) : a ≤ n → n < a + bs → SortedIn lt a n d → Cf lt bs n d a
  | more (a : Nat) : a + bs ≤ n → SortedIn lt a (a + bs) d → Cf lt bs n d (a + bs) → Cf lt bs n d a
variable {lt : Sl → Sl → Bool} {bs n : Nat} {d d' : Array Sl}
theorem Ch.keep {a : Nat} (h : Ch lt bs d a) (he : ∀ i, i < a → d'[i]! = d[i]!) : Ch lt bs d' a := by
  induction h with
  | nil => exact .nil
  | snoc a h hs ih => exact .snoc a (ih (fun i hi => he i (by omega))) (so_keep hs (fun i _ hi => he i hi))
theorem Cf.keep {a : Nat} (h : Cf lt bs n d a) (he : ∀ i, a ≤ i → d'[i]! = d[i]!) : Cf lt bs n d' a := by
  induction h with
  | last a h1 h2 hs => exact .last a h1 h2 (so_keep hs (fun i hi _ => he i hi))
  | more a h1 hs h ih => exact .more a h1 (so_keep hs (fun i hi _ => he i hi)) (ih (fun i hi => he i (by omega)))
theorem Cf.le {a : Nat} (h : Cf lt bs n d a) : a ≤ n := by
  cases h with
  | last _ h1 h2 hs => exact h1
  | more _ h1 hs h => omega
theorem Cf.of {a : Nat} (h : Ch lt bs d a) (hf : Cf lt bs n d a) : Cf lt bs n d 0 := by
  induction h with
  | nil => exact hf
  | snoc a h hs ih => exact ih (.more a hf.le hs hf)
theorem Cf.two {a : Nat} (h : Cf lt bs n d a) (h2 : a + 2 * bs ≤ n) (hb : 0 < bs) : SortedIn lt a (a + bs) d ∧ SortedIn lt (a + bs) (a + 2 * bs) d ∧ Cf lt bs n d (a + 2 * bs) := by
  cases h with
  | last _ h1 h2 hs => omega
  | more _ h1 hs h =>
    cases h with
    | last _ h1 h2 hs => omega
    | more _ h1 hs' h => rw [show a + bs + bs = a + 2 * bs by omega] at h hs'; exact ⟨hs, hs', h⟩
theorem Cf.tail {a : Nat} (h : Cf lt bs n d a) (h1 : n < a + 2 * bs) (h2 : a + bs < n) : SortedIn lt a (a + bs) d ∧ SortedIn lt (a + bs) n d := by
  cases h with
  | last _ h1 h2 hs => omega
  | more _ h1 hs h =>
    cases h with
    | last _ h1 h2 hs' => exact ⟨hs, hs'⟩
    | more _ h1 hs' h => omega
theorem Cf.end_ {a : Nat} (h : Cf lt bs n d a) (h1 : n ≤ a + bs) : SortedIn lt a n d := by
  cases h with
  | last _ h1 h2 hs => exact hs
  | more _ h1 hs h => rw [show n = a + bs by omega]; exact hs
end Go.Proofs.YtbmaeaknlpgdmaaGreat
namespace Go.Proofs.YtbmaeaknlpgdmaaGreat
open Go.RowKit Go.Sort
set_option linter.unusedVariables false
set_option linter.unusedSimpArgs false
/-- A step inside of d, from a to b. -/
theorem in_step {n a b : Nat} {d d' d1 : Array Sl} (hp : PermIn 0 n d d') (hn : d.size = n) (h : PermFrom a b d' d1) (hb : b ≤ n) : PermIn 0 n d d1 := permIn_trans _ _ _ _ _ hp (h 0 n (Nat.zero_le _) hb (by rw [hp.1, hn]; exact Nat.le_refl _))
theorem pf_out {n a b : Nat} {d' d1 : Array Sl} (h : PermFrom a b d' d1) (hn : d'.size = n) (hb : b ≤ n) : ∀ i, i < a ∨ b ≤ i → d1[i]! = d'[i]! := (h a b (Nat.le_refl _) (Nat.le_refl _) (by omega)).2.1
set_option maxRecDepth 100000 in
set_option maxHeartbeats 8000000 in
theorem stable_any (w0 w : World) (g cap n c : Nat) (d0 d : Array Sl) (ρ : Sl → List Vl) (hS : SWO (ltR ρ)) (hsym : SymOk w0 g cap n c d0 ρ n) (hcx : Cx w0 g d0 ρ) (hoff : Off g g w0 w) (hp : PermIn 0 d0.size d0 d) (hb : RowBlk w g cap d) (hn : d0.size = n) (hm : n ≤ 1000000) :
    Calls Tryz.prog 155 #[.slice (some ⟨g, 0, none⟩) n c, .int .i64 n, .func (.func 119) #[] #[]] w fun e w' => ∃ d', SortPost w0 g cap d' e w' ∧ PermIn 0 n d d' ∧ SortedIn (ltR ρ) 0 n d' := by
  have HS := Lib.hid hS
  have HSY := Lib.hid hsym
  have HCX := Lib.hid hcx
  have HO := Lib.hid hoff
  have HP := Lib.hid hp
  have HB := Lib.hid hb
  have HN := Lib.hid hn
  have hds : d.size = n := by rw [hp.1, hn]
  have HDS := Lib.hid hds
  clear hS hsym hcx hoff hp hb hn hds
  go_enter Tryz.func155, Tryz.ntmps155
  go_wp2
  go_loopw [7, 8] (fun va vb wr => ∃ (a b : Nat) (dk : Array Sl), va = .int .i64 a ∧ vb = .int .i64 b ∧ Hid (b = a + 20) ∧ a ≤ n ∧ Ch (ltR ρ) 20 dk a ∧ PermIn 0 n d dk ∧ RowBlk wr g cap dk ∧ Off g g w0 wr) (fun va _ _ => n - (intOf va).toNat)
  case atStart => exact ⟨0, 20, d, rfl, rfl, Lib.hid rfl, Nat.zero_le _, .nil, permIn_refl _ _ _, HB.out, HO.out⟩
  case round =>
    obtain ⟨a, b, dk, rfl, rfl, hab, han, hch, hpk, hbk, hok⟩ := hrel
    have HDK := Lib.hid (show dk.size = n by rw [hpk.1, HDS.out])
    have HCH := Lib.hid hch
    have HPK := Lib.hid hpk
    have HBK := Lib.hid hbk
    have HOK := Lib.hid hok
    have HP0 := Lib.hid (show PermIn 0 d0.size d0 dk from permIn_trans _ _ _ _ _ HP.out (by rw [HN.out]; exact hpk))
    clear hch hpk hbk hok HO HB
    by_cases hle : b ≤ n
    · have hle' : (b : Int) ≤ n := by omega
      have hb2 : a ≤ b := by have := hab.out; omega
      go_wp2_with fail
      refine (ins_any w0 _ g cap n c a b d0 dk ρ HCX.out HOK.out HP0.out HBK.out HN.out hb2 hle hm).mono ?_
      rintro e w1 ⟨rfl, ho, hb⟩
      have HI := insertionSort_holds HS.out dk a b hb2 (by rw [HDK.out]; exact hle)
      have HI1 := Lib.hid (pf_of HI.1)
      have HI2 := Lib.hid HI.2
      clear HI
      have HO := Lib.hid ho
      have HB := Lib.hid hb
      clear ho hb
      generalize insertionSort (ltR ρ) dk a b = d1 at HI1 HI2 HB
      have e1 : IntKind.i64.wrap ((b : Int) + 20) = (b : Int) + 20 := IntWalk.i64_in _ (by omega)
      go_wp2
      go_roundw
      case rel => exact ⟨b, b + 20, d1, rfl, by go_num, Lib.hid rfl, hle, by
        have h := hab.out
        subst h
        exact .snoc a (HCH.out.keep (fun i hi => pf_out HI1.out HDK.out hle i (.inl hi))) HI2.out, in_step HPK.out HDS.out HI1.out hle, HB.out, HO.out⟩
      case measure => have := hab.out; simp [intOf]; omega
    · have hle' : ¬ (b : Int) ≤ n := by omega
      go_wp2_with fail
      refine (ins_any w0 _ g cap n c a n d0 dk ρ HCX.out HOK.out HP0.out HBK.out HN.out han (Nat.le_refl _) hm).mono ?_
      rintro e w1 ⟨rfl, ho, hb⟩
      have HI := insertionSort_holds HS.out dk a n han (by rw [HDK.out]; exact Nat.le_refl _)
      have HI1 := Lib.hid (pf_of HI.1)
      have HI2 := Lib.hid HI.2
      clear HI
      have HO := Lib.hid ho
      have HB := Lib.hid hb
      clear ho hb
      generalize insertionSort (ltR ρ) dk a n = d1 at HI1 HI2 HB
      have HCF : Hid (Cf (ltR ρ) 20 n d1 0) := Lib.hid (Cf.of (HCH.out.keep (fun i hi => pf_out HI1.out HDK.out (Nat.le_refl _) i (.inl hi))) (.last a han (by have := hab.out; omega) HI2.out))
      have HP1 := Lib.hid (in_step HPK.out HDS.out HI1.out (Nat.le_refl _))
      clear HCH HPK HBK HOK HP0 HI1 HI2 HDK hab hle hle'
      go_wp2
      go_loopw [6, 7, 8, 9] (fun vs _ _ _ wr => ∃ (bs : Nat) (dk : Array Sl), vs = .int .i64 bs ∧ 20 ≤ bs ∧ Cf (ltR ρ) bs n dk 0 ∧ PermIn 0 n d dk ∧ RowBlk wr g cap dk ∧ Off g g w0 wr) (fun vs _ _ _ _ => n - (intOf vs).toNat)
      case atStart => exact ⟨20, d1, rfl, Nat.le_refl _, HCF.out, HP1.out, HB.out, HO.out⟩
      case round =>
        obtain ⟨bs, dk, rfl, hbs, hcf, hpk, hbk, hok⟩ := hrel
        have HCK := Lib.hid hcf
        have HPK := Lib.hid hpk
        have HBK := Lib.hid hbk
        have HOK := Lib.hid hok
        clear hcf hpk hbk hok HO HB HCF HP1
        by_cases hlt : bs < n
        · have hlt' : (bs : Int) < n := by omega
          obtain ⟨B, hB⟩ : ∃ B, B = 2 * bs := ⟨_, rfl⟩
          have e2 : IntKind.i64.wrap (2 * (bs : Int)) = (B : Int) := by rw [IntWalk.i64_in _ (by omega)]; omega
          have HB2 := Lib.hid hB
          clear hB
          go_wp2
          go_loopw [7, 8] (fun va vb wr => ∃ (a b : Nat) (dj : Array Sl), va = .int .i64 a ∧ vb = .int .i64 b ∧ Hid (b = a + B) ∧ Ch (ltR ρ) B dj a ∧ Cf (ltR ρ) bs n dj a ∧ PermIn 0 n d dj ∧ RowBlk wr g cap dj ∧ Off g g w0 wr) (fun va _ _ => n - (intOf va).toNat)
          case atStart => exact ⟨0, B, dk, rfl, rfl, Lib.hid (by omega), .nil, HCK.out, HPK.out, HBK.out, HOK.out⟩
          case round =>
            obtain ⟨a, b, dj, rfl, rfl, hab, hch, hcf, hpj, hbj, hoj⟩ := hrel
            have han := hcf.le
            have HDJ := Lib.hid (show dj.size = n by rw [hpj.1, HDS.out])
            have HCH := Lib.hid hch
            have HCJ := Lib.hid hcf
            have HPJ := Lib.hid hpj
            have HBJ := Lib.hid hbj
            have HOJ := Lib.hid hoj
            have HP0 := Lib.hid (show PermIn 0 d0.size d0 dj from permIn_trans _ _ _ _ _ HP.out (by rw [HN.out]; exact hpj))
            clear hch hcf hpj hbj hoj HCK HPK HBK HOK
            obtain ⟨m, hm0⟩ : ∃ m, m = a + bs := ⟨_, rfl⟩
            have hB0 := HB2.out
            have hab0 := hab.out
            have e3 : IntKind.i64.wrap ((a : Int) + bs) = (m : Int) := by rw [IntWalk.i64_in _ (by omega)]; omega
            have HM := Lib.hid hm0
            by_cases hle : b ≤ n
            · have hle' : (b : Int) ≤ n := by omega
              have hT := HCJ.out.two (by omega) (by omega)
              rw [← hm0, ← hB0, ← hab0] at hT
              have HT := Lib.hid hT
              have ham : a < m := by omega
              have hmb : m < b := by omega
              have hba : b - a ≤ n := by omega
              obtain ⟨b', hb'⟩ : ∃ b', b' = b + B := ⟨_, rfl⟩
              have e4 : IntKind.i64.wrap ((b : Int) + B) = (b' : Int) := by rw [IntWalk.i64_in _ (by omega)]; omega
              have HBB := Lib.hid hb'
              clear hT hm0 hB0 hab0 hb'
              go_wp2_with fail
              refine (HSY.out _ a m b dj HOJ.out HP0.out HBJ.out ham hmb hle hba HT.out.1 HT.out.2.1).mono ?_
              rintro e w1 ⟨d1, hpf, hso, rfl, ho, hb⟩
              have HPF := Lib.hid hpf
              have HSO := Lib.hid hso
              have HO := Lib.hid ho
              have HB := Lib.hid hb
              clear hpf hso ho hb
              go_wp2
              go_roundw
              case rel => exact ⟨b, b', d1, rfl, rfl, HBB, by
                have h := hab.out
                subst h
                exact .snoc a (HCH.out.keep (fun i hi => pf_out HPF.out HDJ.out hle i (.inl hi))) HSO.out, HT.out.2.2.keep (fun i hi => pf_out HPF.out HDJ.out hle i (.inr hi)), in_step HPJ.out HDS.out HPF.out hle, HB.out, HO.out⟩
              case measure => have := hab.out; simp [intOf]; omega
            · have hle' : ¬ (b : Int) ≤ n := by omega
              have e5 : IntKind.i64.wrap ((bs : Int) * 2) = (B : Int) := by rw [IntWalk.i64_in _ (by omega)]; omega
              by_cases hmn : m < n
              · have hmn' : (m : Int) < n := by omega
                have hT := HCJ.out.tail (by omega) (by omega)
                rw [← hm0] at hT
                have HT := Lib.hid hT
                have ham : a < m := by omega
                clear hT hm0 hB0 hab0
                go_wp2_with fail
                refine (HSY.out _ a m n dj HOJ.out HP0.out HBJ.out ham hmn (Nat.le_refl _) (by omega) HT.out.1 HT.out.2).mono ?_
                rintro e w1 ⟨d1, hpf, hso, rfl, ho, hb⟩
                have HPF := Lib.hid hpf
                have HSO := Lib.hid hso
                have HO := Lib.hid ho
                have HB := Lib.hid hb
                clear hpf hso ho hb
                go_wp2
                go_roundw
                case rel => exact ⟨B, d1, rfl, by have := HB2.out; omega, Cf.of (HCH.out.keep (fun i hi => pf_out HPF.out HDJ.out (Nat.le_refl _) i (.inl hi))) (.last a han (by have := hab.out; omega) HSO.out), in_step HPJ.out HDS.out HPF.out (Nat.le_refl _), HB.out, HO.out⟩
                case measure => have := HB2.out; simp [intOf]; omega
              · have hmn' : ¬ (m : Int) < n := by omega
                have HE := Lib.hid (HCJ.out.end_ (by omega))
                clear hm0 hB0 hab0
                go_wp2
                go_roundw
                case rel => exact ⟨B, dj, rfl, by have := HB2.out; omega, Cf.of HCH.out (.last a han (by have := hab.out; omega) HE.out), HPJ.out, HBJ.out, HOJ.out⟩
                case measure => have := HB2.out; simp [intOf]; omega
        · have hlt' : ¬ (bs : Int) < n := by omega
          have HE := Lib.hid (HCK.out.end_ (by omega))
          go_wp2
          go_end0
          exact ⟨dk, ⟨rfl, HOK.out, HBK.out⟩, HPK.out, HE.out⟩
end Go.Proofs.YtbmaeaknlpgdmaaGreat
