/- The program's and the reference's word on a statement's form are one. -/
import Derived.Test.YtbmaeaknlpgdmaaA16
import Derived.Test.YtbmaeaknlpgdmaaA18
namespace Go.Proofs.Ytbmaeaknlpgdmaa
open Go.RowKit
def hasK (k : Int) (x : Fld) : Bool := (fieldsF k).contains x
def hasDO (k : Int) : Bool := hasK k .d || hasK k .o
theorem hasK_eq {k : Int} (h : 1 ≤ k ∧ k ≤ 17) (x : Fld) : hasB (pstr (fieldsF k)) ⟨#[pcode x]⟩ = hasK k x := by
  rcases kinds17 h with rfl | rfl | rfl | rfl | rfl | rfl | rfl | rfl | rfl | rfl | rfl | rfl | rfl | rfl | rfl | rfl | rfl <;> cases x <;> decide +kernel
theorem hasDO_eq {k : Int} (h : 1 ≤ k ∧ k ≤ 17) : hasB (pstr (fieldsF k)) ⟨#[100, 111]⟩ = hasDO k := by
  rcases kinds17 h with rfl | rfl | rfl | rfl | rfl | rfl | rfl | rfl | rfl | rfl | rfl | rfl | rfl | rfl | rfl | rfl | rfl <;> decide +kernel
theorem zeroV_eq (v : Vl) : zeroV v = decide (v = ⟨0, 0, 0, ⟨#[]⟩⟩) := by
  obtain ⟨k, n, f, s⟩ := v
  unfold zeroV goodV bareB
  rw [Bool.eq_iff_iff]
  simp only [decide_eq_true_eq, Bool.and_eq_true, beq_iff_eq, Vl.mk.injEq, str_beq_nil]
  constructor
  · rintro ⟨rfl, h⟩
    simp at h
    obtain ⟨⟨h1, h2⟩, h3⟩ := h
    refine ⟨rfl, h1, by omega, ?_⟩
    exact h3
  · rintro ⟨rfl, rfl, rfl, rfl⟩
    simp
    rfl
theorem only_eq {s : St} (h : 1 ≤ s.k ∧ s.k ≤ 17) : only s = ⟨s.k, if hasK s.k .t then s.t else ⟨#[]⟩, if hasK s.k .n then s.nm else ⟨#[]⟩, if hasK s.k .c then s.c else ⟨#[]⟩, if hasK s.k .s then s.se else ⟨#[]⟩,
    if hasK s.k .v then s.v else ⟨0, 0, 0, ⟨#[]⟩⟩, if hasK s.k .w then s.w else ⟨0, 0, 0, ⟨#[]⟩⟩, if hasK s.k .r then s.row else [], if hasDO s.k then s.cols else [], if hasK s.k .f then s.fl else false⟩ := by
  obtain ⟨k, t, nm, c, se, v, w, row, cols, fl⟩ := s
  dsimp only at h ⊢
  rcases kinds17 h with rfl | rfl | rfl | rfl | rfl | rfl | rfl | rfl | rfl | rfl | rfl | rfl | rfl | rfl | rfl | rfl | rfl <;> rfl
theorem or_zero {α : Type} [DecidableEq α] (a z : α) (b : Bool) : (decide (a = z) || b) = decide (a = if b then a else z) := by
  cases b <;> simp
theorem bare_only (s : St) (h : 1 ≤ s.k ∧ s.k ≤ 17) : bareB' s (pstr (fieldsF s.k)) = eqSt s (only s) := by
  rw [eqSt_iff, only_eq h]
  unfold bareB'
  have e := fun x => hasK_eq h x
  have et := e .t; have en := e .n; have ec := e .c; have es := e .s; have ev := e .v; have ew := e .w; have er := e .r; have ef := e .f
  simp only [pcode] at et en ec es ev ew er ef
  rw [et, en, ec, es, ev, ew, er, ef, hasDO_eq h]
  obtain ⟨k, t, nm, c, se, v, w, row, cols, fl⟩ := s
  dsimp only
  have hr : (((row.length : Nat) : Int) == 0) = decide (row = []) := by
    cases row <;> simp <;> omega
  have hc : (((cols.length : Nat) : Int) == 0) = decide (cols = []) := by
    cases cols <;> simp <;> omega
  have hf : (!fl) = decide (fl = false) := by cases fl <;> rfl
  rw [hr, hc, hf, str_beq_nil, str_beq_nil, str_beq_nil, str_beq_nil, zeroV_eq, zeroV_eq]
  have hE : (ByteArray.empty : ByteArray) = ⟨#[]⟩ := rfl
  rw [hE]
  simp only [or_zero]
  rw [Bool.eq_iff_iff]
  simp only [Bool.and_eq_true, decide_eq_true_eq, St.mk.injEq, true_and, and_assoc]
theorem goodS_eq (s : St) : goodS s = rgoodS s := by
  unfold goodS rgoodS
  cases hk : kindOK s.k with
  | false => rfl
  | true =>
    have h : 1 ≤ s.k ∧ s.k ≤ 17 := by simpa [kindOK] using hk
    rw [bare_only s h]
end Go.Proofs.Ytbmaeaknlpgdmaa
