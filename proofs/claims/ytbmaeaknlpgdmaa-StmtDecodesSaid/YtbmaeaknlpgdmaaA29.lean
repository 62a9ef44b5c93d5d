/- stmt's reader: a row. stmt's reader: columns. -/
import Derived.Test.YtbmaeaknlpgdmaaA28
import Derived.Test.YtbmaeaknlpgdmaaA08
namespace Go.Proofs.Ytbmaeaknlpgdmaa
open Go.RowKit
set_option linter.unusedVariables false
set_option linter.unusedSimpArgs false
set_option linter.constructorNameAsVariable false
/-- What a reader's call that reads a list leaves. -/
def LPost {α : Type} (cs : α → List Value) (size : Nat) (br : Nat) (w : World) (r : Option (List α × ByteArray)) (e : Ending) (w' : World) : Prop :=
  ∃ A c xs b' ok', e = .returned (.slice A xs.length c) ∧ RB br b' ok' w' ∧ Off br br w w' ∧ b'.size ≤ 100000 ∧ Rd cs size w' A xs.length xs ∧ (∀ p, A = some p → w.heap.size ≤ p.block) ∧ ((ok' = true ∧ r = some (xs, b')) ∨ (ok' = false ∧ r = none))
theorem Own.off {α : Type} {cs : α → List Value} {size e base : Nat} {w w' : World} {v : Value} {xs : List α} {a b : Nat} (h : Own cs size e w base v xs) (ho : Off a b w w') (ha : a < base) (hb : b < base) : Own cs size e w' base v xs := by
  refine ⟨h.1, ?_⟩
  rcases h.2 with h2 | ⟨g, cap, cur, rfl, hg, hh, r⟩
  · exact .inl h2
  · exact .inr ⟨g, cap, cur, rfl, hg, off_blk ho hh (by omega) (by omega), r⟩
theorem Own.far {α : Type} {cs : α → List Value} {size e base : Nat} {w : World} {A : Option Addr} {n c : Nat} {xs : List α} (h : Own cs size e w base (.slice A n c) xs) : ∀ p, A = some p → base ≤ p.block := by
  intro p hp
  subst hp
  exact (h.lt p.block rfl).1
theorem rd_one {α : Type} {cs : α → List Value} {size : Nat} {w : World} {b : Nat} {x : α} {L : Array Value} {T : TypeId} (hL : L = (cs x).toArray) (h : w.heap[b]? = some (.cells L T (0, 0))) : Rd cs size w (some ⟨b, 0, none⟩) 1 [x] := by
  subst hL
  refine ⟨rfl, by omega, fun _ => ⟨b, 0, rfl, fun i y hy j u hu => ?_⟩⟩
  cases i with
  | zero =>
    simp at hy
    subst hy
    rw [cell_of_row w b _ _ T (0, 0) h]
    simpa using hu
  | succ i => simp at hy
theorem valsUp_none {k n : Nat} {b : ByteArray} (h : valsUp k b = none) (hk : k ≤ n) : valsUp n b = none := by
  induction n with
  | zero => rw [show k = 0 by omega] at h; exact h
  | succ n ih =>
    by_cases h2 : k = n + 1
    · rw [← h2]; exact h
    · simp only [valsUp, ih (by omega)]; rfl
set_option maxRecDepth 100000 in
set_option maxHeartbeats 4000000 in
theorem row_r (br : Nat) (b : ByteArray) (ok : Bool) (w : World) (hw : RB br b ok w) (hz : b.size ≤ 100000) :
    Calls Try.prog 57 #[.pointer (some ⟨br, 0, none⟩)] w (LPost Vl.cs 4 br w (okD ok (rowD b))) := by
  have HW := Lib.hid hw
  have hlt := blk_lt hw
  clear hw
  go_enter Try.func57, Try.ntmps57
  go_wp2_with fail
  refine (num_any br b ok w HW.out hz).mono ?_
  rintro e w1 ⟨n, b1, ok1, rfl, hb1, ho1, hz1, hr⟩
  have HB := Lib.hid hb1
  have HO := Lib.hid ho1
  obtain ⟨k1, f1⟩ := blk_rules hb1
  clear hb1 ho1
  by_cases hgo : ok1 = true ∧ n ≤ 6
  · obtain ⟨rfl, hn⟩ := hgo
    have hr2 : okD ok (numD b) = some (n, b1) := by
      rcases hr with ⟨_, h⟩ | ⟨h, _⟩
      · exact h
      · cases h
    have N := Lib.hid (show okD ok (rowD b) = valsUp n b1 by
      obtain ⟨hok, h2⟩ := okD_some hr2
      subst hok
      show rowD b = _
      unfold rowD; rw [h2]; exact if_pos hn)
    clear hr hr2
    have hn2 : (n : Int) ≤ 6 := by omega
    have hB2 := Lib.hid (blk_set_eq (L' := #[.string b1, .bool true]) HB.out 1 (.bool true) rfl)
    have hO2 := Lib.hid (off_set (p := ⟨br, 1, none⟩) HO.out (.inl rfl) (.bool true))
    go_wp2
    go_loopw [3, 5] (fun l i wr => ∃ (xs : List Vl) (k : Nat) (A : Option Addr) (c : Nat) (bb : ByteArray) (okk : Bool), xs.length = k ∧ k ≤ n ∧ i = .int .i64 k ∧ l = .slice A k c ∧ Own Vl.cs 4 24 wr w.heap.size (.slice A k c) xs ∧ RB br bb okk wr ∧ Off br br w wr ∧ bb.size ≤ 100000 ∧
      ((okk = true ∧ valsUp k b1 = some (xs, bb)) ∨ (okk = false ∧ valsUp n b1 = none))) (fun _ i _ => n - (intOf i).toNat)
    case atStart => exact ⟨[], 0, none, 0, b1, true, rfl, Nat.zero_le _, rfl, rfl, own_nil' _ _ _, hB2.out, hO2.out, hz1, .inl ⟨rfl, rfl⟩⟩
    case round =>
      obtain ⟨xs, k, A, c, bb, okk, hxk, hxn, rfl, rfl, hown, hrb, hoff, hbz, hst⟩ := hrel
      have HR := Lib.hid hrb
      have HF := Lib.hid hoff
      have HOW := Lib.hid hown
      have HXK := Lib.hid hxk
      have hbr := blk_lt hrb
      obtain ⟨k2, f2⟩ := blk_rules hrb
      clear hrb hoff hown k1 f1 hB2 hO2 HB HO hxk
      rcases hst with ⟨rfl, hst⟩ | ⟨rfl, hst⟩
      · have HST := Lib.hid hst
        clear hst
        by_cases hl : k < n
        · have hl' : (k : Int) < n := by omega
          go_wp2_with fail
          refine (value_r br bb true wr HR.out hbz).mono ?_
          rintro e w2 ⟨v, b2, ok2, rfl, hb2, ho2, hz2, hr2⟩
          have HB2 := Lib.hid hb2
          have HO2 := Lib.hid (off_trans HF.out ho2)
          have HN2 := Lib.hid (HOW.out.off ho2 hlt hlt)
          have HR2 := Lib.hid hr2
          have hw2 : w.heap.size ≤ w2.heap.size := HO2.out.size
          clear hb2 ho2 k2 f2 hr2
          go_wp2_with (at_builtin; go_loud (refine wp_app (cs := Vl.cs) (size := 4) vl_len (by omega) vl_one rfl (.tmp 30) (.tmp 33) _ rfl w.heap.size 24 _ 40 Try.uVals Try.iVal rfl (.slice A k c) xs rfl (HN2.out.alloc_ _) (some ⟨w2.heap.size, 0, none⟩) 1 1 [v] rfl (rd_one rfl (blk_new w2 _)) (by rw [HXK.out]; omega) (by rw [HXK.out]; omega) (by simp; omega) ?_))
          intro A3 c3 w3 hown3 hg3 hat3
          rw [HXK.out] at hown3 ⊢
          have hfar : ∀ g, (Value.slice A k c).ownBlock = some g → w.heap.size ≤ g := fun g hg => (HN2.out.lt g hg).1
          have HB3 := Lib.hid (blk_grown (blk_old HB2.out _) hg3 (by intro h; have := hfar br h.symm; omega))
          have HO3 := Lib.hid (off_grown (off_alloc HO2.out _) hg3 hfar)
          have HN3 := Lib.hid hown3
          clear hown3 hg3 hat3 hfar
          go_wp2
          go_roundw
          case rel =>
            refine ⟨xs ++ [v], k + 1, A3, c3, b2, ok2, by rw [List.length_append, HXK.out]; rfl, by omega, by go_num, rfl, HN3.out, HB3.out, HO3.out, hz2, ?_⟩
            rcases HR2.out with ⟨rfl, h⟩ | ⟨rfl, h, _⟩
            · refine .inl ⟨rfl, ?_⟩
              simp only [valsUp, HST.out, Option.bind_some]
              rw [show valD bb = some (v, b2) from h]
              rfl
            · refine .inr ⟨rfl, valsUp_none (k := k + 1) ?_ (by omega)⟩
              simp only [valsUp, HST.out, Option.bind_some]
              rw [show valD bb = none from h]
              rfl
          case measure => simp [intOf]; omega
        · have hkn : k = n := by omega
          subst hkn
          go_wp2
          go_ret
          obtain rfl := HXK.out
          exact ⟨A, c, xs, bb, true, rfl, HR.out, HF.out, hbz, own_rd vl_len HOW.out, HOW.out.far, .inl ⟨rfl, by rw [N.out]; exact HST.out⟩⟩
      · have HST := Lib.hid hst
        clear hst
        by_cases hl : k < n
        · have hl' : (k : Int) < n := by omega
          go_wp2
          go_ret
          obtain rfl := HXK.out
          exact ⟨A, c, xs, bb, false, rfl, HR.out, HF.out, hbz, own_rd vl_len HOW.out, HOW.out.far, .inr ⟨rfl, by rw [N.out]; exact HST.out⟩⟩
        · have hkn : k = n := by omega
          subst hkn
          go_wp2
          go_ret
          obtain rfl := HXK.out
          exact ⟨A, c, xs, bb, false, rfl, HR.out, HF.out, hbz, own_rd vl_len HOW.out, HOW.out.far, .inr ⟨rfl, by rw [N.out]; exact HST.out⟩⟩
  · have N := Lib.hid (show okD ok (rowD b) = none by
      cases ok with
      | false => rfl
      | true =>
        show rowD b = none
        unfold rowD
        rcases hr with ⟨rfl, h⟩ | ⟨rfl, h, _⟩
        · rw [show numD b = some (n, b1) from h]
          exact if_neg (fun h2 => hgo ⟨rfl, h2⟩)
        · rw [show numD b = none from h]
          rfl)
    have hcs : (ok1 = true ∧ ¬ (n : Int) ≤ 6) ∨ (ok1 = false ∧ n = 0) := by
      rcases hr with ⟨rfl, h⟩ | ⟨rfl, h, hn0⟩
      · left; exact ⟨rfl, fun h2 => hgo ⟨rfl, by omega⟩⟩
      · right; exact ⟨rfl, hn0⟩
    clear hr hgo
    have hB2 := Lib.hid (fun u => blk_set_eq (L' := #[.string b1, .bool u]) HB.out 1 (.bool u) rfl)
    have hO2 := Lib.hid (fun u => off_set (p := ⟨br, 1, none⟩) HO.out (.inl rfl) (.bool u))
    rcases hcs with ⟨rfl, hn6⟩ | ⟨rfl, rfl⟩
    · have hd6 : decide ((n : Int) ≤ 6) = false := decide_eq_false hn6
      go_wp2
      go_loopw [3, 5] (fun l i wr => i = .int .i64 0 ∧ l = .slice none 0 0 ∧ RB br b1 false wr ∧ Off br br w wr) (fun _ i _ => n - (intOf i).toNat)
      case atStart => exact ⟨rfl, rfl, hB2.out false, hO2.out false⟩
      case round =>
        obtain ⟨rfl, rfl, hrb, hoff⟩ := hrel
        have HR := Lib.hid hrb
        have HF := Lib.hid hoff
        obtain ⟨k2, f2⟩ := blk_rules hrb
        have hl' : (0 : Int) < n := by omega
        clear hrb hoff k1 f1 hB2 hO2 HB HO
        go_wp2
        go_ret
        exact ⟨none, 0, [], b1, false, rfl, HR.out, HF.out, hz1, ⟨rfl, by simp, fun h => absurd h (by simp)⟩, fun p hp => (by cases hp), .inr ⟨rfl, N.out⟩⟩
    · go_wp2
      go_loopw [3, 5] (fun l i wr => i = .int .i64 0 ∧ l = .slice none 0 0 ∧ RB br b1 false wr ∧ Off br br w wr) (fun _ i _ => 1 - (intOf i).toNat)
      case atStart => exact ⟨rfl, rfl, hB2.out false, hO2.out false⟩
      case round =>
        obtain ⟨rfl, rfl, hrb, hoff⟩ := hrel
        have HR := Lib.hid hrb
        have HF := Lib.hid hoff
        obtain ⟨k2, f2⟩ := blk_rules hrb
        clear hrb hoff k1 f1 hB2 hO2 HB HO
        go_wp2
        go_ret
        exact ⟨none, 0, [], b1, false, rfl, HR.out, HF.out, hz1, ⟨rfl, by simp, fun h => absurd h (by simp)⟩, fun p hp => (by cases hp), .inr ⟨rfl, N.out⟩⟩
end Go.Proofs.Ytbmaeaknlpgdmaa
namespace Go.Proofs.Ytbmaeaknlpgdmaa
open Go.RowKit
set_option linter.unusedVariables false
set_option linter.unusedSimpArgs false
set_option linter.constructorNameAsVariable false
theorem col_chain {bb b1 b2 b3 b4 : ByteArray} {o1 o2 o3 o4 : Bool} {n : ByteArray} {k : Nat} {f : Bool} {v : Vl}
    (h1 : (o1 = true ∧ okD true (nameD bb) = some (n, b1)) ∨ (o1 = false ∧ okD true (nameD bb) = none ∧ n = ByteArray.empty))
    (h2 : (o2 = true ∧ okD o1 (numD b1) = some (k, b2)) ∨ (o2 = false ∧ okD o1 (numD b1) = none ∧ k = 0))
    (h3 : (o3 = true ∧ okD o2 (flagD b2) = some (f, b3)) ∨ (o3 = false ∧ okD o2 (flagD b2) = none ∧ True))
    (h4 : (o4 = true ∧ okD o3 (valD b3) = some (v, b4)) ∨ (o4 = false ∧ okD o3 (valD b3) = none ∧ True)) :
    (o4 = true ∧ colD bb = some (⟨n, k, f, v⟩, b4)) ∨ (o4 = false ∧ colD bb = none) := by
  rcases h1 with ⟨rfl, h1⟩ | ⟨rfl, h1, _⟩
  · have e1 : nameD bb = some (n, b1) := h1
    rcases h2 with ⟨rfl, h2⟩ | ⟨rfl, h2, _⟩
    · have e2 : numD b1 = some (k, b2) := h2
      rcases h3 with ⟨rfl, h3⟩ | ⟨rfl, h3, _⟩
      · have e3 : flagD b2 = some (f, b3) := h3
        rcases h4 with ⟨rfl, h4⟩ | ⟨rfl, h4, _⟩
        · have e4 : valD b3 = some (v, b4) := h4
          left; refine ⟨rfl, ?_⟩
          simp only [colD, e1, e2, e3, e4, Option.bind_some, Option.map_some]
        · have e4 : valD b3 = none := h4
          right; refine ⟨rfl, ?_⟩
          simp only [colD, e1, e2, e3, e4, Option.bind_some, Option.map_none]
      · have e3 : flagD b2 = none := h3
        rcases h4 with ⟨rfl, h4⟩ | ⟨rfl, h4, _⟩
        · cases h4
        · right; refine ⟨rfl, ?_⟩
          simp only [colD, e1, e2, e3, Option.bind_some, Option.bind_none]
    · have e2 : numD b1 = none := h2
      rcases h3 with ⟨rfl, h3⟩ | ⟨rfl, h3, _⟩
      · cases h3
      · rcases h4 with ⟨rfl, h4⟩ | ⟨rfl, h4, _⟩
        · cases h4
        · right; refine ⟨rfl, ?_⟩
          simp only [colD, e1, e2, Option.bind_some, Option.bind_none]
  · have e1 : nameD bb = none := h1
    rcases h2 with ⟨rfl, h2⟩ | ⟨rfl, h2, _⟩
    · cases h2
    · rcases h3 with ⟨rfl, h3⟩ | ⟨rfl, h3, _⟩
      · cases h3
      · rcases h4 with ⟨rfl, h4⟩ | ⟨rfl, h4, _⟩
        · cases h4
        · right; refine ⟨rfl, ?_⟩
          simp only [colD, e1, Option.bind_none]
theorem colsUp_none {k n : Nat} {b : ByteArray} (h : colsUp k b = none) (hk : k ≤ n) : colsUp n b = none := by
  induction n with
  | zero => rw [show k = 0 by omega] at h; exact h
  | succ n ih =>
    by_cases h2 : k = n + 1
    · rw [← h2]; exact h
    · simp only [colsUp, ih (by omega)]; rfl
set_option maxRecDepth 100000 in
set_option maxHeartbeats 4000000 in
theorem columns_r (br : Nat) (b : ByteArray) (ok : Bool) (w : World) (hw : RB br b ok w) (hz : b.size ≤ 100000) :
    Calls Try.prog 59 #[.pointer (some ⟨br, 0, none⟩)] w (LPost Cl.cs 7 br w (okD ok (colsD b))) := by
  have HW := Lib.hid hw
  have hlt := blk_lt hw
  clear hw
  go_enter Try.func59, Try.ntmps59
  go_wp2_with fail
  refine (num_any br b ok w HW.out hz).mono ?_
  rintro e w1 ⟨n, b1, ok1, rfl, hb1, ho1, hz1, hr⟩
  have HB := Lib.hid hb1
  have HO := Lib.hid ho1
  obtain ⟨k1, f1⟩ := blk_rules hb1
  clear hb1 ho1
  by_cases hgo : ok1 = true ∧ n ≤ 6
  · obtain ⟨rfl, hn⟩ := hgo
    have hr2 : okD ok (numD b) = some (n, b1) := by
      rcases hr with ⟨_, h⟩ | ⟨h, _⟩
      · exact h
      · cases h
    have N := Lib.hid (show okD ok (colsD b) = colsUp n b1 by
      obtain ⟨hok, h2⟩ := okD_some hr2
      subst hok
      show colsD b = _
      unfold colsD; rw [h2]; exact if_pos hn)
    clear hr hr2
    have hn2 : (n : Int) ≤ 6 := by omega
    have hB2 := Lib.hid (blk_set_eq (L' := #[.string b1, .bool true]) HB.out 1 (.bool true) rfl)
    have hO2 := Lib.hid (off_set (p := ⟨br, 1, none⟩) HO.out (.inl rfl) (.bool true))
    go_wp2
    go_loopw [3, 5] (fun l i wr => ∃ (xs : List Cl) (k : Nat) (A : Option Addr) (c : Nat) (bb : ByteArray) (okk : Bool), xs.length = k ∧ k ≤ n ∧ i = .int .i64 k ∧ l = .slice A k c ∧ Own Cl.cs 7 80 wr w.heap.size (.slice A k c) xs ∧ RB br bb okk wr ∧ Off br br w wr ∧ bb.size ≤ 100000 ∧
      ((okk = true ∧ colsUp k b1 = some (xs, bb)) ∨ (okk = false ∧ colsUp n b1 = none))) (fun _ i _ => n - (intOf i).toNat)
    case atStart => exact ⟨[], 0, none, 0, b1, true, rfl, Nat.zero_le _, rfl, rfl, own_nil' _ _ _, hB2.out, hO2.out, hz1, .inl ⟨rfl, rfl⟩⟩
    case round =>
      obtain ⟨xs, k, A, c, bb, okk, hxk, hxn, rfl, rfl, hown, hrb, hoff, hbz, hst⟩ := hrel
      have HR := Lib.hid hrb
      have HF := Lib.hid hoff
      have HOW := Lib.hid hown
      have HXK := Lib.hid hxk
      have hbr := blk_lt hrb
      obtain ⟨k2, f2⟩ := blk_rules hrb
      clear hrb hoff hown k1 f1 hB2 hO2 HB HO hxk
      rcases hst with ⟨rfl, hst⟩ | ⟨rfl, hst⟩
      · have HST := Lib.hid hst
        clear hst
        by_cases hl : k < n
        · have hl' : (k : Int) < n := by omega
          go_wp2_with fail
          refine (name_r br bb true wr HR.out hbz).mono ?_
          rintro e x1 ⟨cn, d1, p1, rfl, hd1, hq1, hy1, hs1⟩
          have HD1 := Lib.hid hd1
          have HQ1 := Lib.hid hq1
          have HS1 := Lib.hid hs1
          clear hd1 hq1 hs1 k2 f2
          go_wp2_with fail
          refine (num_any br d1 p1 x1 HD1.out hy1).mono ?_
          rintro e x2 ⟨cc, d2, p2, rfl, hd2, hq2, hy2, hs2⟩
          have HD2 := Lib.hid hd2
          have HQ2 := Lib.hid (off_trans HQ1.out hq2)
          have HS2 := Lib.hid hs2
          clear hd2 hq2 hs2
          go_wp2_with fail
          refine (flag_r br d2 p2 x2 HD2.out hy2).mono ?_
          rintro e x3 ⟨cf, d3, p3, rfl, hd3, hq3, hy3, hs3⟩
          have HD3 := Lib.hid hd3
          have HQ3 := Lib.hid (off_trans HQ2.out hq3)
          have HS3 := Lib.hid hs3
          clear hd3 hq3 hs3
          go_wp2_with fail
          refine (value_r br d3 p3 x3 HD3.out hy3).mono ?_
          rintro e w2 ⟨cv, b2, ok2, rfl, hb2, ho2, hz2, hr2⟩
          have HB2 := Lib.hid hb2
          have HR2 := Lib.hid (col_chain HS1.out HS2.out HS3.out hr2)
          have HQ4 := Lib.hid (off_trans HQ3.out ho2)
          have HO2 := Lib.hid (off_trans HF.out HQ4.out)
          have HN2 := Lib.hid (HOW.out.off HQ4.out hlt hlt)
          have hw2 : w.heap.size ≤ w2.heap.size := HO2.out.size
          clear hb2 ho2 hr2
          go_wp2_with (at_builtin; go_loud (refine wp_app (cs := Cl.cs) (size := 7) cl_len (by omega) cl_one rfl (.tmp 30) (.tmp 40) _ rfl w.heap.size 80 _ 72 Try.uCols Try.iCol rfl (.slice A k c) xs rfl (HN2.out.alloc_ _) (some ⟨w2.heap.size, 0, none⟩) 1 1 [(⟨cn, cc, cf, cv⟩ : Cl)] rfl (rd_one rfl (blk_new w2 _)) (by rw [HXK.out]; omega) (by rw [HXK.out]; omega) (by simp; omega) ?_))
          intro A3 c3 w3 hown3 hg3 hat3
          rw [HXK.out] at hown3 ⊢
          have hfar : ∀ g, (Value.slice A k c).ownBlock = some g → w.heap.size ≤ g := fun g hg => (HN2.out.lt g hg).1
          have HB3 := Lib.hid (blk_grown (blk_old HB2.out _) hg3 (by intro h; have := hfar br h.symm; omega))
          have HO3 := Lib.hid (off_grown (off_alloc HO2.out _) hg3 hfar)
          have HN3 := Lib.hid hown3
          clear hown3 hg3 hat3 hfar
          go_wp2
          go_roundw
          case rel =>
            refine ⟨xs ++ [(⟨cn, cc, cf, cv⟩ : Cl)], k + 1, A3, c3, b2, ok2, by rw [List.length_append, HXK.out]; rfl, by omega, by go_num, rfl, HN3.out, HB3.out, HO3.out, hz2, ?_⟩
            rcases HR2.out with ⟨rfl, h⟩ | ⟨rfl, h⟩
            · refine .inl ⟨rfl, ?_⟩
              simp only [colsUp, HST.out, Option.bind_some]
              rw [h]
              rfl
            · refine .inr ⟨rfl, colsUp_none (k := k + 1) ?_ (by omega)⟩
              simp only [colsUp, HST.out, Option.bind_some]
              rw [h]
              rfl
          case measure => simp [intOf]; omega
        · have hkn : k = n := by omega
          subst hkn
          go_wp2
          go_ret
          obtain rfl := HXK.out
          exact ⟨A, c, xs, bb, true, rfl, HR.out, HF.out, hbz, own_rd cl_len HOW.out, HOW.out.far, .inl ⟨rfl, by rw [N.out]; exact HST.out⟩⟩
      · have HST := Lib.hid hst
        clear hst
        by_cases hl : k < n
        · have hl' : (k : Int) < n := by omega
          go_wp2
          go_ret
          obtain rfl := HXK.out
          exact ⟨A, c, xs, bb, false, rfl, HR.out, HF.out, hbz, own_rd cl_len HOW.out, HOW.out.far, .inr ⟨rfl, by rw [N.out]; exact HST.out⟩⟩
        · have hkn : k = n := by omega
          subst hkn
          go_wp2
          go_ret
          obtain rfl := HXK.out
          exact ⟨A, c, xs, bb, false, rfl, HR.out, HF.out, hbz, own_rd cl_len HOW.out, HOW.out.far, .inr ⟨rfl, by rw [N.out]; exact HST.out⟩⟩
  · have N := Lib.hid (show okD ok (colsD b) = none by
      cases ok with
      | false => rfl
      | true =>
        show colsD b = none
        unfold colsD
        rcases hr with ⟨rfl, h⟩ | ⟨rfl, h, _⟩
        · rw [show numD b = some (n, b1) from h]
          exact if_neg (fun h2 => hgo ⟨rfl, h2⟩)
        · rw [show numD b = none from h]
          rfl)
    have hcs : (ok1 = true ∧ ¬ (n : Int) ≤ 6) ∨ (ok1 = false ∧ n = 0) := by
      rcases hr with ⟨rfl, h⟩ | ⟨rfl, h, hn0⟩
      · left; exact ⟨rfl, fun h2 => hgo ⟨rfl, by omega⟩⟩
      · right; exact ⟨rfl, hn0⟩
    clear hr hgo
    have hB2 := Lib.hid (fun u => blk_set_eq (L' := #[.string b1, .bool u]) HB.out 1 (.bool u) rfl)
    have hO2 := Lib.hid (fun u => off_set (p := ⟨br, 1, none⟩) HO.out (.inl rfl) (.bool u))
    rcases hcs with ⟨rfl, hn6⟩ | ⟨rfl, rfl⟩
    · have hd6 : decide ((n : Int) ≤ 6) = false := decide_eq_false hn6
      go_wp2
      go_loopw [3, 5] (fun l i wr => i = .int .i64 0 ∧ l = .slice none 0 0 ∧ RB br b1 false wr ∧ Off br br w wr) (fun _ i _ => n - (intOf i).toNat)
      case atStart => exact ⟨rfl, rfl, hB2.out false, hO2.out false⟩
      case round =>
        obtain ⟨rfl, rfl, hrb, hoff⟩ := hrel
        have HR := Lib.hid hrb
        have HF := Lib.hid hoff
        obtain ⟨k2, f2⟩ := blk_rules hrb
        have hl' : (0 : Int) < n := by omega
        clear hrb hoff k1 f1 hB2 hO2 HB HO
        go_wp2
        go_ret
        exact ⟨none, 0, [], b1, false, rfl, HR.out, HF.out, hz1, ⟨rfl, by simp, fun h => absurd h (by simp)⟩, fun p hp => (by cases hp), .inr ⟨rfl, N.out⟩⟩
    · go_wp2
      go_loopw [3, 5] (fun l i wr => i = .int .i64 0 ∧ l = .slice none 0 0 ∧ RB br b1 false wr ∧ Off br br w wr) (fun _ i _ => 1 - (intOf i).toNat)
      case atStart => exact ⟨rfl, rfl, hB2.out false, hO2.out false⟩
      case round =>
        obtain ⟨rfl, rfl, hrb, hoff⟩ := hrel
        have HR := Lib.hid hrb
        have HF := Lib.hid hoff
        obtain ⟨k2, f2⟩ := blk_rules hrb
        clear hrb hoff k1 f1 hB2 hO2 HB HO
        go_wp2
        go_ret
        exact ⟨none, 0, [], b1, false, rfl, HR.out, HF.out, hz1, ⟨rfl, by simp, fun h => absurd h (by simp)⟩, fun p hp => (by cases hp), .inr ⟨rfl, N.out⟩⟩
end Go.Proofs.Ytbmaeaknlpgdmaa
