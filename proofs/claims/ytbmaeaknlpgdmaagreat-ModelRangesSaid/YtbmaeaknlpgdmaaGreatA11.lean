/- Replies: of an error, of rows. Rows that columns take: Takes, Pad, Fill. Rows that columns take: Pad, Fill. Fill: a row that columns take. -/
import Derived.Test.YtbmaeaknlpgdmaaGreatA10
namespace Go.Proofs.YtbmaeaknlpgdmaaGreat
open Go.RowKit Go.Sort
set_option linter.unusedVariables false
set_option linter.unusedSimpArgs false
theorem arr3 {L : Array Value} (h : L.size = 3) : ∃ a b c, L = #[a, b, c] := by
  obtain ⟨l⟩ := L
  match l, h with
  | [a, b, c], _ => exact ⟨a, b, c, rfl⟩
theorem blk_set3 {w : World} {b : Nat} {L : Array Value} {T : TypeId} (hs : L.size = 3) (h : w.heap[b]? = some (.cells L T (0, 0))) (u0 u1 u2 : Value) :
    (((w.setCell ⟨b, 0, none⟩ u0).setCell ⟨b, 1, none⟩ u1).setCell ⟨b, 2, none⟩ u2).heap[b]? = some (.cells #[u0, u1, u2] T (0, 0)) := by
  obtain ⟨c0, c1, c2, rfl⟩ := arr3 hs
  exact blk_set_eq (blk_set_eq (blk_set_eq h 0 u0 rfl) 1 u1 rfl) 2 u2 rfl
theorem blk_far3 {w : World} {b c : Nat} {x : Obj} (h : w.heap[b]? = some x) (hne : b ≠ c) (u0 u1 u2 : Value) :
    (((w.setCell ⟨c, 0, none⟩ u0).setCell ⟨c, 1, none⟩ u1).setCell ⟨c, 2, none⟩ u2).heap[b]? = some x :=
  blk_far (p := ⟨c, 2, none⟩) (blk_far (p := ⟨c, 1, none⟩) (blk_far (p := ⟨c, 0, none⟩) h hne u0) hne u1) hne u2
theorem rowsD_sl {D : Nat → Prop} {w : World} {V : Value} {rs : List (List Vl)} (h : RowsD D w V rs) : ∃ A n c, V = .slice A n c ∧ n = rs.length := by
  obtain ⟨vs, h1, h2, _⟩ := h
  obtain ⟨A, c, e, _⟩ := h1.rd sl_len
  exact ⟨A, _, c, e, h2⟩
/-- A reply as a Go value. -/
abbrev replyV (code n : Int) (V : Value) : Value := .agg #[.int .i64 code, .int .i64 n, V]
set_option maxRecDepth 100000 in
set_option maxHeartbeats 1000000 in
theorem code_any (k : Int) (w : World) : Pure Tryz.prog 37 #[.int .i64 k] w (replyV k 0 (.slice none 0 0)) := by
  go_enter Tryz.func37, Tryz.ntmps37
  go_wp2
  exact bodyPost_ret (results_blk (T := 29) (b := w.heap.size) rfl (fun _ => by kernel_rfl) (fun _ => by kernel_rfl) _ rfl (blk_new w _)) rfl ⟨rfl, by (repeat (first | assumption | exact Below.refl _ _ | refine bl_drewN ?_ _ | refine bl_drew ?_ | refine bl_alloc ?_ _ | refine bl_step ?_ (by assumption)))⟩
def ReplyPost (code n : Int) (rs : List (List Vl)) (w : World) (e : Ending) (w' : World) : Prop := ∃ V rs', e = .returned (replyV code n V) ∧ RowsD (fun b => w.heap.size ≤ b) w' V rs' ∧ Ordered rs rs' ∧ Below w.heap.size w w'
set_option maxRecDepth 100000 in
set_option maxHeartbeats 4000000 in
theorem told_any (D : Nat → Prop) (V : Value) (rs : List (List Vl)) (w : World) (hv : RowsD D w V rs) (hn : rs.length ≤ 1000) (hl : ∀ r ∈ rs, r.length ≤ 1000) (hs : StabOK rs.length) :
    Calls Tryz.prog 94 #[V] w (ReplyPost 0 rs.length rs w) := by
  have HV := Lib.hid hv
  have HL := Lib.hid hl
  have HS := Lib.hid hs
  obtain ⟨A, n, c, rfl, hv2⟩ := rowsD_sl hv
  have HN := Lib.hid hv2
  clear hv hv2 hl hs
  go_enter Tryz.func94, Tryz.ntmps94
  go_wp2_with fail
  refine (vrows_any D _ rs _ (HV.out.keep (bl_alloc (Below.refl _ _) _)) hn HL.out HS.out).mono ?_
  rintro e w1 ⟨V1, rs1, rfl, hr1, ho1, hb1⟩
  have H1 := Lib.hid hr1
  obtain ⟨A1, n1, c1, rfl, hn1⟩ := rowsD_sl hr1
  have HO := Lib.hid ho1
  have B1 := Lib.hid (blk_below (blk_new w _) hb1)
  have HB := Lib.hid (bl_step (bl_alloc (Below.refl w.heap.size w) _) hb1)
  obtain ⟨k1, f1⟩ := blk_rules B1.out
  have hz1 := blk_lt B1.out
  clear hr1 ho1 hb1 hn1
  go_wp2
  refine bodyPost_ret (results_blk (T := 29) (b := w.heap.size) rfl (fun _ => by kernel_rfl) (fun _ => by kernel_rfl) _ rfl (blk_set3 rfl B1.out _ _ _)) rfl ⟨_, rs1, by rw [HN.out], ?_, HO.out, bl_set (bl_set (bl_set HB.out (Nat.le_refl _) _) (Nat.le_refl _) _) (Nat.le_refl _) _⟩
  refine (H1.out.fr (fun b hb => ?_)).mono (fun b _ hb => ?_)
  · have hne : b ≠ w.heap.size := by simp at hb; omega
    rw [Below.heap_setCell _ _ _ _ hne, Below.heap_setCell _ _ _ _ hne, Below.heap_setCell _ _ _ _ hne]
  · simp at hb; omega
end Go.Proofs.YtbmaeaknlpgdmaaGreat
namespace Go.Proofs.YtbmaeaknlpgdmaaGreat
open Go.RowKit Go.Sort
set_option linter.unusedVariables false
set_option linter.unusedSimpArgs false
/-- Does a column take a value? An error's number; 0: it does. -/
def takesE (c : Cl) (v : Vl) : Int := if goodV v = false then 11 else if (v.k == 0 && c.nn) = true then 21 else if ((v.k != 0) && (v.k != c.kind)) = true then 20 else 0
/-- What stands at a place of a row: what was given, or the column's own value. -/
def padAt (l : List Cl) (r : List Vl) (i : Nat) : Vl := match r[i]? with | some v => v | none => (match l[i]? with | some c => c.d | none => ⟨0, 0, 0, ⟨#[]⟩⟩)
/-- A row with as many values as there are columns. -/
def padL (l : List Cl) (r : List Vl) : List Vl := (List.range l.length).map (padAt l r)
theorem padL_len (l : List Cl) (r : List Vl) : (padL l r).length = l.length := by simp [padL]
theorem padL_at (l : List Cl) (r : List Vl) {i : Nat} (h : i < l.length) : (padL l r)[i]? = some (padAt l r i) := by
  unfold padL; rw [List.getElem?_map, List.getElem?_range h]; rfl
theorem padAt_yes {l : List Cl} {r : List Vl} {i : Nat} {v : Vl} (h : r[i]? = some v) : padAt l r i = v := by unfold padAt; rw [h]
theorem padAt_no {l : List Cl} {r : List Vl} {i : Nat} {c : Cl} (h : r.length ≤ i) (hc : l[i]? = some c) : padAt l r i = c.d := by unfold padAt; rw [List.getElem?_eq_none h, hc]
/-- The first column that does not take its value. -/
def takesL : List Cl → List Vl → Int
  | c :: l, v :: r => if takesE c v = 0 then takesL l r else takesE c v
  | _, _ => 0
/-- A row that columns take, or an error's number. -/
def fillE (l : List Cl) (r : List Vl) : Int := if l.length < r.length then 22 else takesL l (padL l r)
set_option maxRecDepth 100000 in
set_option maxHeartbeats 4000000 in
theorem takes_any (c : Cl) (v : Vl) (w : World) : Pure Tryz.prog 98 #[c.agg, v.agg] w (.int .i64 (takesE c v)) := by
  cases hg : goodV v with
  | false =>
    have H := Lib.hid (show takesE c v = 11 from if_pos hg)
    have HG := Lib.hid hg
    clear hg
    go_enter Tryz.func98, Tryz.ntmps98
    go_wp2_with fail
    refine (good_any v _).mono ?_
    rintro e w1 ⟨rfl, hb⟩
    rw [HG.out]
    go_wp2
    go_ret
    exact ⟨by rw [H.out]; rfl, by (repeat (first | assumption | exact Below.refl _ _ | refine bl_drewN ?_ _ | refine bl_drew ?_ | refine bl_alloc ?_ _ | refine bl_step ?_ (by assumption)))⟩
  | true =>
    have HG := Lib.hid hg
    clear hg
    by_cases h0 : v.k = 0
    · cases hn : c.nn with
      | true =>
        have H := Lib.hid (show takesE c v = 21 by unfold takesE; rw [if_neg (by rw [HG.out]; simp), if_pos (by simp [h0, hn])])
        have h0' : (v.k == 0) = true := by simpa using h0
        clear h0
        go_enter Tryz.func98, Tryz.ntmps98
        go_wp2_with fail
        refine (good_any v _).mono ?_
        rintro e w1 ⟨rfl, hb⟩
        rw [HG.out]
        obtain ⟨k1, f1⟩ := blk_rules (blk_below (blk_old (blk_new w _) _) hb)
        obtain ⟨k2, f2⟩ := blk_rules (blk_below (blk_new (w.alloc _) _) hb)
        rw [szal] at k2 f2
        go_wp2
        go_ret
        exact ⟨by rw [H.out]; rfl, by (repeat (first | assumption | exact Below.refl _ _ | refine bl_drewN ?_ _ | refine bl_drew ?_ | refine bl_alloc ?_ _ | refine bl_step ?_ (by assumption)))⟩
      | false =>
        have H := Lib.hid (show takesE c v = 0 by unfold takesE; rw [if_neg (by rw [HG.out]; simp), if_neg (by simp [hn]), if_neg (by simp [h0])])
        have h0' : (v.k == 0) = true := by simpa using h0
        have h1' : (v.k != 0) = false := by simpa using h0
        clear h0
        go_enter Tryz.func98, Tryz.ntmps98
        go_wp2_with fail
        refine (good_any v _).mono ?_
        rintro e w1 ⟨rfl, hb⟩
        rw [HG.out]
        obtain ⟨k1, f1⟩ := blk_rules (blk_below (blk_old (blk_new w _) _) hb)
        obtain ⟨k2, f2⟩ := blk_rules (blk_below (blk_new (w.alloc _) _) hb)
        rw [szal] at k2 f2
        go_wp2
        go_ret
        exact ⟨by rw [H.out]; rfl, by (repeat (first | assumption | exact Below.refl _ _ | refine bl_drewN ?_ _ | refine bl_drew ?_ | refine bl_alloc ?_ _ | refine bl_step ?_ (by assumption)))⟩
    · have h0' : (v.k == 0) = false := by simpa using h0
      have h1' : (v.k != 0) = true := by simpa using h0
      cases hk : (v.k != c.kind) with
      | true =>
        have H := Lib.hid (show takesE c v = 20 by unfold takesE; rw [if_neg (by rw [HG.out]; simp), if_neg (by simp [h0]), if_pos (by rw [h1', hk]; rfl)])
        clear h0
        go_enter Tryz.func98, Tryz.ntmps98
        go_wp2_with fail
        refine (good_any v _).mono ?_
        rintro e w1 ⟨rfl, hb⟩
        rw [HG.out]
        obtain ⟨k1, f1⟩ := blk_rules (blk_below (blk_old (blk_new w _) _) hb)
        obtain ⟨k2, f2⟩ := blk_rules (blk_below (blk_new (w.alloc _) _) hb)
        rw [szal] at k2 f2
        go_wp2
        go_ret
        exact ⟨by rw [H.out]; rfl, by (repeat (first | assumption | exact Below.refl _ _ | refine bl_drewN ?_ _ | refine bl_drew ?_ | refine bl_alloc ?_ _ | refine bl_step ?_ (by assumption)))⟩
      | false =>
        have H := Lib.hid (show takesE c v = 0 by unfold takesE; rw [if_neg (by rw [HG.out]; simp), if_neg (by simp [h0]), if_neg (by rw [hk]; simp)])
        clear h0
        go_enter Tryz.func98, Tryz.ntmps98
        go_wp2_with fail
        refine (good_any v _).mono ?_
        rintro e w1 ⟨rfl, hb⟩
        rw [HG.out]
        obtain ⟨k1, f1⟩ := blk_rules (blk_below (blk_old (blk_new w _) _) hb)
        obtain ⟨k2, f2⟩ := blk_rules (blk_below (blk_new (w.alloc _) _) hb)
        rw [szal] at k2 f2
        go_wp2
        go_ret
        exact ⟨by rw [H.out]; rfl, by (repeat (first | assumption | exact Below.refl _ _ | refine bl_drewN ?_ _ | refine bl_drew ?_ | refine bl_alloc ?_ _ | refine bl_step ?_ (by assumption)))⟩
end Go.Proofs.YtbmaeaknlpgdmaaGreat
namespace Go.Proofs.YtbmaeaknlpgdmaaGreat
open Go.RowKit Go.Sort
set_option linter.unusedVariables false
set_option linter.unusedSimpArgs false
set_option maxRecDepth 100000 in
set_option maxHeartbeats 4000000 in
theorem pad_any (A B : Option Addr) (n m c d : Nat) (xs : List Cl) (ys : List Vl) (w : World) (hx : RdC w A n xs) (hy : RdV w B m ys) (hn : n ≤ 1000) :
    Calls Tryz.prog 100 #[.slice A n c, .slice B m d] w (ClonePost Vl.cs 4 33 n (padL xs ys) w) := by
  have hym := hy.2.1
  have HX := Lib.hid hx
  have HY := Lib.hid hy
  have HL := Lib.hid (show (padL xs ys).length = n by rw [padL_len]; exact hx.1)
  clear hx hy
  go_enter Tryz.func100, Tryz.ntmps100
  go_wp2
  go_loopw [5, 11] (fun out i wr => ∃ (k : Nat) (A' : Option Addr) (c' : Nat), k ≤ n ∧ i = .int .i64 k ∧ out = .slice A' k c' ∧ Own Vl.cs 4 33 wr w.heap.size (.slice A' k c') ((padL xs ys).take k) ∧ Below w.heap.size w wr) (fun _ i _ => n - (intOf i).toNat)
  case atStart => exact ⟨0, none, 0, Nat.zero_le _, rfl, rfl, by rw [List.take_zero]; exact own_nil' _ _ _, Below.refl _ _⟩
  case round =>
    obtain ⟨k, A', c', hk, rfl, rfl, hown, hb⟩ := hrel
    obtain ⟨zs, hz⟩ : ∃ zs, (padL xs ys).take k = zs := ⟨_, rfl⟩
    have HT := Lib.hid (show zs.length = k by rw [← hz, List.length_take, HL.out]; omega)
    rw [hz] at hown
    have HZ := Lib.hid hz
    have HO := Lib.hid hown
    clear hown hz
    by_cases hlt : k < n
    · obtain ⟨b1, o1, x, hA, hxk, x0, x1, x2, x3, x4, x5, x6, hb1⟩ := HX.out.get_ hb hlt
      subst hA
      have HP := Lib.hid (padL_at xs ys (i := k) (by rw [HX.out.1]; exact hlt))
      have Hxk := Lib.hid hxk
      clear hxk
      have hwr := hb.size
      by_cases hkm : k < m
      · obtain ⟨b2, o2, y, hB, hyk, y0, y1, y2, y3, hb2⟩ := HY.out.get_ hb hkm
        subst hB
        have HPY := Lib.hid (padAt_yes (l := xs) hyk)
        have q0 := pw_cell (bl_alloc (bl_alloc (Below.refl _ wr) (.cells #[.string x.name, .int .i64 x.kind, .bool x.nn, .int .i64 x.d.k, .int .i64 x.d.n, .float .f64 x.d.f, .string x.d.s] 85)) (.cells #[.int .i64 x.d.k, .int .i64 x.d.n, .float .f64 x.d.f, .string x.d.s] 33)) y0
        have q1 := pw_cell (bl_alloc (bl_alloc (Below.refl _ wr) (.cells #[.string x.name, .int .i64 x.kind, .bool x.nn, .int .i64 x.d.k, .int .i64 x.d.n, .float .f64 x.d.f, .string x.d.s] 85)) (.cells #[.int .i64 x.d.k, .int .i64 x.d.n, .float .f64 x.d.f, .string x.d.s] 33)) y1
        have q2 := pw_cell (bl_alloc (bl_alloc (Below.refl _ wr) (.cells #[.string x.name, .int .i64 x.kind, .bool x.nn, .int .i64 x.d.k, .int .i64 x.d.n, .float .f64 x.d.f, .string x.d.s] 85)) (.cells #[.int .i64 x.d.k, .int .i64 x.d.n, .float .f64 x.d.f, .string x.d.s] 33)) y2
        have q3 := pw_cell (bl_alloc (bl_alloc (Below.refl _ wr) (.cells #[.string x.name, .int .i64 x.kind, .bool x.nn, .int .i64 x.d.k, .int .i64 x.d.n, .float .f64 x.d.f, .string x.d.s] 85)) (.cells #[.int .i64 x.d.k, .int .i64 x.d.n, .float .f64 x.d.f, .string x.d.s] 33)) y3
        clear hyk
        go_wp2_with (at_builtin; go_loud (refine wp_app (cs := Vl.cs) (size := 4) vl_len (by omega) vl_one rfl (.tmp 26) (.tmp 28) _ rfl w.heap.size 33 _ 40 Tryz.uVals Tryz.iVal rfl (.slice A' k c') zs rfl (((HO.out.alloc_ _).alloc_ _).alloc_ _) (some ⟨wr.heap.size + 2, 0, none⟩) 1 1 [y] rfl (rd_one rfl (by have hh := blk_new ((wr.alloc (.cells #[.string x.name, .int .i64 x.kind, .bool x.nn, .int .i64 x.d.k, .int .i64 x.d.n, .float .f64 x.d.f, .string x.d.s] 85)).alloc (.cells #[.int .i64 y.k, .int .i64 y.n, .float .f64 y.f, .string y.s] 33)) (.cells #[.int .i64 y.k, .int .i64 y.n, .float .f64 y.f, .string y.s] 33); rw [szal, szal] at hh; exact hh)) (by rw [HT.out]; omega) (by rw [HT.out]; omega) (by simp; omega) ?_))
        intro A2 c2 w2 hown2 hg2 hat2
        rw [HT.out] at hown2 ⊢
        have hb3 : Below w.heap.size w w2 := below_own (bl_alloc (bl_alloc (bl_alloc hb _) _) _) hg2 (fun g hg => (HO.out.lt g hg).1)
        have HO2 := Lib.hid (show Own Vl.cs 4 33 w2 w.heap.size (.slice A2 (k + 1) c2) ((padL xs ys).take (k + 1)) by rw [take_snoc' HP.out, HPY.out, HZ.out]; exact hown2)
        clear hown2 hg2 hat2 q0 q1 q2 q3 y0 y1 y2 y3 x0 x1 x2 x3 x4 x5 x6
        go_wp2
        go_roundw
        case rel => exact ⟨k + 1, A2, c2, by omega, by go_num, rfl, HO2.out, hb3⟩
        case measure => simp [intOf]; omega
      · have HPX := Lib.hid (padAt_no (l := xs) (r := ys) (show ys.length ≤ k by rw [HY.out.1]; omega) Hxk.out)
        go_wp2_with (at_builtin; go_loud (refine wp_app (cs := Vl.cs) (size := 4) vl_len (by omega) vl_one rfl (.tmp 26) (.tmp 28) _ rfl w.heap.size 33 _ 40 Tryz.uVals Tryz.iVal rfl (.slice A' k c') zs rfl (((HO.out.alloc_ _).alloc_ _).alloc_ _) (some ⟨wr.heap.size + 2, 0, none⟩) 1 1 [x.d] rfl (rd_one rfl (by have hh := blk_new ((wr.alloc (.cells #[.string x.name, .int .i64 x.kind, .bool x.nn, .int .i64 x.d.k, .int .i64 x.d.n, .float .f64 x.d.f, .string x.d.s] 85)).alloc (.cells #[.int .i64 x.d.k, .int .i64 x.d.n, .float .f64 x.d.f, .string x.d.s] 33)) (.cells #[.int .i64 x.d.k, .int .i64 x.d.n, .float .f64 x.d.f, .string x.d.s] 33); rw [szal, szal] at hh; exact hh)) (by rw [HT.out]; omega) (by rw [HT.out]; omega) (by simp; omega) ?_))
        intro A2 c2 w2 hown2 hg2 hat2
        rw [HT.out] at hown2 ⊢
        have hb3 : Below w.heap.size w w2 := below_own (bl_alloc (bl_alloc (bl_alloc hb _) _) _) hg2 (fun g hg => (HO.out.lt g hg).1)
        have HO2 := Lib.hid (show Own Vl.cs 4 33 w2 w.heap.size (.slice A2 (k + 1) c2) ((padL xs ys).take (k + 1)) by rw [take_snoc' HP.out, HPX.out, HZ.out]; exact hown2)
        clear hown2 hg2 hat2 x0 x1 x2 x3 x4 x5 x6
        go_wp2
        go_roundw
        case rel => exact ⟨k + 1, A2, c2, by omega, by go_num, rfl, HO2.out, hb3⟩
        case measure => simp [intOf]; omega
    · obtain rfl : k = n := by omega
      go_wp2
      go_ret
      exact ⟨A', c', rfl, by have h := HO.out; rw [← HZ.out, List.take_of_length_le (by rw [HL.out]; exact Nat.le_refl _)] at h; exact h, hb⟩
end Go.Proofs.YtbmaeaknlpgdmaaGreat
namespace Go.Proofs.YtbmaeaknlpgdmaaGreat
open Go.RowKit Go.Sort
set_option linter.unusedVariables false
set_option linter.unusedSimpArgs false
def FillPost (l : List Cl) (r : List Vl) (w : World) (e : Ending) (w' : World) : Prop :=
  ∃ A n c, e = .returned (.tuple #[.slice A n c, .int .i64 (fillE l r)]) ∧ Below w.heap.size w w' ∧ ((fillE l r = 0 ∧ n = l.length ∧ Own Vl.cs 4 33 w' w.heap.size (.slice A n c) (padL l r)) ∨ fillE l r ≠ 0)
theorem takesL_at {l : List Cl} {r : List Vl} {k : Nat} {c : Cl} {v : Vl} (hc : l[k]? = some c) (hv : r[k]? = some v) : takesL (l.drop k) (r.drop k) = if takesE c v = 0 then takesL (l.drop (k + 1)) (r.drop (k + 1)) else takesE c v := by
  rw [drop_at hc, drop_at hv]; rfl
theorem takesL_end {l : List Cl} {r : List Vl} {k : Nat} (h : l.length ≤ k) : takesL (l.drop k) (r.drop k) = 0 := by
  rw [List.drop_eq_nil_of_le h]; rfl
set_option maxRecDepth 100000 in
set_option maxHeartbeats 4000000 in
theorem fill_any (A B : Option Addr) (n m c d : Nat) (xs : List Cl) (ys : List Vl) (w : World) (hx : RdC w A n xs) (hy : RdV w B m ys) (hn : n ≤ 1000) :
    Calls Tryz.prog 90 #[.slice A n c, .slice B m d] w (FillPost xs ys w) := by
  have hym := hy.2.1
  have hxm := hx.2.1
  have HX := Lib.hid hx
  have HY := Lib.hid hy
  have HXL := Lib.hid hx.1
  have HYL := Lib.hid hy.1
  clear hx hy
  by_cases hnm : n < m
  · have H := Lib.hid (show fillE xs ys = 22 by unfold fillE; rw [HXL.out, HYL.out, if_pos hnm])
    go_enter Tryz.func90, Tryz.ntmps90
    go_wp2
    go_ret2
    exact ⟨none, 0, 0, by rw [H.out]; rfl, by (repeat (first | assumption | exact Below.refl _ _ | refine bl_drewN ?_ _ | refine bl_drew ?_ | refine bl_alloc ?_ _ | refine bl_step ?_ (by assumption))), .inr (by rw [H.out]; decide)⟩
  · have HF := Lib.hid (show fillE xs ys = takesL xs (padL xs ys) by unfold fillE; rw [HXL.out, HYL.out, if_neg hnm])
    have HPL := Lib.hid (show (padL xs ys).length = n by rw [padL_len]; exact HXL.out)
    go_enter Tryz.func90, Tryz.ntmps90
    go_wp2_with fail
    refine (pad_any A B n m c d xs ys _ HX.out HY.out hn).mono ?_
    rintro e w1 ⟨A1, c1, rfl, hown, hb1⟩
    have HO := Lib.hid hown
    have HB1 := Lib.hid hb1
    clear hown hb1
    go_wp2
    go_loopw [20] (fun i wr => ∃ k : Nat, k ≤ n ∧ i = .int .i64 k ∧ takesL (xs.drop k) ((padL xs ys).drop k) = takesL xs (padL xs ys) ∧ Below w1.heap.size w1 wr) (fun i _ => n - (intOf i).toNat)
    case atStart => exact ⟨0, Nat.zero_le _, rfl, rfl, Below.refl _ _⟩
    case round =>
      obtain ⟨k, hk, rfl, ht, hb⟩ := hrel
      have HT := Lib.hid ht
      have hbw : Below w.heap.size w wr := bl_step HB1.out hb
      clear ht
      by_cases hlt : k < n
      · obtain ⟨b1, o1, x, hA, hxk, x0, x1, x2, x3, x4, x5, x6, hb2⟩ := HX.out.get_ hbw hlt
        subst hA
        obtain ⟨b3, o3, y, hA1, hyk, y0, y1, y2, y3, hb3⟩ := RdV.get_ (own_rd vl_len HO.out) hb hlt
        subst hA1
        have HTK := Lib.hid (takesL_at hxk hyk)
        clear hxk hyk
        go_upto_region 7 with fail
        have PA := blk_new wr (.cells #[.string x.name, .int .i64 x.kind, .bool x.nn, .int .i64 x.d.k, .int .i64 x.d.n, .float .f64 x.d.f, .string x.d.s] 85)
        have PL : Below wr.heap.size wr (wr.alloc (.cells #[.string x.name, .int .i64 x.kind, .bool x.nn, .int .i64 x.d.k, .int .i64 x.d.n, .float .f64 x.d.f, .string x.d.s] 85)) := by (repeat (first | assumption | exact Below.refl _ _ | refine bl_drewN ?_ _ | refine bl_drew ?_ | refine bl_alloc ?_ _ | refine bl_step ?_ (by assumption)))
        have q0 := pw_cell PL y0
        have q1 := pw_cell PL y1
        have q2 := pw_cell PL y2
        have q3 := pw_cell PL y3
        clear y0 y1 y2 y3 x0 x1 x2 x3 x4 x5 x6
        generalize wr.alloc (.cells #[.string x.name, .int .i64 x.kind, .bool x.nn, .int .i64 x.d.k, .int .i64 x.d.n, .float .f64 x.d.f, .string x.d.s] 85) = W at PA PL q0 q1 q2 q3 ⊢
        obtain ⟨k1, f1⟩ := blk_rules PA
        clear PA
        have hkn : (k : Int) < n := by omega
        go_still_tail 5, (by kernel_rfl)
        change wpList _ _ _ _ _ W.drew
        go_wp2_with fail
        refine (takes_any x y _).mono ?_
        rintro e w2 ⟨rfl, hb4⟩
        have hbn : Below w1.heap.size w1 w2 := bl_step (bl_step hb PL) (bl_step (bl_drew (Below.refl _ _)) hb4)
        clear k1 f1 q0 q1 q2 q3
        by_cases h0 : takesE x y = 0
        · have H := Lib.hid (show takesL (xs.drop (k + 1)) ((padL xs ys).drop (k + 1)) = takesL xs (padL xs ys) by rw [← HT.out, HTK.out, if_pos h0])
          have h0' : (takesE x y == 0) = true := by simpa using h0
          have h0'' : (takesE x y != 0) = false := by simpa using h0
          clear h0
          go_wp2
          go_roundw
          case rel => exact ⟨k + 1, by omega, by go_num, H.out, hbn⟩
          case measure => simp [intOf]; omega
        · have H := Lib.hid (show fillE xs ys = takesE x y by rw [HF.out, ← HT.out, HTK.out, if_neg h0])
          have h0' : (takesE x y == 0) = false := by simpa using h0
          have h0'' : (takesE x y != 0) = true := by simpa using h0
          have HNZ := Lib.hid h0
          clear h0
          go_wp2
          go_ret2
          exact ⟨none, 0, 0, by rw [H.out]; rfl, bl_step HB1.out hbn, .inr (by rw [H.out]; exact HNZ.out)⟩
      · obtain rfl : k = n := by omega
        have H := Lib.hid (show fillE xs ys = 0 by rw [HF.out, ← HT.out, takesL_end (by rw [HXL.out]; exact Nat.le_refl _)])
        go_wp2
        go_ret2
        exact ⟨A1, k, c1, by rw [H.out]; rfl, hbw, .inl ⟨H.out, HXL.out.symm, HO.out.kept hb⟩⟩
end Go.Proofs.YtbmaeaknlpgdmaaGreat
