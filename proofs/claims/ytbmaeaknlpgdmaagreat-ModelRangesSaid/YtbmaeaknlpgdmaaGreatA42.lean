/- The reference's copy of rows. liverykeep: lists of rows. Two lists of rows, one behind the other. -/
import Derived.Test.YtbmaeaknlpgdmaaGreatA10
import Derived.Test.YtbmaeaknlpgdmaaGreatA03
namespace Go.Proofs.YtbmaeaknlpgdmaaGreat
open Go.RowKit Go.Sort
set_option linter.unusedVariables false
set_option linter.unusedSimpArgs false
def CpPost (rs : List (List Vl)) (w : World) (e : Ending) (w' : World) : Prop := ∃ V, e = .returned V ∧ RowsD (fun b => w.heap.size ≤ b) w' V rs ∧ Below w.heap.size w w'
set_option maxRecDepth 100000 in
set_option maxHeartbeats 4000000 in
theorem copyRows_any (D : Nat → Prop) (V : Value) (rs : List (List Vl)) (w : World) (hv : RowsD D w V rs) (hn : rs.length ≤ 1000) (hl : ∀ r ∈ rs, r.length ≤ 1000) :
    Calls Tryz.prog 17 #[V] w (CpPost rs w) := by
  obtain ⟨vs, hv1, hv2, hv3⟩ := hv
  obtain ⟨A, c, rfl, hrd, _⟩ := hv1.rd sl_len
  obtain ⟨n, hvn⟩ : ∃ n, vs.length = n := ⟨_, rfl⟩
  rw [hvn] at hrd hv2 ⊢
  have HR := Lib.hid hrd
  have HV := Lib.hid hv3
  have HL := Lib.hid hl
  have HN := Lib.hid hv2
  have hn' : n ≤ 1000 := by omega
  clear hrd hv3 hl hv1 hvn hv2 hn
  go_enter Tryz.func17, Tryz.ntmps17
  go_wp2
  go_loopw [3, 4] (fun out i wr => ∃ (k : Nat) (A' : Option Addr) (c' : Nat) (ds : List Sl), k ≤ n ∧ i = .int .i64 k ∧ out = .slice A' k c' ∧ Own Sl.cs 1 34 wr w.heap.size (.slice A' k c') ds ∧ ds.length = k ∧
    (∀ (i : Nat) (s : Sl) (r : List Vl), ds[i]? = some s → rs[i]? = some r → Own Vl.cs 4 33 wr w.heap.size s.v r) ∧ Below w.heap.size w wr) (fun _ i _ => n - (intOf i).toNat)
  case atStart => exact ⟨0, none, 0, [], Nat.zero_le _, rfl, rfl, own_nil' _ _ _, rfl, fun i s r hs => by simp at hs, Below.refl _ _⟩
  case round =>
    obtain ⟨k, A', c', ds, hk, rfl, rfl, hown, hdl, hrows, hb⟩ := hrel
    have HO := Lib.hid hown
    have HD := Lib.hid hdl
    have HW := Lib.hid hrows
    clear hown hdl hrows
    by_cases hlt : k < n
    · obtain ⟨b1, o1, x, hA, hxk, x0, hb1⟩ := RdS.get_ HR.out hb hlt
      subst hA
      have hkr : k < rs.length := by rw [← HN.out]; exact hlt
      obtain ⟨r, hr⟩ : ∃ r, rs[k]? = some r := ⟨_, List.getElem?_eq_getElem hkr⟩
      have hxr := HV.out k x r hxk hr
      obtain ⟨Ar, cr, hxe, hrdr, _⟩ := hxr.rd vl_len
      injection hxe with ea en ec
      have hlen := HL.out r (List.mem_of_getElem? hr)
      have HXR := Lib.hid (show RdV wr x.A x.n r by rw [ea, en]; exact hrdr.keep hb)
      have HRK := Lib.hid hr
      have hxn : x.n ≤ 1000 := by omega
      clear hxk hr hxr hrdr ea en ec hlen
      have x0' := pw_cell (bl_alloc (Below.refl wr.heap.size wr) (.cells #[] 33)) x0
      go_wp2_with (at_builtin; go_loud (refine wp_app (cs := Vl.cs) (size := 4) vl_len (by omega) vl_one rfl (.tmp 12) (.tmp 16) _ rfl wr.heap.size 33 _ 40 Tryz.uVals Tryz.iVal rfl (.slice (some ⟨wr.heap.size, 0, none⟩) 0 0) [] rfl ?_ x.A x.n x.c r rfl (HXR.out.keep (bl_alloc (Below.refl _ _) _)) (by simp <;> omega) (by simp <;> omega) (by simp) ?_))
      · exact own_empty rfl (Nat.le_refl _)
      intro A1 c1 w1 hown1 hg1 hat1
      have hb2 : Below wr.heap.size wr w1 := below_own (bl_alloc (Below.refl _ _) _) hg1 (fun g hg => by simp [Value.ownBlock] at hg; omega)
      have HO1 := Lib.hid (hown1.lower hb.size)
      have HB2 := Lib.hid hb2
      have hbb : Below w.heap.size w w1 := bl_step hb hb2
      clear hg1 hat1 x0'
      clear x0 hown1 hb2
      go_wp2_with (at_builtin; go_loud (refine wp_app (cs := Sl.cs) (size := 1) sl_len (by omega) sl_one rfl (.tmp 11) (.tmp 18) _ rfl w.heap.size 34 _ 24 Tryz.uRows Tryz.iRow rfl (.slice A' k c') ds rfl ((HO.out.kept HB2.out).alloc_ _) (some ⟨w1.heap.size, 0, none⟩) 1 1 [⟨A1, x.n, c1⟩] rfl (rd_one rfl (blk_new w1 _)) (by rw [HD.out]; omega) (by rw [HD.out]; omega) (by have := hbb.size; simp; omega) ?_))
      intro A2 c2 w2 hown2 hg2 hat2
      rw [HD.out] at hown2 ⊢
      have hb3 : Below w.heap.size w w2 := below_own (bl_alloc hbb _) hg2 (fun g hg => (HO.out.lt g hg).1)
      have HO2 := Lib.hid hown2
      have HROW := Lib.hid (show ∀ (i : Nat) (s : Sl) (r : List Vl), (ds ++ [(⟨A1, x.n, c1⟩ : Sl)])[i]? = some s → rs[i]? = some r → Own Vl.cs 4 33 w2 w.heap.size s.v r by
        intro i s r' hs hr'
        have hkeep : ∀ {s : Sl} {r : List Vl}, Own Vl.cs 4 33 w1 w.heap.size s.v r → Own Vl.cs 4 33 w2 w.heap.size s.v r := fun {s r} h => by
          refine (h.alloc_ _).grown hg2 ?_
          exact SlD.ne (D := fun _ => True) (D' := fun _ => True) (v := s.v) (v' := Value.slice A' k c') ⟨h.lower (Nat.zero_le _), fun _ _ => trivial⟩ ⟨(HO.out.kept HB2.out).lower (Nat.zero_le _), fun _ _ => trivial⟩ (by decide)
        by_cases hi : i < ds.length
        · rw [List.getElem?_append_left hi] at hs
          exact hkeep ((HW.out i s r' hs hr').kept HB2.out)
        · have hik : i = k := by
            have := (List.getElem?_eq_some_iff.1 hs).1
            rw [List.length_append, HD.out] at this
            have hdl := HD.out
            simp at this
            omega
          subst hik
          rw [List.getElem?_append_right (by rw [HD.out]; exact Nat.le_refl _), HD.out, Nat.sub_self] at hs
          simp at hs
          subst hs
          rw [HRK.out] at hr'
          cases hr'
          exact hkeep HO1.out)
      clear hown2 hg2 hat2
      go_wp2
      go_roundw
      case rel => exact ⟨k + 1, A2, c2, ds ++ [⟨A1, x.n, c1⟩], by omega, by go_num, rfl, HO2.out, by rw [List.length_append, HD.out]; rfl, HROW.out, hb3⟩
      case measure => simp [intOf]; omega
    · obtain rfl : k = n := by omega
      go_wp2
      go_ret
      exact ⟨_, rfl, ⟨ds, SlD.of_own HO.out (fun b h1 _ => h1), by rw [HD.out]; exact HN.out, fun i s r h1 h2 => SlD.of_own (HW.out i s r h1 h2) (fun b h1 _ => h1)⟩, hb⟩
end Go.Proofs.YtbmaeaknlpgdmaaGreat
namespace Go.Proofs.YtbmaeaknlpgdmaaGreat
open Go.RowKit Go.Sort
set_option linter.unusedVariables false
set_option linter.unusedSimpArgs false
/-- What rows read as. -/
def RdR (w : World) (A : Option Addr) (n : Nat) (rs : List (List Vl)) : Prop :=
  ∃ ds : List Sl, Rd Sl.cs 1 w A n ds ∧ ds.length = rs.length ∧ ∀ (i : Nat) (s : Sl) (r : List Vl), ds[i]? = some s → rs[i]? = some r → RdV w s.A s.n r
theorem RowsD.rdR {D : Nat → Prop} {w : World} {V : Value} {rs : List (List Vl)} (h : RowsD D w V rs) : ∃ A c, V = .slice A rs.length c ∧ RdR w A rs.length rs := by
  obtain ⟨ds, h1, h2, h3⟩ := h
  obtain ⟨A, c, hv, hr, _⟩ := h1.rd sl_len
  refine ⟨A, c, by rw [hv, h2], ds, by rw [← h2]; exact hr, h2, fun i s r hs hr => ?_⟩
  obtain ⟨Ar, cr, hxe, hrdr, _⟩ := (h3 i s r hs hr).rd vl_len
  injection hxe with ea en ec
  rw [ea, en]; exact hrdr
theorem RdR.keep {w w' : World} {A : Option Addr} {n : Nat} {rs : List (List Vl)} (h : RdR w A n rs) (hb : Below w.heap.size w w') : RdR w' A n rs := by
  obtain ⟨ds, h1, h2, h3⟩ := h
  exact ⟨ds, h1.keep hb, h2, fun i s r hs hr => (h3 i s r hs hr).keep hb⟩
set_option maxHeartbeats 1000000 in
set_option maxRecDepth 100000 in
theorem keepRows_any (A A' : Option Addr) (n c n' c' : Nat) (xs ys : List (List Vl)) (w : World) (hx : RdR w A n xs) (hy : RdR w A' n' ys) :
    Pure Tryz.prog 16 #[.slice A n c, .slice A' n' c'] w (.bool (decide (xs = ys))) := by
  obtain ⟨dx, hx1, hx2, hx3⟩ := hx
  obtain ⟨dy, hy1, hy2, hy3⟩ := hy
  have hxl : xs.length = n := by rw [← hx2]; exact hx1.1
  have hyl : ys.length = n' := by rw [← hy2]; exact hy1.1
  have hxm := hx1.2.1
  by_cases hn : ((n : Int) != (n' : Int)) = true
  · have hd : decide (xs = ys) = false := by
      simp at hn ⊢; rintro rfl; omega
    have H := Lib.hid hd; clear hd hxl hyl hx1 hx2 hx3 hy1 hy2 hy3
    go_enter Tryz.func16, Tryz.ntmps16
    go_wp2
    go_ret
    exact ⟨by rw [H.out]; rfl, by (repeat (first | assumption | exact Below.refl _ _ | refine bl_drewN ?_ _ | refine bl_drew ?_ | refine bl_alloc ?_ _ | refine bl_step ?_ (by assumption)))⟩
  · obtain rfl : n = n' := by simp at hn; omega
    clear hn
    have Hx := Lib.hid hxl
    have Hy := Lib.hid hyl
    have HX := Lib.hid hx1
    have HY := Lib.hid hy1
    have HX3 := Lib.hid hx3
    have HY3 := Lib.hid hy3
    clear hxl hyl hx1 hx2 hx3 hy1 hy2 hy3
    go_enter Tryz.func16, Tryz.ntmps16
    go_wp2
    go_loopw [5] (fun i wr => ∃ k : Nat, k ≤ n ∧ i = .int .i64 k ∧ xs.take k = ys.take k ∧ Below w.heap.size w wr) (fun i _ => n - (intOf i).toNat)
    case atStart => exact ⟨0, Nat.zero_le _, rfl, rfl, Below.refl _ _⟩
    case round =>
      obtain ⟨k, hk, rfl, hxy, hb⟩ := hrel
      by_cases hlt : k < n
      · obtain ⟨b1, o1, x, hA, hxk, x0, hb1⟩ := RdS.get_ HX.out hb hlt
        obtain ⟨b2, o2, y, hA', hyk, y0, hb2⟩ := RdS.get_ HY.out hb hlt
        subst hA hA'
        obtain ⟨p, hp⟩ : ∃ p, xs[k]? = some p := ⟨_, List.getElem?_eq_getElem (by rw [Hx.out]; exact hlt)⟩
        obtain ⟨q, hq⟩ : ∃ q, ys[k]? = some q := ⟨_, List.getElem?_eq_getElem (by rw [Hy.out]; exact hlt)⟩
        have HP := Lib.hid ((HX3.out k x p hxk hp).keep hb)
        have HQ := Lib.hid ((HY3.out k y q hyk hq).keep hb)
        have Hxk := Lib.hid hp
        have Hyk := Lib.hid hq
        have Hxy := Lib.hid hxy
        clear hxk hyk hxy hp hq
        go_wp2
        go_still_tail 8, (by kernel_rfl)
        change wpList _ _ _ _ _ wr.drew
        go_wp2_with fail
        refine (keepValues_any x.A y.A x.n x.c y.n y.c p q _ (HP.out.keep (bl_drew (Below.refl _ _))) (HQ.out.keep (bl_drew (Below.refl _ _)))).mono ?_
        rintro e w1 ⟨rfl, hbw⟩
        by_cases hv : p = q
        · have hdv := decide_eq_true hv
          rw [hdv]
          have Hv := Lib.hid hv
          clear hv hdv x0 y0
          go_wp2
          go_roundw
          case rel => exact ⟨k + 1, by omega, by go_num, by rw [take_snoc' Hxk.out, take_snoc' Hyk.out, Hxy.out, Hv.out], bl_step (bl_drew hb) hbw⟩
          case measure => simp [intOf]; omega
        · have hdv := decide_eq_false hv
          rw [hdv]
          have hd : decide (xs = ys) = false := by
            simp; rintro rfl; exact hv (Option.some.inj (Hxk.out.symm.trans Hyk.out))
          have H := Lib.hid hd
          clear hv hdv hd x0 y0
          go_wp2
          go_ret
          exact ⟨by rw [H.out]; rfl, bl_step (bl_drew hb) hbw⟩
      · obtain rfl : k = n := by omega
        have hd : decide (xs = ys) = true := by
          simp; rw [← List.take_of_length_le (Nat.le_of_eq Hx.out), hxy, List.take_of_length_le (Nat.le_of_eq Hy.out)]
        have H := Lib.hid hd
        clear hd hxy
        go_wp2
        go_ret
        exact ⟨by rw [H.out]; rfl, hb⟩
end Go.Proofs.YtbmaeaknlpgdmaaGreat
namespace Go.Proofs.YtbmaeaknlpgdmaaGreat
open Go.RowKit Go.Sort
set_option linter.unusedVariables false
set_option linter.unusedSimpArgs false
theorem app_rows (wq w1 : World) (V : Value) (A3 : Option Addr) (n3 c3 : Nat) (r2 r3 : List (List Vl)) (hV : RowsD (fun b => wq.heap.size ≤ b) w1 V r2) (hb : Below wq.heap.size wq w1) (h3 : RowsD (fun _ => True) wq (.slice A3 n3 c3) r3) (hl : r2.length + r3.length ≤ 1000) (ty : TypeId) :
    ∃ A' c' w2, (Builtin.append_ #[27, 27] ty #[V, .slice A3 n3 c3]).run Tryz.prog w1 = .ok (.slice A' (r2.length + r3.length) c') w2 ∧ RdR w2 A' (r2.length + r3.length) (r2 ++ r3) ∧ Below wq.heap.size wq w2 := by
  obtain ⟨ds, h1, h2, h4⟩ := hV
  obtain ⟨es, k1, k2, k4⟩ := h3
  obtain ⟨Ae, ce, he, hre, _⟩ := k1.rd sl_len
  injection he with e1 e2 e3
  have hre' : Rd Sl.cs 1 w1 A3 n3 es := by rw [e1, e2]; exact hre.keep hb
  have hn3 : n3 = r3.length := by rw [e2, k2]
  obtain ⟨i, hi, hz, hsize, hby⟩ := info_parts Tryz.iRow
  have hown : Own Sl.cs 1 34 w1 wq.heap.size V ds := by
    rcases h1.1.2 with h | ⟨g, cap, cur, rfl, hb0, hh, r⟩
    · exact ⟨h1.1.1, .inl h⟩
    · exact ⟨h1.1.1, .inr ⟨g, cap, cur, rfl, h1.2 g rfl, hh, r⟩⟩
  obtain ⟨v', w2, hrun, g1, g2, g3⟩ := run_app (P := Tryz.prog) w1 sl_len (by omega) sl_one wq.heap.size 27 ty 34 i _ 24 Tryz.uRows hi hz hsize hby rfl V ds hown A3 n3 c3 es hre' (by omega) (by omega) hb.size
  obtain ⟨A', c', rfl, hr', _⟩ := g1.reads sl_len
  have hlen : (ds ++ es).length = r2.length + r3.length := by rw [List.length_append, h2, k2]
  rw [hlen] at hrun
  have hb2 : Below wq.heap.size wq w2 := below_own hb g2 (fun g hg => h1.2 g hg)
  refine ⟨A', c', w2, hrun, ⟨ds ++ es, ?_, by rw [List.length_append, List.length_append, h2, k2], fun j s r hs hr => ?_⟩, hb2⟩
  · have := own_rd sl_len g1
    rw [hlen] at this
    exact this
  · by_cases hj : j < ds.length
    · rw [List.getElem?_append_left hj] at hs
      rw [List.getElem?_append_left (by omega)] at hr
      have ho := h4 j s r hs hr
      have ho2 : Own Vl.cs 4 33 w2 0 s.v r := ho.1.grown g2 (SlD.ne (v := s.v) (v' := V) ho h1 (by decide))
      exact own_rd vl_len ho2
    · rw [List.getElem?_append_right (by omega)] at hs
      rw [List.getElem?_append_right (by omega)] at hr
      rw [h2] at hs
      obtain ⟨Ar, cr, hxe, hrdr, _⟩ := (k4 (j - r2.length) s r hs hr).rd vl_len
      injection hxe with ea en ec
      rw [ea, en]; exact hrdr.keep hb2
/-- One append, by its run. -/
theorem wp_oper_app {P : Program} {o : Oper} {a : Act} {w w' : World} {K : Act → World → Prop} {Q : Exit → Act → World → Prop} {s x : Operand} {t : TypeId} {v v2 r : Value} (ho : o.op = .call { callee := .builtin .append, args := #[s, x], argTypes := #[t, t] }) (hs : a.eval s = v) (hx : a.eval x = v2)
    (hrun : (Builtin.append_ #[t, t] o.type #[v, v2]).run P w = .ok r w') (h : K (a.put o.dst r) w') : Oper.wp P o a w K Q := by
  unfold Oper.wp execOp
  simp only [ho, resolve, invoke, builtin, Sem.run_bind, Sem.run_pure, Result.andThen_ok, List.map_toArray, List.map_cons, List.map_nil, hs, hx, hrun]
  exact h
end Go.Proofs.YtbmaeaknlpgdmaaGreat
