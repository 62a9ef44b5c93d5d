/- An array of function values that a function makes: its operations whole, not cell by cell. Has a statement a form: the program's answer. -/
import Derived.Test.YtbmaeaknlpgdmaaGreatA06
import Derived.Test.YtbmaeaknlpgdmaaGreatA15
import Derived.Deep.Cut
import Derived.Laws.CopyOwn
import Derived.Test.YtbmaeaknlpgdmaaGreatA14
namespace Go.Proofs.YtbmaeaknlpgdmaaGreat
open Go.RowKit
section
variable {P : Program} {ops : Array Oper} {rest : List Oper} {o : Oper} {a : Act} {w : World} {Q : Exit → Act → World → Prop}
theorem wpl_val (hgd : o.guard = none) (v : Value) (w' : World) (hrun : (execOp a.eval o).run P w = .ok (.value v) w') (h : wpList P ops Q rest (a.put o.dst v) w') : wpList P ops Q (o :: rest) a w :=
  wpList_plain hgd fun K hK => by
    unfold Oper.wp
    rw [hrun]
    exact hK _ _ h
theorem wpl_skip (hgd : o.guard = none) (w' : World) (hrun : (execOp a.eval o).run P w = .ok .skip w') (h : wpList P ops Q rest (a.put o.dst undef) w') : wpList P ops Q (o :: rest) a w :=
  wpList_plain hgd fun K hK => by
    unfold Oper.wp
    rw [hrun]
    exact hK _ _ h
theorem run_storeAt {t T : TypeId} {zs vs : Array Value} {m : Nat} (hsz : ∀ w, (sizeOf t).run P w = .ok vs.size w) (hb : w.heap[m]? = some (.cells zs T (0, 0))) (hl : zs.size = vs.size) (h1 : ∀ u ∈ vs.toList, u.oneCell' = true) :
    (Instr.storeAt t (.pointer (some ⟨m, 0, none⟩)) (.agg vs)).run P w = .ok () (w.setRow m vs) := by
  have hst := run_storeCells_at P m 0 T vs.toList 0 zs w hb (by simp [hl]) h1
  have e : (zs.toList.take (0 + 0) ++ vs.toList ++ zs.toList.drop (0 + 0 + vs.toList.length)).toArray = vs := by
    rw [List.drop_eq_nil_of_le (by simp [hl])]; simp
  rw [e] at hst
  simp [Instr.storeAt, Instr.sureAddr, storeVar, Value.cells, hsz, hst]
end
end Go.Proofs.YtbmaeaknlpgdmaaGreat
namespace Go.Proofs.YtbmaeaknlpgdmaaGreat
open Go.RowKit
def goodsP : List (Nat × Value) := [(116, .func (.func 140) #[] #[]), (110, .func (.func 142) #[] #[]), (99, .func (.func 143) #[] #[]), (115, .func (.func 144) #[] #[]), (118, .func (.func 145) #[] #[]), (119, .func (.func 146) #[] #[]), (114, .func (.func 147) #[] #[]), (100, .func (.func 150) #[] #[]), (111, .func (.func 151) #[] #[]), (102, .func (.func 152) #[] #[])]
noncomputable def goodsA : Array Value := (Tryz.prog.built 147 goodsP).getD #[]
noncomputable def nilsA : Array Value := ((Tryz.prog.info? 147).bind (fun i => i.zero.map Value.cells)).getD #[]
theorem nilsA_size : nilsA.size = 128 := by kernel_rfl
theorem goodsA_size : goodsA.size = 128 := by kernel_rfl
theorem goodsA_one : goodsA.all (·.oneCell') = true := by kernel_rfl
theorem goodsA_some : (Tryz.prog.built 147 goodsP).isSome = true := by kernel_rfl
theorem goodsA_get (x : Fld) : goodsA[(pcode x).toNat]? = some (.func (.func (gfn x)) #[] #[]) := by
  cases x <;> kernel_rfl
set_option maxRecDepth 100000 in
theorem goods_any (w : World) : Pure Tryz.prog 104 #[] w (.agg goodsA) := by
  go_enter Tryz.func104, Tryz.ntmps104
  go_step
  go_step
  go_step
  refine wpl_val rfl (.pointer (some ⟨w.heap.size, 0, none⟩)) (w.alloc (.cells nilsA 147)) (by kernel_rfl) ?_
  have hb := blk_new w (.cells nilsA 147)
  have hB : Below w.heap.size w (w.alloc (.cells nilsA 147)) := by (repeat (first | assumption | exact Below.refl _ _ | refine bl_drewN ?_ _ | refine bl_drew ?_ | refine bl_alloc ?_ _ | refine bl_step ?_ (by assumption)))
  generalize w.alloc (.cells nilsA 147) = W at hb hB ⊢
  go_step
  go_step
  go_step
  go_step
  go_step
  refine wpl_val rfl (.agg goodsA) W (by kernel_rfl) ?_
  dsimp only [Act.put, List.setIfInBounds_toArray, List.set_cons_succ, List.set_cons_zero]
  refine wpList_store_row rfl _ _ _ rfl w.heap.size goodsA rfl rfl _ nilsA hb (by kernel_rfl) (by rw [nilsA_size, goodsA_size]) goodsA_one ?_
  have hB2 : Below w.heap.size w (W.setRow w.heap.size goodsA) := below_setRow hB (Nat.le_refl _) _
  have hb2 := setRow_heap W w.heap.size nilsA goodsA _ _ hb
  generalize W.setRow w.heap.size goodsA = W2 at hB2 hb2 ⊢
  have HB := Lib.hid hb2
  have HW := Lib.hid hB2
  clear hb hB hb2 hB2
  go_wp2
  refine bodyPost_ret (results_blk (T := 147) (b := w.heap.size) (cs := goodsA) rfl (fun _ => by kernel_rfl) (fun _ => by kernel_rfl) _ rfl HB.out) rfl ⟨rfl, HW.out⟩
end Go.Proofs.YtbmaeaknlpgdmaaGreat
namespace Go.Proofs.YtbmaeaknlpgdmaaGreat
open Go.RowKit
/-- Has a statement a form? -/
def goodS (s : St) : Bool := kindOK s.k && bareB' s (pstr (fieldsF s.k)) && (fieldsF s.k).all (goodF s)
theorem ix128 (g p : Nat) (h : p < 128) (W : World) : (Instr.indexAt 147 (.pointer (some ⟨g, 0, none⟩)) (.int .u8 (p : Int))).run Tryz.prog W = .ok (.pointer (some ⟨g, p, none⟩)) W := by
  have hL : Tryz.prog.arrayLen 147 = 128 := by kernel_rfl
  have hs : (sizeOf (Tryz.prog.elem 147)).run Tryz.prog W = .ok 1 W := by kernel_rfl
  rw [run_indexAt_array W _ _ _ _ (by kernel_rfl), hL, if_pos (by omega), hs]
  simp [Result.andThen, add_plain]
theorem gfn_call (x : Fld) (args : Array Value) (W : World) : (callFunc (gfn x) args).run Tryz.prog W = .ok (.enter (gfn x) args) W := by
  cases x <;> kernel_rfl
set_option maxRecDepth 100000 in
set_option maxHeartbeats 4000000 in
theorem goodS_any (s : St) (A A' : Option Addr) (n c m d : Nat) (w : World) (hr : RdV w A n s.row) (hc : RdC w A' m s.cols) : Pure Tryz.prog 49 #[s.agg (.slice A n c) (.slice A' m d)] w (.bool (goodS s)) := by
  have HR := Lib.hid hr
  have HC := Lib.hid hc
  clear hr hc
  go_enter Tryz.func49, Tryz.ntmps49
  go_wp2_with fail
  refine (fields_any s.k _).mono ?_
  rintro e w1 ⟨rfl, hb1⟩
  have B1 := Lib.hid (blk_below (blk_new w _) hb1)
  have hB1 : Below w.heap.size w w1 := by (repeat (first | assumption | exact Below.refl _ _ | refine bl_drewN ?_ _ | refine bl_drew ?_ | refine bl_alloc ?_ _ | refine bl_step ?_ (by assumption)))
  clear hb1
  obtain ⟨l, hl⟩ : ∃ l, pstr (fieldsF s.k) = l := ⟨_, rfl⟩
  obtain ⟨ok, hok⟩ : ∃ ok, kindOK s.k = ok := ⟨_, rfl⟩
  have HL := Lib.hid hl
  have HOK := Lib.hid hok
  rw [hl, hok]
  clear hl hok
  obtain ⟨k1, f1⟩ := blk_rules B1.out
  have hz := blk_lt B1.out
  cases ok with
  | false =>
    have H := Lib.hid (show goodS s = false by unfold goodS; rw [HOK.out]; rfl)
    go_wp2
    go_ret
    exact ⟨by rw [H.out]; rfl, hB1⟩
  | true =>
    go_wp2_with fail
    refine (sbare_any s l A A' n c m d _ (HL.out ▸ pstr_ascii _) (HR.out.keep (by (repeat (first | assumption | exact Below.refl _ _ | refine bl_drewN ?_ _ | refine bl_drew ?_ | refine bl_alloc ?_ _ | refine bl_step ?_ (by assumption))))) (HC.out.keep (by (repeat (first | assumption | exact Below.refl _ _ | refine bl_drewN ?_ _ | refine bl_drew ?_ | refine bl_alloc ?_ _ | refine bl_step ?_ (by assumption)))))).mono ?_
    rintro e w2 ⟨rfl, hb2⟩
    have B2 := Lib.hid (blk_below B1.out hb2)
    have hB2 : Below w.heap.size w w2 := by (repeat (first | assumption | exact Below.refl _ _ | refine bl_drewN ?_ _ | refine bl_drew ?_ | refine bl_alloc ?_ _ | refine bl_step ?_ (by assumption)))
    clear hb2 k1 f1 hz B1 hB1
    obtain ⟨k1, f1⟩ := blk_rules B2.out
    have hz := blk_lt B2.out
    cases hq : bareB' s l with
    | false =>
      have H := Lib.hid (show goodS s = false by unfold goodS; rw [HL.out, hq]; simp)
      clear hq
      go_wp2
      go_ret
      exact ⟨by rw [H.out]; rfl, hB2⟩
    | true =>
      have Hq := Lib.hid hq
      clear hq
      go_wp2_with fail
      refine (goods_any _).mono ?_
      rintro e w3 ⟨rfl, hb3⟩
      have B3 := Lib.hid (blk_below B2.out hb3)
      have hB3 : Below w.heap.size w w3 := by (repeat (first | assumption | exact Below.refl _ _ | refine bl_drewN ?_ _ | refine bl_drew ?_ | refine bl_alloc ?_ _ | refine bl_step ?_ (by assumption)))
      clear hb3 k1 f1 hz B2 hB2
      rename_i h0
      refine h0 _ _ ?_
      clear h0
      refine wpl_val rfl (.pointer (some ⟨w3.heap.size, 0, none⟩)) (w3.alloc (.cells nilsA 147)) (by kernel_rfl) ?_
      have hb := blk_new w3 (.cells nilsA 147)
      have hB : Below w.heap.size w (w3.alloc (.cells nilsA 147)) := by (repeat (first | assumption | exact Below.refl _ _ | refine bl_drewN ?_ _ | refine bl_drew ?_ | refine bl_alloc ?_ _ | refine bl_step ?_ (by assumption)))
      have hC := blk_old B3.out (.cells nilsA 147)
      have hlt := blk_lt B3.out
      generalize w3.alloc (.cells nilsA 147) = W at hb hB hC ⊢
      obtain ⟨g, hg⟩ : ∃ g, w3.heap.size = g := ⟨_, rfl⟩
      rw [hg] at hlt hb ⊢
      clear hg B3 hB3
      dsimp only [Act.put, List.setIfInBounds_toArray, List.set_cons_succ, List.set_cons_zero]
      refine wpList_store_row rfl _ _ _ rfl g goodsA rfl rfl _ nilsA hb (by kernel_rfl) (by rw [nilsA_size, goodsA_size]) goodsA_one ?_
      have hB2 : Below w.heap.size w (W.setRow g goodsA) := below_setRow hB (Nat.le_of_lt hlt) _
      have hb2 := setRow_heap W g nilsA goodsA _ _ hb
      have hC2 := (setRow_other W g w.heap.size goodsA (by omega)).trans hC
      generalize W.setRow g goodsA = W2 at hB2 hb2 hC2 ⊢
      have HB := Lib.hid hb2
      have HC2 := Lib.hid hC2
      clear hb hB hC hb2 hC2 hlt
      dsimp only [Act.put, List.setIfInBounds_toArray, List.set_cons_succ, List.set_cons_zero]
      go_wp2
      have HB2 := Lib.hid hB2
      clear hB2
      have Hl := Lib.hid (show l.size = (fieldsF s.k).length by rw [← HL.out, pstr_size])
      have hl5 : l.size ≤ 5 := by have := fieldsF_len s.k; rw [Hl.out]; exact this
      go_loopw [24] (fun i wr => ∃ k : Nat, k ≤ l.size ∧ i = .int .i64 k ∧ (∀ j y, j < k → (fieldsF s.k)[j]? = some y → goodF s y = true) ∧ Below W2.heap.size W2 wr) (fun i _ => l.size - (intOf i).toNat)
      case atStart => exact ⟨0, Nat.zero_le _, rfl, fun j x hj => by omega, Below.refl _ _⟩
      case round =>
        obtain ⟨k, hk, rfl, hall, hb⟩ := hrel
        have Hall := Lib.hid hall
        clear hall
        by_cases hlt : k < l.size
        · have hk' : k < (fieldsF s.k).length := by rw [← Hl.out]; exact hlt
          obtain ⟨x, hx⟩ : ∃ x, (fieldsF s.k)[k]? = some x := ⟨_, List.getElem?_eq_getElem hk'⟩
          have Hx := Lib.hid hx
          have hch : l[k] = pcode x := by
            have h2 := (List.getElem?_eq_some_iff.1 hx).2
            have h3 := pstr_get (fieldsF s.k) k (by rw [HL.out]; exact hlt) hk'
            rw [h2] at h3
            rw [← h3]
            have h4 := HL.out
            subst h4
            rfl
          have hp0 : l[k].toNat < 128 := by rw [hch]; cases x <;> decide
          have hcell : wr.cell? ⟨g, l[k].toNat, none⟩ = some (.func (.func (gfn x)) #[] #[]) := by
            rw [cell_of_row wr g _ goodsA _ _ (blk_below HB.out hb), hch]
            exact goodsA_get x
          have hix := ix128 g l[k].toNat hp0
          have hcf := gfn_call x
          clear hx hch hk'
          obtain ⟨k1, f1⟩ := blk_rules (blk_below HC2.out hb)
          have hz := blk_lt (blk_below HC2.out hb)
          have hz2 := blk_lt (blk_below HB.out hb)
          go_wp2
          go_still_tail 6, (by kernel_rfl)
          change wpList _ _ _ _ _ wr.drew
          go_wp2_with fail
          refine (clo_any s A A' n c m d _ (HR.out.keep (bl_step HB2.out (bl_drew hb))) (HC.out.keep (bl_step HB2.out (bl_drew hb))) x).mono ?_
          rintro e w4 ⟨rfl, hb4⟩
          have hb5 : Below W2.heap.size W2 w4 := bl_step (bl_drew hb) hb4
          clear hb hb4 hcell hcf hix hp0 k1 f1 hz hz2
          cases hv : goodF s x with
          | false =>
            have H := Lib.hid (show goodS s = false by unfold goodS; rw [allF_hit Hx.out hv]; simp)
            clear hv
            go_wp2
            go_ret
            exact ⟨by rw [H.out]; rfl, bl_step HB2.out hb5⟩
          | true =>
            have Hv := Lib.hid hv
            clear hv
            go_wp2
            go_roundw
            case rel => exact ⟨k + 1, by omega, by go_num, fun j y hj hy => (Nat.lt_succ_iff_lt_or_eq.1 hj).elim (fun h => Hall.out j y h hy) (fun h => by subst h; rw [Hx.out] at hy; cases hy; exact Hv.out), hb5⟩
            case measure => simp [intOf]; omega
        · obtain rfl : k = l.size := by omega
          have H := Lib.hid (show goodS s = true by
            unfold goodS
            rw [HOK.out, HL.out, Hq.out, allF_none (fun j y hj hy => Hall.out j y (by rw [Hl.out]; exact hj) hy)]; rfl)
          go_wp2
          go_ret
          exact ⟨by rw [H.out]; rfl, bl_step HB2.out hb⟩
end Go.Proofs.YtbmaeaknlpgdmaaGreat
