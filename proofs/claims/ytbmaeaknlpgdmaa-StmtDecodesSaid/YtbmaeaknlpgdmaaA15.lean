/- An array of function values that a function makes: its operations whole, not cell by cell. -/
import Derived.Test.YtbmaeaknlpgdmaaA07
import Derived.Test.YtbmaeaknlpgdmaaA14
import Derived.Deep.Cut
import Derived.Laws.CopyOwn
namespace Go.Proofs.Ytbmaeaknlpgdmaa
open Go.RowKit
section
variable {P : Program} {ops : Array Oper} {rest : List Oper} {o : Oper} {a : Act} {w : World} {Q : Exit → Act → World → Prop}
theorem wpl_val (hgd : o.guard = none) (v : Value) (w' : World) (hrun : (execOp a.eval o).run P w = .ok (.value v) w') (h : wpList P ops Q rest (a.put o.dst v) w') : wpList P ops Q (o :: rest) a w :=
  wpList_plain hgd fun K hK => by
    unfold Oper.wp
    rw [hrun]
    exact hK _ _ h
theorem wpl_skip (hgd : o.guard = none) (w' : World) (hrun : (execOp a.eval o).run P w = .ok .skip w') (h : wpList P ops Q rest (a.put o.dst undef) w') : wpList P ops Q (o :: rest) a w :=
  wpList_plain hgd fun K hK => by
    unfold Oper.wp
    rw [hrun]
    exact hK _ _ h
theorem run_storeAt {t T : TypeId} {zs vs : Array Value} {m : Nat} (hsz : ∀ w, (sizeOf t).run P w = .ok vs.size w) (hb : w.heap[m]? = some (.cells zs T (0, 0))) (hl : zs.size = vs.size) (h1 : ∀ u ∈ vs.toList, u.oneCell' = true) :
    (Instr.storeAt t (.pointer (some ⟨m, 0, none⟩)) (.agg vs)).run P w = .ok () (w.setRow m vs) := by
  have hst := run_storeCells_at P m 0 T vs.toList 0 zs w hb (by simp [hl]) h1
  have e : (zs.toList.take (0 + 0) ++ vs.toList ++ zs.toList.drop (0 + 0 + vs.toList.length)).toArray = vs := by
    rw [List.drop_eq_nil_of_le (by simp [hl])]; simp
  rw [e] at hst
  simp [Instr.storeAt, Instr.sureAddr, storeVar, Value.cells, hsz, hst]
end
end Go.Proofs.Ytbmaeaknlpgdmaa
namespace Go.Proofs.Ytbmaeaknlpgdmaa
open Go.RowKit
def goodsP : List (Nat × Value) := [(116, .func (.func 64) #[] #[]), (110, .func (.func 66) #[] #[]), (99, .func (.func 67) #[] #[]), (115, .func (.func 68) #[] #[]), (118, .func (.func 69) #[] #[]), (119, .func (.func 71) #[] #[]), (114, .func (.func 72) #[] #[]), (100, .func (.func 75) #[] #[]), (111, .func (.func 77) #[] #[]), (102, .func (.func 78) #[] #[])]
noncomputable def goodsA : Array Value := (Try.prog.built 62 goodsP).getD #[]
noncomputable def nilsA : Array Value := ((Try.prog.info? 62).bind (fun i => i.zero.map Value.cells)).getD #[]
theorem nilsA_size : nilsA.size = 128 := by kernel_rfl
theorem goodsA_size : goodsA.size = 128 := by kernel_rfl
theorem goodsA_one : goodsA.all (·.oneCell') = true := by kernel_rfl
theorem goodsA_some : (Try.prog.built 62 goodsP).isSome = true := by kernel_rfl
theorem goodsA_get (x : Fld) : goodsA[(pcode x).toNat]? = some (.func (.func (gfn x)) #[] #[]) := by
  cases x <;> kernel_rfl
set_option maxRecDepth 100000 in
theorem goods_any (w : World) : Pure Try.prog 33 #[] w (.agg goodsA) := by
  go_enter Try.func33, Try.ntmps33
  go_step
  go_step
  go_step
  refine wpl_val rfl (.pointer (some ⟨w.heap.size, 0, none⟩)) (w.alloc (.cells nilsA 62)) (by kernel_rfl) ?_
  have hb := blk_new w (.cells nilsA 62)
  have hB : Below w.heap.size w (w.alloc (.cells nilsA 62)) := by (repeat (first | assumption | exact Below.refl _ _ | refine bl_drewN ?_ _ | refine bl_drew ?_ | refine bl_alloc ?_ _ | refine bl_step ?_ (by assumption)))
  generalize w.alloc (.cells nilsA 62) = W at hb hB ⊢
  go_step
  go_step
  go_step
  go_step
  go_step
  refine wpl_val rfl (.agg goodsA) W (by kernel_rfl) ?_
  dsimp only [Act.put, List.setIfInBounds_toArray, List.set_cons_succ, List.set_cons_zero]
  refine wpList_store_row rfl _ _ _ rfl w.heap.size goodsA rfl rfl _ nilsA hb (by kernel_rfl) (by rw [nilsA_size, goodsA_size]) goodsA_one ?_
  have hB2 : Below w.heap.size w (W.setRow w.heap.size goodsA) := below_setRow hB (Nat.le_refl _) _
  have hb2 := setRow_heap W w.heap.size nilsA goodsA _ _ hb
  generalize W.setRow w.heap.size goodsA = W2 at hB2 hb2 ⊢
  have HB := Lib.hid hb2
  have HW := Lib.hid hB2
  clear hb hB hb2 hB2
  go_wp2
  refine bodyPost_ret (results_blk (T := 62) (b := w.heap.size) (cs := goodsA) rfl (fun _ => by kernel_rfl) (fun _ => by kernel_rfl) _ rfl HB.out) rfl ⟨rfl, HW.out⟩
end Go.Proofs.Ytbmaeaknlpgdmaa
