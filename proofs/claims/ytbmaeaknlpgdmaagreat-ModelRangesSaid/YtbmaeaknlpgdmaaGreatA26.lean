/- A statement's sixteen cells, loaded at once. A statement's sixteen cells, loaded at once: where the load is guarded. -/
import Derived.Test.YtbmaeaknlpgdmaaGreatA16
import Derived.Test.YtbmaeaknlpgdmaaGreatA15
namespace Go.Proofs.YtbmaeaknlpgdmaaGreat
open Go.RowKit
set_option linter.unusedVariables false
theorem run_load16 {b : Nat} {T : TypeId} {cs : Array Value} {w : World} (hs : cs.size = 16) (hb : w.heap[b]? = some (.cells cs T (0, 0))) : (Instr.loadAt 37 (.pointer (some ⟨b, 0, none⟩))).run Tryz.prog w = .ok (.agg cs) w := by
  have h := loadVar_blk (P := Tryz.prog) (ty := 37) (T := T) (cs := cs) (w := w) (b := b) (fun _ => by kernel_rfl) (fun w => by rw [hs]; kernel_rfl) hb
  simp [Instr.loadAt, Instr.sureAddr, h]
theorem wpl_load16 {ops : Array Oper} {rest : List Oper} {o : Oper} {a : Act} {w : World} {Q : Exit → Act → World → Prop} (hgd : o.guard = none) (x : Operand) (ho : o.op = .load 37 x) (b : Nat) {T : TypeId} {cs : Array Value}
    (hx : a.eval x = .pointer (some ⟨b, 0, none⟩)) (hs : cs.size = 16) (hb : w.heap[b]? = some (.cells cs T (0, 0))) (h : wpList Tryz.prog ops Q rest (a.put o.dst (.agg cs)) w) : wpList Tryz.prog ops Q (o :: rest) a w :=
  wpl_val hgd (.agg cs) w (by unfold execOp; simp only [ho, hx, Sem.run_bind, run_load16 hs hb, Result.andThen_ok, Sem.run_pure]) h
theorem exec_load16 {o : Oper} {a : Act} {w : World} (x : Operand) (b : Nat) {T : TypeId} {cs : Array Value} (ho : o.op = .load 37 x) (hx : a.eval x = .pointer (some ⟨b, 0, none⟩)) (hs : cs.size = 16) (hb : w.heap[b]? = some (.cells cs T (0, 0))) :
    (execOp a.eval o).run Tryz.prog w = .ok (.value (.agg cs)) w := by unfold execOp; simp only [ho, hx, Sem.run_bind, run_load16 hs hb, Result.andThen_ok, Sem.run_pure]
end Go.Proofs.YtbmaeaknlpgdmaaGreat
namespace Go.Proofs.YtbmaeaknlpgdmaaGreat
open Go.RowKit
set_option linter.unusedVariables false
theorem wpl_load16g {ops : Array Oper} {rest : List Oper} {o : Oper} {a : Act} {w : World} {Q : Exit → Act → World → Prop} (hw : Region.wanted o (yielded ops a.tmps) = true) (x : Operand) (ho : o.op = .load 37 x) (b : Nat) {T : TypeId} {cs : Array Value}
    (hx : a.eval x = .pointer (some ⟨b, 0, none⟩)) (hs : cs.size = 16) (hb : w.heap[b]? = some (.cells cs T (0, 0))) (h : wpList Tryz.prog ops Q rest (a.put o.dst (.agg cs)) w) : wpList Tryz.prog ops Q (o :: rest) a w :=
  wpList_step fun K hK => by
    rw [if_pos hw]
    unfold Oper.wp
    rw [exec_load16 x b ho hx hs hb]
    exact hK _ _ h
end Go.Proofs.YtbmaeaknlpgdmaaGreat
