/- A statement's sixteen cells, loaded at once. -/
import Derived.Test.YtbmaeaknlpgdmaaA15
import Derived.Test.YtbmaeaknlpgdmaaA13
namespace Go.Proofs.Ytbmaeaknlpgdmaa
open Go.RowKit
set_option linter.unusedVariables false
theorem run_load16 {b : Nat} {T : TypeId} {cs : Array Value} {w : World} (hs : cs.size = 16) (hb : w.heap[b]? = some (.cells cs T (0, 0))) : (Instr.loadAt 28 (.pointer (some ⟨b, 0, none⟩))).run Try.prog w = .ok (.agg cs) w := by
  have h := loadVar_blk (P := Try.prog) (ty := 28) (T := T) (cs := cs) (w := w) (b := b) (fun _ => by kernel_rfl) (fun w => by rw [hs]; kernel_rfl) hb
  simp [Instr.loadAt, Instr.sureAddr, h]
theorem wpl_load16 {ops : Array Oper} {rest : List Oper} {o : Oper} {a : Act} {w : World} {Q : Exit → Act → World → Prop} (hgd : o.guard = none) (x : Operand) (ho : o.op = .load 28 x) (b : Nat) {T : TypeId} {cs : Array Value}
    (hx : a.eval x = .pointer (some ⟨b, 0, none⟩)) (hs : cs.size = 16) (hb : w.heap[b]? = some (.cells cs T (0, 0))) (h : wpList Try.prog ops Q rest (a.put o.dst (.agg cs)) w) : wpList Try.prog ops Q (o :: rest) a w :=
  wpl_val hgd (.agg cs) w (by unfold execOp; simp only [ho, hx, Sem.run_bind, run_load16 hs hb, Result.andThen_ok, Sem.run_pure]) h
theorem exec_load16 {o : Oper} {a : Act} {w : World} (x : Operand) (b : Nat) {T : TypeId} {cs : Array Value} (ho : o.op = .load 28 x) (hx : a.eval x = .pointer (some ⟨b, 0, none⟩)) (hs : cs.size = 16) (hb : w.heap[b]? = some (.cells cs T (0, 0))) :
    (execOp a.eval o).run Try.prog w = .ok (.value (.agg cs)) w := by unfold execOp; simp only [ho, hx, Sem.run_bind, run_load16 hs hb, Result.andThen_ok, Sem.run_pure]
end Go.Proofs.Ytbmaeaknlpgdmaa
