/- The walk of a region in a class of worlds: its steps. No program in sight. -/
import Derived.Test.YtnpoakabheeoeaaRu
import Derived.Deep.QuietTactic
namespace Go.Proofs.Ytnpoakabheeoeaa
open Go.RowKit
section
variable {P : Program} {ops : Array Oper} {C : World → Prop} {Q : Act → Prop} {a : Act} {o : Oper} {rest : List Oper}
theorem qc_pass (hw : Region.wanted o (yielded ops a.tmps) = false) (h : wpQuiet P ops C Q rest (a.put o.dst undef)) : wpQuiet P ops C Q (o :: rest) a := by
  show if _ then _ else _
  rw [if_neg (by rw [hw]; simp)]
  exact h
theorem qc_one (v : Value) (hw : Region.wanted o (yielded ops a.tmps) = true) (hv : ∀ w, C w → o.quietAt P a C w v) (h : wpQuiet P ops C Q rest (a.put o.dst v)) : wpQuiet P ops C Q (o :: rest) a := by
  show if _ then _ else _
  rw [if_pos hw]
  exact ⟨v, hv, h⟩
theorem qc_val {w : World} {v : Value} (h : (execOp a.eval o).run P w = .ok (.value v) w) : o.quietAt P a C w v := by
  unfold Oper.quietAt
  rw [h]
  exact ⟨rfl, rfl⟩
theorem qc_skip {w : World} (h : (execOp a.eval o).run P w = .ok .skip w) : o.quietAt P a C w undef := by
  unfold Oper.quietAt
  rw [h]
  exact ⟨rfl, rfl⟩
theorem qc_call {w : World} {v : Value} {f : FuncId} {args : Array Value} (h : (execOp a.eval o).run P w = .ok (.enter f args) w) (hc : Calls P f args w fun e w'' => e = .returned v ∧ C w'') : o.quietAt P a C w v := by
  unfold Oper.quietAt
  rw [h]
  exact ⟨rfl, hc⟩
end
end Go.Proofs.Ytnpoakabheeoeaa
