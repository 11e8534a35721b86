/- Params are compared. -/
import Derived.Test.YtlhlhlabnjfhcaaMsB
import Derived.Laws.StructEq
namespace Go.Proofs.Ytlhlhlabnjfhcaa
open Go.RowKit

set_option maxRecDepth 100000 in
set_option maxHeartbeats 2000000 in
theorem eq_par (p p' : ParD) : ∃ r : Bool, (∀ w : World, (Op.equalIn 10000 31 (parV p) (parV p')).run Try.prog w = .ok r w) ∧ (r = true ↔ p = p') := by
  have e : p = p' ↔ (p.tx = p'.tx ∧ p.ty = p'.ty ∧ p.lv = p'.lv ∧ p.cbw = p'.cbw ∧ p.cbh = p'.cbh ∧ p.prec = p'.prec ∧ p.style = p'.style ∧ p.order = p'.order ∧ p.layers = p'.layers ∧ p.rct = p'.rct ∧ p.sop = p'.sop ∧ p.eph = p'.eph) := by
    cases p
    cases p'
    simp
  refine ⟨decide (p.tx = p'.tx ∧ p.ty = p'.ty ∧ p.lv = p'.lv ∧ p.cbw = p'.cbw ∧ p.cbh = p'.cbh ∧ p.prec = p'.prec ∧ p.style = p'.style ∧ p.order = p'.order ∧ p.layers = p'.layers ∧ p.rct = p'.rct ∧ p.sop = p'.sop ∧ p.eph = p'.eph), fun w => ?_, by rw [decide_eq_true_iff]; exact e.symm⟩
  clear e
  unfold parV
  rw [show (10000 : Nat) = 9999 + 1 from rfl, run_equalIn_struct w 9999 31 _ _ (by kernel_rfl) (by kernel_rfl)]
  simp only [Program.fieldsOf, Try.underlying31]
  have u3 := Try.underlying3
  have u4 := Try.underlying4
  have a3 := Try.isAgg3
  have a4 := Try.isAgg4
  have z3 := Try.sizeOf3
  have z4 := Try.sizeOf4
  go_simp
  clear u3 u4 a3 a4 z3 z4
  (repeat' split) <;> simp [*]
end Go.Proofs.Ytlhlhlabnjfhcaa
