/-
  Facts on this translation: orders, the making of variables.
-/
import Derived.Test.YtddjhemncniidaaDoorChecked
import Derived.Test.YtddjhemncniidaaDoorK1
import Derived.Deep.DeepCutAuto
namespace Go.Proofs.YtddjhemncniidaaDoor
set_option linter.unusedSimpArgs false
set_option linter.unusedVariables false
open Go.RowKit

theorem mixed : Tryd.prog.follows .mixedOrders = true := by kernel_rfl
theorem allocRange (o : Oper) (h : o.op = .alloc 35) (ρ : Operand → Value) (w : World) :
    (execOp ρ o).run Tryd.prog w = .ok (.value (.pointer (some ⟨w.heap.size, 0, none⟩))) (w.alloc (.cells #[.string ⟨#[]⟩, .bool false, .string ⟨#[]⟩, .bool false] 35)) := by
  unfold execOp; rw [h]; simp [go_sem]
end Go.Proofs.YtddjhemncniidaaDoor
