/-
  The tape in a walk.
-/
import Derived.Test.YtddjhemncniidaaDoorK8
import Derived.Test.YtddjhemncniidaaDoorT3
namespace Go.Proofs.YtddjhemncniidaaDoor
set_option linter.unusedSimpArgs false
set_option linter.unusedVariables false
open Go.RowKit
def tapeF (bt : Nat) : Fr := ⟨[bt], fun w => Tp w bt⟩
theorem tapeF_js {bt : Nat} {W : World} (hb : bt < W.heap.size) : ∀ w w' : World, (tapeF bt).J w → (∀ k, k < W.heap.size → w'.heap[k]? = w.heap[k]?) → (tapeF bt).J w' :=
  fun _ _ h hk => Tp.same h fun k hk' => hk k (Nat.lt_of_le_of_lt hk' hb)
/-- At the head of a function that is handed a tape. -/
theorem Rep.tape {w : World} {bt : Nat} (h : Tp w bt) : Rep w (tapeF bt) [] [] w := by
  refine ⟨Kp.refl _ _, by simp, .nil, by simp, by simp, h, tapeF_js h.size, fun x hx => ?_⟩
  obtain rfl : x = bt := by simpa [tapeF] using hx
  exact h.size
/-- What a law leaves of what stood before it. -/
theorem law_kp {w0 w1 w : World} {bt : Nat} {R : List Win} {S : List OB} (hk : Kp [] w0 w1) (hbt : w0.heap.size ≤ bt) (hR : Rep w1 (tapeF bt) R S w) : Kp [] w0 w := hk.hide hR.kp (by simp [tapeF]; exact hbt)
end Go.Proofs.YtddjhemncniidaaDoor
