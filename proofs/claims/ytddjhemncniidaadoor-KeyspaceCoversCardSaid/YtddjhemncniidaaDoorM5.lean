/-
  Plain words: differences of ranges.
-/
import Derived.Test.YtddjhemncniidaaDoorM2
import Derived.Test.YtddjhemncniidaaDoorM3
namespace Go.Proofs.YtddjhemncniidaaDoor
set_option linter.unusedSimpArgs false
set_option linter.unusedVariables false
open Go.RowKit
def subtract (a b : Rng) : List Rng := if emp a then [] else if emp (isect a b) then [a] else [⟨a.lo, (isect a b).lo⟩, ⟨(isect a b).hi, a.hi⟩].filter fun r => !emp r
theorem subtract_le (a b : Rng) : (subtract a b).length ≤ 2 := by
  unfold subtract
  split
  · simp
  · split
    · simp
    · exact Nat.le_trans (List.length_filter_le _ _) (by simp)
end Go.Proofs.YtddjhemncniidaaDoor
