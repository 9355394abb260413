/-
  The length of a union.
-/
import Derived.Test.YtddjhemncniidaaDoorU4
namespace Go.Proofs.YtddjhemncniidaaDoor
set_option linter.unusedSimpArgs false
set_option linter.unusedVariables false
open Go.RowKit
theorem union_le (l : List Rng) : (union l).length ≤ l.length := by
  have h1 := mrgAll_le ((l.filter ne).mergeSort leLo)
  rw [List.length_mergeSort] at h1
  exact Nat.le_trans h1 (List.length_filter_le _ _)
end Go.Proofs.YtddjhemncniidaaDoor
