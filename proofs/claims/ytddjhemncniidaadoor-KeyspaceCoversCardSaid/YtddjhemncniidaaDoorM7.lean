/-
  Plain words: the pieces into which a range is cut.
-/
import Derived.Test.YtddjhemncniidaaDoorM5
namespace Go.Proofs.YtddjhemncniidaaDoor
set_option linter.unusedSimpArgs false
set_option linter.unusedVariables false
open Go.RowKit

/-- The list l cuts the stretch from lo to hi. -/
inductive Cut (hi : Bnd) : Bnd → List Rng → Prop
  | last {lo : Bnd} : Cut hi lo [⟨lo, hi⟩]
  | cons {lo b : Bnd} {l : List Rng} : lo.lt b = true → b.lt hi = true → vb b = true → Cut hi b l → Cut hi lo (⟨lo, b⟩ :: l)
def CutTo (lo hi x : Bnd) (out : List Rng) : Prop := ∀ t, Cut hi x t → Cut hi lo (out ++ t)
theorem CutTo.nil {lo hi : Bnd} : CutTo lo hi lo [] := fun _ h => h
theorem CutTo.snoc {lo hi x b : Bnd} {out : List Rng} (h : CutTo lo hi x out) (h1 : x.lt b = true) (h2 : b.lt hi = true) (h3 : vb b = true) : CutTo lo hi b (out ++ [⟨x, b⟩]) := fun t ht => by
  rw [List.append_assoc]; exact h _ (.cons h1 h2 h3 ht)
theorem CutTo.done {lo hi x : Bnd} {out : List Rng} (h : CutTo lo hi x out) : Cut hi lo (out ++ [⟨x, hi⟩]) := h _ .last
end Go.Proofs.YtddjhemncniidaaDoor
