/-
  Arguments that are whole numbers.
-/
import Derived.Test.YtddjhemncniidaaDoorR2
namespace Go.Proofs.YtddjhemncniidaaDoor
set_option linter.unusedSimpArgs false
set_option linter.unusedVariables false
open Go.ChangeShapes Go.WideShapes Go.ChangeAt Go.RowKit Go.Joins
section
variable {H : Type} {enc : TypeId × Value → H} {W : World} {base : Nat}
theorem int_of {v : Value} {d : DataW H} {ps : List MemPlace} (hv : Value.okWide Tryd.prog W .any base 3 v) (h : DataW.Trod enc Tryd.prog W 0 (fun _ => true) true 3 v d ps) : ∃ s : Int, v = .int .i64 s ∧ (Lit.int .i64 s).wf = true := by
  obtain ⟨s, rfl⟩ := okWide_int Tryd.underlying3 hv
  obtain ⟨fuel, h⟩ := h
  obtain ⟨n, e, -, hn⟩ := DataW.trod_int Tryd.underlying3 h
  simp [Value.cells] at e
  subst e
  exact ⟨s, rfl, hn⟩
end
end Go.Proofs.YtddjhemncniidaaDoor
