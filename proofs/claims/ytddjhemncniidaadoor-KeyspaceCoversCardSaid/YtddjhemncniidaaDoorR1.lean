/-
  Arguments of the laws, opened: ranges, strings, slices of ranges, numbers.
-/
import Derived.Test.YtddjhemncniidaaDoorR0
import Derived.Test.YtddjhemncniidaaDoorK5
namespace Go.Proofs.YtddjhemncniidaaDoor
set_option linter.unusedSimpArgs false
set_option linter.unusedVariables false
open Go.ChangeShapes Go.WideShapes Go.ChangeAt Go.RowKit Go.Joins
section
variable {H : Type} {enc : TypeId × Value → H} {W : World} {base : Nat} {fuel : Nat} {cs : List Value} {x : DataW H × List MemPlace}
theorem trod_bound (h : DataW.trod enc Tryd.prog W 0 (fun _ => true) true fuel 24 cs = some x) : ∃ b : Bnd, cs = [.string b.key, .bool b.top] ∧ b.key.size ≤ maxLen := by
  obtain ⟨y0, y1, n, -, hl, h0, h1⟩ := trod_struct2 Tryd.underlying24 h
  obtain ⟨a, e0, -, ha⟩ := DataW.trod_string Tryd.underlying9 h0
  obtain ⟨s, e1, -⟩ := DataW.trod_bool Tryd.underlying4 h1
  have hc : Tryd.prog.cellsOf 24 = 2 := by kernel_rfl
  have hs : Tryd.prog.cellsOf 9 = 1 := by kernel_rfl
  have hb : Tryd.prog.cellsOf 4 = 1 := by kernel_rfl
  rw [hc] at hl
  match cs, hl with
  | [c0, c1], _ =>
    simp only [hs, hb, List.drop_zero, List.drop_succ_cons, List.take_succ_cons, List.take_zero, List.cons.injEq, and_true] at e0 e1
    subst e0 e1
    exact ⟨⟨a, s⟩, rfl, ha⟩
theorem trod_range (h : DataW.trod enc Tryd.prog W 0 (fun _ => true) true fuel 35 cs = some x) : ∃ r : Rng, cs = r.vals ∧ r.lo.key.size ≤ maxLen ∧ r.hi.key.size ≤ maxLen := by
  obtain ⟨y0, y1, n, -, hl, h0, h1⟩ := trod_struct2 Tryd.underlying35 h
  obtain ⟨a, e0, ha⟩ := trod_bound h0
  obtain ⟨b, e1, hb⟩ := trod_bound h1
  have hc : Tryd.prog.cellsOf 35 = 4 := by kernel_rfl
  have hs : Tryd.prog.cellsOf 24 = 2 := by kernel_rfl
  rw [hc] at hl
  match cs, hl with
  | [c0, c1, c2, c3], _ =>
    simp only [hs, List.drop_zero, List.drop_succ_cons, List.take_succ_cons, List.take_zero, List.cons.injEq, and_true] at e0 e1
    obtain ⟨rfl, rfl⟩ := e0
    obtain ⟨rfl, rfl⟩ := e1
    exact ⟨⟨a, b⟩, rfl, ha, hb⟩
theorem range_of {v : Value} {d : DataW H} {ps : List MemPlace} (hv : Value.okWide Tryd.prog W .any base 35 v) (h : DataW.Trod enc Tryd.prog W 0 (fun _ => true) true 35 v d ps) :
    ∃ r : Rng, v = .agg #[.string r.lo.key, .bool r.lo.top, .string r.hi.key, .bool r.hi.top] := by
  obtain ⟨cs, rfl, -⟩ := okWide_struct Tryd.underlying35 hv
  obtain ⟨fuel, h⟩ := h
  obtain ⟨r, e, -, -⟩ := trod_range h
  refine ⟨r, ?_⟩
  obtain ⟨l⟩ := cs
  simp only [Value.cells] at e
  subst e
  rfl
theorem str_of {v : Value} {d : DataW H} {ps : List MemPlace} (hv : Value.okWide Tryd.prog W .any base 9 v) (h : DataW.Trod enc Tryd.prog W 0 (fun _ => true) true 9 v d ps) : ∃ s : ByteArray, v = .string s ∧ s.size ≤ maxLen := by
  obtain ⟨s, rfl⟩ := okWide_string Tryd.underlying9 hv
  obtain ⟨fuel, h⟩ := h
  obtain ⟨s', e, -, hs⟩ := DataW.trod_string Tryd.underlying9 h
  simp [Value.cells] at e
  subst e
  exact ⟨s, rfl, hs⟩
end
end Go.Proofs.YtddjhemncniidaaDoor
