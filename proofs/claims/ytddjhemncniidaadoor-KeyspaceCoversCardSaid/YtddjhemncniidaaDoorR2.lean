/-
  An argument of a law that is a slice of ranges.
-/
import Derived.Test.YtddjhemncniidaaDoorR1
import Derived.Deep.Slices
namespace Go.Proofs.YtddjhemncniidaaDoor
set_option linter.unusedSimpArgs false
set_option linter.unusedVariables false
open Go.ChangeShapes Go.WideShapes Go.ChangeAt Go.RowKit Go.Joins
theorem rvals_row {w : World} {b o : Nat} {f : Nat → Rng} : ∀ n, (∀ i, i < n → ∀ j u, (f i).vals[j]? = some u → w.cell? ⟨b, o + i * 4 + j, none⟩ = some u) →
    ∀ j u, (rvals ((List.range n).map f))[j]? = some u → w.cell? ⟨b, o + j, none⟩ = some u := by
  intro n h j u hj
  have hlen : j < 4 * n := by have := (List.getElem?_eq_some_iff.1 hj).1; rw [rvals_length] at this; simpa using this
  have hr : ((List.range n).map f)[j / 4]? = some (f (j / 4)) := by
    rw [List.getElem?_map, List.getElem?_range (by omega)]; rfl
  have hv : ∃ u', (f (j / 4)).vals[j % 4]? = some u' := ⟨_, List.getElem?_eq_getElem (by simp [Rng.vals]; omega)⟩
  obtain ⟨u', hu'⟩ := hv
  have g := rvals_get _ _ _ hr _ _ hu'
  have e : j / 4 * 4 + j % 4 = j := by omega
  rw [e, hj] at g
  obtain rfl := Option.some.inj g
  have := h (j / 4) (by omega) _ _ hu'
  rwa [show o + j / 4 * 4 + j % 4 = o + j by omega] at this
theorem rngs_of {H : Type} {enc : TypeId × Value → H} {W : World} {v : Value} {d : DataW H} {ps : List MemPlace} {base : Nat}
    (hv : Value.okWide Tryd.prog W .any base 33 v) (h : DataW.Trod enc Tryd.prog W 0 (fun _ => true) true 33 v d ps) :
    ∃ p n c l, v = .slice p n c ∧ Rd W 4 (.slice p n c) n (rvals l) := by
  obtain ⟨a0, len, cap, rfl⟩ := okWide_slice Tryd.underlying33 hv
  obtain ⟨fuel, hf⟩ := h
  have hc4 : Tryd.prog.cellsOf 35 = 4 := by kernel_rfl
  rcases Go.Deep.open_slice Tryd.underlying33 hf with ⟨hcs, -⟩ | ⟨a, len', cap', m, k, D, Pl, hcs, -, hl, -, hm, -, hx⟩
  · simp only [Value.cells, List.cons.injEq, Value.slice.injEq, and_true] at hcs
    obtain ⟨rfl, rfl, rfl⟩ := hcs
    exact ⟨_, _, _, [], rfl, by simp [rvals], _, _, rfl, Nat.le_refl _, .inl rfl⟩
  · simp only [Value.cells, List.cons.injEq, Value.slice.injEq, and_true] at hcs
    obtain ⟨rfl, rfl, rfl⟩ := hcs
    rw [hc4] at hx
    have hm' : m = cap := by simpa using hm
    subst hm'
    have each : ∀ i, ∃ r : Rng, i < m → ∀ j u, r.vals[j]? = some u → W.cell? (a.add (i * 4 + j)) = some u := by
      intro i
      by_cases hi : i < m
      · obtain ⟨cs, h1, h2⟩ := hx i hi
        obtain ⟨r, rfl, -, -⟩ := trod_range h2
        obtain ⟨-, -, hcell⟩ := World.cells?_some h1
        refine ⟨r, fun _ j u hj => ?_⟩
        have hj4 : j < 4 := by have := (List.getElem?_eq_some_iff.1 hj).1; simpa [Rng.vals] using this
        rw [← Go.Deep.add_add, hcell j hj4, hj]
      · exact ⟨⟨⟨⟨#[]⟩, false⟩, ⟨⟨#[]⟩, false⟩⟩, fun h => absurd h hi⟩
    let f : Nat → Rng := fun i => Classical.choose (each i)
    have hfe : ∀ i, i < m → ∀ j u, (f i).vals[j]? = some u → W.cell? (a.add (i * 4 + j)) = some u := fun i => Classical.choose_spec (each i)
    refine ⟨_, len, m, (List.range len).map f, rfl, by rw [rvals_length]; simp [Nat.mul_comm], _, _, rfl, hl, ?_⟩
    by_cases h0 : len = 0
    · exact .inl h0
    right
    obtain ⟨b, off, spot⟩ := a
    have hc0 := hfe 0 (by omega) 0 _ rfl
    have hspot : spot = none := by simpa [Addr.add] using World.cell?_spot hc0
    subst hspot
    refine ⟨b, off, rfl, World.block_lt_of_cell? W ⟨b, off + (0 * 4 + 0), none⟩ (by rw [← Go.WideShapes.add_plain]; exact hc0), ?_⟩
    exact rvals_row len fun i hi j u hj => by rw [Nat.add_assoc, ← Go.WideShapes.add_plain]; exact hfe i (by omega) j u hj
end Go.Proofs.YtddjhemncniidaaDoor
