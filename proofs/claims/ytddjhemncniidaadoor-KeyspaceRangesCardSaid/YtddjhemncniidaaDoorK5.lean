/-
  Ranges in slices: an element as a window.
-/
import Derived.Test.YtddjhemncniidaaDoorK4
import Derived.Test.YtddjhemncniidaaDoorM2
namespace Go.Proofs.YtddjhemncniidaaDoor
set_option linter.unusedSimpArgs false
set_option linter.unusedVariables false
open Go.RowKit

theorem Rd.at {w0 : World} {p : Option Addr} {n c k : Nat} {l : List Rng} {r : Rng} (h : Rd w0 4 (.slice p n c) n (rvals l)) (hk : l[k]? = some r) :
    ∃ b o : Nat, p = some ⟨b, o, none⟩ ∧ b < w0.heap.size ∧ ∀ j u, r.vals[j]? = some u → w0.cell? ⟨b, o + k * 4 + j, none⟩ = some u := by
  obtain ⟨p', c', e, h1, h2⟩ := h.ex
  simp only [Value.slice.injEq] at e
  obtain ⟨rfl, -, rfl⟩ := e
  have hl := h.len
  rw [rvals_length] at hl
  have hkl := (List.getElem?_eq_some_iff.1 hk).1
  rcases h2 with rfl | ⟨b, o, rfl, hb, hc⟩
  · omega
  · exact ⟨b, o, rfl, hb, fun j u hj => by rw [Nat.add_assoc]; exact hc _ _ (rvals_get l k r hk j u hj)⟩
end Go.Proofs.YtddjhemncniidaaDoor
