/-
  Ranges in slices: an element as a window.
-/
import Derived.Test.YtddjhemncniidaaDoorK4
import Derived.Test.YtddjhemncniidaaDoorM2
namespace Go.Proofs.YtddjhemncniidaaDoor
set_option linter.unusedSimpArgs false
set_option linter.unusedVariables false
open Go.RowKit

theorem Rd.at {w0 : World} {p : Option Addr} {n c k : Nat} {l : List Rng} {r : Rng} (h : Rd w0 4 (.slice p n c) n (rvals l)) (hk : l[k]? = some r) :
    ∃ b o : Nat, p = some ⟨b, o, none⟩ ∧ b < w0.heap.size ∧ ∀ j u, r.vals[j]? = some u → w0.cell? ⟨b, o + k * 4 + j, none⟩ = some u := by
  obtain ⟨p', c', e, h1, h2⟩ := h.ex
  simp only [Value.slice.injEq] at e
  obtain ⟨rfl, -, rfl⟩ := e
  have hl := h.len
  rw [rvals_length] at hl
  have hkl := (List.getElem?_eq_some_iff.1 hk).1
  rcases h2 with rfl | ⟨b, o, rfl, hb, hc⟩
  · omega
  · exact ⟨b, o, rfl, hb, fun j u hj => by rw [Nat.add_assoc]; exact hc _ _ (rvals_get l k r hk j u hj)⟩
/-- The element k of a slice of ranges, as a window. -/
theorem Rw.at {w0 w : World} {X : Fr} {R : List Win} {S : List OB} {p : Option Addr} {n c k : Nat} {l : List Rng} {r : Rng} (h : Rw w0 X 4 (.slice p n c) n (rvals l)) (hk : l[k]? = some r) (hR : Rep w0 X R S w) :
    ∃ b o : Nat, p = some ⟨b, o, none⟩ ∧ Rep w0 X (⟨b, o + k * 4, [.string r.lo.key, .bool r.lo.top, .string r.hi.key, .bool r.hi.top]⟩ :: R) S w := by
  obtain ⟨p', c', e, h1, h2⟩ := h.ex
  simp only [Value.slice.injEq] at e
  obtain ⟨rfl, -, rfl⟩ := e
  have hl := h.len
  rw [rvals_length] at hl
  have hkl := (List.getElem?_eq_some_iff.1 hk).1
  rcases h2 with rfl | ⟨b, o, rfl, hb, hx, hc⟩
  · omega
  · exact ⟨b, o, rfl, hR.addwin b (o + k * 4) r.vals hb hx fun j u hj => by rw [Nat.add_assoc]; exact hc _ _ (rvals_get l k r hk j u hj)⟩
theorem Rw.length {w0 : World} {X : Fr} {v : Value} {n : Nat} {l : List Rng} (h : Rw w0 X 4 v n (rvals l)) : l.length = n := by have := h.len; rw [rvals_length] at this; omega
/-- Elements of one cell. -/
theorem Rd.at1 {w0 : World} {p : Option Addr} {n c k : Nat} {xs : List Value} {u : Value} (h : Rd w0 1 (.slice p n c) n xs) (hk : xs[k]? = some u) :
    ∃ b o : Nat, p = some ⟨b, o, none⟩ ∧ b < w0.heap.size ∧ ∀ j v, ([u] : List Value)[j]? = some v → w0.cell? ⟨b, o + k + j, none⟩ = some v := by
  obtain ⟨p', c', e, h1, h2⟩ := h.ex
  simp only [Value.slice.injEq] at e
  obtain ⟨rfl, -, rfl⟩ := e
  have hl := h.len
  have hkl := (List.getElem?_eq_some_iff.1 hk).1
  rcases h2 with rfl | ⟨b, o, rfl, hb, hc⟩
  · omega
  · refine ⟨b, o, rfl, hb, fun j v hj => ?_⟩
    cases j with
    | zero => simp at hj; subst hj; exact hc _ _ hk
    | succ j => simp at hj
end Go.Proofs.YtddjhemncniidaaDoor
