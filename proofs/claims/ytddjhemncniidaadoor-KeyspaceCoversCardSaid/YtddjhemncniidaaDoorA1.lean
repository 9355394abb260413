/-
  What a law's argument reads as behind the making of the tape; a choice as a natural number.
-/
import Derived.Test.YtddjhemncniidaaDoorK9
namespace Go.Proofs.YtddjhemncniidaaDoor
set_option linter.unusedSimpArgs false
set_option linter.unusedVariables false
open Go.RowKit
theorem Rd.tape {w0 w1 : World} {z n bt : Nat} {v : Value} {xs : List Value} (h : Rd w0 z v n xs) (hk : Kp [] w0 w1) (hbt : w0.heap.size ≤ bt) : Rw w1 (tapeF bt) z v n xs := by
  obtain ⟨p, c, rfl, h1, h2⟩ := h.ex
  refine ⟨h.len, p, c, rfl, h1, ?_⟩
  rcases h2 with h2 | ⟨b, o, rfl, hb, hc⟩
  · exact .inl h2
  · exact .inr ⟨b, o, rfl, Nat.lt_of_lt_of_le hb hk.size, by simp [tapeF]; omega, fun j u hj => by rw [hk.cell (p := ⟨b, o + j, none⟩) hb (by simp)]; exact hc j u hj⟩
theorem Rw.now {w0 w : World} {X : Fr} {z n : Nat} {v : Value} {xs : List Value} (h : Rw w0 X z v n xs) (hk : Kp X.X w0 w) : Rw w X z v n xs := by
  obtain ⟨p, c, rfl, h1, h2⟩ := h.ex
  refine ⟨h.len, p, c, rfl, h1, ?_⟩
  rcases h2 with h2 | ⟨b, o, rfl, hb, hx, hc⟩
  · exact .inl h2
  · exact .inr ⟨b, o, rfl, Nat.lt_of_lt_of_le hb hk.size, hx, fun j u hj => by rw [hk.cell (p := ⟨b, o + j, none⟩) hb hx]; exact hc j u hj⟩
theorem next_nat {q n : Int} (h : Chosen n q) (hn : 1 ≤ n) : ∃ k : Nat, q = (k : Int) ∧ (k : Int) < n := by
  obtain ⟨h0, h1, -⟩ := h
  obtain ⟨k, rfl⟩ := Int.eq_ofNat_of_zero_le h0
  exact ⟨k, rfl, h1 hn⟩
end Go.Proofs.YtddjhemncniidaaDoor
