/-
  Plain words: lists of ranges, how they lie in memory; Tiles.
-/
import Derived.Test.YtddjhemncniidaaDoorK1
import Derived.Test.YtddjhemncniidaaDoorM1
namespace Go.Proofs.YtddjhemncniidaaDoor
set_option linter.unusedSimpArgs false
set_option linter.unusedVariables false
open Go.RowKit

def Rng.vals (r : Rng) : List Value := [.string r.lo.key, .bool r.lo.top, .string r.hi.key, .bool r.hi.top]
def rvals (l : List Rng) : List Value := l.flatMap Rng.vals
theorem rvals_cons (r : Rng) (l : List Rng) : rvals (r :: l) = r.vals ++ rvals l := rfl
theorem rvals_append (a b : List Rng) : rvals (a ++ b) = rvals a ++ rvals b := by simp [rvals]
theorem rvals_length : ∀ l : List Rng, (rvals l).length = 4 * l.length
  | [] => rfl
  | r :: l => by rw [rvals_cons, List.length_append, rvals_length l]; simp [Rng.vals]; omega
theorem rvals_get : ∀ (l : List Rng) (k : Nat) (r : Rng), l[k]? = some r → ∀ j u, r.vals[j]? = some u → (rvals l)[k * 4 + j]? = some u
  | [], k, r, h => by simp at h
  | r0 :: l, 0, r, h => by
    intro j u hj
    obtain rfl : r0 = r := by simpa using h
    have : j < 4 := by have := (List.getElem?_eq_some_iff.1 hj).1; simpa [Rng.vals] using this
    rw [rvals_cons, Nat.zero_mul, Nat.zero_add, List.getElem?_append_left (by simp [Rng.vals]; omega)]; exact hj
  | r0 :: l, k + 1, r, h => by
    intro j u hj
    have := rvals_get l k r (by simpa using h) j u hj
    rw [rvals_cons, List.getElem?_append_right (by simp [Rng.vals]; omega)]
    rw [show (k + 1) * 4 + j - (Rng.vals r0).length = k * 4 + j by simp [Rng.vals]; omega]
    exact this

/-- The value v reads, in w, as the list l of ranges. -/
structure RS (w : World) (v : Value) (l : List Rng) : Prop where
  ex : ∃ (p : Option Addr) (c : Nat), v = .slice p l.length c ∧ l.length ≤ c ∧ l.length ≤ 1000000 ∧
    (l ≠ [] → ∃ b o : Nat, p = some ⟨b, o, none⟩ ∧ b < w.heap.size ∧ ∀ j u, (rvals l)[j]? = some u → w.cell? ⟨b, o + j, none⟩ = some u)
theorem RS.kp {w w' : World} {v : Value} {l : List Rng} {X : List Nat} (h : RS w v l) (hk : Kp X w w') (hx : ∀ p n c, v = .slice (some p) n c → p.block ∉ X) : RS w' v l := by
  obtain ⟨p, c, rfl, h1, h2, h3⟩ := h.ex
  refine ⟨p, c, rfl, h1, h2, fun hn => ?_⟩
  obtain ⟨b, o, rfl, hb, hc⟩ := h3 hn
  exact ⟨b, o, rfl, Nat.lt_of_lt_of_le hb hk.size, fun j u hj => by rw [hk.cell (p := ⟨b, o + j, none⟩) hb (hx ⟨b, o, none⟩ _ _ rfl)]; exact hc j u hj⟩
theorem RS.kp0 {w w' : World} {v : Value} {l : List Rng} (h : RS w v l) (hk : Kp [] w w') : RS w' v l := h.kp hk fun _ _ _ _ => by simp

/-- The cells of element k, as the walk asks for them. -/
theorem RS.at {w : World} {p : Option Addr} {n c : Nat} {l : List Rng} (h : RS w (.slice p n c) l) {k : Nat} {r : Rng} (hk : l[k]? = some r) :
    ∃ b o : Nat, p = some ⟨b, o, none⟩ ∧ b < w.heap.size ∧ w.cell? ⟨b, o + k * 4, none⟩ = some (.string r.lo.key) ∧ w.cell? ⟨b, o + k * 4 + 1, none⟩ = some (.bool r.lo.top) ∧
      w.cell? ⟨b, o + k * 4 + 2, none⟩ = some (.string r.hi.key) ∧ w.cell? ⟨b, o + k * 4 + 3, none⟩ = some (.bool r.hi.top) := by
  obtain ⟨p', c', e, h1, h2, h3⟩ := h.ex
  simp only [Value.slice.injEq] at e
  obtain ⟨rfl, rfl, rfl⟩ := e
  obtain ⟨b, o, rfl, hb, hc⟩ := h3 (by intro e; subst e; simp at hk)
  have g := rvals_get l k r hk
  exact ⟨b, o, rfl, hb, hc _ _ (g 0 _ rfl), by have := hc _ _ (g 1 _ rfl); rwa [← Nat.add_assoc] at this, by have := hc _ _ (g 2 _ rfl); rwa [← Nat.add_assoc] at this, by have := hc _ _ (g 3 _ rfl); rwa [← Nat.add_assoc] at this⟩

/-- Tiles, from element i on. -/
def tgo (hi : Bnd) : Bnd → Nat → List Rng → Int × Int
  | a, i, [] => if cmp a hi < 0 then (i, 9) else (i, 0)
  | a, i, x :: rest => if emp x then (i, 1) else if cmp x.lo a > 0 then (i, 9) else if cmp x.lo a < 0 then (i, 10) else if cmp x.hi hi > 0 then (i, 2) else tgo hi x.hi (i + 1) rest
def tiles (l : List Rng) (r : Rng) : Int × Int := if vld r then tgo r.hi r.lo 0 l else (0, 1)

end Go.Proofs.YtddjhemncniidaaDoor
