/-
  Lemmas: Arguments of the laws, opened by their types
-/
import Derived.Test.YtohpjdeohpamaaaGreatDoorPA13
import Derived.Test.YtohpjdeohpamaaaGreatDoorPA14
import Derived.Deep.Slices
set_option linter.unusedSimpArgs false
set_option linter.unusedVariables false
namespace Go.Proofs.YtohpjdeohpamaaaGreatDoor
open Go.ChangeShapes Go.WideShapes Go.ChangeAt Go.RowKit Go.Joins
set_option maxRecDepth 100000
class Opn (P : Program) (T : TypeId) {α : outParam Type} (f : outParam (α → List D)) (I : outParam (α → Prop)) : Prop where
  out : ∀ {H : Type} {enc : TypeId × Value → H} {W : World} {fuel : Nat} {cs : List Value} {x : DataW H × List MemPlace}, DataW.trod enc P W 0 (fun _ => true) true fuel T cs = some x → ∃ a : α, I a ∧ RDs W (fun b => b < W.heap.size) (f a) cs
def inK (k : IntKind) (n : Int) : Prop := k.min ≤ n ∧ n ≤ k.max
section
variable {P : Program} {T E : TypeId} {W : World}
theorem opn_i64 (h : P.underlying T = some (.int .i64)) : Opn P T dsI (inK .i64) := ⟨fun hx => by
  obtain ⟨n, rfl, -, hw⟩ := DataW.trod_int h hx
  simp only [Lit.wf, Bool.and_eq_true, decide_eq_true_eq] at hw
  exact ⟨n, hw, .cons (.c rfl) .nil⟩⟩
theorem rds_flat {ok : Nat → Prop} {α : Type} {f : α → List D} : ∀ {l : List α} {vs : List (List Value)}, l.length = vs.length → (∀ (i : Nat) a v, l[i]? = some a → vs[i]? = some v → RDs W ok (f a) v) → RDs W ok (l.flatMap f) vs.flatten
  | [], [], _, _ => .nil
  | a :: l, v :: vs, hl, h => by
    rw [List.flatMap_cons, List.flatten_cons]
    exact (h 0 a v rfl rfl).append (rds_flat (by simpa using hl) fun i b u hb hu => h (i + 1) b u (by simpa using hb) (by simpa using hu))
theorem flatten_get {z : Nat} : ∀ {vs : List (List Value)} {j : Nat} {v : Value}, (∀ u ∈ vs, u.length = z) → vs.flatten[j]? = some v → ∃ u, vs[j / z]? = some u ∧ u[j % z]? = some v
  | [], j, v, _, h => by simp at h
  | u :: vs, j, v, hz, h => by
    have hu := hz u List.mem_cons_self
    rw [List.flatten_cons] at h
    by_cases hj : j < z
    · rw [List.getElem?_append_left (by omega)] at h
      exact ⟨u, by rw [Nat.div_eq_of_lt hj]; rfl, by rw [Nat.mod_eq_of_lt hj]; exact h⟩
    · rw [List.getElem?_append_right (by omega), hu] at h
      obtain ⟨q, h1, h2⟩ := flatten_get (fun x hx => hz x (List.mem_cons_of_mem _ hx)) h
      have hz0 : 0 < z := by
        apply Classical.byContradiction; intro h0
        have : z = 0 := by omega
        subst this
        have : q = [] := by
          rcases List.getElem?_eq_some_iff.1 h1 with ⟨h3, rfl⟩
          exact List.eq_nil_of_length_eq_zero (hz _ (List.mem_cons_of_mem _ (List.getElem_mem h3)))
        rw [this] at h2; simp at h2
      refine ⟨q, ?_, ?_⟩
      · rw [show j / z = (j - z) / z + 1 by rw [← Nat.add_div_right _ hz0]; congr 1; omega]; simpa using h1
      · rw [show j % z = (j - z) % z by rw [Nat.mod_eq_sub_mod (by omega)]]; exact h2
variable {H : Type} {enc : TypeId × Value → H}
theorem rv_one {ok : Nat → Prop} {ρ : Lc} {x : D} {v : Value} (h : RDs W ok [x] [v]) : RV W ok ρ (.d x) v := by
  cases h with | cons h _ => exact .d h
end
end Go.Proofs.YtohpjdeohpamaaaGreatDoor
