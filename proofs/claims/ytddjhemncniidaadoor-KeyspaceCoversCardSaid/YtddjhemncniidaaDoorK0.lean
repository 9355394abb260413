/-
  General words of these proofs: what a call leaves of the world ('Kp'), tapes, slices that read as lists. No program in sight.
-/
import Derived.WalkKit
import Derived.WalkSpells
import Derived.WalkLawsBesides
import Derived.Lib.Hide
import Derived.Deep.Draws
namespace Go.Proofs.YtddjhemncniidaaDoor
set_option linter.unusedSimpArgs false
set_option linter.unusedVariables false
open Go.RowKit

/-- Of what stood in w nothing has turned in w', but perhaps the blocks of the list X. -/
structure Kp (X : List Nat) (w w' : World) : Prop where
  os : w'.os = w.os
  tape : w'.tape = w.tape
  output : w'.output = w.output
  size : w.heap.size ≤ w'.heap.size
  block : ∀ k, k < w.heap.size → k ∉ X → w'.heap[k]? = w.heap[k]?

theorem Kp.refl (X : List Nat) (w : World) : Kp X w w := ⟨rfl, rfl, rfl, Nat.le_refl _, fun _ _ _ => rfl⟩
theorem Kp.trans {X : List Nat} {a b c : World} (h : Kp X a b) (k : Kp X b c) : Kp X a c :=
  ⟨k.os.trans h.os, k.tape.trans h.tape, k.output.trans h.output, Nat.le_trans h.size k.size, fun i hi hx => (k.block i (Nat.lt_of_lt_of_le hi h.size) hx).trans (h.block i hi hx)⟩
theorem Kp.sub {X Y : List Nat} {a b : World} (h : Kp X a b) (hs : ∀ k, k < a.heap.size → k ∈ X → k ∈ Y) : Kp Y a b :=
  ⟨h.os, h.tape, h.output, h.size, fun k hk hy => h.block k hk fun hx => hy (hs k hk hx)⟩
theorem Kp.of_nil {Y : List Nat} {a b : World} (h : Kp [] a b) : Kp Y a b := h.sub fun _ _ hx => by cases hx
theorem Kp.alloc {X : List Nat} {a w : World} (h : Kp X a w) (o : Obj) : Kp X a (w.alloc o) :=
  h.trans ⟨rfl, rfl, rfl, by simp, fun k hk _ => Below.heap_alloc _ _ _ hk⟩
theorem Kp.drew {X : List Nat} {a w : World} (h : Kp X a w) : Kp X a w.drew := ⟨h.os, h.tape, h.output, h.size, h.block⟩
theorem Kp.drewN {X : List Nat} {a w : World} (h : Kp X a w) (n : Nat) : Kp X a (w.drewN n) := by
  exact h.trans ⟨rfl, rfl, rfl, Nat.le_refl _, fun k _ _ => rfl⟩
theorem Kp.setCell {X : List Nat} {a w : World} (h : Kp X a w) {p : Addr} (hp : p.block ∈ X ∨ a.heap.size ≤ p.block) (u : Value) : Kp X a (w.setCell p u) := by
  refine ⟨h.os, h.tape, h.output, by simpa [World.setCell] using h.size, fun k hk hx => ?_⟩
  rw [Below.heap_setCell _ _ _ _ (by rcases hp with hp | hp; · intro e; subst e; exact hx hp
                                     · omega)]
  exact h.block k hk hx
theorem Kp.grown {X : List Nat} {a w w' : World} {row : Option Nat} (h : Kp X a w) (hg : w.grownBy w' row) (hr : ∀ k, row = some k → k ∈ X ∨ a.heap.size ≤ k) : Kp X a w' := by
  refine ⟨hg.os.trans h.os, hg.tape.trans h.tape, hg.output.trans h.output, Nat.le_trans h.size hg.size, fun k hk hx => ?_⟩
  rw [hg.block k (Nat.lt_of_lt_of_le hk h.size) (fun e => by rcases hr k e.symm with h1 | h1; · exact hx h1
                                                             · omega)]
  exact h.block k hk hx
/-- What turned in younger blocks alone is not seen. -/
theorem Kp.hide {X Y : List Nat} {a b c : World} (h : Kp X a b) (k : Kp Y b c) (hy : ∀ i ∈ Y, a.heap.size ≤ i) : Kp X a c :=
  ⟨k.os.trans h.os, k.tape.trans h.tape, k.output.trans h.output, Nat.le_trans h.size k.size, fun i hi hx => (k.block i (Nat.lt_of_lt_of_le hi h.size) fun hm => by have := hy i hm; omega).trans (h.block i hi hx)⟩
theorem Kp.cell {X : List Nat} {w w' : World} (h : Kp X w w') {p : Addr} (hp : p.block < w.heap.size) (hx : p.block ∉ X) : w'.cell? p = w.cell? p := World.cell?_of_block (w := w) (h.block p.block hp hx)
theorem Kp.frozen {X : List Nat} {w w' : World} (h : Kp X w w') {p : Addr} (hp : p.block < w.heap.size) (hx : p.block ∉ X) : w'.frozen? p = w.frozen? p := World.frozen?_of_block (w := w) (h.block p.block hp hx)
theorem Kp.below {w w' : World} (h : Kp [] w w') : Below w.heap.size w w' := ⟨h.os, h.tape, h.output, h.size, fun k hk => h.block k hk (by simp)⟩
theorem Kp.of_below {w w' : World} (h : Below w.heap.size w w') : Kp [] w w' := ⟨h.os, h.tape, h.output, h.size, fun k hk _ => h.block k hk⟩

/-- The rules by which the walk reads old cells behind a call. -/
theorem kcell {W w1 : World} (hb : Kp [] W w1) : (∀ b o, b < W.heap.size → w1.cell? ⟨b, o, none⟩ = W.cell? ⟨b, o, none⟩) ∧ (∀ b o, b < W.heap.size → w1.frozen? ⟨b, o, none⟩ = W.frozen? ⟨b, o, none⟩) ∧ (∀ b, b < W.heap.size → b < w1.heap.size) :=
  ⟨fun b o h => hb.cell (p := ⟨b, o, none⟩) h (by simp), fun b o h => hb.frozen (p := ⟨b, o, none⟩) h (by simp), fun _ h => Nat.lt_of_lt_of_le h hb.size⟩
theorem kcellX {X : List Nat} {W w1 : World} (hb : Kp X W w1) : (∀ b o, b < W.heap.size → b ∉ X → w1.cell? ⟨b, o, none⟩ = W.cell? ⟨b, o, none⟩) ∧ (∀ b o, b < W.heap.size → b ∉ X → w1.frozen? ⟨b, o, none⟩ = W.frozen? ⟨b, o, none⟩) ∧ (∀ b, b < W.heap.size → b < w1.heap.size) :=
  ⟨fun b o h hx => hb.cell (p := ⟨b, o, none⟩) h hx, fun b o h hx => hb.frozen (p := ⟨b, o, none⟩) h hx, fun _ h => Nat.lt_of_lt_of_le h hb.size⟩

/-- The world at hand under a name, with the facts F on it that serve from here on. -/
theorem nameWorld {P : Program} {c : Code} {Q : Exit → Act → World → Prop} {a : Act} {W : World} (F : World → Prop) (hF : F W) (h : ∀ W0, F W0 → c.wp P Q a W0) : c.wp P Q a W := h W hF

/-- What a region that draws carries along: of the named world nothing has turned, with the rules for reading. -/
theorem kS {W0 w' : World} (h : Kp [] W0 w') : Kp [] W0 w' ∧ (∀ b o, b < W0.heap.size → w'.cell? ⟨b, o, none⟩ = W0.cell? ⟨b, o, none⟩) ∧ (∀ b o, b < W0.heap.size → w'.frozen? ⟨b, o, none⟩ = W0.frozen? ⟨b, o, none⟩) ∧ (∀ b, b < W0.heap.size → b < w'.heap.size) := ⟨h, kcell h⟩

/- 'n < n + 1 + 1' and so on, which simp does not see by itself. -/
@[simp, go_sem] theorem lt_ones2 (n : Nat) : (n < n + 1 + 1) = True := by simp; omega
@[simp, go_sem] theorem lt_ones3 (n : Nat) : (n < n + 1 + 1 + 1) = True := by simp; omega
@[simp, go_sem] theorem lt_ones4 (n : Nat) : (n < n + 1 + 1 + 1 + 1) = True := by simp; omega
@[simp, go_sem] theorem lt_ones5 (n : Nat) : (n < n + 1 + 1 + 1 + 1 + 1) = True := by simp; omega
@[simp, go_sem] theorem lt_ones6 (n : Nat) : (n < n + 1 + 1 + 1 + 1 + 1 + 1) = True := by simp; omega
@[simp, go_sem] theorem lt_ones7 (n : Nat) : (n < n + 1 + 1 + 1 + 1 + 1 + 1 + 1) = True := by simp; omega
@[simp, go_sem] theorem lt_ones8 (n : Nat) : (n < n + 1 + 1 + 1 + 1 + 1 + 1 + 1 + 1) = True := by simp; omega

theorem ret_of {a b : Value} (h : a = b) : Ending.returned a = .returned b := by rw [h]
theorem ret_bool {a b : Bool} (h : a = b) : Ending.returned (.bool a) = .returned (.bool b) := by rw [h]
theorem ret_int {k : IntKind} {a b : Int} (h : a = b) : Ending.returned (.int k a) = .returned (.int k b) := by rw [h]
theorem ret_str {a b : ByteArray} (h : a = b) : Ending.returned (.string a) = .returned (.string b) := by rw [h]

end Go.Proofs.YtddjhemncniidaaDoor
