/-
  What the rows of the laws share: the letters that the listed variable holds, the arguments opened, the post.
-/
import Derived.Test.YtddjhemncniidaaDoorCards
import Derived.Test.YtddjhemncniidaaDoorTie
import Derived.Test.YtddjhemncniidaaDoorT3
import Derived.WalkKit
import Derived.ProofKit
import Derived.OpenShut
import Derived.Deep.DeepHandedRow
import Derived.Lib.LaidTab
import Derived.Lib.SmallJoins
namespace Go.Proofs.YtddjhemncniidaaDoor
set_option linter.unusedSimpArgs false
set_option linter.unusedVariables false
open Go.ChangeShapes Go.WideShapes Go.ChangeAt Go.RowKit Go.Joins

theorem own : ownKnob Tryd.prog.godebug = none := by kernel_rfl
theorem laidOut : laidOutB Tryd.prog = true := by kernel_rfl
theorem gLetters : Tryd.prog.globalNamed "skipgraph/skipgraphworld.letters" = some 0 := by kernel_rfl
theorem gLettersType : (Tryd.prog.globals[(0 : Nat)]?).map (·.type) = some 66 := by kernel_rfl
theorem cellsL : Tryd.prog.cellsOf 66 = 6 := by kernel_rfl
theorem cellsS : Tryd.prog.cellsOf 9 = 1 := by kernel_rfl

/-- What the rows' list gives: the letters stand, each of one byte at the most. -/
theorem letters_of {W : World} (h : laidMetH Tryd.prog [("skipgraph/skipgraphworld.letters", Rows.laid_skipgraph_skipgraphworld_letters)] W) :
    0 < W.heap.size ∧ ∀ i, i < 6 → ∃ s : ByteArray, W.cell? ⟨0, i, none⟩ = some (.string s) ∧ s.size ≤ 1 := by
  obtain ⟨ps, ⟨g', t', cs, fuel, p, q, hg', ht', hvar, hd, _, _⟩, _⟩ := (h : laidMet Tryd.prog [("skipgraph/skipgraphworld.letters", Rows.laid_skipgraph_skipgraphworld_letters)] W)
  obtain rfl := Option.some.inj (gLetters.symm.trans hg')
  obtain rfl := Option.some.inj (gLettersType.symm.trans ht')
  obtain ⟨xs, m, rfl, hx, hlen, hxl, hel⟩ := DataW.trod_array Tryd.underlying66 hd
  simp only [cellsS, cellsL, Nat.mul_one] at hlen hel
  have hxs : xs.map (·.1) = [.lit (.string [97]), .lit (.string [98]), .lit (.string [99]), .lit (.string [0]), .lit (.string [255]), .lit (.string [109])] := by
    have := congrArg Prod.fst hx
    simpa [Rows.laid_skipgraph_skipgraphworld_letters] using this.symm
  have key : ∀ i, i < 6 → ∃ s : ByteArray, cs[i]? = some (.string s) ∧ s.size ≤ 1 := by
    intro i hi
    have h1 := hel i hi
    obtain ⟨y, hy⟩ : ∃ y, xs[i]? = some y := ⟨xs[i], List.getElem?_eq_getElem (by omega)⟩
    rw [hy] at h1
    obtain ⟨s, e1, rfl, _⟩ := DataW.trod_string Tryd.underlying9 h1
    have h2 : (xs.map (·.1))[i]? = some (.lit (.string s.data.toList)) := by simp [hy]
    rw [hxs] at h2
    have h3 : cs[i]? = some (.string s) := by
      have := congrArg (·[0]?) e1
      simpa [List.getElem?_take, List.getElem?_drop] using this
    refine ⟨s, h3, ?_⟩
    have h4 : s.data.toList.length = s.size := by simp
    have : i = 0 ∨ i = 1 ∨ i = 2 ∨ i = 3 ∨ i = 4 ∨ i = 5 := by omega
    rcases this with rfl | rfl | rfl | rfl | rfl | rfl <;> (simp at h2; rw [← h4, ← h2]; simp)
  have cell : ∀ i, i < 6 → W.cell? ⟨0, i, none⟩ = cs[i]? := fun i hi => by
    obtain ⟨s, h1, _⟩ := key i hi
    exact World.var?_cell gLetters hvar i
  have hex : ∀ i, i < 6 → ∃ s : ByteArray, W.cell? ⟨0, i, none⟩ = some (.string s) ∧ s.size ≤ 1 := fun i hi => by
    obtain ⟨s, h1, h2⟩ := key i hi
    exact ⟨s, by rw [cell i hi, h1], h2⟩
  refine ⟨?_, hex⟩
  obtain ⟨s, h1, _⟩ := hex 0 (by omega)
  exact World.block_lt_of_cell? W ⟨0, 0, none⟩ h1

/-- The numbers of the tape: the first argument of each law. -/
theorem src_of {H : Type} {enc : TypeId × Value → H} {W : World} {v : Value} {d : DataW H} {ps : List MemPlace} {base : Nat}
    (hL : laidMetH Tryd.prog [("skipgraph/skipgraphworld.letters", Rows.laid_skipgraph_skipgraphworld_letters)] W)
    (hv : Value.okWide Tryd.prog W .any base 22 v) (h : DataW.Trod enc Tryd.prog W 0 (fun _ => true) true 22 v d ps) : ∃ p n c, v = .slice p n c ∧ Src W p n c := by
  obtain ⟨gz, lt⟩ := letters_of hL
  obtain ⟨a0, len, cap, rfl⟩ := okWide_slice Tryd.underlying22 hv
  obtain ⟨fuel, hf⟩ := h
  refine ⟨a0, len, cap, rfl, ?_⟩
  rcases open_ints Tryd.underlying22 Tryd.underlying3 (by kernel_rfl) hf with ⟨hcs, hx⟩ | ⟨a, len', cap', zs, hcs, _, hl, hm, hz, hx, hcell, hwz⟩
  · simp only [Value.cells, List.cons.injEq, Value.slice.injEq, and_true] at hcs
    obtain ⟨rfl, rfl, rfl⟩ := hcs
    exact ⟨gz, lt, Nat.le_refl _, by omega, fun h => by omega⟩
  · simp only [Value.cells, List.cons.injEq, Value.slice.injEq, and_true] at hcs
    obtain ⟨rfl, rfl, rfl⟩ := hcs
    unfold maxLen at hm
    refine ⟨gz, lt, hl, by omega, fun h0 => ?_⟩
    have hzl : zs.length = cap := by simpa using hz
    obtain ⟨b, off, rfl, hc⟩ := ints_at hcell (by omega)
    refine ⟨b, off, rfl, World.block_lt_of_cell? W ⟨b, off + 0, none⟩ (hc 0 (by omega)), fun i hi => ?_⟩
    have hi' : i < zs.length := by omega
    have hw := hwz (zs.getD i 0) (by rw [List.getD_eq_getElem?_getD, List.getElem?_eq_getElem hi']; exact List.getElem_mem hi')
    have hb := bounds_i64 hw
    exact ⟨_, hb.1, hb.2, hc i hi'⟩

theorem trodAll_later {H : Type} {enc : TypeId × Value → H} {P : Program} (hl : laidOutB P = true) {W W' : World} (hb : Below W.heap.size W W') (ts : List TypeId) :
    ∀ (vs : List Value) (ds : List (DataW H)) (ps : List MemPlace), (ts.all fun t => P.readableRec t && decide (t < P.types.size)) = true →
      DataW.TrodAll enc P W 0 (fun _ => true) true ts vs ds ps → (∀ x ∈ ps, x.block < W.heap.size) → DataW.TrodAll enc P W' 0 (fun b => decide (b < W.heap.size)) true ts vs ds ps := by
  induction ts with
  | nil =>
    intro vs ds ps _ h _
    cases vs <;> cases ds <;> first | exact h | exact h.elim
  | cons t ts ih =>
    intro vs ds ps hr h hlt
    cases vs with
    | nil => exact h.elim
    | cons v vs =>
      cases ds with
      | nil => exact h.elim
      | cons d ds =>
        simp only [List.all_cons, Bool.and_eq_true, decide_eq_true_eq] at hr
        obtain ⟨p, q, h1, h2, rfl⟩ := h
        exact ⟨p, q, Below.trod hl hr.1.1 hr.1.2 h1 hb (fun x hx => hlt x (List.mem_append_left _ hx)), ih vs ds q (by simpa using hr.2) h2 (fun x hx => hlt x (List.mem_append_right _ hx)), rfl⟩

theorem law_post {H : Type} {enc : TypeId × Value → H} {f : Func} {s : ChangeSpec} {W W' : World} {args : Array Value} {ds gs : List (DataW H)} {before : List MemPlace}
    (hvars : s.vars = []) (hres : f.resultTypes = #[4]) (hr : (f.params.toList.all fun t => Tryd.prog.readableRec t && decide (t < Tryd.prog.types.size)) = true)
    (hfn : s.fn H (ds ++ gs) = { results := [.lit (.bool true)], args := ds }) (hW : DataW.Whole enc Tryd.prog f.params.toList s.vars false W args.toList ds gs before) (hk : Kp [] W W') :
    s.post enc Tryd.prog f false true false false W args (.bool true) W' := by
  have hb := hk.below
  have hlt : ∀ x ∈ before, x.block < W.heap.size := fun x hx => hW.lt x hx
  have hW' := hW
  obtain ⟨p, q, hA, hV, rfl, -, -⟩ := hW
  refine ⟨ds, gs, p ++ q, [], p, [], hW', ?_, ?_, ?_, Below.frame hb _, fun h => by cases h⟩
  · rw [hfn, hres]
    exact trodAll_mk1 (shut_bool Tryd.underlying4 true)
  · rw [hfn]
    exact trodAll_later laidOut hb _ _ _ _ hr hA (fun x hx => hlt x (List.mem_append_left _ hx))
  · rw [hfn, hvars]
    rfl

theorem bound_of {H : Type} {enc : TypeId × Value → H} {W : World} {v : Value} {d : DataW H} {ps : List MemPlace} {base : Nat}
    (hv : Value.okWide Tryd.prog W .any base 24 v) (h : DataW.Trod enc Tryd.prog W 0 (fun _ => true) true 24 v d ps) : ∃ a s, v = .agg #[.string a, .bool s] := by
  obtain ⟨c0, c1, y0, y1, m, rfl, rfl, rfl, h0, h1⟩ := open_agg2 Tryd.underlying24 (by kernel_rfl) (by kernel_rfl) hv h
  obtain ⟨a, e0, -, -⟩ := DataW.trod_string Tryd.underlying9 h0
  obtain ⟨b, e1, -⟩ := DataW.trod_bool Tryd.underlying4 h1
  simp at e0 e1
  subst e0 e1
  exact ⟨a, b, rfl⟩

/-- A world for the witness: the settled one, the letters as their initialiser lays them. -/
noncomputable def laidWorld (os : Os) : World :=
  { World.holding Tryd.prog os ⟨#[], #[], []⟩ with heap := (World.holding Tryd.prog os ⟨#[], #[], []⟩).heap.modify 0 fun
      | .cells _ t frozen => .cells #[.string ⟨#[97]⟩, .string ⟨#[98]⟩, .string ⟨#[99]⟩, .string ⟨#[0]⟩, .string ⟨#[255]⟩, .string ⟨#[109]⟩] t frozen
      | o => o }
end Go.Proofs.YtddjhemncniidaaDoor
