/-
  Lemmas: What the rows of the laws share, for walks over states: the letters that the listed variable holds, the numbers of the tape, the post. / Arguments of the laws, opened, as values of a walk over states; from a walk over states to the row's claim. / Arguments that are rows and whole numbers. / Arguments of the laws: a byte. / Functions as models: a function's walk follows a term that a program has printed from its code ('sel': ways part, 'bnd', 'obnd': what is called or may fail, 'Ctl': ways out of a piece of code). / Models and walks: keys, bounds, ranges; the tape.
-/
import Derived.Test.YtjnnkpkbgdknmaaDoorCards
import Derived.Test.YtjnnkpkbgdknmaaDoorTie
import Derived.Test.YtjnnkpkbgdknmaaDoorPU2
import Derived.Test.YtjnnkpkbgdknmaaDoorPU3
import Derived.WalkKit
import Derived.ProofKit
import Derived.OpenShut
import Derived.Deep.DeepHandedRow
import Derived.Lib.LaidTab
import Derived.Lib.SmallJoins
import Derived.Deep.Slices
namespace Go.Proofs.YtjnnkpkbgdknmaaDoor
set_option linter.unusedSimpArgs false
set_option linter.unusedVariables false
open Go.ChangeShapes Go.WideShapes Go.ChangeAt Go.RowKit Go.Joins

theorem own : ownKnob Tryd.prog.godebug = none := by kernel_rfl
theorem laidOut : laidOutB Tryd.prog = true := by kernel_rfl
theorem gLetters : Tryd.prog.globalNamed "skipgraph/skipgraphworld.letters" = some 0 := by kernel_rfl
theorem gLettersType : (Tryd.prog.globals[(0 : Nat)]?).map (·.type) = some 83 := by kernel_rfl
theorem cellsL : Tryd.prog.cellsOf 83 = 6 := by kernel_rfl
theorem cellsS : Tryd.prog.cellsOf 9 = 1 := by kernel_rfl

theorem letters_ok {W : World} (h : laidMetH Tryd.prog [("skipgraph/skipgraphworld.letters", Rows.laid_skipgraph_skipgraphworld_letters)] W) :
    ∀ e ∈ GL, e.1 < W.heap.size ∧ ∀ (j : Nat) (v : Value), e.2[j]? = some v → W.cell? ⟨e.1, j, none⟩ = some v := by
  obtain ⟨ps, ⟨g', t', cs, fuel, p, q, hg', ht', hvar, hd, _, _⟩, _⟩ := (h : laidMet Tryd.prog [("skipgraph/skipgraphworld.letters", Rows.laid_skipgraph_skipgraphworld_letters)] W)
  obtain rfl := Option.some.inj (gLetters.symm.trans hg')
  obtain rfl := Option.some.inj (gLettersType.symm.trans ht')
  obtain ⟨xs, m, rfl, hx, hlen, hxl, hel⟩ := DataW.trod_array Tryd.underlying83 hd
  simp only [cellsS, cellsL, Nat.mul_one] at hlen hel
  have hxs : xs.map (·.1) = [.lit (.string [97]), .lit (.string [98]), .lit (.string [99]), .lit (.string [0]), .lit (.string [255]), .lit (.string [109])] := by
    have := congrArg Prod.fst hx
    simpa [Rows.laid_skipgraph_skipgraphworld_letters] using this.symm
  have key : ∀ i, i < 6 → ∃ s : ByteArray, cs[i]? = some (.string s) ∧ ([.lit (.string [97]), .lit (.string [98]), .lit (.string [99]), .lit (.string [0]), .lit (.string [255]), .lit (.string [109])] : List (DataW Unit))[i]? = some (.lit (.string s.data.toList)) := by
    intro i hi
    have h1 := hel i hi
    obtain ⟨y, hy⟩ : ∃ y, xs[i]? = some y := ⟨xs[i], List.getElem?_eq_getElem (by omega)⟩
    rw [hy] at h1
    obtain ⟨s, e1, rfl, _⟩ := DataW.trod_string Tryd.underlying9 h1
    have h2 : (xs.map (·.1))[i]? = some (.lit (.string s.data.toList)) := by simp [hy]
    rw [hxs] at h2
    refine ⟨s, ?_, h2⟩
    have := congrArg (·[0]?) e1
    simpa [List.getElem?_take, List.getElem?_drop] using this
  intro e he
  obtain rfl : e = _ := List.mem_singleton.1 he
  have cell : ∀ i, i < 6 → W.cell? ⟨0, i, none⟩ = cs[i]? := fun i hi => by
    obtain ⟨s, h1, _⟩ := key i hi
    exact World.var?_cell gLetters hvar i
  have bs : ∀ (s : ByteArray) (l : List UInt8), s.data.toList = l → s = ⟨l.toArray⟩ := fun s l h => by
    cases s with | mk a => simp only at h; subst h; simp
  have all : ∀ j v, ([.string ⟨#[97]⟩, .string ⟨#[98]⟩, .string ⟨#[99]⟩, .string ⟨#[0]⟩, .string ⟨#[255]⟩, .string ⟨#[109]⟩] : List Value)[j]? = some v → W.cell? ⟨0, j, none⟩ = some v := fun j v hv => by
    have hj : j < 6 := (List.getElem?_eq_some_iff.1 hv).1
    obtain ⟨s, h1, h2⟩ := key j hj
    rw [cell j hj, h1]
    have : j = 0 ∨ j = 1 ∨ j = 2 ∨ j = 3 ∨ j = 4 ∨ j = 5 := by omega
    rcases this with rfl | rfl | rfl | rfl | rfl | rfl <;> (simp at h2 hv; rw [← hv, bs s _ h2.symm])
  exact ⟨World.block_lt_of_cell? W ⟨0, 0, none⟩ (all 0 _ rfl), all⟩

set_option maxRecDepth 100000 in
theorem ints_of {H : Type} {enc : TypeId × Value → H} {W : World} {v : Value} {d : DataW H} {ps : List MemPlace} {base : Nat}
    (hv : Value.okWide Tryd.prog W .any base 22 v) (h : DataW.Trod enc Tryd.prog W 0 (fun _ => true) true 22 v d ps) : ∃ L : List Int, L.length ≤ 9223372036854775807 ∧ (∀ z ∈ L, -9223372036854775808 ≤ z ∧ z ≤ 9223372036854775807) ∧ RD W (fun b => b < W.heap.size) (i64s L) v := by
  obtain ⟨a0, len, cap, rfl⟩ := okWide_slice Tryd.underlying22 hv
  obtain ⟨fuel, hf⟩ := h
  rcases open_ints Tryd.underlying22 Tryd.underlying3 (by kernel_rfl) hf with ⟨hcs, hx⟩ | ⟨a, len', cap', zs, hcs, _, hl, hm, hz, hx, hcell, hwz⟩
  · simp only [Value.cells, List.cons.injEq, Value.slice.injEq, and_true] at hcs
    obtain ⟨rfl, rfl, rfl⟩ := hcs
    refine ⟨[], Nat.zero_le _, ?_, RD.nil _ _⟩
    intro z hz; cases hz
  · simp only [Value.cells, List.cons.injEq, Value.slice.injEq, and_true] at hcs
    obtain ⟨rfl, rfl, rfl⟩ := hcs
    unfold maxLen at hm
    have hzl : zs.length = cap := by simpa using hz
    have hlen : (zs.take len).length = len := by rw [List.length_take]; omega
    refine ⟨zs.take len, by omega, fun z hz' => bounds_i64 (hwz z (List.mem_of_mem_take hz')), ?_⟩
    by_cases h0 : zs.length = 0
    · have : zs = [] := List.eq_nil_of_length_eq_zero h0
      subst this
      obtain rfl : len = 0 := by simp at hzl; omega
      simp only [List.take_nil]
      exact .nil _ _
    obtain ⟨b, off, rfl, hc⟩ := ints_at hcell (by omega)
    have hrd : ∀ l : List Int, RDs W (fun b => b < W.heap.size) (l.flatMap dsI) (l.map (.int .i64)) := fun l => by
      induction l with
      | nil => exact .nil
      | cons z l ih => exact .cons (.c rfl) ih
    have key := RD.l (w := W) (ok := fun b => b < W.heap.size) (n := len) (c := cap) (o := off) hl (by unfold maxLen; omega) (World.block_lt_of_cell? W ⟨b, off + 0, none⟩ (hc 0 (by omega))) (hrd (zs.take len)) fun j v hj => by
      have hj' : j < (zs.take len).length := by simpa using (List.getElem?_eq_some_iff.1 hj).1
      have hj2 : j < zs.length := by omega
      rw [hc j hj2]
      rw [List.getElem?_map, List.getElem?_take, if_pos (by omega), List.getElem?_eq_getElem hj2] at hj
      rw [List.getD_eq_getElem?_getD, List.getElem?_eq_getElem hj2]
      simpa using hj
    rw [show i64s (zs.take len) = .l len ((zs.take len).flatMap dsI) by unfold i64s lst; rw [hlen]]
    exact key

theorem trodAll_later {H : Type} {enc : TypeId × Value → H} {P : Program} (hl : laidOutB P = true) {W W' : World} (hb : Below W.heap.size W W') (ts : List TypeId) :
    ∀ (vs : List Value) (ds : List (DataW H)) (ps : List MemPlace), (ts.all fun t => P.readableRec t && decide (t < P.types.size)) = true →
      DataW.TrodAll enc P W 0 (fun _ => true) true ts vs ds ps → (∀ x ∈ ps, x.block < W.heap.size) → DataW.TrodAll enc P W' 0 (fun b => decide (b < W.heap.size)) true ts vs ds ps := by
  induction ts with
  | nil =>
    intro vs ds ps _ h _
    cases vs <;> cases ds <;> first | exact h | exact h.elim
  | cons t ts ih =>
    intro vs ds ps hr h hlt
    cases vs with
    | nil => exact h.elim
    | cons v vs =>
      cases ds with
      | nil => exact h.elim
      | cons d ds =>
        simp only [List.all_cons, Bool.and_eq_true, decide_eq_true_eq] at hr
        obtain ⟨p, q, h1, h2, rfl⟩ := h
        exact ⟨p, q, Below.trod hl hr.1.1 hr.1.2 h1 hb (fun x hx => hlt x (List.mem_append_left _ hx)), ih vs ds q (by simpa using hr.2) h2 (fun x hx => hlt x (List.mem_append_right _ hx)), rfl⟩

theorem law_post {H : Type} {enc : TypeId × Value → H} {f : Func} {s : ChangeSpec} {W W' : World} {args : Array Value} {ds gs : List (DataW H)} {before : List MemPlace}
    (hvars : s.vars = []) (hres : f.resultTypes = #[4]) (hr : (f.params.toList.all fun t => Tryd.prog.readableRec t && decide (t < Tryd.prog.types.size)) = true)
    (hfn : s.fn H (ds ++ gs) = { results := [.lit (.bool true)], args := ds }) (hW : DataW.Whole enc Tryd.prog f.params.toList s.vars false W args.toList ds gs before) (hk : Kp [] W W') :
    s.post enc Tryd.prog f false true false false W args (.bool true) W' := by
  have hb := hk.below
  have hlt : ∀ x ∈ before, x.block < W.heap.size := fun x hx => hW.lt x hx
  have hW' := hW
  obtain ⟨p, q, hA, hV, rfl, -, -⟩ := hW
  refine ⟨ds, gs, p ++ q, [], p, [], hW', ?_, ?_, ?_, Below.frame hb _, fun h => by cases h⟩
  · rw [hfn, hres]
    exact trodAll_mk1 (shut_bool Tryd.underlying4 true)
  · rw [hfn]
    exact trodAll_later laidOut hb _ _ _ _ hr hA (fun x hx => hlt x (List.mem_append_left _ hx))
  · rw [hfn, hvars]
    rfl

noncomputable def laidWorld (os : Os) : World :=
  { World.holding Tryd.prog os ⟨#[], #[], []⟩ with heap := (World.holding Tryd.prog os ⟨#[], #[], []⟩).heap.modify 0 fun
      | .cells _ t frozen => .cells #[.string ⟨#[97]⟩, .string ⟨#[98]⟩, .string ⟨#[99]⟩, .string ⟨#[0]⟩, .string ⟨#[255]⟩, .string ⟨#[109]⟩] t frozen
      | o => o }
end Go.Proofs.YtjnnkpkbgdknmaaDoor
namespace Go.Proofs.YtjnnkpkbgdknmaaDoor
set_option linter.unusedSimpArgs false
set_option linter.unusedVariables false
open Go.ChangeShapes Go.WideShapes Go.ChangeAt Go.RowKit Go.Joins
set_option maxRecDepth 100000
section
variable {H : Type} {enc : TypeId × Value → H} {W : World} {base : Nat} {fuel : Nat} {cs : List Value} {x : DataW H × List MemPlace}
end
theorem law_of_spec {f : FuncId} {us : List V} (hs : Spec Tryd.prog f us [] fun u h => u = vB true ∧ h = []) {W : World} (hg : ∀ e ∈ GL, e.1 < W.heap.size ∧ ∀ (j : Nat) (v : Value), e.2[j]? = some v → W.cell? ⟨e.1, j, none⟩ = some v) {vs : List Value} (hvs : RVs W (fun b => b < W.heap.size) (fun _ => none) us vs) :
    Calls Tryd.prog f vs.toArray W fun e W' => e = .returned (.bool true) ∧ Kp [] W W' := by
  have hok : ∀ b, b < W.heap.size → okb (fun _ => True) W (fun _ => none) b := fun b hb => ⟨hb, trivial, fun k l h => (by cases h)⟩
  refine (hs.run (fun _ => True) W (fun _ => none) vs (fun _ _ => trivial) (hvs.mono (fun b hb => ⟨hok b hb, rfl⟩) fun _ _ h => h) ⟨fun k blk h => (by simp [look] at h), fun k k' blk blk' l l' b h => (by simp [look] at h), fun k l b h => (by cases h), fun e he => ⟨hok _ (hg e he).1, (hg e he).2⟩⟩ (fun k l h => (by cases h))).mono ?_
  rintro e W' ⟨r, u, h, ρ', rfl, ⟨rfl, rfl⟩, hst, hrv, -⟩
  rw [rv_c hrv]
  exact ⟨rfl, hst.os, hst.tape, hst.output, hst.size, fun b hb _ => hst.keep b hb fun k l _ hk => by cases hk⟩
end Go.Proofs.YtjnnkpkbgdknmaaDoor
namespace Go.Proofs.YtjnnkpkbgdknmaaDoor
set_option linter.unusedSimpArgs false
set_option linter.unusedVariables false
open Go.ChangeShapes Go.WideShapes Go.ChangeAt Go.RowKit Go.Joins
set_option maxRecDepth 100000
section
variable {H : Type} {enc : TypeId × Value → H} {W : World} {base : Nat}
end
end Go.Proofs.YtjnnkpkbgdknmaaDoor
namespace Go.Proofs.YtjnnkpkbgdknmaaDoor
set_option linter.unusedSimpArgs false
set_option linter.unusedVariables false
open Go.ChangeShapes Go.WideShapes Go.ChangeAt Go.RowKit Go.Joins
set_option maxRecDepth 100000
section
variable {H : Type} {enc : TypeId × Value → H} {W : World} {base : Nat}
theorem u8_of {v : Value} {d : DataW H} {ps : List MemPlace} (hv : Value.okWide Tryd.prog W .any base 5 v) (h : DataW.Trod enc Tryd.prog W 0 (fun _ => true) true 5 v d ps) : ∃ s : Int, v = .int .u8 s ∧ (Lit.int .u8 s).wf = true := by
  obtain ⟨s, rfl⟩ := okWide_int Tryd.underlying5 hv
  obtain ⟨fuel, h⟩ := h
  obtain ⟨n, e, -, hn⟩ := DataW.trod_int Tryd.underlying5 h
  simp [Value.cells] at e
  subst e
  exact ⟨s, rfl, hn⟩
theorem u8_bnd {s : Int} (h : (Lit.int .u8 s).wf = true) : 0 ≤ s ∧ s ≤ 255 := by
  simp [Lit.wf, IntKind.min, IntKind.max, IntKind.bits, IntKind.signed] at h
  omega
end
end Go.Proofs.YtjnnkpkbgdknmaaDoor
namespace Go.Proofs.YtjnnkpkbgdknmaaDoor
set_option linter.unusedSimpArgs false
set_option linter.unusedVariables false
open Go.RowKit
abbrev i64w (x : Int) : Int := IntKind.i64.wrap x
def sel {α : Type} (b : Bool) (x y : α) : α := match b with
  | true => x
  | false => y
def bnd {α β : Type} (x : α) (k : α → β) : β := k x
def obnd {α β : Type} (x : Option α) (k : α → Option β) : Option β := match x with
  | some a => k a
  | none => none
inductive Ctl (R S : Type) where
  | ret (r : R)
  | nxt (s : S)
def cbnd {R S : Type} (m : Ctl R S) (k : S → R) : R := match m with
  | .ret r => r
  | .nxt s => k s
def ocbnd {R S : Type} (m : Ctl R S) (k : S → Option R) : Option R := match m with
  | .ret r => some r
  | .nxt s => k s
section
variable {α β R S : Type}
theorem sel_t {b : Bool} {x y z : α} (h : b = true) (hm : sel b x y = z) : x = z := by subst h; exact hm
theorem sel_f {b : Bool} {x y z : α} (h : b = false) (hm : sel b x y = z) : y = z := by subst h; exact hm
theorem bnd_o {x : α} {k : α → β} {z : β} (hm : bnd x k = z) : ∃ y, x = y ∧ k y = z := ⟨x, rfl, hm⟩
theorem obnd_o {x : Option α} {k : α → Option β} {z : β} (hm : obnd x k = some z) : ∃ y, x = some y ∧ k y = some z := by
  cases x with
  | none => cases hm
  | some a => exact ⟨a, rfl, hm⟩
theorem ocbnd_r {r : R} {k : S → Option R} {z : R} (hm : ocbnd (.ret r) k = some z) : some r = some z := hm
theorem ocbnd_n {s : S} {k : S → Option R} {z : R} (hm : ocbnd (.nxt s) k = some z) : k s = some z := hm
theorem sel_ite (b : Bool) (x y : α) : sel b x y = if b = true then x else y := by cases b <;> rfl
theorem bnd_eq (x : α) (k : α → β) : bnd x k = k x := rfl
theorem obnd_some (x : α) (k : α → Option β) : obnd (some x) k = k x := rfl
theorem cbnd_ret (r : R) (k : S → R) : cbnd (.ret r) k = r := rfl
theorem cbnd_nxt (s : S) (k : S → R) : cbnd (.nxt s) k = k s := rfl
theorem ocbnd_ret (r : R) (k : S → Option R) : ocbnd (.ret r) k = some r := rfl
theorem ocbnd_nxt (s : S) (k : S → Option R) : ocbnd (.nxt s) k = k s := rfl
end
theorem by_dec {p g : Prop} [Decidable p] (h1 : decide p = true → g) (h2 : decide p = false → g) : g := by
  cases h : decide p with
  | true => exact h1 h
  | false => exact h2 h
def lget {α : Type} (xs : List α) (i : Int) : Option α := if 0 ≤ i then xs[i.toNat]? else none
def lsl {α : Type} (xs : List α) (lo hi : Int) : Option (List α) := if 0 ≤ lo ∧ lo ≤ hi ∧ hi ≤ xs.length then some ((xs.drop lo.toNat).take (hi.toNat - lo.toNat)) else none
def app {α : Type} (xs ys : List α) : Option (List α) := if xs.length + ys.length ≤ 4294967296 then some (xs ++ ys) else none
def sget (s : ByteArray) (i : Int) : Option Int := if 0 ≤ i ∧ i < s.size then some (s.get! i.toNat).toNat else none
def ssl (s : ByteArray) (lo hi : Int) : Option ByteArray := if 0 ≤ lo ∧ lo ≤ hi ∧ hi ≤ s.size then some (s.extract lo.toNat hi.toNat) else none
def scat (s t : ByteArray) : Option ByteArray := if s.size + t.size ≤ 9223372036854775807 then some (s ++ t) else none
def letg (i : Int) : Option ByteArray := if 0 ≤ i ∧ i < 6 then some (letter i.toNat) else none
def iquo (k : IntKind) (a b : Int) : Option Int := if b = 0 then none else some (k.wrap (a.tdiv b))
def irem (a b : Int) : Option Int := if b = 0 then none else some (a.tmod b)
def dsB (b : Bool) : List D := [dB b]
instance : Len dsB 1 := ⟨fun _ => rfl⟩
def dsS (b : ByteArray) : List D := [dS b]
instance : Len dsS 1 := ⟨fun _ => rfl⟩
def dsK (k : IntKind) (z : Int) : List D := [.c (.int k z)]
instance {k : IntKind} : Len (dsK k) 1 := ⟨fun _ => rfl⟩
def dsL {α : Type} (f : α → List D) (l : List α) : List D := [lst f l]
instance {α : Type} {f : α → List D} : Len (dsL f) 1 := ⟨fun _ => rfl⟩
def FU : Nat := 4294967296
theorem lget_o {α : Type} {xs : List α} {i : Int} {x : α} (h : lget xs i = some x) : ∃ m : Nat, i = m ∧ xs[m]? = some x := by
  unfold lget at h
  split at h
  · exact ⟨i.toNat, by omega, h⟩
  · cases h
theorem drop_c {α : Type} {l : List α} {m : Nat} (h : m < l.length) : ∃ x, l[m]? = some x ∧ l.drop m = x :: l.drop (m + 1) := ⟨l[m], List.getElem?_eq_getElem h, List.drop_eq_getElem_cons h⟩
theorem drop_n {α : Type} {l : List α} {m : Nat} (h : l.length ≤ m) : l.drop m = [] := List.drop_eq_nil_of_le h
section
variable {Γ : Cx} {k : Kont} {st st' : St} {x y : Code} {c : Operand} {b : Bool} {id : Nat}
theorem wc_cut' (I : St → Prop) (h : WC Γ x (.cut I k) st) (hk : ∀ st, I st → WK Γ k .normal st) : WC Γ x k st := fun a w hr => wp_mono (h a w hr) (by
  rintro e a w ⟨st, hk', hr⟩
  cases e with
  | normal => obtain ⟨st', h1, h2⟩ := hk'; exact ⟨st', hk st' h2, h1 a w hr⟩
  | _ => exact ⟨st, hk', hr⟩)
theorem wc_cond_tt (hb : b = true) (hc : ev st.sl c = some (vB b)) (h : WC Γ x k st) : WC Γ (.cond c x y) k st := wc_cond hc (fun _ => h) (fun e => by rw [hb] at e; cases e)
theorem wc_cond_ff (hb : b = false) (hc : ev st.sl c = some (vB b)) (h : WC Γ y k st) : WC Γ (.cond c x y) k st := wc_cond hc (fun e => by rw [hb] at e; cases e) (fun _ => h)
theorem lt_t {m n : Nat} (h : m < n) : decide ((m : Int) < (n : Int)) = true := by simpa using h
theorem lt_f {m n : Nat} (h : n ≤ m) : decide ((m : Int) < (n : Int)) = false := by simpa using h
theorem wc_len (t : Nat) {n : Nat} {xs : List D} (h : look st.sl t = some (.d (.l n xs))) (hk : n ≤ 9223372036854775807 → WC Γ x k st) : WC Γ x k st := fun a w hr => by
  refine hk ?_ a w hr
  obtain ⟨ρ, hr⟩ := hr
  obtain ⟨v, -, h2⟩ := hr.sr t _ h
  cases h2 with
  | d h2 =>
    cases h2 with
    | nil => omega
    | l _ h3 => exact h3
end
section
variable {P : Program} {o : Oper} {H : Hp} {sl : List (Nat × V)} {x y z : Operand} {T U E t : TypeId} {zz bytes : Nat} {i j : Int} {s s' : ByteArray} {kk : IntKind} {k d k' : Nat}
theorem o_inc {m n : Nat} (hm : m < n) (hn : n ≤ 9223372036854775807) (hop : o.op = .binOp .add T x y U) (hx : ev sl x = some (vI (m : Int))) (hy : ev sl y = some (vI 1)) : OpD P o H sl 0 0 (vI ((m + 1 : Nat) : Int)) [] := o_add hop hx hy (by rw [w64 (by omega) (by omega)]; omega)
theorem o_ixm {α : Type} {f : α → List D} {xs : List α} {ys : List D} {m : Nat} {a : α} (hg : xs[m]? = some a) [hS : Sl P t E zz bytes] [hL : Len f zz] (hop : o.op = .indexAddr t x y) (hx : ev sl x = some (.d (lst f xs))) (hy : ev sl y = some (vI (m : Int))) (hz : f a = ys) : OpD P o H sl 0 0 (.q ys) [] := by
  obtain ⟨h1, h2⟩ := List.getElem?_eq_some_iff.1 hg
  exact o_ixe hop hx hy hL.len rfl h1 (by rw [h2]; exact hz)
theorem o_ixg {α : Type} {f : α → List D} {xs : List α} {ys : List D} {a : α} (hg : lget xs i = some a) [hS : Sl P t E zz bytes] [hL : Len f zz] (hop : o.op = .indexAddr t x y) (hx : ev sl x = some (.d (lst f xs))) (hy : ev sl y = some (vI i)) (hz : f a = ys) : OpD P o H sl 0 0 (.q ys) [] := by
  obtain ⟨m, rfl, h1⟩ := lget_o hg
  exact o_ixm h1 hop hx hy hz
theorem o_lsl {α : Type} {f : α → List D} {lo hi : Option Operand} {xs ys : List α} (hg : lsl xs i j = some ys) [hS : Sl P t E zz bytes] [hL : Len f zz] (hop : o.op = .slice t x lo hi none) (hx : ev sl x = some (.d (lst f xs))) (hlo : evo sl 0 lo = some (vI i)) (hhi : evo sl (xs.length : Int) hi = some (vI j)) : OpD P o H sl 0 0 (.d (lst f ys)) [] := by
  unfold lsl at hg
  split at hg
  · rename_i h
    exact o_slice_ti hop hx hlo hhi h.1 h.2.1 h.2.2 hL.len (Option.some.inj hg)
  · cases hg
theorem o_sget {n : Int} (hg : sget s i = some n) (hop : o.op = .index t x y) (hx : ev sl x = some (vS s)) (hy : ev sl y = some (vI i)) (ht : P.underlying t = some .string) : OpD P o H sl 0 0 (.d (.c (.int .u8 n))) [] := by
  unfold sget at hg
  split at hg
  · rename_i h
    rw [← Option.some.inj hg]
    exact o_index_si hop hx hy ht h.1 h.2
  · cases hg
theorem o_ssl {lo hi : Option Operand} (hg : ssl s i j = some s') (hop : o.op = .slice t x lo hi none) (hx : ev sl x = some (vS s)) (ht : P.underlying t = some .string) (hlo : evo sl 0 lo = some (vI i)) (hhi : evo sl (s.size : Int) hi = some (vI j)) : OpD P o H sl 0 0 (vS s') [] := by
  unfold ssl at hg
  split at hg
  · rename_i h
    exact o_slice_si hop hx ht hlo hhi h.1 h.2.1 h.2.2 (Option.some.inj hg)
  · cases hg
theorem o_scat {r : ByteArray} (hg : scat s s' = some r) (hop : o.op = .binOp .add T x y U) (hx : ev sl x = some (vS s)) (hy : ev sl y = some (vS s')) : OpD P o H sl 0 0 (vS r) [] := by
  unfold scat at hg
  split at hg
  · rename_i h
    rw [← Option.some.inj hg]
    exact o_sadd hop hx hy h
  · cases hg
theorem o_letg {r : ByteArray} (hg : letg i = some r) (hop : o.op = .indexAddr T (.global 0) y) (hy : ev sl y = some (vI i)) (hTE : Ar P T 6 E) (hE : Ty P E 1 false) : OpD P o H sl 0 0 (.q [dS r]) [] := by
  unfold letg at hg
  split at hg
  · rename_i h
    rw [← Option.some.inj hg]
    exact o_ixl hop hy hTE hE (Int.toNat_of_nonneg h.1).symm (by omega)
  · cases hg
theorem o_irem {n : Int} (hg : irem i j = some n) (hop : o.op = .binOp .rem T x y U) (hx : ev sl x = some (.d (.c (.int kk i)))) (hy : ev sl y = some (.d (.c (.int kk j)))) : OpD P o H sl 0 0 (.d (.c (.int kk n))) [] := by
  unfold irem at hg
  split at hg
  · cases hg
  · exact o_rem hop hx hy (by assumption) (Option.some.inj hg)
theorem o_ixa {α : Type} {f : α → V} {es : List α} {a : α} {len : Nat} (hg : lget es i = some a) (hop : o.op = .index t x y) (hx : ev sl x = some (.a (es.map f))) (hy : ev sl y = some (vI i)) (hTE : Ar P t len E) (hE : Ty P E 1 false) (hl : es.length = len) : OpD P o H sl 0 0 (f a) [] := by
  obtain ⟨m, rfl, h1⟩ := lget_o hg
  have h2 := (List.getElem?_eq_some_iff.1 h1).1
  refine o_index_a hop hx hy hTE hE (by omega) (by omega) ?_
  rw [List.getElem?_map, Int.toNat_natCast, h1]; rfl
theorem app_o {α : Type} {xs ys r : List α} (h : app xs ys = some r) : xs.length + ys.length ≤ 4294967296 ∧ r = xs ++ ys := by
  unfold app at h
  split at h
  · exact ⟨by assumption, (Option.some.inj h).symm⟩
  · cases h
theorem le_by {n bytes : Nat} (h : n ≤ 4294967296) (hb : Nat.ble bytes 32768 = true) : n * bytes ≤ 140737488355328 := by
  have := Nat.mul_le_mul h (Nat.le_of_ble_eq_true hb); omega
theorem n_appn {α : Type} {f : α → List D} {ys r : List α} (hg : app [] ys = some r) [hS : Sl P t E zz bytes] [hL : Len f zz] (hop : o.op = .call { callee := .builtin .append, args := #[x, y], argTypes := #[t, t] }) (hd : o.dst = some d) (hk : d + 100 = k) (hx : ev sl x = some (.d (.c (.slice none 0 0)))) (hy : ev sl y = some (.d (lst f ys))) (hb : Nat.ble bytes 32768 = true) : OpD P o H sl k 1 (.h k) [(k, some (arrT E zz f r))] := by
  obtain ⟨h1, rfl⟩ := app_o hg
  simp only [List.length_nil, Nat.zero_add] at h1
  exact n_append_nt hop hd hk hx hy hL.len (le_by h1 hb) (by omega)
theorem n_app {α : Type} {f : α → List D} {xs ys r : List α} (hg : app xs ys = some r) [hS : Sl P t E zz bytes] [hL : Len f zz] (hop : o.op = .call { callee := .builtin .append, args := #[x, y], argTypes := #[t, t] }) (hd : o.dst = some d) (hk : d + 100 = k') (hx : ev sl x = some (.h k)) (hy : ev sl y = some (.d (lst f ys))) (hH : look H k = some (some (arrT E zz f xs))) (hb : Nat.ble bytes 32768 = true) (hkk : (!Nat.beq k k') = true) : OpD P o H sl k' 1 (.h k') [(k, none), (k', some (arrT E zz f r))] := by
  obtain ⟨h1, rfl⟩ := app_o hg
  exact n_append_t hop hd hk hx hy hH hL.len (le_by h1 hb) (by omega) hkk
end
section
variable {Γ : Cx} {P : Program} {k : Kont} {sl : List (Nat × V)} {H hp : Hp} {o : Oper} {ops : Array Oper} {i an d kt : Nat} {ts : List Nat} {r : List PI} {F : List Ft} {f : FuncId} {us uc : List V} {x : Operand} {xs : Array Operand} {ats : Array TypeId} {u u' : V} {rest : List Oper} {blk blk0 blk' blk1 : Blk}
theorem wd_app {α : Type} {f : α → List D} {xs ys rr : List α} {kk k' E z bytes t : Nat} {y : Operand} (hg' : app xs ys = some rr) [hS : Sl Γ.P t E z bytes] [hL : Len f z] (hop : o.op = .call { callee := .builtin .append, args := #[x, y], argTypes := #[t, t] }) (hd : o.dst = some d) (hkd : d + 100 = k') (hx : ev (keep ts sl) x = some (.h kk)) (hy : ev (keep ts sl) y = some (.d (lst f ys))) (hH : look hp kk = some (some (arrT E z f xs))) (hb : Nat.ble bytes 32768 = true)
    (hkk : (!Nat.beq kk k') = true) (hw : Wt ops o (keep ts sl) true) (hdl : Nat.blt d Γ.nt = true) (hfr : freshB hp k' 1 = true) (hfo : okF ⟨⟨i, an, ts⟩, [kk], [kk, k'], k', 1⟩ F = true)
    (hk : WD Γ ops k r (⟨⟨i, an, ts⟩, [kk], [kk, k'], k', 1⟩ :: F) ⟨(d, .h k') :: sl, (kk, none) :: (k', some (arrT E z f rr)) :: hp⟩) : WO Γ ops k o i an ts r F ⟨sl, hp⟩ := by
  obtain ⟨h1, rfl⟩ := app_o hg'
  exact wd_append_t hop hd hkd hx hy hH hL.len (le_by h1 hb) (by omega) hkk hw hdl hfr hfo hk
theorem wl_cs (hs : Spec Γ.P f us [] fun u1 h1 => u1 = u ∧ h1 = []) (hop : o.op = .call { callee := .value x, args := xs, argTypes := ats }) (hx : ev sl x = some (.d (.c (.func (.func f) #[] #[])))) (ha : evl sl xs.toList = some uc) (hv : Vws [] [] uc us) (hu : u.ren (rn [] 100000) = u)
    (hg : o.guard = none) (hd : o.dst = some d) (hdl : Nat.blt d Γ.nt = true) (hf : freshB hp 100000 100 = true) (hk : WL Γ ops rest k ⟨(d, u) :: sl, hp⟩) : WL Γ ops (o :: rest) k ⟨sl, hp⟩ := wl_cp (o_callp 100000 hs hop hx ha hv hu) hg hd hdl hf hk
theorem wd_cs (hs : Spec Γ.P f us [] fun u1 h1 => u1 = u ∧ h1 = []) (hop : o.op = .call { callee := .value x, args := xs, argTypes := ats }) (hx : ev (keep ts sl) x = some (.d (.c (.func (.func f) #[] #[])))) (ha : evl (keep ts sl) xs.toList = some uc) (hv : Vws [] [] uc us) (hu : u.ren (rn [] 100000) = u)
    (hd : o.dst = some d) (hw : Wt ops o (keep ts sl) true) (hdl : Nat.blt d Γ.nt = true) (hfr : freshB hp 100000 100 = true) (hf : okF ⟨⟨i, an, ts⟩, [], [], 100000, 100⟩ F = true)
    (hk : WD Γ ops k r (⟨⟨i, an, ts⟩, [], [], 100000, 100⟩ :: F) ⟨(d, u) :: sl, hp⟩) : WO Γ ops k o i an ts r F ⟨sl, hp⟩ := wd_cp [] (o_callp 100000 hs hop hx ha hv hu) hd hw hdl hfr hf hk
theorem o_io (hs : Spec P f us [(0, some blk)] fun u1 h1 => u1 = u ∧ h1 = [(0, some blk')]) (kt : Nat) (hop : o.op = .call { callee := .value x, args := xs, argTypes := ats }) (hx : ev sl x = some (.d (.c (.func (.func f) #[] #[])))) (ha : evl sl xs.toList = some uc) (hv : Vws [] [(0, kt)] uc us)
    (hH : look H kt = some (some blk0)) (hb : Vb [] [(0, kt)] blk0 blk) (hu : u.ren (rn [(0, kt)] 100000) = u) (hb' : blk'.ren (rn [(0, kt)] 100000) = blk') : OpV P o H sl 100000 100 fun u' h' => u' = u ∧ h' = [(kt, some blk')] := by
  have hal : aliveB H [(0, kt)] = true := by simp only [aliveB, List.all_cons, List.all_nil, Bool.and_true, hH]
  have h0 : look [(0, kt)] 0 = some kt := rfl
  refine (o_call 100000 [(0, kt)] hs hop hx ha hv (VH.cons h0 hH hb VH.nil) hal rfl (by rfl)).mono ?_
  rintro u1 h1 ⟨u0, h0', ⟨rfl, rfl⟩, rfl, rfl⟩
  refine ⟨hu, ?_⟩
  simp only [renH, Option.map_some, hb']
  rfl
theorem wl_io (hs : Spec Γ.P f us [(0, some blk)] fun u1 h1 => u1 = u ∧ h1 = [(0, some blk')]) (kt : Nat) (hop : o.op = .call { callee := .value x, args := xs, argTypes := ats }) (hx : ev sl x = some (.d (.c (.func (.func f) #[] #[])))) (ha : evl sl xs.toList = some uc) (hv : Vws [] [(0, kt)] uc us)
    (hH : look hp kt = some (some blk0)) (hb : Vb [] [(0, kt)] blk0 blk) (hu : u.ren (rn [(0, kt)] 100000) = u) (hb' : blk'.ren (rn [(0, kt)] 100000) = blk')
    (hg : o.guard = none) (hd : o.dst = some d) (hdl : Nat.blt d Γ.nt = true) (hf : freshB hp 100000 100 = true) (hk : WL Γ ops rest k ⟨(d, u) :: sl, (kt, some blk') :: hp⟩) : WL Γ ops (o :: rest) k ⟨sl, hp⟩ :=
  wl_v (o_io hs kt hop hx ha hv hH hb hu hb') hg hd hdl hf (by rintro _ _ ⟨rfl, rfl⟩; exact hk)
theorem wd_io (hs : Spec Γ.P f us [(0, some blk)] fun u1 h1 => u1 = u ∧ h1 = [(0, some blk')]) (kt : Nat) (hop : o.op = .call { callee := .value x, args := xs, argTypes := ats }) (hx : ev (keep ts sl) x = some (.d (.c (.func (.func f) #[] #[])))) (ha : evl (keep ts sl) xs.toList = some uc) (hv : Vws [] [(0, kt)] uc us)
    (hH : look hp kt = some (some blk0)) (hb : Vb [] [(0, kt)] blk0 blk) (hu : u.ren (rn [(0, kt)] 100000) = u) (hb' : blk'.ren (rn [(0, kt)] 100000) = blk')
    (hd : o.dst = some d) (hw : Wt ops o (keep ts sl) true) (hdl : Nat.blt d Γ.nt = true) (hfr : freshB hp 100000 100 = true) (hf : okF ⟨⟨i, an, ts⟩, [kt], [kt], 100000, 100⟩ F = true) (hnd : (r.all fun q => bitN q.an i) = true)
    (hk : WD Γ ops k r (⟨⟨i, an, ts⟩, [kt], [kt], 100000, 100⟩ :: F) ⟨(d, u) :: sl, (kt, some blk') :: hp⟩) : WO Γ ops k o i an ts r F ⟨sl, hp⟩ :=
  wd_v [kt] [kt] (o_io hs kt hop hx ha hv (by rw [keep1]; exact hH) hb hu hb') hd hw hdl hfr hf hnd (by rintro _ _ ⟨rfl, rfl⟩; exact inW_1 _ _) (by rintro _ _ ⟨rfl, rfl⟩; exact hk)
end
section
variable {Γ : Cx} {P : Program} {k : Kont} {sl : List (Nat × V)} {H hp h h' : Hp} {o : Oper} {ops : Array Oper} {i an d kt : Nat} {ts : List Nat} {r : List PI} {F : List Ft} {f : FuncId} {us uc : List V} {x : Operand} {xs : Array Operand} {ats : Array TypeId} {u u' : V} {rest : List Oper}
theorem o_mkn (hs : Spec P f us [] fun u1 h1 => u1 = u ∧ h1 = h) (M : Nat) (hop : o.op = .call { callee := .value x, args := xs, argTypes := ats }) (hx : ev sl x = some (.d (.c (.func (.func f) #[] #[])))) (ha : evl sl xs.toList = some uc) (hv : Vws [] [] uc us)
    (hu : u.ren (rn [] M) = u') (hh : renH (rn [] M) h = h') : OpV P o H sl M 100 fun u1 h1 => u1 = u' ∧ h1 = h' := by
  refine (o_call M [] hs hop hx ha hv VH.nil rfl rfl rfl).mono ?_
  rintro u1 h1 ⟨u0, h0', ⟨rfl, rfl⟩, rfl, rfl⟩
  exact ⟨hu, hh⟩
theorem wl_mkn (hs : Spec Γ.P f us [] fun u1 h1 => u1 = u ∧ h1 = h) (M : Nat) (hop : o.op = .call { callee := .value x, args := xs, argTypes := ats }) (hx : ev sl x = some (.d (.c (.func (.func f) #[] #[])))) (ha : evl sl xs.toList = some uc) (hv : Vws [] [] uc us)
    (hu : u.ren (rn [] M) = u') (hh : renH (rn [] M) h = h') (hg : o.guard = none) (hd : o.dst = some d) (hdl : Nat.blt d Γ.nt = true) (hf : freshB hp M 100 = true) (hk : WL Γ ops rest k ⟨(d, u') :: sl, h' ++ hp⟩) : WL Γ ops (o :: rest) k ⟨sl, hp⟩ :=
  wl_v (o_mkn hs M hop hx ha hv hu hh) hg hd hdl hf (by rintro _ _ ⟨rfl, rfl⟩; exact hk)
end
section
variable {P : Program} {o : Oper} {H : Hp} {sl : List (Nat × V)} {x y : Operand} {T U E t : TypeId} {zz bytes n off k : Nat} {i : Int} {ag : Bool} {α : Type} {f : α → List D} {xs : List α} {a a' : α} {u : V}
end
section
variable {Γ : Cx} {k : Kont} {sl : List (Nat × V)} {hp : Hp} {o : Oper} {ops : Array Oper} {i an d : Nat} {ts : List Nat} {r : List PI} {F : List Ft} {x y : Operand} {T E t : TypeId} {zz bytes n off kk : Nat} {j : Int} {ag : Bool} {α : Type} {f : α → List D} {xs ys : List α} {a a' : α} {u : V}
end
section
variable {Γ : Cx} {P : Program} {ks : List Nat} {rs : List ResultVar} {Ψ : V → Hp → Prop} {st st' : St} {us : List V} {u : V} {h : Hp} {k : Kont} {n m : Nat}
theorem wk_ret (h4 : Ψ u []) (h1 : resV st rs = some us := by rfl) (h2 : resT P st rs := by (repeat (first | exact trivial | refine resT_cell rfl rfl (by exact inferInstance) ?_))) (hp : postB ks st [] [] = true := by rfl) (h3 : Vw st.hp [] (one us) u := by (first | exact Vw.nil | exact Vw.d _ | (repeat (first | exact Vws.nil | apply Vws.cons | exact Vw.nil | exact Vw.d _ | apply Vw.a | apply Vw.t | exact Vw.fh rfl rfl (vws_dm _) | exact Vw.fh rfl rfl Vws.nil)); done)) : WK Γ (.fn (PostV P ks rs Ψ)) .ret st := wk_pure h1 h2 hp h3 h4
theorem wk_reti (f : List (Nat × Nat)) (h4 : Ψ u h) (h1 : resV st rs = some us := by rfl) (h2 : resT P st rs := by (repeat (first | exact trivial | refine resT_cell rfl rfl (by exact inferInstance) ?_))) (hp : postB ks st f h = true := by rfl) (h3 : Vw st.hp f (one us) u := by (first | exact Vw.nil | exact Vw.d _ | (repeat (first | exact Vws.nil | apply Vws.cons | exact Vw.nil | exact Vw.d _ | exact Vw.h rfl | exact Vw.p rfl | apply Vw.a | apply Vw.t | exact Vw.fh rfl rfl (vws_dm _) | exact Vw.fh rfl rfl Vws.nil)); done)) (h5 : VH st.hp st.hp f h := by repeat (first | refine VH.cons rfl rfl vb_tpb ?_ | refine VH.cons rfl rfl (Vb.ob _) ?_ | exact VS.nil | exact VH.nil | exact Vws.nil | refine VS.cons rfl ?_ ?_ | refine VH.cons rfl rfl (Vb.box ?_) ?_ | refine VH.cons rfl rfl (Vb.arr ?_) ?_ | exact vws_dm _ | refine Vws.cons ?_ ?_ | exact Vw.d _ | exact Vw.p rfl | exact Vw.h rfl | exact Vw.e rfl | exact Vw.s rfl | exact Vw.q _ | refine Vw.a ?_ | refine Vw.t ?_ | exact Vw.nil | exact Vw.fh rfl rfl (vws_dm _) | exact Vw.un _)) : WK Γ (.fn (PostV P ks rs Ψ)) .ret st := wk_own f h1 h2 hp h3 h5 h4
theorem wk_reti_n (f : List (Nat × Nat)) (h4 : Ψ u h) (h1 : resV st rs = some us := by rfl) (h2 : resT P st rs := by (repeat (first | exact trivial | refine resT_cell rfl rfl (by exact inferInstance) ?_))) (hp : postB ks st f h = true := by rfl) (h3 : Vw st.hp f (one us) u := by (first | exact Vw.nil | exact Vw.d _ | (repeat (first | exact Vws.nil | apply Vws.cons | exact Vw.nil | exact Vw.d _ | exact Vw.h rfl | exact Vw.p rfl | apply Vw.a | apply Vw.t | exact Vw.fh rfl rfl (vws_dm _) | exact Vw.fh rfl rfl Vws.nil)); done)) (h5 : VH st.hp st.hp f h := by repeat (first | refine VH.cons rfl rfl vb_tpb ?_ | refine VH.cons rfl rfl (Vb.ob _) ?_ | exact VS.nil | exact VH.nil | exact Vws.nil | refine VS.cons rfl ?_ ?_ | refine VH.cons rfl rfl (Vb.box ?_) ?_ | refine VH.cons rfl rfl (Vb.arr ?_) ?_ | exact vws_dm _ | refine Vws.cons ?_ ?_ | exact Vw.d _ | exact Vw.p rfl | exact Vw.h rfl | exact Vw.e rfl | exact Vw.s rfl | exact Vw.q _ | refine Vw.a ?_ | refine Vw.t ?_ | exact Vw.nil | exact Vw.fh rfl rfl (vws_dm _) | exact Vw.un _)) : WK Γ (.fn (PostV P ks rs Ψ)) .normal st := wk_fn_n (Wk.refl _ _) ⟨us, f, u, h, h1, h2, hp, h3, h5, h4⟩
theorem wk_cutw {I : St → Prop} (f : List (Nat × Nat)) (h : I st') (hal : aliveB st.hp f = true := by rfl) (hol : olds f = true := by rfl) (hks : (Γ.ks.all fun k => match look f k with | some k' => Nat.beq k k' | none => false) = true := by rfl) (hd : (f.all fun e => (look st'.hp e.1).isSome) = true := by rfl) (hs : VS st.hp f st.sl st'.sl := by repeat (first | refine VH.cons rfl rfl vb_tpb ?_ | refine VH.cons rfl rfl (Vb.ob _) ?_ | exact VS.nil | exact VH.nil | exact Vws.nil | refine VS.cons rfl ?_ ?_ | refine VH.cons rfl rfl (Vb.box ?_) ?_ | refine VH.cons rfl rfl (Vb.arr ?_) ?_ | exact vws_dm _ | refine Vws.cons ?_ ?_ | exact Vw.d _ | exact Vw.p rfl | exact Vw.h rfl | exact Vw.e rfl | exact Vw.s rfl | exact Vw.q _ | refine Vw.a ?_ | refine Vw.t ?_ | exact Vw.nil | exact Vw.fh rfl rfl (vws_dm _) | exact Vw.un _)) (hh : VH st.hp st.hp f st'.hp := by repeat (first | refine VH.cons rfl rfl vb_tpb ?_ | refine VH.cons rfl rfl (Vb.ob _) ?_ | exact VS.nil | exact VH.nil | exact Vws.nil | refine VS.cons rfl ?_ ?_ | refine VH.cons rfl rfl (Vb.box ?_) ?_ | refine VH.cons rfl rfl (Vb.arr ?_) ?_ | exact vws_dm _ | refine Vws.cons ?_ ?_ | exact Vw.d _ | exact Vw.p rfl | exact Vw.h rfl | exact Vw.e rfl | exact Vw.s rfl | exact Vw.q _ | refine Vw.a ?_ | refine Vw.t ?_ | exact Vw.nil | exact Vw.fh rfl rfl (vws_dm _) | exact Vw.un _)) : WK Γ (.cut I k) .normal st := wk_cut_n (wk f hal hol hks hd hs hh) h
theorem wk_loopw {I : Nat → St → Prop} (f : List (Nat × Nat)) (h : I m st') (hm : m < n) (hal : aliveB st.hp f = true := by rfl) (hol : olds f = true := by rfl) (hks : (Γ.ks.all fun k => match look f k with | some k' => Nat.beq k k' | none => false) = true := by rfl) (hd : (f.all fun e => (look st'.hp e.1).isSome) = true := by rfl) (hs : VS st.hp f st.sl st'.sl := by repeat (first | refine VH.cons rfl rfl vb_tpb ?_ | refine VH.cons rfl rfl (Vb.ob _) ?_ | exact VS.nil | exact VH.nil | exact Vws.nil | refine VS.cons rfl ?_ ?_ | refine VH.cons rfl rfl (Vb.box ?_) ?_ | refine VH.cons rfl rfl (Vb.arr ?_) ?_ | exact vws_dm _ | refine Vws.cons ?_ ?_ | exact Vw.d _ | exact Vw.p rfl | exact Vw.h rfl | exact Vw.e rfl | exact Vw.s rfl | exact Vw.q _ | refine Vw.a ?_ | refine Vw.t ?_ | exact Vw.nil | exact Vw.fh rfl rfl (vws_dm _) | exact Vw.un _)) (hh : VH st.hp st.hp f st'.hp := by repeat (first | refine VH.cons rfl rfl vb_tpb ?_ | refine VH.cons rfl rfl (Vb.ob _) ?_ | exact VS.nil | exact VH.nil | exact Vws.nil | refine VS.cons rfl ?_ ?_ | refine VH.cons rfl rfl (Vb.box ?_) ?_ | refine VH.cons rfl rfl (Vb.arr ?_) ?_ | exact vws_dm _ | refine Vws.cons ?_ ?_ | exact Vw.d _ | exact Vw.p rfl | exact Vw.h rfl | exact Vw.e rfl | exact Vw.s rfl | exact Vw.q _ | refine Vw.a ?_ | refine Vw.t ?_ | exact Vw.nil | exact Vw.fh rfl rfl (vws_dm _) | exact Vw.un _)) : WK Γ (.loop I n k) .normal st := wk_loop_n m (wk f hal hol hks hd hs hh) hm h
theorem wc_loopw (I : Nat → St → Prop) {x : Code} (f : List (Nat × Nat)) (h0 : I n st') (hr : ∀ n st, I n st → WC Γ x (.loop I n k) st) (hal : aliveB st.hp f = true := by rfl) (hol : olds f = true := by rfl) (hks : (Γ.ks.all fun k => match look f k with | some k' => Nat.beq k k' | none => false) = true := by rfl) (hd : (f.all fun e => (look st'.hp e.1).isSome) = true := by rfl) (hs : VS st.hp f st.sl st'.sl := by repeat (first | refine VH.cons rfl rfl vb_tpb ?_ | refine VH.cons rfl rfl (Vb.ob _) ?_ | exact VS.nil | exact VH.nil | exact Vws.nil | refine VS.cons rfl ?_ ?_ | refine VH.cons rfl rfl (Vb.box ?_) ?_ | refine VH.cons rfl rfl (Vb.arr ?_) ?_ | exact vws_dm _ | refine Vws.cons ?_ ?_ | exact Vw.d _ | exact Vw.p rfl | exact Vw.h rfl | exact Vw.e rfl | exact Vw.s rfl | exact Vw.q _ | refine Vw.a ?_ | refine Vw.t ?_ | exact Vw.nil | exact Vw.fh rfl rfl (vws_dm _) | exact Vw.un _)) (hh : VH st.hp st.hp f st'.hp := by repeat (first | refine VH.cons rfl rfl vb_tpb ?_ | refine VH.cons rfl rfl (Vb.ob _) ?_ | exact VS.nil | exact VH.nil | exact Vws.nil | refine VS.cons rfl ?_ ?_ | refine VH.cons rfl rfl (Vb.box ?_) ?_ | refine VH.cons rfl rfl (Vb.arr ?_) ?_ | exact vws_dm _ | refine Vws.cons ?_ ?_ | exact Vw.d _ | exact Vw.p rfl | exact Vw.h rfl | exact Vw.e rfl | exact Vw.s rfl | exact Vw.q _ | refine Vw.a ?_ | refine Vw.t ?_ | exact Vw.nil | exact Vw.fh rfl rfl (vws_dm _) | exact Vw.un _)) : WC Γ (.loop x) k st := wc_loop I n st' (wk f hal hol hks hd hs hh) h0 hr
end
section
variable {Γ : Cx} {k : Kont} {x : Code} {st st' : St} {sl : List (Nat × V)} {hp : Hp} {o : Oper} {ops : Array Oper} {d : Nat} {f : FuncId} {us uc : List V} {y : Operand} {xs : Array Operand} {ats : Array TypeId} {u : V} {rest : List Oper} {blk blk0 blk' : Blk}
theorem wl_cq (hs : Spec Γ.P f us [] fun u1 h1 => u1 = u ∧ h1 = []) (hk : WL Γ ops rest k ⟨(d, u) :: sl, hp⟩) (hop : o.op = .call { callee := .value y, args := xs, argTypes := ats } := by rfl) (hx : ev sl y = some (.d (.c (.func (.func f) #[] #[]))) := by rfl) (ha : evl sl xs.toList = some uc := by rfl) (hv : Vws [] [] uc us := by repeat (first | exact Vws.nil | apply Vws.cons | exact Vw.nil | exact Vw.d _ | exact Vw.q _ | apply Vw.a)) (hu : u.ren (rn [] 100000) = u := by rfl)
    (hg : o.guard = none := by rfl) (hd : o.dst = some d := by rfl) (hdl : Nat.blt d Γ.nt = true := by rfl) (hf : freshB hp 100000 100 = true := by rfl) : WL Γ ops (o :: rest) k ⟨sl, hp⟩ := wl_cs hs hop hx ha hv hu hg hd hdl hf hk
theorem wl_iq (hs : Spec Γ.P f us [(0, some blk)] fun u1 h1 => u1 = u ∧ h1 = [(0, some blk')]) (kt : Nat) (hk : WL Γ ops rest k ⟨(d, u) :: sl, (kt, some blk') :: hp⟩) (hop : o.op = .call { callee := .value y, args := xs, argTypes := ats } := by rfl) (hx : ev sl y = some (.d (.c (.func (.func f) #[] #[]))) := by rfl) (ha : evl sl xs.toList = some uc := by rfl) (hv : Vws [] [(0, kt)] uc us := by (repeat (first | exact Vws.nil | apply Vws.cons | exact Vw.nil | exact Vw.d _ | exact Vw.q _ | exact Vw.p rfl | apply Vw.a)))
    (hH : look hp kt = some (some blk0) := by rfl) (hb : Vb [] [(0, kt)] blk0 blk := by (refine Vb.box ?_; repeat (first | exact Vws.nil | apply Vws.cons | exact Vw.nil | exact Vw.d _ | exact Vw.q _ | exact Vw.p rfl | apply Vw.a))) (hu : u.ren (rn [(0, kt)] 100000) = u := by rfl) (hb' : blk'.ren (rn [(0, kt)] 100000) = blk' := by rfl)
    (hg : o.guard = none := by rfl) (hd : o.dst = some d := by rfl) (hdl : Nat.blt d Γ.nt = true := by rfl) (hf : freshB hp 100000 100 = true := by rfl) : WL Γ ops (o :: rest) k ⟨sl, hp⟩ := wl_io hs kt hop hx ha hv hH hb hu hb' hg hd hdl hf hk
end
theorem sl {g h : Prop} (k : h) (f : h → g := by (first | (apply j_wk; first | exact wk_seq | exact wk_block_n | exact wk_seq_r | exact wk_block_r | exact wk_loop_r | exact wk_seq_e | exact wk_block_e | exact wk_block_o rfl | exact wk_loop_e | exact wk_cut_r | exact wk_cut_e) | (apply j_wl; first | (apply j_lg; first | exact wl_gt rfl rfl rfl | exact wl_gs' rfl rfl rfl rfl rfl rfl rfl | exact wl_gu rfl rfl rfl rfl rfl rfl) | exact wl_nil | (apply j_lmv; first | exact wl_r (o_move rfl rfl) rfl rfl rfl) | (apply j_las; first | exact wl_r (o_assign rfl rfl) rfl rfl rfl) | (apply j_lld; first | exact wl_r (o_load rfl rfl rfl (by exact inferInstance) rfl (by simp only [fillV, stV, cellsV, ldC, ldE, cond_true, cond_false, List.map_cons, List.map_nil, List.drop_zero, List.drop_succ_cons, List.take_succ_cons, List.take_zero, List.getElem?_cons_zero, List.getElem?_cons_succ, Nat.reduceAdd, Option.map_some]; exact rfl)) rfl rfl rfl | exact wl_r (o_loadq rfl rfl (by exact inferInstance) rfl (by simp only [fillV, stV, cellsV, ldC, ldE, cond_true, cond_false, List.map_cons, List.map_nil, List.drop_zero, List.drop_succ_cons, List.take_succ_cons, List.take_zero, List.getElem?_cons_zero, List.getElem?_cons_succ, Nat.reduceAdd, Option.map_some]; exact rfl)) rfl rfl rfl | exact wl_r (o_loade rfl rfl rfl (by exact inferInstance) rfl (by simp only [fillV, stV, cellsV, ldC, ldE, cond_true, cond_false, List.map_cons, List.map_nil, List.drop_zero, List.drop_succ_cons, List.take_succ_cons, List.take_zero, List.getElem?_cons_zero, List.getElem?_cons_succ, Nat.reduceAdd, Option.map_some]; exact rfl)) rfl rfl rfl) | (apply j_lfa; first | exact wl_r (o_fa rfl rfl) rfl rfl rfl | exact wl_r (o_faq rfl rfl (by simp only [List.drop_zero, List.drop_succ_cons]; exact rfl)) rfl rfl rfl | exact wl_r (o_fae rfl rfl) rfl rfl rfl) | (apply j_lpk; first | exact wl_r (o_pick rfl rfl rfl) rfl rfl rfl) | (apply j_lbi; first | exact wl_r (o_sub rfl rfl rfl rfl) rfl rfl rfl | exact wl_r (o_mul rfl rfl rfl rfl) rfl rfl rfl | exact wl_r (o_seq rfl rfl rfl) rfl rfl rfl | exact wl_r (o_sne rfl rfl rfl) rfl rfl rfl | exact wl_r (o_slt rfl rfl rfl) rfl rfl rfl | exact wl_r (o_sgt rfl rfl rfl) rfl rfl rfl | exact wl_r (o_sle rfl rfl rfl) rfl rfl rfl | exact wl_r (o_sge rfl rfl rfl) rfl rfl rfl | exact wl_r (o_ilt rfl rfl rfl) rfl rfl rfl | exact wl_r (o_ile rfl rfl rfl) rfl rfl rfl | exact wl_r (o_igt rfl rfl rfl) rfl rfl rfl | exact wl_r (o_ige rfl rfl rfl) rfl rfl rfl | exact wl_r (o_ieq rfl rfl rfl) rfl rfl rfl | exact wl_r (o_ine rfl rfl rfl) rfl rfl rfl | exact wl_r (o_beq rfl rfl rfl (by kernel_rfl)) rfl rfl rfl | exact wl_r (o_bne rfl rfl rfl (by kernel_rfl)) rfl rfl rfl | exact wl_r (o_eqc rfl rfl rfl (by simp only [ccV, Option.map_some]; exact rfl) (by simp only [ccV, Option.map_some]; exact rfl) (by exact inferInstance)) rfl rfl rfl | exact wl_r (o_nec rfl rfl rfl (by simp only [ccV, Option.map_some]; exact rfl) (by simp only [ccV, Option.map_some]; exact rfl) (by exact inferInstance)) rfl rfl rfl) | (apply j_lun; first | exact wl_r (o_not rfl rfl) rfl rfl rfl | exact wl_r (o_neg rfl rfl rfl) rfl rfl rfl) | (apply j_lex; first | exact wl_r (o_extract rfl rfl rfl) rfl rfl rfl) | (apply j_lbd; first | exact wl_r (o_build rfl rfl rfl (by simp only [fillV, stV, cellsV, ldC, ldE, cond_true, cond_false, List.map_cons, List.map_nil, List.drop_zero, List.drop_succ_cons, List.take_succ_cons, List.take_zero, List.getElem?_cons_zero, List.getElem?_cons_succ, Nat.reduceAdd, Option.map_some]; exact rfl)) rfl rfl rfl | exact wl_r (o_builda rfl rfl rfl (by simp only [fillV, stV, cellsV, ldC, ldE, cond_true, cond_false, List.map_cons, List.map_nil, List.drop_zero, List.drop_succ_cons, List.take_succ_cons, List.take_zero, List.getElem?_cons_zero, List.getElem?_cons_succ, Nat.reduceAdd, Option.map_some]; exact rfl)) rfl rfl rfl) | (apply j_lcb; first | exact wl_r (o_len_d rfl rfl) rfl rfl rfl | exact wl_r (o_len_h rfl rfl rfl) rfl rfl rfl | exact wl_r (o_len_s rfl rfl (by kernel_rfl)) rfl rfl rfl | exact wl_r (o_len_n rfl rfl) rfl rfl rfl | exact wl_r (o_len_v rfl rfl) rfl rfl rfl | exact wl_r (o_min rfl rfl rfl) rfl rfl rfl | exact wl_r (o_max rfl rfl rfl) rfl rfl rfl) | (apply j_lst; first | exact wl_0 (lo := 0) (nn := 0) (o_store rfl rfl rfl rfl (by exact inferInstance) rfl (by simp only [fillV, stV, cellsV, ldC, ldE, cond_true, cond_false, List.map_cons, List.map_nil, List.drop_zero, List.drop_succ_cons, List.take_succ_cons, List.take_zero, List.getElem?_cons_zero, List.getElem?_cons_succ, Nat.reduceAdd, Option.map_some]; exact rfl)) rfl rfl (fresh0 _ _)) | (apply j_lal; exact wl_1 (n_alloc rfl rfl (by simp only [Nat.reduceAdd]; exact rfl) (by exact ZeroI.out) rfl rfl) rfl rfl rfl rfl) | (apply j_lbx; exact wl_1 (n_box rfl rfl (by simp only [Nat.reduceAdd]; exact rfl) rfl rfl (by simp only [cellsV]; exact rfl)) rfl rfl rfl rfl) | exact wl_r (o_field rfl rfl rfl (by simp only [fillV, stV, cellsV, ldC, ldE, cond_true, cond_false, List.map_cons, List.map_nil, List.drop_zero, List.drop_succ_cons, List.take_succ_cons, List.take_zero, List.getElem?_cons_zero, List.getElem?_cons_succ, Nat.reduceAdd, Option.map_some]; exact rfl)) rfl rfl rfl | exact wl_r (o_nilc rfl rfl) rfl rfl rfl | exact wl_r (o_feq rfl rfl rfl (by kernel_rfl) (by first | exact rfl | assumption)) rfl rfl rfl) | (apply j_wo; first | exact wd_s rfl rfl (by first | exact .n rfl rfl rfl rfl rfl | exact .u rfl rfl rfl rfl) (hf := rfl) | (apply j_omv; first | exact wd_r [] (o_move rfl rfl) rfl (by first | exact .no rfl | exact .y rfl rfl rfl rfl) rfl rfl) | (apply j_oas; first | exact wd_r [] (o_assign rfl rfl) rfl (by first | exact .no rfl | exact .y rfl rfl rfl rfl) rfl rfl) | (apply j_old; first | exact wd_r [] (o_loadq rfl rfl (by exact inferInstance) rfl (by simp only [fillV, stV, cellsV, ldC, ldE, cond_true, cond_false, List.map_cons, List.map_nil, List.drop_zero, List.drop_succ_cons, List.take_succ_cons, List.take_zero, List.getElem?_cons_zero, List.getElem?_cons_succ, Nat.reduceAdd, Option.map_some]; exact rfl)) rfl (by first | exact .no rfl | exact .y rfl rfl rfl rfl) rfl rfl | exact wd_ld rfl rfl rfl (by exact inferInstance) rfl (by simp only [fillV, stV, cellsV, ldC, ldE, cond_true, cond_false, List.map_cons, List.map_nil, List.drop_zero, List.drop_succ_cons, List.take_succ_cons, List.take_zero, List.getElem?_cons_zero, List.getElem?_cons_succ, Nat.reduceAdd, Option.map_some]; exact rfl) rfl (by first | exact .no rfl | exact .y rfl rfl rfl rfl) rfl rfl | exact wd_lde rfl rfl rfl (by exact inferInstance) rfl (by simp only [fillV, stV, cellsV, ldC, ldE, cond_true, cond_false, List.map_cons, List.map_nil, List.drop_zero, List.drop_succ_cons, List.take_succ_cons, List.take_zero, List.getElem?_cons_zero, List.getElem?_cons_succ, Nat.reduceAdd, Option.map_some]; exact rfl) rfl (by first | exact .no rfl | exact .y rfl rfl rfl rfl) rfl rfl) | (apply j_ofa; first | exact wd_r [] (o_fa rfl rfl) rfl (by first | exact .no rfl | exact .y rfl rfl rfl rfl) rfl rfl | exact wd_r [] (o_faq rfl rfl (by simp only [List.drop_zero, List.drop_succ_cons]; exact rfl)) rfl (by first | exact .no rfl | exact .y rfl rfl rfl rfl) rfl rfl | exact wd_r [] (o_fae rfl rfl) rfl (by first | exact .no rfl | exact .y rfl rfl rfl rfl) rfl rfl) | (apply j_opk; first | exact wd_r [] (o_pick rfl rfl rfl) rfl (by first | exact .no rfl | exact .y rfl rfl rfl rfl) rfl rfl) | (apply j_obi; first | exact wd_r [] (o_sub rfl rfl rfl rfl) rfl (by first | exact .no rfl | exact .y rfl rfl rfl rfl) rfl rfl | exact wd_r [] (o_mul rfl rfl rfl rfl) rfl (by first | exact .no rfl | exact .y rfl rfl rfl rfl) rfl rfl | exact wd_r [] (o_seq rfl rfl rfl) rfl (by first | exact .no rfl | exact .y rfl rfl rfl rfl) rfl rfl | exact wd_r [] (o_sne rfl rfl rfl) rfl (by first | exact .no rfl | exact .y rfl rfl rfl rfl) rfl rfl | exact wd_r [] (o_slt rfl rfl rfl) rfl (by first | exact .no rfl | exact .y rfl rfl rfl rfl) rfl rfl | exact wd_r [] (o_sgt rfl rfl rfl) rfl (by first | exact .no rfl | exact .y rfl rfl rfl rfl) rfl rfl | exact wd_r [] (o_sle rfl rfl rfl) rfl (by first | exact .no rfl | exact .y rfl rfl rfl rfl) rfl rfl | exact wd_r [] (o_sge rfl rfl rfl) rfl (by first | exact .no rfl | exact .y rfl rfl rfl rfl) rfl rfl | exact wd_r [] (o_ilt rfl rfl rfl) rfl (by first | exact .no rfl | exact .y rfl rfl rfl rfl) rfl rfl | exact wd_r [] (o_ile rfl rfl rfl) rfl (by first | exact .no rfl | exact .y rfl rfl rfl rfl) rfl rfl | exact wd_r [] (o_igt rfl rfl rfl) rfl (by first | exact .no rfl | exact .y rfl rfl rfl rfl) rfl rfl | exact wd_r [] (o_ige rfl rfl rfl) rfl (by first | exact .no rfl | exact .y rfl rfl rfl rfl) rfl rfl | exact wd_r [] (o_ieq rfl rfl rfl) rfl (by first | exact .no rfl | exact .y rfl rfl rfl rfl) rfl rfl | exact wd_r [] (o_ine rfl rfl rfl) rfl (by first | exact .no rfl | exact .y rfl rfl rfl rfl) rfl rfl | exact wd_r [] (o_beq rfl rfl rfl (by kernel_rfl)) rfl (by first | exact .no rfl | exact .y rfl rfl rfl rfl) rfl rfl | exact wd_r [] (o_bne rfl rfl rfl (by kernel_rfl)) rfl (by first | exact .no rfl | exact .y rfl rfl rfl rfl) rfl rfl | exact wd_r [] (o_eqc rfl rfl rfl (by simp only [ccV, Option.map_some]; exact rfl) (by simp only [ccV, Option.map_some]; exact rfl) (by exact inferInstance)) rfl (by first | exact .no rfl | exact .y rfl rfl rfl rfl) rfl rfl | exact wd_r [] (o_nec rfl rfl rfl (by simp only [ccV, Option.map_some]; exact rfl) (by simp only [ccV, Option.map_some]; exact rfl) (by exact inferInstance)) rfl (by first | exact .no rfl | exact .y rfl rfl rfl rfl) rfl rfl) | (apply j_oun; first | exact wd_r [] (o_not rfl rfl) rfl (by first | exact .no rfl | exact .y rfl rfl rfl rfl) rfl rfl | exact wd_r [] (o_neg rfl rfl rfl) rfl (by first | exact .no rfl | exact .y rfl rfl rfl rfl) rfl rfl) | (apply j_oex; first | exact wd_r [] (o_extract rfl rfl rfl) rfl (by first | exact .no rfl | exact .y rfl rfl rfl rfl) rfl rfl) | (apply j_obd; first | exact wd_r [] (o_build rfl rfl rfl (by simp only [fillV, stV, cellsV, ldC, ldE, cond_true, cond_false, List.map_cons, List.map_nil, List.drop_zero, List.drop_succ_cons, List.take_succ_cons, List.take_zero, List.getElem?_cons_zero, List.getElem?_cons_succ, Nat.reduceAdd, Option.map_some]; exact rfl)) rfl (by first | exact .no rfl | exact .y rfl rfl rfl rfl) rfl rfl | exact wd_r [] (o_builda rfl rfl rfl (by simp only [fillV, stV, cellsV, ldC, ldE, cond_true, cond_false, List.map_cons, List.map_nil, List.drop_zero, List.drop_succ_cons, List.take_succ_cons, List.take_zero, List.getElem?_cons_zero, List.getElem?_cons_succ, Nat.reduceAdd, Option.map_some]; exact rfl)) rfl (by first | exact .no rfl | exact .y rfl rfl rfl rfl) rfl rfl) | (apply j_ocb; first | exact wd_r [] (o_len_d rfl rfl) rfl (by first | exact .no rfl | exact .y rfl rfl rfl rfl) rfl rfl | exact wd_r [] (o_len_s rfl rfl (by kernel_rfl)) rfl (by first | exact .no rfl | exact .y rfl rfl rfl rfl) rfl rfl | exact wd_r [] (o_len_n rfl rfl) rfl (by first | exact .no rfl | exact .y rfl rfl rfl rfl) rfl rfl | exact wd_r [] (o_len_v rfl rfl) rfl (by first | exact .no rfl | exact .y rfl rfl rfl rfl) rfl rfl | exact wd_r [] (o_min rfl rfl rfl) rfl (by first | exact .no rfl | exact .y rfl rfl rfl rfl) rfl rfl | exact wd_r [] (o_max rfl rfl rfl) rfl (by first | exact .no rfl | exact .y rfl rfl rfl rfl) rfl rfl | exact wd_lenh rfl rfl rfl rfl (by first | exact .no rfl | exact .y rfl rfl rfl rfl) rfl rfl) | (apply j_ost; first | exact wd_st rfl rfl rfl rfl (by exact inferInstance) rfl (by simp only [fillV, stV, cellsV, ldC, ldE, cond_true, cond_false, List.map_cons, List.map_nil, List.drop_zero, List.drop_succ_cons, List.take_succ_cons, List.take_zero, List.getElem?_cons_zero, List.getElem?_cons_succ, Nat.reduceAdd, Option.map_some]; exact rfl) rfl (by first | exact .no rfl | exact .y rfl rfl rfl rfl) rfl) | (apply j_oal; first | exact wd_1 [] (n_alloc rfl rfl (by simp only [Nat.reduceAdd]; exact rfl) (by exact ZeroI.out) rfl rfl) rfl (by first | exact .no rfl | exact .y rfl rfl rfl rfl) rfl rfl rfl) | (apply j_obx; first | exact wd_1 [] (n_box rfl rfl (by simp only [Nat.reduceAdd]; exact rfl) rfl rfl (by simp only [cellsV]; exact rfl)) rfl (by first | exact .no rfl | exact .y rfl rfl rfl rfl) rfl rfl rfl) | exact wd_r [] (o_field rfl rfl rfl (by simp only [fillV, stV, cellsV, ldC, ldE, cond_true, cond_false, List.map_cons, List.map_nil, List.drop_zero, List.drop_succ_cons, List.take_succ_cons, List.take_zero, List.getElem?_cons_zero, List.getElem?_cons_succ, Nat.reduceAdd, Option.map_some]; exact rfl)) rfl (by first | exact .no rfl | exact .y rfl rfl rfl rfl) rfl rfl | exact wd_r [] (o_nilc rfl rfl) rfl (by first | exact .no rfl | exact .y rfl rfl rfl rfl) rfl rfl | exact wd_r [] (o_feq rfl rfl rfl (by kernel_rfl) (by first | exact rfl | assumption)) rfl (by first | exact .no rfl | exact .y rfl rfl rfl rfl) rfl rfl) | exact wd_nil | exact wd_op rfl)) : g := f k
end Go.Proofs.YtjnnkpkbgdknmaaDoor
namespace Go.Proofs.YtjnnkpkbgdknmaaDoor
set_option linter.unusedSimpArgs false
set_option linter.unusedVariables false
open Go.RowKit
attribute [local irreducible] WK WC WL Wk Rel OpD OpV WD WO sel bnd obnd app lget lsl sget ssl scat letg iquo irem Op.bytesLess
def Mref1_ValidKey (k1 : ByteArray) : Bool :=
  decide ((k1.size : Int) ≤ 64)
set_option maxRecDepth 100000 in
set_option maxHeartbeats 4000000 in
theorem Mref1_ValidKey_sp {k1 : ByteArray} {y : Bool} (hm : Mref1_ValidKey k1 = y) : Spec Tryd.prog 46 [vS k1] [] fun u h => u = vB y ∧ h = [] := by
  refine Spec.intro Tryd.func46 rfl rfl Tryd.ntmps46 Tryd.results46 rfl fun B w0 ρ0 => ?_
  simp only [slots, List.map_nil, List.map_cons, Nat.reduceAdd]
  unfold Mref1_ValidKey at hm
  have hm0 := hm
  clear hm
  refine wc_seq ?_
  refine wc_region ?_
  repeat (refine sl ?_)
  refine wc_seq ?_
  refine wc_region ?_
  repeat (refine sl ?_)
  refine wc_ret ?_
  repeat (refine sl ?_)
  subst hm0
  exact wk_ret ⟨rfl, rfl⟩

def Mref1_ValidBound (b1 : Bnd) : Bool :=
  bnd (Mref1_ValidKey b1.key) fun y2 =>
  sel y2 (
    sel (!b1.top) (
      true) (
      decide (b1.key = ⟨#[]⟩))) (
    false)
set_option maxRecDepth 100000 in
set_option maxHeartbeats 4000000 in
theorem Mref1_ValidBound_sp {b1 : Bnd} {y : Bool} (hm : Mref1_ValidBound b1 = y) : Spec Tryd.prog 71 [.a [vS b1.key, vB b1.top]] [] fun u h => u = vB y ∧ h = [] := by
  refine Spec.intro Tryd.func71 rfl rfl Tryd.ntmps71 Tryd.results71 rfl fun B w0 ρ0 => ?_
  simp only [slots, List.map_nil, List.map_cons, Nat.reduceAdd]
  unfold Mref1_ValidBound at hm
  have hm0 := hm
  clear hm
  refine wc_seq ?_
  refine wc_region ?_
  repeat (refine sl ?_)
  refine wc_seq ?_
  refine wc_region ?_
  repeat (refine sl ?_)
  obtain ⟨y2, hy, hm0⟩ := bnd_o hm0
  refine wl_cq (Mref1_ValidKey_sp (hm := hy)) ?_
  repeat (refine sl ?_)
  refine wl_gp rfl rfl rfl rfl (fun h => ?_) (fun h => ?_)
  · replace hm0 := sel_t h hm0
    repeat (refine sl ?_)
    refine wl_gp rfl rfl rfl rfl (fun h => ?_) (fun h => ?_)
    · replace hm0 := sel_t h hm0
      repeat (refine sl ?_)
      refine wc_ret ?_
      repeat (refine sl ?_)
      subst hm0
      exact wk_ret ⟨rfl, rfl⟩
    · replace hm0 := sel_f h hm0
      repeat (refine sl ?_)
      refine wc_ret ?_
      repeat (refine sl ?_)
      subst hm0
      exact wk_ret ⟨rfl, rfl⟩
  · replace hm0 := sel_f h hm0
    repeat (refine sl ?_)
    refine wc_ret ?_
    repeat (refine sl ?_)
    subst hm0
    exact wk_ret ⟨rfl, rfl⟩

def Mref1_Compare (a1 : Bnd) (b2 : Bnd) : Int :=
  bnd (
    sel a1.top (
      b2.top) (
      false) : Bool) fun x3 =>
  sel x3 (
    0) (
    bnd (
      sel a1.top (
        true) (
        sel (!b2.top) (
          bl b2.key a1.key) (
          false)) : Bool) fun x4 =>
    sel x4 (
      1) (
      sel b2.top (
        (-1)) (
        sel (bl a1.key b2.key) (
          (-1)) (
          0))))
set_option maxRecDepth 100000 in
set_option maxHeartbeats 4000000 in
theorem Mref1_Compare_sp {a1 : Bnd} {b2 : Bnd} {y : Int} (hm : Mref1_Compare a1 b2 = y) : Spec Tryd.prog 72 [.a [vS a1.key, vB a1.top], .a [vS b2.key, vB b2.top]] [] fun u h => u = vI y ∧ h = [] := by
  refine Spec.intro Tryd.func72 rfl rfl Tryd.ntmps72 Tryd.results72 rfl fun B w0 ρ0 => ?_
  simp only [slots, List.map_nil, List.map_cons, Nat.reduceAdd]
  unfold Mref1_Compare at hm
  have hm0 := hm
  clear hm
  refine wc_seq ?_
  refine wc_region ?_
  repeat (refine sl ?_)
  refine wc_seq ?_
  refine wc_block ?_
  refine wc_seq ?_
  obtain ⟨mu1, hm1, hm0⟩ := bnd_o hm0
  refine wc_cut' (fun st => ∃ (x3 : Bool), x3 = mu1 ∧ st = ⟨[(2, .p 102 0), (3, .p 103 0), (5, vB x3)], [(102, some (.box 48 [vS a1.key, vB a1.top])), (103, some (.box 48 [vS b2.key, vB b2.top]))]⟩) ?_ ?_
  · refine wc_region ?_
    repeat (refine sl ?_)
    refine wl_gp rfl rfl rfl rfl (fun h => ?_) (fun h => ?_)
    · replace hm1 := sel_t h hm1
      repeat (refine sl ?_)
      subst hm1
      exact wk_cutw [(102, 102), (103, 103)] ⟨_, rfl, rfl⟩
    · replace hm1 := sel_f h hm1
      repeat (refine sl ?_)
      subst hm1
      exact wk_cutw [(102, 102), (103, 103)] ⟨_, rfl, rfl⟩
  rintro _ ⟨x3, rfl, rfl⟩
  repeat (refine sl ?_)
  refine wc_cond rfl (fun h => ?_) (fun h => ?_)
  · replace hm0 := sel_t h hm0
    refine wc_seq ?_
    refine wc_region ?_
    repeat (refine sl ?_)
    refine wc_ret ?_
    repeat (refine sl ?_)
    subst hm0
    exact wk_ret ⟨rfl, rfl⟩
  · replace hm0 := sel_f h hm0
    refine wc_seq ?_
    obtain ⟨mu1, hm1, hm0⟩ := bnd_o hm0
    refine wc_cut' (fun st => ∃ (x4 : Bool), x4 = mu1 ∧ st = ⟨[(2, .p 102 0), (3, .p 103 0), (12, vB x4)], [(102, some (.box 48 [vS a1.key, vB a1.top])), (103, some (.box 48 [vS b2.key, vB b2.top]))]⟩) ?_ ?_
    · refine wc_region ?_
      repeat (refine sl ?_)
      refine wl_gp rfl rfl rfl rfl (fun h => ?_) (fun h => ?_)
      · replace hm1 := sel_t h hm1
        repeat (refine sl ?_)
        subst hm1
        exact wk_cutw [(102, 102), (103, 103)] ⟨_, rfl, rfl⟩
      · replace hm1 := sel_f h hm1
        repeat (refine sl ?_)
        refine wl_gp rfl rfl rfl rfl (fun h => ?_) (fun h => ?_)
        · replace hm1 := sel_t h hm1
          repeat (refine sl ?_)
          subst hm1
          exact wk_cutw [(102, 102), (103, 103)] ⟨_, rfl, rfl⟩
        · replace hm1 := sel_f h hm1
          repeat (refine sl ?_)
          subst hm1
          exact wk_cutw [(102, 102), (103, 103)] ⟨_, rfl, rfl⟩
    rintro _ ⟨x4, rfl, rfl⟩
    repeat (refine sl ?_)
    refine wc_cond rfl (fun h => ?_) (fun h => ?_)
    · replace hm0 := sel_t h hm0
      refine wc_seq ?_
      refine wc_region ?_
      repeat (refine sl ?_)
      refine wc_ret ?_
      repeat (refine sl ?_)
      subst hm0
      exact wk_ret ⟨rfl, rfl⟩
    · replace hm0 := sel_f h hm0
      refine wc_seq ?_
      refine wc_region ?_
      repeat (refine sl ?_)
      refine wl_gp rfl rfl rfl rfl (fun h => ?_) (fun h => ?_)
      · replace hm0 := sel_t h hm0
        repeat (refine sl ?_)
        refine wc_cond_t rfl ?_
        refine wc_seq ?_
        refine wc_region ?_
        repeat (refine sl ?_)
        refine wc_ret ?_
        repeat (refine sl ?_)
        subst hm0
        exact wk_ret ⟨rfl, rfl⟩
      · replace hm0 := sel_f h hm0
        repeat (refine sl ?_)
        refine wc_cond rfl (fun h => ?_) (fun h => ?_)
        · replace hm0 := sel_t h hm0
          refine wc_seq ?_
          refine wc_region ?_
          repeat (refine sl ?_)
          refine wc_ret ?_
          repeat (refine sl ?_)
          subst hm0
          exact wk_ret ⟨rfl, rfl⟩
        · replace hm0 := sel_f h hm0
          refine wc_skip ?_
          repeat (refine sl ?_)
          refine wc_seq ?_
          refine wc_region ?_
          repeat (refine sl ?_)
          refine wc_ret ?_
          repeat (refine sl ?_)
          subst hm0
          exact wk_ret ⟨rfl, rfl⟩

def Mref1_Valid (r1 : Rng) : Bool :=
  bnd (Mref1_ValidBound r1.lo) fun y2 =>
  sel y2 (
    bnd (Mref1_ValidBound r1.hi) fun y3 =>
    sel y3 (
      bnd (Mref1_Compare r1.lo r1.hi) fun y4 =>
      decide (y4 ≤ 0)) (
      false)) (
    false)
set_option maxRecDepth 100000 in
set_option maxHeartbeats 4000000 in
theorem Mref1_Valid_sp {r1 : Rng} {y : Bool} (hm : Mref1_Valid r1 = y) : Spec Tryd.prog 45 [.a [vS r1.lo.key, vB r1.lo.top, vS r1.hi.key, vB r1.hi.top]] [] fun u h => u = vB y ∧ h = [] := by
  refine Spec.intro Tryd.func45 rfl rfl Tryd.ntmps45 Tryd.results45 rfl fun B w0 ρ0 => ?_
  simp only [slots, List.map_nil, List.map_cons, Nat.reduceAdd]
  unfold Mref1_Valid at hm
  have hm0 := hm
  clear hm
  refine wc_seq ?_
  refine wc_region ?_
  repeat (refine sl ?_)
  refine wc_seq ?_
  refine wc_region ?_
  repeat (refine sl ?_)
  obtain ⟨y2, hy, hm0⟩ := bnd_o hm0
  refine wl_cq (Mref1_ValidBound_sp (hm := hy)) ?_
  repeat (refine sl ?_)
  refine wl_gp rfl rfl rfl rfl (fun h => ?_) (fun h => ?_)
  · replace hm0 := sel_t h hm0
    repeat (refine sl ?_)
    obtain ⟨y3, hy, hm0⟩ := bnd_o hm0
    refine wl_cq (Mref1_ValidBound_sp (hm := hy)) ?_
    repeat (refine sl ?_)
    refine wl_gp rfl rfl rfl rfl (fun h => ?_) (fun h => ?_)
    · replace hm0 := sel_t h hm0
      repeat (refine sl ?_)
      obtain ⟨y4, hy, hm0⟩ := bnd_o hm0
      refine wl_cq (Mref1_Compare_sp (hm := hy)) ?_
      repeat (refine sl ?_)
      refine wc_ret ?_
      repeat (refine sl ?_)
      subst hm0
      exact wk_ret ⟨rfl, rfl⟩
    · replace hm0 := sel_f h hm0
      repeat (refine sl ?_)
      refine wc_ret ?_
      repeat (refine sl ?_)
      subst hm0
      exact wk_ret ⟨rfl, rfl⟩
  · replace hm0 := sel_f h hm0
    repeat (refine sl ?_)
    refine wc_ret ?_
    repeat (refine sl ?_)
    subst hm0
    exact wk_ret ⟨rfl, rfl⟩

def Mref1_Empty (r1 : Rng) : Bool :=
  bnd (Mref1_Valid r1) fun y2 =>
  sel (!y2) (
    true) (
    bnd (Mref1_Compare r1.lo r1.hi) fun y3 =>
    decide (y3 = 0))
set_option maxRecDepth 100000 in
set_option maxHeartbeats 4000000 in
theorem Mref1_Empty_sp {r1 : Rng} {y : Bool} (hm : Mref1_Empty r1 = y) : Spec Tryd.prog 57 [.a [vS r1.lo.key, vB r1.lo.top, vS r1.hi.key, vB r1.hi.top]] [] fun u h => u = vB y ∧ h = [] := by
  refine Spec.intro Tryd.func57 rfl rfl Tryd.ntmps57 Tryd.results57 rfl fun B w0 ρ0 => ?_
  simp only [slots, List.map_nil, List.map_cons, Nat.reduceAdd]
  unfold Mref1_Empty at hm
  have hm0 := hm
  clear hm
  refine wc_seq ?_
  refine wc_region ?_
  repeat (refine sl ?_)
  refine wc_seq ?_
  refine wc_region ?_
  repeat (refine sl ?_)
  obtain ⟨y2, hy, hm0⟩ := bnd_o hm0
  refine wl_cq (Mref1_Valid_sp (hm := hy)) ?_
  repeat (refine sl ?_)
  refine wl_gp rfl rfl rfl rfl (fun h => ?_) (fun h => ?_)
  · replace hm0 := sel_t h hm0
    repeat (refine sl ?_)
    refine wc_ret ?_
    repeat (refine sl ?_)
    subst hm0
    exact wk_ret ⟨rfl, rfl⟩
  · replace hm0 := sel_f h hm0
    repeat (refine sl ?_)
    obtain ⟨y3, hy, hm0⟩ := bnd_o hm0
    refine wl_cq (Mref1_Compare_sp (hm := hy)) ?_
    repeat (refine sl ?_)
    refine wc_ret ?_
    repeat (refine sl ?_)
    subst hm0
    exact wk_ret ⟨rfl, rfl⟩

def Mref1_Contains (r1 : Rng) (k2 : ByteArray) : Bool :=
  bnd (Mref1_Empty r1) fun y3 =>
  sel (!y3) (
    bnd (Mref1_ValidKey k2) fun y4 =>
    sel y4 (
      bnd (Mref1_Compare r1.lo (Bnd.mk k2 false)) fun y5 =>
      sel (decide (y5 ≤ 0)) (
        bnd (Mref1_Compare (Bnd.mk k2 false) r1.hi) fun y6 =>
        decide (y6 < 0)) (
        false)) (
      false)) (
    false)
set_option maxRecDepth 100000 in
set_option maxHeartbeats 4000000 in
theorem Mref1_Contains_sp {r1 : Rng} {k2 : ByteArray} {y : Bool} (hm : Mref1_Contains r1 k2 = y) : Spec Tryd.prog 80 [.a [vS r1.lo.key, vB r1.lo.top, vS r1.hi.key, vB r1.hi.top], vS k2] [] fun u h => u = vB y ∧ h = [] := by
  refine Spec.intro Tryd.func80 rfl rfl Tryd.ntmps80 Tryd.results80 rfl fun B w0 ρ0 => ?_
  simp only [slots, List.map_nil, List.map_cons, Nat.reduceAdd]
  unfold Mref1_Contains at hm
  have hm0 := hm
  clear hm
  refine wc_seq ?_
  refine wc_region ?_
  repeat (refine sl ?_)
  refine wc_seq ?_
  refine wc_region ?_
  repeat (refine sl ?_)
  refine wc_seq ?_
  refine wc_region ?_
  repeat (refine sl ?_)
  obtain ⟨y3, hy, hm0⟩ := bnd_o hm0
  refine wl_cq (Mref1_Empty_sp (hm := hy)) ?_
  repeat (refine sl ?_)
  refine wl_gp rfl rfl rfl rfl (fun h => ?_) (fun h => ?_)
  · replace hm0 := sel_t h hm0
    repeat (refine sl ?_)
    obtain ⟨y4, hy, hm0⟩ := bnd_o hm0
    refine wl_cq (Mref1_ValidKey_sp (hm := hy)) ?_
    repeat (refine sl ?_)
    refine wl_gp rfl rfl rfl rfl (fun h => ?_) (fun h => ?_)
    · replace hm0 := sel_t h hm0
      repeat (refine sl ?_)
      obtain ⟨y5, hy, hm0⟩ := bnd_o hm0
      refine wl_cq (Mref1_Compare_sp (hm := hy)) ?_
      repeat (refine sl ?_)
      refine wl_gp rfl rfl rfl rfl (fun h => ?_) (fun h => ?_)
      · replace hm0 := sel_t h hm0
        repeat (refine sl ?_)
        obtain ⟨y6, hy, hm0⟩ := bnd_o hm0
        refine wl_cq (Mref1_Compare_sp (hm := hy)) ?_
        repeat (refine sl ?_)
        refine wc_ret ?_
        repeat (refine sl ?_)
        subst hm0
        exact wk_ret ⟨rfl, rfl⟩
      · replace hm0 := sel_f h hm0
        repeat (refine sl ?_)
        refine wc_ret ?_
        repeat (refine sl ?_)
        subst hm0
        exact wk_ret ⟨rfl, rfl⟩
    · replace hm0 := sel_f h hm0
      repeat (refine sl ?_)
      refine wc_ret ?_
      repeat (refine sl ?_)
      subst hm0
      exact wk_ret ⟨rfl, rfl⟩
  · replace hm0 := sel_f h hm0
    repeat (refine sl ?_)
    refine wc_ret ?_
    repeat (refine sl ?_)
    subst hm0
    exact wk_ret ⟨rfl, rfl⟩


structure TTape where
  l : List Int
  at_ : Int
  deriving DecidableEq
def TTape.ds (x : TTape) : List D := [lst dsI x.l, dI x.at_]
instance : Len TTape.ds 2 := ⟨fun _ => rfl⟩
def Mwld_New (l1 : List Int) : Option TTape :=
  sel (decide (600 < (l1.length : Int))) (
    obnd (lsl l1 0 600) fun l2 =>
    some (TTape.mk l2 0)) (
    some (TTape.mk l1 0))
set_option maxRecDepth 100000 in
set_option maxHeartbeats 4000000 in
theorem Mwld_New_sp {l1 : List Int} {y : TTape} (hm : Mwld_New l1 = some y) : Spec Tryd.prog 11 [.d (lst dsI l1)] [] fun u h => u = .p 1 0 ∧ h = [(1, some (.box 69 [.d (lst dsI y.l), vI y.at_]))] := by
  refine Spec.intro Tryd.func11 rfl rfl Tryd.ntmps11 Tryd.results11 rfl fun B w0 ρ0 => ?_
  simp only [slots, List.map_nil, List.map_cons, Nat.reduceAdd]
  unfold Mwld_New at hm
  have hm0 := hm
  clear hm
  refine wc_seq ?_
  refine wc_region ?_
  repeat (refine sl ?_)
  refine wc_seq ?_
  refine wc_seq ?_
  refine wc_region ?_
  repeat (refine sl ?_)
  refine wc_cond rfl (fun h => ?_) (fun h => ?_)
  · replace hm0 := sel_t h hm0
    refine wc_region ?_
    repeat (refine sl ?_)
    obtain ⟨l2, hy, hm0⟩ := obnd_o hm0
    refine wl_r (o_lsl hy rfl rfl rfl rfl) rfl rfl rfl ?_
    repeat (refine sl ?_)
    refine wc_seq ?_
    refine wc_region ?_
    repeat (refine sl ?_)
    refine wc_ret ?_
    repeat (refine sl ?_)
    obtain rfl := Option.some.inj hm0
    exact wk_reti [(1, 110)] ⟨rfl, rfl⟩
  · replace hm0 := sel_f h hm0
    refine wc_skip ?_
    repeat (refine sl ?_)
    refine wc_seq ?_
    refine wc_region ?_
    repeat (refine sl ?_)
    refine wc_ret ?_
    repeat (refine sl ?_)
    obtain rfl := Option.some.inj hm0
    exact wk_reti [(1, 110)] ⟨rfl, rfl⟩

def Mwld_Mod (v1 : Int) (n2 : Int) : Option Int :=
  obnd (irem v1 n2) fun q3 =>
  sel (decide (q3 < 0)) (
    some (i64w (q3 + n2))) (
    some q3)
set_option maxRecDepth 100000 in
set_option maxHeartbeats 4000000 in
theorem Mwld_Mod_sp {v1 : Int} {n2 : Int} {y : Int} (hm : Mwld_Mod v1 n2 = some y) : Spec Tryd.prog 56 [vI v1, vI n2] [] fun u h => u = vI y ∧ h = [] := by
  refine Spec.intro Tryd.func56 rfl rfl Tryd.ntmps56 Tryd.results56 rfl fun B w0 ρ0 => ?_
  simp only [slots, List.map_nil, List.map_cons, Nat.reduceAdd]
  unfold Mwld_Mod at hm
  have hm0 := hm
  clear hm
  refine wc_seq ?_
  refine wc_region ?_
  repeat (refine sl ?_)
  refine wc_seq ?_
  refine wc_region ?_
  repeat (refine sl ?_)
  obtain ⟨q3, hy, hm0⟩ := obnd_o hm0
  refine wl_r (o_irem hy rfl rfl rfl) rfl rfl rfl ?_
  repeat (refine sl ?_)
  refine wc_seq ?_
  refine wc_seq ?_
  refine wc_region ?_
  repeat (refine sl ?_)
  refine wc_cond rfl (fun h => ?_) (fun h => ?_)
  · replace hm0 := sel_t h hm0
    refine wc_region ?_
    repeat (refine sl ?_)
    refine wl_r (o_add rfl rfl rfl rfl) rfl rfl rfl ?_
    repeat (refine sl ?_)
    refine wc_seq ?_
    refine wc_region ?_
    repeat (refine sl ?_)
    refine wc_ret ?_
    repeat (refine sl ?_)
    obtain rfl := Option.some.inj hm0
    exact wk_ret ⟨rfl, rfl⟩
  · replace hm0 := sel_f h hm0
    refine wc_skip ?_
    repeat (refine sl ?_)
    refine wc_seq ?_
    refine wc_region ?_
    repeat (refine sl ?_)
    refine wc_ret ?_
    repeat (refine sl ?_)
    obtain rfl := Option.some.inj hm0
    exact wk_ret ⟨rfl, rfl⟩

def Mwld_Tape_Next (t1 : TTape) (n2 : Int) : Option (Int × TTape) :=
  obnd (
    sel (decide (n2 < 1)) (
      some true) (
      some (decide ((t1.l.length : Int) ≤ t1.at_))) : Option Bool) fun x3 =>
  sel x3 (
    some (0, t1)) (
    obnd (lget t1.l (i64w ((i64w (t1.at_ + 1)) - 1))) fun e4 =>
    obnd (Mwld_Mod e4 n2) fun y5 =>
    some (y5, (TTape.mk t1.l (i64w (t1.at_ + 1)))))
set_option maxRecDepth 100000 in
set_option maxHeartbeats 4000000 in
theorem Mwld_Tape_Next_sp {t1 : TTape} {n2 : Int} {y : (Int × TTape)} (hm : Mwld_Tape_Next t1 n2 = some y) : Spec Tryd.prog 21 [.p 0 0, vI n2] [(0, some (.box 69 [.d (lst dsI t1.l), vI t1.at_]))] fun u h => u = vI y.1 ∧ h = [(0, some (.box 69 [.d (lst dsI y.2.l), vI y.2.at_]))] := by
  refine Spec.intro Tryd.func21 rfl rfl Tryd.ntmps21 Tryd.results21 rfl fun B w0 ρ0 => ?_
  simp only [slots, List.map_nil, List.map_cons, Nat.reduceAdd]
  unfold Mwld_Tape_Next at hm
  have hm0 := hm
  clear hm
  refine wc_seq ?_
  refine wc_region ?_
  repeat (refine sl ?_)
  refine wc_seq ?_
  refine wc_seq ?_
  obtain ⟨mu1, hm1, hm0⟩ := obnd_o hm0
  refine wc_cut' (fun st => ∃ (x3 : Bool), x3 = mu1 ∧ st = ⟨[(0, .p 0 0), (1, vI n2), (18, vB x3)], [(0, some (.box 69 [.d (lst dsI t1.l), vI t1.at_]))]⟩) ?_ ?_
  · refine wc_draw (id := 1) [⟨0, 0, [1]⟩, ⟨1, 1, [5]⟩, ⟨2, 3, [6]⟩, ⟨3, 7, [0, 7]⟩, ⟨4, 15, [7, 8]⟩, ⟨5, 31, [7, 9]⟩, ⟨6, 63, [7, 10]⟩, ⟨7, 7, [0, 7]⟩, ⟨8, 135, [7, 12]⟩, ⟨9, 391, [7, 13]⟩, ⟨10, 903, [7, 14]⟩, ⟨11, 1927, [7, 15]⟩, ⟨12, 4095, [7, 11, 16]⟩, ⟨13, 8191, [7, 17]⟩] mixed (by kernel_rfl) ?_
    repeat (refine sl ?_)
    refine wd_gp rfl rfl rfl rfl (fun h => ?_) (fun h => ?_)
    · replace hm1 := sel_t h hm1
      repeat (refine sl ?_)
      obtain rfl := Option.some.inj hm1
      exact wk_cutw [(0, 0)] ⟨_, rfl, rfl⟩
    · replace hm1 := sel_f h hm1
      repeat (refine sl ?_)
      obtain rfl := Option.some.inj hm1
      exact wk_cutw [(0, 0)] ⟨_, rfl, rfl⟩
  rintro _ ⟨x3, rfl, rfl⟩
  repeat (refine sl ?_)
  refine wc_cond rfl (fun h => ?_) (fun h => ?_)
  · replace hm0 := sel_t h hm0
    refine wc_seq ?_
    refine wc_region ?_
    repeat (refine sl ?_)
    refine wc_ret ?_
    repeat (refine sl ?_)
    obtain rfl := Option.some.inj hm0
    exact wk_reti [(0, 0)] ⟨rfl, rfl⟩
  · replace hm0 := sel_f h hm0
    refine wc_skip ?_
    repeat (refine sl ?_)
    refine wc_seq ?_
    refine wc_region ?_
    repeat (refine sl ?_)
    refine wl_r (o_add rfl rfl rfl rfl) rfl rfl rfl ?_
    repeat (refine sl ?_)
    refine wc_seq ?_
    refine wc_draw (id := 4) [⟨0, 0, [0]⟩, ⟨1, 1, [26]⟩, ⟨2, 3, [27]⟩, ⟨3, 7, [28]⟩, ⟨4, 0, [0]⟩, ⟨5, 16, [30]⟩, ⟨6, 48, [31]⟩, ⟨7, 112, [32]⟩, ⟨8, 240, [33]⟩, ⟨9, 511, [29, 34]⟩, ⟨10, 1023, [35]⟩, ⟨11, 0, [1]⟩, ⟨12, 4095, [36, 37]⟩, ⟨13, 8191, [38]⟩] mixed (by kernel_rfl) ?_
    repeat (refine sl ?_)
    obtain ⟨e4, hy, hm0⟩ := obnd_o hm0
    refine wd_r [] (o_ixg (ys := [dI e4]) hy rfl rfl rfl rfl) rfl (by first | exact .no rfl | exact .y rfl rfl rfl rfl) rfl rfl ?_
    repeat (refine sl ?_)
    obtain ⟨y5, hy, hm0⟩ := obnd_o hm0
    refine wd_cs (Mwld_Mod_sp (hm := hy)) rfl rfl rfl (by repeat (first | exact Vws.nil | apply Vws.cons | exact Vw.nil | exact Vw.d _ | exact Vw.q _ | apply Vw.a)) rfl rfl (by first | exact .no rfl | exact .y rfl rfl rfl rfl) rfl rfl rfl ?_
    repeat (refine sl ?_)
    refine wc_ret ?_
    repeat (refine sl ?_)
    obtain rfl := Option.some.inj hm0
    exact wk_reti [(0, 0)] ⟨rfl, rfl⟩

def Mwld_Tape_Bool (t1 : TTape) (n2 : Int) : Option (Bool × TTape) :=
  obnd (Mwld_Tape_Next t1 n2) fun y3 =>
  some (decide (y3.1 = i64w (n2 - 1)), y3.2)
set_option maxRecDepth 100000 in
set_option maxHeartbeats 4000000 in
theorem Mwld_Tape_Bool_sp {t1 : TTape} {n2 : Int} {y : (Bool × TTape)} (hm : Mwld_Tape_Bool t1 n2 = some y) : Spec Tryd.prog 49 [.p 0 0, vI n2] [(0, some (.box 69 [.d (lst dsI t1.l), vI t1.at_]))] fun u h => u = vB y.1 ∧ h = [(0, some (.box 69 [.d (lst dsI y.2.l), vI y.2.at_]))] := by
  refine Spec.intro Tryd.func49 rfl rfl Tryd.ntmps49 Tryd.results49 rfl fun B w0 ρ0 => ?_
  simp only [slots, List.map_nil, List.map_cons, Nat.reduceAdd]
  unfold Mwld_Tape_Bool at hm
  have hm0 := hm
  clear hm
  refine wc_seq ?_
  refine wc_region ?_
  repeat (refine sl ?_)
  refine wc_seq ?_
  refine wc_region ?_
  repeat (refine sl ?_)
  obtain ⟨y3, hy, hm0⟩ := obnd_o hm0
  refine wl_iq (Mwld_Tape_Next_sp (hm := hy)) 0 ?_
  repeat (refine sl ?_)
  refine wc_ret ?_
  repeat (refine sl ?_)
  obtain rfl := Option.some.inj hm0
  exact wk_reti [(0, 0)] ⟨rfl, rfl⟩

def Mwld_long_l1 (s1 : ByteArray) (n2 : Int) : Nat → ByteArray → Int → Option ByteArray
  | 0, _, _ => none
  | fuel + 1, out3, i4 =>
    sel (decide (i4 < n2)) (
      obnd (scat out3 s1) fun s5 =>
      Mwld_long_l1 s1 n2 fuel s5 (i64w (i4 + 1))) (
      some out3)
def Mwld_long (s1 : ByteArray) (n2 : Int) : Option ByteArray :=
  obnd (
    Mwld_long_l1 s1 n2 FU ⟨#[]⟩ 0 : Option ByteArray) fun out6 =>
  some out6
set_option maxRecDepth 100000 in
set_option maxHeartbeats 4000000 in
theorem Mwld_long_sp {s1 : ByteArray} {n2 : Int} {y : ByteArray} (hm : Mwld_long s1 n2 = some y) : Spec Tryd.prog 59 [vS s1, vI n2] [] fun u h => u = vS y ∧ h = [] := by
  refine Spec.intro Tryd.func59 rfl rfl Tryd.ntmps59 Tryd.results59 rfl fun B w0 ρ0 => ?_
  simp only [slots, List.map_nil, List.map_cons, Nat.reduceAdd]
  unfold Mwld_long at hm
  have hm0 := hm
  clear hm
  refine wc_seq ?_
  refine wc_region ?_
  repeat (refine sl ?_)
  refine wc_seq ?_
  refine wc_region ?_
  repeat (refine sl ?_)
  refine wc_seq ?_
  refine wc_seq ?_
  refine wc_region ?_
  repeat (refine sl ?_)
  obtain ⟨mu1, hm1, hm0⟩ := obnd_o hm0
  refine wc_cut' (fun st => ∃ (out6 : ByteArray), out6 = mu1 ∧ st = ⟨[(5, vS out6)], []⟩) ?_ ?_
  · refine wc_block ?_
    refine wc_loopw (fun κ st => ∃ (out3 : ByteArray) (i4 : Int), Mwld_long_l1 s1 n2 κ out3 i4 = some mu1 ∧ st = ⟨[(0, vS s1), (1, vI n2), (5, vS out3), (6, vI i4)], []⟩) [] ⟨_, _, hm1, rfl⟩ ?_
    rintro κ _ ⟨out3, i4, hm1, rfl⟩
    cases κ with
    | zero => rw [Mwld_long_l1.eq_1] at hm1; cases hm1
    | succ κ =>
      rw [Mwld_long_l1.eq_2] at hm1
      refine wc_seq ?_
      refine wc_seq ?_
      refine wc_region ?_
      repeat (refine sl ?_)
      refine wc_cond rfl (fun h => ?_) (fun h => ?_)
      · replace hm1 := sel_t h hm1
        refine wc_skip ?_
        repeat (refine sl ?_)
        refine wc_seq ?_
        refine wc_block ?_
        refine wc_region ?_
        repeat (refine sl ?_)
        obtain ⟨s5, hy, hm1⟩ := obnd_o hm1
        refine wl_r (o_scat hy rfl rfl rfl) rfl rfl rfl ?_
        repeat (refine sl ?_)
        refine wc_region ?_
        repeat (refine sl ?_)
        refine wl_r (o_add rfl rfl rfl rfl) rfl rfl rfl ?_
        repeat (refine sl ?_)
        exact wk_loopw [] ⟨_, _, hm1, rfl⟩ (Nat.lt_succ_self _)
      · replace hm1 := sel_f h hm1
        refine wc_exit ?_
        repeat (refine sl ?_)
        obtain rfl := Option.some.inj hm1
        exact wk_cutw [] ⟨_, rfl, rfl⟩
  rintro _ ⟨out6, rfl, rfl⟩
  repeat (refine sl ?_)
  refine wc_seq ?_
  refine wc_region ?_
  repeat (refine sl ?_)
  refine wc_ret ?_
  repeat (refine sl ?_)
  obtain rfl := Option.some.inj hm0
  exact wk_ret ⟨rfl, rfl⟩

def Mwld_Tape_Key_l1 : Nat → List Int → Int → ByteArray → Int → Option (ByteArray × List Int × Int)
  | 0, _, _, _, _ => none
  | fuel + 1, x7, x8, out9, i10 =>
    obnd (
      sel (decide (0 < i10)) (
        some (Ctl.nxt ())) (
        some (Ctl.ret (out9, x7, x8))) : Option (Ctl (ByteArray × List Int × Int) Unit)) fun mu => ocbnd mu fun (_ : Unit) =>
    obnd (Mwld_Tape_Next (TTape.mk x7 x8) 6) fun y11 =>
    obnd (letg y11.1) fun s12 =>
    obnd (scat out9 s12) fun s13 =>
    Mwld_Tape_Key_l1 fuel y11.2.l y11.2.at_ s13 (i64w (i10 - 1))
def Mwld_Tape_Key (t1 : TTape) : Option (ByteArray × TTape) :=
  obnd (Mwld_Tape_Next t1 12) fun y2 =>
  sel (decide (y2.1 = 10)) (
    obnd (Mwld_Tape_Next y2.2 6) fun y3 =>
    obnd (letg y3.1) fun s4 =>
    obnd (Mwld_long s4 64) fun y5 =>
    some (y5, y3.2)) (
    sel (decide (y2.1 = 11)) (
      some (⟨#[]⟩, y2.2)) (
      obnd (Mwld_Tape_Next y2.2 3) fun y6 =>
      obnd (
        Mwld_Tape_Key_l1 FU y6.2.l y6.2.at_ ⟨#[]⟩ (i64w (1 + y6.1)) : Option (ByteArray × List Int × Int)) fun (out14, x15, x16) =>
      some (out14, (TTape.mk x15 x16))))
set_option maxRecDepth 100000 in
set_option maxHeartbeats 4000000 in
theorem Mwld_Tape_Key_sp {t1 : TTape} {y : (ByteArray × TTape)} (hm : Mwld_Tape_Key t1 = some y) : Spec Tryd.prog 27 [.p 0 0] [(0, some (.box 69 [.d (lst dsI t1.l), vI t1.at_]))] fun u h => u = vS y.1 ∧ h = [(0, some (.box 69 [.d (lst dsI y.2.l), vI y.2.at_]))] := by
  refine Spec.intro Tryd.func27 rfl rfl Tryd.ntmps27 Tryd.results27 rfl fun B w0 ρ0 => ?_
  simp only [slots, List.map_nil, List.map_cons, Nat.reduceAdd]
  unfold Mwld_Tape_Key at hm
  have hm0 := hm
  clear hm
  refine wc_seq ?_
  refine wc_region ?_
  repeat (refine sl ?_)
  refine wc_seq ?_
  refine wc_seq ?_
  refine wc_region ?_
  repeat (refine sl ?_)
  obtain ⟨y2, hy, hm0⟩ := obnd_o hm0
  refine wl_iq (Mwld_Tape_Next_sp (hm := hy)) 0 ?_
  repeat (refine sl ?_)
  refine wc_block ?_
  refine wc_seq ?_
  refine wc_region ?_
  repeat (refine sl ?_)
  refine wc_cond rfl (fun h => ?_) (fun h => ?_)
  · replace hm0 := sel_t h hm0
    refine wc_seq ?_
    refine wc_region ?_
    repeat (refine sl ?_)
    obtain ⟨y3, hy, hm0⟩ := obnd_o hm0
    refine wl_iq (Mwld_Tape_Next_sp (hm := hy)) 0 ?_
    repeat (refine sl ?_)
    obtain ⟨s4, hy, hm0⟩ := obnd_o hm0
    refine wl_r (o_letg hy rfl rfl (by exact inferInstance) (by exact inferInstance)) rfl rfl rfl ?_
    repeat (refine sl ?_)
    obtain ⟨y5, hy, hm0⟩ := obnd_o hm0
    refine wl_cq (Mwld_long_sp (hm := hy)) ?_
    repeat (refine sl ?_)
    refine wc_ret ?_
    repeat (refine sl ?_)
    obtain rfl := Option.some.inj hm0
    exact wk_reti [(0, 0)] ⟨rfl, rfl⟩
  · replace hm0 := sel_f h hm0
    refine wc_seq ?_
    refine wc_region ?_
    repeat (refine sl ?_)
    refine wc_cond rfl (fun h => ?_) (fun h => ?_)
    · replace hm0 := sel_t h hm0
      refine wc_seq ?_
      refine wc_region ?_
      repeat (refine sl ?_)
      refine wc_ret ?_
      repeat (refine sl ?_)
      obtain rfl := Option.some.inj hm0
      exact wk_reti [(0, 0)] ⟨rfl, rfl⟩
    · replace hm0 := sel_f h hm0
      refine wc_skip ?_
      repeat (refine sl ?_)
      refine wc_seq ?_
      refine wc_region ?_
      repeat (refine sl ?_)
      refine wc_seq ?_
      refine wc_seq ?_
      refine wc_region ?_
      repeat (refine sl ?_)
      obtain ⟨y6, hy, hm0⟩ := obnd_o hm0
      refine wl_iq (Mwld_Tape_Next_sp (hm := hy)) 0 ?_
      repeat (refine sl ?_)
      refine wl_r (o_add rfl rfl rfl rfl) rfl rfl rfl ?_
      repeat (refine sl ?_)
      obtain ⟨mu1, hm1, hm0⟩ := obnd_o hm0
      refine wc_cut' (fun st => ∃ (out14 : ByteArray) (x15 : List Int) (x16 : Int), mu1 = (out14, x15, x16) ∧ st = ⟨[(3, vS out14)], [(0, some (.box 69 [.d (lst dsI x15), vI x16]))]⟩) ?_ ?_
      · refine wc_block ?_
        refine wc_loopw (fun κ st => ∃ (x7 : List Int) (x8 : Int) (out9 : ByteArray) (i10 : Int), Mwld_Tape_Key_l1 κ x7 x8 out9 i10 = some mu1 ∧ st = ⟨[(0, .p 0 0), (3, vS out9), (4, vI i10)], [(0, some (.box 69 [.d (lst dsI x7), vI x8]))]⟩) [(0, 0)] ⟨_, _, _, _, hm1, rfl⟩ ?_
        rintro κ _ ⟨x7, x8, out9, i10, hm1, rfl⟩
        cases κ with
        | zero => rw [Mwld_Tape_Key_l1.eq_1] at hm1; cases hm1
        | succ κ =>
          rw [Mwld_Tape_Key_l1.eq_2] at hm1
          refine wc_seq ?_
          refine wc_seq ?_
          refine wc_region ?_
          repeat (refine sl ?_)
          obtain ⟨mu2, hm2, hm1⟩ := obnd_o hm1
          refine wc_cut' (fun st => mu2 = Ctl.nxt () ∧ st = ⟨[(0, .p 0 0), (3, vS out9), (4, vI i10)], [(0, some (.box 69 [.d (lst dsI x7), vI x8]))]⟩) ?_ ?_
          · refine wc_cond rfl (fun h => ?_) (fun h => ?_)
            · replace hm2 := sel_t h hm2
              refine wc_skip ?_
              repeat (refine sl ?_)
              obtain rfl := Option.some.inj hm2
              exact wk_cutw [(0, 0)] ⟨rfl, rfl⟩
            · replace hm2 := sel_f h hm2
              refine wc_exit ?_
              repeat (refine sl ?_)
              obtain rfl := Option.some.inj hm2
              replace hm1 := ocbnd_r hm1
              obtain rfl := Option.some.inj hm1
              exact wk_cutw [(0, 0)] ⟨_, _, _, rfl, rfl⟩
          rintro _ ⟨rfl, rfl⟩
          replace hm1 := ocbnd_n hm1
          repeat (refine sl ?_)
          refine wc_seq ?_
          refine wc_block ?_
          refine wc_region ?_
          repeat (refine sl ?_)
          obtain ⟨y11, hy, hm1⟩ := obnd_o hm1
          refine wl_iq (Mwld_Tape_Next_sp (hm := hy)) 0 ?_
          repeat (refine sl ?_)
          obtain ⟨s12, hy, hm1⟩ := obnd_o hm1
          refine wl_r (o_letg hy rfl rfl (by exact inferInstance) (by exact inferInstance)) rfl rfl rfl ?_
          repeat (refine sl ?_)
          obtain ⟨s13, hy, hm1⟩ := obnd_o hm1
          refine wl_r (o_scat hy rfl rfl rfl) rfl rfl rfl ?_
          repeat (refine sl ?_)
          refine wc_region ?_
          repeat (refine sl ?_)
          exact wk_loopw [(0, 0)] ⟨_, _, _, _, hm1, rfl⟩ (Nat.lt_succ_self _)
      rintro _ ⟨out14, x15, x16, rfl, rfl⟩
      repeat (refine sl ?_)
      refine wc_seq ?_
      refine wc_region ?_
      repeat (refine sl ?_)
      refine wc_ret ?_
      repeat (refine sl ?_)
      obtain rfl := Option.some.inj hm0
      exact wk_reti [(0, 0)] ⟨rfl, rfl⟩

def Mwld_Tape_OddKey (t1 : TTape) : Option (ByteArray × TTape) :=
  obnd (Mwld_Tape_Bool t1 10) fun y2 =>
  sel y2.1 (
    obnd (Mwld_Tape_Next y2.2 6) fun y3 =>
    obnd (letg y3.1) fun s4 =>
    obnd (Mwld_long s4 65) fun y5 =>
    some (y5, y3.2)) (
    obnd (Mwld_Tape_Key y2.2) fun y6 =>
    some (y6.1, y6.2))
set_option maxRecDepth 100000 in
set_option maxHeartbeats 4000000 in
theorem Mwld_Tape_OddKey_sp {t1 : TTape} {y : (ByteArray × TTape)} (hm : Mwld_Tape_OddKey t1 = some y) : Spec Tryd.prog 39 [.p 0 0] [(0, some (.box 69 [.d (lst dsI t1.l), vI t1.at_]))] fun u h => u = vS y.1 ∧ h = [(0, some (.box 69 [.d (lst dsI y.2.l), vI y.2.at_]))] := by
  refine Spec.intro Tryd.func39 rfl rfl Tryd.ntmps39 Tryd.results39 rfl fun B w0 ρ0 => ?_
  simp only [slots, List.map_nil, List.map_cons, Nat.reduceAdd]
  unfold Mwld_Tape_OddKey at hm
  have hm0 := hm
  clear hm
  refine wc_seq ?_
  refine wc_region ?_
  repeat (refine sl ?_)
  refine wc_seq ?_
  refine wc_seq ?_
  refine wc_region ?_
  repeat (refine sl ?_)
  obtain ⟨y2, hy, hm0⟩ := obnd_o hm0
  refine wl_iq (Mwld_Tape_Bool_sp (hm := hy)) 0 ?_
  repeat (refine sl ?_)
  refine wc_cond rfl (fun h => ?_) (fun h => ?_)
  · replace hm0 := sel_t h hm0
    refine wc_seq ?_
    refine wc_region ?_
    repeat (refine sl ?_)
    obtain ⟨y3, hy, hm0⟩ := obnd_o hm0
    refine wl_iq (Mwld_Tape_Next_sp (hm := hy)) 0 ?_
    repeat (refine sl ?_)
    obtain ⟨s4, hy, hm0⟩ := obnd_o hm0
    refine wl_r (o_letg hy rfl rfl (by exact inferInstance) (by exact inferInstance)) rfl rfl rfl ?_
    repeat (refine sl ?_)
    obtain ⟨y5, hy, hm0⟩ := obnd_o hm0
    refine wl_cq (Mwld_long_sp (hm := hy)) ?_
    repeat (refine sl ?_)
    refine wc_ret ?_
    repeat (refine sl ?_)
    obtain rfl := Option.some.inj hm0
    exact wk_reti [(0, 0)] ⟨rfl, rfl⟩
  · replace hm0 := sel_f h hm0
    refine wc_skip ?_
    repeat (refine sl ?_)
    refine wc_seq ?_
    refine wc_region ?_
    repeat (refine sl ?_)
    obtain ⟨y6, hy, hm0⟩ := obnd_o hm0
    refine wl_iq (Mwld_Tape_Key_sp (hm := hy)) 0 ?_
    repeat (refine sl ?_)
    refine wc_ret ?_
    repeat (refine sl ?_)
    obtain rfl := Option.some.inj hm0
    exact wk_reti [(0, 0)] ⟨rfl, rfl⟩

def Mwld_Tape_Bound (t1 : TTape) : Option (Bnd × TTape) :=
  obnd (Mwld_Tape_Next t1 9) fun y2 =>
  sel (decide (y2.1 = 7)) (
    some ((Bnd.mk ⟨#[]⟩ true), y2.2)) (
    sel (decide (y2.1 = 8)) (
      obnd (Mwld_Tape_OddKey y2.2) fun y3 =>
      obnd (Mwld_Tape_Bool y3.2 3) fun y4 =>
      some ((Bnd.mk y3.1 y4.1), y4.2)) (
      obnd (Mwld_Tape_Key y2.2) fun y5 =>
      some ((Bnd.mk y5.1 false), y5.2)))
set_option maxRecDepth 100000 in
set_option maxHeartbeats 4000000 in
theorem Mwld_Tape_Bound_sp {t1 : TTape} {y : (Bnd × TTape)} (hm : Mwld_Tape_Bound t1 = some y) : Spec Tryd.prog 63 [.p 0 0] [(0, some (.box 69 [.d (lst dsI t1.l), vI t1.at_]))] fun u h => u = .a [vS y.1.key, vB y.1.top] ∧ h = [(0, some (.box 69 [.d (lst dsI y.2.l), vI y.2.at_]))] := by
  refine Spec.intro Tryd.func63 rfl rfl Tryd.ntmps63 Tryd.results63 rfl fun B w0 ρ0 => ?_
  simp only [slots, List.map_nil, List.map_cons, Nat.reduceAdd]
  unfold Mwld_Tape_Bound at hm
  have hm0 := hm
  clear hm
  refine wc_seq ?_
  refine wc_region ?_
  repeat (refine sl ?_)
  refine wc_seq ?_
  refine wc_seq ?_
  refine wc_region ?_
  repeat (refine sl ?_)
  obtain ⟨y2, hy, hm0⟩ := obnd_o hm0
  refine wl_iq (Mwld_Tape_Next_sp (hm := hy)) 0 ?_
  repeat (refine sl ?_)
  refine wc_block ?_
  refine wc_seq ?_
  refine wc_region ?_
  repeat (refine sl ?_)
  refine wc_cond rfl (fun h => ?_) (fun h => ?_)
  · replace hm0 := sel_t h hm0
    refine wc_seq ?_
    refine wc_region ?_
    repeat (refine sl ?_)
    refine wc_ret ?_
    repeat (refine sl ?_)
    obtain rfl := Option.some.inj hm0
    exact wk_reti [(0, 0)] ⟨rfl, rfl⟩
  · replace hm0 := sel_f h hm0
    refine wc_seq ?_
    refine wc_region ?_
    repeat (refine sl ?_)
    refine wc_cond rfl (fun h => ?_) (fun h => ?_)
    · replace hm0 := sel_t h hm0
      refine wc_seq ?_
      refine wc_region ?_
      repeat (refine sl ?_)
      obtain ⟨y3, hy, hm0⟩ := obnd_o hm0
      refine wl_iq (Mwld_Tape_OddKey_sp (hm := hy)) 0 ?_
      repeat (refine sl ?_)
      obtain ⟨y4, hy, hm0⟩ := obnd_o hm0
      refine wl_iq (Mwld_Tape_Bool_sp (hm := hy)) 0 ?_
      repeat (refine sl ?_)
      refine wc_ret ?_
      repeat (refine sl ?_)
      obtain rfl := Option.some.inj hm0
      exact wk_reti [(0, 0)] ⟨rfl, rfl⟩
    · replace hm0 := sel_f h hm0
      refine wc_skip ?_
      repeat (refine sl ?_)
      refine wc_seq ?_
      refine wc_region ?_
      repeat (refine sl ?_)
      obtain ⟨y5, hy, hm0⟩ := obnd_o hm0
      refine wl_iq (Mwld_Tape_Key_sp (hm := hy)) 0 ?_
      repeat (refine sl ?_)
      refine wc_ret ?_
      repeat (refine sl ?_)
      obtain rfl := Option.some.inj hm0
      exact wk_reti [(0, 0)] ⟨rfl, rfl⟩

def Mwld_Tape_Range (t1 : TTape) : Option (Rng × TTape) :=
  obnd (Mwld_Tape_Bound t1) fun y2 =>
  obnd (Mwld_Tape_Bound y2.2) fun y3 =>
  obnd (Mwld_Tape_Bool y3.2 6) fun y4 =>
  sel (!y4.1) (
    sel y2.1.top (
      some ((Rng.mk y3.1 y2.1), y4.2)) (
      sel (!y3.1.top) (
        sel (bl y3.1.key y2.1.key) (
          some ((Rng.mk y3.1 y2.1), y4.2)) (
          some ((Rng.mk y2.1 y3.1), y4.2))) (
        some ((Rng.mk y2.1 y3.1), y4.2)))) (
    some ((Rng.mk y2.1 y3.1), y4.2))
set_option maxRecDepth 100000 in
set_option maxHeartbeats 4000000 in
theorem Mwld_Tape_Range_sp {t1 : TTape} {y : (Rng × TTape)} (hm : Mwld_Tape_Range t1 = some y) : Spec Tryd.prog 40 [.p 0 0] [(0, some (.box 69 [.d (lst dsI t1.l), vI t1.at_]))] fun u h => u = .a [vS y.1.lo.key, vB y.1.lo.top, vS y.1.hi.key, vB y.1.hi.top] ∧ h = [(0, some (.box 69 [.d (lst dsI y.2.l), vI y.2.at_]))] := by
  refine Spec.intro Tryd.func40 rfl rfl Tryd.ntmps40 Tryd.results40 rfl fun B w0 ρ0 => ?_
  simp only [slots, List.map_nil, List.map_cons, Nat.reduceAdd]
  unfold Mwld_Tape_Range at hm
  have hm0 := hm
  clear hm
  refine wc_seq ?_
  refine wc_region ?_
  repeat (refine sl ?_)
  refine wc_seq ?_
  refine wc_region ?_
  repeat (refine sl ?_)
  obtain ⟨y2, hy, hm0⟩ := obnd_o hm0
  refine wl_iq (Mwld_Tape_Bound_sp (hm := hy)) 0 ?_
  repeat (refine sl ?_)
  obtain ⟨y3, hy, hm0⟩ := obnd_o hm0
  refine wl_iq (Mwld_Tape_Bound_sp (hm := hy)) 0 ?_
  repeat (refine sl ?_)
  refine wc_seq ?_
  refine wc_seq ?_
  refine wc_region ?_
  repeat (refine sl ?_)
  obtain ⟨y4, hy, hm0⟩ := obnd_o hm0
  refine wl_iq (Mwld_Tape_Bool_sp (hm := hy)) 0 ?_
  repeat (refine sl ?_)
  refine wl_gp rfl rfl rfl rfl (fun h => ?_) (fun h => ?_)
  · replace hm0 := sel_t h hm0
    repeat (refine sl ?_)
    refine wl_gp rfl rfl rfl rfl (fun h => ?_) (fun h => ?_)
    · replace hm0 := sel_t h hm0
      repeat (refine sl ?_)
      refine wc_cond_t rfl ?_
      refine wc_region ?_
      repeat (refine sl ?_)
      refine wc_seq ?_
      refine wc_region ?_
      repeat (refine sl ?_)
      refine wc_ret ?_
      repeat (refine sl ?_)
      obtain rfl := Option.some.inj hm0
      exact wk_reti [(0, 0)] ⟨rfl, rfl⟩
    · replace hm0 := sel_f h hm0
      repeat (refine sl ?_)
      refine wl_gp rfl rfl rfl rfl (fun h => ?_) (fun h => ?_)
      · replace hm0 := sel_t h hm0
        repeat (refine sl ?_)
        refine wc_cond rfl (fun h => ?_) (fun h => ?_)
        · replace hm0 := sel_t h hm0
          refine wc_region ?_
          repeat (refine sl ?_)
          refine wc_seq ?_
          refine wc_region ?_
          repeat (refine sl ?_)
          refine wc_ret ?_
          repeat (refine sl ?_)
          obtain rfl := Option.some.inj hm0
          exact wk_reti [(0, 0)] ⟨rfl, rfl⟩
        · replace hm0 := sel_f h hm0
          refine wc_skip ?_
          repeat (refine sl ?_)
          refine wc_seq ?_
          refine wc_region ?_
          repeat (refine sl ?_)
          refine wc_ret ?_
          repeat (refine sl ?_)
          obtain rfl := Option.some.inj hm0
          exact wk_reti [(0, 0)] ⟨rfl, rfl⟩
      · replace hm0 := sel_f h hm0
        repeat (refine sl ?_)
        refine wc_cond_f rfl ?_
        refine wc_skip ?_
        repeat (refine sl ?_)
        refine wc_seq ?_
        refine wc_region ?_
        repeat (refine sl ?_)
        refine wc_ret ?_
        repeat (refine sl ?_)
        obtain rfl := Option.some.inj hm0
        exact wk_reti [(0, 0)] ⟨rfl, rfl⟩
  · replace hm0 := sel_f h hm0
    repeat (refine sl ?_)
    refine wc_cond_f rfl ?_
    refine wc_skip ?_
    repeat (refine sl ?_)
    refine wc_seq ?_
    refine wc_region ?_
    repeat (refine sl ?_)
    refine wc_ret ?_
    repeat (refine sl ?_)
    obtain rfl := Option.some.inj hm0
    exact wk_reti [(0, 0)] ⟨rfl, rfl⟩

def Mwld_Tape_Proper (t1 : TTape) : Option (Rng × TTape) :=
  obnd (Mwld_Tape_Range t1) fun y2 =>
  bnd (Mref1_Empty y2.1) fun y3 =>
  sel y3 (
    some ((Rng.mk (Bnd.mk ⟨#[98]⟩ false) (Bnd.mk ⟨#[]⟩ true)), y2.2)) (
    some (y2.1, y2.2))
set_option maxRecDepth 100000 in
set_option maxHeartbeats 4000000 in
theorem Mwld_Tape_Proper_sp {t1 : TTape} {y : (Rng × TTape)} (hm : Mwld_Tape_Proper t1 = some y) : Spec Tryd.prog 22 [.p 0 0] [(0, some (.box 69 [.d (lst dsI t1.l), vI t1.at_]))] fun u h => u = .a [vS y.1.lo.key, vB y.1.lo.top, vS y.1.hi.key, vB y.1.hi.top] ∧ h = [(0, some (.box 69 [.d (lst dsI y.2.l), vI y.2.at_]))] := by
  refine Spec.intro Tryd.func22 rfl rfl Tryd.ntmps22 Tryd.results22 rfl fun B w0 ρ0 => ?_
  simp only [slots, List.map_nil, List.map_cons, Nat.reduceAdd]
  unfold Mwld_Tape_Proper at hm
  have hm0 := hm
  clear hm
  refine wc_seq ?_
  refine wc_region ?_
  repeat (refine sl ?_)
  refine wc_seq ?_
  refine wc_region ?_
  repeat (refine sl ?_)
  obtain ⟨y2, hy, hm0⟩ := obnd_o hm0
  refine wl_iq (Mwld_Tape_Range_sp (hm := hy)) 0 ?_
  repeat (refine sl ?_)
  refine wc_seq ?_
  refine wc_seq ?_
  refine wc_region ?_
  repeat (refine sl ?_)
  obtain ⟨y3, hy, hm0⟩ := bnd_o hm0
  refine wl_cq (Mref1_Empty_sp (hm := hy)) ?_
  repeat (refine sl ?_)
  refine wc_cond rfl (fun h => ?_) (fun h => ?_)
  · replace hm0 := sel_t h hm0
    refine wc_seq ?_
    refine wc_region ?_
    repeat (refine sl ?_)
    refine wc_ret ?_
    repeat (refine sl ?_)
    obtain rfl := Option.some.inj hm0
    exact wk_reti [(0, 0)] ⟨rfl, rfl⟩
  · replace hm0 := sel_f h hm0
    refine wc_skip ?_
    repeat (refine sl ?_)
    refine wc_seq ?_
    refine wc_region ?_
    repeat (refine sl ?_)
    refine wc_ret ?_
    repeat (refine sl ?_)
    obtain rfl := Option.some.inj hm0
    exact wk_reti [(0, 0)] ⟨rfl, rfl⟩

def Mwld_Tape_Value (t1 : TTape) : Option (ByteArray × TTape) :=
  obnd (Mwld_Tape_Next t1 9) fun y2 =>
  sel (decide (y2.1 = 6)) (
    some (⟨#[120]⟩, y2.2)) (
    sel (decide (y2.1 = 7)) (
      obnd (Mwld_long ⟨#[57]⟩ 64) fun y3 =>
      some (y3, y2.2)) (
      sel (decide (y2.1 = 8)) (
        some (⟨#[48, 48, 55]⟩, y2.2)) (
        obnd (Mwld_Tape_Next y2.2 6) fun y4 =>
        obnd (lget ([⟨#[49]⟩, ⟨#[45, 55]⟩, ⟨#[]⟩, ⟨#[48]⟩, ⟨#[49, 48, 48, 48, 48, 48, 48, 48, 48, 48, 48, 48, 48]⟩, ⟨#[49, 50]⟩] : List ByteArray) y4.1) fun x5 =>
        some (x5, y4.2))))
set_option maxRecDepth 100000 in
set_option maxHeartbeats 4000000 in
theorem Mwld_Tape_Value_sp {t1 : TTape} {y : (ByteArray × TTape)} (hm : Mwld_Tape_Value t1 = some y) : Spec Tryd.prog 75 [.p 0 0] [(0, some (.box 69 [.d (lst dsI t1.l), vI t1.at_]))] fun u h => u = vS y.1 ∧ h = [(0, some (.box 69 [.d (lst dsI y.2.l), vI y.2.at_]))] := by
  refine Spec.intro Tryd.func75 rfl rfl Tryd.ntmps75 Tryd.results75 rfl fun B w0 ρ0 => ?_
  simp only [slots, List.map_nil, List.map_cons, Nat.reduceAdd]
  unfold Mwld_Tape_Value at hm
  have hm0 := hm
  clear hm
  refine wc_seq ?_
  refine wc_region ?_
  repeat (refine sl ?_)
  refine wc_seq ?_
  refine wc_seq ?_
  refine wc_region ?_
  repeat (refine sl ?_)
  obtain ⟨y2, hy, hm0⟩ := obnd_o hm0
  refine wl_iq (Mwld_Tape_Next_sp (hm := hy)) 0 ?_
  repeat (refine sl ?_)
  refine wc_block ?_
  refine wc_seq ?_
  refine wc_region ?_
  repeat (refine sl ?_)
  refine wc_cond rfl (fun h => ?_) (fun h => ?_)
  · replace hm0 := sel_t h hm0
    refine wc_seq ?_
    refine wc_region ?_
    repeat (refine sl ?_)
    refine wc_ret ?_
    repeat (refine sl ?_)
    obtain rfl := Option.some.inj hm0
    exact wk_reti [(0, 0)] ⟨rfl, rfl⟩
  · replace hm0 := sel_f h hm0
    refine wc_seq ?_
    refine wc_region ?_
    repeat (refine sl ?_)
    refine wc_cond rfl (fun h => ?_) (fun h => ?_)
    · replace hm0 := sel_t h hm0
      refine wc_seq ?_
      refine wc_region ?_
      repeat (refine sl ?_)
      obtain ⟨y3, hy, hm0⟩ := obnd_o hm0
      refine wl_cq (Mwld_long_sp (hm := hy)) ?_
      repeat (refine sl ?_)
      refine wc_ret ?_
      repeat (refine sl ?_)
      obtain rfl := Option.some.inj hm0
      exact wk_reti [(0, 0)] ⟨rfl, rfl⟩
    · replace hm0 := sel_f h hm0
      refine wc_seq ?_
      refine wc_region ?_
      repeat (refine sl ?_)
      refine wc_cond rfl (fun h => ?_) (fun h => ?_)
      · replace hm0 := sel_t h hm0
        refine wc_seq ?_
        refine wc_region ?_
        repeat (refine sl ?_)
        refine wc_ret ?_
        repeat (refine sl ?_)
        obtain rfl := Option.some.inj hm0
        exact wk_reti [(0, 0)] ⟨rfl, rfl⟩
      · replace hm0 := sel_f h hm0
        refine wc_skip ?_
        repeat (refine sl ?_)
        refine wc_seq ?_
        refine wc_region ?_
        repeat (refine sl ?_)
        obtain ⟨y4, hy, hm0⟩ := obnd_o hm0
        refine wl_iq (Mwld_Tape_Next_sp (hm := hy)) 0 ?_
        repeat (refine sl ?_)
        obtain ⟨x5, hy, hm0⟩ := obnd_o hm0
        refine wl_r (o_ixa (f := vS) hy rfl rfl rfl (by exact inferInstance) (by exact inferInstance) rfl) rfl rfl rfl ?_
        repeat (refine sl ?_)
        refine wc_ret ?_
        repeat (refine sl ?_)
        obtain rfl := Option.some.inj hm0
        exact wk_reti [(0, 0)] ⟨rfl, rfl⟩

structure TQuery where
  Kind : Int
  Ranges : List Rng
  Key : ByteArray
  Count : Int
  deriving DecidableEq
def TQuery.ds (x : TQuery) : List D := [dI x.Kind, lst Rng.ds x.Ranges, dS x.Key, dI x.Count]
instance : Len TQuery.ds 4 := ⟨fun _ => rfl⟩
def Mwld_Tape_KeyIn_l1 (r2 : Rng) : Nat → List Int → Int → Int → Option (Ctl (ByteArray × TTape) (List Int × Int))
  | 0, _, _, _ => none
  | fuel + 1, x3, x4, i5 =>
    obnd (
      sel (decide (i5 < 4)) (
        some (Ctl.nxt ())) (
        some (Ctl.ret (Ctl.nxt (x3, x4)))) : Option (Ctl (Ctl (ByteArray × TTape) (List Int × Int)) Unit)) fun mu => ocbnd mu fun (_ : Unit) =>
    obnd (Mwld_Tape_Key (TTape.mk x3 x4)) fun y6 =>
    bnd (Mref1_Contains r2 y6.1) fun y7 =>
    sel y7 (
      some (Ctl.ret (y6.1, y6.2))) (
      Mwld_Tape_KeyIn_l1 r2 fuel y6.2.l y6.2.at_ (i64w (i5 + 1)))
def Mwld_Tape_KeyIn (t1 : TTape) (r2 : Rng) : Option (ByteArray × TTape) :=
  obnd (
    Mwld_Tape_KeyIn_l1 r2 FU t1.l t1.at_ 0 : Option (Ctl (ByteArray × TTape) (List Int × Int))) fun mu => ocbnd mu fun (x8, x9) =>
  some (r2.lo.key, (TTape.mk x8 x9))
set_option maxRecDepth 100000 in
set_option maxHeartbeats 4000000 in
theorem Mwld_Tape_KeyIn_sp {t1 : TTape} {r2 : Rng} {y : (ByteArray × TTape)} (hm : Mwld_Tape_KeyIn t1 r2 = some y) : Spec Tryd.prog 74 [.p 0 0, .a [vS r2.lo.key, vB r2.lo.top, vS r2.hi.key, vB r2.hi.top]] [(0, some (.box 69 [.d (lst dsI t1.l), vI t1.at_]))] fun u h => u = vS y.1 ∧ h = [(0, some (.box 69 [.d (lst dsI y.2.l), vI y.2.at_]))] := by
  refine Spec.intro Tryd.func74 rfl rfl Tryd.ntmps74 Tryd.results74 rfl fun B w0 ρ0 => ?_
  simp only [slots, List.map_nil, List.map_cons, Nat.reduceAdd]
  unfold Mwld_Tape_KeyIn at hm
  have hm0 := hm
  clear hm
  refine wc_seq ?_
  refine wc_region ?_
  repeat (refine sl ?_)
  refine wc_seq ?_
  refine wc_seq ?_
  refine wc_region ?_
  repeat (refine sl ?_)
  obtain ⟨mu1, hm1, hm0⟩ := obnd_o hm0
  refine wc_cut' (fun st => ∃ (x8 : List Int) (x9 : Int), mu1 = Ctl.nxt (x8, x9) ∧ st = ⟨[(3, .p 103 0)], [(0, some (.box 69 [.d (lst dsI x8), vI x9])), (103, some (.box 50 [vS r2.lo.key, vB r2.lo.top, vS r2.hi.key, vB r2.hi.top]))]⟩) ?_ ?_
  · refine wc_block ?_
    refine wc_loopw (fun κ st => ∃ (x3 : List Int) (x4 : Int) (i5 : Int), Mwld_Tape_KeyIn_l1 r2 κ x3 x4 i5 = some mu1 ∧ st = ⟨[(0, .p 0 0), (3, .p 103 0), (5, vI i5)], [(0, some (.box 69 [.d (lst dsI x3), vI x4])), (103, some (.box 50 [vS r2.lo.key, vB r2.lo.top, vS r2.hi.key, vB r2.hi.top]))]⟩) [(0, 0), (103, 103)] ⟨_, _, _, hm1, rfl⟩ ?_
    rintro κ _ ⟨x3, x4, i5, hm1, rfl⟩
    cases κ with
    | zero => rw [Mwld_Tape_KeyIn_l1.eq_1] at hm1; cases hm1
    | succ κ =>
      rw [Mwld_Tape_KeyIn_l1.eq_2] at hm1
      refine wc_seq ?_
      refine wc_seq ?_
      refine wc_region ?_
      repeat (refine sl ?_)
      obtain ⟨mu2, hm2, hm1⟩ := obnd_o hm1
      refine wc_cut' (fun st => mu2 = Ctl.nxt () ∧ st = ⟨[(0, .p 0 0), (3, .p 103 0), (5, vI i5)], [(0, some (.box 69 [.d (lst dsI x3), vI x4])), (103, some (.box 50 [vS r2.lo.key, vB r2.lo.top, vS r2.hi.key, vB r2.hi.top]))]⟩) ?_ ?_
      · refine wc_cond rfl (fun h => ?_) (fun h => ?_)
        · replace hm2 := sel_t h hm2
          refine wc_skip ?_
          repeat (refine sl ?_)
          obtain rfl := Option.some.inj hm2
          exact wk_cutw [(0, 0), (103, 103)] ⟨rfl, rfl⟩
        · replace hm2 := sel_f h hm2
          refine wc_exit ?_
          repeat (refine sl ?_)
          obtain rfl := Option.some.inj hm2
          replace hm1 := ocbnd_r hm1
          obtain rfl := Option.some.inj hm1
          exact wk_cutw [(0, 0), (103, 103)] ⟨_, _, rfl, rfl⟩
      rintro _ ⟨rfl, rfl⟩
      replace hm1 := ocbnd_n hm1
      repeat (refine sl ?_)
      refine wc_seq ?_
      refine wc_block ?_
      refine wc_seq ?_
      refine wc_region ?_
      repeat (refine sl ?_)
      obtain ⟨y6, hy, hm1⟩ := obnd_o hm1
      refine wl_iq (Mwld_Tape_Key_sp (hm := hy)) 0 ?_
      repeat (refine sl ?_)
      refine wc_seq ?_
      refine wc_region ?_
      repeat (refine sl ?_)
      obtain ⟨y7, hy, hm1⟩ := bnd_o hm1
      refine wl_cq (Mref1_Contains_sp (hm := hy)) ?_
      repeat (refine sl ?_)
      refine wc_cond rfl (fun h => ?_) (fun h => ?_)
      · replace hm1 := sel_t h hm1
        refine wc_seq ?_
        refine wc_region ?_
        repeat (refine sl ?_)
        refine wc_ret ?_
        repeat (refine sl ?_)
        obtain rfl := Option.some.inj hm1
        replace hm0 := ocbnd_r hm0
        obtain rfl := Option.some.inj hm0
        exact wk_reti [(0, 0)] ⟨rfl, rfl⟩
      · replace hm1 := sel_f h hm1
        refine wc_skip ?_
        repeat (refine sl ?_)
        refine wc_region ?_
        repeat (refine sl ?_)
        refine wl_r (o_add rfl rfl rfl rfl) rfl rfl rfl ?_
        repeat (refine sl ?_)
        exact wk_loopw [(0, 0), (103, 103)] ⟨_, _, _, hm1, rfl⟩ (Nat.lt_succ_self _)
  rintro _ ⟨x8, x9, rfl, rfl⟩
  replace hm0 := ocbnd_n hm0
  repeat (refine sl ?_)
  refine wc_seq ?_
  refine wc_region ?_
  repeat (refine sl ?_)
  refine wc_ret ?_
  repeat (refine sl ?_)
  obtain rfl := Option.some.inj hm0
  exact wk_reti [(0, 0)] ⟨rfl, rfl⟩

def Mwld_All : Rng :=
  (Rng.mk (Bnd.mk ⟨#[]⟩ false) (Bnd.mk ⟨#[]⟩ true))
set_option maxRecDepth 100000 in
set_option maxHeartbeats 4000000 in
theorem Mwld_All_sp {y : Rng} (hm : Mwld_All = y) : Spec Tryd.prog 48 [] [] fun u h => u = .a [vS y.lo.key, vB y.lo.top, vS y.hi.key, vB y.hi.top] ∧ h = [] := by
  refine Spec.intro Tryd.func48 rfl rfl Tryd.ntmps48 Tryd.results48 rfl fun B w0 ρ0 => ?_
  simp only [slots, List.map_nil, List.map_cons, Nat.reduceAdd]
  unfold Mwld_All at hm
  have hm0 := hm
  clear hm
  refine wc_seq ?_
  refine wc_region ?_
  repeat (refine sl ?_)
  refine wc_seq ?_
  refine wc_region ?_
  repeat (refine sl ?_)
  refine wc_ret ?_
  repeat (refine sl ?_)
  subst hm0
  exact wk_ret ⟨rfl, rfl⟩

def Mref20_without_l1 (key2 : ByteArray) : List Kv → List Kv → Option (List Kv)
  | [], out3 =>
    some out3
  | r4 :: xs5, out3 =>
    sel (!decide (r4.key = key2)) (
      obnd (app out3 ([r4] : List Kv)) fun l7 =>
      Mref20_without_l1 key2 xs5 l7) (
      Mref20_without_l1 key2 xs5 out3)
def Mref20_without (t1 : List Kv) (key2 : ByteArray) : Option (List Kv) :=
  obnd (
    Mref20_without_l1 key2 t1 [] : Option (List Kv)) fun out8 =>
  some out8
set_option maxRecDepth 100000 in
set_option maxHeartbeats 4000000 in
theorem Mref20_without_sp {t1 : List Kv} {key2 : ByteArray} {y : List Kv} (hm : Mref20_without t1 key2 = some y) : Spec Tryd.prog 95 [.d (lst Kv.ds t1), vS key2] [] fun u h => u = .d (lst Kv.ds y) ∧ h = [] := by
  refine Spec.intro Tryd.func95 rfl rfl Tryd.ntmps95 Tryd.results95 rfl fun B w0 ρ0 => ?_
  simp only [slots, List.map_nil, List.map_cons, Nat.reduceAdd]
  unfold Mref20_without at hm
  have hm0 := hm
  clear hm
  refine wc_seq ?_
  refine wc_region ?_
  repeat (refine sl ?_)
  refine wc_seq ?_
  refine wc_region ?_
  repeat (refine sl ?_)
  refine wc_seq ?_
  refine wc_seq ?_
  refine wc_region ?_
  repeat (refine sl ?_)
  obtain ⟨mu1, hm1, hm0⟩ := obnd_o hm0
  refine wc_cut' (fun st => ∃ (out8 : List Kv), out8 = mu1 ∧ st = ⟨[(5, .d (lst Kv.ds out8))], []⟩) ?_ ?_
  · refine wc_block ?_
    refine wc_wk (wk_nil 5 5001 59 2 rfl rfl) ?_
    refine wc_len 8 rfl (fun hlenm6 => ?_)
    refine wc_loopw (fun κ st => ∃ (m6 : Nat) (out3 : List Kv), κ = t1.length - m6 ∧ m6 ≤ t1.length ∧ Mref20_without_l1 key2 (t1.drop m6) out3 = some mu1 ∧ st = ⟨[(1, vS key2), (5, .h 5001), (8, .d (lst Kv.ds t1)), (9, vI (t1.length : Int)), (10, vI (m6 : Int))], [(5001, some (arrT 59 2 Kv.ds out3))]⟩) [(5001, 5001)] ⟨0, _, rfl, Nat.zero_le _, hm1, rfl⟩ ?_
    rintro κ _ ⟨m6, out3, rfl, hlem6, hm1, rfl⟩
    rcases Nat.lt_or_ge m6 t1.length with hltm6 | hgem6
    · obtain ⟨r4, hxm6, hdr⟩ := drop_c hltm6
      rw [hdr, Mref20_without_l1.eq_2] at hm1
      refine wc_seq ?_
      refine wc_region ?_
      repeat (refine sl ?_)
      refine wc_seq ?_
      refine wc_cond_tt (lt_t hltm6) rfl ?_
      refine wc_skip ?_
      repeat (refine sl ?_)
      refine wc_seq ?_
      refine wc_block ?_
      refine wc_seq ?_
      refine wc_region ?_
      repeat (refine sl ?_)
      refine wl_r (o_ixm (ys := [dS r4.key, dS r4.val]) hxm6 rfl rfl rfl rfl) rfl rfl rfl ?_
      repeat (refine sl ?_)
      refine wc_seq ?_
      refine wc_region ?_
      repeat (refine sl ?_)
      refine wc_cond rfl (fun h => ?_) (fun h => ?_)
      · replace hm1 := sel_t h hm1
        refine wc_region ?_
        repeat (refine sl ?_)
        refine wl_bt Kv.ds [r4] rfl rfl (by simp only [flatV, cellsV, List.cons_append, List.nil_append, List.append_nil]; exact rfl) rfl rfl rfl rfl rfl rfl ?_
        repeat (refine sl ?_)
        obtain ⟨l7, hy, hm1⟩ := obnd_o hm1
        refine wl_2 (n_app (k' := 121) hy rfl rfl rfl rfl rfl rfl rfl rfl) rfl rfl rfl rfl ?_
        repeat (refine sl ?_)
        refine wc_region ?_
        repeat (refine sl ?_)
        refine wl_r (o_inc hltm6 hlenm6 rfl rfl rfl) rfl rfl rfl ?_
        repeat (refine sl ?_)
        exact wk_loopw [(5001, 121)] ⟨m6 + 1, _, rfl, hltm6, hm1, rfl⟩ (by omega)
      · replace hm1 := sel_f h hm1
        refine wc_skip ?_
        repeat (refine sl ?_)
        refine wc_region ?_
        repeat (refine sl ?_)
        refine wl_r (o_inc hltm6 hlenm6 rfl rfl rfl) rfl rfl rfl ?_
        repeat (refine sl ?_)
        exact wk_loopw [(5001, 5001)] ⟨m6 + 1, _, rfl, hltm6, hm1, rfl⟩ (by omega)
    · rw [drop_n hgem6, Mref20_without_l1.eq_1] at hm1
      refine wc_seq ?_
      refine wc_region ?_
      repeat (refine sl ?_)
      refine wc_seq ?_
      refine wc_cond_ff (lt_f hgem6) rfl ?_
      refine wc_exit ?_
      repeat (refine sl ?_)
      obtain rfl := Option.some.inj hm1
      exact wk_cutw [] ⟨_, rfl, rfl⟩
  rintro _ ⟨out8, rfl, rfl⟩
  repeat (refine sl ?_)
  refine wc_seq ?_
  refine wc_region ?_
  repeat (refine sl ?_)
  refine wc_ret ?_
  repeat (refine sl ?_)
  obtain rfl := Option.some.inj hm0
  exact wk_ret ⟨rfl, rfl⟩

def Mref20_with_l1 (x2 : Kv) : List Kv → List Kv → Bool → Option (List Kv × Bool)
  | [], out4, done5 =>
    some (out4, done5)
  | r6 :: xs7, out4, done5 =>
    obnd (
      sel (!done5) (
        some (bl x2.key r6.key)) (
        some false) : Option Bool) fun x9 =>
    sel x9 (
      obnd (app out4 ([x2] : List Kv)) fun l10 =>
      obnd (app l10 ([r6] : List Kv)) fun l11 =>
      Mref20_with_l1 x2 xs7 l11 true) (
      obnd (app out4 ([r6] : List Kv)) fun l12 =>
      Mref20_with_l1 x2 xs7 l12 done5)
def Mref20_with (t1 : List Kv) (x2 : Kv) : Option (List Kv) :=
  obnd (Mref20_without t1 x2.key) fun y3 =>
  obnd (
    Mref20_with_l1 x2 y3 [] false : Option (List Kv × Bool)) fun (out13, done14) =>
  sel (!done14) (
    obnd (app out13 ([x2] : List Kv)) fun l15 =>
    some l15) (
    some out13)
set_option maxRecDepth 100000 in
set_option maxHeartbeats 4000000 in
theorem Mref20_with_sp {t1 : List Kv} {x2 : Kv} {y : List Kv} (hm : Mref20_with t1 x2 = some y) : Spec Tryd.prog 89 [.d (lst Kv.ds t1), .a [vS x2.key, vS x2.val]] [] fun u h => u = .d (lst Kv.ds y) ∧ h = [] := by
  refine Spec.intro Tryd.func89 rfl rfl Tryd.ntmps89 Tryd.results89 rfl fun B w0 ρ0 => ?_
  simp only [slots, List.map_nil, List.map_cons, Nat.reduceAdd]
  unfold Mref20_with at hm
  have hm0 := hm
  clear hm
  refine wc_seq ?_
  refine wc_region ?_
  repeat (refine sl ?_)
  refine wc_seq ?_
  refine wc_region ?_
  repeat (refine sl ?_)
  refine wc_seq ?_
  refine wc_region ?_
  repeat (refine sl ?_)
  refine wc_seq ?_
  refine wc_seq ?_
  refine wc_region ?_
  repeat (refine sl ?_)
  obtain ⟨y3, hy, hm0⟩ := obnd_o hm0
  refine wl_cq (Mref20_without_sp (hm := hy)) ?_
  repeat (refine sl ?_)
  obtain ⟨mu1, hm1, hm0⟩ := obnd_o hm0
  refine wc_cut' (fun st => ∃ (out13 : List Kv) (done14 : Bool), mu1 = (out13, done14) ∧ st = ⟨[(3, .p 103 0), (5, .h 5002), (6, vB done14)], [(103, some (.box 59 [vS x2.key, vS x2.val])), (5002, some (arrT 59 2 Kv.ds out13))]⟩) ?_ ?_
  · refine wc_block ?_
    refine wc_wk (wk_nil 5 5001 59 2 rfl rfl) ?_
    refine wc_len 12 rfl (fun hlenm8 => ?_)
    refine wc_loopw (fun κ st => ∃ (m8 : Nat) (out4 : List Kv) (done5 : Bool), κ = y3.length - m8 ∧ m8 ≤ y3.length ∧ Mref20_with_l1 x2 (y3.drop m8) out4 done5 = some mu1 ∧ st = ⟨[(3, .p 103 0), (5, .h 5001), (6, vB done5), (12, .d (lst Kv.ds y3)), (13, vI (y3.length : Int)), (14, vI (m8 : Int))], [(103, some (.box 59 [vS x2.key, vS x2.val])), (5001, some (arrT 59 2 Kv.ds out4))]⟩) [(103, 103), (5001, 5001)] ⟨0, _, _, rfl, Nat.zero_le _, hm1, rfl⟩ ?_
    rintro κ _ ⟨m8, out4, done5, rfl, hlem8, hm1, rfl⟩
    rcases Nat.lt_or_ge m8 y3.length with hltm8 | hgem8
    · obtain ⟨r6, hxm8, hdr⟩ := drop_c hltm8
      rw [hdr, Mref20_with_l1.eq_2] at hm1
      refine wc_seq ?_
      refine wc_region ?_
      repeat (refine sl ?_)
      refine wc_seq ?_
      refine wc_cond_tt (lt_t hltm8) rfl ?_
      refine wc_skip ?_
      repeat (refine sl ?_)
      refine wc_seq ?_
      refine wc_block ?_
      refine wc_seq ?_
      refine wc_region ?_
      repeat (refine sl ?_)
      refine wl_r (o_ixm (ys := [dS r6.key, dS r6.val]) hxm8 rfl rfl rfl rfl) rfl rfl rfl ?_
      repeat (refine sl ?_)
      refine wc_seq ?_
      refine wc_seq ?_
      obtain ⟨mu2, hm2, hm1⟩ := obnd_o hm1
      refine wc_cut' (fun st => ∃ (x9 : Bool), x9 = mu2 ∧ st = ⟨[(3, .p 103 0), (5, .h 5001), (6, vB done5), (8, .p 108 0), (12, .d (lst Kv.ds y3)), (13, vI (y3.length : Int)), (14, vI (m8 : Int)), (26, vB x9)], [(103, some (.box 59 [vS x2.key, vS x2.val])), (108, some (.box 59 [vS r6.key, vS r6.val])), (5001, some (arrT 59 2 Kv.ds out4))]⟩) ?_ ?_
      · refine wc_region ?_
        repeat (refine sl ?_)
        refine wl_gp rfl rfl rfl rfl (fun h => ?_) (fun h => ?_)
        · replace hm2 := sel_t h hm2
          repeat (refine sl ?_)
          obtain rfl := Option.some.inj hm2
          exact wk_cutw [(103, 103), (108, 108), (5001, 5001)] ⟨_, rfl, rfl⟩
        · replace hm2 := sel_f h hm2
          repeat (refine sl ?_)
          obtain rfl := Option.some.inj hm2
          exact wk_cutw [(103, 103), (108, 108), (5001, 5001)] ⟨_, rfl, rfl⟩
      rintro _ ⟨x9, rfl, rfl⟩
      repeat (refine sl ?_)
      refine wc_cond rfl (fun h => ?_) (fun h => ?_)
      · replace hm1 := sel_t h hm1
        refine wc_region ?_
        repeat (refine sl ?_)
        refine wl_bt Kv.ds [x2] rfl rfl (by simp only [flatV, cellsV, List.cons_append, List.nil_append, List.append_nil]; exact rfl) rfl rfl rfl rfl rfl rfl ?_
        repeat (refine sl ?_)
        obtain ⟨l10, hy, hm1⟩ := obnd_o hm1
        refine wl_2 (n_app (k' := 130) hy rfl rfl rfl rfl rfl rfl rfl rfl) rfl rfl rfl rfl ?_
        repeat (refine sl ?_)
        refine wc_region ?_
        repeat (refine sl ?_)
        refine wl_bt Kv.ds [r6] rfl rfl (by simp only [flatV, cellsV, List.cons_append, List.nil_append, List.append_nil]; exact rfl) rfl rfl rfl rfl rfl rfl ?_
        repeat (refine sl ?_)
        obtain ⟨l11, hy, hm1⟩ := obnd_o hm1
        refine wl_2 (n_app (k' := 134) hy rfl rfl rfl rfl rfl rfl rfl rfl) rfl rfl rfl rfl ?_
        repeat (refine sl ?_)
        refine wc_region ?_
        repeat (refine sl ?_)
        refine wl_r (o_inc hltm8 hlenm8 rfl rfl rfl) rfl rfl rfl ?_
        repeat (refine sl ?_)
        exact wk_loopw [(103, 103), (5001, 134)] ⟨m8 + 1, _, _, rfl, hltm8, hm1, rfl⟩ (by omega)
      · replace hm1 := sel_f h hm1
        refine wc_skip ?_
        repeat (refine sl ?_)
        refine wc_region ?_
        repeat (refine sl ?_)
        refine wl_bt Kv.ds [r6] rfl rfl (by simp only [flatV, cellsV, List.cons_append, List.nil_append, List.append_nil]; exact rfl) rfl rfl rfl rfl rfl rfl ?_
        repeat (refine sl ?_)
        obtain ⟨l12, hy, hm1⟩ := obnd_o hm1
        refine wl_2 (n_app (k' := 134) hy rfl rfl rfl rfl rfl rfl rfl rfl) rfl rfl rfl rfl ?_
        repeat (refine sl ?_)
        refine wc_region ?_
        repeat (refine sl ?_)
        refine wl_r (o_inc hltm8 hlenm8 rfl rfl rfl) rfl rfl rfl ?_
        repeat (refine sl ?_)
        exact wk_loopw [(103, 103), (5001, 134)] ⟨m8 + 1, _, _, rfl, hltm8, hm1, rfl⟩ (by omega)
    · rw [drop_n hgem8, Mref20_with_l1.eq_1] at hm1
      refine wc_seq ?_
      refine wc_region ?_
      repeat (refine sl ?_)
      refine wc_seq ?_
      refine wc_cond_ff (lt_f hgem8) rfl ?_
      refine wc_exit ?_
      repeat (refine sl ?_)
      obtain rfl := Option.some.inj hm1
      exact wk_cutw [(103, 103), (5002, 5001)] ⟨_, _, rfl, rfl⟩
  rintro _ ⟨out13, done14, rfl, rfl⟩
  repeat (refine sl ?_)
  refine wc_seq ?_
  refine wc_seq ?_
  refine wc_region ?_
  repeat (refine sl ?_)
  refine wc_cond rfl (fun h => ?_) (fun h => ?_)
  · replace hm0 := sel_t h hm0
    refine wc_region ?_
    repeat (refine sl ?_)
    refine wl_bt Kv.ds [x2] rfl rfl (by simp only [flatV, cellsV, List.cons_append, List.nil_append, List.append_nil]; exact rfl) rfl rfl rfl rfl rfl rfl ?_
    repeat (refine sl ?_)
    obtain ⟨l15, hy, hm0⟩ := obnd_o hm0
    refine wl_2 (n_app (k' := 141) hy rfl rfl rfl rfl rfl rfl rfl rfl) rfl rfl rfl rfl ?_
    repeat (refine sl ?_)
    refine wc_seq ?_
    refine wc_region ?_
    repeat (refine sl ?_)
    refine wc_ret ?_
    repeat (refine sl ?_)
    obtain rfl := Option.some.inj hm0
    exact wk_ret ⟨rfl, rfl⟩
  · replace hm0 := sel_f h hm0
    refine wc_skip ?_
    repeat (refine sl ?_)
    refine wc_seq ?_
    refine wc_region ?_
    repeat (refine sl ?_)
    refine wc_ret ?_
    repeat (refine sl ?_)
    obtain rfl := Option.some.inj hm0
    exact wk_ret ⟨rfl, rfl⟩

def Mref20_Valid_l1 (t1 : List Kv) : List Kv → Int → Option (Ctl Bool Unit)
  | [], i =>
    some (Ctl.nxt ())
  | r2 :: xs3, i =>
    bnd (Mref1_ValidKey r2.key) fun y5 =>
    sel (!y5) (
      some (Ctl.ret false)) (
      sel (decide (64 < (r2.val.size : Int))) (
        some (Ctl.ret false)) (
        sel (decide (0 < i)) (
          obnd (lget t1 (i64w (i - 1))) fun e6 =>
          sel (!bl e6.key r2.key) (
            some (Ctl.ret false)) (
            Mref20_Valid_l1 t1 xs3 (i + 1))) (
          Mref20_Valid_l1 t1 xs3 (i + 1))))
def Mref20_Valid (t1 : List Kv) : Option Bool :=
  sel (decide (1024 < (t1.length : Int))) (
    some false) (
    obnd (
      Mref20_Valid_l1 t1 t1 0 : Option (Ctl Bool Unit)) fun mu => ocbnd mu fun (_ : Unit) =>
    some true)
set_option maxRecDepth 100000 in
set_option maxHeartbeats 4000000 in
theorem Mref20_Valid_sp {t1 : List Kv} {y : Bool} (hm : Mref20_Valid t1 = some y) : Spec Tryd.prog 26 [.d (lst Kv.ds t1)] [] fun u h => u = vB y ∧ h = [] := by
  refine Spec.intro Tryd.func26 rfl rfl Tryd.ntmps26 Tryd.results26 rfl fun B w0 ρ0 => ?_
  simp only [slots, List.map_nil, List.map_cons, Nat.reduceAdd]
  unfold Mref20_Valid at hm
  have hm0 := hm
  clear hm
  refine wc_seq ?_
  refine wc_region ?_
  repeat (refine sl ?_)
  refine wc_seq ?_
  refine wc_seq ?_
  refine wc_region ?_
  repeat (refine sl ?_)
  refine wc_cond rfl (fun h => ?_) (fun h => ?_)
  · replace hm0 := sel_t h hm0
    refine wc_seq ?_
    refine wc_region ?_
    repeat (refine sl ?_)
    refine wc_ret ?_
    repeat (refine sl ?_)
    obtain rfl := Option.some.inj hm0
    exact wk_ret ⟨rfl, rfl⟩
  · replace hm0 := sel_f h hm0
    refine wc_skip ?_
    repeat (refine sl ?_)
    refine wc_seq ?_
    refine wc_seq ?_
    refine wc_region ?_
    repeat (refine sl ?_)
    obtain ⟨mu1, hm1, hm0⟩ := obnd_o hm0
    refine wc_cut' (fun st => mu1 = Ctl.nxt () ∧ st = ⟨[], []⟩) ?_ ?_
    · refine wc_block ?_
      refine wc_len 8 rfl (fun hlenm4 => ?_)
      refine wc_loopw (fun κ st => ∃ (m4 : Nat) , κ = t1.length - m4 ∧ m4 ≤ t1.length ∧ Mref20_Valid_l1 t1 (t1.drop m4) (m4 : Int) = some mu1 ∧ st = ⟨[(0, .d (lst Kv.ds t1)), (8, .d (lst Kv.ds t1)), (9, vI (t1.length : Int)), (10, vI (m4 : Int))], []⟩) [] ⟨0, rfl, Nat.zero_le _, hm1, rfl⟩ ?_
      rintro κ _ ⟨m4, rfl, hlem4, hm1, rfl⟩
      rcases Nat.lt_or_ge m4 t1.length with hltm4 | hgem4
      · obtain ⟨r2, hxm4, hdr⟩ := drop_c hltm4
        rw [hdr, Mref20_Valid_l1.eq_2] at hm1
        refine wc_seq ?_
        refine wc_region ?_
        repeat (refine sl ?_)
        refine wc_seq ?_
        refine wc_cond_tt (lt_t hltm4) rfl ?_
        refine wc_skip ?_
        repeat (refine sl ?_)
        refine wc_seq ?_
        refine wc_block ?_
        refine wc_seq ?_
        refine wc_region ?_
        repeat (refine sl ?_)
        refine wl_r (o_ixm (ys := [dS r2.key, dS r2.val]) hxm4 rfl rfl rfl rfl) rfl rfl rfl ?_
        repeat (refine sl ?_)
        refine wc_seq ?_
        refine wc_draw (id := 6) [⟨0, 0, [4]⟩, ⟨1, 1, [15]⟩, ⟨2, 3, [16]⟩, ⟨3, 7, [17]⟩, ⟨4, 15, [18]⟩, ⟨5, 31, [4, 19]⟩, ⟨6, 63, [19, 20]⟩, ⟨7, 127, [19, 21]⟩, ⟨8, 255, [19, 22]⟩, ⟨9, 511, [19, 23]⟩, ⟨10, 1023, [24]⟩, ⟨11, 2047, [3, 25]⟩, ⟨12, 4095, [25, 26]⟩, ⟨13, 8191, [25, 27]⟩, ⟨14, 16383, [0, 28]⟩, ⟨15, 16383, [3, 28]⟩, ⟨16, 49151, [28, 30]⟩, ⟨17, 131071, [28, 29, 31]⟩, ⟨18, 262143, [28, 32]⟩, ⟨19, 524287, [28, 33]⟩, ⟨20, 16383, [4, 28]⟩, ⟨21, 1064959, [28, 35]⟩, ⟨22, 4194303, [28, 34, 36]⟩, ⟨23, 8388607, [25, 28, 37]⟩, ⟨24, 16777215, [25, 38]⟩] mixed (by kernel_rfl) ?_
        repeat (refine sl ?_)
        obtain ⟨y5, hy, hm1⟩ := bnd_o hm1
        refine wd_cs (Mref1_ValidKey_sp (hm := hy)) rfl rfl rfl (by repeat (first | exact Vws.nil | apply Vws.cons | exact Vw.nil | exact Vw.d _ | exact Vw.q _ | apply Vw.a)) rfl rfl (by first | exact .no rfl | exact .y rfl rfl rfl rfl) rfl rfl rfl ?_
        repeat (refine sl ?_)
        refine wd_gp rfl rfl rfl rfl (fun h => ?_) (fun h => ?_)
        · replace hm1 := sel_t h hm1
          repeat (refine sl ?_)
          refine wc_cond_t rfl ?_
          refine wc_seq ?_
          refine wc_region ?_
          repeat (refine sl ?_)
          refine wc_ret ?_
          repeat (refine sl ?_)
          obtain rfl := Option.some.inj hm1
          replace hm0 := ocbnd_r hm0
          obtain rfl := Option.some.inj hm0
          exact wk_ret ⟨rfl, rfl⟩
        · replace hm1 := sel_f h hm1
          repeat (refine sl ?_)
          refine wd_gp rfl rfl rfl rfl (fun h => ?_) (fun h => ?_)
          · replace hm1 := sel_t h hm1
            repeat (refine sl ?_)
            refine wc_cond_t rfl ?_
            refine wc_seq ?_
            refine wc_region ?_
            repeat (refine sl ?_)
            refine wc_ret ?_
            repeat (refine sl ?_)
            obtain rfl := Option.some.inj hm1
            replace hm0 := ocbnd_r hm0
            obtain rfl := Option.some.inj hm0
            exact wk_ret ⟨rfl, rfl⟩
          · replace hm1 := sel_f h hm1
            repeat (refine sl ?_)
            refine wd_gp rfl rfl rfl rfl (fun h => ?_) (fun h => ?_)
            · replace hm1 := sel_t h hm1
              repeat (refine sl ?_)
              obtain ⟨e6, hy, hm1⟩ := obnd_o hm1
              refine wd_r [] (o_ixg (ys := [dS e6.key, dS e6.val]) hy rfl rfl rfl rfl) rfl (by first | exact .no rfl | exact .y rfl rfl rfl rfl) rfl rfl ?_
              repeat (refine sl ?_)
              refine wc_cond rfl (fun h => ?_) (fun h => ?_)
              · replace hm1 := sel_t h hm1
                refine wc_seq ?_
                refine wc_region ?_
                repeat (refine sl ?_)
                refine wc_ret ?_
                repeat (refine sl ?_)
                obtain rfl := Option.some.inj hm1
                replace hm0 := ocbnd_r hm0
                obtain rfl := Option.some.inj hm0
                exact wk_ret ⟨rfl, rfl⟩
              · replace hm1 := sel_f h hm1
                refine wc_skip ?_
                repeat (refine sl ?_)
                refine wc_region ?_
                repeat (refine sl ?_)
                refine wl_r (o_inc hltm4 hlenm4 rfl rfl rfl) rfl rfl rfl ?_
                repeat (refine sl ?_)
                exact wk_loopw [] ⟨m4 + 1, rfl, hltm4, hm1, rfl⟩ (by omega)
            · replace hm1 := sel_f h hm1
              repeat (refine sl ?_)
              refine wc_cond_f rfl ?_
              refine wc_skip ?_
              repeat (refine sl ?_)
              refine wc_region ?_
              repeat (refine sl ?_)
              refine wl_r (o_inc hltm4 hlenm4 rfl rfl rfl) rfl rfl rfl ?_
              repeat (refine sl ?_)
              exact wk_loopw [] ⟨m4 + 1, rfl, hltm4, hm1, rfl⟩ (by omega)
      · rw [drop_n hgem4, Mref20_Valid_l1.eq_1] at hm1
        refine wc_seq ?_
        refine wc_region ?_
        repeat (refine sl ?_)
        refine wc_seq ?_
        refine wc_cond_ff (lt_f hgem4) rfl ?_
        refine wc_exit ?_
        repeat (refine sl ?_)
        obtain rfl := Option.some.inj hm1
        exact wk_cutw [] ⟨rfl, rfl⟩
    rintro _ ⟨rfl, rfl⟩
    replace hm0 := ocbnd_n hm0
    repeat (refine sl ?_)
    refine wc_seq ?_
    refine wc_region ?_
    repeat (refine sl ?_)
    refine wc_ret ?_
    repeat (refine sl ?_)
    obtain rfl := Option.some.inj hm0
    exact wk_ret ⟨rfl, rfl⟩

def Mref20_Slice_l1 (r2 : Rng) : List Kv → List Kv → Option (List Kv)
  | [], out3 =>
    some out3
  | r4 :: xs5, out3 =>
    bnd (Mref1_Contains r2 r4.key) fun y7 =>
    sel y7 (
      obnd (app out3 ([r4] : List Kv)) fun l8 =>
      Mref20_Slice_l1 r2 xs5 l8) (
      Mref20_Slice_l1 r2 xs5 out3)
def Mref20_Slice (t1 : List Kv) (r2 : Rng) : Option (List Kv) :=
  obnd (
    Mref20_Slice_l1 r2 t1 [] : Option (List Kv)) fun out9 =>
  some out9
def Mref20_Same_l1 (a1 : List Kv) (b2 : List Kv) : List Kv → Int → Option (Ctl Bool Unit)
  | [], i =>
    some (Ctl.nxt ())
  | r3 :: xs4, i =>
    obnd (lget a1 i) fun e6 =>
    obnd (lget b2 i) fun e7 =>
    sel (!(decide (e6.key = e7.key) && decide (e6.val = e7.val))) (
      some (Ctl.ret false)) (
      Mref20_Same_l1 a1 b2 xs4 (i + 1))
def Mref20_Same (a1 : List Kv) (b2 : List Kv) : Option Bool :=
  sel (!decide ((a1.length : Int) = (b2.length : Int))) (
    some false) (
    obnd (
      Mref20_Same_l1 a1 b2 a1 0 : Option (Ctl Bool Unit)) fun mu => ocbnd mu fun (_ : Unit) =>
    some true)
set_option maxRecDepth 100000 in
set_option maxHeartbeats 4000000 in
theorem Mref20_Same_sp {a1 : List Kv} {b2 : List Kv} {y : Bool} (hm : Mref20_Same a1 b2 = some y) : Spec Tryd.prog 25 [.d (lst Kv.ds a1), .d (lst Kv.ds b2)] [] fun u h => u = vB y ∧ h = [] := by
  refine Spec.intro Tryd.func25 rfl rfl Tryd.ntmps25 Tryd.results25 rfl fun B w0 ρ0 => ?_
  simp only [slots, List.map_nil, List.map_cons, Nat.reduceAdd]
  unfold Mref20_Same at hm
  have hm0 := hm
  clear hm
  refine wc_seq ?_
  refine wc_region ?_
  repeat (refine sl ?_)
  refine wc_seq ?_
  refine wc_seq ?_
  refine wc_region ?_
  repeat (refine sl ?_)
  refine wc_cond rfl (fun h => ?_) (fun h => ?_)
  · replace hm0 := sel_t h hm0
    refine wc_seq ?_
    refine wc_region ?_
    repeat (refine sl ?_)
    refine wc_ret ?_
    repeat (refine sl ?_)
    obtain rfl := Option.some.inj hm0
    exact wk_ret ⟨rfl, rfl⟩
  · replace hm0 := sel_f h hm0
    refine wc_skip ?_
    repeat (refine sl ?_)
    refine wc_seq ?_
    refine wc_seq ?_
    refine wc_region ?_
    repeat (refine sl ?_)
    obtain ⟨mu1, hm1, hm0⟩ := obnd_o hm0
    refine wc_cut' (fun st => mu1 = Ctl.nxt () ∧ st = ⟨[], []⟩) ?_ ?_
    · refine wc_block ?_
      refine wc_len 0 rfl (fun hlenm5 => ?_)
      refine wc_loopw (fun κ st => ∃ (m5 : Nat) , κ = a1.length - m5 ∧ m5 ≤ a1.length ∧ Mref20_Same_l1 a1 b2 (a1.drop m5) (m5 : Int) = some mu1 ∧ st = ⟨[(0, .d (lst Kv.ds a1)), (1, .d (lst Kv.ds b2)), (12, vI (a1.length : Int)), (13, vI (m5 : Int))], []⟩) [] ⟨0, rfl, Nat.zero_le _, hm1, rfl⟩ ?_
      rintro κ _ ⟨m5, rfl, hlem5, hm1, rfl⟩
      rcases Nat.lt_or_ge m5 a1.length with hltm5 | hgem5
      · obtain ⟨r3, hxm5, hdr⟩ := drop_c hltm5
        rw [hdr, Mref20_Same_l1.eq_2] at hm1
        refine wc_seq ?_
        refine wc_region ?_
        repeat (refine sl ?_)
        refine wc_seq ?_
        refine wc_cond_tt (lt_t hltm5) rfl ?_
        refine wc_skip ?_
        repeat (refine sl ?_)
        refine wc_seq ?_
        refine wc_block ?_
        refine wc_seq ?_
        refine wc_region ?_
        repeat (refine sl ?_)
        refine wc_seq ?_
        refine wc_draw (id := 6) [⟨0, 0, [0]⟩, ⟨1, 0, [5]⟩, ⟨2, 3, [16, 17]⟩, ⟨3, 7, [18]⟩, ⟨4, 0, [1]⟩, ⟨5, 0, [5]⟩, ⟨6, 48, [20, 21]⟩, ⟨7, 112, [22]⟩, ⟨8, 255, [19, 23]⟩] mixed (by kernel_rfl) ?_
        repeat (refine sl ?_)
        obtain ⟨e6, hy, hm1⟩ := obnd_o hm1
        refine wd_r [] (o_ixg (ys := [dS e6.key, dS e6.val]) hy rfl rfl rfl rfl) rfl (by first | exact .no rfl | exact .y rfl rfl rfl rfl) rfl rfl ?_
        repeat (refine sl ?_)
        obtain ⟨e7, hy, hm1⟩ := obnd_o hm1
        refine wd_r [] (o_ixg (ys := [dS e7.key, dS e7.val]) hy rfl rfl rfl rfl) rfl (by first | exact .no rfl | exact .y rfl rfl rfl rfl) rfl rfl ?_
        repeat (refine sl ?_)
        refine wc_cond rfl (fun h => ?_) (fun h => ?_)
        · replace hm1 := sel_t h hm1
          refine wc_seq ?_
          refine wc_region ?_
          repeat (refine sl ?_)
          refine wc_ret ?_
          repeat (refine sl ?_)
          obtain rfl := Option.some.inj hm1
          replace hm0 := ocbnd_r hm0
          obtain rfl := Option.some.inj hm0
          exact wk_ret ⟨rfl, rfl⟩
        · replace hm1 := sel_f h hm1
          refine wc_skip ?_
          repeat (refine sl ?_)
          refine wc_region ?_
          repeat (refine sl ?_)
          refine wl_r (o_inc hltm5 hlenm5 rfl rfl rfl) rfl rfl rfl ?_
          repeat (refine sl ?_)
          exact wk_loopw [] ⟨m5 + 1, rfl, hltm5, hm1, rfl⟩ (by omega)
      · rw [drop_n hgem5, Mref20_Same_l1.eq_1] at hm1
        refine wc_seq ?_
        refine wc_region ?_
        repeat (refine sl ?_)
        refine wc_seq ?_
        refine wc_cond_ff (lt_f hgem5) rfl ?_
        refine wc_exit ?_
        repeat (refine sl ?_)
        obtain rfl := Option.some.inj hm1
        exact wk_cutw [] ⟨rfl, rfl⟩
    rintro _ ⟨rfl, rfl⟩
    replace hm0 := ocbnd_n hm0
    repeat (refine sl ?_)
    refine wc_seq ?_
    refine wc_region ?_
    repeat (refine sl ?_)
    refine wc_ret ?_
    repeat (refine sl ?_)
    obtain rfl := Option.some.inj hm0
    exact wk_ret ⟨rfl, rfl⟩

def Mref20_Put (t1 : List Kv) (row2 : Kv) : Option (List Kv × Int) :=
  obnd (
    obnd (Mref20_Valid t1) fun y3 =>
    sel (!y3) (
      some true) (
      obnd (Mref20_Valid ([row2] : List Kv)) fun y4 =>
      some (!y4)) : Option Bool) fun x5 =>
  sel x5 (
    some ([], 1)) (
    obnd (Mref20_with t1 row2) fun y6 =>
    sel (decide (1024 < (y6.length : Int))) (
      some ([], 16)) (
      some (y6, 0)))
set_option maxRecDepth 100000 in
set_option maxHeartbeats 4000000 in
theorem Mref20_Put_sp {t1 : List Kv} {row2 : Kv} {y : (List Kv × Int)} (hm : Mref20_Put t1 row2 = some y) : Spec Tryd.prog 73 [.d (lst Kv.ds t1), .a [vS row2.key, vS row2.val]] [] fun u h => u = .t [.d (lst Kv.ds y.1), vI y.2] ∧ h = [] := by
  refine Spec.intro Tryd.func73 rfl rfl Tryd.ntmps73 Tryd.results73 rfl fun B w0 ρ0 => ?_
  simp only [slots, List.map_nil, List.map_cons, Nat.reduceAdd]
  unfold Mref20_Put at hm
  have hm0 := hm
  clear hm
  refine wc_seq ?_
  refine wc_region ?_
  repeat (refine sl ?_)
  refine wc_seq ?_
  refine wc_seq ?_
  obtain ⟨mu1, hm1, hm0⟩ := obnd_o hm0
  refine wc_cut' (fun st => ∃ (x5 : Bool), x5 = mu1 ∧ st = ⟨[(0, .d (lst Kv.ds t1)), (3, .p 103 0), (15, vB x5)], [(103, some (.box 59 [vS row2.key, vS row2.val]))]⟩) ?_ ?_
  · refine wc_region ?_
    repeat (refine sl ?_)
    obtain ⟨y3, hy, hm1⟩ := obnd_o hm1
    refine wl_cq (Mref20_Valid_sp (hm := hy)) ?_
    repeat (refine sl ?_)
    refine wl_gp rfl rfl rfl rfl (fun h => ?_) (fun h => ?_)
    · replace hm1 := sel_t h hm1
      repeat (refine sl ?_)
      obtain rfl := Option.some.inj hm1
      exact wk_cutw [(103, 103)] ⟨_, rfl, rfl⟩
    · replace hm1 := sel_f h hm1
      repeat (refine sl ?_)
      refine wl_bt Kv.ds [row2] rfl rfl (by simp only [flatV, cellsV, List.cons_append, List.nil_append, List.append_nil]; exact rfl) rfl rfl rfl rfl rfl rfl ?_
      repeat (refine sl ?_)
      obtain ⟨y4, hy, hm1⟩ := obnd_o hm1
      refine wl_cq (Mref20_Valid_sp (hm := hy)) ?_
      repeat (refine sl ?_)
      obtain rfl := Option.some.inj hm1
      exact wk_cutw [(103, 103)] ⟨_, rfl, rfl⟩
  rintro _ ⟨x5, rfl, rfl⟩
  repeat (refine sl ?_)
  refine wc_cond rfl (fun h => ?_) (fun h => ?_)
  · replace hm0 := sel_t h hm0
    refine wc_seq ?_
    refine wc_region ?_
    repeat (refine sl ?_)
    refine wc_ret ?_
    repeat (refine sl ?_)
    obtain rfl := Option.some.inj hm0
    exact wk_ret ⟨rfl, rfl⟩
  · replace hm0 := sel_f h hm0
    refine wc_skip ?_
    repeat (refine sl ?_)
    refine wc_seq ?_
    refine wc_region ?_
    repeat (refine sl ?_)
    obtain ⟨y6, hy, hm0⟩ := obnd_o hm0
    refine wl_cq (Mref20_with_sp (hm := hy)) ?_
    repeat (refine sl ?_)
    refine wc_seq ?_
    refine wc_seq ?_
    refine wc_region ?_
    repeat (refine sl ?_)
    refine wc_cond rfl (fun h => ?_) (fun h => ?_)
    · replace hm0 := sel_t h hm0
      refine wc_seq ?_
      refine wc_region ?_
      repeat (refine sl ?_)
      refine wc_ret ?_
      repeat (refine sl ?_)
      obtain rfl := Option.some.inj hm0
      exact wk_ret ⟨rfl, rfl⟩
    · replace hm0 := sel_f h hm0
      refine wc_skip ?_
      repeat (refine sl ?_)
      refine wc_seq ?_
      refine wc_region ?_
      repeat (refine sl ?_)
      refine wc_ret ?_
      repeat (refine sl ?_)
      obtain rfl := Option.some.inj hm0
      exact wk_ret ⟨rfl, rfl⟩

def Mwld_Tape_RowsIn_l1 (r2 : Rng) : Nat → List Int → Int → List Kv → Int → Option (List Kv × List Int × Int)
  | 0, _, _, _, _ => none
  | fuel + 1, x6, x7, out8, i9 =>
    obnd (
      sel (decide (0 < i9)) (
        some (Ctl.nxt ())) (
        some (Ctl.ret (out8, x6, x7))) : Option (Ctl (List Kv × List Int × Int) Unit)) fun mu => ocbnd mu fun (_ : Unit) =>
    obnd (Mwld_Tape_KeyIn (TTape.mk x6 x7) r2) fun y10 =>
    obnd (Mwld_Tape_Value y10.2) fun y11 =>
    obnd (Mref20_Put out8 (Kv.mk y10.1 y11.1)) fun y12 =>
    Mwld_Tape_RowsIn_l1 r2 fuel y11.2.l y11.2.at_ y12.1 (i64w (i9 - 1))
def Mwld_Tape_RowsIn (t1 : TTape) (r2 : Rng) (n3 : Int) : Option (List Kv × TTape) :=
  bnd (Mref1_Empty r2) fun y4 =>
  sel y4 (
    some ([], t1)) (
    obnd (Mwld_Tape_Next t1 (i64w (n3 + 1))) fun y5 =>
    obnd (
      Mwld_Tape_RowsIn_l1 r2 FU y5.2.l y5.2.at_ [] y5.1 : Option (List Kv × List Int × Int)) fun (out13, x14, x15) =>
    some (out13, (TTape.mk x14 x15)))
set_option maxRecDepth 100000 in
set_option maxHeartbeats 4000000 in
theorem Mwld_Tape_RowsIn_sp {t1 : TTape} {r2 : Rng} {n3 : Int} {y : (List Kv × TTape)} (hm : Mwld_Tape_RowsIn t1 r2 n3 = some y) : Spec Tryd.prog 47 [.p 0 0, .a [vS r2.lo.key, vB r2.lo.top, vS r2.hi.key, vB r2.hi.top], vI n3] [(0, some (.box 69 [.d (lst dsI t1.l), vI t1.at_]))] fun u h => u = .d (lst Kv.ds y.1) ∧ h = [(0, some (.box 69 [.d (lst dsI y.2.l), vI y.2.at_]))] := by
  refine Spec.intro Tryd.func47 rfl rfl Tryd.ntmps47 Tryd.results47 rfl fun B w0 ρ0 => ?_
  simp only [slots, List.map_nil, List.map_cons, Nat.reduceAdd]
  unfold Mwld_Tape_RowsIn at hm
  have hm0 := hm
  clear hm
  refine wc_seq ?_
  refine wc_region ?_
  repeat (refine sl ?_)
  refine wc_seq ?_
  refine wc_region ?_
  repeat (refine sl ?_)
  refine wc_seq ?_
  refine wc_seq ?_
  refine wc_region ?_
  repeat (refine sl ?_)
  obtain ⟨y4, hy, hm0⟩ := bnd_o hm0
  refine wl_cq (Mref1_Empty_sp (hm := hy)) ?_
  repeat (refine sl ?_)
  refine wc_cond rfl (fun h => ?_) (fun h => ?_)
  · replace hm0 := sel_t h hm0
    refine wc_seq ?_
    refine wc_region ?_
    repeat (refine sl ?_)
    refine wc_ret ?_
    repeat (refine sl ?_)
    obtain rfl := Option.some.inj hm0
    exact wk_reti [(0, 0)] ⟨rfl, rfl⟩
  · replace hm0 := sel_f h hm0
    refine wc_skip ?_
    repeat (refine sl ?_)
    refine wc_seq ?_
    refine wc_seq ?_
    refine wc_region ?_
    repeat (refine sl ?_)
    refine wl_r (o_add rfl rfl rfl rfl) rfl rfl rfl ?_
    repeat (refine sl ?_)
    obtain ⟨y5, hy, hm0⟩ := obnd_o hm0
    refine wl_iq (Mwld_Tape_Next_sp (hm := hy)) 0 ?_
    repeat (refine sl ?_)
    obtain ⟨mu1, hm1, hm0⟩ := obnd_o hm0
    refine wc_cut' (fun st => ∃ (out13 : List Kv) (x14 : List Int) (x15 : Int), mu1 = (out13, x14, x15) ∧ st = ⟨[(7, .d (lst Kv.ds out13))], [(0, some (.box 69 [.d (lst dsI x14), vI x15]))]⟩) ?_ ?_
    · refine wc_block ?_
      refine wc_loopw (fun κ st => ∃ (x6 : List Int) (x7 : Int) (out8 : List Kv) (i9 : Int), Mwld_Tape_RowsIn_l1 r2 κ x6 x7 out8 i9 = some mu1 ∧ st = ⟨[(0, .p 0 0), (4, .p 104 0), (7, .d (lst Kv.ds out8)), (8, vI i9)], [(0, some (.box 69 [.d (lst dsI x6), vI x7])), (104, some (.box 50 [vS r2.lo.key, vB r2.lo.top, vS r2.hi.key, vB r2.hi.top]))]⟩) [(0, 0), (104, 104)] ⟨_, _, _, _, hm1, rfl⟩ ?_
      rintro κ _ ⟨x6, x7, out8, i9, hm1, rfl⟩
      cases κ with
      | zero => rw [Mwld_Tape_RowsIn_l1.eq_1] at hm1; cases hm1
      | succ κ =>
        rw [Mwld_Tape_RowsIn_l1.eq_2] at hm1
        refine wc_seq ?_
        refine wc_seq ?_
        refine wc_region ?_
        repeat (refine sl ?_)
        obtain ⟨mu2, hm2, hm1⟩ := obnd_o hm1
        refine wc_cut' (fun st => mu2 = Ctl.nxt () ∧ st = ⟨[(0, .p 0 0), (4, .p 104 0), (7, .d (lst Kv.ds out8)), (8, vI i9)], [(0, some (.box 69 [.d (lst dsI x6), vI x7])), (104, some (.box 50 [vS r2.lo.key, vB r2.lo.top, vS r2.hi.key, vB r2.hi.top]))]⟩) ?_ ?_
        · refine wc_cond rfl (fun h => ?_) (fun h => ?_)
          · replace hm2 := sel_t h hm2
            refine wc_skip ?_
            repeat (refine sl ?_)
            obtain rfl := Option.some.inj hm2
            exact wk_cutw [(0, 0), (104, 104)] ⟨rfl, rfl⟩
          · replace hm2 := sel_f h hm2
            refine wc_exit ?_
            repeat (refine sl ?_)
            obtain rfl := Option.some.inj hm2
            replace hm1 := ocbnd_r hm1
            obtain rfl := Option.some.inj hm1
            exact wk_cutw [(0, 0)] ⟨_, _, _, rfl, rfl⟩
        rintro _ ⟨rfl, rfl⟩
        replace hm1 := ocbnd_n hm1
        repeat (refine sl ?_)
        refine wc_seq ?_
        refine wc_block ?_
        refine wc_region ?_
        repeat (refine sl ?_)
        obtain ⟨y10, hy, hm1⟩ := obnd_o hm1
        refine wl_iq (Mwld_Tape_KeyIn_sp (hm := hy)) 0 ?_
        repeat (refine sl ?_)
        obtain ⟨y11, hy, hm1⟩ := obnd_o hm1
        refine wl_iq (Mwld_Tape_Value_sp (hm := hy)) 0 ?_
        repeat (refine sl ?_)
        obtain ⟨y12, hy, hm1⟩ := obnd_o hm1
        refine wl_cq (Mref20_Put_sp (hm := hy)) ?_
        repeat (refine sl ?_)
        refine wc_region ?_
        repeat (refine sl ?_)
        exact wk_loopw [(0, 0), (104, 104)] ⟨_, _, _, _, hm1, rfl⟩ (Nat.lt_succ_self _)
    rintro _ ⟨out13, x14, x15, rfl, rfl⟩
    repeat (refine sl ?_)
    refine wc_seq ?_
    refine wc_region ?_
    repeat (refine sl ?_)
    refine wc_ret ?_
    repeat (refine sl ?_)
    obtain rfl := Option.some.inj hm0
    exact wk_reti [(0, 0)] ⟨rfl, rfl⟩

def Mwld_Tape_Rows (t1 : TTape) (n2 : Int) : Option (List Kv × TTape) :=
  bnd (Mwld_All) fun y3 =>
  obnd (Mwld_Tape_RowsIn t1 y3 n2) fun y4 =>
  some (y4.1, y4.2)
set_option maxRecDepth 100000 in
set_option maxHeartbeats 4000000 in
theorem Mwld_Tape_Rows_sp {t1 : TTape} {n2 : Int} {y : (List Kv × TTape)} (hm : Mwld_Tape_Rows t1 n2 = some y) : Spec Tryd.prog 16 [.p 0 0, vI n2] [(0, some (.box 69 [.d (lst dsI t1.l), vI t1.at_]))] fun u h => u = .d (lst Kv.ds y.1) ∧ h = [(0, some (.box 69 [.d (lst dsI y.2.l), vI y.2.at_]))] := by
  refine Spec.intro Tryd.func16 rfl rfl Tryd.ntmps16 Tryd.results16 rfl fun B w0 ρ0 => ?_
  simp only [slots, List.map_nil, List.map_cons, Nat.reduceAdd]
  unfold Mwld_Tape_Rows at hm
  have hm0 := hm
  clear hm
  refine wc_seq ?_
  refine wc_region ?_
  repeat (refine sl ?_)
  refine wc_seq ?_
  refine wc_region ?_
  repeat (refine sl ?_)
  obtain ⟨y3, hy, hm0⟩ := bnd_o hm0
  refine wl_cq (Mwld_All_sp (hm := hy)) ?_
  repeat (refine sl ?_)
  obtain ⟨y4, hy, hm0⟩ := obnd_o hm0
  refine wl_iq (Mwld_Tape_RowsIn_sp (hm := hy)) 0 ?_
  repeat (refine sl ?_)
  refine wc_ret ?_
  repeat (refine sl ?_)
  obtain rfl := Option.some.inj hm0
  exact wk_reti [(0, 0)] ⟨rfl, rfl⟩

end Go.Proofs.YtjnnkpkbgdknmaaDoor
