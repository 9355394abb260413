/-
  Lemmas: Arguments of the laws of bounded bulk, opened by their types
-/
import Derived.Test.YtohpjdeohpamaaaGreatPA14
import Derived.Test.YtohpjdeohpamaaaGreatPA15
import Derived.Deep.Slices
import Derived.Test.YtohpjdeohpamaaaGreatRows
set_option linter.unusedSimpArgs false
set_option linter.unusedVariables false
namespace Go.Proofs.YtohpjdeohpamaaaGreat
open Go.ChangeShapes Go.WideShapes Go.ChangeAt Go.RowKit Go.Joins
set_option maxRecDepth 100000
class Opn (P : Program) (T : TypeId) {α : outParam Type} (f : outParam (α → List D)) (I : outParam (α → Prop)) : Prop where
  out : ∀ {H : Type} {enc : TypeId × Value → H} {W : World} {fuel : Nat} {cs : List Value} {x : DataW H × List MemPlace}, DataW.trod enc P W 0 (fun _ => true) true fuel T cs = some x → ∃ a : α, I a ∧ RDs W (fun b => b < W.heap.size) (f a) cs
def inK (k : IntKind) (n : Int) : Prop := k.min ≤ n ∧ n ≤ k.max
def anyB (_ : Bool) : Prop := True
def szS (s : ByteArray) : Prop := s.size ≤ 9223372036854775807
section
variable {P : Program} {T E : TypeId} {W : World}
theorem opn_i64 (h : P.underlying T = some (.int .i64)) : Opn P T dsI (inK .i64) := ⟨fun hx => by
  obtain ⟨n, rfl, -, hw⟩ := DataW.trod_int h hx
  simp only [Lit.wf, Bool.and_eq_true, decide_eq_true_eq] at hw
  exact ⟨n, hw, .cons (.c rfl) .nil⟩⟩
theorem opn_int {k : IntKind} (h : P.underlying T = some (.int k)) : Opn P T (dsK k) (inK k) := ⟨fun hx => by
  obtain ⟨n, rfl, -, hw⟩ := DataW.trod_int h hx
  simp only [Lit.wf, Bool.and_eq_true, decide_eq_true_eq] at hw
  exact ⟨n, hw, .cons (.c rfl) .nil⟩⟩
theorem opn_bool (h : P.underlying T = some .bool) : Opn P T dsB anyB := ⟨fun hx => by
  obtain ⟨b, rfl, -⟩ := DataW.trod_bool h hx
  exact ⟨b, trivial, .cons (.c rfl) .nil⟩⟩
theorem opn_str (h : P.underlying T = some .string) : Opn P T dsS szS := ⟨fun hx => by
  obtain ⟨s, rfl, -, hs⟩ := DataW.trod_string h hx
  exact ⟨s, hs, .cons (.c rfl) .nil⟩⟩
theorem rds_flat {ok : Nat → Prop} {α : Type} {f : α → List D} : ∀ {l : List α} {vs : List (List Value)}, l.length = vs.length → (∀ (i : Nat) a v, l[i]? = some a → vs[i]? = some v → RDs W ok (f a) v) → RDs W ok (l.flatMap f) vs.flatten
  | [], [], _, _ => .nil
  | a :: l, v :: vs, hl, h => by
    rw [List.flatMap_cons, List.flatten_cons]
    exact (h 0 a v rfl rfl).append (rds_flat (by simpa using hl) fun i b u hb hu => h (i + 1) b u (by simpa using hb) (by simpa using hu))
theorem flatten_get {z : Nat} : ∀ {vs : List (List Value)} {j : Nat} {v : Value}, (∀ u ∈ vs, u.length = z) → vs.flatten[j]? = some v → ∃ u, vs[j / z]? = some u ∧ u[j % z]? = some v
  | [], j, v, _, h => by simp at h
  | u :: vs, j, v, hz, h => by
    have hu := hz u List.mem_cons_self
    rw [List.flatten_cons] at h
    by_cases hj : j < z
    · rw [List.getElem?_append_left (by omega)] at h
      exact ⟨u, by rw [Nat.div_eq_of_lt hj]; rfl, by rw [Nat.mod_eq_of_lt hj]; exact h⟩
    · rw [List.getElem?_append_right (by omega), hu] at h
      obtain ⟨q, h1, h2⟩ := flatten_get (fun x hx => hz x (List.mem_cons_of_mem _ hx)) h
      have hz0 : 0 < z := by
        apply Classical.byContradiction; intro h0
        have : z = 0 := by omega
        subst this
        have : q = [] := by
          rcases List.getElem?_eq_some_iff.1 h1 with ⟨h3, rfl⟩
          exact List.eq_nil_of_length_eq_zero (hz _ (List.mem_cons_of_mem _ (List.getElem_mem h3)))
        rw [this] at h2; simp at h2
      refine ⟨q, ?_, ?_⟩
      · rw [show j / z = (j - z) / z + 1 by rw [← Nat.add_div_right _ hz0]; congr 1; omega]; simpa using h1
      · rw [show j % z = (j - z) % z by rw [Nat.mod_eq_sub_mod (by omega)]]; exact h2
variable {H : Type} {enc : TypeId × Value → H}
theorem chain_of {ok : Nat → Prop} {cs : List Value} {xs ys : List D} {o c : Nat} (h1 : RDs W ok xs ((cs.drop o).take c)) (h2 : RDs W ok ys (cs.drop (o + c))) : RDs W ok (xs ++ ys) (cs.drop o) := by
  have := h1.append h2
  rwa [← List.drop_drop, List.take_append_drop] at this
theorem fin_of {ok : Nat → Prop} {cs : List Value} {n : Nat} (hl : cs.length = P.cellsOf T) (hc : P.cellsOf T = n) : RDs W ok [] (cs.drop n) := by
  rw [List.drop_eq_nil_of_le (by omega)]
  exact .nil
theorem rv_one {ok : Nat → Prop} {ρ : Lc} {x : D} {v : Value} (h : RDs W ok [x] [v]) : RV W ok ρ (.d x) v := by
  cases h with | cons h _ => exact .d h
end
end Go.Proofs.YtohpjdeohpamaaaGreat
namespace Go.Proofs.YtohpjdeohpamaaaGreat
open Go.ChangeShapes Go.WideShapes Go.ChangeAt Go.RowKit Go.Joins
set_option maxRecDepth 100000
theorem bulk_one {H : Type} (d : DataW H) : 1 ≤ Rows.uptoBulk d := by
  cases d with
  | lit l => cases l <;> simp [Rows.uptoBulk]
  | _ => simp [Rows.uptoBulk]
theorem bulk_part {H : Type} {d : DataW H} : ∀ {l : List (DataW H)}, d ∈ l → Rows.uptoBulk d ≤ Rows.uptoBulkAll l
  | [], h => by cases h
  | x :: r, h => by
    simp only [Rows.uptoBulkAll]
    rcases List.mem_cons.1 h with rfl | h
    · omega
    · have := bulk_part h; omega
theorem bulk_len {H : Type} : ∀ l : List (DataW H), l.length ≤ Rows.uptoBulkAll l
  | [] => by simp
  | x :: r => by
    have h1 := bulk_one x
    have h2 := bulk_len r
    simp only [Rows.uptoBulkAll, List.length_cons]; omega
theorem bulk_bound {H : Type} {l : List (DataW H)} (h : Rows.uptoSmall H l = true) : Rows.uptoBulkAll l ≤ 1048576 := of_decide_eq_true h
class OpnB (P : Program) (T : TypeId) {α : outParam Type} (f : outParam (α → List D)) (I : outParam (α → Prop)) : Prop where
  out : ∀ {H : Type} {enc : TypeId × Value → H} {W : World} {fuel : Nat} {cs : List Value} {x : DataW H × List MemPlace}, DataW.trod enc P W 0 (fun _ => true) true fuel T cs = some x → Rows.uptoBulk x.1 ≤ 1048576 → ∃ a : α, I a ∧ RDs W (fun b => b < W.heap.size) (f a) cs
def allB {α : Type} (I : α → Prop) (l : List α) : Prop := l.length ≤ 1048576 ∧ ∀ a ∈ l, I a
theorem opnb_of {P : Program} {T : TypeId} {α : Type} {f : α → List D} {I : α → Prop} (h : Opn P T f I) : OpnB P T f I := ⟨fun hx _ => h.out hx⟩
section
variable {P : Program} {T E : TypeId} {W : World}
theorem opnb_slice {α : Type} {f : α → List D} {I : α → Prop} {z : Nat} (h : P.underlying T = some (.slice E)) (hc : P.cellsOf E = z) (hz : 0 < z) [hE : OpnB P E f I] [hL : Len f z] : OpnB P T (dsL f) (allB I) := ⟨fun {H enc W fuel cs x} hxx hbk => by
  rcases Go.Deep.open_slice h hxx with ⟨rfl, -⟩ | ⟨a, len, cap, m, k, D', Pl, rfl, -, hl, hml, hm, hxe, hx⟩
  · exact ⟨[], ⟨by simp, by simp⟩, .cons (.nil _ _) .nil⟩
  · obtain rfl : m = cap := by simpa using hm
    rw [hc] at hx
    rw [hxe] at hbk
    simp only [Rows.uptoBulk] at hbk
    have hlenB : len ≤ 1048576 := by
      have := bulk_len ((List.range len).map D')
      simp at this; omega
    have hD : ∀ i, i < m → Rows.uptoBulk (D' i) ≤ 1048576 := fun i hi => by
      by_cases h : i < len
      · have := bulk_part (d := D' i) (l := (List.range len).map D') (List.mem_map.2 ⟨i, List.mem_range.2 h, rfl⟩); omega
      · have := bulk_part (d := D' i) (l := (List.range (m - len)).map fun j => D' (len + j)) (List.mem_map.2 ⟨i - len, List.mem_range.2 (by omega), by rw [show len + (i - len) = i by omega]⟩); omega
    by_cases hm0 : m = 0
    · obtain rfl : len = 0 := by omega
      exact ⟨[], ⟨by simp, by simp⟩, .cons (.nil _ _) .nil⟩
    have each : ∀ i : Nat, ∃ p : α × List Value, i < m → I p.1 ∧ RDs W (fun b => b < W.heap.size) (f p.1) p.2 ∧ p.2.length = z ∧ ∀ j u, p.2[j]? = some u → W.cell? (a.add (i * z + j)) = some u := by
      intro i
      by_cases hi : i < m
      · obtain ⟨cs, h1, h2⟩ := hx i hi
        obtain ⟨b, g1, g2⟩ := hE.out h2 (hD _ (by omega))
        obtain ⟨-, hlen, hcell⟩ := World.cells?_some h1
        refine ⟨(b, cs), fun _ => ⟨g1, g2, by rw [g2.length, hL.len], fun j u hj => ?_⟩⟩
        have hjz : j < z := by
          have := (List.getElem?_eq_some_iff.1 hj).1
          simp only at this
          rw [g2.length, hL.len] at this; exact this
        rw [← Go.Deep.add_add, hcell j hjz, hj]
      · obtain ⟨cs, h1, h2⟩ := hx 0 (by omega)
        obtain ⟨b, -, -⟩ := hE.out h2 (hD _ (by omega))
        exact ⟨(b, []), fun h => absurd h hi⟩
    let p : Nat → α × List Value := fun i => Classical.choose (each i)
    have hp : ∀ i, i < m → I (p i).1 ∧ RDs W (fun b => b < W.heap.size) (f (p i).1) (p i).2 ∧ (p i).2.length = z ∧ ∀ j u, (p i).2[j]? = some u → W.cell? (a.add (i * z + j)) = some u := fun i => Classical.choose_spec (each i)
    refine ⟨(List.range len).map fun i => (p i).1, ⟨by simp; omega, fun b hb => ?_⟩, ?_⟩
    · obtain ⟨i, hi, rfl⟩ := List.mem_map.1 hb
      exact (hp i (by have := List.mem_range.1 hi; omega)).1
    · by_cases h0 : len = 0
      · subst h0; exact .cons (.nil _ _) .nil
      obtain ⟨b, off, spot⟩ := a
      have hv0 : ∃ u, (p 0).2[0]? = some u := ⟨_, List.getElem?_eq_getElem (by rw [(hp 0 (by omega)).2.2.1]; exact hz)⟩
      obtain ⟨u0, hu0⟩ := hv0
      have hc0 := (hp 0 (by omega)).2.2.2 0 u0 hu0
      have hspot : spot = none := by simpa [Addr.add] using World.cell?_spot hc0
      subst hspot
      have hb : b < W.heap.size := World.block_lt_of_cell? W ⟨b, off + (0 * z + 0), none⟩ (by rw [← Go.WideShapes.add_plain]; exact hc0)
      have hlen : ((List.range len).map fun i => (p i).1).length = len := by simp
      refine .cons ?_ .nil
      rw [show lst f ((List.range len).map fun i => (p i).1) = .l len (((List.range len).map fun i => (p i).1).flatMap f) by unfold lst; rw [hlen]]
      refine RD.l hl (by omega) hb (rds_flat (vs := (List.range len).map fun i => (p i).2) (by simp) fun i x v hx hv => ?_) fun j v hj => ?_
      · rw [List.getElem?_map] at hx hv
        cases hr : (List.range len)[i]? with
        | none => rw [hr] at hx; cases hx
        | some q =>
          rw [hr] at hx hv
          obtain rfl := Option.some.inj hx
          obtain rfl := Option.some.inj hv
          have := List.mem_range.1 (List.mem_of_getElem? hr)
          exact (hp q (by omega)).2.1
      · obtain ⟨u, h1, h2⟩ := flatten_get (z := z) (fun u hu => by
          obtain ⟨i, hi, rfl⟩ := List.mem_map.1 hu
          exact (hp i (by have := List.mem_range.1 hi; omega)).2.2.1) hj
        rw [List.getElem?_map] at h1
        cases hr : (List.range len)[j / z]? with
        | none => rw [hr] at h1; cases h1
        | some q =>
          rw [hr] at h1
          obtain rfl := Option.some.inj h1
          obtain ⟨hq1, hq2⟩ := List.getElem?_eq_some_iff.1 hr
          rw [List.getElem_range] at hq2
          rw [List.length_range] at hq1
          subst hq2
          have := (hp _ (show j / z < m by omega)).2.2.2 _ v h2
          rw [Go.WideShapes.add_plain] at this
          rwa [Nat.mul_comm, Nat.div_add_mod] at this⟩
variable {H : Type} {enc : TypeId × Value → H}
theorem of_fieldb {fs : Array Field} {n : Nat} {cs : List Value} {xs : List (DataW H × List MemPlace)} {α : Type} {f : α → List D} {I : α → Prop} {o c : Nat} (hf : ∀ (i : Nat) (g : Field), fs[i]? = some g → DataW.trod enc P W 0 (fun _ => true) true n g.type ((cs.drop g.offset).take (P.cellsOf g.type)) = xs[i]?)
    (hlen : xs.length = fs.size) (i : Nat) {g : Field} (hg : fs[i]? = some g) (ht : g.type = T) (ho : g.offset = o) (hc : P.cellsOf T = c) [hO : OpnB P T f I] (hb : Rows.uptoBulkAll (xs.map (·.1)) ≤ 1048576) : ∃ a : α, I a ∧ RDs W (fun b => b < W.heap.size) (f a) ((cs.drop o).take c) := by
  have h1 := hf i g hg
  have hi : i < xs.length := by rw [hlen]; exact (Array.getElem?_eq_some_iff.1 hg).1
  rw [List.getElem?_eq_getElem hi, ht, ho, hc] at h1
  exact hO.out h1 (by have := bulk_part (d := xs[i].1) (l := xs.map (·.1)) (List.mem_map.2 ⟨xs[i], List.getElem_mem _, rfl⟩); omega)
theorem arg_oneb {α : Type} {f : α → List D} {I : α → Prop} [hO : OpnB P T f I] {v : Value} {d : DataW H} {ps : List MemPlace} (hc : v.cells.toList = [v]) (h : DataW.Trod enc P W 0 (fun _ => true) true T v d ps) (hb : Rows.uptoBulk d ≤ 1048576) : ∃ a : α, I a ∧ RDs W (fun b => b < W.heap.size) (f a) [v] := by
  obtain ⟨fuel, h⟩ := h
  rw [hc] at h
  exact hO.out h hb
end
end Go.Proofs.YtohpjdeohpamaaaGreat
