/-
  One hypothesis for the whole world of a walk: what stood before is as it was ('Kp'), and each block that the walk itself has made holds what a list says ('Rep'). Rules for the operations that make or write memory.
-/
import Derived.Test.YtddjhemncniidaaDoorK1
import Derived.Laws.Rows
import Derived.Laws.CopyRow
namespace Go.Proofs.YtddjhemncniidaaDoor
set_option linter.unusedSimpArgs false
set_option linter.unusedVariables false
open Go.RowKit

/-- A block of the walk's own: its number, its type, its cells. -/
structure OB where
  b : Nat
  T : TypeId
  c : List Value
/-- A window on older memory, that is only read: from ⟨b, o⟩ on the values vs. -/
structure Win where
  b : Nat
  o : Nat
  vs : List Value

/-- What may turn of what stood before: the blocks X; and what holds of the world at every moment, whatever younger blocks do. -/
structure Fr where
  X : List Nat
  J : World → Prop
def nof : Fr := ⟨[], fun _ => True⟩

structure Rep (w0 : World) (X : Fr) (R : List Win) (S : List OB) (w : World) : Prop where
  kp : Kp X.X w0 w
  own : ∀ e ∈ S, w.heap[e.b]? = some (.cells e.c.toArray e.T (0, 0))
  ne : S.Pairwise fun x y => x.b ≠ y.b
  new : ∀ e ∈ S, w0.heap.size ≤ e.b
  win : ∀ r ∈ R, r.b < w0.heap.size ∧ r.b ∉ X.X ∧ ∀ j v, r.vs[j]? = some v → w0.cell? ⟨r.b, r.o + j, none⟩ = some v
  j : X.J w
  js : ∀ w w' : World, X.J w → (∀ k, k < w0.heap.size → w'.heap[k]? = w.heap[k]?) → X.J w'
  xl : ∀ x ∈ X.X, x < w0.heap.size

theorem Rep.refl (w : World) : Rep w nof [] [] w := ⟨Kp.refl _ _, by simp, .nil, by simp, by simp, trivial, fun _ _ _ _ => trivial, by simp [nof]⟩
theorem Rep.kp_nof {w0 w : World} {R : List Win} {S : List OB} (h : Rep w0 nof R S w) : Kp [] w0 w := h.kp
theorem Rep.lt {w0 w : World} {X : Fr} {R : List Win} {S : List OB} (h : Rep w0 X R S w) {e : OB} (he : e ∈ S) : e.b < w.heap.size := (Array.getElem?_eq_some_iff.1 (h.own e he)).1
/-- What keeps all blocks that the walk knows. -/
theorem Rep.kp0 {w0 w w' : World} {X : Fr} {R : List Win} {S : List OB} (h : Rep w0 X R S w) (hk : Kp [] w w') : Rep w0 X R S w' := by
  refine ⟨⟨hk.os.trans h.kp.os, hk.tape.trans h.kp.tape, hk.output.trans h.kp.output, Nat.le_trans h.kp.size hk.size, fun i hi hx => ?_⟩, fun e he => (hk.block e.b (h.lt he) (by simp)).trans (h.own e he), h.ne, h.new, h.win, ?_, h.js, h.xl⟩
  · exact (hk.block i (Nat.lt_of_lt_of_le hi h.kp.size) (by simp)).trans (h.kp.block i hi hx)
  · exact h.js w w' h.j fun k hk' => hk.block k (Nat.lt_of_lt_of_le hk' h.kp.size) (by simp)
/-- A call that turns the blocks X. -/
theorem Rep.tk {w0 w w' : World} {X : Fr} {R : List Win} {S : List OB} (h : Rep w0 X R S w) (hk : Kp X.X w w') (hj : X.J w') : Rep w0 X R S w' := by
  refine ⟨h.kp.trans hk, fun e he => (hk.block e.b (h.lt he) fun hm => ?_).trans (h.own e he), h.ne, h.new, h.win, hj, h.js, h.xl⟩
  have := h.new e he; have := h.xl _ hm; omega
theorem Rep.sub {w0 w : World} {X : Fr} {R R' : List Win} {S S' : List OB} (h : Rep w0 X R S w) (hs : S'.Sublist S) (hr : R'.Sublist R := by exact List.Sublist.refl _) : Rep w0 X R' S' w :=
  ⟨h.kp, fun e he => h.own e (hs.subset he), h.ne.sublist hs, fun e he => h.new e (hs.subset he), fun r hr' => h.win r (hr.subset hr'), h.j, h.js, h.xl⟩
theorem Rep.addwin {w0 w : World} {X : Fr} {R : List Win} {S : List OB} (h : Rep w0 X R S w) (b o : Nat) (vs : List Value) (hb : b < w0.heap.size) (hx : b ∉ X.X) (hv : ∀ j v, vs[j]? = some v → w0.cell? ⟨b, o + j, none⟩ = some v) :
    Rep w0 X (⟨b, o, vs⟩ :: R) S w :=
  ⟨h.kp, h.own, h.ne, h.new, fun r hr => by rcases List.mem_cons.1 hr with rfl | hr; · exact ⟨hb, hx, hv⟩
                                            · exact h.win r hr, h.j, h.js, h.xl⟩

/-- A part of a window. -/
theorem Rep.subwin {w0 w : World} {X : Fr} {R : List Win} {S : List OB} (h : Rep w0 X R S w) {b o : Nat} {vs : List Value} (hm : (⟨b, o, vs⟩ : Win) ∈ R) (k : Nat) (us : List Value) (hu : ∀ j v, us[j]? = some v → vs[k + j]? = some v) : Rep w0 X (⟨b, o + k, us⟩ :: R) S w := by
  obtain ⟨h1, h2, h3⟩ := h.win _ hm
  exact h.addwin b (o + k) us h1 h2 fun j v hj => by have := h3 (k + j) v (hu j v hj); rwa [← Nat.add_assoc] at this
theorem Rep.subwin1 {w0 w : World} {X : Fr} {R : List Win} {S : List OB} (h : Rep w0 X R S w) {b o k : Nat} {vs : List Value} {u : Value} (hm : (⟨b, o, vs⟩ : Win) ∈ R) (hu : vs[k]? = some u) : Rep w0 X (⟨b, o + k, [u]⟩ :: R) S w :=
  h.subwin hm k [u] fun j v hj => by
    cases j with
    | zero => simp at hj; subst hj; exact hu
    | succ j => simp at hj
/-- A new block. -/
theorem Rep.push {w0 w w' : World} {X : Fr} {R : List Win} {S : List OB} (h : Rep w0 X R S w) (hk : Kp [] w w') {B : Nat} {T : TypeId} {c : List Value} (hB : w.heap.size ≤ B) (hb : w'.heap[B]? = some (.cells c.toArray T (0, 0))) :
    Rep w0 X R (⟨B, T, c⟩ :: S) w' := by
  have h' := h.kp0 hk
  refine ⟨h'.kp, fun e he => ?_, List.pairwise_cons.2 ⟨fun e he => ?_, h.ne⟩, fun e he => ?_, h.win, h'.j, h.js, h.xl⟩
  · rcases List.mem_cons.1 he with rfl | he
    · exact hb
    · exact h'.own e he
  · have := h.lt he; simp only; omega
  · rcases List.mem_cons.1 he with rfl | he
    · exact Nat.le_trans h.kp.size hB
    · exact h.new e he
theorem Rep.alloc {w0 w : World} {X : Fr} {R : List Win} {S : List OB} (h : Rep w0 X R S w) (T : TypeId) (c : Array Value) : Rep w0 X R (⟨w.heap.size, T, c.toList⟩ :: S) (w.alloc (.cells c T)) :=
  h.push ((Kp.refl _ _).alloc _) (Nat.le_refl _) (by simpa using heap_alloc_new w _)

theorem hideR {w0 w : World} {X : Fr} {R : List Win} {S : List OB} (h : Rep w0 X R S w) : ∃ RR, Hid (RR = R) ∧ Rep w0 X RR S w := ⟨R, rfl, h⟩
theorem hideRS {w0 w : World} {X : Fr} {R : List Win} {S : List OB} (h : Rep w0 X R S w) : ∃ RR SS, Hid (RR = R) ∧ Hid (SS = S) ∧ Rep w0 X RR SS w := ⟨R, S, rfl, rfl, h⟩
/-- Block b of the list. -/
inductive At : List OB → Nat → TypeId → List Value → Prop
  | here {b : Nat} {T : TypeId} {c : List Value} {S : List OB} : At (⟨b, T, c⟩ :: S) b T c
  | there {x : OB} {S : List OB} {b : Nat} {T : TypeId} {c : List Value} : At S b T c → At (x :: S) b T c
/-- .. its cells another. -/
inductive To : List OB → Nat → TypeId → List Value → List Value → List OB → Prop
  | here {b : Nat} {T : TypeId} {c c' : List Value} {S : List OB} : To (⟨b, T, c⟩ :: S) b T c c' (⟨b, T, c'⟩ :: S)
  | there {x : OB} {S S' : List OB} {b : Nat} {T : TypeId} {c c' : List Value} : To S b T c c' S' → To (x :: S) b T c c' (x :: S')
theorem At.mem {S : List OB} {b : Nat} {T : TypeId} {c : List Value} (h : At S b T c) : (⟨b, T, c⟩ : OB) ∈ S := by
  induction h with
  | here => exact List.mem_cons_self
  | there _ ih => exact List.mem_cons_of_mem _ ih
theorem To.at {S S' : List OB} {b : Nat} {T : TypeId} {c c' : List Value} (h : To S b T c c' S') : At S b T c := by
  induction h with
  | here => exact .here
  | there _ ih => exact .there ih
theorem To.mem {S S' : List OB} {b : Nat} {T : TypeId} {c c' : List Value} (h : To S b T c c' S') : ∀ e ∈ S', e = ⟨b, T, c'⟩ ∨ (e ∈ S) := by
  induction h with
  | here =>
    intro e he
    rcases List.mem_cons.1 he with rfl | he
    · exact .inl rfl
    · exact .inr (List.mem_cons_of_mem _ he)
  | there _ ih =>
    intro e he
    rcases List.mem_cons.1 he with rfl | he
    · exact .inr List.mem_cons_self
    · rcases ih e he with h1 | h1
      · exact .inl h1
      · exact .inr (List.mem_cons_of_mem _ h1)
theorem To.blocks {S S' : List OB} {b : Nat} {T : TypeId} {c c' : List Value} (h : To S b T c c' S') : S'.map (·.b) = S.map (·.b) := by
  induction h with
  | here => rfl
  | there _ ih => simp [ih]
theorem To.other {S S' : List OB} {b : Nat} {T : TypeId} {c c' : List Value} (h : To S b T c c' S') (_ : (S.map (·.b)).Pairwise (· ≠ ·)) : ∀ e ∈ S', e.b ≠ b → e ∈ S := by
  intro e he hb
  rcases h.mem e he with rfl | h1
  · exact absurd rfl hb
  · exact h1
theorem To.self {S S' : List OB} {b : Nat} {T : TypeId} {c c' : List Value} (h : To S b T c c' S') (hne : S.Pairwise fun x y => x.b ≠ y.b) : ∀ e ∈ S', e.b = b → e = ⟨b, T, c'⟩ := by
  induction h with
  | here =>
    intro e he hb
    rcases List.mem_cons.1 he with rfl | he
    · rfl
    · exact absurd hb.symm ((List.pairwise_cons.1 hne).1 e he)
  | there h0 ih =>
    intro e he hb
    rcases List.mem_cons.1 he with rfl | he
    · have := (List.pairwise_cons.1 hne).1 _ h0.at.mem
      exact absurd hb this
    · exact ih (List.pairwise_cons.1 hne).2 e he hb

/-- A store into a block of the walk's own. -/
theorem Rep.store {w0 w : World} {X : Fr} {R : List Win} {S S' : List OB} {b : Nat} {T : TypeId} {c c' : List Value} (h : Rep w0 X R S w) (ht : To S b T c c' S') : Rep w0 X R S' (w.setRow b c'.toArray) := by
  have hm := ht.at.mem
  have hb := h.own _ hm
  have hnw := h.new _ hm
  simp only at hnw
  have hpw : (S.map (·.b)).Pairwise (· ≠ ·) := List.pairwise_map.2 h.ne
  refine ⟨⟨h.kp.os, h.kp.tape, h.kp.output, by simpa using h.kp.size, fun i hi hx => ?_⟩, fun e he => ?_, ?_, fun e he => ?_, h.win, ?_, h.js, h.xl⟩
  · rw [setRow_other w b i _ (by omega)]
    exact h.kp.block i hi hx
  · by_cases e1 : e.b = b
    · obtain rfl := ht.self h.ne e he e1
      exact setRow_heap w b _ _ _ _ hb
    · rw [setRow_other w b e.b _ e1]
      exact h.own e (ht.other hpw e he e1)
  · have : (S'.map (·.b)).Pairwise (· ≠ ·) := by rw [ht.blocks]; exact hpw
    exact List.pairwise_map.1 this
  · rcases ht.mem e he with rfl | h1
    · exact hnw
    · exact h.new e h1
  · exact h.js w _ h.j fun k hk => setRow_other w b k _ (by omega)

/-- What the walk reads by: each block's cells, each window's. -/
def WFacts (w : World) (b o : Nat) : Nat → List Value → Prop
  | _, [] => True
  | 0, v :: r => w.cell? ⟨b, o, none⟩ = some v ∧ WFacts w b o 1 r
  | j + 1, v :: r => w.cell? ⟨b, o + (j + 1), none⟩ = some v ∧ WFacts w b o (j + 2) r
def Facts (w : World) : List Win → List OB → Prop
  | [], [] => True
  | [], e :: S => (∀ i, w.cell? ⟨e.b, i, none⟩ = e.c[i]?) ∧ Facts w [] S
  | r :: R, S => WFacts w r.b r.o 0 r.vs ∧ Facts w R S
theorem facts_app {w : World} : ∀ (l S : List OB), Facts w [] (l ++ S) = (Facts w [] l ∧ Facts w [] S)
  | [], S => by simp [Facts]
  | e :: l, S => by simp only [List.cons_append, Facts]; rw [facts_app l S, and_assoc]
theorem wfacts {w : World} {b o : Nat} : ∀ (vs : List Value) (j : Nat), (∀ i v, vs[i]? = some v → w.cell? ⟨b, o + (j + i), none⟩ = some v) → WFacts w b o j vs
  | [], _, _ => by unfold WFacts; trivial
  | v :: r, 0, h => ⟨by simpa using h 0 v rfl, wfacts r 1 fun i u hu => by have := h (i + 1) u (by simpa using hu); rwa [show 0 + (i + 1) = 1 + i by omega] at this⟩
  | v :: r, j + 1, h => ⟨by simpa using h 0 v rfl, wfacts r (j + 2) fun i u hu => by have := h (i + 1) u (by simpa using hu); rwa [show j + 1 + (i + 1) = j + 2 + i by omega] at this⟩
theorem Rep.cells {w0 w : World} {X : Fr} {R : List Win} {S : List OB} (h : Rep w0 X R S w) {e : OB} (he : e ∈ S) : ∀ i, w.cell? ⟨e.b, i, none⟩ = e.c[i]? := fun i => by
  simp [World.cell?, h.own e he]
theorem Rep.facts {w0 w : World} {X : Fr} : ∀ {R : List Win} {S : List OB}, Rep w0 X R S w → Facts w R S
  | [], [], _ => by unfold Facts; trivial
  | [], e :: S, h => by unfold Facts; exact ⟨h.cells List.mem_cons_self, (h.sub (List.sublist_cons_self _ _)).facts⟩
  | r :: R, S, h => by
      unfold Facts
      refine ⟨?_, (h.sub (List.Sublist.refl _) (List.sublist_cons_self _ _)).facts⟩
      obtain ⟨h1, h2, h3⟩ := h.win r List.mem_cons_self
      exact wfacts _ 0 fun i v hv => by rw [Nat.zero_add, h.kp.cell (p := ⟨r.b, r.o + i, none⟩) h1 h2]; exact h3 i v hv

/-- A type's size, and whether it is a struct (or an array). -/
structure Ty (P : Program) (T : TypeId) (n : Nat) (ag : Bool) : Prop where
  size : (P.info? T).map (·.size) = some n
  agg : (P.underlying T).map (fun | .struct _ | .array _ _ => true | _ => false) = some ag
/-- What a load of n cells reads. -/
def ldV : Bool → Nat → Nat → List Value → Value
  | true, n, o, c => .agg ((c.drop o).take n).toArray
  | false, _, o, c => c.getD o undef
/-- The cells c, from o on written over by vs. -/
def stL : Nat → List Value → List Value → List Value
  | _, [], c => c
  | 0, v :: vs, _ :: c => v :: stL 0 vs c
  | _, _ :: _, [] => []
  | o + 1, v :: vs, x :: c => x :: stL o (v :: vs) c
theorem stL_eq : ∀ (o : Nat) (vs c : List Value), o + vs.length ≤ c.length → stL o vs c = c.take o ++ vs ++ c.drop (o + vs.length)
  | _, [], c, _ => by simp [stL]
  | 0, v :: vs, [], h => by simp at h
  | 0, v :: vs, x :: c, h => by
    rw [stL, stL_eq 0 vs c (by simp at h ⊢; omega)]; simp
  | o + 1, v :: vs, [], h => by simp at h
  | o + 1, v :: vs, x :: c, h => by
    rw [stL, stL_eq o (v :: vs) c (by simp at h ⊢; omega)]
    simp [show o + 1 + (vs.length + 1) = o + (vs.length + 1) + 1 by omega]

section
variable {P : Program} {ops : Array Oper} {Q : Exit → Act → World → Prop} {a a' : Act} {w w0 : World} {rest : List Oper} {o : Oper} {X : Fr} {R : List Win} {S S' : List OB} {T T' : TypeId} {x y : Operand} {b off n : Nat} {c : List Value} {ag : Bool}

theorem run_size (h : Ty P T n ag) : (sizeOf T).run P w = .ok n w := by
  have := h.size
  cases hi : P.info? T with
  | none => simp [hi] at this
  | some i => simp [hi] at this; simp [sizeOf, typeInfo, hi, this]
theorem run_agg (h : Ty P T n ag) : (isAgg T).run P w = .ok ag w := by
  have := h.agg
  cases hi : P.underlying T with
  | none => simp [hi] at this
  | some d =>
    rw [hi] at this
    unfold isAgg
    rw [Sem.run_bind, run_underlying hi w]
    cases d <;> simp_all
theorem addr_add (b o i : Nat) : (⟨b, o, none⟩ : Addr).add i = ⟨b, o + i, none⟩ := by unfold Addr.add; split <;> simp_all

theorem run_ld (hT : Ty P T n ag) (hc : ∀ i, w.cell? ⟨b, i, none⟩ = c[i]?) (hl : off + n ≤ c.length) (h1 : ag = false → n = 1) : (loadVar T ⟨b, off, none⟩).run P w = .ok (ldV ag n off c) w := by
  unfold loadVar
  rw [Sem.run_bind, run_agg hT]
  cases ag with
  | true =>
    have := run_loadCells_list (P := P) w ⟨b, off, none⟩ ((c.drop off).take n) fun j v hv => by
      rw [addr_add, hc]
      rw [List.getElem?_take] at hv
      split at hv
      · simpa using hv
      · cases hv
    rw [List.length_take, List.length_drop, Nat.min_eq_left (by omega)] at this
    simp [run_size hT, this, ldV]
  | false =>
    have h := hc off
    rw [List.getElem?_eq_getElem (by have := h1 rfl; omega)] at h
    simp [ldV, load, Sem.run, h, List.getD, List.getElem?_eq_getElem (show off < c.length by have := h1 rfl; omega)]

theorem wpList_ld (hR : Rep w0 X R S w) (hop : o.op = .load T x) (hg : o.guard = none) (hx : a.eval x = .pointer (some ⟨b, off, none⟩)) (hA : At S b T' c) (hT : Ty P T n ag)
    (hl : (decide (off + n ≤ c.length) && (ag || n == 1)) = true) (ha : a.put o.dst (ldV ag n off c) = a') (h : wpList P ops Q rest a' w) : wpList P ops Q (o :: rest) a w := by
  simp only [Bool.and_eq_true, decide_eq_true_eq, Bool.or_eq_true, beq_iff_eq] at hl
  have hr := run_ld (w := w) hT (hR.cells hA.mem) hl.1 (fun e => hl.2.resolve_left (by simp [e]))
  refine BigFrame.wpList_want (by simp [Region.wanted, hg]) fun K hK => ?_
  unfold Oper.wp execOp
  rw [hop]
  simp only [hx, Instr.loadAt, Instr.sureAddr, Sem.run_bind, Sem.run_pure, Result.andThen_ok, hr, Oper.upon]
  subst ha
  exact hK _ _ h

theorem run_st (hT : Ty P T n ag) (hR : Rep w0 X R S w) {v : Value} {vs c' : List Value} (hv : v.cells = vs.toArray) (hc : stL off vs c = c') (ht : To S b T' c c' S') (hl : off + n ≤ c.length) (hn : vs.length = n) (h1 : vs.all Value.oneCell' = true) :
    (storeVar T ⟨b, off, none⟩ v).run P w = .ok () (w.setRow b c'.toArray) := by
  subst hc
  have hs := run_storeCells_at P b off T' vs 0 c.toArray w (hR.own _ ht.at.mem) (by simp; omega) (List.all_eq_true.1 h1)
  simp only [Nat.add_zero] at hs
  unfold storeVar
  rw [Sem.run_bind, run_size hT]
  simp only [Result.andThen_ok, hv, List.size_toArray, hn, ne_eq, not_true, if_false]
  rw [stL_eq _ _ _ (by omega)]
  simpa using hs

theorem wpList_st (hR : Rep w0 X R S w) {vs c' : List Value} (hop : o.op = .store T x y) (hd : o.dst = none) (hg : o.guard = none) (hx : a.eval x = .pointer (some ⟨b, off, none⟩)) (hv : (a.eval y).cells = vs.toArray) (hA : At S b T' c) (hT : Ty P T n ag) (hc : stL off vs c = c') (ht : To S b T' c c' S')
    (hl : (decide (off + n ≤ c.length) && (vs.length == n) && vs.all Value.oneCell') = true) (h : ∀ w', Rep w0 X R S' w' → wpList P ops Q rest a w') : wpList P ops Q (o :: rest) a w := by
  clear hA
  simp only [Bool.and_eq_true, decide_eq_true_eq, beq_iff_eq] at hl
  have hr := run_st (P := P) hT hR hv hc ht hl.1.1 hl.1.2 hl.2
  refine BigFrame.wpList_want (by simp [Region.wanted, hg]) fun K hK => ?_
  unfold Oper.wp execOp
  rw [hop]
  simp only [hx, Instr.storeAt, Instr.sureAddr, Sem.run_bind, Sem.run_pure, Result.andThen_ok, hr]
  simp only [Oper.upon, hd, Act.put]
  exact hK _ _ (h _ (hR.store ht))

theorem wpList_box (hR : Rep w0 X R S w) {d : Tmp} {l : List Value} (hop : o.op = .box T x) (hd : o.dst = some d) (hg : o.guard = none) (hv : (a.eval x).cells = l.toArray)
    (h : ∀ w' B, Rep w0 X R (⟨B, T, l⟩ :: S) w' → ∃ a', a.put (some d) (.pointer (some ⟨B, 0, none⟩)) = a' ∧ wpList P ops Q rest a' w') : wpList P ops Q (o :: rest) a w := by
  refine BigFrame.wpList_want (by simp [Region.wanted, hg]) fun K hK => ?_
  unfold Oper.wp execOp
  rw [hop]
  simp only [Instr.box, newVar, newRow, newObj, hv, Sem.run_bind, Sem.run, Sem.run_pure, Result.andThen_ok, Oper.upon, hd]
  obtain ⟨a', e, h'⟩ := h _ w.heap.size (by simpa using hR.alloc T l.toArray)
  rw [e]
  exact hK _ _ h'

def ZeroIs (P : Program) (T : TypeId) (z : List Value) : Prop := (P.info? T).bind (fun i => i.zero.map fun v => v.cells.toList) = some z
theorem wpList_alloc (hR : Rep w0 X R S w) {d : Tmp} {l : List Value} (hop : o.op = .alloc T) (hd : o.dst = some d) (hg : o.guard = none) (hz : ZeroIs P T l)
    (h : ∀ w' B, Rep w0 X R (⟨B, T, l⟩ :: S) w' → ∃ a', a.put (some d) (.pointer (some ⟨B, 0, none⟩)) = a' ∧ wpList P ops Q rest a' w') : wpList P ops Q (o :: rest) a w := by
  unfold ZeroIs at hz
  cases hi : P.info? T with
  | none => simp [hi] at hz
  | some i =>
    cases hzv : i.zero with
    | none => simp [hi, hzv] at hz
    | some z =>
      simp [hi, hzv] at hz
      refine BigFrame.wpList_want (by simp [Region.wanted, hg]) fun K hK => ?_
      unfold Oper.wp execOp
      rw [hop]
      simp only [Instr.alloc, zeroValue, typeInfo, program, hi, hzv, newVar, newRow, newObj, Sem.run_bind, Sem.run, Sem.run_pure, Result.andThen_ok, Oper.upon, hd]
      subst hz
      obtain ⟨a', e, h'⟩ := h _ w.heap.size (hR.alloc T z.cells)
      rw [e]
      exact hK _ _ h'

/-- The end of a function whose result stands in a block of its own. -/
theorem ret_cell {fn : Func} {RR : Ending → World → Prop} {t : Tmp} {tmps : Array Value} (hR : Rep w0 X R S w) (hres : fn.results = #[.cell t T]) (ht : tmps.getD t undef = .pointer (some ⟨b, 0, none⟩)) (hA : At S b T' c) (hT : Ty P T n true) (hl : c.length = n)
    (h : RR (.returned (.agg c.toArray)) w) : bodyPost P fn RR .ret ⟨tmps, []⟩ w := by
  refine bodyPost_ret (v := .agg c.toArray) ?_ rfl h
  have hld := run_ld (off := 0) hT (hR.cells hA.mem) (by simp only [Nat.zero_add]; omega) (by simp)
  simp only [ldV, List.drop_zero, ← hl, List.take_length] at hld
  simp only [Array.getD_eq_getD_getElem?] at ht
  simp [results, hres, ht, asAddr, hld]
end
end Go.Proofs.YtddjhemncniidaaDoor
