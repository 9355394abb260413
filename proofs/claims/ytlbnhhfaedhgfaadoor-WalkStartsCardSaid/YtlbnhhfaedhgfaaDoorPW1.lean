/-
  Lemmas: General words of these proofs: what a call leaves of the world ('Kp'), tapes, slices that read as lists. No program in sight. / A region that draws its order: a head of operations that read, call and make variables (alloc), each in whatever order its edges allow, and a tail in one forced order. One walk of the head in the order of the text serves every order. / Values of a walk, worlds out of sight: 'D' (deep values in memory that no one turns), 'V' (values that may point to memory of the walk's own); states of a walk ('St'), and when a frame and a world are as a state says ('Rel'). / One hypothesis for the whole world of a walk: what stood before is as it was ('Kp'), and each block that the walk itself has made holds what a list says ('Rep'). Rules for the operations that make or write memory. / Slices in a walk: those of the walk's own that grow ('OS'), and what is read ('Rd'); append, slices that are written out, the joining of what a callee has made. / Slices that are written out; a region that draws its order, over 'Rep'. / Operations over states: what each leaves ('OpD': one outcome; 'OpV': one of those that ψ allows). / Operations over states, continued: memory, structs, slices. / Walks over states: operations one behind the other ('WL'), code ('WC'), what comes behind ('Kont', 'WK'); functions ('Spec'). / Functions over states: contracts ('Spec'), calls, what may be forgotten or seen otherwise ('Vw'). / Plain words on bounds and ranges of keys: no program in sight. / Operations over states: numbers, strings; guarded operations at what is not decided yet. / Regions that draw their order, over states: one walk, in one order that fits the edges, serves for all orders. / Regions that draw their order, over states: the order that the plan has, against any other.
-/
import Derived.WalkKit
import Derived.WalkSpells
import Derived.WalkLawsBesides
import Derived.Lib.Hide
import Derived.Deep.Draws
import Derived.StillTail
import Derived.Deep.Quiet
import Derived.Deep.QuietTactic
import Derived.BigQuiet
import Derived.Lib.QuietBelow
import Derived.Laws.Rows
import Derived.Laws.CopyRow
import Derived.Laws.AppendOwn
import Derived.IntWalk
import Derived.Laws.StructEq
namespace Go.Proofs.YtlbnhhfaedhgfaaDoor
set_option linter.unusedSimpArgs false
set_option linter.unusedVariables false
open Go.RowKit

structure Kp (X : List Nat) (w w' : World) : Prop where
  os : w'.os = w.os
  tape : w'.tape = w.tape
  output : w'.output = w.output
  size : w.heap.size ≤ w'.heap.size
  block : ∀ k, k < w.heap.size → k ∉ X → w'.heap[k]? = w.heap[k]?

theorem Kp.refl (X : List Nat) (w : World) : Kp X w w := ⟨rfl, rfl, rfl, Nat.le_refl _, fun _ _ _ => rfl⟩
theorem Kp.trans {X : List Nat} {a b c : World} (h : Kp X a b) (k : Kp X b c) : Kp X a c :=
  ⟨k.os.trans h.os, k.tape.trans h.tape, k.output.trans h.output, Nat.le_trans h.size k.size, fun i hi hx => (k.block i (Nat.lt_of_lt_of_le hi h.size) hx).trans (h.block i hi hx)⟩
theorem Kp.sub {X Y : List Nat} {a b : World} (h : Kp X a b) (hs : ∀ k, k < a.heap.size → k ∈ X → k ∈ Y) : Kp Y a b :=
  ⟨h.os, h.tape, h.output, h.size, fun k hk hy => h.block k hk fun hx => hy (hs k hk hx)⟩
theorem Kp.alloc {X : List Nat} {a w : World} (h : Kp X a w) (o : Obj) : Kp X a (w.alloc o) :=
  h.trans ⟨rfl, rfl, rfl, by simp, fun k hk _ => Below.heap_alloc _ _ _ hk⟩
theorem Kp.drew {X : List Nat} {a w : World} (h : Kp X a w) : Kp X a w.drew := ⟨h.os, h.tape, h.output, h.size, h.block⟩
theorem Kp.drewN {X : List Nat} {a w : World} (h : Kp X a w) (n : Nat) : Kp X a (w.drewN n) := by
  exact h.trans ⟨rfl, rfl, rfl, Nat.le_refl _, fun k _ _ => rfl⟩
theorem Kp.setCell {X : List Nat} {a w : World} (h : Kp X a w) {p : Addr} (hp : p.block ∈ X ∨ a.heap.size ≤ p.block) (u : Value) : Kp X a (w.setCell p u) := by
  refine ⟨h.os, h.tape, h.output, by simpa [World.setCell] using h.size, fun k hk hx => ?_⟩
  rw [Below.heap_setCell _ _ _ _ (by rcases hp with hp | hp; · intro e; subst e; exact hx hp
                                     · omega)]
  exact h.block k hk hx
theorem Kp.cell {X : List Nat} {w w' : World} (h : Kp X w w') {p : Addr} (hp : p.block < w.heap.size) (hx : p.block ∉ X) : w'.cell? p = w.cell? p := World.cell?_of_block (w := w) (h.block p.block hp hx)
theorem Kp.frozen {X : List Nat} {w w' : World} (h : Kp X w w') {p : Addr} (hp : p.block < w.heap.size) (hx : p.block ∉ X) : w'.frozen? p = w.frozen? p := World.frozen?_of_block (w := w) (h.block p.block hp hx)
theorem Kp.below {w w' : World} (h : Kp [] w w') : Below w.heap.size w w' := ⟨h.os, h.tape, h.output, h.size, fun k hk => h.block k hk (by simp)⟩
theorem kcell {W w1 : World} (hb : Kp [] W w1) : (∀ b o, b < W.heap.size → w1.cell? ⟨b, o, none⟩ = W.cell? ⟨b, o, none⟩) ∧ (∀ b o, b < W.heap.size → w1.frozen? ⟨b, o, none⟩ = W.frozen? ⟨b, o, none⟩) ∧ (∀ b, b < W.heap.size → b < w1.heap.size) :=
  ⟨fun b o h => hb.cell (p := ⟨b, o, none⟩) h (by simp), fun b o h => hb.frozen (p := ⟨b, o, none⟩) h (by simp), fun _ h => Nat.lt_of_lt_of_le h hb.size⟩
theorem nameWorld {P : Program} {c : Code} {Q : Exit → Act → World → Prop} {a : Act} {W : World} (F : World → Prop) (hF : F W) (h : ∀ W0, F W0 → c.wp P Q a W0) : c.wp P Q a W := h W hF

@[simp, go_sem] theorem lt_ones2 (n : Nat) : (n < n + 1 + 1) = True := by simp; omega
@[simp, go_sem] theorem lt_ones3 (n : Nat) : (n < n + 1 + 1 + 1) = True := by simp; omega
@[simp, go_sem] theorem lt_ones4 (n : Nat) : (n < n + 1 + 1 + 1 + 1) = True := by simp; omega
@[simp, go_sem] theorem lt_ones5 (n : Nat) : (n < n + 1 + 1 + 1 + 1 + 1) = True := by simp; omega
@[simp, go_sem] theorem lt_ones6 (n : Nat) : (n < n + 1 + 1 + 1 + 1 + 1 + 1) = True := by simp; omega
@[simp, go_sem] theorem lt_ones7 (n : Nat) : (n < n + 1 + 1 + 1 + 1 + 1 + 1 + 1) = True := by simp; omega
@[simp, go_sem] theorem lt_ones8 (n : Nat) : (n < n + 1 + 1 + 1 + 1 + 1 + 1 + 1 + 1) = True := by simp; omega

theorem ret_bool {a b : Bool} (h : a = b) : Ending.returned (.bool a) = .returned (.bool b) := by rw [h]
theorem ret_int {k : IntKind} {a b : Int} (h : a = b) : Ending.returned (.int k a) = .returned (.int k b) := by rw [h]
end Go.Proofs.YtlbnhhfaedhgfaaDoor
namespace Go.Proofs.YtlbnhhfaedhgfaaDoor
set_option linter.unusedSimpArgs false
set_option linter.unusedVariables false
open Go.RowKit Go.Sort

def gr (W0 : World) (p : Regrown) : World := grow (redrawn W0 p.d) p.os
theorem gr_of_kp {W0 w : World} (h : Kp [] W0 w) : ∃ p : Regrown, w = gr W0 p := regrown_of_below h.below
def noAlloc (o : Oper) : Oper := match o.op with | .alloc _ => { o with op := .move (.const undef) } | _ => o
def isAlloc (o : Oper) : Option TypeId := match o.op with | .alloc t => some t | _ => none

def headOk (ops : Array Oper) (n : Nat) (o : Oper) (k : Nat) : Bool :=
  (o.after.all fun e => !Region.binds .any e || decide (e.on < k)) &&
  ((isAlloc o).isNone || (o.guard.isNone && o.dst.isSome)) &&
  ((List.range n).all fun j => match ops[j]? with
    | none => true
    | some oj => match oj.dst with
      | none => true
      | some d => (j == k || o.dst != some d) && (!(o.looksAt ops).contains d || ((isAlloc oj).isNone && o.after.any fun e => Region.binds .any e && e.on == j)))
def Agrees (ops : Array Oper) (o : Oper) (a b : Act) : Prop := ∀ t ∈ o.looksAt ops, a.tmps[t]? = b.tmps[t]?

theorem Agrees.exec {ops : Array Oper} {o : Oper} {a b : Act} (h : Agrees ops o a b) (hs : ∀ cs bb, o.op ≠ .select cs bb) : execOp a.eval o = execOp b.eval o := by
  refine execOp_congr o hs fun x hx => ?_
  cases x with
  | tmp t =>
    have := h t (List.mem_append_left _ (List.mem_filterMap.2 ⟨.tmp t, by simpa using hx, rfl⟩))
    simp [Act.eval, this]
  | _ => rfl
theorem Agrees.wanted {ops : Array Oper} {o : Oper} {a b : Act} (h : Agrees ops o a b) : Region.wanted o (yielded ops a.tmps) = Region.wanted o (yielded ops b.tmps) := by
  unfold Region.wanted
  cases hg : o.guard with
  | none => rfl
  | some gw =>
    obtain ⟨g, want⟩ := gw
    have hy : yielded ops a.tmps g = yielded ops b.tmps g := by
      unfold yielded
      cases ht : (ops[g]?).bind (·.dst) with
      | none => rfl
      | some t =>
        have := h t (List.mem_append_right _ (by simp [hg, ht]))
        simp [this]
    simp only [hy]

theorem put_getElem? (a : Act) (o : Option Tmp) (v : Value) (t : Tmp) (h : o ≠ some t) : (a.put o v).tmps[t]? = a.tmps[t]? := by
  cases o with
  | none => rfl
  | some d => exact Array.getElem?_setIfInBounds_ne (fun e => h (by rw [e]))

def qkUpon (P : Program) (w : World) (v : Value) : Result Next → Prop
  | .ok (.value u) w' => w' = w ∧ u = v
  | .ok .skip w' => w' = w ∧ v = undef
  | .ok (.enter f args) w' => w' = w ∧ Calls P f args w (fun e w'' => e = .returned v ∧ Kp [] w w'')
  | _ => False
def qkAt (P : Program) (o : Oper) (a : Act) (W0 : World) (v : Value) : Prop := ∀ w, (∃ p : Regrown, w = gr W0 p) → qkUpon P w v ((execOp a.eval o).run P w)
def qk (P : Program) (o : Oper) (a : Act) (W0 : World) (next : Act → Prop) : Prop := ∃ v, qkAt P o a W0 v ∧ next (a.put o.dst v)
def wpQK (P : Program) (ops : Array Oper) (W0 : World) (Q : Act → Prop) : List Oper → Act → Prop
  | [], a => Q a
  | o :: rest, a => if Region.wanted o (yielded ops a.tmps) then qk P o a W0 (wpQK P ops W0 Q rest) else wpQK P ops W0 Q rest (a.put o.dst undef)
attribute [go_sem] qk qkAt qkUpon

def Gives (P : Program) (ops : Array Oper) (W0 : World) (o : Oper) (v : Value) (a : Act) : Prop :=
  (Region.wanted o (yielded ops a.tmps) = true ∧ qkAt P o a W0 v) ∨ (Region.wanted o (yielded ops a.tmps) = false ∧ v = undef)
theorem Gives.of_same {P : Program} {ops : Array Oper} {W0 : World} {o : Oper} {v : Value} {a a' : Act} (hy : Gives P ops W0 o v a) (he : execOp a'.eval o = execOp a.eval o)
    (hw : Region.wanted o (yielded ops a'.tmps) = Region.wanted o (yielded ops a.tmps)) : Gives P ops W0 o v a' := by
  unfold Gives qkAt at *
  rw [he, hw]
  exact hy

theorem noAlloc_dst (o : Oper) : (noAlloc o).dst = o.dst := by unfold noAlloc; split <;> rfl
theorem isAlloc_op {o : Oper} {T : TypeId} (h : isAlloc o = some T) : o.op = .alloc T := by
  unfold isAlloc at h
  split at h
  · rename_i t e; rw [e]; simpa using h
  · cases h
theorem yielded_map (l : List Oper) (tmps : Array Value) (j : Nat) : yielded (l.map noAlloc).toArray tmps j = yielded l.toArray tmps j := by
  unfold yielded
  simp only [List.getElem?_toArray, List.getElem?_map]
  cases l[j]? <;> simp [noAlloc_dst]
theorem wanted_map (l : List Oper) (o : Oper) (tmps : Array Value) : Region.wanted o (yielded (l.map noAlloc).toArray tmps) = Region.wanted o (yielded l.toArray tmps) := by
  unfold Region.wanted
  cases o.guard with
  | none => rfl
  | some gw => obtain ⟨g, w⟩ := gw; simp [yielded_map]

theorem headOk_spec {ops : Array Oper} {n k : Nat} {o : Oper} (h : headOk ops n o k = true) :
    (∀ e ∈ o.after, Region.binds .any e = true → e.on < k) ∧
    (∀ T, isAlloc o = some T → o.guard = none ∧ ∃ d, o.dst = some d) ∧
    (∀ j oj, j < n → ops[j]? = some oj → ∀ d, oj.dst = some d → (j ≠ k → o.dst ≠ some d) ∧ (d ∈ o.looksAt ops → isAlloc oj = none ∧ ∃ e ∈ o.after, Region.binds .any e = true ∧ e.on = j)) := by
  simp only [headOk, Bool.and_eq_true] at h
  obtain ⟨⟨h1, h2⟩, h3⟩ := h
  refine ⟨fun e he hb => ?_, fun T hT => ?_, fun j oj hj hoj d hd => ?_⟩
  · have := Array.all_eq_true_iff_forall_mem.1 h1 e he
    simpa [hb] using this
  · simp only [hT, Option.isNone_some, Bool.false_or, Bool.and_eq_true, Option.isNone_iff_eq_none, Option.isSome_iff_exists] at h2
    exact h2
  · have := List.all_eq_true.1 h3 j (List.mem_range.2 hj)
    simp only [hoj, hd, Bool.and_eq_true, Bool.or_eq_true, beq_iff_eq, bne_iff_ne, Bool.not_eq_true', Option.isNone_iff_eq_none] at this
    refine ⟨fun hne => this.1.resolve_left hne, fun hm => ?_⟩
    rcases this.2 with h | h
    · simp [hm] at h
    · obtain ⟨e, he, hb⟩ := Array.any_eq_true'.1 h.2
      simp only [Bool.and_eq_true, beq_iff_eq] at hb
      exact ⟨h.1, e, he, hb.1, hb.2⟩

def Boxed (zc : TypeId → Array Value) (W0 : World) (b : Act) (w : World) (d : Tmp) (T : TypeId) (B : Nat) : Prop :=
  (b.tmps[d]? = if d < b.tmps.size then some (.pointer (some ⟨B, 0, none⟩)) else none) ∧ W0.heap.size ≤ B ∧ B < w.heap.size ∧ w.heap[B]? = some (.cells (zc T) T (0, 0))

theorem Boxed.later {zc : TypeId → Array Value} {W0 : World} {b b' : Act} {w w' : World} {d : Tmp} {T : TypeId} {B : Nat} (h : Boxed zc W0 b w d T B) (hs : b'.tmps.size = b.tmps.size) (hd : b'.tmps[d]? = b.tmps[d]?) (hk : Kp [] w w') : Boxed zc W0 b' w' d T B :=
  ⟨by rw [hd, hs]; exact h.1, h.2.1, Nat.lt_of_lt_of_le h.2.2.1 hk.size, by rw [hk.block B h.2.2.1 (by simp)]; exact h.2.2.2⟩

structure Inv (l : List Oper) (n : Nat) (zc : TypeId → Array Value) (W0 : World) (A : Act) (listed : Array Bool) (b : Act) (w : World) : Prop where
  hi : HeadInv .any l.toArray n listed
  size : b.tmps.size = A.tmps.size
  defers : b.defers = A.defers
  kp : Kp [] W0 w
  un : ∀ t, (∀ (k : Nat) (o : Oper), k < n → l[k]? = some o → o.dst ≠ some t) → b.tmps[t]? = A.tmps[t]?
  got : ∀ (k : Nat) (o : Oper), k < n → l[k]? = some o → isAlloc o = none → listed.getD k false = true → ∀ d, o.dst = some d → b.tmps[d]? = A.tmps[d]?
  al : ∃ Bs : Nat → Nat, (∀ (k : Nat) (o : Oper) T d, k < n → l[k]? = some o → isAlloc o = some T → o.dst = some d → listed.getD k false = true → Boxed zc W0 b w d T (Bs k)) ∧
    (∀ (k k' : Nat) (o o' : Oper), k < n → k' < n → l[k]? = some o → l[k']? = some o' → isAlloc o ≠ none → isAlloc o' ≠ none → listed.getD k false = true → listed.getD k' false = true → k ≠ k' → Bs k ≠ Bs k')

theorem put_size (a : Act) (o : Option Tmp) (v : Value) : (a.put o v).tmps.size = a.tmps.size := by cases o <;> simp [Act.put]
theorem put_defers (a : Act) (o : Option Tmp) (v : Value) : (a.put o v).defers = a.defers := by cases o <;> rfl
theorem put_same (a : Act) (d : Tmp) (v : Value) : (a.put (some d) v).tmps[d]? = if d < a.tmps.size then some v else none := by simp [Act.put, Array.getElem?_setIfInBounds]
theorem getD_set_self {listed : Array Bool} {i j : Nat} (h : (listed.setIfInBounds i true).getD j false = true) (hne : i ≠ j) : listed.getD j false = true := by
  rwa [getD_set_ne false hne] at h

section
variable {P : Program} {l : List Oper} {n : Nat} {zc : TypeId → Array Value} {W0 : World} {A : Act} {listed : Array Bool} {b : Act} {w : World} {Q : Exit → Act → World → Prop}

theorem Inv.step (hchk : ∀ k o, k < n → l[k]? = some o → headOk l.toArray n o k = true) (hns : Region.noSelect l.toArray = true)
    (hz : ∀ o ∈ l, ∀ T, o.op = .alloc T → ∀ ρ w, (execOp ρ o).run P w = .ok (.value (.pointer (some ⟨w.heap.size, 0, none⟩))) (w.alloc (.cells (zc T) T)))
    (hall : ∀ (k : Nat) (o : Oper), k < n → l[k]? = some o → isAlloc o = none → ∃ v, Gives P (l.map noAlloc).toArray W0 o v A ∧ ∀ d, o.dst = some d → A.tmps[d]? = if d < A.tmps.size then some v else none)
    (inv : Inv l n zc W0 A listed b w) {i : Nat} (hi : i ∈ Region.ready .any l.toArray listed) (hin : i < n) :
    wpOp P l.toArray Q i (fun b' w' => Inv l n zc W0 A (listed.setIfInBounds i true) b' w') b w := by
  obtain ⟨hun, o, ho, hdep⟩ := mem_ready.1 hi
  have ho' : l[i]? = some o := by simpa using ho
  have hd := headOk_spec (hchk i o hin ho')
  have later : ∀ (v : Value) (w' : World), Kp [] w w' → (∀ k o', k < n → l[k]? = some o' → k ≠ i → ∀ d, o'.dst = some d → o.dst ≠ some d) →
      (isAlloc o = none → ∀ d, o.dst = some d → (b.put o.dst v).tmps[d]? = A.tmps[d]?) →
      (∀ T d, isAlloc o = some T → o.dst = some d → Boxed zc W0 (b.put o.dst v) w' d T w.heap.size) →
      Inv l n zc W0 A (listed.setIfInBounds i true) (b.put o.dst v) w' := by
    intro v w' hk hne hgot hbox
    obtain ⟨Bs, hB, hBne⟩ := inv.al
    refine ⟨inv.hi.set hi hin, by rw [put_size]; exact inv.size, by rw [put_defers]; exact inv.defers, inv.kp.trans hk, fun t ht => ?_, fun k o' hkn hko hka hkl d hd' => ?_, ?_⟩
    · rw [put_getElem? b o.dst v t (ht i o hin ho')]; exact inv.un t ht
    · by_cases hki : k = i
      · subst hki
        obtain rfl : o' = o := Option.some.inj (hko.symm.trans ho')
        exact hgot hka d hd'
      · rw [put_getElem? b o.dst v d (hne k o' hkn hko hki d hd')]
        exact inv.got k o' hkn hko hka (getD_set_self hkl (Ne.symm hki)) d hd'
    · refine ⟨fun k => if k = i then w.heap.size else Bs k, fun k o' T d hkn hko hka hd' hkl => ?_, fun k k' o1 o2 hkn hkn' hko hko' ha ha' hkl hkl' hne' => ?_⟩
      · by_cases hki : k = i
        · subst hki
          obtain rfl : o' = o := Option.some.inj (hko.symm.trans ho')
          simp only [if_true]
          exact hbox T d hka hd'
        · simp only [if_neg hki]
          exact (hB k o' T d hkn hko hka hd' (getD_set_self hkl (Ne.symm hki))).later (put_size _ _ _) (put_getElem? b o.dst v d (hne k o' hkn hko hki d hd')) hk
      · have old : ∀ k o1, k < n → l[k]? = some o1 → isAlloc o1 ≠ none → k ≠ i → (listed.setIfInBounds i true).getD k false = true → Bs k < w.heap.size := fun k o1 hkn hko ha hki hkl => by
          cases hT : isAlloc o1 with
          | none => exact absurd hT ha
          | some T =>
            obtain ⟨-, d, hd'⟩ := (headOk_spec (hchk k o1 hkn hko)).2.1 T hT
            exact (hB k o1 T d hkn hko hT hd' (getD_set_self hkl (Ne.symm hki))).2.2.1
        by_cases hki : k = i
        · have hk'i : k' ≠ i := fun e => hne' (hki.trans e.symm)
          simp only [if_pos hki, if_neg hk'i]
          have := old k' o2 hkn' hko' ha' hk'i hkl'
          omega
        · by_cases hk'i : k' = i
          · simp only [if_neg hki, if_pos hk'i]
            have := old k o1 hkn hko ha hki hkl
            omega
          · simp only [if_neg hki, if_neg hk'i]
            exact hBne k k' o1 o2 hkn hkn' hko hko' ha ha' (getD_set_self hkl (Ne.symm hki)) (getD_set_self hkl' (Ne.symm hk'i)) hne'
  have hne : ∀ k o', k < n → l[k]? = some o' → k ≠ i → ∀ d, o'.dst = some d → o.dst ≠ some d := fun k o' hkn hko hki d hd' => (hd.2.2 k o' hkn (by simpa using hko) d hd').1 hki
  unfold wpOp
  simp only [ho]
  cases hT : isAlloc o with
  | some T =>
    obtain ⟨hg, d, hdst⟩ := hd.2.1 T hT
    have hw : Region.wanted o (yielded l.toArray b.tmps) = true := by simp [Region.wanted, hg]
    simp only [hw, if_true]
    refine .inl ?_
    unfold Oper.wp
    rw [hz o (List.mem_of_getElem? ho') T (isAlloc_op hT)]
    simp only [Oper.upon]
    refine later _ _ ((Kp.refl _ _).alloc _) hne (fun h => by rw [hT] at h; cases h) (fun T' d' hT' hd' => ?_)
    obtain rfl : T = T' := Option.some.inj (hT.symm.trans hT')
    rw [hd']
    exact ⟨by rw [put_same, put_size], inv.kp.size, by simp, heap_alloc_new w _⟩
  | none =>
    obtain ⟨v, hy, hA⟩ := hall i o hin ho' hT
    have hag : Agrees l.toArray o b A := fun t ht => by
      by_cases hex : ∃ (k : Nat) (o' : Oper), k < n ∧ l[k]? = some o' ∧ o'.dst = some t
      · obtain ⟨k, o', hkn, hko, hkd⟩ := hex
        obtain ⟨hna, e, he, hb, hon⟩ := (hd.2.2 k o' hkn (by simpa using hko) t hkd).2 ht
        have := hdep e he hb
        rw [hon] at this
        exact inv.got k o' hkn hko hna this t hkd
      · exact inv.un t fun k o' hkn hko hkd => hex ⟨k, o', hkn, hko, hkd⟩
    have hsel : ∀ cs bb, o.op ≠ .select cs bb := fun cs bb => Region.noSelect_spec hns i o cs bb ho
    have hy' : Gives P (l.map noAlloc).toArray W0 o v b := hy.of_same (hag.exec hsel) (by rw [wanted_map, wanted_map]; exact hag.wanted)
    have fin : ∀ w', Kp [] w w' → Inv l n zc W0 A (listed.setIfInBounds i true) (b.put o.dst v) w' := fun w' hk =>
      later v w' hk hne (fun _ d hd' => by rw [hd', put_same, hA d hd', inv.size]) (fun T d h => by rw [hT] at h; cases h)
    rcases hy' with ⟨hw, hv⟩ | ⟨hw, rfl⟩
    · rw [wanted_map] at hw
      simp only [hw, if_true]
      refine .inl ?_
      have h1 := hv w (gr_of_kp inv.kp)
      unfold Oper.wp
      generalize (execOp b.eval o).run P w = r at *
      cases r with
      | ok nx w' =>
        cases nx <;> simp only [qkUpon] at h1 <;> simp only [Oper.upon]
        case value u => obtain ⟨rfl, rfl⟩ := h1; exact fin _ (Kp.refl _ _)
        case skip => obtain ⟨rfl, rfl⟩ := h1; exact fin _ (Kp.refl _ _)
        case enter f args =>
          obtain ⟨rfl, hc⟩ := h1
          exact hc.mono fun e w'' ⟨he, hk⟩ => by subst he; exact fin _ hk
      | halt x w' => simp only [qkUpon] at h1
    · rw [wanted_map] at hw
      simp only [hw, Bool.false_eq_true, if_false]
      exact fin _ (Kp.refl _ _)

def leftOf (n : Nat) (listed : Array Bool) : Nat := ((List.range n).filter fun k => !listed.getD k false).length

theorem leftOf_set {i : Nat} (hin : i < n) (hsz : i < listed.size) (hun : listed.getD i false = false) : leftOf n (listed.setIfInBounds i true) + 1 = leftOf n listed := by
  unfold leftOf
  have key : ∀ m, m ≤ n → ((List.range m).filter fun k => !(listed.setIfInBounds i true).getD k false).length + (if i < m then 1 else 0) = ((List.range m).filter fun k => !listed.getD k false).length := by
    intro m
    induction m with
    | zero => intro _; simp
    | succ m ih =>
      intro hm
      have := ih (by omega)
      rw [List.range_succ, List.filter_append, List.filter_append, List.length_append, List.length_append]
      by_cases him : i = m
      · subst him
        have e1 : (listed.setIfInBounds i true).getD i false = true := by simp [Array.getD, hsz]
        simp only [List.filter_cons, List.filter_nil, e1, hun]
        simp at this ⊢
        omega
      · have e1 : (listed.setIfInBounds i true).getD m false = listed.getD m false := getD_set_ne false him
        simp only [List.filter_cons, List.filter_nil, e1]
        by_cases h1 : i < m
        · rw [if_pos h1] at this; rw [if_pos (show i < m + 1 by omega)]; omega
        · rw [if_neg h1] at this; rw [if_neg (show ¬ i < m + 1 by omega)]; omega
  have := key n (Nat.le_refl _)
  rw [if_pos hin] at this
  exact this

theorem all_of_left (h : leftOf n listed = 0) : ∀ k, k < n → listed.getD k false = true := by
  intro k hk
  have h1 := List.eq_nil_of_length_eq_zero h
  have h2 := List.filter_eq_nil_iff.1 h1 k (List.mem_range.2 hk)
  simpa using h2

theorem least_left (h : leftOf n listed ≠ 0) : ∃ k, k < n ∧ listed.getD k false = false ∧ ∀ j, j < k → listed.getD j false = true := by
  have hex : ∃ k, k < n ∧ listed.getD k false = false := by
    apply Classical.byContradiction
    intro hno
    apply h
    unfold leftOf
    rw [List.length_eq_zero_iff, List.filter_eq_nil_iff]
    intro k hk
    have := List.mem_range.1 hk
    cases e : listed.getD k false with
    | true => simp
    | false => exact absurd ⟨k, this, e⟩ hno
  obtain ⟨k, hk, hf⟩ := hex
  induction k using Nat.strongRecOn with
  | _ k ih =>
    by_cases h' : ∃ j, j < k ∧ listed.getD j false = false
    · obtain ⟨j, hj, hjf⟩ := h'
      exact ih j hj (by omega) hjf
    · exact ⟨k, hk, hf, fun j hj => by cases e : listed.getD j false with
        | true => rfl
        | false => exact absurd ⟨j, hj, e⟩ h'⟩

theorem listed_eq (hh : HeadInv .any l.toArray n listed) (h : leftOf n listed = 0) : listed = (Array.range l.toArray.size).map fun i => decide (i < n) := by
  apply Array.ext
  · simp [hh.size]
  · intro i h1 h2
    simp only [Array.getElem_map, Array.getElem_range]
    by_cases hi : i < n
    · have := all_of_left h i hi
      simp only [Array.getD, h1, dif_pos] at this
      simpa [hi] using this
    · have := hh.tail i (by omega) (by rw [← hh.size]; exact h1)
      simp only [Array.getD, h1, dif_pos] at this
      simpa [hi] using this

theorem act_ext {a b : Act} (h1 : a.tmps.size = b.tmps.size) (h2 : a.defers = b.defers) (h : ∀ t : Nat, a.tmps[t]? = b.tmps[t]?) : a = b := by
  obtain ⟨t1, d1⟩ := a
  obtain ⟨t2, d2⟩ := b
  have : t1 = t2 := Array.ext_getElem? h
  subst this; subst h2; rfl

end
attribute [irreducible] wpQK
end Go.Proofs.YtlbnhhfaedhgfaaDoor
namespace Go.Proofs.YtlbnhhfaedhgfaaDoor
set_option linter.unusedSimpArgs false
set_option linter.unusedVariables false
open Go.RowKit

inductive D where
  | c (v : Value)
  | l (n : Nat) (xs : List D)
  | m (es : List (Value × Value))
inductive V where
  | d (x : D)
  | a (xs : List V)
  | t (xs : List V)
  | p (k o : Nat)
  | e (k o : Nat)
  | h (k : Nat)
  | s (k o n z : Nat)
  | q (xs : List D)
  | mp (k : Nat)
  | un
inductive Blk where
  | box (T : TypeId) (cs : List V)
  | arr (E : TypeId) (z n : Nat) (cs : List V)
  | ob (o : Obj)
inductive Loc where
  | box (b : Nat)
  | arr (v : Value)
def Loc.bl : Loc → Option Nat
  | .box b => some b
  | .arr (.slice (some a) _ _) => some a.block
  | .arr _ => none
abbrev Lc := Nat → Option Loc

mutual
inductive RD (w : World) (ok : Nat → Prop) : D → Value → Prop
  | c {v : Value} : v.oneCell' = true → RD w ok (.c v) v
  | nil (p : Option Addr) (c : Nat) : RD w ok (.l 0 []) (.slice p 0 c)
  | l {n c b o : Nat} {xs : List D} {vs : List Value} : n ≤ c → n ≤ maxLen → ok b → RDs w ok xs vs → (∀ j v, vs[j]? = some v → w.cell? ⟨b, o + j, none⟩ = some v) → RD w ok (.l n xs) (.slice (some ⟨b, o, none⟩) n c)
  | m {b clock : Nat} {es : List (Value × Value)} {em : Array MapEntry} : ok b → w.heap[b]? = some (.map em clock) → em.toList.map (fun e => (e.key, e.val)) = es → RD w ok (.m es) (.map (some b))
inductive RDs (w : World) (ok : Nat → Prop) : List D → List Value → Prop
  | nil : RDs w ok [] []
  | cons {x : D} {v : Value} {xs : List D} {vs : List Value} : RD w ok x v → RDs w ok xs vs → RDs w ok (x :: xs) (v :: vs)
end
mutual
inductive RV (w : World) (ok : Nat → Prop) (ρ : Lc) : V → Value → Prop
  | d {x : D} {v : Value} : RD w ok x v → RV w ok ρ (.d x) v
  | a {xs : List V} {vs : List Value} : RVs w ok ρ xs vs → RV w ok ρ (.a xs) (.agg vs.toArray)
  | t {xs : List V} {vs : List Value} : RVs w ok ρ xs vs → RV w ok ρ (.t xs) (.tuple vs.toArray)
  | p {k b o : Nat} : ρ k = some (.box b) → RV w ok ρ (.p k o) (.pointer (some ⟨b, o, none⟩))
  | e {k g o n c : Nat} : ρ k = some (.arr (.slice (some ⟨g, 0, none⟩) n c)) → RV w ok ρ (.e k o) (.pointer (some ⟨g, o, none⟩))
  | h {k n c : Nat} {p : Option Addr} : ρ k = some (.arr (.slice p n c)) → RV w ok ρ (.h k) (.slice p n c)
  | s {k g o n z N c : Nat} : ρ k = some (.arr (.slice (some ⟨g, 0, none⟩) N c)) → o + n ≤ N → N ≤ c → RV w ok ρ (.s k o n z) (.slice (some ⟨g, o * z, none⟩) n (c - o))
  | s0 {k o z N c : Nat} {p q : Option Addr} : ρ k = some (.arr (.slice q N c)) → c ≤ o → RV w ok ρ (.s k o 0 z) (.slice p 0 0)
  | q {b o : Nat} {xs : List D} {vs : List Value} : ok b → RDs w ok xs vs → (∀ j v, vs[j]? = some v → w.cell? ⟨b, o + j, none⟩ = some v) → RV w ok ρ (.q xs) (.pointer (some ⟨b, o, none⟩))
  | mp {k b : Nat} : ρ k = some (.box b) → RV w ok ρ (.mp k) (.map (some b))
  | un {v : Value} : RV w ok ρ .un v
inductive RVs (w : World) (ok : Nat → Prop) (ρ : Lc) : List V → List Value → Prop
  | nil : RVs w ok ρ [] []
  | cons {x : V} {v : Value} {xs : List V} {vs : List Value} : RV w ok ρ x v → RVs w ok ρ xs vs → RVs w ok ρ (x :: xs) (v :: vs)
end

def Stl (w w' : World) (ok ok' : Nat → Prop) : Prop := ∀ b, ok b → ok' b ∧ w'.heap[b]? = w.heap[b]?
theorem Stl.cell {w w' : World} {ok ok' : Nat → Prop} (h : Stl w w' ok ok') {b : Nat} (hb : ok b) (i : Nat) : w'.cell? ⟨b, i, none⟩ = w.cell? ⟨b, i, none⟩ := World.cell?_of_block (w := w) (h b hb).2
mutual
theorem RD.mono {w w' : World} {ok ok' : Nat → Prop} (hs : Stl w w' ok ok') : ∀ {x : D} {v : Value}, RD w ok x v → RD w' ok' x v
  | _, _, .c h => .c h
  | _, _, .nil p c => .nil p c
  | _, _, .l h1 h0 h2 h3 h4 => .l h1 h0 (hs _ h2).1 (RDs.mono hs h3) fun j v hv => by rw [hs.cell h2]; exact h4 j v hv
  | _, _, .m h1 h2 h3 => .m (hs _ h1).1 (by rw [(hs _ h1).2]; exact h2) h3
theorem RDs.mono {w w' : World} {ok ok' : Nat → Prop} (hs : Stl w w' ok ok') : ∀ {xs : List D} {vs : List Value}, RDs w ok xs vs → RDs w' ok' xs vs
  | _, _, .nil => .nil
  | _, _, .cons h1 h2 => .cons (RD.mono hs h1) (RDs.mono hs h2)
end
def Ext (ρ ρ' : Lc) : Prop := ∀ k l, ρ k = some l → ρ' k = some l
mutual
theorem RV.mono {w w' : World} {ok ok' : Nat → Prop} {ρ ρ' : Lc} (hs : Stl w w' ok ok') (he : Ext ρ ρ') : ∀ {x : V} {v : Value}, RV w ok ρ x v → RV w' ok' ρ' x v
  | _, _, .d h => .d (h.mono hs)
  | _, _, .a h => .a (RVs.mono hs he h)
  | _, _, .t h => .t (RVs.mono hs he h)
  | _, _, .p h => .p (he _ _ h)
  | _, _, .e h => .e (he _ _ h)
  | _, _, .h h => .h (he _ _ h)
  | _, _, .s h h2 h3 => .s (he _ _ h) h2 h3
  | _, _, .s0 h h2 => .s0 (he _ _ h) h2
  | _, _, .q h1 h2 h3 => .q (hs _ h1).1 (h2.mono hs) fun j v hv => by rw [hs.cell h1]; exact h3 j v hv
  | _, _, .mp h => .mp (he _ _ h)
  | _, _, .un => .un
theorem RVs.mono {w w' : World} {ok ok' : Nat → Prop} {ρ ρ' : Lc} (hs : Stl w w' ok ok') (he : Ext ρ ρ') : ∀ {xs : List V} {vs : List Value}, RVs w ok ρ xs vs → RVs w' ok' ρ' xs vs
  | _, _, .nil => .nil
  | _, _, .cons h1 h2 => .cons (RV.mono hs he h1) (RVs.mono hs he h2)
end
section
variable {w : World} {ok : Nat → Prop} {ρ : Lc}
theorem RDs.length : ∀ {xs : List D} {vs : List Value}, RDs w ok xs vs → vs.length = xs.length
  | _, _, .nil => rfl
  | _, _, .cons _ h => by simp [RDs.length h]
theorem RVs.length : ∀ {xs : List V} {vs : List Value}, RVs w ok ρ xs vs → vs.length = xs.length
  | _, _, .nil => rfl
  | _, _, .cons _ h => by simp [RVs.length h]
theorem RDs.get : ∀ {xs : List D} {vs : List Value}, RDs w ok xs vs → ∀ {j : Nat} {x : D}, xs[j]? = some x → ∃ v, vs[j]? = some v ∧ RD w ok x v
  | _, _, .nil, j, x, h => by simp at h
  | _, _, .cons h1 h2, 0, x, h => by simp at h; subst h; exact ⟨_, rfl, h1⟩
  | _, _, .cons h1 h2, j + 1, x, h => by simpa using h2.get (by simpa using h)
theorem RVs.get : ∀ {xs : List V} {vs : List Value}, RVs w ok ρ xs vs → ∀ {j : Nat} {x : V}, xs[j]? = some x → ∃ v, vs[j]? = some v ∧ RV w ok ρ x v
  | _, _, .nil, j, x, h => by simp at h
  | _, _, .cons h1 h2, 0, x, h => by simp at h; subst h; exact ⟨_, rfl, h1⟩
  | _, _, .cons h1 h2, j + 1, x, h => by simpa using h2.get (by simpa using h)
theorem RDs.append : ∀ {xs ys : List D} {vs us : List Value}, RDs w ok xs vs → RDs w ok ys us → RDs w ok (xs ++ ys) (vs ++ us)
  | _, _, _, _, .nil, h => h
  | _, _, _, _, .cons h1 h2, h => .cons h1 (h2.append h)
theorem RVs.append : ∀ {xs ys : List V} {vs us : List Value}, RVs w ok ρ xs vs → RVs w ok ρ ys us → RVs w ok ρ (xs ++ ys) (vs ++ us)
  | _, _, _, _, .nil, h => h
  | _, _, _, _, .cons h1 h2, h => .cons h1 (h2.append h)
theorem RDs.take : ∀ {xs : List D} {vs : List Value} (n : Nat), RDs w ok xs vs → RDs w ok (xs.take n) (vs.take n)
  | _, _, 0, h => by simpa using RDs.nil
  | _, _, n + 1, .nil => by simpa using RDs.nil
  | _, _, n + 1, .cons h1 h2 => by simpa using RDs.cons h1 (h2.take n)
theorem RDs.drop : ∀ {xs : List D} {vs : List Value} (n : Nat), RDs w ok xs vs → RDs w ok (xs.drop n) (vs.drop n)
  | _, _, 0, h => by simpa using h
  | _, _, n + 1, .nil => by simpa using RDs.nil
  | _, _, n + 1, .cons h1 h2 => by simpa using h2.drop n
theorem RVs.take : ∀ {xs : List V} {vs : List Value} (n : Nat), RVs w ok ρ xs vs → RVs w ok ρ (xs.take n) (vs.take n)
  | _, _, 0, h => by simpa using RVs.nil
  | _, _, n + 1, .nil => by simpa using RVs.nil
  | _, _, n + 1, .cons h1 h2 => by simpa using RVs.cons h1 (h2.take n)
theorem RVs.drop : ∀ {xs : List V} {vs : List Value} (n : Nat), RVs w ok ρ xs vs → RVs w ok ρ (xs.drop n) (vs.drop n)
  | _, _, 0, h => by simpa using h
  | _, _, n + 1, .nil => by simpa using RVs.nil
  | _, _, n + 1, .cons h1 h2 => by simpa using h2.drop n
theorem RD.one : ∀ {x : D} {v : Value}, RD w ok x v → v.oneCell' = true
  | _, _, .c h => h
  | _, _, .nil _ _ => rfl
  | _, _, .l _ _ _ _ _ => rfl
  | _, _, .m _ _ _ => rfl
theorem RDs.one : ∀ {xs : List D} {vs : List Value}, RDs w ok xs vs → vs.all Value.oneCell' = true
  | _, _, .nil => rfl
  | _, _, .cons h1 h2 => by simp [h1.one, h2.one]
theorem RDs.toV : ∀ {xs : List D} {vs : List Value}, RDs w ok xs vs → RVs w ok ρ (xs.map .d) vs
  | _, _, .nil => .nil
  | _, _, .cons h1 h2 => .cons (.d h1) h2.toV
theorem RVs.ofD : ∀ {xs : List D} {vs : List Value}, RVs w ok ρ (xs.map .d) vs → RDs w ok xs vs
  | [], _, .nil => .nil
  | _ :: _, _, .cons (.d h1) h2 => .cons h1 h2.ofD
theorem RDs.pre {xs ys : List D} {vs : List Value} (h : RDs w ok xs vs) (k : Nat) (hy : ∀ j y, ys[j]? = some y → xs[k + j]? = some y) : ∃ us, RDs w ok ys us ∧ ∀ j u, us[j]? = some u → vs[k + j]? = some u := by
  refine ⟨(vs.drop k).take ys.length, ?_, fun j u hu => ?_⟩
  · have h1 := (h.drop k).take ys.length
    have : (xs.drop k).take ys.length = ys := by
      apply List.ext_getElem?
      intro j
      rw [List.getElem?_take]
      split
      · rename_i hj
        rw [List.getElem?_drop, List.getElem?_eq_getElem hj]
        exact hy j _ (List.getElem?_eq_getElem hj)
      · rename_i hj
        exact (List.getElem?_eq_none (by omega)).symm
    rwa [this] at h1
  · rw [List.getElem?_take] at hu
    split at hu
    · simpa using hu
    · cases hu
end

def look {α : Type} : List (Nat × α) → Nat → Option α
  | [], _ => none
  | (k, v) :: r, t => bif Nat.beq k t then some v else look r t
theorem look_cons {α : Type} (k t : Nat) (v : α) (r : List (Nat × α)) : look ((k, v) :: r) t = if k = t then some v else look r t := by
  simp only [look]
  by_cases h : k = t
  · subst h; simp
  · have : Nat.beq k t = false := by cases hb : Nat.beq k t; rfl; exact absurd (Nat.eq_of_beq_eq_true hb) h
    simp [h, this]
theorem look_append {α : Type} (t : Nat) : ∀ (l r : List (Nat × α)), look (l ++ r) t = (look l t).or (look r t)
  | [], r => by simp [look]
  | (k, v) :: l, r => by
    rw [List.cons_append, look_cons, look_cons, look_append t l r]
    split <;> simp

abbrev Hp := List (Nat × Option Blk)
structure St where
  sl : List (Nat × V)
  hp : Hp

def Blk.rel (w : World) (ok : Nat → Prop) (ρ : Lc) : Blk → Loc → Prop
  | .box T cs, .box b => ∃ us, w.heap[b]? = some (.cells (List.toArray us) T (0, 0)) ∧ us.all Value.oneCell' = true ∧ RVs w ok ρ cs us
  | .arr E z n cs, .arr v => (v = .slice none 0 0 ∧ n = 0 ∧ cs = []) ∨ ∃ g cap us sp, v = .slice (some ⟨g, 0, none⟩) n cap ∧ n ≤ cap ∧ cap ≤ maxLen ∧ w.heap[g]? = some (.cells (us ++ sp : List Value).toArray E (0, 0)) ∧ (us ++ sp).length = cap * z ∧ us.length = n * z ∧ us.all Value.oneCell' = true ∧ RVs w ok ρ cs us
  | .ob o, .box b => w.heap[b]? = some o
  | _, _ => False
def okb (B : Nat → Prop) (w : World) (ρ : Lc) (b : Nat) : Prop := b < w.heap.size ∧ B b ∧ ∀ k l, ρ k = some l → l.bl ≠ some b

def GL : List (Nat × List Value) := [(0, [.string ⟨#[97]⟩, .string ⟨#[98]⟩, .string ⟨#[99]⟩, .string ⟨#[0]⟩, .string ⟨#[255]⟩, .string ⟨#[109]⟩])]
structure HR (B : Nat → Prop) (H : Hp) (ρ : Lc) (w : World) : Prop where
  rel : ∀ k blk, look H k = some (some blk) → ∃ l, ρ k = some l ∧ blk.rel w (okb B w ρ) ρ l
  inj : ∀ k k' blk blk' l l' b, look H k = some (some blk) → look H k' = some (some blk') → ρ k = some l → ρ k' = some l' → l.bl = some b → l'.bl = some b → k = k'
  lt : ∀ k l b, ρ k = some l → l.bl = some b → b < w.heap.size
  gl : ∀ e ∈ GL, okb B w ρ e.1 ∧ ∀ j v, e.2[j]? = some v → w.cell? ⟨e.1, j, none⟩ = some v

structure Step (B : Nat → Prop) (H h : Hp) (ρ ρ' : Lc) (w w' : World) : Prop where
  os : w'.os = w.os
  tape : w'.tape = w.tape
  output : w'.output = w.output
  size : w.heap.size ≤ w'.heap.size
  ext : Ext ρ ρ'
  new : ∀ k l, ρ' k = some l → ρ k = some l ∨ (ρ k = none ∧ look h k ≠ none ∧ ∀ b, l.bl = some b → (w.heap.size ≤ b ∧ b < w'.heap.size) ∨ ∃ k0 l0, look h k0 = some none ∧ ρ k0 = some l0 ∧ l0.bl = some b)
  keep : ∀ b, b < w.heap.size → (∀ k l, look h k ≠ none → ρ k = some l → l.bl ≠ some b) → w'.heap[b]? = w.heap[b]?
  live : ∀ k, look h k ≠ none → ρ k ≠ none → ∃ blk, look H k = some (some blk)
  rel : ∀ k blk, look h k = some (some blk) → ∃ l, ρ' k = some l ∧ blk.rel w' (okb B w' ρ') ρ' l
  injh : ∀ k k' blk blk' l l' b, look h k = some (some blk) → look h k' = some (some blk') → ρ' k = some l → ρ' k' = some l' → l.bl = some b → l'.bl = some b → k = k'

theorem Blk.rel_mono {w w' : World} {ok ok' : Nat → Prop} {ρ ρ' : Lc} (hs : Stl w w' ok ok') (he : Ext ρ ρ') : ∀ {blk : Blk} {l : Loc}, (∀ b, l.bl = some b → w'.heap[b]? = w.heap[b]?) → blk.rel w ok ρ l → blk.rel w' ok' ρ' l
  | .box T cs, .box b, hb, ⟨us, h1, h0, h2⟩ => ⟨us, by rw [hb b rfl]; exact h1, h0, h2.mono hs he⟩
  | .arr E z n cs, .arr v, hb, h => by
    rcases h with h | ⟨g, cap, us, sp, rfl, h1, h2, h3, h4, h5, h0, h6⟩
    · exact .inl h
    · exact .inr ⟨g, cap, us, sp, rfl, h1, h2, by rw [hb g rfl]; exact h3, h4, h5, h0, h6.mono hs he⟩
  | .ob o, .box b, hb, h => (hb b rfl).trans h
  | .box _ _, .arr _, _, h => h.elim
  | .arr _ _ _ _, .box _, _, h => h.elim
  | .ob _, .arr _, _, h => h.elim

def Sub (H0 H : Hp) : Prop := ∀ k blk, look H0 k = some (some blk) → look H k = some (some blk)
theorem Step.stl {B : Nat → Prop} {H h : Hp} {ρ ρ' : Lc} {w w' : World} (s : Step B H h ρ ρ' w w') : Stl w w' (okb B w ρ) (okb B w' ρ') := fun b ⟨hb, hB, ho⟩ => by
  refine ⟨⟨Nat.lt_of_lt_of_le hb s.size, hB, fun k l hk e => ?_⟩, s.keep b hb fun k l _ hl => ho k l hl⟩
  rcases s.new k l hk with h1 | ⟨-, -, h1⟩
  · exact ho k l h1 e
  · rcases h1 b e with h1 | ⟨k0, l0, -, h2, h3⟩
    · omega
    · exact ho k0 l0 h2 h3
theorem HR.step {B : Nat → Prop} {H0 H h : Hp} {ρ ρ' : Lc} {w w' : World} (hr : HR B H ρ w) (hsub : Sub H0 H) (s : Step B H0 h ρ ρ' w w') : HR B (h ++ H) ρ' w' := by
  have hlive : ∀ k k' blk l l' b, look h k = none → look H k = some (some blk) → ρ k = some l → l.bl = some b → look h k' ≠ none → ρ k' = some l' → l'.bl ≠ some b := by
    intro k k' blk l l' b h1 h2 h3 h4 h5 h6 h7
    obtain ⟨blk', h8⟩ := s.live k' h5 (by rw [h6]; simp)
    have := hr.inj k k' blk blk' l l' b h2 (hsub _ _ h8) h3 h6 h4 h7
    subst this
    exact h5 h1
  have hcase : ∀ k x, look (h ++ H) k = some x → look h k = some x ∨ (look h k = none ∧ look H k = some x) := by
    intro k x hk
    rw [look_append] at hk
    cases hh : look h k with
    | none => rw [hh] at hk; exact .inr ⟨rfl, by simpa using hk⟩
    | some y => rw [hh] at hk; exact .inl (by simpa using hk)
  refine ⟨fun k blk hk => ?_, ?_, fun k l b hk hb => ?_, fun e he => ⟨(s.stl e.1 (hr.gl e he).1).1, fun j v hj => by rw [s.stl.cell (hr.gl e he).1]; exact (hr.gl e he).2 j v hj⟩⟩
  · rcases hcase k _ hk with hk | ⟨hn, hk⟩
    · exact s.rel k blk hk
    · obtain ⟨l, h1, h2⟩ := hr.rel k blk hk
      exact ⟨l, s.ext _ _ h1, Blk.rel_mono s.stl s.ext (fun b hb => s.keep b (hr.lt k l b h1 hb) fun k' l' h5 h6 => hlive k k' blk l l' b hn hk h1 hb h5 h6) h2⟩
  · have key : ∀ k k' blk blk' l l' b, look h k = some (some blk) → look h k' = none → look H k' = some (some blk') → ρ' k = some l → ρ' k' = some l' → l.bl = some b → l'.bl = some b → False := by
      intro k k' blk blk' l l' b h1 h2 h3 h4 h5 h6 h7
      obtain ⟨l2, h8, -⟩ := hr.rel k' blk' h3
      obtain rfl : l2 = l' := Option.some.inj ((s.ext _ _ h8).symm.trans h5)
      rcases s.new k l h4 with h9 | ⟨-, -, h9⟩
      · exact hlive k' k blk' l2 l b h2 h3 h8 h7 (by rw [h1]; simp) h9 h6
      · rcases h9 b h6 with h9 | ⟨k0, l0, h10, h11, h12⟩
        · have := hr.lt k' l2 b h8 h7; omega
        · exact hlive k' k0 blk' l2 l0 b h2 h3 h8 h7 (by rw [h10]; simp) h11 h12
    intro k k' blk blk' l l' b h1 h2 h3 h4 h5 h6
    rcases hcase k _ h1 with h1 | ⟨hn1, h1⟩
    · rcases hcase k' _ h2 with h2 | ⟨hn2, h2⟩
      · exact s.injh k k' blk blk' l l' b h1 h2 h3 h4 h5 h6
      · exact (key k k' blk blk' l l' b h1 hn2 h2 h3 h4 h5 h6).elim
    · rcases hcase k' _ h2 with h2 | ⟨hn2, h2⟩
      · exact (key k' k blk' blk l' l b h2 hn1 h1 h4 h3 h6 h5).elim
      · obtain ⟨l2, h7, -⟩ := hr.rel k blk h1
        obtain ⟨l3, h8, -⟩ := hr.rel k' blk' h2
        obtain rfl : l2 = l := Option.some.inj ((s.ext _ _ h7).symm.trans h3)
        obtain rfl : l3 = l' := Option.some.inj ((s.ext _ _ h8).symm.trans h4)
        exact hr.inj k k' blk blk' l2 l3 b h1 h2 h7 h8 h5 h6
  · rcases s.new k l hk with h1 | ⟨-, -, h1⟩
    · exact Nat.lt_of_lt_of_le (hr.lt k l b h1 hb) s.size
    · rcases h1 b hb with h1 | ⟨k0, l0, -, h2, h3⟩
      · exact h1.2
      · exact Nat.lt_of_lt_of_le (hr.lt k0 l0 b h2 h3) s.size

structure Cx where
  P : Program
  B : Nat → Prop
  w0 : World
  ρ0 : Lc
  ks : List Nat
  nt : Nat
def SR (B : Nat → Prop) (sl : List (Nat × V)) (ρ : Lc) (a : Act) (w : World) : Prop := ∀ t u, look sl t = some u → ∃ v, a.tmps[t]? = some v ∧ RV w (okb B w ρ) ρ u v
structure Kp0 (w0 : World) (ρ0 : Lc) (w : World) : Prop where
  os : w.os = w0.os
  tape : w.tape = w0.tape
  output : w.output = w0.output
  size : w0.heap.size ≤ w.heap.size
  block : ∀ b, b < w0.heap.size → (∀ k l, ρ0 k = some l → l.bl ≠ some b) → w.heap[b]? = w0.heap[b]?
structure RelP (Γ : Cx) (st : St) (ρ : Lc) (a : Act) (w : World) : Prop where
  defers : a.defers = []
  size : a.tmps.size = Γ.nt
  kp : Kp0 Γ.w0 Γ.ρ0 w
  ext0 : Ext Γ.ρ0 ρ
  own : ∀ k l b, ρ k = some l → l.bl = some b → Γ.ρ0 k = some l ∨ Γ.w0.heap.size ≤ b ∨ ∃ k0 l0, look st.hp k0 = some none ∧ Γ.ρ0 k0 = some l0 ∧ l0.bl = some b
  dom : ∀ k l, ρ k = some l → look st.hp k ≠ none
  dom0 : ∀ k l, Γ.ρ0 k = some l → k ∈ Γ.ks
  bup : ∀ b, Γ.w0.heap.size ≤ b → Γ.B b
  hr : HR Γ.B st.hp ρ w
  sr : SR Γ.B st.sl ρ a w
def Rel (Γ : Cx) (st : St) (a : Act) (w : World) : Prop := ∃ ρ, RelP Γ st ρ a w

theorem look_ne_append {h H : Hp} {k : Nat} (hk : look H k ≠ none ∨ look h k ≠ none) : look (h ++ H) k ≠ none := by
  rw [look_append]
  cases e : look h k with
  | none => rw [e] at hk; simpa using hk
  | some y => simp
theorem RelP.step {Γ : Cx} {st : St} {H0 h : Hp} {ρ ρ' : Lc} {a : Act} {w w' : World} {d : Option Tmp} {u : V} {v : Value} (hr : RelP Γ st ρ a w) (hsub : Sub H0 st.hp) (s : Step Γ.B H0 h ρ ρ' w w') (hu : RV w' (okb Γ.B w' ρ') ρ' u v)
    (hd : ∀ t, d = some t → t < Γ.nt) : RelP Γ ⟨(match d with | some t => (t, u) :: st.sl | none => st.sl), h ++ st.hp⟩ ρ' (a.put d v) w' := by
  have hsl : ∀ t x, look st.sl t = some x → ∃ v', a.tmps[t]? = some v' ∧ RV w' (okb Γ.B w' ρ') ρ' x v' := fun t x hx => by
    obtain ⟨v', h1, h2⟩ := hr.sr t x hx
    exact ⟨v', h1, h2.mono s.stl s.ext⟩
  have tomb : ∀ k0 l0, look st.hp k0 = some none → ρ k0 = some l0 → look (h ++ st.hp) k0 = some none := fun k0 l0 h1 h2 => by
    rw [look_append]
    cases e : look h k0 with
    | none => simpa using h1
    | some y =>
      obtain ⟨blk, h3⟩ := s.live k0 (by rw [e]; simp) (by rw [h2]; simp)
      rw [hsub _ _ h3] at h1; cases h1
  have ownst : ∀ k l b, ρ k = some l → l.bl = some b → Γ.ρ0 k = some l ∨ Γ.w0.heap.size ≤ b ∨ ∃ k0 l0, look (h ++ st.hp) k0 = some none ∧ Γ.ρ0 k0 = some l0 ∧ l0.bl = some b := fun k l b h1 h2 => by
    rcases hr.own k l b h1 h2 with h3 | h3 | ⟨k0, l0, h3, h4, h5⟩
    · exact .inl h3
    · exact .inr (.inl h3)
    · exact .inr (.inr ⟨k0, l0, tomb k0 l0 h3 (hr.ext0 _ _ h4), h4, h5⟩)
  refine ⟨?_, ?_, ⟨s.os.trans hr.kp.os, s.tape.trans hr.kp.tape, s.output.trans hr.kp.output, Nat.le_trans hr.kp.size s.size, fun b hb hx => ?_⟩, fun k l hk => s.ext _ _ (hr.ext0 _ _ hk), fun k l b hk hb => ?_, fun k l hk => ?_, hr.dom0, hr.bup, hr.hr.step hsub s, ?_⟩
  · cases d <;> exact hr.defers
  · cases d <;> simp [Act.put, hr.size]
  · rw [s.keep b (Nat.lt_of_lt_of_le hb hr.kp.size) fun k l _ hl e => ?_]
    · exact hr.kp.block b hb hx
    · rcases hr.own k l b hl e with h1 | h1 | ⟨k0, l0, -, h1, h2⟩
      · exact hx k l h1 e
      · omega
      · exact hx k0 l0 h1 h2
  · rcases s.new k l hk with h1 | ⟨-, -, h1⟩
    · exact ownst k l b h1 hb
    · rcases h1 b hb with h1 | ⟨k0, l0, h2, h3, h4⟩
      · exact .inr (.inl (Nat.le_trans hr.kp.size h1.1))
      · rcases ownst k0 l0 b h3 h4 with h5 | h5 | h5
        · exact .inr (.inr ⟨k0, l0, by rw [look_append, h2]; rfl, h5, h4⟩)
        · exact .inr (.inl h5)
        · exact .inr (.inr h5)
  · rcases s.new k l hk with h1 | ⟨-, h1, -⟩
    · exact look_ne_append (.inl (hr.dom k l h1))
    · exact look_ne_append (.inr h1)
  · cases d with
    | none => exact hsl
    | some t0 =>
      intro t x hx
      simp only [look_cons] at hx
      have ht0 : t0 < a.tmps.size := by rw [hr.size]; exact hd t0 rfl
      by_cases e : t0 = t
      · subst e
        rw [if_pos rfl] at hx
        obtain rfl := Option.some.inj hx
        exact ⟨v, by simp [Act.put, ht0], hu⟩
      · rw [if_neg e] at hx
        obtain ⟨v', h1, h2⟩ := hsl t x hx
        exact ⟨v', by simp only [Act.put]; rw [Array.getElem?_setIfInBounds_ne e]; exact h1, h2⟩
theorem Step.same {B : Nat → Prop} (H : Hp) (ρ : Lc) {w w' : World} (h : w'.heap = w.heap) (h1 : w'.os = w.os) (h2 : w'.tape = w.tape) (h3 : w'.output = w.output) : Step B H [] ρ ρ w w' :=
  ⟨h1, h2, h3, by rw [h]; exact Nat.le_refl _, fun _ _ h => h, fun k l h => .inl h, fun b _ _ => by rw [h], fun k hk => by simp [look] at hk, fun k blk hk => by simp [look] at hk, fun k k' blk blk' l l' b hk => by simp [look] at hk⟩
theorem Step.refl {B : Nat → Prop} (H : Hp) (ρ : Lc) (w : World) : Step B H [] ρ ρ w w := Step.same H ρ rfl rfl rfl rfl
end Go.Proofs.YtlbnhhfaedhgfaaDoor
namespace Go.Proofs.YtlbnhhfaedhgfaaDoor
set_option linter.unusedSimpArgs false
set_option linter.unusedVariables false
open Go.RowKit

structure OB where
  b : Nat
  T : TypeId
  c : List Value
structure Win where
  b : Nat
  o : Nat
  vs : List Value

structure Fr where
  X : List Nat
  J : World → Prop
def nof : Fr := ⟨[], fun _ => True⟩

structure Rep (w0 : World) (X : Fr) (R : List Win) (S : List OB) (w : World) : Prop where
  kp : Kp X.X w0 w
  own : ∀ e ∈ S, w.heap[e.b]? = some (.cells e.c.toArray e.T (0, 0))
  ne : S.Pairwise fun x y => x.b ≠ y.b
  new : ∀ e ∈ S, w0.heap.size ≤ e.b
  win : ∀ r ∈ R, r.b < w0.heap.size ∧ r.b ∉ X.X ∧ ∀ j v, r.vs[j]? = some v → w0.cell? ⟨r.b, r.o + j, none⟩ = some v
  j : X.J w
  js : ∀ w w' : World, X.J w → (∀ k, k < w0.heap.size → w'.heap[k]? = w.heap[k]?) → X.J w'
  xl : ∀ x ∈ X.X, x < w0.heap.size

theorem Rep.refl (w : World) : Rep w nof [] [] w := ⟨Kp.refl _ _, by simp, .nil, by simp, by simp, trivial, fun _ _ _ _ => trivial, by simp [nof]⟩
theorem Rep.kp_nof {w0 w : World} {R : List Win} {S : List OB} (h : Rep w0 nof R S w) : Kp [] w0 w := h.kp
theorem Rep.lt {w0 w : World} {X : Fr} {R : List Win} {S : List OB} (h : Rep w0 X R S w) {e : OB} (he : e ∈ S) : e.b < w.heap.size := (Array.getElem?_eq_some_iff.1 (h.own e he)).1
theorem Rep.kp0 {w0 w w' : World} {X : Fr} {R : List Win} {S : List OB} (h : Rep w0 X R S w) (hk : Kp [] w w') : Rep w0 X R S w' := by
  refine ⟨⟨hk.os.trans h.kp.os, hk.tape.trans h.kp.tape, hk.output.trans h.kp.output, Nat.le_trans h.kp.size hk.size, fun i hi hx => ?_⟩, fun e he => (hk.block e.b (h.lt he) (by simp)).trans (h.own e he), h.ne, h.new, h.win, ?_, h.js, h.xl⟩
  · exact (hk.block i (Nat.lt_of_lt_of_le hi h.kp.size) (by simp)).trans (h.kp.block i hi hx)
  · exact h.js w w' h.j fun k hk' => hk.block k (Nat.lt_of_lt_of_le hk' h.kp.size) (by simp)
theorem Rep.sub {w0 w : World} {X : Fr} {R R' : List Win} {S S' : List OB} (h : Rep w0 X R S w) (hs : S'.Sublist S) (hr : R'.Sublist R := by exact List.Sublist.refl _) : Rep w0 X R' S' w :=
  ⟨h.kp, fun e he => h.own e (hs.subset he), h.ne.sublist hs, fun e he => h.new e (hs.subset he), fun r hr' => h.win r (hr.subset hr'), h.j, h.js, h.xl⟩
theorem Rep.addwin {w0 w : World} {X : Fr} {R : List Win} {S : List OB} (h : Rep w0 X R S w) (b o : Nat) (vs : List Value) (hb : b < w0.heap.size) (hx : b ∉ X.X) (hv : ∀ j v, vs[j]? = some v → w0.cell? ⟨b, o + j, none⟩ = some v) :
    Rep w0 X (⟨b, o, vs⟩ :: R) S w :=
  ⟨h.kp, h.own, h.ne, h.new, fun r hr => by rcases List.mem_cons.1 hr with rfl | hr; · exact ⟨hb, hx, hv⟩
                                            · exact h.win r hr, h.j, h.js, h.xl⟩

theorem Rep.push {w0 w w' : World} {X : Fr} {R : List Win} {S : List OB} (h : Rep w0 X R S w) (hk : Kp [] w w') {B : Nat} {T : TypeId} {c : List Value} (hB : w.heap.size ≤ B) (hb : w'.heap[B]? = some (.cells c.toArray T (0, 0))) :
    Rep w0 X R (⟨B, T, c⟩ :: S) w' := by
  have h' := h.kp0 hk
  refine ⟨h'.kp, fun e he => ?_, List.pairwise_cons.2 ⟨fun e he => ?_, h.ne⟩, fun e he => ?_, h.win, h'.j, h.js, h.xl⟩
  · rcases List.mem_cons.1 he with rfl | he
    · exact hb
    · exact h'.own e he
  · have := h.lt he; simp only; omega
  · rcases List.mem_cons.1 he with rfl | he
    · exact Nat.le_trans h.kp.size hB
    · exact h.new e he
theorem Rep.alloc {w0 w : World} {X : Fr} {R : List Win} {S : List OB} (h : Rep w0 X R S w) (T : TypeId) (c : Array Value) : Rep w0 X R (⟨w.heap.size, T, c.toList⟩ :: S) (w.alloc (.cells c T)) :=
  h.push ((Kp.refl _ _).alloc _) (Nat.le_refl _) (by simpa using heap_alloc_new w _)

inductive At : List OB → Nat → TypeId → List Value → Prop
  | here {b : Nat} {T : TypeId} {c : List Value} {S : List OB} : At (⟨b, T, c⟩ :: S) b T c
  | there {x : OB} {S : List OB} {b : Nat} {T : TypeId} {c : List Value} : At S b T c → At (x :: S) b T c
inductive To : List OB → Nat → TypeId → List Value → List Value → List OB → Prop
  | here {b : Nat} {T : TypeId} {c c' : List Value} {S : List OB} : To (⟨b, T, c⟩ :: S) b T c c' (⟨b, T, c'⟩ :: S)
  | there {x : OB} {S S' : List OB} {b : Nat} {T : TypeId} {c c' : List Value} : To S b T c c' S' → To (x :: S) b T c c' (x :: S')
theorem At.mem {S : List OB} {b : Nat} {T : TypeId} {c : List Value} (h : At S b T c) : (⟨b, T, c⟩ : OB) ∈ S := by
  induction h with
  | here => exact List.mem_cons_self
  | there _ ih => exact List.mem_cons_of_mem _ ih
theorem To.at {S S' : List OB} {b : Nat} {T : TypeId} {c c' : List Value} (h : To S b T c c' S') : At S b T c := by
  induction h with
  | here => exact .here
  | there _ ih => exact .there ih
theorem To.mem {S S' : List OB} {b : Nat} {T : TypeId} {c c' : List Value} (h : To S b T c c' S') : ∀ e ∈ S', e = ⟨b, T, c'⟩ ∨ (e ∈ S) := by
  induction h with
  | here =>
    intro e he
    rcases List.mem_cons.1 he with rfl | he
    · exact .inl rfl
    · exact .inr (List.mem_cons_of_mem _ he)
  | there _ ih =>
    intro e he
    rcases List.mem_cons.1 he with rfl | he
    · exact .inr List.mem_cons_self
    · rcases ih e he with h1 | h1
      · exact .inl h1
      · exact .inr (List.mem_cons_of_mem _ h1)
theorem To.blocks {S S' : List OB} {b : Nat} {T : TypeId} {c c' : List Value} (h : To S b T c c' S') : S'.map (·.b) = S.map (·.b) := by
  induction h with
  | here => rfl
  | there _ ih => simp [ih]
theorem To.other {S S' : List OB} {b : Nat} {T : TypeId} {c c' : List Value} (h : To S b T c c' S') (_ : (S.map (·.b)).Pairwise (· ≠ ·)) : ∀ e ∈ S', e.b ≠ b → e ∈ S := by
  intro e he hb
  rcases h.mem e he with rfl | h1
  · exact absurd rfl hb
  · exact h1
theorem To.self {S S' : List OB} {b : Nat} {T : TypeId} {c c' : List Value} (h : To S b T c c' S') (hne : S.Pairwise fun x y => x.b ≠ y.b) : ∀ e ∈ S', e.b = b → e = ⟨b, T, c'⟩ := by
  induction h with
  | here =>
    intro e he hb
    rcases List.mem_cons.1 he with rfl | he
    · rfl
    · exact absurd hb.symm ((List.pairwise_cons.1 hne).1 e he)
  | there h0 ih =>
    intro e he hb
    rcases List.mem_cons.1 he with rfl | he
    · have := (List.pairwise_cons.1 hne).1 _ h0.at.mem
      exact absurd hb this
    · exact ih (List.pairwise_cons.1 hne).2 e he hb

class UpI (S : List OB) (b : Nat) (T : outParam TypeId) (c : outParam (List Value)) (F : outParam (List Value → List OB)) : Prop where
  out : ∀ c', To S b T c c' (F c')
instance (priority := low) UpI.there {x : OB} {S : List OB} {b : Nat} {T : TypeId} {c : List Value} {F : List Value → List OB} [h : UpI S b T c F] : UpI (x :: S) b T c (fun c' => x :: F c') := ⟨fun c' => .there (h.out c')⟩
instance UpI.here {b : Nat} {T : TypeId} {c : List Value} {S : List OB} : UpI (⟨b, T, c⟩ :: S) b T c (fun c' => ⟨b, T, c'⟩ :: S) := ⟨fun _ => .here⟩
theorem UpI.at {S : List OB} {b : Nat} {T : TypeId} {c : List Value} {F : List Value → List OB} [h : UpI S b T c F] : At S b T c := (h.out c).at
theorem Rep.store {w0 w : World} {X : Fr} {R : List Win} {S S' : List OB} {b : Nat} {T : TypeId} {c c' : List Value} (h : Rep w0 X R S w) (ht : To S b T c c' S') : Rep w0 X R S' (w.setRow b c'.toArray) := by
  have hm := ht.at.mem
  have hb := h.own _ hm
  have hnw := h.new _ hm
  simp only at hnw
  have hpw : (S.map (·.b)).Pairwise (· ≠ ·) := List.pairwise_map.2 h.ne
  refine ⟨⟨h.kp.os, h.kp.tape, h.kp.output, by simpa using h.kp.size, fun i hi hx => ?_⟩, fun e he => ?_, ?_, fun e he => ?_, h.win, ?_, h.js, h.xl⟩
  · rw [setRow_other w b i _ (by omega)]
    exact h.kp.block i hi hx
  · by_cases e1 : e.b = b
    · obtain rfl := ht.self h.ne e he e1
      exact setRow_heap w b _ _ _ _ hb
    · rw [setRow_other w b e.b _ e1]
      exact h.own e (ht.other hpw e he e1)
  · have : (S'.map (·.b)).Pairwise (· ≠ ·) := by rw [ht.blocks]; exact hpw
    exact List.pairwise_map.1 this
  · rcases ht.mem e he with rfl | h1
    · exact hnw
    · exact h.new e h1
  · exact h.js w _ h.j fun k hk => setRow_other w b k _ (by omega)

def WFacts (w : World) (b o : Nat) : Nat → List Value → Prop
  | _, [] => True
  | 0, v :: r => w.cell? ⟨b, o, none⟩ = some v ∧ WFacts w b o 1 r
  | j + 1, v :: r => w.cell? ⟨b, o + (j + 1), none⟩ = some v ∧ WFacts w b o (j + 2) r
def Facts (w : World) : List Win → List OB → Prop
  | [], [] => True
  | [], e :: S => (∀ i, w.cell? ⟨e.b, i, none⟩ = e.c[i]?) ∧ Facts w [] S
  | r :: R, S => WFacts w r.b r.o 0 r.vs ∧ Facts w R S
theorem facts_app {w : World} : ∀ (l S : List OB), Facts w [] (l ++ S) = (Facts w [] l ∧ Facts w [] S)
  | [], S => by simp [Facts]
  | e :: l, S => by simp only [List.cons_append, Facts]; rw [facts_app l S, and_assoc]
theorem wfacts {w : World} {b o : Nat} : ∀ (vs : List Value) (j : Nat), (∀ i v, vs[i]? = some v → w.cell? ⟨b, o + (j + i), none⟩ = some v) → WFacts w b o j vs
  | [], _, _ => by unfold WFacts; trivial
  | v :: r, 0, h => ⟨by simpa using h 0 v rfl, wfacts r 1 fun i u hu => by have := h (i + 1) u (by simpa using hu); rwa [show 0 + (i + 1) = 1 + i by omega] at this⟩
  | v :: r, j + 1, h => ⟨by simpa using h 0 v rfl, wfacts r (j + 2) fun i u hu => by have := h (i + 1) u (by simpa using hu); rwa [show j + 1 + (i + 1) = j + 2 + i by omega] at this⟩
theorem Rep.cells {w0 w : World} {X : Fr} {R : List Win} {S : List OB} (h : Rep w0 X R S w) {e : OB} (he : e ∈ S) : ∀ i, w.cell? ⟨e.b, i, none⟩ = e.c[i]? := fun i => by
  simp [World.cell?, h.own e he]
theorem Rep.facts {w0 w : World} {X : Fr} : ∀ {R : List Win} {S : List OB}, Rep w0 X R S w → Facts w R S
  | [], [], _ => by unfold Facts; trivial
  | [], e :: S, h => by unfold Facts; exact ⟨h.cells List.mem_cons_self, (h.sub (List.sublist_cons_self _ _)).facts⟩
  | r :: R, S, h => by
      unfold Facts
      refine ⟨?_, (h.sub (List.Sublist.refl _) (List.sublist_cons_self _ _)).facts⟩
      obtain ⟨h1, h2, h3⟩ := h.win r List.mem_cons_self
      exact wfacts _ 0 fun i v hv => by rw [Nat.zero_add, h.kp.cell (p := ⟨r.b, r.o + i, none⟩) h1 h2]; exact h3 i v hv

theorem Rep.fx {w0 w : World} {X : Fr} {R : List Win} {S : List OB} {F : Prop} (hR : Rep w0 X R S w) (h : Facts w R S = F := by (try simp only [Facts, WFacts, facts_app, and_true, Nat.reduceAdd, Nat.zero_add]); exact rfl) : F := h ▸ hR.facts
class Ty (P : Program) (T : TypeId) (n : outParam Nat) (ag : outParam Bool) : Prop where
  size : (P.info? T).map (·.size) = some n
  agg : (P.underlying T).map (fun | .struct _ | .array _ _ => true | _ => false) = some ag
def ldV : Bool → Nat → Nat → List Value → Value
  | true, n, o, c => .agg ((c.drop o).take n).toArray
  | false, _, o, c => c.getD o undef
def stL : Nat → List Value → List Value → List Value
  | _, [], c => c
  | 0, v :: vs, _ :: c => v :: stL 0 vs c
  | _, _ :: _, [] => []
  | o + 1, v :: vs, x :: c => x :: stL o (v :: vs) c
theorem stL_eq : ∀ (o : Nat) (vs c : List Value), o + vs.length ≤ c.length → stL o vs c = c.take o ++ vs ++ c.drop (o + vs.length)
  | _, [], c, _ => by simp [stL]
  | 0, v :: vs, [], h => by simp at h
  | 0, v :: vs, x :: c, h => by
    rw [stL, stL_eq 0 vs c (by simp at h ⊢; omega)]; simp
  | o + 1, v :: vs, [], h => by simp at h
  | o + 1, v :: vs, x :: c, h => by
    rw [stL, stL_eq o (v :: vs) c (by simp at h ⊢; omega)]
    simp [show o + 1 + (vs.length + 1) = o + (vs.length + 1) + 1 by omega]

section
variable {P : Program} {ops : Array Oper} {Q : Exit → Act → World → Prop} {a a' : Act} {w w0 : World} {rest : List Oper} {o : Oper} {X : Fr} {R : List Win} {S S' : List OB} {T T' : TypeId} {x y : Operand} {b off n : Nat} {c : List Value} {ag : Bool}

theorem run_size (h : Ty P T n ag) : (sizeOf T).run P w = .ok n w := by
  have := h.size
  cases hi : P.info? T with
  | none => simp [hi] at this
  | some i => simp [hi] at this; simp [sizeOf, typeInfo, hi, this]
theorem run_agg (h : Ty P T n ag) : (isAgg T).run P w = .ok ag w := by
  have := h.agg
  cases hi : P.underlying T with
  | none => simp [hi] at this
  | some d =>
    rw [hi] at this
    unfold isAgg
    rw [Sem.run_bind, run_underlying hi w]
    cases d <;> simp_all
theorem addr_add (b o i : Nat) : (⟨b, o, none⟩ : Addr).add i = ⟨b, o + i, none⟩ := by unfold Addr.add; split <;> simp_all

theorem run_ld (hT : Ty P T n ag) (hc : ∀ i, w.cell? ⟨b, i, none⟩ = c[i]?) (hl : off + n ≤ c.length) (h1 : ag = false → n = 1) : (loadVar T ⟨b, off, none⟩).run P w = .ok (ldV ag n off c) w := by
  unfold loadVar
  rw [Sem.run_bind, run_agg hT]
  cases ag with
  | true =>
    have := run_loadCells_list (P := P) w ⟨b, off, none⟩ ((c.drop off).take n) fun j v hv => by
      rw [addr_add, hc]
      rw [List.getElem?_take] at hv
      split at hv
      · simpa using hv
      · cases hv
    rw [List.length_take, List.length_drop, Nat.min_eq_left (by omega)] at this
    simp [run_size hT, this, ldV]
  | false =>
    have h := hc off
    rw [List.getElem?_eq_getElem (by have := h1 rfl; omega)] at h
    simp [ldV, load, Sem.run, h, List.getD, List.getElem?_eq_getElem (show off < c.length by have := h1 rfl; omega)]

theorem wpList_ld (hR : Rep w0 X R S w) (hop : o.op = .load T x) (hg : o.guard = none) (hx : a.eval x = .pointer (some ⟨b, off, none⟩)) (hA : At S b T' c) (hT : Ty P T n ag)
    (hl : (decide (off + n ≤ c.length) && (ag || n == 1)) = true) (ha : a.put o.dst (ldV ag n off c) = a') (h : wpList P ops Q rest a' w) : wpList P ops Q (o :: rest) a w := by
  simp only [Bool.and_eq_true, decide_eq_true_eq, Bool.or_eq_true, beq_iff_eq] at hl
  have hr := run_ld (w := w) hT (hR.cells hA.mem) hl.1 (fun e => hl.2.resolve_left (by simp [e]))
  refine BigFrame.wpList_want (by simp [Region.wanted, hg]) fun K hK => ?_
  unfold Oper.wp execOp
  rw [hop]
  simp only [hx, Instr.loadAt, Instr.sureAddr, Sem.run_bind, Sem.run_pure, Result.andThen_ok, hr, Oper.upon]
  subst ha
  exact hK _ _ h

theorem run_st (hT : Ty P T n ag) (hR : Rep w0 X R S w) {v : Value} {vs c' : List Value} (hv : v.cells = vs.toArray) (hc : stL off vs c = c') (ht : To S b T' c c' S') (hl : off + n ≤ c.length) (hn : vs.length = n) (h1 : vs.all Value.oneCell' = true) :
    (storeVar T ⟨b, off, none⟩ v).run P w = .ok () (w.setRow b c'.toArray) := by
  subst hc
  have hs := run_storeCells_at P b off T' vs 0 c.toArray w (hR.own _ ht.at.mem) (by simp; omega) (List.all_eq_true.1 h1)
  simp only [Nat.add_zero] at hs
  unfold storeVar
  rw [Sem.run_bind, run_size hT]
  simp only [Result.andThen_ok, hv, List.size_toArray, hn, ne_eq, not_true, if_false]
  rw [stL_eq _ _ _ (by omega)]
  simpa using hs

theorem wpList_st (hR : Rep w0 X R S w) {vs c' : List Value} (hop : o.op = .store T x y) (hd : o.dst = none) (hg : o.guard = none) (hx : a.eval x = .pointer (some ⟨b, off, none⟩)) (hv : (a.eval y).cells = vs.toArray) (hA : At S b T' c) (hT : Ty P T n ag) (hc : stL off vs c = c') (ht : To S b T' c c' S')
    (hl : (decide (off + n ≤ c.length) && (vs.length == n) && vs.all Value.oneCell') = true) (h : ∀ w', Rep w0 X R S' w' → wpList P ops Q rest a w') : wpList P ops Q (o :: rest) a w := by
  clear hA
  simp only [Bool.and_eq_true, decide_eq_true_eq, beq_iff_eq] at hl
  have hr := run_st (P := P) hT hR hv hc ht hl.1.1 hl.1.2 hl.2
  refine BigFrame.wpList_want (by simp [Region.wanted, hg]) fun K hK => ?_
  unfold Oper.wp execOp
  rw [hop]
  simp only [hx, Instr.storeAt, Instr.sureAddr, Sem.run_bind, Sem.run_pure, Result.andThen_ok, hr]
  simp only [Oper.upon, hd, Act.put]
  exact hK _ _ (h _ (hR.store ht))

theorem wpList_box (hR : Rep w0 X R S w) {d : Tmp} {l : List Value} (hop : o.op = .box T x) (hd : o.dst = some d) (hg : o.guard = none) (hv : (a.eval x).cells = l.toArray)
    (h : ∀ w' B, Rep w0 X R (⟨B, T, l⟩ :: S) w' → ∃ a', a.put (some d) (.pointer (some ⟨B, 0, none⟩)) = a' ∧ wpList P ops Q rest a' w') : wpList P ops Q (o :: rest) a w := by
  refine BigFrame.wpList_want (by simp [Region.wanted, hg]) fun K hK => ?_
  unfold Oper.wp execOp
  rw [hop]
  simp only [Instr.box, newVar, newRow, newObj, hv, Sem.run_bind, Sem.run, Sem.run_pure, Result.andThen_ok, Oper.upon, hd]
  obtain ⟨a', e, h'⟩ := h _ w.heap.size (by simpa using hR.alloc T l.toArray)
  rw [e]
  exact hK _ _ h'

def ZeroIs (P : Program) (T : TypeId) (z : List Value) : Prop := (P.info? T).bind (fun i => i.zero.map fun v => v.cells.toList) = some z
class ZeroI (P : Program) (T : TypeId) (z : outParam (List Value)) : Prop where
  out : ZeroIs P T z
theorem wpList_alloc (hR : Rep w0 X R S w) {d : Tmp} {l : List Value} (hop : o.op = .alloc T) (hd : o.dst = some d) (hg : o.guard = none) (hz : ZeroIs P T l)
    (h : ∀ w' B, Rep w0 X R (⟨B, T, l⟩ :: S) w' → ∃ a', a.put (some d) (.pointer (some ⟨B, 0, none⟩)) = a' ∧ wpList P ops Q rest a' w') : wpList P ops Q (o :: rest) a w := by
  unfold ZeroIs at hz
  cases hi : P.info? T with
  | none => simp [hi] at hz
  | some i =>
    cases hzv : i.zero with
    | none => simp [hi, hzv] at hz
    | some z =>
      simp [hi, hzv] at hz
      refine BigFrame.wpList_want (by simp [Region.wanted, hg]) fun K hK => ?_
      unfold Oper.wp execOp
      rw [hop]
      simp only [Instr.alloc, zeroValue, typeInfo, program, hi, hzv, newVar, newRow, newObj, Sem.run_bind, Sem.run, Sem.run_pure, Result.andThen_ok, Oper.upon, hd]
      subst hz
      obtain ⟨a', e, h'⟩ := h _ w.heap.size (hR.alloc T z.cells)
      rw [e]
      exact hK _ _ h'

theorem ret_cell {fn : Func} {RR : Ending → World → Prop} {t : Tmp} {tmps : Array Value} (hR : Rep w0 X R S w) (hres : fn.results = #[.cell t T]) (ht : tmps.getD t undef = .pointer (some ⟨b, 0, none⟩)) (hA : At S b T' c) (hT : Ty P T n true) (hl : c.length = n)
    (h : RR (.returned (.agg c.toArray)) w) : bodyPost P fn RR .ret ⟨tmps, []⟩ w := by
  refine bodyPost_ret (v := .agg c.toArray) ?_ rfl h
  have hld := run_ld (off := 0) hT (hR.cells hA.mem) (by simp only [Nat.zero_add]; omega) (by simp)
  simp only [ldV, List.drop_zero, ← hl, List.take_length] at hld
  simp only [Array.getD_eq_getD_getElem?] at ht
  simp [results, hres, ht, asAddr, hld]
end
end Go.Proofs.YtlbnhhfaedhgfaaDoor
namespace Go.Proofs.YtlbnhhfaedhgfaaDoor
set_option linter.unusedSimpArgs false
set_option linter.unusedVariables false
open Go.RowKit

structure Rd (w : World) (z : Nat) (v : Value) (n : Nat) (xs : List Value) : Prop where
  len : xs.length = n * z
  ex : ∃ p c, v = .slice p n c ∧ n ≤ c ∧ (n = 0 ∨ ∃ b o : Nat, p = some ⟨b, o, none⟩ ∧ b < w.heap.size ∧ ∀ j u, xs[j]? = some u → w.cell? ⟨b, o + j, none⟩ = some u)

def OS (sl : List OB) (E : TypeId) (z : Nat) (v : Value) (n : Nat) (xs : List Value) : Prop :=
  xs.length = n * z ∧ ((sl = [] ∧ v = .slice none 0 0 ∧ n = 0) ∨ ∃ g cap sp, sl = [⟨g, E, xs ++ sp⟩] ∧ v = .slice (some ⟨g, 0, none⟩) n cap ∧ n ≤ cap ∧ cap ≤ maxLen ∧ (xs ++ sp).length = cap * z)
theorem OS.nil (E : TypeId) (z : Nat) : OS [] E z (.slice none 0 0) 0 [] := ⟨by simp, .inl ⟨rfl, rfl, rfl⟩⟩
theorem OS.lit {E : TypeId} {z : Nat} (g n : Nat) (xs : List Value) (h : xs.length = n * z) (hn : n ≤ maxLen) : OS [⟨g, E, xs⟩] E z (.slice (some ⟨g, 0, none⟩) n n) n xs :=
  ⟨h, .inr ⟨g, n, [], by simp, rfl, Nat.le_refl _, hn, by simpa using h⟩⟩

inductive Ctx : List OB → List OB → List OB → List OB → Prop
  | here {sl post : List OB} : Ctx (sl ++ post) sl [] post
  | last {sl : List OB} : Ctx sl sl [] []
  | empty {S : List OB} : Ctx S [] [] S
  | one {e : OB} {post : List OB} : Ctx (e :: post) [e] [] post
  | there {x : OB} {S sl pre post : List OB} : Ctx S sl pre post → Ctx (x :: S) sl (x :: pre) post
  | skip {l S sl pre post : List OB} : Ctx S sl pre post → Ctx (l ++ S) sl (l ++ pre) post
theorem Ctx.eq {S sl pre post : List OB} (h : Ctx S sl pre post) : S = pre ++ (sl ++ post) := by
  induction h with
  | here => simp
  | last => simp
  | empty => simp
  | one => simp
  | there _ ih => simp [ih]
  | skip _ ih => simp [ih]
theorem At.skip {S l : List OB} {b : Nat} {T : TypeId} {c : List Value} (h : At S b T c) : At (l ++ S) b T c := by
  induction l with
  | nil => exact h
  | cons x l ih => exact .there ih
theorem To.skip {S S' l : List OB} {b : Nat} {T : TypeId} {c c' : List Value} (h : To S b T c c' S') : To (l ++ S) b T c c' (l ++ S') := by
  induction l with
  | nil => exact h
  | cons x l ih => exact .there ih
instance (priority := low) UpI.skip {l S : List OB} {b : Nat} {T : TypeId} {c : List Value} {F : List Value → List OB} [h : UpI S b T c F] : UpI (l ++ S) b T c (fun c' => l ++ F c') := ⟨fun c' => (h.out c').skip⟩
class CtxI (S sl : List OB) (pre post : outParam (List OB)) : Prop where
  out : Ctx S sl pre post
instance (priority := low) CtxI.skip {l S sl pre post : List OB} [h : CtxI S sl pre post] : CtxI (l ++ S) sl (l ++ pre) post := ⟨.skip h.out⟩
instance (priority := low) CtxI.there {x : OB} {S sl pre post : List OB} [h : CtxI S sl pre post] : CtxI (x :: S) sl (x :: pre) post := ⟨.there h.out⟩
instance CtxI.one {e : OB} {post : List OB} : CtxI (e :: post) [e] [] post := ⟨.one⟩
instance CtxI.last {sl : List OB} : CtxI sl sl [] [] := ⟨.last⟩
instance CtxI.here {sl post : List OB} : CtxI (sl ++ post) sl [] post := ⟨.here⟩
class SubI {α : Type} (S' S : List α) : Prop where
  out : S'.Sublist S
instance (priority := 10) SubI.drop {α : Type} {x : α} {S' S : List α} [h : SubI S' S] : SubI S' (x :: S) := ⟨.cons _ h.out⟩
instance (priority := 20) SubI.dropl {α : Type} {l S' S : List α} [h : SubI S' S] : SubI S' (l ++ S) := ⟨h.out.trans (List.sublist_append_right _ _)⟩
instance (priority := 30) SubI.keep {α : Type} {x : α} {S' S : List α} [h : SubI S' S] : SubI (x :: S') (x :: S) := ⟨.cons_cons _ h.out⟩
instance (priority := 30) SubI.keepl {α : Type} {l S' S : List α} [h : SubI S' S] : SubI (l ++ S') (l ++ S) := ⟨List.Sublist.append_left h.out l⟩
instance (priority := 40) SubI.head {α : Type} {l S : List α} : SubI l (l ++ S) := ⟨List.sublist_append_left _ _⟩
instance SubI.nil {α : Type} {S : List α} : SubI [] S := ⟨List.nil_sublist _⟩
instance SubI.refl {α : Type} {S : List α} : SubI S S := ⟨List.Sublist.refl _⟩
theorem sub_any {α : Type} {S' S : List α} (h : S'.Sublist S := by first | exact SubI.out | (repeat (first | exact List.Sublist.refl _ | exact List.nil_sublist _ | exact List.sublist_append_left _ _ | apply List.Sublist.cons_cons | apply List.Sublist.cons | (apply List.Sublist.append_right) | (apply List.sublist_append_of_sublist_right)))) : S'.Sublist S := h
theorem sub_ctx {S sl pre post : List OB} (h : Ctx S sl pre post) : sl.Sublist S := by
  rw [h.eq]
  exact (List.sublist_append_left _ _).trans (List.sublist_append_right _ _)

class Sl (P : Program) (t : TypeId) (E : outParam TypeId) (z bytes : outParam Nat) : Prop where
  un : P.underlying t = some (.slice E)
  el : ∃ i zv, P.info? E = some i ∧ i.zero = some zv ∧ i.size = z ∧ i.bytes = bytes ∧ zv.cells.size = z
theorem Sl.mk' {P : Program} {t E : TypeId} {z bytes : Nat} (h : P.underlying t = some (.slice E)) (h' : (P.info? E).bind (fun i => i.zero.map fun v => (v.cells.size, i.size, i.bytes)) = some (z, z, bytes)) : Sl P t E z bytes := by
  refine ⟨h, ?_⟩
  cases hi : P.info? E with
  | none => simp [hi] at h'
  | some i =>
    cases hz : i.zero with
    | none => simp [hi, hz] at h'
    | some zv => simp [hi, hz] at h'; exact ⟨i, zv, rfl, hz, h'.2.1, h'.2.2, h'.1⟩

theorem Rep.replace {w0 w w' : World} {X : Fr} {R : List Win} {S sl pre post : List OB} (h : Rep w0 X R S w) (hC : Ctx S sl pre post) {B : Nat} {T : TypeId} {c : List Value} (hK : ∀ k, k < w.heap.size → k ≠ B → w'.heap[k]? = w.heap[k]?)
    (h1 : w'.os = w.os) (h2 : w'.tape = w.tape) (h3 : w'.output = w.output) (h4 : w.heap.size ≤ w'.heap.size) (hB : w'.heap[B]? = some (.cells c.toArray T (0, 0))) (hn : (∃ e ∈ sl, e.b = B) ∨ w.heap.size ≤ B) : Rep w0 X R (pre ++ (⟨B, T, c⟩ :: post)) w' := by
  have e := hC.eq
  subst e
  have hne := h.ne
  have hx : ∀ x ∈ pre ++ post, x.b ≠ B := by
    intro x hx hxe
    have hx' : x ∈ pre ++ (sl ++ post) := by rcases List.mem_append.1 hx with h5 | h5 <;> simp [h5]
    rcases hn with ⟨y, hy, rfl⟩ | hn
    · rw [List.pairwise_append] at hne
      rcases List.mem_append.1 hx with h5 | h5
      · exact hne.2.2 x h5 y (by simp [hy]) hxe
      · exact (List.pairwise_append.1 hne.2.1).2.2 y hy x h5 hxe.symm
    · have := h.lt hx'; omega
  have hnew : w0.heap.size ≤ B := by
    rcases hn with ⟨y, hy, rfl⟩ | hn
    · exact h.new y (by simp [hy])
    · exact Nat.le_trans h.kp.size hn
  have hmem : ∀ e ∈ pre ++ (⟨B, T, c⟩ :: post), e = ⟨B, T, c⟩ ∨ e ∈ pre ++ post := by
    intro e he
    rcases List.mem_append.1 he with h5 | h5
    · exact .inr (by simp [h5])
    · rcases List.mem_cons.1 h5 with h5 | h5
      · exact .inl h5
      · exact .inr (by simp [h5])
  have hold : ∀ e ∈ pre ++ post, e ∈ pre ++ (sl ++ post) := by
    intro e he
    rcases List.mem_append.1 he with h5 | h5 <;> simp [h5]
  refine ⟨⟨h1.trans h.kp.os, h2.trans h.kp.tape, h3.trans h.kp.output, Nat.le_trans h.kp.size h4, fun i hi hX => ?_⟩, fun e he => ?_, ?_, fun e he => ?_, h.win, ?_, h.js, h.xl⟩
  · rw [hK i (Nat.lt_of_lt_of_le hi h.kp.size) (by omega)]
    exact h.kp.block i hi hX
  · rcases hmem e he with rfl | h5
    · exact hB
    · rw [hK e.b (h.lt (hold e h5)) (hx e h5)]; exact h.own e (hold e h5)
  · rw [List.pairwise_append] at hne ⊢
    refine ⟨hne.1, List.pairwise_cons.2 ⟨fun y hy => ?_, (List.pairwise_append.1 hne.2.1).2.1⟩, fun x hx' y hy => ?_⟩
    · exact fun e => hx y (by simp [hy]) e.symm
    · rcases List.mem_cons.1 hy with rfl | hy
      · exact hx x (by simp [hx'])
      · exact hne.2.2 x hx' y (by simp [hy])
  · rcases hmem e he with rfl | h5
    · exact hnew
    · exact h.new e (hold e h5)
  · exact h.js w w' h.j fun k hk => hK k (Nat.lt_of_lt_of_le hk h.kp.size) (by omega)

theorem Rd.kp {w w' : World} {z n : Nat} {v : Value} {xs : List Value} (h : Rd w z v n xs) (hk : Kp [] w w') : Rd w' z v n xs := by
  obtain ⟨p, c, rfl, h1, h2⟩ := h.ex
  refine ⟨h.len, p, c, rfl, h1, ?_⟩
  rcases h2 with h2 | ⟨b, o, rfl, hb, hc⟩
  · exact .inl h2
  · exact .inr ⟨b, o, rfl, Nat.lt_of_lt_of_le hb hk.size, fun j u hj => by rw [hk.cell (p := ⟨b, o + j, none⟩) hb (by simp)]; exact hc j u hj⟩
theorem OS.rd {w0 w : World} {X : Fr} {R : List Win} {S sl : List OB} {E : TypeId} {z n : Nat} {v : Value} {xs : List Value} (h : OS sl E z v n xs) (hR : Rep w0 X R S w) (hs : ∀ e ∈ sl, e ∈ S) : Rd w z v n xs := by
  refine ⟨h.1, ?_⟩
  rcases h.2 with ⟨-, rfl, rfl⟩ | ⟨g, cap, sp, rfl, rfl, h2, h3, h4⟩
  · exact ⟨none, 0, rfl, Nat.le_refl _, .inl rfl⟩
  · have hm := hs _ List.mem_cons_self
    refine ⟨_, cap, rfl, h2, .inr ⟨g, 0, rfl, hR.lt hm, fun j u hj => ?_⟩⟩
    rw [Nat.zero_add, hR.cells hm]
    simp only
    rw [List.getElem?_append_left (List.getElem?_eq_some_iff.1 hj).1]; exact hj
structure Rw (w : World) (X : Fr) (z : Nat) (v : Value) (n : Nat) (xs : List Value) : Prop where
  len : xs.length = n * z
  ex : ∃ p c, v = .slice p n c ∧ n ≤ c ∧ (n = 0 ∨ ∃ b o : Nat, p = some ⟨b, o, none⟩ ∧ b < w.heap.size ∧ b ∉ X.X ∧ ∀ j u, xs[j]? = some u → w.cell? ⟨b, o + j, none⟩ = some u)
theorem Rw.rd {w : World} {X : Fr} {z n : Nat} {v : Value} {xs : List Value} (h : Rw w X z v n xs) : Rd w z v n xs := by
  obtain ⟨p, c, rfl, h1, h2⟩ := h.ex
  exact ⟨h.len, p, c, rfl, h1, h2.imp id fun ⟨b, o, e, hb, _, hc⟩ => ⟨b, o, e, hb, hc⟩⟩
theorem Rd.rw {w : World} {z n : Nat} {v : Value} {xs : List Value} (h : Rd w z v n xs) : Rw w nof z v n xs := by
  obtain ⟨p, c, rfl, h1, h2⟩ := h.ex
  exact ⟨h.len, p, c, rfl, h1, h2.imp id fun ⟨b, o, e, hb, hc⟩ => ⟨b, o, e, hb, by simp [nof], hc⟩⟩
theorem OS.rw {w0 w : World} {X : Fr} {R : List Win} {S sl pre post : List OB} {E : TypeId} {z n : Nat} {v : Value} {xs : List Value} (h : OS sl E z v n xs) (hR : Rep w0 X R S w) (hC : Ctx S sl pre post) : Rw w X z v n xs := by
  refine ⟨h.1, ?_⟩
  rcases h.2 with ⟨-, rfl, rfl⟩ | ⟨g, cap, sp, rfl, rfl, h2, h3, h4⟩
  · exact ⟨none, 0, rfl, Nat.le_refl _, .inl rfl⟩
  · have hm := (sub_ctx hC).subset List.mem_cons_self
    refine ⟨_, cap, rfl, h2, .inr ⟨g, 0, rfl, hR.lt hm, fun hx => ?_, fun j u hj => ?_⟩⟩
    · have h5 := hR.xl _ hx; have h6 := hR.new _ hm; simp only at h6; omega
    · rw [Nat.zero_add, hR.cells hm]
      simp only
      rw [List.getElem?_append_left (List.getElem?_eq_some_iff.1 hj).1]; exact hj
theorem OS.rdC {w0 w : World} {X : Fr} {R : List Win} {S sl pre post : List OB} {E : TypeId} {z n : Nat} {v : Value} {xs : List Value} (h : OS sl E z v n xs) (hR : Rep w0 X R S w) (hC : Ctx S sl pre post) : Rd w z v n xs := h.rd hR fun _ he => (sub_ctx hC).subset he
theorem At.rd {w0 w : World} {X : Fr} {R : List Win} {S : List OB} {g : Nat} {T : TypeId} {c : List Value} {z n : Nat} (hR : Rep w0 X R S w) (h : At S g T c) (hl : c.length = n * z) : Rd w z (.slice (some ⟨g, 0, none⟩) n n) n c :=
  ⟨hl, _, n, rfl, Nat.le_refl _, .inr ⟨g, 0, rfl, hR.lt h.mem, fun j u hj => by rw [Nat.zero_add, hR.cells h.mem]; exact hj⟩⟩

theorem ta (a : List Value) (Z : Array Value) : a.toArray ++ Z = (a ++ Z.toList).toArray := by apply Array.ext'; simp
section
variable {P : Program} {w : World}
theorem run_append_zero (t ty e : TypeId) (i : TypeInfo) (ht : P.underlying t = some (.slice e)) (hi : P.info? e = some i) (base p : Option Addr) (n cap c : Nat) (h : n ≤ cap) :
    (Builtin.append_ #[t, t] ty #[.slice base n cap, .slice p 0 c]).run P w = .ok (.slice base n cap) w := by
  cases p <;> cases base <;> simp [Builtin.append_, run_underlying ht, sizeOf, typeInfo, hi, Builtin.lenOf, h, Builtin.firstCells, loadCells, loadCellsFrom, storeCells]

theorem run_append_os {w0 : World} {X : Fr} {R : List Win} {S sl pre post : List OB} {t ty E : TypeId} {z bytes n m : Nat} {v x : Value} {xs news : List Value} (hS : Sl P t E z bytes) (hR : Rep w0 X R S w) (ho : OS sl E z v n xs) (hC : Ctx S sl pre post) (hx : Rd w z x m news)
    (h1 : news.all Value.oneCell' = true) (hb : (n + m) * bytes ≤ 140737488355328) (hm : n + m ≤ 9223372036854775807) :
    ∃ v' sl' w', (Builtin.append_ #[t, t] ty #[v, x]).run P w = .ok v' w' ∧ OS sl' E z v' (n + m) (xs ++ news) ∧ Rep w0 X R (pre ++ (sl' ++ post)) w' := by
  obtain ⟨i, zv, hi, hz, rfl, rfl, hzs⟩ := hS.el
  have ht := hS.un
  obtain ⟨px, cx, rfl, hmc, hxx⟩ := hx.ex
  have hlen : (xs ++ news).length = (n + m) * i.size := by rw [List.length_append, ho.1, hx.len, Nat.add_mul]
  by_cases hm0 : m = 0
  · subst hm0
    obtain rfl : news = [] := List.eq_nil_of_length_eq_zero (by simpa using hx.len)
    rcases ho.2 with ⟨rfl, rfl, rfl⟩ | ⟨g, cap, sp, rfl, rfl, h2, h3, h4⟩
    · exact ⟨_, [], w, run_append_zero t ty E i ht hi _ _ _ _ _ (Nat.le_refl _), ⟨by simpa using hlen, .inl ⟨rfl, rfl, rfl⟩⟩, by rw [hC.eq] at hR; exact hR⟩
    · exact ⟨_, [⟨g, E, xs ++ sp⟩], w, run_append_zero t ty E i ht hi _ _ _ _ _ h2, ⟨hlen, .inr ⟨g, cap, sp, by simp, rfl, h2, h3, by simpa using h4⟩⟩, by rw [hC.eq] at hR; exact hR⟩
  · obtain ⟨b, o, rfl, hbw, hcell⟩ := hxx.resolve_left hm0
    have hnews : ∀ j u, news[j]? = some u → w.cell? ((⟨b, o, none⟩ : Addr).add j) = some u := fun j u hj => by rw [addr_add]; exact hcell j u hj
    have fresh : ∀ (need old : Nat) (c : List Value), Rep w0 X R (pre ++ (⟨w.heap.size, E, c⟩ :: post)) (w.drew.alloc (.cells c.toArray E)) := fun _ _ c =>
      hR.replace hC (fun k hk _ => Below.heap_alloc w.drew _ _ hk) rfl rfl rfl (by simp) (heap_alloc_new w.drew _) (.inr (Nat.le_refl _))
    rcases ho.2 with ⟨rfl, rfl, rfl⟩ | ⟨g, cap, sp, rfl, rfl, h2, h3, h4⟩
    · obtain rfl : xs = [] := List.eq_nil_of_length_eq_zero (by simpa using ho.1)
      have hr := run_append_nil (P := P) w t ty E i zv ht hi hz ⟨b, o, none⟩ m cx news hx.len hnews (by omega) (by omega) (by simp only [Nat.zero_add] at hb; omega)
      rw [ta] at hr
      have hge := grownCap_ge w m 0 E
      have hle := grownCap_le_maxLen w m 0 E (by unfold maxLen; omega)
      refine ⟨_, [⟨w.heap.size, E, news ++ (Builtin.zeroCells zv.cells (grownCap w m 0 E - m)).toList⟩], _, hr, ⟨hlen, .inr ⟨w.heap.size, grownCap w m 0 E, (Builtin.zeroCells zv.cells (grownCap w m 0 E - m)).toList, by simp, by simp, by omega, hle, ?_⟩⟩, ?_⟩
      · simp only [List.nil_append, List.length_append, hx.len, Array.length_toList, size_zeroCells, hzs, ← Nat.add_mul]
        congr 1; omega
      · have := fresh m 0 (news ++ (Builtin.zeroCells zv.cells (grownCap w m 0 E - m)).toList)
        exact this
    · have holds : ∀ j u, xs[j]? = some u → w.cell? ((⟨g, 0, none⟩ : Addr).add j) = some u := fun j u hj => by
        have hmem : (⟨g, E, xs ++ sp⟩ : OB) ∈ S := (sub_ctx hC).subset List.mem_cons_self
        rw [addr_add, Nat.zero_add, hR.cells hmem]
        simp only
        rw [List.getElem?_append_left (List.getElem?_eq_some_iff.1 hj).1]; exact hj
      have hmem : (⟨g, E, xs ++ sp⟩ : OB) ∈ S := (sub_ctx hC).subset List.mem_cons_self
      by_cases hroom : n + m ≤ cap
      · have hg := hR.own _ hmem
        have hfit : n * i.size + news.length ≤ (xs ++ sp).toArray.size := by
          rw [List.size_toArray, h4, hx.len, ← Nat.add_mul]; exact Nat.mul_le_mul_right _ hroom
        have hr := run_append_room (P := P) w t ty E i ht hi g n cap (xs ++ sp).toArray hg ⟨b, o, none⟩ m cx news hx.len hnews (List.all_eq_true.1 h1) hroom hfit
        have htake : (xs ++ sp).take (n * i.size) = xs := by rw [← ho.1]; exact List.take_left
        simp only [htake] at hr
        refine ⟨_, [⟨g, E, (xs ++ news) ++ (xs ++ sp).drop (n * i.size + news.length)⟩], _, hr, ⟨hlen, .inr ⟨g, cap, _, rfl, rfl, hroom, h3, ?_⟩⟩, ?_⟩
        · simp only [List.length_append, List.length_drop] at h4 ⊢
          have := hx.len; have h5 := ho.1
          have h6 : (n + m) * i.size ≤ cap * i.size := Nat.mul_le_mul_right _ hroom
          rw [Nat.add_mul] at h6
          omega
        · exact hR.replace hC (fun k hk hne => setRow_other w g k _ hne) rfl rfl rfl (by simp) (setRow_heap w g _ _ _ _ hg) (.inl ⟨_, List.mem_cons_self, rfl⟩)
      · have hr := run_append_grow (P := P) w t ty E i zv ht hi hz ⟨g, 0, none⟩ n cap xs ho.1 holds ⟨b, o, none⟩ m cx news hx.len hnews (by omega) (by omega) (growslice_fits (by omega) hb)
        rw [List.append_toArray, ta] at hr
        have hge := grownCap_ge w (n + m) cap E
        have hle := grownCap_le_maxLen w (n + m) cap E (by unfold maxLen; omega)
        refine ⟨_, [⟨w.heap.size, E, (xs ++ news) ++ (Builtin.zeroCells zv.cells (grownCap w (n + m) cap E - (n + m))).toList⟩], _, hr, ⟨hlen, .inr ⟨w.heap.size, grownCap w (n + m) cap E, (Builtin.zeroCells zv.cells (grownCap w (n + m) cap E - (n + m))).toList, rfl, rfl, hge, hle, ?_⟩⟩, ?_⟩
        · rw [List.length_append, hlen, Array.length_toList, size_zeroCells, hzs, ← Nat.add_mul]
          congr 1; omega
        · exact fresh (n + m) cap ((xs ++ news) ++ (Builtin.zeroCells zv.cells (grownCap w (n + m) cap E - (n + m))).toList)

theorem wpList_append {ops : Array Oper} {Q : Exit → Act → World → Prop} {a : Act} {rest : List Oper} {o : Oper} {w0 : World} {X : Fr} {R : List Win} {S sl pre post : List OB} {t E : TypeId} {z bytes n m : Nat} {v x : Value} {xs news : List Value} {s y : Operand} {d : Tmp}
    (hR : Rep w0 X R S w) (hop : o.op = .call { callee := .builtin .append, args := #[s, y], argTypes := #[t, t] }) (hd : o.dst = some d) (hg : o.guard = none) (hs : a.eval s = v) (hy : a.eval y = x) (hS : Sl P t E z bytes) (ho : OS sl E z v n xs) (hC : Ctx S sl pre post) (hx : Rd w z x m news)
    (h1 : news.all Value.oneCell' = true) (hb : (n + m) * bytes ≤ 140737488355328) (hm : n + m ≤ 9223372036854775807)
    (h : ∀ v' sl' w', OS sl' E z v' (n + m) (xs ++ news) → Rep w0 X R (pre ++ (sl' ++ post)) w' → ∃ a', a.put (some d) v' = a' ∧ wpList P ops Q rest a' w') : wpList P ops Q (o :: rest) a w := by
  obtain ⟨v', sl', w', hr, h2, h3⟩ := run_append_os (P := P) (ty := o.type) hS hR ho hC hx h1 hb hm
  refine BigFrame.wpList_want (by simp [Region.wanted, hg]) fun K hK => ?_
  unfold Oper.wp execOp
  simp only [hop, resolve, invoke, builtin, Sem.run_bind, Sem.run_pure, Result.andThen_ok, List.map_toArray, List.map_cons, List.map_nil, hs, hy, hr, Oper.upon, hd]
  obtain ⟨a', e, h'⟩ := h v' sl' w' h2 h3
  rw [e]
  exact hK _ _ h'
end

theorem Rep.join {w0 w w' : World} {X : Fr} {R : List Win} {S sl : List OB} (h : Rep w0 X R S w) (hk : Rep w nof [] sl w') : Rep w0 X R (sl ++ S) w' := by
  have h' := h.kp0 hk.kp
  refine ⟨h'.kp, fun e he => ?_, List.pairwise_append.2 ⟨hk.ne, h.ne, fun x hx y hy => ?_⟩, fun e he => ?_, h.win, h'.j, h.js, h.xl⟩
  · rcases List.mem_append.1 he with he | he
    · exact hk.own e he
    · exact h'.own e he
  · have h1 := h.lt hy; have h2 := hk.new x hx; omega
  · rcases List.mem_append.1 he with he | he
    · exact Nat.le_trans h.kp.size (hk.new e he)
    · exact h.new e he
theorem Rep.rebaseS {w0 w : World} {X : Fr} {R : List Win} {S : List OB} (h : Rep w0 X R S w) : Rep w X (R ++ S.map fun e => ⟨e.b, 0, e.c⟩) [] w := by
  refine ⟨Kp.refl _ _, by simp, .nil, by simp, fun r hr => ?_, h.j, fun w1 w2 hj hk => h.js w1 w2 hj fun k hk' => hk k (Nat.lt_of_lt_of_le hk' h.kp.size), fun x hx => Nat.lt_of_lt_of_le (h.xl x hx) h.kp.size⟩
  rcases List.mem_append.1 hr with hr | hr
  · obtain ⟨h1, h2, h3⟩ := h.win r hr
    exact ⟨Nat.lt_of_lt_of_le h1 h.kp.size, h2, fun j v hj => by rw [h.kp.cell (p := ⟨r.b, r.o + j, none⟩) h1 h2]; exact h3 j v hj⟩
  · obtain ⟨e, he, rfl⟩ := List.mem_map.1 hr
    refine ⟨h.lt he, fun hm => ?_, fun j v hj => ?_⟩
    · have := h.xl _ hm; have := h.new e he; simp only at *; omega
    · rw [Nat.zero_add, h.cells he]; exact hj
end Go.Proofs.YtlbnhhfaedhgfaaDoor
namespace Go.Proofs.YtlbnhhfaedhgfaaDoor
set_option linter.unusedSimpArgs false
set_option linter.unusedVariables false
open Go.RowKit

theorem set_fold : ∀ (vs : List Value) (k off : Nat) (cells : Array Value), off + k + vs.length ≤ cells.size →
    (vs.zipIdx k).foldl (fun cs (x : Value × Nat) => cs.setIfInBounds (off + x.2) x.1) cells = (cells.toList.take (off + k) ++ vs ++ cells.toList.drop (off + k + vs.length)).toArray
  | [], k, off, cells, _ => by simp
  | v :: vs, k, off, cells, h => by
    simp only [List.zipIdx_cons, List.foldl_cons]
    simp only [List.length_cons] at h
    rw [set_fold vs (k + 1) off _ (by simp; omega)]
    have h2 := list_seg_step cells.toList (off + k) v vs (by simp; omega)
    rw [show off + (k + 1) = off + k + 1 by omega]
    have h3 : (cells.setIfInBounds (off + k) v).toList = cells.toList.set (off + k) v := by simp
    rw [h3]
    exact congrArg List.toArray h2

def flat : List (Nat × Value) → List Value
  | [] => []
  | p :: r => p.2.cells.toList ++ flat r
def inRow (z : Nat) : Nat → List (Nat × Value) → Bool
  | _, [] => true
  | k, p :: r => p.1 == k && p.2.cells.size == z && inRow z (k + 1) r
theorem fill_row (z : Nat) : ∀ (l : List (Nat × Value)) (k : Nat) (cells : Array Value), inRow z k l = true → cells.size = (k + l.length) * z →
    Instr.fill (fun i => some (i * z, z)) cells l = some (cells.toList.take (k * z) ++ flat l).toArray
  | [], k, cells, _, h => by
    simp only [Instr.fill, flat, List.append_nil]
    rw [List.take_of_length_le (by simp [h])]
  | p :: r, k, cells, h, hc => by
    obtain ⟨i, v⟩ := p
    simp only [inRow, Bool.and_eq_true, beq_iff_eq] at h
    obtain ⟨⟨rfl, hz⟩, hr⟩ := h
    simp only [List.length_cons] at hc
    have hb : ¬ (v.cells.size ≠ z ∨ i * z + v.cells.size > cells.size) := by
      rw [hz, hc]; simp only [ne_eq, not_true, false_or]
      have : (i + (r.length + 1)) * z = i * z + z + r.length * z := by rw [Nat.add_mul, Nat.add_mul]; omega
      omega
    simp only [Instr.fill]
    rw [if_neg (by simpa using hb)]
    have hf := set_fold v.cells.toList 0 (i * z) cells (by
      have : (i + (r.length + 1)) * z = i * z + z + r.length * z := by rw [Nat.add_mul, Nat.add_mul]; omega
      simp [hz, hc]; omega)
    have he : (v.cells.zipIdx.foldl (fun cs (x : Value × Nat) => cs.setIfInBounds (i * z + x.2) x.1) cells) = (cells.toList.take (i * z + 0) ++ v.cells.toList ++ cells.toList.drop (i * z + 0 + v.cells.toList.length)).toArray := by
      rw [← hf, ← Array.foldl_toList, Array.toList_zipIdx]
    rw [he, fill_row z r (i + 1) _ hr (by
      have : (i + (r.length + 1)) * z = i * z + z + r.length * z := by rw [Nat.add_mul, Nat.add_mul]; omega
      have h2 : (i + 1 + r.length) * z = i * z + z + r.length * z := by rw [Nat.add_mul, Nat.add_mul]; omega
      simp [hz, hc]; omega)]
    congr 2
    have h2 : (i + 1) * z = i * z + z := by rw [Nat.add_mul]; omega
    have h3 : (i + (r.length + 1)) * z = i * z + z + r.length * z := by rw [Nat.add_mul, Nat.add_mul]; omega
    simp only [Nat.add_zero, h2, flat]
    rw [List.take_append_of_le_length (by simp [hz, hc]), List.take_of_length_le (by simp [hz, hc])]
    simp

theorem eval_tmp (l : List Value) (d : List Deferred) (t : Nat) : (Act.mk l.toArray d).eval (.tmp t) = l.getD t undef := by simp [Act.eval, List.getD]
theorem eval_con (a : Act) (v : Value) : a.eval (.const v) = v := rfl
theorem cells_agg (c : Array Value) : (Value.agg c).cells = c := rfl
theorem cells_bool (x : Bool) : (Value.bool x).cells = #[.bool x] := rfl
theorem cells_int (k : IntKind) (x : Int) : (Value.int k x).cells = #[.int k x] := rfl
theorem cells_str (x : ByteArray) : (Value.string x).cells = #[.string x] := rfl
theorem cells_sl (p : Option Addr) (n c : Nat) : (Value.slice p n c).cells = #[.slice p n c] := rfl
theorem cells_ptr (p : Option Addr) : (Value.pointer p).cells = #[.pointer p] := rfl
theorem cells_map (p : Option Nat) : (Value.map p).cells = #[.map p] := rfl
theorem cells_fn (f : Fn) (x y : Array Value) : (Value.func f x y).cells = #[.func f x y] := rfl
section
variable {P : Program} {ops : Array Oper} {Q : Exit → Act → World → Prop} {a : Act} {w w0 : World} {rest : List Oper} {o : Oper} {X : Fr} {R : List Win} {S : List OB}
theorem run_bs {t E : TypeId} {z bytes : Nat} (hS : Sl P t E z bytes) (parts : Array (Nat × Value)) (h : inRow z 0 parts.toList = true) (hl : parts.size * z ≤ 16777216) :
    (Instr.buildSlice t parts.size parts).run P w = .ok (.slice (some ⟨w.heap.size, 0, none⟩) parts.size parts.size) (w.alloc (.cells (flat parts.toList).toArray E)) := by
  obtain ⟨i, zv, hi, hz, rfl, rfl, hzs⟩ := hS.el
  have hf := fun (c : Array Value) (hc : c.size = parts.size * i.size) => fill_row i.size parts.toList 0 c h (by simpa using hc)
  simp only [Nat.zero_mul, List.take_zero, List.nil_append] at hf
  unfold Instr.buildSlice
  have hu : (underlying t).run P w = .ok (.slice E) w := run_underlying hS.un w
  simp only [Sem.run_bind, hu, Result.andThen_ok, sizeOf, typeInfo, program, Sem.run, hi, Sem.run_pure]
  rw [if_neg (by omega)]
  by_cases h0 : parts.size * i.size = 0
  · rw [if_pos h0]
    simp [hf #[] (by simp [h0]), hf, h0, newRow]
  · rw [if_neg h0]
    simp [hf, zeroValue, typeInfo, hi, hz, newRow]
theorem wpList_bs (hR : Rep w0 X R S w) {t E : TypeId} {z bytes len : Nat} {parts : Array (Nat × Operand)} {d : Tmp} {l : List Value} (hop : o.op = .buildSlice t len parts) (hd : o.dst = some d) (hg : o.guard = none) (hS : Sl P t E z bytes)
    (hp : (inRow z 0 (parts.toList.map fun p => (p.1, a.eval p.2)) && (parts.size == len) && decide (parts.size * z ≤ 16777216)) = true) (hl : flat (parts.toList.map fun p => (p.1, a.eval p.2)) = l)
    (h : ∀ w' B, Rep w0 X R (⟨B, E, l⟩ :: S) w' → ∃ a', a.put (some d) (.slice (some ⟨B, 0, none⟩) len len) = a' ∧ wpList P ops Q rest a' w') : wpList P ops Q (o :: rest) a w := by
  simp only [Bool.and_eq_true, beq_iff_eq, decide_eq_true_eq] at hp
  obtain ⟨⟨hp, rfl⟩, hs⟩ := hp
  have hr := run_bs (P := P) (w := w) hS (parts.map fun p => (p.1, a.eval p.2)) (by simpa using hp) (by simpa using hs)
  simp only [Array.size_map] at hr
  have hl' : flat (parts.map fun p => (p.1, a.eval p.2)).toList = l := by rw [← hl]; simp
  rw [hl'] at hr
  refine BigFrame.wpList_want (by simp [Region.wanted, hg]) fun K hK => ?_
  unfold Oper.wp execOp
  rw [hop]
  simp only [Sem.run_bind, Sem.run_pure, Result.andThen_ok, hr, Oper.upon, hd]
  obtain ⟨a', e, h'⟩ := h _ w.heap.size (by simpa using hR.alloc E l.toArray)
  rw [e]
  exact hK _ _ h'

theorem zero_run {T : TypeId} {z : List Value} (hz : ZeroIs P T z) {o : Oper} (ho : o.op = .alloc T) (ρ : Operand → Value) (w : World) : (execOp ρ o).run P w = .ok (.value (.pointer (some ⟨w.heap.size, 0, none⟩))) (w.alloc (.cells z.toArray T)) := by
  unfold ZeroIs at hz
  cases hi : P.info? T with
  | none => simp [hi] at hz
  | some i =>
    cases hzv : i.zero with
    | none => simp [hi, hzv] at hz
    | some zv =>
      simp [hi, hzv] at hz
      unfold execOp; rw [ho]
      simp [Instr.alloc, zeroValue, typeInfo, hi, hzv, newVar, newRow, ← hz]
end
end Go.Proofs.YtlbnhhfaedhgfaaDoor
namespace Go.Proofs.YtlbnhhfaedhgfaaDoor
set_option linter.unusedSimpArgs false
set_option linter.unusedVariables false
open Go.RowKit

abbrev vI (n : Int) : V := .d (.c (.int .i64 n))
abbrev vB (b : Bool) : V := .d (.c (.bool b))
abbrev vS (s : ByteArray) : V := .d (.c (.string s))
abbrev dI (n : Int) : D := .c (.int .i64 n)
abbrev dB (b : Bool) : D := .c (.bool b)
abbrev dS (s : ByteArray) : D := .c (.string s)

def ev (sl : List (Nat × V)) : Operand → Option V
  | .tmp t => look sl t
  | .const (.agg cs) => bif cs.all Value.oneCell' then some (.a (cs.toList.map fun v => .d (.c v))) else none
  | .const v => bif v.oneCell' then some (.d (.c v)) else none
  | .global _ => none
  | .func f => some (.d (.c (.func (.func f) #[] #[])))
theorem rvs_c {w : World} {ok : Nat → Prop} {ρ : Lc} : ∀ {l : List Value}, (∀ v ∈ l, v.oneCell' = true) → RVs w ok ρ (l.map fun v => .d (.c v)) l
  | [], _ => .nil
  | v :: l, h => .cons (.d (.c (h v List.mem_cons_self))) (rvs_c fun u hu => h u (List.mem_cons_of_mem _ hu))
theorem ev_spec {B : Nat → Prop} {sl : List (Nat × V)} {ρ : Lc} {a : Act} {w : World} (hs : SR B sl ρ a w) : ∀ {x : Operand} {u : V}, ev sl x = some u → RV w (okb B w ρ) ρ u (a.eval x)
  | .tmp t, u, h => by
    obtain ⟨v, h1, h2⟩ := hs t u h
    simp only [Act.eval, Array.getD_eq_getD_getElem?, h1, Option.getD_some]; exact h2
  | .const v, u, h => by
    simp only [Act.eval]
    cases v with
    | agg cs =>
      simp only [ev] at h
      cases hb : cs.all Value.oneCell' with
      | false => rw [hb] at h; cases h
      | true =>
        rw [hb] at h
        obtain rfl := Option.some.inj h
        have : Value.agg cs = .agg cs.toList.toArray := by simp
        rw [this]
        exact .a (rvs_c fun v hv => by rw [Array.all_eq_true_iff_forall_mem] at hb; exact hb v (by simpa using hv))
    | tuple vs => simp [ev, Value.oneCell'] at h
    | _ => simp [ev, Value.oneCell'] at h; subst h; exact .d (.c rfl)
  | .global g, u, h => by simp [ev] at h
  | .func f, u, h => by
    simp only [ev, Option.some.injEq] at h; subst h
    exact .d (.c rfl)

theorem rv_c {w : World} {ok : Nat → Prop} {ρ : Lc} {v u : Value} (h : RV w ok ρ (.d (.c v)) u) : u = v := by
  cases h with | d h => cases h; rfl
theorem rv_a {w : World} {ok : Nat → Prop} {ρ : Lc} {xs : List V} {u : Value} (h : RV w ok ρ (.a xs) u) : ∃ vs, u = .agg (List.toArray vs) ∧ RVs w ok ρ xs vs := by
  cases h with | a h => exact ⟨_, rfl, h⟩
theorem rv_t {w : World} {ok : Nat → Prop} {ρ : Lc} {xs : List V} {u : Value} (h : RV w ok ρ (.t xs) u) : ∃ vs, u = .tuple (List.toArray vs) ∧ RVs w ok ρ xs vs := by
  cases h with | t h => exact ⟨_, rfl, h⟩
def cellsV : V → List V
  | .a xs => xs
  | u => [u]
def cellV : V → Bool
  | .a _ => false
  | .t _ => false
  | .un => false
  | _ => true

section
variable {w : World} {ok : Nat → Prop} {ρ : Lc}
theorem RV.one {u : V} {v : Value} (h : RV w ok ρ u v) (hc : cellV u = true) : v.oneCell' = true := by
  cases h <;> first | rfl | (simp [cellV] at hc; done) | skip
  rename_i h; exact h.one
theorem RVs.one : ∀ {us : List V} {vs : List Value}, RVs w ok ρ us vs → us.all cellV = true → vs.all Value.oneCell' = true
  | _, _, .nil, _ => rfl
  | _, _, .cons h1 h2, hc => by
    simp only [List.all_cons, Bool.and_eq_true] at hc
    simp [h1.one hc.1, h2.one hc.2]
theorem cells_one {v : Value} (h : v.oneCell' = true) : v.cells = #[v] := by
  cases v <;> first | rfl | simp [Value.oneCell'] at h
theorem RV.cells {u : V} {v : Value} (h : RV w ok ρ u v) (hc : (cellsV u).all cellV = true) : RVs w ok ρ (cellsV u) v.cells.toList ∧ v.cells.toList.all Value.oneCell' = true := by
  have gen : ∀ {u : V}, cellsV u = [u] → RV w ok ρ u v → (cellsV u).all cellV = true → RVs w ok ρ (cellsV u) v.cells.toList ∧ v.cells.toList.all Value.oneCell' = true := by
    intro u e h hc
    rw [e] at hc ⊢
    have h1 := h.one (by simpa using hc)
    rw [cells_one h1]
    exact ⟨.cons h .nil, by simp [h1]⟩
  cases u with
  | a xs =>
    obtain ⟨vs, rfl, h1⟩ := rv_a h
    simp only [cellsV] at hc ⊢
    exact ⟨by simpa [Value.cells] using h1, by simpa [Value.cells] using h1.one hc⟩
  | _ => exact gen rfl h hc
end

def upd (ρ : Lc) (k : Nat) (l : Loc) : Lc := fun j => if j = k then some l else ρ j
theorem upd_self (ρ : Lc) (k : Nat) (l : Loc) : upd ρ k l k = some l := by simp [upd]
theorem upd_ext {ρ : Lc} {k : Nat} {l : Loc} (hk : ρ k = none) : Ext ρ (upd ρ k l) := fun j l' hj => by
  unfold upd
  split
  · subst_vars; rw [hk] at hj; cases hj
  · exact hj
theorem look_one {α : Type} {k j : Nat} {x : α} (h : look [(k, x)] j ≠ none) : j = k := by
  rw [look_cons] at h
  split at h
  · exact Eq.symm (by assumption)
  · simp [look] at h
theorem look_one' {α : Type} {k j : Nat} {x y : α} (h : look [(k, x)] j = some y) : j = k ∧ y = x := by
  rw [look_cons] at h
  split at h
  · exact ⟨Eq.symm (by assumption), (Option.some.inj h).symm⟩
  · simp [look] at h
theorem upd_case {ρ : Lc} {k j : Nat} {l l' : Loc} (h : upd ρ k l j = some l') : (j = k ∧ l' = l) ∨ ρ j = some l' := by
  unfold upd at h
  split at h
  · exact .inl ⟨by assumption, (Option.some.inj h).symm⟩
  · exact .inr h
theorem Step.new1 {B : Nat → Prop} {H : Hp} {ρ : Lc} {w w' : World} {k : Nat} {l : Loc} {blk : Blk} {ob : Obj} (hk : ρ k = none) (hl : l.bl = some w.heap.size) (hw : w' = w.alloc ob ∨ w' = w.drew.alloc ob)
    (hrel : ∀ ok' ρ', Stl w w' (okb B w ρ) ok' → Ext ρ ρ' → w'.heap[w.heap.size]? = some ob → blk.rel w' ok' ρ' l) : Step B H [(k, some blk)] ρ (upd ρ k l) w w' := by
  have hsz : w'.heap.size = w.heap.size + 1 := by rcases hw with rfl | rfl <;> simp
  have hold : ∀ b, b < w.heap.size → w'.heap[b]? = w.heap[b]? := fun b hb => by rcases hw with rfl | rfl <;> exact Below.heap_alloc _ _ _ hb
  have hnew : w'.heap[w.heap.size]? = some ob := by
    rcases hw with rfl | rfl
    · exact heap_alloc_new w _
    · exact heap_alloc_new w.drew _
  have hst : Stl w w' (okb B w ρ) (okb B w' (upd ρ k l)) := fun b ⟨hb, hB, ho⟩ => ⟨⟨by omega, hB, fun j l' hj e => by
    rcases upd_case hj with ⟨-, rfl⟩ | hj
    · rw [hl] at e; have := Option.some.inj e; omega
    · exact ho j l' hj e⟩, hold b hb⟩
  refine ⟨by rcases hw with rfl | rfl <;> rfl, by rcases hw with rfl | rfl <;> rfl, by rcases hw with rfl | rfl <;> rfl, by omega, upd_ext hk, fun j l' hj => ?_, fun b hb _ => hold b hb, fun j hj hn => ?_, fun j blk' hj => ?_, fun j j' _ _ _ _ _ hj hj' _ _ _ _ => ?_⟩
  · rcases upd_case hj with ⟨rfl, rfl⟩ | hj
    · exact .inr ⟨hk, by simp [look], fun b e => .inl (by rw [hl] at e; have := Option.some.inj e; omega)⟩
    · exact .inl hj
  · obtain rfl := look_one hj
    exact absurd hk hn
  · obtain ⟨rfl, e⟩ := look_one' hj
    obtain rfl := Option.some.inj e
    exact ⟨l, upd_self _ _ _, hrel _ _ hst (upd_ext hk) hnew⟩
  · exact (look_one' hj).1.trans (look_one' hj').1.symm
theorem Step.set1 {B : Nat → Prop} {H : Hp} {ρ : Lc} {w w' : World} {k b : Nat} {l : Loc} {blk blk0 : Blk} (hk : ρ k = some l) (hH : look H k = some (some blk0)) (hl : l.bl = some b) (hh : w'.heap.size = w.heap.size) (h1 : w'.os = w.os) (h2 : w'.tape = w.tape) (h3 : w'.output = w.output)
    (hoth : ∀ j, j ≠ b → w'.heap[j]? = w.heap[j]?) (hrel : ∀ ok', Stl w w' (okb B w ρ) ok' → blk.rel w' ok' ρ l) : Step B H [(k, some blk)] ρ ρ w w' := by
  have hst : Stl w w' (okb B w ρ) (okb B w' ρ) := fun c ⟨hb, hB, ho⟩ => ⟨⟨by omega, hB, ho⟩, hoth c fun e => ho k l hk (by rw [hl, e])⟩
  refine ⟨h1, h2, h3, by omega, fun _ _ h => h, fun j l' hj => .inl hj, fun c hc hn => hoth c fun e => hn k l (by simp [look]) hk (by rw [hl, e]), fun j hj _ => ?_, fun j blk' hj => ?_, fun j j' _ _ _ _ _ hj hj' _ _ _ _ => ?_⟩
  · obtain rfl := look_one hj; exact ⟨_, hH⟩
  · obtain ⟨rfl, e⟩ := look_one' hj
    obtain rfl := Option.some.inj e
    exact ⟨l, hk, hrel _ hst⟩
  · exact (look_one' hj).1.trans (look_one' hj').1.symm

def OpV (P : Program) (o : Oper) (H : Hp) (sl : List (Nat × V)) (lo nn : Nat) (ψ : V → Hp → Prop) : Prop :=
  ∀ (B : Nat → Prop) (a : Act) (w : World) (ρ : Lc), (∀ b, w.heap.size ≤ b → B b) → a.defers = [] → SR B sl ρ a w → HR B H ρ w → (∀ k, lo ≤ k → k < lo + nn → ρ k = none) →
    o.wp P a w (fun a' w' => ∃ v u h ρ', a' = a.put o.dst v ∧ ψ u h ∧ Step B H h ρ ρ' w w' ∧ RV w' (okb B w' ρ') ρ' u v) (fun _ _ _ => False)
def OpD (P : Program) (o : Oper) (H : Hp) (sl : List (Nat × V)) (lo nn : Nat) (u : V) (h : Hp) : Prop :=
  ∀ (B : Nat → Prop) (a : Act) (w : World) (ρ : Lc), SR B sl ρ a w → HR B H ρ w → (∀ k, lo ≤ k → k < lo + nn → ρ k = none) →
    ∃ n v w' ρ', (execOp a.eval o).run P w = .ok n w' ∧ (n = .value v ∨ n = .skip ∧ v = undef) ∧ Step B H h ρ ρ' w w' ∧ RV w' (okb B w' ρ') ρ' u v
theorem OpD.v {P : Program} {o : Oper} {H : Hp} {sl : List (Nat × V)} {lo nn : Nat} {u : V} {h : Hp} (hd : OpD P o H sl lo nn u h) : OpV P o H sl lo nn fun u' h' => u' = u ∧ h' = h := by
  intro B a w ρ _ _ h1 h2 h3
  obtain ⟨n, v, w', ρ', hr, hn, hs, hv⟩ := hd B a w ρ h1 h2 h3
  unfold Oper.wp
  rw [hr]
  rcases hn with rfl | ⟨rfl, rfl⟩
  · exact ⟨v, u, h, ρ', rfl, ⟨rfl, rfl⟩, hs, hv⟩
  · exact ⟨undef, u, h, ρ', rfl, ⟨rfl, rfl⟩, hs, hv⟩

section
variable {P : Program} {o : Oper} {H : Hp} {sl : List (Nat × V)} {lo nn : Nat} {u ux uy : V} {h : Hp} {x y z : Operand} {T U : TypeId} {n k : Nat} {ag : Bool} {cs cs' : List V}
theorem OpD.read (hv : ∀ (B : Nat → Prop) (a : Act) (w : World) (ρ : Lc), SR B sl ρ a w → HR B H ρ w → ∃ v, (execOp a.eval o).run P w = .ok (.value v) w ∧ RV w (okb B w ρ) ρ u v) : OpD P o H sl 0 0 u [] := fun B a w ρ h1 h2 _ => by
  obtain ⟨v, h3, h4⟩ := hv B a w ρ h1 h2
  exact ⟨_, v, w, ρ, h3, .inl rfl, Step.refl _ _ _, h4⟩
theorem o_move (hop : o.op = .move x) (hx : ev sl x = some u) : OpD P o H sl 0 0 u [] := .read fun B a w ρ h1 _ => ⟨_, by unfold execOp; rw [hop]; rfl, ev_spec h1 hx⟩
theorem o_assign (hop : o.op = .assign x) (hx : ev sl x = some u) : OpD P o H sl 0 0 u [] := .read fun B a w ρ h1 _ => ⟨_, by unfold execOp; rw [hop]; rfl, ev_spec h1 hx⟩
theorem o_pick {b : Bool} (hop : o.op = .pick z x y) (hc : ev sl z = some (vB b)) (hx : ev sl (bif b then x else y) = some u) : OpD P o H sl 0 0 u [] := .read fun B a w ρ h1 _ => by
  have hz := rv_c (ev_spec h1 hc)
  refine ⟨_, ?_, ev_spec h1 hx⟩
  unfold execOp; rw [hop]
  simp only [hz, asBool, Sem.run_bind, Sem.run_pure, Result.andThen_ok]
  cases b <;> rfl
def noIf : Value → Bool
  | .nilIface => false
  | .agg _ => false
  | _ => true
theorem o_bin {op : BinOp} {vx vy r : Value} (hop : o.op = .binOp op T x y U) (hx : ev sl x = some (.d (.c vx))) (hy : ev sl y = some (.d (.c vy))) (hr : ∀ w, (binOp op T vx vy).run P w = .ok r w) (hn : noIf vx = true) (h1 : r.oneCell' = true) : OpD P o H sl 0 0 (.d (.c r)) [] := .read fun B a w ρ hs _ => by
  have e1 := rv_c (ev_spec hs hx)
  have e2 := rv_c (ev_spec hs hy)
  refine ⟨r, ?_, .d (.c h1)⟩
  unfold execOp; rw [hop]
  have hg : (eqGuard op T x y vx vy).run P w = .ok () w := by
    unfold eqGuard
    cases vx <;> first | (simp [noIf] at hn; done) | (cases op <;> rfl)
  simp only [e1, e2, Sem.run_bind, hg, Result.andThen_ok, hr, Sem.run_pure]
end
end Go.Proofs.YtlbnhhfaedhgfaaDoor
namespace Go.Proofs.YtlbnhhfaedhgfaaDoor
set_option linter.unusedSimpArgs false
set_option linter.unusedVariables false
open Go.RowKit
attribute [local simp] Sem.run_bind Sem.run_pure Result.andThen_ok

def fieldOff (P : Program) (s : TypeId) (f : Nat) : Option Nat :=
  match P.underlying s with
  | some (.struct fs) => (fs[f]?).bind fun fd => (P.info? fd.type).bind fun i => if i.size = 0 then none else some fd.offset
  | _ => none
class Fo (P : Program) (s : TypeId) (f : Nat) (off : outParam Nat) : Prop where
  out : fieldOff P s f = some off
def fieldPart (P : Program) (s : TypeId) (f : Nat) : Option (Nat × Nat × Bool) :=
  match P.underlying s with
  | some (.struct fs) => (fs[f]?).bind fun fd => (P.info? fd.type).bind fun i => ((P.underlying fd.type).map (fun | .struct _ | .array _ _ => true | _ => false)).map fun ag => (fd.offset, i.size, ag)
  | _ => none
class Fp (P : Program) (s : TypeId) (f : Nat) (off n : outParam Nat) (ag : outParam Bool) : Prop where
  out : fieldPart P s f = some (off, n, ag)
def places (P : Program) (s : TypeId) : Option (List (Nat × Nat)) :=
  match P.underlying s with
  | some (.struct fs) => fs.toList.mapM fun fd => (P.info? fd.type).map fun i => (fd.offset, i.size)
  | _ => none
class Bd (P : Program) (s : TypeId) (pl : outParam (List (Nat × Nat))) (z : outParam (List Value)) : Prop where
  pl : places P s = some pl
  z : ZeroIs P s z
class Ar (P : Program) (T : TypeId) (len E : outParam Nat) : Prop where
  out : P.underlying T = some (.array len E)
def stV : Nat → List V → List V → List V
  | _, [], c => c
  | 0, v :: vs, _ :: c => v :: stV 0 vs c
  | _, _ :: _, [] => []
  | o + 1, v :: vs, x :: c => x :: stV o (v :: vs) c
theorem stV_rel {w : World} {ok : Nat → Prop} {ρ : Lc} : ∀ (o : Nat) {xs cs : List V} {vs us : List Value}, RVs w ok ρ xs vs → RVs w ok ρ cs us → RVs w ok ρ (stV o xs cs) (stL o vs us)
  | _, [], _, _, _, .nil, h => by simpa [stV, stL] using h
  | 0, _ :: _, [], _, _, .cons _ _, .nil => by simpa [stV, stL] using RVs.nil
  | 0, _ :: _, _ :: _, _, _, .cons h1 h2, .cons _ h4 => by simpa [stV, stL] using RVs.cons h1 (stV_rel 0 h2 h4)
  | o + 1, _ :: _, [], _, _, .cons _ _, .nil => by simpa [stV, stL] using RVs.nil
  | o + 1, _ :: _, _ :: _, _, _, .cons h1 h2, .cons h3 h4 => by simpa [stV, stL] using RVs.cons h3 (stV_rel o (.cons h1 h2) h4)
theorem stL_one : ∀ (o : Nat) {vs us : List Value}, vs.all Value.oneCell' = true → us.all Value.oneCell' = true → (stL o vs us).all Value.oneCell' = true
  | _, [], _, _, h => by simpa [stL] using h
  | 0, _ :: _, [], _, _ => by simp [stL]
  | 0, v :: vs, u :: us, h1, h2 => by
    simp only [List.all_cons, Bool.and_eq_true] at h1 h2
    simp only [stL, List.all_cons, h1.1, stL_one 0 h1.2 h2.2, Bool.and_self]
  | o + 1, _ :: _, [], _, _ => by simp [stL]
  | o + 1, v :: vs, u :: us, h1, h2 => by
    simp only [List.all_cons, Bool.and_eq_true] at h2
    simp only [stL, List.all_cons, h2.1, stL_one o h1 h2.2, Bool.and_self]
def ldC (ag : Bool) (n o : Nat) (c : List V) : Option V := bif ag then some (.a ((c.drop o).take n)) else c[o]?
def ldE (ag : Bool) (n o : Nat) (c : List D) : Option V := bif ag then some (.a (((c.drop o).take n).map .d)) else (c[o]?).map .d
def fillV (pl : List (Nat × Nat)) : List V → List (Nat × V) → Option (List V)
  | cells, [] => some cells
  | cells, (i, u) :: r => match pl[i]? with
    | some (off, n) => bif (cellsV u).length == n && Nat.ble (off + n) cells.length && (cellsV u).all cellV then fillV pl (stV off (cellsV u) cells) r else none
    | none => none
def evs (sl : List (Nat × V)) : List (Nat × Operand) → Option (List (Nat × V))
  | [] => some []
  | (i, x) :: r => match ev sl x, evs sl r with
    | some u, some l => some ((i, u) :: l)
    | _, _ => none
def flatV (z : Nat) : Nat → List (Nat × V) → Option (List V)
  | _, [] => some []
  | k, (i, u) :: r => bif i == k && (cellsV u).length == z && (cellsV u).all cellV then (flatV z (k + 1) r).map (cellsV u ++ ·) else none

section
variable {P : Program} {w : World} {ok : Nat → Prop} {ρ : Lc}
theorem run_lda {T : TypeId} {n b off : Nat} {ag : Bool} {c : List Value} (hT : Ty P T n ag) (hc : ∀ j v, c[j]? = some v → w.cell? ⟨b, off + j, none⟩ = some v) (hl : c.length = n) (h1 : ag = false → n = 1) :
    (loadVar T ⟨b, off, none⟩).run P w = .ok (bif ag then .agg c.toArray else c.getD 0 undef) w := by
  unfold loadVar
  rw [Sem.run_bind, run_agg hT]
  cases ag with
  | true =>
    have := run_loadCells_list (P := P) w ⟨b, off, none⟩ c fun j v hv => by rw [addr_add]; exact hc j v hv
    rw [hl] at this
    simp [run_size hT, this]
  | false =>
    have hn := h1 rfl
    cases c with
    | nil => simp at hl; omega
    | cons v r =>
      have := hc 0 v rfl
      simp only [Nat.add_zero] at this
      simp [load, Sem.run, this]
theorem ldC_rel {T : TypeId} {n o : Nat} {ag : Bool} {u : V} {c : List V} {vs : List Value} (hT : Ty P T n ag) (h : RVs w ok ρ c vs) {b : Nat} (hc : ∀ j v, vs[j]? = some v → w.cell? ⟨b, j, none⟩ = some v) (hu : ldC ag n o c = some u)
    (hl : (Nat.ble (o + n) c.length && (ag || n == 1)) = true) : ∃ v, (loadVar T ⟨b, o, none⟩).run P w = .ok v w ∧ RV w ok ρ u v := by
  simp only [Bool.and_eq_true, Bool.or_eq_true, beq_iff_eq, Nat.ble_eq] at hl
  have hlen := h.length
  have hr := run_lda (P := P) (w := w) (off := o) (b := b) (c := (vs.drop o).take n) hT (fun j v hv => by
    rw [List.getElem?_take] at hv
    split at hv
    · exact hc _ _ (by simpa using hv)
    · cases hv) (by simp; omega) (fun e => hl.2.resolve_left (by simp [e]))
  refine ⟨_, hr, ?_⟩
  have h2 := (h.drop o).take n
  unfold ldC at hu
  cases ag with
  | true => obtain rfl := Option.some.inj hu; exact .a h2
  | false =>
    obtain rfl : n = 1 := hl.2.resolve_left (by simp)
    simp only [cond_false] at hu
    obtain ⟨v, h3, h4⟩ := h.get hu
    have : ((vs.drop o).take 1).getD 0 undef = v := by simp [List.getD, List.getElem?_take, h3]
    simp only [cond_false, this]
    exact h4
theorem ldE_rel {T : TypeId} {n o : Nat} {ag : Bool} {u : V} {c : List D} {vs : List Value} (hT : Ty P T n ag) (h : RDs w ok c vs) {b o0 : Nat} (hc : ∀ j v, vs[j]? = some v → w.cell? ⟨b, o0 + j, none⟩ = some v) (hu : ldE ag n o c = some u)
    (hl : (Nat.ble (o + n) c.length && (ag || n == 1)) = true) : ∃ v, (loadVar T ⟨b, o0 + o, none⟩).run P w = .ok v w ∧ RV w ok ρ u v := by
  simp only [Bool.and_eq_true, Bool.or_eq_true, beq_iff_eq, Nat.ble_eq] at hl
  have hlen := h.length
  have hr := run_lda (P := P) (w := w) (off := o0 + o) (b := b) (c := (vs.drop o).take n) hT (fun j v hv => by
    rw [List.getElem?_take] at hv
    split at hv
    · rw [Nat.add_assoc]; exact hc _ _ (by simpa using hv)
    · cases hv) (by simp; omega) (fun e => hl.2.resolve_left (by simp [e]))
  refine ⟨_, hr, ?_⟩
  have h2 := (h.drop o).take n
  unfold ldE at hu
  cases ag with
  | true => obtain rfl := Option.some.inj hu; exact .a h2.toV
  | false =>
    obtain rfl : n = 1 := hl.2.resolve_left (by simp)
    simp only [cond_false] at hu
    cases hx : c[o]? with
    | none => rw [hx] at hu; cases hu
    | some x =>
      rw [hx] at hu
      obtain rfl := Option.some.inj hu
      obtain ⟨v, h3, h4⟩ := h.get hx
      have : ((vs.drop o).take 1).getD 0 undef = v := by simp [List.getD, List.getElem?_take, h3]
      simp only [cond_false, this]
      exact .d h4
end

section
variable {P : Program} {o : Oper} {H : Hp} {sl : List (Nat × V)}  {u ux uy : V} {h : Hp} {x y z : Operand} {T T' U E : TypeId} {n k off bytes : Nat} {ag : Bool} {cs cs' : List V}
theorem zs_rel {T : TypeId} {z : List Value} (hz : ZeroIs P T z) {o : Oper} (ho : o.op = .alloc T) (ρ : Operand → Value) (w : World) : (execOp ρ o).run P w = .ok (.value (.pointer (some ⟨w.heap.size, 0, none⟩))) (w.alloc (.cells z.toArray T)) := zero_run hz ho ρ w
theorem o_alloc (k : Nat) {zs : List Value} (hop : o.op = .alloc T) (hz : ZeroIs P T zs) (h1 : zs.all Value.oneCell' = true) (hcs : zs.map (fun v => V.d (.c v)) = cs) : OpD P o H sl k 1 (.p k 0) [(k, some (.box T cs))] := fun B a w ρ _ _ hk => by
  subst hcs
  have hk := hk k (Nat.le_refl _) (by omega)
  refine ⟨_, _, _, upd ρ k (.box w.heap.size), zs_rel hz hop _ w, .inl rfl, Step.new1 hk rfl (.inl rfl) fun ok' ρ' _ _ hn => ⟨zs, hn, h1, rvs_c fun v hv => List.all_eq_true.1 h1 v hv⟩, .p (upd_self _ _ _)⟩
theorem o_box (k : Nat) (hop : o.op = .box T x) (hx : ev sl x = some u) (hc : (cellsV u).all cellV = true) (hcs : cellsV u = cs) : OpD P o H sl k 1 (.p k 0) [(k, some (.box T cs))] := fun B a w ρ hs _ hk => by
  subst hcs
  have hk := hk k (Nat.le_refl _) (by omega)
  obtain ⟨h1, h2⟩ := (ev_spec hs hx).cells hc
  refine ⟨.value (.pointer (some ⟨w.heap.size, 0, none⟩)), _, w.alloc (.cells (a.eval x).cells T), upd ρ k (.box w.heap.size), ?_, .inl rfl, Step.new1 hk rfl (.inl rfl) fun ok' ρ' hst he hn => ⟨(a.eval x).cells.toList, by simpa using hn, h2, h1.mono hst he⟩, .p (upd_self _ _ _)⟩
  unfold execOp; rw [hop]
  simp only [Instr.box, newVar, newRow, newObj, Sem.run_bind, Sem.run, Sem.run_pure, Result.andThen_ok]
  rfl
theorem cells_row {w : World} {b : Nat} {us : List Value} {T : TypeId} (h : w.heap[b]? = some (.cells us.toArray T (0, 0))) (j : Nat) (v : Value) (hv : us[j]? = some v) : w.cell? ⟨b, j, none⟩ = some v := by
  simp [World.cell?, h, hv]
theorem o_load (hop : o.op = .load T x) (hx : ev sl x = some (.p k off)) (hH : look H k = some (some (.box T' cs))) (hT : Ty P T n ag) (hl : (Nat.ble (off + n) cs.length && (ag || n == 1)) = true) (hu : ldC ag n off cs = some u) : OpD P o H sl 0 0 u [] := .read fun B a w ρ hs hr => by
  obtain ⟨l, h1, h2⟩ := hr.rel _ _ hH
  have hx' := ev_spec hs hx
  generalize a.eval x = vx at hx'
  cases l with
  | arr v => exact h2.elim
  | box b =>
    obtain ⟨us, h3, h4, h5⟩ := h2
    obtain ⟨v, h6, h7⟩ := ldC_rel (P := P) hT h5 (cells_row h3) hu hl
    refine ⟨v, ?_, h7⟩
    unfold execOp; rw [hop]
    have e : a.eval x = .pointer (some ⟨b, off, none⟩) := by
      have hx' := ev_spec hs hx
      generalize a.eval x = vx at hx'
      cases hx' with
      | p hp => rw [h1] at hp; simp only [Option.some.injEq, Loc.box.injEq] at hp; rw [hp]
    simp [e, Instr.loadAt, Instr.sureAddr, h6]
theorem o_loade {z m : Nat} (hop : o.op = .load T x) (hx : ev sl x = some (.e k off)) (hH : look H k = some (some (.arr E z m cs))) (hT : Ty P T n ag) (hl : (Nat.ble (off + n) cs.length && (ag || n == 1)) = true) (hu : ldC ag n off cs = some u) : OpD P o H sl 0 0 u [] := .read fun B a w ρ hs hr => by
  obtain ⟨l, h1, h2⟩ := hr.rel _ _ hH
  cases l with
  | box v => exact h2.elim
  | arr v =>
    have hx' := ev_spec hs hx
    rcases h2 with ⟨-, -, rfl⟩ | ⟨g, cap, us, sp, rfl, h3, h4, h5, h6, h7, h8, h9⟩
    · simp only [List.length_nil, Bool.and_eq_true, Nat.ble_eq, Bool.or_eq_true, beq_iff_eq] at hl
      obtain rfl : n = 0 := by omega
      obtain rfl : off = 0 := by omega
      obtain rfl : ag = true := hl.2.resolve_right (by simp)
      have hz : (loadVar T ⟨0, 0, none⟩).run P w = .ok (.agg #[]) w := by
        have := run_lda (P := P) (w := w) (b := 0) (off := 0) (c := []) hT (by simp) rfl (by simp)
        simpa using this
      simp only [ldC, List.drop_nil, List.take_nil, cond_true, Option.some.injEq] at hu
      subst hu
      refine ⟨.agg #[], ?_, .a .nil⟩
      unfold execOp; rw [hop]
      generalize e : a.eval x = vx at hx'
      cases hx' with
      | e hp =>
        rename_i g0 n0 c0
        have hz2 : (loadVar T ⟨g0, 0, none⟩).run P w = .ok (.agg #[]) w := by
          have := run_lda (P := P) (w := w) (b := g0) (off := 0) (c := []) hT (by simp) rfl (by simp)
          simpa using this
        simp [e, Instr.loadAt, Instr.sureAddr, hz2]
    · obtain ⟨v, h10, h11⟩ := ldC_rel (P := P) hT h9 (b := g) (fun j v hv => by rw [World.cell?, h5]; simp [List.getElem?_append_left (List.getElem?_eq_some_iff.1 hv).1, hv]) hu hl
      refine ⟨v, ?_, h11⟩
      unfold execOp; rw [hop]
      generalize e : a.eval x = vx at hx'
      cases hx' with
      | e hp =>
        rw [h1] at hp
        simp only [Option.some.injEq, Loc.arr.injEq, Value.slice.injEq, Addr.mk.injEq, and_true] at hp
        obtain ⟨rfl, -, -⟩ := hp
        simp [e, Instr.loadAt, Instr.sureAddr, h10]
theorem o_loadq {xs : List D} (hop : o.op = .load T x) (hx : ev sl x = some (.q xs)) (hT : Ty P T n ag) (hl : (Nat.ble n xs.length && (ag || n == 1)) = true) (hu : ldE ag n 0 xs = some u) : OpD P o H sl 0 0 u [] := .read fun B a w ρ hs hr => by
  have hx' := ev_spec hs hx
  unfold execOp; rw [hop]
  generalize e : a.eval x = vx at hx'
  cases hx' with
  | q h1 h2 h3 =>
    rename_i b o0 vs
    obtain ⟨v, h10, h11⟩ := ldE_rel (P := P) (ρ := ρ) (o := 0) hT h2 h3 hu (by simpa using hl)
    rw [Nat.add_zero] at h10
    exact ⟨v, by simp [e, Instr.loadAt, Instr.sureAddr, h10], h11⟩
theorem run_stv {w : World} {b off : Nat} {T' : TypeId} {c vs : List Value} {v : Value} (hT : Ty P T n ag) (hb : w.heap[b]? = some (.cells c.toArray T' (0, 0))) (hv : v.cells = vs.toArray) (hl : off + n ≤ c.length) (hn : vs.length = n) (h1 : vs.all Value.oneCell' = true) :
    (storeVar T ⟨b, off, none⟩ v).run P w = .ok () (w.setRow b (stL off vs c).toArray) := by
  have hs := run_storeCells_at P b off T' vs 0 c.toArray w hb (by simp; omega) (List.all_eq_true.1 h1)
  simp only [Nat.add_zero] at hs
  unfold storeVar
  rw [Sem.run_bind, run_size hT]
  simp only [Result.andThen_ok, hv, List.size_toArray, hn, ne_eq, not_true, if_false]
  rw [stL_eq _ _ _ (by omega)]
  simpa using hs
theorem o_store (hop : o.op = .store T x y) (hx : ev sl x = some (.p k off)) (hy : ev sl y = some u) (hH : look H k = some (some (.box T' cs))) (hT : Ty P T n ag) (hl : (Nat.ble (off + n) cs.length && (cellsV u).length == n && (cellsV u).all cellV) = true) (hc : stV off (cellsV u) cs = cs') :
    OpD P o H sl 0 0 .un [(k, some (.box T' cs'))] := fun B a w ρ hs hr _ => by
  subst hc
  simp only [Bool.and_eq_true, Nat.ble_eq, beq_iff_eq] at hl
  obtain ⟨⟨hl1, hl2⟩, hl3⟩ := hl
  obtain ⟨l, h1, h2⟩ := hr.rel _ _ hH
  cases l with
  | arr v => exact h2.elim
  | box b =>
    obtain ⟨us, h3, h4, h5⟩ := h2
    obtain ⟨h6, h7⟩ := (ev_spec hs hy).cells hl3
    have hst := run_stv (P := P) (n := n) (off := off) (vs := (a.eval y).cells.toList) (v := a.eval y) hT h3 (by simp) (by rw [h5.length]; exact hl1) (by rw [h6.length]; exact hl2) h7
    refine ⟨.skip, undef, w.setRow b (stL off (a.eval y).cells.toList us).toArray, ρ, ?_, .inr ⟨rfl, rfl⟩, Step.set1 h1 hH rfl (by simp) rfl rfl rfl (fun j hj => setRow_other w b j _ hj) fun ok' hs' => ⟨_, setRow_heap w b _ _ _ _ h3, stL_one off h7 h4, (stV_rel off h6 h5).mono hs' (fun _ _ h => h)⟩, .un⟩
    unfold execOp; rw [hop]
    have e : a.eval x = .pointer (some ⟨b, off, none⟩) := by
      have hx' := ev_spec hs hx
      generalize a.eval x = vx at hx'
      cases hx' with
      | p hp => rw [h1] at hp; simp only [Option.some.injEq, Loc.box.injEq] at hp; rw [hp]
    simp [e, Instr.storeAt, Instr.sureAddr, hst]
theorem run_fa {off b o0 : Nat} {w : World} (hf : Fo P T n off) : (Instr.fieldAt T (.pointer (some ⟨b, o0, none⟩)) n).run P w = .ok (.pointer (some ⟨b, o0 + off, none⟩)) w := by
  have h1 := hf.out
  unfold fieldOff at h1
  cases hu : P.underlying T with
  | none => simp [hu] at h1
  | some d =>
    cases d <;> first | (simp [hu] at h1; done) | skip
    rename_i fs
    simp only [hu] at h1
    cases hfd : fs[n]? with
    | none => simp [hfd] at h1
    | some fd =>
      cases hi : P.info? fd.type with
      | none => simp [hfd, hi] at h1
      | some i =>
        by_cases hz : i.size = 0
        · simp [hfd, hi, hz] at h1
        · simp [hfd, hi, hz] at h1
          simp [Instr.fieldAt, run_underlying hu, hfd, Instr.sureAddr, fieldPlace, sizeOf, typeInfo, hi, hz, addr_add, h1]
theorem o_fa [hf : Fo P T n off] {o0 : Nat} (hop : o.op = .fieldAddr T x n) (hx : ev sl x = some (.p k o0)) : OpD P o H sl 0 0 (.p k (o0 + off)) [] := .read fun B a w ρ hs _ => by
  have hx' := ev_spec hs hx
  unfold execOp; rw [hop]
  generalize e : a.eval x = vx at hx'
  cases hx' with
  | p hp => exact ⟨_, by simp [e, run_fa hf], .p hp⟩
theorem o_fae [hf : Fo P T n off] {o0 : Nat} (hop : o.op = .fieldAddr T x n) (hx : ev sl x = some (.e k o0)) : OpD P o H sl 0 0 (.e k (o0 + off)) [] := .read fun B a w ρ hs _ => by
  have hx' := ev_spec hs hx
  unfold execOp; rw [hop]
  generalize e : a.eval x = vx at hx'
  cases hx' with
  | e hp => exact ⟨_, by simp [e, run_fa hf], .e hp⟩
theorem o_faq [hf : Fo P T n off] {xs ys : List D} (hop : o.op = .fieldAddr T x n) (hx : ev sl x = some (.q xs)) (hy : xs.drop off = ys) : OpD P o H sl 0 0 (.q ys) [] := .read fun B a w ρ hs _ => by
  subst hy
  have hx' := ev_spec hs hx
  unfold execOp; rw [hop]
  generalize e : a.eval x = vx at hx'
  cases hx' with
  | q h1 h2 h3 =>
    refine ⟨_, by simp [e, run_fa hf]; rfl, .q h1 (h2.drop off) fun j v hv => ?_⟩
    rw [Nat.add_assoc]; exact h3 _ _ (by simpa using hv)
theorem run_ix {t E : TypeId} {z bytes len cap m : Nat} {ad : Addr} {i : Int} {w : World} (hS : Sl P t E z bytes) (hm : i = (m : Int)) (hl : m < len) : (Instr.indexAt t (.slice (some ad) len cap) (.int .i64 i)).run P w = .ok (.pointer (some (ad.add (m * z)))) w := by
  obtain ⟨inf, zv, hi, hz, rfl, rfl, hzs⟩ := hS.el
  subst hm
  have hu : (underlying t).run P w = .ok (.slice E) w := run_underlying hS.un w
  have h1 : (0 : Int) ≤ (m : Int) ∧ (m : Int) < (len : Int) := by omega
  simp [Instr.indexAt, asIntOf, hu, h1, sizeOf, typeInfo, hi, hl]
theorem o_ixq {t E : TypeId} {z bytes len m : Nat} {i : Int} {xs ys : List D} [hS : Sl P t E z bytes] (hop : o.op = .indexAddr t x y) (hx : ev sl x = some (.d (.l len xs))) (hy : ev sl y = some (vI i)) (hm : i = (m : Int)) (hl : m < len) (hz : ∀ j d, ys[j]? = some d → xs[m * z + j]? = some d) : OpD P o H sl 0 0 (.q ys) [] := .read fun B a w ρ hs _ => by
  have hx' := ev_spec hs hx
  have hy' := rv_c (ev_spec hs hy)
  unfold execOp; rw [hop]
  generalize e : a.eval x = vx at hx'
  cases hx' with
  | d hx' =>
    cases hx' with
    | nil => omega
    | l h1 _ h2 h3 h4 =>
      obtain ⟨us, h5, h6⟩ := h3.pre (m * z) hz
      refine ⟨_, by simp [e, hy', run_ix hS hm hl, addr_add]; rfl, .q h2 h5 fun j v hv => ?_⟩
      rw [Nat.add_assoc]; exact h4 _ _ (h6 _ _ hv)
theorem o_ixh {t E E' : TypeId} {z bytes len m : Nat} {i : Int} [hS : Sl P t E z bytes] (hop : o.op = .indexAddr t x y) (hx : ev sl x = some (.h k)) (hy : ev sl y = some (vI i)) (hH : look H k = some (some (.arr E' z len cs))) (hm : i = (m : Int)) (hl : m < len) : OpD P o H sl 0 0 (.e k (m * z)) [] := .read fun B a w ρ hs hr => by
  obtain ⟨l, g1, g2⟩ := hr.rel _ _ hH
  have hx' := ev_spec hs hx
  have hy' := rv_c (ev_spec hs hy)
  unfold execOp; rw [hop]
  generalize e : a.eval x = vx at hx'
  cases hx' with
  | h hp =>
    rw [g1] at hp
    obtain rfl := Option.some.inj hp
    rcases g2 with ⟨h1, rfl, rfl⟩ | ⟨g, cap, us, sp, h1, -⟩
    · omega
    · cases h1
      exact ⟨_, by simp [e, hy', run_ix hS hm hl, addr_add], .e g1⟩
theorem o_len_s {t : TypeId} {s : ByteArray} (hop : o.op = .call { callee := .builtin .len, args := #[x], argTypes := #[t] }) (hx : ev sl x = some (vS s)) (ht : P.underlying t = some .string) : OpD P o H sl 0 0 (vI s.size) [] := .read fun B a w ρ hs _ => by
  have hx' := rv_c (ev_spec hs hx)
  refine ⟨_, ?_, .d (.c rfl)⟩
  unfold execOp; rw [hop]
  simp [resolve, invoke, builtin, Builtin.len_, hx', run_underlying ht, goInt]
theorem run_len {t E : TypeId} {z bytes len cap : Nat} {p : Option Addr} {w : World} (hS : Sl P t E z bytes) : (Builtin.len_ #[t] T #[.slice p len cap]).run P w = .ok (.int .i64 len) w := by
  simp [Builtin.len_, run_underlying hS.un, goInt]
theorem o_len_d {t E : TypeId} {z bytes len : Nat} {xs : List D} [hS : Sl P t E z bytes] (hop : o.op = .call { callee := .builtin .len, args := #[x], argTypes := #[t] }) (hx : ev sl x = some (.d (.l len xs))) : OpD P o H sl 0 0 (vI len) [] := .read fun B a w ρ hs _ => by
  have hx' := ev_spec hs hx
  refine ⟨_, ?_, .d (.c rfl)⟩
  unfold execOp; rw [hop]
  generalize e : a.eval x = vx at hx'
  cases hx' with
  | d hx' => cases hx' <;> simp [resolve, invoke, builtin, e, run_len hS]
theorem o_len_n {t E : TypeId} {z bytes : Nat} [hS : Sl P t E z bytes] (hop : o.op = .call { callee := .builtin .len, args := #[x], argTypes := #[t] }) (hx : ev sl x = some (.d (.c (.slice none 0 0)))) : OpD P o H sl 0 0 (vI 0) [] := .read fun B a w ρ hs _ => by
  have hx' := rv_c (ev_spec hs hx)
  refine ⟨_, ?_, .d (.c rfl)⟩
  unfold execOp; rw [hop]
  simp [resolve, invoke, builtin, hx', run_len hS]
theorem o_len_h {t E E' : TypeId} {z z' bytes len : Nat} [hS : Sl P t E z bytes] (hop : o.op = .call { callee := .builtin .len, args := #[x], argTypes := #[t] }) (hx : ev sl x = some (.h k)) (hH : look H k = some (some (.arr E' z' len cs))) : OpD P o H sl 0 0 (vI len) [] := .read fun B a w ρ hs hr => by
  obtain ⟨l, g1, g2⟩ := hr.rel _ _ hH
  have hx' := ev_spec hs hx
  refine ⟨_, ?_, .d (.c rfl)⟩
  unfold execOp; rw [hop]
  generalize e : a.eval x = vx at hx'
  cases hx' with
  | h hp =>
    rw [g1] at hp
    obtain rfl := Option.some.inj hp
    rcases g2 with ⟨h1, rfl, rfl⟩ | ⟨g, cap, us, sp, h1, -⟩
    · cases h1; simp [resolve, invoke, builtin, e, run_len hS]
    · cases h1; simp [resolve, invoke, builtin, e, run_len hS]
theorem o_len_v {t E : TypeId} {z z' bytes len o1 : Nat} [hS : Sl P t E z bytes] (hop : o.op = .call { callee := .builtin .len, args := #[x], argTypes := #[t] }) (hx : ev sl x = some (.s k o1 len z')) : OpD P o H sl 0 0 (vI len) [] := .read fun B a w ρ hs hr => by
  have hx' := ev_spec hs hx
  refine ⟨_, ?_, .d (.c rfl)⟩
  unfold execOp; rw [hop]
  generalize e : a.eval x = vx at hx'
  cases hx' <;> simp [resolve, invoke, builtin, e, run_len hS]
theorem o_field [hf : Fp P T n off k ag] {xs : List V} (hop : o.op = .field T x n) (hx : ev sl x = some (.a xs)) (hl : (Nat.ble (off + k) xs.length && (ag || k == 1)) = true) (hu : ldC ag k off xs = some u) : OpD P o H sl 0 0 u [] := .read fun B a w ρ hs _ => by
  obtain ⟨vs, e, h2⟩ := rv_a (ev_spec hs hx)
  simp only [Bool.and_eq_true, Nat.ble_eq, Bool.or_eq_true, beq_iff_eq] at hl
  have h1 := hf.out
  unfold fieldPart at h1
  have hlen := h2.length
  unfold execOp; rw [hop]
  cases hu' : P.underlying T with
  | none => simp [hu'] at h1
  | some d =>
    cases d <;> first | (simp [hu'] at h1; done) | skip
    rename_i fs
    simp only [hu'] at h1
    cases hfd : fs[n]? with
    | none => simp [hfd] at h1
    | some fd =>
      cases hi : P.info? fd.type with
      | none => simp [hfd, hi] at h1
      | some i =>
        cases hag : P.underlying fd.type with
        | none => simp [hfd, hi, hag] at h1
        | some dd =>
          simp only [hfd, hi, hag, Option.bind_some, Option.map_some, Option.some.injEq, Prod.mk.injEq] at h1
          obtain ⟨rfl, rfl, hag2⟩ := h1
          have hisag : (isAgg fd.type).run P w = .ok ag w := by
            unfold isAgg
            rw [Sem.run_bind, run_underlying hag w]
            cases dd <;> simp_all
          cases ag with
          | true =>
            simp only [ldC, cond_true, Option.some.injEq] at hu
            subst hu
            refine ⟨.agg (((vs.drop fd.offset).take i.size).toArray), ?_, .a ((h2.drop _).take _)⟩
            simp [Instr.field, run_underlying hu', hfd, e, asAgg, part, hisag, sizeOf, typeInfo, hi]
          | false =>
            simp only [ldC, cond_false] at hu
            obtain ⟨v, h3, h4⟩ := h2.get hu
            refine ⟨v, ?_, h4⟩
            simp [Instr.field, run_underlying hu', hfd, e, asAgg, part, hisag, h3]
theorem o_extract {xs : List V} (hop : o.op = .extract x n) (hx : ev sl x = some (.t xs)) (hu : xs[n]? = some u) : OpD P o H sl 0 0 u [] := .read fun B a w ρ hs _ => by
  obtain ⟨vs, e, h2⟩ := rv_t (ev_spec hs hx)
  obtain ⟨v, h3, h4⟩ := h2.get hu
  refine ⟨v, ?_, h4⟩
  unfold execOp; rw [hop]
  simp [e, Instr.extract, h3]
theorem o_not {b : Bool} (hop : o.op = .unOp .not T x) (hx : ev sl x = some (vB b)) : OpD P o H sl 0 0 (vB (!b)) [] := .read fun B a w ρ hs _ => by
  have hx' := rv_c (ev_spec hs hx)
  refine ⟨_, ?_, .d (.c rfl)⟩
  unfold execOp; rw [hop]
  simp [hx', Op.unary]
end
end Go.Proofs.YtlbnhhfaedhgfaaDoor
namespace Go.Proofs.YtlbnhhfaedhgfaaDoor
set_option linter.unusedSimpArgs false
set_option linter.unusedVariables false
open Go.RowKit

inductive Kont where
  | fn (post : St → Prop)
  | seq (y : Code) (k : Kont)
  | block (id : Nat) (k : Kont)
  | loop (I : Nat → St → Prop) (n : Nat) (k : Kont)
  | cut (I : St → Prop) (k : Kont)
def Wk (Γ : Cx) (st st' : St) : Prop := ∀ a w, Rel Γ st a w → Rel Γ st' a w
theorem Wk.refl (Γ : Cx) (st : St) : Wk Γ st st := fun _ _ h => h
theorem Wk.trans {Γ : Cx} {a b c : St} (h : Wk Γ a b) (k : Wk Γ b c) : Wk Γ a c := fun x w hr => k x w (h x w hr)
def WK (Γ : Cx) : Kont → Exit → St → Prop
  | .fn post, .ret, st => ∃ st', Wk Γ st st' ∧ post st'
  | .fn post, .normal, st => ∃ st', Wk Γ st st' ∧ post st'
  | .fn _, _, _ => False
  | .seq y k, .normal, st => ∀ a w, Rel Γ st a w → y.wp Γ.P (fun e a w => ∃ st, WK Γ k e st ∧ Rel Γ st a w) a w
  | .seq _ k, e, st => WK Γ k e st
  | .block id k, .exit id', st => if id' = id then WK Γ k .normal st else WK Γ k (.exit id') st
  | .block _ k, e, st => WK Γ k e st
  | .loop I n _, .normal, st => ∃ m st', Wk Γ st st' ∧ m < n ∧ I m st'
  | .loop _ _ k, e, st => WK Γ k e st
  | .cut I _, .normal, st => ∃ st', Wk Γ st st' ∧ I st'
  | .cut _ k, e, st => WK Γ k e st
def QQ (Γ : Cx) (k : Kont) (e : Exit) (a : Act) (w : World) : Prop := ∃ st, WK Γ k e st ∧ Rel Γ st a w
def WC (Γ : Cx) (c : Code) (k : Kont) (st : St) : Prop := ∀ a w, Rel Γ st a w → c.wp Γ.P (QQ Γ k) a w
def WL (Γ : Cx) (ops : Array Oper) (rest : List Oper) (k : Kont) (st : St) : Prop := ∀ a w, Rel Γ st a w → wpList Γ.P ops (QQ Γ k) rest a w

theorem wp_loop' {P : Program} {Q : Exit → Act → World → Prop} {a : Act} {w : World} {c : Code} (I : Nat → Act → World → Prop) {n : Nat} (h₀ : I n a w)
    (round : ∀ n a w, I n a w → c.wp P (Exit.then (fun a' w' => ∃ m, m < n ∧ I m a' w') Q) a w) : (Code.loop c).wp P Q a w := by
  intro b k cs
  have key : ∀ n a w, I n a w →
      ∃ e a' w', Q e a' w' ∧ Arrives P (lone (b.at a (.code c :: .inLoop c :: k)) cs w) b k cs e a' w' := by
    intro n
    induction n using Nat.strongRecOn with
    | _ n ih =>
      intro a w hI
      obtain ⟨e, a₁, w₁, hq, harr⟩ := round n a w hI b (.inLoop c :: k) cs
      cases e with
      | normal =>
        obtain ⟨m, hlt, hI₁⟩ := hq
        obtain ⟨e₂, a₂, w₂, hq₂, harr₂⟩ := ih m hlt a₁ w₁ hI₁
        exact ⟨e₂, a₂, w₂, hq₂, .of_steps (Steps.trans harr (.one step_inLoop)) harr₂⟩
      | exit id => exact ⟨_, a₁, w₁, hq, .pass (x := .inLoop c) rfl (fun _ _ => .inl (by simp)) harr⟩
      | goto l => exact ⟨_, a₁, w₁, hq, .pass (x := .inLoop c) rfl (fun _ _ => .inl (by simp)) harr⟩
      | ret => exact ⟨_, a₁, w₁, hq, .pass (x := .inLoop c) rfl (fun _ _ => .inl (by simp)) harr⟩
      | panic ch => exact ⟨_, a₁, w₁, hq, .pass (x := .inLoop c) rfl (fun _ _ => .inl (by simp)) harr⟩
      | outgrown => exact ⟨_, a₁, w₁, hq, .pass (x := .inLoop c) rfl (fun _ _ => .inl (by simp)) harr⟩
  obtain ⟨e, a', w', hq, harr⟩ := key n a w h₀
  exact ⟨e, a', w', hq, .of_steps (.one step_loop) harr⟩

section
variable {Γ : Cx} {k : Kont} {st : St} {x y : Code} {c : Operand} {b : Bool} {id : Nat}
theorem wc_seq (h : WC Γ x (.seq y k) st) : WC Γ (.seq x y) k st := fun a w hr => wp_seq (wp_mono (h a w hr) (by
  rintro e a w ⟨st, hk, hr⟩
  cases e <;> first | exact hk a w hr | exact ⟨st, hk, hr⟩))
theorem wc_skip (h : WK Γ k .normal st) : WC Γ .skip k st := fun _ _ hr => wp_skip ⟨st, h, hr⟩
theorem wc_ret (h : WK Γ k .ret st) : WC Γ .ret k st := fun _ _ hr => wp_ret ⟨st, h, hr⟩
theorem wc_exit (h : WK Γ k (.exit id) st) : WC Γ (.exit id) k st := fun _ _ hr => wp_exit ⟨st, h, hr⟩
theorem wc_block (h : WC Γ x (.block id k) st) : WC Γ (.block id x) k st := fun a w hr => wp_block (wp_mono (h a w hr) (by
  rintro e a w ⟨st, hk, hr⟩
  cases e with
  | exit id' =>
    simp only [WK] at hk
    simp only [Exit.inBlock]
    split
    · rename_i e; rw [if_pos e] at hk; exact ⟨st, hk, hr⟩
    · rename_i e; rw [if_neg e] at hk; exact ⟨st, hk, hr⟩
  | _ => exact ⟨st, hk, hr⟩))
theorem ev_bool {B : Nat → Prop} {sl : List (Nat × V)} {ρ : Lc} {a : Act} {w : World} (hs : SR B sl ρ a w) (hc : ev sl c = some (vB b)) : a.eval c = .bool b := rv_c (ev_spec hs hc)
theorem wc_cond (hc : ev st.sl c = some (vB b)) (ht : b = true → WC Γ x k st) (hf : b = false → WC Γ y k st) : WC Γ (.cond c x y) k st := fun a w hr => by
  obtain ⟨ρ, hp⟩ := hr
  exact wp_cond_split (ev_bool hp.sr hc) (fun e => ht e a w ⟨ρ, hp⟩) (fun e => hf e a w ⟨ρ, hp⟩)
theorem wc_cond_t (hc : ev st.sl c = some (vB true)) (h : WC Γ x k st) : WC Γ (.cond c x y) k st := wc_cond hc (fun _ => h) (fun e => by cases e)
theorem wc_cond_f (hc : ev st.sl c = some (vB false)) (h : WC Γ y k st) : WC Γ (.cond c x y) k st := wc_cond hc (fun e => by cases e) (fun _ => h)
theorem wc_cond_d {p : Prop} [Decidable p] (hc : ev st.sl c = some (vB (decide p))) (ht : p → WC Γ x k st) (hf : ¬ p → WC Γ y k st) : WC Γ (.cond c x y) k st := wc_cond hc (fun e => ht (by simpa using e)) (fun e => hf (by simpa using e))
theorem wc_loop (I : Nat → St → Prop) (n : Nat) (st' : St) (hw : Wk Γ st st') (h0 : I n st') (hr : ∀ n st, I n st → WC Γ x (.loop I n k) st) : WC Γ (.loop x) k st := fun a w hrel =>
  wp_loop' (fun n a w => ∃ st, I n st ∧ Rel Γ st a w) ⟨st', h0, hw a w hrel⟩ fun n a w ⟨st, hI, hrel⟩ => wp_mono (hr n st hI a w hrel) (by
    rintro e a w ⟨st, hk, hr⟩
    cases e with
    | normal =>
      obtain ⟨m, st', h1, h2, h3⟩ := hk
      exact ⟨m, h2, st', h3, h1 a w hr⟩
    | _ => exact ⟨st, hk, hr⟩)
theorem wc_region {l : List Oper} (h : WL Γ l.toArray l k st) : WC Γ (.region id l.toArray false) k st := fun a w hr => wp_region_lit (h a w hr)
theorem wc_wk {st' : St} (hw : Wk Γ st st') (h : WC Γ x k st') : WC Γ x k st := fun a w hr => h a w (hw a w hr)
theorem wk_fn_r {post : St → Prop} {st' : St} (hw : Wk Γ st st') (h : post st') : WK Γ (.fn post) .ret st := ⟨st', hw, h⟩
theorem wk_fn_n {post : St → Prop} {st' : St} (hw : Wk Γ st st') (h : post st') : WK Γ (.fn post) .normal st := ⟨st', hw, h⟩
theorem wk_seq (h : WC Γ y k st) : WK Γ (.seq y k) .normal st := h
theorem wk_seq_r (h : WK Γ k .ret st) : WK Γ (.seq y k) .ret st := h
theorem wk_seq_e (h : WK Γ k (.exit id) st) : WK Γ (.seq y k) (.exit id) st := h
theorem wk_block_n (h : WK Γ k .normal st) : WK Γ (.block id k) .normal st := h
theorem wk_block_r (h : WK Γ k .ret st) : WK Γ (.block id k) .ret st := h
theorem wk_block_e (h : WK Γ k .normal st) : WK Γ (.block id k) (.exit id) st := by simp only [WK, if_true]; exact h
theorem wk_block_o {id' : Nat} (he : Nat.beq id' id = false) (h : WK Γ k (.exit id') st) : WK Γ (.block id k) (.exit id') st := by
  simp only [WK]
  rw [if_neg (fun e => by subst e; simp at he)]; exact h
theorem wk_loop_r {I : Nat → St → Prop} {n : Nat} (h : WK Γ k .ret st) : WK Γ (.loop I n k) .ret st := h
theorem wk_loop_e {I : Nat → St → Prop} {n : Nat} (h : WK Γ k (.exit id) st) : WK Γ (.loop I n k) (.exit id) st := h
theorem wk_loop_n {I : Nat → St → Prop} {n : Nat} (m : Nat) {st' : St} (hw : Wk Γ st st') (hm : m < n) (h : I m st') : WK Γ (.loop I n k) .normal st := ⟨m, st', hw, hm, h⟩
theorem wk_cut_n {I : St → Prop} {st' : St} (hw : Wk Γ st st') (h : I st') : WK Γ (.cut I k) .normal st := ⟨st', hw, h⟩
theorem wk_cut_r {I : St → Prop} (h : WK Γ k .ret st) : WK Γ (.cut I k) .ret st := h
theorem wk_cut_e {I : St → Prop} (h : WK Γ k (.exit id) st) : WK Γ (.cut I k) (.exit id) st := h
end

section
variable {Γ : Cx} {k : Kont} {sl : List (Nat × V)} {hp : Hp} {st : St} {o : Oper} {rest : List Oper} {ops : Array Oper} {lo nn : Nat} {u : V} {h : Hp}
theorem wl_nil (hk : WK Γ k .normal st) : WL Γ ops [] k st := fun _ _ hr => wpList_nil ⟨st, hk, hr⟩
theorem RelP.up {Γ : Cx} {st : St} {ρ : Lc} {a : Act} {w : World} (hr : RelP Γ st ρ a w) : ∀ b, w.heap.size ≤ b → Γ.B b := fun b hb => hr.bup b (Nat.le_trans hr.kp.size hb)
theorem wpList_run {P : Program} {Q : Exit → Act → World → Prop} {a : Act} {w : World} (hw : Region.wanted o (yielded ops a.tmps) = true) (hop : o.wp P a w (wpList P ops Q rest) Q) : wpList P ops Q (o :: rest) a w := by
  unfold wpList; rw [if_pos hw]; exact .inl hop
theorem Oper.wp_mono' {P : Program} {a : Act} {w : World} {K K' : Act → World → Prop} {Q Q' : Exit → Act → World → Prop} (h : o.wp P a w K Q) (hk : ∀ a w, K a w → K' a w) (hq : ∀ e a w, Q e a w → Q' e a w) : o.wp P a w K' Q' := by
  unfold Oper.wp at *
  revert h
  generalize (execOp a.eval o).run P w = r
  intro h
  cases r with
  | ok n w' =>
    cases n <;> first | exact hk _ _ h | exact h.elim | skip
    · exact Calls.mono h fun e w' he => by
        cases e with
        | returned v => exact hk _ _ he
        | panicked c => exact hq _ _ _ he
        | outgrown => obtain ⟨a, w, h⟩ := he; exact ⟨a, w, hq _ _ _ h⟩
    · exact Rows.mono h fun v w' he => hk _ _ he
  | halt x w' => cases x <;> first | exact hq _ _ _ h | exact h.elim
theorem blt_lt {a b : Nat} (h : Nat.blt a b = true) : a < b := by
  have := Nat.le_of_ble_eq_true h; omega
def freshB : Hp → Nat → Nat → Bool
  | [], _, _ => true
  | (k, _) :: r, lo, nn => (Nat.blt k lo || Nat.ble (lo + nn) k) && freshB r lo nn
theorem freshB_look : ∀ {h : Hp} {lo nn : Nat}, freshB h lo nn = true → ∀ {k : Nat}, lo ≤ k → k < lo + nn → look h k = none
  | [], _, _, _, _, _, _ => rfl
  | (j, b) :: r, lo, nn, h, k, h1, h2 => by
    simp only [freshB, Bool.and_eq_true, Bool.or_eq_true] at h
    rw [look_cons, if_neg (by
      rintro rfl
      rcases h.1 with h3 | h3
      · have := blt_lt h3; omega
      · have := Nat.le_of_ble_eq_true h3; omega)]
    exact freshB_look h.2 h1 h2
theorem fresh0 : ∀ (h : Hp) (lo : Nat), freshB h lo 0 = true
  | [], _ => rfl
  | (k, b) :: r, lo => by simp only [freshB, fresh0 r, Bool.and_true, Nat.add_zero]; simp [Nat.blt]; omega
theorem fresh_of {Γ : Cx} {st : St} {ρ : Lc} {a : Act} {w : World} (hr : RelP Γ st ρ a w) {lo nn : Nat} (hf : freshB st.hp lo nn = true) : ∀ k, lo ≤ k → k < lo + nn → ρ k = none := fun k h1 h2 => by
  cases e : ρ k with
  | none => rfl
  | some l => exact absurd (freshB_look hf h1 h2) (hr.dom k l e)
theorem wl_v {ψ : V → Hp → Prop} {d : Tmp} (hm : OpV Γ.P o hp sl lo nn ψ) (hg : o.guard = none) (hd : o.dst = some d) (hdl : Nat.blt d Γ.nt = true) (hf : freshB hp lo nn = true)
    (hk : ∀ u h, ψ u h → WL Γ ops rest k ⟨(d, u) :: sl, h ++ hp⟩) : WL Γ ops (o :: rest) k ⟨sl, hp⟩ := fun a w ⟨ρ, hr⟩ => by
  refine wpList_run (by simp [Region.wanted, hg]) (Oper.wp_mono' (hm Γ.B a w ρ hr.up hr.defers hr.sr hr.hr (fresh_of hr hf)) ?_ fun _ _ _ h => h.elim)
  rintro a' w' ⟨v, u, h, ρ', rfl, hψ, hs, hv⟩
  have := hr.step (d := some d) (fun _ _ h => h) hs hv (fun t e => by cases e; exact blt_lt hdl)
  rw [hd]
  exact hk u h hψ _ _ ⟨ρ', this⟩
theorem wl_d {d : Tmp} (hm : OpD Γ.P o hp sl lo nn u h) (hg : o.guard = none) (hd : o.dst = some d) (hdl : Nat.blt d Γ.nt = true) (hf : freshB hp lo nn = true) (hk : WL Γ ops rest k ⟨(d, u) :: sl, h ++ hp⟩) : WL Γ ops (o :: rest) k ⟨sl, hp⟩ :=
  wl_v hm.v hg hd hdl hf (by rintro _ _ ⟨rfl, rfl⟩; exact hk)
theorem wl_r {d : Tmp} (hm : OpD Γ.P o hp sl 0 0 u []) (hg : o.guard = none) (hd : o.dst = some d) (hdl : Nat.blt d Γ.nt = true) (hk : WL Γ ops rest k ⟨(d, u) :: sl, hp⟩) : WL Γ ops (o :: rest) k ⟨sl, hp⟩ :=
  wl_d hm hg hd hdl (fresh0 _ _) hk
theorem wl_1 {d : Tmp} {e : Nat × Option Blk} (hm : OpD Γ.P o hp sl lo nn u [e]) (hg : o.guard = none) (hd : o.dst = some d) (hdl : Nat.blt d Γ.nt = true) (hf : freshB hp lo nn = true) (hk : WL Γ ops rest k ⟨(d, u) :: sl, e :: hp⟩) : WL Γ ops (o :: rest) k ⟨sl, hp⟩ := wl_d hm hg hd hdl hf hk
theorem wl_2 {d : Tmp} {e e' : Nat × Option Blk} (hm : OpD Γ.P o hp sl lo nn u [e, e']) (hg : o.guard = none) (hd : o.dst = some d) (hdl : Nat.blt d Γ.nt = true) (hf : freshB hp lo nn = true) (hk : WL Γ ops rest k ⟨(d, u) :: sl, e :: e' :: hp⟩) : WL Γ ops (o :: rest) k ⟨sl, hp⟩ := wl_d hm hg hd hdl hf hk
theorem wl_0 {e : Nat × Option Blk} (hm : OpD Γ.P o hp sl lo nn u [e]) (hg : o.guard = none) (hd : o.dst = none) (hf : freshB hp lo nn = true) (hk : WL Γ ops rest k ⟨sl, e :: hp⟩) : WL Γ ops (o :: rest) k ⟨sl, hp⟩ := fun a w ⟨ρ, hr⟩ => by
  refine wpList_run (by simp [Region.wanted, hg]) (Oper.wp_mono' (hm.v Γ.B a w ρ hr.up hr.defers hr.sr hr.hr (fresh_of hr hf)) ?_ fun _ _ _ h => h.elim)
  rintro a' w' ⟨v, u, h, ρ', rfl, ⟨rfl, rfl⟩, hs, hv⟩
  have := hr.step (d := none) (fun _ _ h => h) hs hv (fun t e => by cases e)
  rw [hd]
  exact hk _ _ ⟨ρ', this⟩
theorem yields {B : Nat → Prop} {j t : Nat} {oj : Oper} {b : Bool} {sl : List (Nat × V)} {ρ : Lc} {a : Act} {w : World} (hs : SR B sl ρ a w) (hj : ops[j]? = some oj) (ht : oj.dst = some t) (hb : look sl t = some (vB b)) : yielded ops a.tmps j = some b := by
  obtain ⟨v, h1, h2⟩ := hs t _ hb
  have := rv_c h2
  subst this
  simp [yielded, hj, ht, h1]
theorem wl_gt {d : Option Tmp} {op : Op} {ty : TypeId} {pos : String} {af : Array Edge} {j t : Nat} {oj : Oper} {b : Bool} (hj : ops[j]? = some oj) (ht : oj.dst = some t) (hb : look sl t = some (vB b)) (h : WL Γ ops (⟨d, op, ty, pos, af, none⟩ :: rest) k ⟨sl, hp⟩) : WL Γ ops (⟨d, op, ty, pos, af, some (j, b)⟩ :: rest) k ⟨sl, hp⟩ := fun a w ⟨ρ, hr⟩ => by
  have h1 := h a w ⟨ρ, hr⟩
  unfold wpList at h1 ⊢
  rw [if_pos (by simp [Region.wanted])] at h1
  rw [if_pos (by simp [Region.wanted, yields hr.sr hj ht hb])]
  exact h1
theorem wl_split (t : Nat) {b : Bool} (hb : look sl t = some (vB b)) (ht : b = true → WL Γ ops rest k ⟨(t, vB true) :: sl, hp⟩) (hf : b = false → WL Γ ops rest k ⟨(t, vB false) :: sl, hp⟩) : WL Γ ops rest k ⟨sl, hp⟩ := fun a w ⟨ρ, hr⟩ => by
  have key : RelP Γ ⟨(t, vB b) :: sl, hp⟩ ρ a w := by
    refine ⟨hr.defers, hr.size, hr.kp, hr.ext0, hr.own, hr.dom, hr.dom0, hr.bup, hr.hr, fun t' u hu => ?_⟩
    simp only [look_cons] at hu
    split at hu
    · obtain rfl : t = t' := by assumption
      obtain rfl := Option.some.inj hu
      exact hr.sr t _ hb
    · exact hr.sr t' u hu
  cases b
  · exact hf rfl a w ⟨ρ, key⟩
  · exact ht rfl a w ⟨ρ, key⟩
end
end Go.Proofs.YtlbnhhfaedhgfaaDoor
namespace Go.Proofs.YtlbnhhfaedhgfaaDoor
set_option linter.unusedSimpArgs false
set_option linter.unusedVariables false
open Go.RowKit

mutual
inductive Vw (H : Hp) (f : List (Nat × Nat)) : V → V → Prop
  | d (x : D) : Vw H f (.d x) (.d x)
  | q (xs : List D) : Vw H f (.q xs) (.q xs)
  | un (u : V) : Vw H f u .un
  | mp {i k : Nat} : look f i = some k → Vw H f (.mp k) (.mp i)
  | fmp {k clock : Nat} {em : Array MapEntry} {es : List (Value × Value)} : (f.map (·.2)).contains k = false → look H k = some (some (.ob (.map em clock))) → em.toList.map (fun e => (e.key, e.val)) = es → Vw H f (.mp k) (.d (.m es))
  | nil : Vw H f (.d (.c (.slice none 0 0))) (.d (.l 0 []))
  | p {i k o : Nat} : look f i = some k → Vw H f (.p k o) (.p i o)
  | h {i k : Nat} : look f i = some k → Vw H f (.h k) (.h i)
  | s {i k o n z : Nat} : look f i = some k → Vw H f (.s k o n z) (.s i o n z)
  | e {i k o : Nat} : look f i = some k → Vw H f (.e k o) (.e i o)
  | fh {k E z n : Nat} {cs : List V} {ds : List D} : (f.map (·.2)).contains k = false → look H k = some (some (.arr E z n cs)) → Vws H f cs (ds.map .d) → Vw H f (.h k) (.d (.l n ds))
  | fs {k E z N o n : Nat} {cs : List V} {ds ds' : List D} : (f.map (·.2)).contains k = false → look H k = some (some (.arr E z N cs)) → Vws H f cs (ds.map .d) → o + n ≤ N → (ds.drop (o * z)).take (n * z) = ds' → Vw H f (.s k o n z) (.d (.l n ds'))
  | a {xs ys : List V} : Vws H f xs ys → Vw H f (.a xs) (.a ys)
  | t {xs ys : List V} : Vws H f xs ys → Vw H f (.t xs) (.t ys)
inductive Vws (H : Hp) (f : List (Nat × Nat)) : List V → List V → Prop
  | nil : Vws H f [] []
  | cons {x y : V} {xs ys : List V} : Vw H f x y → Vws H f xs ys → Vws H f (x :: xs) (y :: ys)
end
def sub (ρ : Lc) (f : List (Nat × Nat)) : Lc := fun i => (look f i).bind ρ
theorem sub_some {ρ : Lc} {f : List (Nat × Nat)} {i k : Nat} (h : look f i = some k) : sub ρ f i = ρ k := by simp [sub, h]
theorem sub_inv {ρ : Lc} {f : List (Nat × Nat)} {i : Nat} {l : Loc} (h : sub ρ f i = some l) : ∃ k, look f i = some k ∧ ρ k = some l := by
  unfold sub at h
  cases e : look f i with
  | none => simp [e] at h
  | some k => exact ⟨k, rfl, by simpa [e] using h⟩
theorem look_mem {α : Type} {i : Nat} {x : α} : ∀ {f : List (Nat × α)}, look f i = some x → (i, x) ∈ f
  | [], h => by simp [look] at h
  | (j, y) :: r, h => by
    rw [look_cons] at h
    split at h
    · obtain rfl : j = i := by assumption
      obtain rfl := Option.some.inj h
      exact List.mem_cons_self
    · exact List.mem_cons_of_mem _ (look_mem h)
def aliveB (H : Hp) (f : List (Nat × Nat)) : Bool := f.all fun e => match look H e.2 with | some (some _) => true | _ => false
theorem aliveB_spec {H : Hp} {f : List (Nat × Nat)} (h : aliveB H f = true) {i k : Nat} (hi : look f i = some k) : ∃ blk, look H k = some (some blk) := by
  have := List.all_eq_true.1 h _ (look_mem hi)
  simp only at this
  split at this
  · exact ⟨_, by assumption⟩
  · cases this
def olds : List (Nat × Nat) → Bool
  | [] => true
  | e :: r => (r.all fun x => !Nat.beq x.2 e.2) && olds r
theorem olds_inj : ∀ {f : List (Nat × Nat)}, olds f = true → ∀ {i j k : Nat}, look f i = some k → look f j = some k → i = j
  | [], _, i, j, k, h, _ => by simp [look] at h
  | (a, b) :: r, h, i, j, k, h1, h2 => by
    simp only [olds, Bool.and_eq_true] at h
    have hne : ∀ x, look r x = some b → False := fun x hx => by
      have := List.all_eq_true.1 h.1 _ (look_mem hx)
      simp at this
    rw [look_cons] at h1 h2
    split at h1
    · obtain rfl := Option.some.inj h1
      split at h2
      · subst_vars; rfl
      · exact (hne j h2).elim
    · split at h2
      · obtain rfl := Option.some.inj h2
        exact (hne i h1).elim
      · exact olds_inj h.2 h1 h2
section
variable {B : Nat → Prop} {H : Hp} {f : List (Nat × Nat)} {ρ : Lc} {w : World} {ok' : Nat → Prop}
mutual
theorem Vw.rv (hr : HR B H ρ w) (hs : ∀ b, okb B w ρ b → ok' b) (hz : ∀ k blk l b, (f.map (·.2)).contains k = false → look H k = some (some blk) → ρ k = some l → l.bl = some b → ok' b) : ∀ {x y : V} {v : Value}, Vw H f x y → RV w (okb B w ρ) ρ x v → RV w ok' (sub ρ f) y v
  | _, _, _, .d x, .d h => .d (h.mono fun b hb => ⟨hs b hb, rfl⟩)
  | _, _, _, .q xs, .q h1 h2 h3 => .q (hs _ h1) (h2.mono fun b hb => ⟨hs b hb, rfl⟩) h3
  | _, _, _, .un u, _ => .un
  | _, _, _, .mp hi, .mp h => .mp ((sub_some hi).trans h)
  | _, _, _, .fmp hk hH he, h => by
    obtain ⟨l, h1, h2⟩ := hr.rel _ _ hH
    cases h with
    | mp hp =>
      rw [h1] at hp
      obtain rfl := Option.some.inj hp
      exact .d (.m (hz _ _ _ _ hk hH h1 rfl) h2 he)
  | _, _, _, .nil, h => by rw [rv_c h]; exact .d (.nil _ _)
  | _, _, _, .p hi, .p h => .p ((sub_some hi).trans h)
  | _, _, _, .h hi, .h h => .h ((sub_some hi).trans h)
  | _, _, _, .s hi, .s h h2 h3 => .s ((sub_some hi).trans h) h2 h3
  | _, _, _, .s hi, .s0 h h2 => .s0 ((sub_some hi).trans h) h2
  | _, _, _, .e hi, .e h => .e ((sub_some hi).trans h)
  | _, _, _, .fh (ds := ds) hk hH hc, h => by
    obtain ⟨l, h1, h2⟩ := hr.rel _ _ hH
    cases h with
    | h hp =>
      rw [h1] at hp
      obtain rfl := Option.some.inj hp
      rcases h2 with ⟨h3, rfl, rfl⟩ | ⟨g, cap, us, sp, h3, h4, h5, h6, h7, h8, h9, h10⟩
      · cases h3
        cases ds with
        | nil => exact .d (.nil _ _)
        | cons => cases hc
      · cases h3
        have h11 := (Vws.rvs hr hs hz hc h10).ofD
        refine .d (.l h4 (Nat.le_trans h4 h5) (hz _ _ _ _ hk hH h1 rfl) h11 fun j v hv => ?_)
        rw [World.cell?, h6]
        simp [List.getElem?_append_left (List.getElem?_eq_some_iff.1 hv).1, hv]
  | _, _, _, .fs hk hH hc hl hd, h => by
    obtain ⟨l, h1, h2⟩ := hr.rel _ _ hH
    subst hd
    cases h with
    | s0 => simp only [Nat.zero_mul, List.take_zero]; exact .d (.nil _ _)
    | s hp hl2 hc2 =>
      rw [h1] at hp
      obtain rfl := Option.some.inj hp
      rcases h2 with ⟨h3, rfl, rfl⟩ | ⟨g, cap, us, sp, h3, h4, h5, h6, h7, h8, h9, h10⟩
      · cases h3
      · cases h3
        have h11 := (Vws.rvs hr hs hz hc h10).ofD
        refine .d (.l (by omega) (by omega) (hz _ _ _ _ hk hH h1 rfl) ((h11.drop _).take _) fun j v hv => ?_)
        rw [List.getElem?_take] at hv
        split at hv
        · simp only [List.getElem?_drop] at hv
          rw [World.cell?, h6]
          simp [List.getElem?_append_left (List.getElem?_eq_some_iff.1 hv).1, hv]
        · cases hv
  | _, _, _, .a h, hv => by
    obtain ⟨vs, rfl, h2⟩ := rv_a hv
    exact .a (Vws.rvs hr hs hz h h2)
  | _, _, _, .t h, hv => by
    obtain ⟨vs, rfl, h2⟩ := rv_t hv
    exact .t (Vws.rvs hr hs hz h h2)
theorem Vws.rvs (hr : HR B H ρ w) (hs : ∀ b, okb B w ρ b → ok' b) (hz : ∀ k blk l b, (f.map (·.2)).contains k = false → look H k = some (some blk) → ρ k = some l → l.bl = some b → ok' b) : ∀ {xs ys : List V} {vs : List Value}, Vws H f xs ys → RVs w (okb B w ρ) ρ xs vs → RVs w ok' (sub ρ f) ys vs
  | _, _, _, .nil, .nil => .nil
  | _, _, _, .cons h1 h2, .cons h3 h4 => .cons (Vw.rv hr hs hz h1 h3) (Vws.rvs hr hs hz h2 h4)
end
inductive Vb (H : Hp) (f : List (Nat × Nat)) : Blk → Blk → Prop
  | box {T : TypeId} {xs ys : List V} : Vws H f xs ys → Vb H f (.box T xs) (.box T ys)
  | arr {E : TypeId} {z n : Nat} {xs ys : List V} : Vws H f xs ys → Vb H f (.arr E z n xs) (.arr E z n ys)
  | ob (o : Obj) : Vb H f (.ob o) (.ob o)
theorem Vb.rel (hr : HR B H ρ w) (hs : ∀ b, okb B w ρ b → ok' b) (hz : ∀ k blk l b, (f.map (·.2)).contains k = false → look H k = some (some blk) → ρ k = some l → l.bl = some b → ok' b) {x y : Blk} {l : Loc} (h : Vb H f x y) (h1 : x.rel w (okb B w ρ) ρ l) : y.rel w ok' (sub ρ f) l := by
  cases h with
  | box h =>
    cases l with
    | arr v => exact h1.elim
    | box b => obtain ⟨us, h2, h3, h4⟩ := h1; exact ⟨us, h2, h3, h.rvs hr hs hz h4⟩
  | ob o =>
    cases l with
    | box b => exact h1
    | arr v => exact h1.elim
  | arr h =>
    cases l with
    | box b => exact h1.elim
    | arr v =>
      rcases h1 with ⟨h2, h3, rfl⟩ | ⟨g, cap, us, sp, h2, h3, h4, h5, h6, h7, h8, h9⟩
      · cases h; exact .inl ⟨h2, h3, rfl⟩
      · exact .inr ⟨g, cap, us, sp, h2, h3, h4, h5, h6, h7, h8, h.rvs hr hs hz h9⟩
def VH (H' H : Hp) (f : List (Nat × Nat)) (H0 : Hp) : Prop := ∀ i blk, look H0 i = some (some blk) → ∃ k blk', look f i = some k ∧ look H k = some (some blk') ∧ Vb H' f blk' blk
theorem VH.nil {H' H : Hp} {f : List (Nat × Nat)} : VH H' H f [] := fun i blk h => by simp [look] at h
theorem VH.cons {H' H : Hp} {f : List (Nat × Nat)} {i k : Nat} {blk blk' : Blk} {H0 : Hp} (h1 : look f i = some k) (h2 : look H k = some (some blk')) (h3 : Vb H' f blk' blk) (h : VH H' H f H0) : VH H' H f ((i, some blk) :: H0) := fun j b hj => by
  rw [look_cons] at hj
  split at hj
  · obtain rfl : i = j := by assumption
    obtain rfl := Option.some.inj (Option.some.inj hj)
    exact ⟨k, blk', h1, h2, h3⟩
  · exact h j b hj
theorem HR.view {B' : Nat → Prop} {H0 H' : Hp} (hr : HR B H ρ w) (hs : ∀ b, okb B w ρ b → okb B' w (sub ρ f) b) (hz : ∀ k blk l b, (f.map (·.2)).contains k = false → look H' k = some (some blk) → ρ k = some l → l.bl = some b → okb B' w (sub ρ f) b)
    (hH : ∀ k x, look H' k = some x → look H k = some x) (hf : aliveB H f = true) (hn : olds f = true) (hv : VH H' H f H0) : HR B' H0 (sub ρ f) w := by
  have hr' : HR B H' ρ w := ⟨fun k blk h => hr.rel k blk (hH _ _ h), fun k k' blk blk' l l' b h1 h2 => hr.inj k k' blk blk' l l' b (hH _ _ h1) (hH _ _ h2), hr.lt, hr.gl⟩
  refine ⟨fun i blk hi => ?_, fun i i' blk blk' l l' b h1 h2 h3 h4 h5 h6 => ?_, fun i l b hi hb => ?_, fun e he => ⟨hs _ (hr.gl e he).1, (hr.gl e he).2⟩⟩
  · obtain ⟨k, blk', h1, h2, h3⟩ := hv i blk hi
    obtain ⟨l, h4, h5⟩ := hr.rel _ _ h2
    exact ⟨l, (sub_some h1).trans h4, h3.rel hr' hs hz h5⟩
  · obtain ⟨k, h7, h8⟩ := sub_inv h3
    obtain ⟨k', h9, h10⟩ := sub_inv h4
    obtain ⟨x, h11⟩ := aliveB_spec hf h7
    obtain ⟨x', h12⟩ := aliveB_spec hf h9
    obtain rfl := hr.inj k k' x x' l l' b h11 h12 h8 h10 h5 h6
    exact olds_inj hn h7 h9
  · obtain ⟨k, -, h2⟩ := sub_inv hi
    exact hr.lt k l b h2 hb
end

structure Spec (P : Program) (f : FuncId) (us : List V) (H0 : Hp) (Ψ : V → Hp → Prop) : Prop where
  fn : ∃ fn, P.funcs[f]? = some fn ∧ (fn.name == "runtime.NumGoroutine") = false ∧ fn.body.isNone = false
  run : ∀ (B : Nat → Prop) (w : World) (ρ : Lc) (vs : List Value), (∀ b, w.heap.size ≤ b → B b) → RVs w (okb B w ρ) ρ us vs → HR B H0 ρ w → (∀ k l, ρ k = some l → ∃ blk, look H0 k = some (some blk)) →
    Calls P f vs.toArray w fun e w' => ∃ r u h ρ', e = .returned r ∧ Ψ u h ∧ Step B H0 h ρ ρ' w w' ∧ RV w' (okb B w' ρ') ρ' u r ∧ (∀ k, look h k ≠ none → k < 100)
theorem Spec.mono {P : Program} {f : FuncId} {us : List V} {H0 : Hp} {Ψ Ψ' : V → Hp → Prop} (h : Spec P f us H0 Ψ) (hm : ∀ u h, Ψ u h → Ψ' u h) : Spec P f us H0 Ψ' := ⟨h.fn, fun B w ρ vs h0 h1 h2 h3 =>
  (h.run B w ρ vs h0 h1 h2 h3).mono fun e w' ⟨r, u, hh, ρ', h4, h5, h6⟩ => ⟨r, u, hh, ρ', h4, hm _ _ h5, h6⟩⟩

def rn (f : List (Nat × Nat)) (M : Nat) (i : Nat) : Nat := match look f i with
  | some k => k
  | none => i + M
mutual
def V.ren (g : Nat → Nat) : V → V
  | .d x => .d x
  | .a xs => .a (V.rens g xs)
  | .t xs => .t (V.rens g xs)
  | .p k o => .p (g k) o
  | .e k o => .e (g k) o
  | .h k => .h (g k)
  | .s k o n z => .s (g k) o n z
  | .q xs => .q xs
  | .mp k => .mp (g k)
  | .un => .un
def V.rens (g : Nat → Nat) : List V → List V
  | [] => []
  | x :: xs => V.ren g x :: V.rens g xs
end
theorem rens_d (g : Nat → Nat) : ∀ ds : List D, V.rens g (ds.map .d) = ds.map .d
  | [] => rfl
  | d :: ds => by simp [V.rens, V.ren, rens_d g ds]
def Blk.ren (g : Nat → Nat) : Blk → Blk
  | .box T cs => .box T (V.rens g cs)
  | .arr E z n cs => .arr E z n (V.rens g cs)
  | .ob o => .ob o
def renH (g : Nat → Nat) : Hp → Hp
  | [] => []
  | (k, b) :: r => (g k, b.map (Blk.ren g)) :: renH g r
theorem look_renH {g : Nat → Nat} (i : Nat) : ∀ h : Hp, (∀ j, look h j ≠ none → g j = g i → j = i) → look (renH g h) (g i) = (look h i).map fun b => b.map (Blk.ren g)
  | [], _ => by simp [renH, look]
  | (k, b) :: r, hg => by
    rw [renH, look_cons, look_cons]
    by_cases e : k = i
    · subst e; simp
    · have : ¬ g k = g i := fun h => e (hg k (by simp [look_cons]) h)
      rw [if_neg this, if_neg e]
      refine look_renH i r fun j hj => hg j ?_
      rw [look_cons]; split <;> simp_all
theorem look_renH_inv {g : Nat → Nat} {k : Nat} : ∀ {h : Hp} {x : Option Blk}, look (renH g h) k = some x → ∃ i, g i = k ∧ look h i ≠ none
  | [], x, hx => by simp [renH, look] at hx
  | (j, b) :: r, x, hx => by
    rw [renH, look_cons] at hx
    split at hx
    · exact ⟨j, by assumption, by simp [look_cons]⟩
    · obtain ⟨i, h1, h2⟩ := look_renH_inv hx
      refine ⟨i, h1, ?_⟩
      rw [look_cons]; split <;> simp_all
section
variable {w : World} {ok : Nat → Prop} {ρ ρ' : Lc} {g : Nat → Nat}
mutual
theorem RV.ren (hg : ∀ i l, ρ i = some l → ρ' (g i) = some l) : ∀ {x : V} {v : Value}, RV w ok ρ x v → RV w ok ρ' (x.ren g) v
  | _, _, .d h => .d h
  | _, _, .a h => .a (RVs.ren hg h)
  | _, _, .t h => .t (RVs.ren hg h)
  | _, _, .p h => .p (hg _ _ h)
  | _, _, .e h => .e (hg _ _ h)
  | _, _, .h h => .h (hg _ _ h)
  | _, _, .s h h2 h3 => .s (hg _ _ h) h2 h3
  | _, _, .s0 h h2 => .s0 (hg _ _ h) h2
  | _, _, .q h1 h2 h3 => .q h1 h2 h3
  | _, _, .mp h => .mp (hg _ _ h)
  | _, _, .un => .un
theorem RVs.ren (hg : ∀ i l, ρ i = some l → ρ' (g i) = some l) : ∀ {xs : List V} {vs : List Value}, RVs w ok ρ xs vs → RVs w ok ρ' (V.rens g xs) vs
  | _, _, .nil => .nil
  | _, _, .cons h1 h2 => .cons (RV.ren hg h1) (RVs.ren hg h2)
end
theorem Blk.ren_rel (hg : ∀ i l, ρ i = some l → ρ' (g i) = some l) : ∀ {b : Blk} {l : Loc}, b.rel w ok ρ l → (b.ren g).rel w ok ρ' l
  | .box T cs, .box b, ⟨us, h1, h0, h2⟩ => ⟨us, h1, h0, h2.ren hg⟩
  | .arr E z n cs, .arr v, h => by
    rcases h with ⟨h1, h2, rfl⟩ | ⟨g, cap, us, sp, h1, h2, h3, h4, h5, h6, h0, h7⟩
    · exact .inl ⟨h1, h2, rfl⟩
    · exact .inr ⟨g, cap, us, sp, h1, h2, h3, h4, h5, h6, h0, h7.ren hg⟩
  | .ob o, .box b, h => h
  | .box _ _, .arr _, h => h.elim
  | .arr _ _ _ _, .box _, h => h.elim
  | .ob _, .arr _, h => h.elim
end
theorem RV.okmono {w : World} {ok ok' : Nat → Prop} {ρ : Lc} {x : V} {v : Value} (h : RV w ok ρ x v) (ho : ∀ b, ok b → ok' b) : RV w ok' ρ x v := h.mono (fun b hb => ⟨ho b hb, rfl⟩) fun _ _ h => h

theorem rn_inj {f : List (Nat × Nat)} {M : Nat} (hM : ∀ i k, look f i = some k → k < M ∨ M + 100 ≤ k) (hn : olds f = true) : ∀ i j, i < 100 → j < 100 → rn f M i = rn f M j → i = j := by
  intro i j hi hj h
  unfold rn at h
  cases ei : look f i with
  | some k =>
    cases ej : look f j with
    | some k' => simp only [ei, ej] at h; subst h; exact olds_inj hn ei ej
    | none => simp only [ei, ej] at h; have := hM i k ei; omega
  | none =>
    cases ej : look f j with
    | some k' => simp only [ei, ej] at h; have := hM j k' ej; omega
    | none => simp only [ei, ej] at h; omega
theorem Step.ren {B B' : Nat → Prop} {H H0 h : Hp} {f : List (Nat × Nat)} {M : Nat} {ρ ρ1 : Lc} {w w' : World} (s : Step B' H0 h (sub ρ f) ρ1 w w') (hr : HR B H ρ w) (hf : aliveB H f = true) (hn : olds f = true) (hfr : ∀ k, M ≤ k → k < M + 100 → ρ k = none) (hlt : ∀ k, look h k ≠ none → k < 100) (hfl : ∀ i k, look f i = some k → i < 100)
    (hB : ∀ b, B' b → (B b ∧ ∀ k l, ρ k = some l → l.bl ≠ some b) ∨ w.heap.size ≤ b) (hup : ∀ b, w.heap.size ≤ b → B b) :
    ∃ ρ', Step B H (renH (rn f M) h) ρ ρ' w w' ∧ (∀ i l, ρ1 i = some l → ρ' (rn f M i) = some l) ∧ ∀ b, okb B' w' ρ1 b → okb B w' ρ' b := by
  have hlive : ∀ i k, look f i = some k → ∃ l, ρ k = some l := fun i k hi => by
    obtain ⟨blk, h1⟩ := aliveB_spec hf hi
    obtain ⟨l, h2, -⟩ := hr.rel _ _ h1
    exact ⟨l, h2⟩
  have hM : ∀ i k, look f i = some k → k < M ∨ M + 100 ≤ k := fun i k hi => by
    obtain ⟨l, h1⟩ := hlive i k hi
    apply Classical.byContradiction
    intro h2
    have := hfr k (by omega) (by omega)
    rw [this] at h1; cases h1
  have hinj := rn_inj hM hn
  have h1lt : ∀ i l, ρ1 i = some l → i < 100 := fun i l hi => by
    rcases s.new i l hi with h1 | ⟨-, h1, -⟩
    · obtain ⟨k, h2, -⟩ := sub_inv h1; exact hfl i k h2
    · exact hlt i h1
  have hlk : ∀ i, i < 100 → look (renH (rn f M) h) (rn f M i) = (look h i).map fun b => b.map (Blk.ren (rn f M)) := fun i hi => look_renH i h fun j hj e => hinj j i (hlt j hj) hi e
  let ρ' : Lc := fun k => match ρ k with
    | some l => some l
    | none => if M ≤ k ∧ k < M + 100 ∧ look f (k - M) = none then ρ1 (k - M) else none
  have hext : Ext ρ ρ' := fun k l hk => by simp only [ρ', hk]
  have hb : ∀ i l, ρ1 i = some l → ρ' (rn f M i) = some l := fun i l hi => by
    unfold rn
    cases e : look f i with
    | some k =>
      obtain ⟨l', h1⟩ := hlive i k e
      have h2 := s.ext i l' ((sub_some e).trans h1)
      rw [hi] at h2
      obtain rfl := Option.some.inj h2
      exact hext _ _ h1
    | none =>
      have h1 := h1lt i l hi
      have h2 : ρ (i + M) = none := hfr _ (by omega) (by omega)
      have h3 : i + M - M = i := by omega
      simp only [ρ', h2, h3, e]
      rw [if_pos ⟨by omega, by omega, trivial⟩, hi]
  have hinv : ∀ k l, ρ' k = some l → ρ k = some l ∨ (ρ k = none ∧ ∃ i, k = rn f M i ∧ i < 100 ∧ look f i = none ∧ ρ1 i = some l) := fun k l hk => by
    simp only [ρ'] at hk
    cases e : ρ k with
    | some l' => rw [e] at hk; exact .inl hk
    | none =>
      simp only [e] at hk
      split at hk
      · rename_i h1
        refine .inr ⟨rfl, k - M, ?_, by omega, h1.2.2, hk⟩
        unfold rn; rw [h1.2.2]; simp only; omega
      · cases hk
  have hnew : ∀ i l, look f i = none → ρ1 i = some l → look h i ≠ none ∧ ∀ b, l.bl = some b → (w.heap.size ≤ b ∧ b < w'.heap.size) ∨ ∃ k0 l0, look h k0 = some none ∧ sub ρ f k0 = some l0 ∧ l0.bl = some b := fun i l hi hl => by
    rcases s.new i l hl with h1 | ⟨-, h1, h2⟩
    · obtain ⟨k, h2, -⟩ := sub_inv h1; rw [hi] at h2; cases h2
    · exact ⟨h1, h2⟩
  have hok : ∀ b, okb B' w' ρ1 b → okb B w' ρ' b := fun b ⟨h1, h2, h3⟩ => by
    rcases hB b h2 with ⟨h4, h5⟩ | h4
    · refine ⟨h1, h4, fun k l hk e => ?_⟩
      rcases hinv k l hk with h6 | ⟨-, i, -, -, -, h6⟩
      · exact h5 k l h6 e
      · exact h3 i l h6 e
    · refine ⟨h1, hup b h4, fun k l hk e => ?_⟩
      rcases hinv k l hk with h6 | ⟨-, i, -, -, -, h6⟩
      · have := hr.lt k l b h6 e; omega
      · exact h3 i l h6 e
  refine ⟨ρ', ⟨s.os, s.tape, s.output, s.size, hext, fun k l hk => ?_, fun b hb1 hb2 => ?_, fun k hk hρ => ?_, fun k blk hk => ?_, fun k k' blk blk' l l' b h1 h2 h3 h4 h5 h6 => ?_⟩, hb, hok⟩
  · rcases hinv k l hk with h1 | ⟨h1, i, rfl, hi, h2, h3⟩
    · exact .inl h1
    · obtain ⟨h4, h5⟩ := hnew i l h2 h3
      refine .inr ⟨h1, ?_, fun b e => ?_⟩
      · rw [hlk i hi]; cases e : look h i with
        | none => exact absurd e h4
        | some x => simp
      · rcases h5 b e with h5 | ⟨k0, l0, h6, h7, h8⟩
        · exact .inl h5
        · obtain ⟨k, h9, h10⟩ := sub_inv h7
          refine .inr ⟨rn f M k0, l0, by rw [hlk k0 (hfl _ _ h9), h6]; rfl, ?_, h8⟩
          have : rn f M k0 = k := by unfold rn; rw [h9]
          rw [this]; exact h10
  · refine s.keep b hb1 fun i l hi hl => ?_
    obtain ⟨k, h1, h2⟩ := sub_inv hl
    refine hb2 k l ?_ h2
    have : rn f M i = k := by unfold rn; rw [h1]
    rw [← this, hlk i (hfl _ _ h1)]
    cases e : look h i with
    | none => exact absurd e hi
    | some x => simp
  · cases e : look (renH (rn f M) h) k with
    | none => exact absurd e hk
    | some x =>
      obtain ⟨i, h1, h2⟩ := look_renH_inv e
      cases e2 : look f i with
      | some k' =>
        have : rn f M i = k' := by unfold rn; rw [e2]
        rw [← h1, this]
        exact aliveB_spec hf e2
      | none =>
        have : rn f M i = i + M := by unfold rn; rw [e2]
        have h3 := hlt i h2
        exact absurd (hfr k (by omega) (by omega)) hρ
  · obtain ⟨i, rfl, h2⟩ := look_renH_inv hk
    rw [hlk i (hlt i h2)] at hk
    cases e : look h i with
    | none => exact absurd e h2
    | some x =>
      cases x with
      | none => rw [e] at hk; simp at hk
      | some b0 =>
        rw [e] at hk
        simp only [Option.map_some, Option.some.injEq] at hk
        obtain ⟨l, h3, h4⟩ := s.rel i b0 e
        subst hk
        refine ⟨l, hb i l h3, ?_⟩
        exact Blk.rel_mono (w := w') (ok := okb B' w' ρ1) (fun b hb => ⟨hok b hb, rfl⟩) (fun _ _ h => h) (fun _ _ => rfl) (Blk.ren_rel hb h4)
  · obtain ⟨i, rfl, h7⟩ := look_renH_inv h1
    obtain ⟨j, rfl, h8⟩ := look_renH_inv h2
    rw [hlk i (hlt i h7)] at h1
    rw [hlk j (hlt j h8)] at h2
    cases e : look h i with
    | none => exact absurd e h7
    | some x =>
      cases x with
      | none => rw [e] at h1; simp at h1
      | some b0 =>
        cases e2 : look h j with
        | none => exact absurd e2 h8
        | some y =>
          cases y with
          | none => rw [e2] at h2; simp at h2
          | some b1 =>
            obtain ⟨l2, h9, -⟩ := s.rel i b0 e
            obtain ⟨l3, h10, -⟩ := s.rel j b1 e2
            obtain rfl := Option.some.inj ((hb i l2 h9).symm.trans h3)
            obtain rfl := Option.some.inj ((hb j l3 h10).symm.trans h4)
            rw [s.injh i j b0 b1 l2 l3 b e e2 h9 h10 h5 h6]

def evl (sl : List (Nat × V)) : List Operand → Option (List V)
  | [] => some []
  | x :: r => match ev sl x, evl sl r with
    | some u, some l => some (u :: l)
    | _, _ => none
theorem evl_spec {B : Nat → Prop} {sl : List (Nat × V)} {ρ : Lc} {a : Act} {w : World} (hs : SR B sl ρ a w) : ∀ {xs : List Operand} {us : List V}, evl sl xs = some us → RVs w (okb B w ρ) ρ us (xs.map a.eval)
  | [], us, h => by simp only [evl, Option.some.injEq] at h; subst h; exact .nil
  | x :: r, us, h => by
    simp only [evl] at h
    split at h
    · rename_i u l h1 h2
      obtain rfl := Option.some.inj h
      exact .cons (ev_spec hs h1) (evl_spec hs h2)
    · cases h
def inOld (ρ : Lc) (B : Nat → Prop) (w : World) (b : Nat) : Prop := (B b ∧ ∀ k l, ρ k = some l → l.bl ≠ some b) ∨ w.heap.size ≤ b
theorem o_call {P : Program} {o : Oper} {H H0 : Hp} {sl : List (Nat × V)} {f : FuncId} {us uc : List V} {Ψ : V → Hp → Prop} {x : Operand} {xs : Array Operand} {ats : Array TypeId} (M : Nat) (g : List (Nat × Nat)) (hs : Spec P f us H0 Ψ)
    (hop : o.op = .call { callee := .value x, args := xs, argTypes := ats }) (hx : ev sl x = some (.d (.c (.func (.func f) #[] #[])))) (ha : evl sl xs.toList = some uc) (hv : Vws [] g uc us) (hH : VH [] H g H0)
    (hal : aliveB H g = true) (hol : olds g = true) (hlv : (g.all fun e => Nat.blt e.1 100 && match look H0 e.1 with | some (some _) => true | _ => false) = true) :
    OpV P o H sl M 100 fun u h => ∃ u0 h0, Ψ u0 h0 ∧ u = u0.ren (rn g M) ∧ h = renH (rn g M) h0 := fun B a w ρ hup hd hsr hr hfr => by
  have hargs := evl_spec hsr ha
  have hr0 : HR B [] ρ w := ⟨fun k blk h => by simp [look] at h, fun k k' blk blk' l l' b h => by simp [look] at h, hr.lt, hr.gl⟩
  have hok : ∀ b, okb B w ρ b → okb (inOld ρ B w) w (sub ρ g) b := fun b ⟨h1, h2, h3⟩ => ⟨h1, .inl ⟨h2, h3⟩, fun i l hi => by
    obtain ⟨k, -, h4⟩ := sub_inv hi; exact h3 k l h4⟩
  have hargs' := Vws.rvs (ok' := okb (inOld ρ B w) w (sub ρ g)) hr0 hok (fun k blk l b _ h => by simp [look] at h) hv hargs
  have hview : HR (inOld ρ B w) H0 (sub ρ g) w := HR.view hr hok (fun k blk l b _ h => by simp [look] at h) (fun k x h => by simp [look] at h) hal hol hH
  have hlive : ∀ i l, sub ρ g i = some l → ∃ blk, look H0 i = some (some blk) := fun i l hi => by
    obtain ⟨k, h1, -⟩ := sub_inv hi
    have := List.all_eq_true.1 hlv _ (look_mem h1)
    simp only [Bool.and_eq_true] at this
    have h2 := this.2
    split at h2
    · exact ⟨_, by assumption⟩
    · cases h2
  have h100 : ∀ i k, look g i = some k → i < 100 := fun i k h1 => by
    have := List.all_eq_true.1 hlv _ (look_mem h1)
    simp only [Bool.and_eq_true] at this
    exact blt_lt this.1
  have hcall := hs.run (inOld ρ B w) w (sub ρ g) _ (fun b hb => .inr hb) hargs' hview hlive
  obtain ⟨fn, hf1, hf2, hf3⟩ := hs.fn
  have hrun : (execOp a.eval o).run P w = .ok (.enter f (xs.toList.map a.eval).toArray) w := by
    have hx' := rv_c (ev_spec hsr hx)
    unfold execOp; rw [hop]
    have e : xs.map a.eval = (xs.toList.map a.eval).toArray := by apply Array.ext'; simp
    have h1 : ¬ fn.name = "runtime.NumGoroutine" := by simpa using hf2
    have h2 : ¬ fn.body = none := fun e => by rw [e] at hf3; cases hf3
    simp [resolve, hx', Deferred.ofValue, invoke, callFunc, program, Sem.run, hf1, h1, h2, e]
  unfold Oper.wp
  rw [hrun, Oper.upon_enter]
  refine hcall.mono ?_
  rintro e w' ⟨r, u, h, ρ1, rfl, hψ, hst, hrv, hlt⟩
  obtain ⟨ρ', h1, h2, h3⟩ := hst.ren hr hal hol hfr hlt h100 (fun b h => h) hup
  exact ⟨r, _, _, ρ', rfl, ⟨u, h, hψ, rfl, rfl⟩, h1, (hrv.ren h2).okmono h3⟩
inductive VS (H : Hp) (f : List (Nat × Nat)) (sl : List (Nat × V)) : List (Nat × V) → Prop
  | nil : VS H f sl []
  | cons {t : Nat} {u u' : V} {r : List (Nat × V)} : look sl t = some u → Vw H f u u' → VS H f sl r → VS H f sl ((t, u') :: r)
theorem VS.get {H : Hp} {f : List (Nat × Nat)} {sl : List (Nat × V)} : ∀ {r : List (Nat × V)}, VS H f sl r → ∀ {t : Nat} {u' : V}, look r t = some u' → ∃ u, look sl t = some u ∧ Vw H f u u'
  | _, .nil, t, u', h => by simp [look] at h
  | _, .cons h1 h2 h3, t, u', h => by
    rw [look_cons] at h
    split at h
    · subst_vars; obtain rfl := Option.some.inj h; exact ⟨_, h1, h2⟩
    · exact h3.get h
theorem wk_core (f : List (Nat × Nat)) {Γ : Cx} {st st' : St} {ρ : Lc} {a : Act} {w : World} (hr : RelP Γ st ρ a w) (hal : aliveB st.hp f = true) (hol : olds f = true) (hks : (Γ.ks.all fun k => match look f k with | some k' => Nat.beq k k' | none => false) = true) (hd : (f.all fun e => (look st'.hp e.1).isSome) = true)
    (hs : VS st.hp f st.sl st'.sl) (hh : VH st.hp st.hp f st'.hp) : RelP Γ st' (sub ρ f) a w ∧ ∀ u u' v, Vw st.hp f u u' → RV w (okb Γ.B w ρ) ρ u v → RV w (okb Γ.B w (sub ρ f)) (sub ρ f) u' v := by
  have hks' : ∀ k l, Γ.ρ0 k = some l → look f k = some k := fun k l h => by
    have := List.all_eq_true.1 hks k (hr.dom0 k l h)
    split at this
    · rename_i e; rw [Nat.eq_of_beq_eq_true this] at e ⊢; exact e
    · cases this
  have htomb : ∀ k0 l0, look st.hp k0 = some none → Γ.ρ0 k0 = some l0 → False := fun k0 l0 h1 h2 => by
    obtain ⟨blk, h3⟩ := aliveB_spec hal (hks' k0 l0 h2)
    rw [h1] at h3; cases h3
  have hok : ∀ b, okb Γ.B w ρ b → okb Γ.B w (sub ρ f) b := fun b ⟨h1, h2, h3⟩ => ⟨h1, h2, fun i l hi => by
    obtain ⟨k, -, h4⟩ := sub_inv hi; exact h3 k l h4⟩
  have hz : ∀ k blk l b, (f.map (·.2)).contains k = false → look st.hp k = some (some blk) → ρ k = some l → l.bl = some b → okb Γ.B w (sub ρ f) b := fun k blk l b h1 h2 h3 h4 => by
    refine ⟨hr.hr.lt k l b h3 h4, ?_, fun i l' hi e => ?_⟩
    · rcases hr.own k l b h3 h4 with h5 | h5 | ⟨k0, l0, h5, h6, -⟩
      · have := look_mem (hks' k l h5)
        have h6 : k ∈ f.map (·.2) := List.mem_map.2 ⟨_, this, rfl⟩
        rw [List.contains_iff_mem.2 h6] at h1; cases h1
      · exact hr.bup b h5
      · exact (htomb k0 l0 h5 h6).elim
    · obtain ⟨k', h5, h6⟩ := sub_inv hi
      obtain ⟨blk', h7⟩ := aliveB_spec hal h5
      obtain rfl := hr.hr.inj k k' blk blk' l l' b h2 h7 h3 h6 h4 e
      have h8 : k ∈ f.map (·.2) := List.mem_map.2 ⟨_, look_mem h5, rfl⟩
      rw [List.contains_iff_mem.2 h8] at h1; cases h1
  refine ⟨⟨hr.defers, hr.size, hr.kp, fun k l h => (sub_some (hks' k l h)).trans (hr.ext0 k l h), fun i l b hi hb => ?_, fun i l hi => ?_, hr.dom0, hr.bup, HR.view hr.hr hok hz (fun _ _ h => h) hal hol hh, fun t u' hu => ?_⟩, fun u u' v h1 h2 => h1.rv hr.hr hok hz h2⟩
  · obtain ⟨k, h1, h2⟩ := sub_inv hi
    rcases hr.own k l b h2 hb with h3 | h3 | ⟨k0, l0, h3, h4, -⟩
    · obtain rfl := olds_inj hol h1 (hks' k l h3); exact .inl h3
    · exact .inr (.inl h3)
    · exact (htomb k0 l0 h3 h4).elim
  · obtain ⟨k, h1, -⟩ := sub_inv hi
    have := List.all_eq_true.1 hd _ (look_mem h1)
    intro e; simp [e] at this
  · obtain ⟨u, h1, h2⟩ := hs.get hu
    obtain ⟨v, h3, h4⟩ := hr.sr t u h1
    exact ⟨v, h3, h2.rv hr.hr hok hz h4⟩

theorem wk (f : List (Nat × Nat)) {Γ : Cx} {st st' : St} (hal : aliveB st.hp f = true) (hol : olds f = true) (hks : (Γ.ks.all fun k => match look f k with | some k' => Nat.beq k k' | none => false) = true) (hd : (f.all fun e => (look st'.hp e.1).isSome) = true)
    (hs : VS st.hp f st.sl st'.sl) (hh : VH st.hp st.hp f st'.hp) : Wk Γ st st' := fun _ _ ⟨ρ, hr⟩ => ⟨sub ρ f, (wk_core f hr hal hol hks hd hs hh).1⟩

def resV (st : St) : List ResultVar → Option (List V)
  | [] => some []
  | .tmp t :: r => match look st.sl t, resV st r with
    | some u, some l => some (u :: l)
    | _, _ => none
  | .cell t _ :: r => match look st.sl t, resV st r with
    | some (.p k 0), some l => match look st.hp k with
      | some (some (.box _ cs)) => some (.a cs :: l)
      | _ => none
    | _, _ => none
def resT (P : Program) (st : St) : List ResultVar → Prop
  | [] => True
  | .tmp _ :: r => resT P st r
  | .cell t T :: r => (∀ k T' cs, look st.sl t = some (.p k 0) → look st.hp k = some (some (.box T' cs)) → Ty P T cs.length true) ∧ resT P st r
def one (us : List V) : V := match us with
  | [u] => u
  | _ => .t us
def resG (P : Program) (tmps : Array Value) : ResultVar → Sem Value
  | .tmp t => pure (tmps.getD t undef)
  | .cell a t => do loadVar t (← asAddr (tmps.getD a undef))
theorem resV_run {Γ : Cx} {st : St} {ρ : Lc} {a : Act} {w : World} (hr : RelP Γ st ρ a w) : ∀ {rs : List ResultVar} {us : List V}, resV st rs = some us → resT Γ.P st rs → ∃ vs, (rs.mapM (resG Γ.P a.tmps)).run Γ.P w = .ok vs w ∧ RVs w (okb Γ.B w ρ) ρ us vs
  | [], us, h, _ => by simp only [resV, Option.some.injEq] at h; subst h; exact ⟨[], by simp, .nil⟩
  | .tmp t :: r, us, h, ht => by
    simp only [resV] at h
    split at h
    · rename_i u l h1 h2
      obtain rfl := Option.some.inj h
      obtain ⟨v, h3, h4⟩ := hr.sr t u h1
      obtain ⟨vs, h5, h6⟩ := resV_run hr h2 ht
      exact ⟨v :: vs, by simp [List.mapM_cons, resG, h3, h5], .cons h4 h6⟩
    · cases h
  | .cell t T :: r, us, h, ht => by
    simp only [resV] at h
    split at h
    · rename_i k l h1 h2
      split at h
      · rename_i T' cs h7
        obtain rfl := Option.some.inj h
        obtain ⟨v, h3, h4⟩ := hr.sr t _ h1
        obtain ⟨vs, h5, h6⟩ := resV_run hr h2 ht.2
        obtain ⟨l', h8, h9⟩ := hr.hr.rel _ _ h7
        cases l' with
        | arr v => exact h9.elim
        | box b =>
          obtain ⟨xs, h10, h11, h12⟩ := h9
          cases h4 with
          | p hp =>
            rw [h8] at hp
            simp only [Option.some.injEq, Loc.box.injEq] at hp
            subst hp
            have hT := ht.1 k T' cs h1 h7
            have hld := run_lda (P := Γ.P) (w := w) (b := b) (off := 0) (c := xs) hT (by simpa using cells_row h10) h12.length (by simp)
            simp only [cond_true] at hld
            exact ⟨.agg xs.toArray :: vs, by simp [List.mapM_cons, resG, h3, h5, asAddr, hld], .cons (.a h12) h6⟩
      · cases h
    · cases h
theorem results_run {P : Program} {fn : Func} {rs : List ResultVar} {tmps : Array Value} {w : World} {vs : List Value} (hrs : fn.results = rs.toArray) (h : (rs.mapM (resG P tmps)).run P w = .ok vs w) : (results fn tmps).run P w = .ok (if vs.length = 1 then vs.headD undef else .tuple vs.toArray) w := by
  have e : (fn.results.mapM (resG P tmps)) = (do let l ← rs.mapM (resG P tmps); pure l.toArray) := by
    rw [hrs]; simp
  have e2 : results fn tmps = (do let vs ← fn.results.mapM (resG P tmps); pure (if h : vs.size = 1 then vs[0] else .tuple vs)) := rfl
  rw [e2, e]
  simp only [Sem.run_bind, h, Result.andThen_ok, Sem.run_pure]
  by_cases h1 : vs.length = 1
  · cases vs with
    | nil => simp at h1
    | cons v r =>
      simp only [List.length_cons] at h1
      obtain rfl : r = [] := List.eq_nil_of_length_eq_zero (by omega)
      simp
  · simp [h1]
def postB (ks : List Nat) (st : St) (f : List (Nat × Nat)) (h : Hp) : Bool := aliveB st.hp f && olds f && (ks.all fun k => match look f k with | some k' => Nat.beq k k' | none => false) && (f.all fun e => (look h e.1).isSome) && (h.all fun e => Nat.blt e.1 100)
def PostV (P : Program) (ks : List Nat) (rs : List ResultVar) (Ψ : V → Hp → Prop) (st : St) : Prop := ∃ us f u h, resV st rs = some us ∧ resT P st rs ∧ postB ks st f h = true ∧ Vw st.hp f (one us) u ∧ VH st.hp st.hp f h ∧ Ψ u h
theorem resT_cell {P : Program} {st : St} {t k : Nat} {T T' : TypeId} {cs : List V} {r : List ResultVar} (h1 : look st.sl t = some (.p k 0)) (h2 : look st.hp k = some (some (.box T' cs))) (hT : Ty P T cs.length true) (hr : resT P st r) : resT P st (.cell t T :: r) := by
  refine ⟨fun k' T0 cs' h3 h4 => ?_, hr⟩
  rw [h1] at h3
  cases h3
  rw [h2] at h4
  cases h4
  exact hT
def slots : Nat → List V → List (Nat × V)
  | _, [] => []
  | i, u :: r => (i, u) :: slots (i + 1) r
theorem look_slots : ∀ {us : List V} {i t : Nat} {u : V}, look (slots i us) t = some u → i ≤ t ∧ us[t - i]? = some u
  | [], i, t, u, h => by simp [slots, look] at h
  | x :: us, i, t, u, h => by
    rw [slots, look_cons] at h
    split at h
    · subst_vars; simpa using h
    · obtain ⟨h1, h2⟩ := look_slots h
      refine ⟨by omega, ?_⟩
      rw [show t - i = (t - (i + 1)) + 1 by omega, List.getElem?_cons_succ]; exact h2
theorem look_all {h : Hp} (ha : (h.all fun e => Nat.blt e.1 100) = true) {k : Nat} (hk : look h k ≠ none) : k < 100 := by
  cases e : look h k with
  | none => exact absurd e hk
  | some x => exact blt_lt (List.all_eq_true.1 ha _ (look_mem e))
theorem Spec.intro {P : Program} {f : FuncId} {us : List V} {H0 : Hp} {Ψ : V → Hp → Prop} {fn : Func} {c : Code} {rs : List ResultVar} {nt : Nat} (hf : P.funcs[f]? = some fn) (hn : (fn.name == "runtime.NumGoroutine") = false) (hb : fn.body = some c) (hnt : fn.ntmps = nt) (hrs : fn.results = rs.toArray)
    (hl : Nat.ble us.length nt = true) (hw : ∀ B w0 ρ0, WC ⟨P, B, w0, ρ0, H0.map (·.1), nt⟩ c (.fn (PostV P (H0.map (·.1)) rs Ψ)) ⟨slots 0 us, H0⟩) : Spec P f us H0 Ψ := by
  refine ⟨⟨fn, hf, hn, by rw [hb]; rfl⟩, fun B w ρ vs hB hvs hr hlive => ?_⟩
  have hlen := hvs.length
  have hl' := Nat.le_of_ble_eq_true hl
  subst hnt
  have hrel : RelP ⟨P, B, w, ρ, H0.map (·.1), fn.ntmps⟩ ⟨slots 0 us, H0⟩ ρ { tmps := vs.toArray ++ Array.replicate (fn.ntmps - vs.toArray.size) undef, defers := [] } w := by
    refine ⟨rfl, by simp; omega, ⟨rfl, rfl, rfl, Nat.le_refl _, fun _ _ _ => rfl⟩, fun _ _ h => h, fun k l b h _ => .inl h, fun k l h => ?_, fun k l h => ?_, hB, hr, fun t u hu => ?_⟩
    · obtain ⟨blk, h1⟩ := hlive k l h; rw [h1]; simp
    · obtain ⟨blk, h1⟩ := hlive k l h
      exact List.mem_map.2 ⟨_, look_mem h1, rfl⟩
    · obtain ⟨-, h1⟩ := look_slots hu
      obtain ⟨v, h2, h3⟩ := hvs.get h1
      refine ⟨v, ?_, h3⟩
      simp only [Nat.sub_zero] at h2
      rw [Array.getElem?_append_left (by simpa using (List.getElem?_eq_some_iff.1 h2).1)]
      simpa using h2
  refine calls_of_wp hf hb (wp_mono (hw B w ρ _ w ⟨ρ, hrel⟩) ?_)
  rintro e a w' ⟨st, hk, hst⟩
  have fin : ∀ st', Wk ⟨P, B, w, ρ, H0.map (·.1), fn.ntmps⟩ st st' → PostV P (H0.map (·.1)) rs Ψ st' → ∃ v, (results fn a.tmps).run P w' = .ok v w' ∧ a.defers = [] ∧ ∃ r u h ρ', Ending.returned v = .returned r ∧ Ψ u h ∧ Step B H0 h ρ ρ' w w' ∧ RV w' (okb B w' ρ') ρ' u r ∧ (∀ k, look h k ≠ none → k < 100) := by
    intro st1 h1 ⟨us', f, u1, hp1, h2, h3, hpb, hvw, hvh, h4⟩
    obtain ⟨ρ1, hr1⟩ := h1 a w' hst
    obtain ⟨vs', h6, h7⟩ := resV_run hr1 h2 h3
    simp only [postB, Bool.and_eq_true] at hpb
    obtain ⟨⟨⟨⟨b1, b2⟩, b3⟩, b4⟩, h5⟩ := hpb
    obtain ⟨hr', hrv⟩ := wk_core f (st' := ⟨[], hp1⟩) hr1 b1 b2 b3 b4 .nil hvh
    generalize hst' : (⟨[], hp1⟩ : St) = st' at hr'
    obtain rfl : hp1 = st'.hp := by rw [← hst']
    generalize sub ρ1 f = ρ' at hr' hrv
    refine ⟨_, results_run hrs h6, hr'.defers, _, u1, st'.hp, ρ', rfl, h4, ⟨hr'.kp.os, hr'.kp.tape, hr'.kp.output, hr'.kp.size, hr'.ext0, fun k l hk => ?_, fun b hb1 hb2 => ?_, fun k _ hk => ?_, fun k blk hk => hr'.hr.rel k blk hk, fun k k' blk blk' l l' b g1 g2 g3 g4 => hr'.hr.inj k k' blk blk' l l' b g1 g2 g3 g4⟩, ?_, fun k hk => look_all h5 hk⟩
    · cases e0 : ρ k with
      | some l0 => exact .inl (by rw [← e0]; have := hr'.ext0 k l0 e0; rw [hk] at this; rw [e0]; exact this.symm)
      | none =>
        refine .inr ⟨rfl, hr'.dom k l hk, fun b e => ?_⟩
        rcases hr'.own k l b hk e with h8 | h8 | h8
        · simp only at h8; rw [e0] at h8; cases h8
        · exact .inl ⟨h8, hr'.hr.lt k l b hk e⟩
        · exact .inr h8
    · exact hr'.kp.block b hb1 fun k l hl => hb2 k l (hr'.dom k l (hr'.ext0 k l hl)) hl
    · cases e0 : ρ k with
      | none => exact absurd e0 hk
      | some l0 => exact hlive k l0 e0
    · refine hrv _ _ _ hvw ?_
      have h8 := h7.length
      cases h7 with
      | nil => simpa [one] using RV.t RVs.nil
      | cons h9 h10 =>
        cases h10 with
        | nil => simpa [one] using h9
        | cons h11 h12 => simpa [one] using RV.t (.cons h9 (.cons h11 h12))
  cases e with
  | ret =>
    obtain ⟨st', h1, h2⟩ := hk
    obtain ⟨v, h3, h4, h5⟩ := fin st' h1 h2
    exact ⟨h4, v, h3, h5⟩
  | normal =>
    obtain ⟨st', h1, h2⟩ := hk
    obtain ⟨v, h3, h4, h5⟩ := fin st' h1 h2
    exact ⟨h4, v, h3, h5⟩
  | exit id => exact hk.elim
  | goto l => exact hk.elim
  | panic c => exact hk.elim
  | outgrown => exact hk.elim
end Go.Proofs.YtlbnhhfaedhgfaaDoor
namespace Go.Proofs.YtlbnhhfaedhgfaaDoor
set_option linter.unusedSimpArgs false
set_option linter.unusedVariables false
open Go.RowKit

structure Bnd where
  key : ByteArray
  top : Bool
  deriving DecidableEq
structure Rng where
  lo : Bnd
  hi : Bnd
  deriving DecidableEq

abbrev bl (a b : ByteArray) : Bool := Op.bytesLess a.toList b.toList

theorem bytesLess_irrefl : ∀ l : List UInt8, Op.bytesLess l l = false
  | [] => rfl
  | a :: x => by simp [Op.bytesLess, bytesLess_irrefl x]
theorem bytesLess_asymm : ∀ {a b : List UInt8}, Op.bytesLess a b = true → Op.bytesLess b a = false
  | _, [], h => by simp [Op.bytesLess] at h
  | [], _ :: _, _ => rfl
  | a :: x, b :: y, h => by
    simp only [Op.bytesLess, Bool.or_eq_true, Bool.and_eq_true, decide_eq_true_eq, beq_iff_eq] at h
    rcases h with h | ⟨h, h2⟩
    · simp only [Op.bytesLess, Bool.or_eq_false_iff, decide_eq_false_iff_not, Bool.and_eq_false_iff, beq_eq_false_iff_ne]
      refine ⟨by simp only [UInt8.lt_iff_toNat_lt] at *; omega, Or.inl fun e => ?_⟩
      subst e; simp at h
    · subst h; simp [Op.bytesLess, bytesLess_asymm h2]
theorem bytesLess_trans : ∀ {a b c : List UInt8}, Op.bytesLess a b = true → Op.bytesLess b c = true → Op.bytesLess a c = true
  | _, _, [], _, h => by simp [Op.bytesLess] at h
  | _, [], _ :: _, h, _ => by simp [Op.bytesLess] at h
  | [], _ :: _, _ :: _, _, _ => rfl
  | a :: x, b :: y, c :: z, h, k => by
    simp only [Op.bytesLess, Bool.or_eq_true, Bool.and_eq_true, decide_eq_true_eq, beq_iff_eq] at h k ⊢
    rcases h with h | ⟨rfl, h2⟩
    · rcases k with k | ⟨rfl, k2⟩
      · left; simp only [UInt8.lt_iff_toNat_lt] at *; omega
      · left; exact h
    · rcases k with k | ⟨rfl, k2⟩
      · left; exact k
      · right; exact ⟨rfl, bytesLess_trans h2 k2⟩
theorem bytesLess_total : ∀ {a b : List UInt8}, Op.bytesLess a b = false → Op.bytesLess b a = false → a = b
  | [], [], _, _ => rfl
  | [], _ :: _, h, _ => by simp [Op.bytesLess] at h
  | _ :: _, [], _, h => by simp [Op.bytesLess] at h
  | a :: x, b :: y, h, k => by
    simp only [Op.bytesLess, Bool.or_eq_false_iff, decide_eq_false_iff_not, Bool.and_eq_false_iff, beq_eq_false_iff_ne] at h k
    have e : a = b := by
      apply UInt8.toNat_inj.1
      have h1 := h.1; have k1 := k.1
      simp only [UInt8.lt_iff_toNat_lt] at h1 k1; omega
    subst e
    have h2 := h.2.resolve_left (fun h => h rfl)
    have k2 := k.2.resolve_left (fun h => h rfl)
    rw [bytesLess_total h2 k2]

def Bnd.lt (a b : Bnd) : Bool := !a.top && (b.top || Op.bytesLess a.key.toList b.key.toList)
def cmp (a b : Bnd) : Int := if a.lt b then -1 else if b.lt a then 1 else 0
def vk (k : ByteArray) : Bool := decide (k.size ≤ 64)
def vb (b : Bnd) : Bool := vk b.key && (!b.top || b.key.toList.isEmpty)
def vld (r : Rng) : Bool := vb r.lo && vb r.hi && decide (cmp r.lo r.hi ≤ 0)
def emp (r : Rng) : Bool := !vld r || cmp r.lo r.hi == 0
def contains (r : Rng) (k : ByteArray) : Bool := !emp r && vk k && decide (cmp r.lo ⟨k, false⟩ ≤ 0) && decide (cmp ⟨k, false⟩ r.hi < 0)

theorem cmp_self (a : Bnd) : cmp a a = 0 := by
  have : a.lt a = false := by simp [Bnd.lt, bytesLess_irrefl]
  simp [cmp, this]
theorem lt_asymm {a b : Bnd} (h : a.lt b = true) : b.lt a = false := by
  simp only [Bnd.lt, Bool.and_eq_true, Bool.or_eq_true, Bool.not_eq_true'] at h
  obtain ⟨h1, h2⟩ := h
  rcases h2 with h2 | h2
  · simp [Bnd.lt, h2]
  · simp [Bnd.lt, h1, bytesLess_asymm h2]
theorem cmp_neg (a b : Bnd) : cmp a b < 0 ↔ a.lt b = true := by
  unfold cmp; split
  · simp [*]
  · split <;> simp [*]
theorem cmp_pos (a b : Bnd) : 0 < cmp a b ↔ b.lt a = true := by
  unfold cmp; split
  · rename_i h; simp [lt_asymm h]
  · split <;> simp [*]
theorem cmp_rng (a b : Bnd) : cmp a b = -1 ∨ cmp a b = 0 ∨ cmp a b = 1 := by
  unfold cmp; split
  · simp
  · split <;> simp
theorem cmp_swap (a b : Bnd) : cmp b a = - cmp a b := by
  unfold cmp
  cases h : a.lt b
  · cases k : b.lt a <;> simp
  · simp [lt_asymm h]

def adj (a b : Rng) : Bool := !emp a && !emp b && cmp a.hi b.lo == 0
def greater (a b : Bnd) : Bnd := if cmp b a > 0 then b else a
def lesser (a b : Bnd) : Bnd := if cmp b a < 0 then b else a
def greatest (a b : Bnd) : Bnd := if cmp a b ≥ 0 then a else b
def least (a b : Bnd) : Bnd := if cmp a b ≤ 0 then a else b
theorem greatest_eq (a b : Bnd) : greatest a b = greater a b := by
  unfold greatest greater; rw [cmp_swap a b]; split <;> split <;> first | rfl | omega
def zb : Bnd := ⟨⟨#[]⟩, false⟩
def zr : Rng := ⟨zb, zb⟩
def isect (a b : Rng) : Rng := if emp a || emp b || emp ⟨greater a.lo b.lo, lesser a.hi b.hi⟩ then zr else ⟨greater a.lo b.lo, lesser a.hi b.hi⟩
def hull (a b : Rng) : Rng := if emp a && emp b then zr else if emp a then b else if emp b then a else ⟨lesser a.lo b.lo, greater a.hi b.hi⟩
def proper (r : Rng) : Rng := if emp r then zr else r

end Go.Proofs.YtlbnhhfaedhgfaaDoor
namespace Go.Proofs.YtlbnhhfaedhgfaaDoor
set_option linter.unusedSimpArgs false
set_option linter.unusedVariables false
open Go.RowKit
attribute [local simp] Sem.run_bind Sem.run_pure Result.andThen_ok

section
variable {P : Program} {o : Oper} {H : Hp} {sl : List (Nat × V)} {x y : Operand} {T U : TypeId} {k : IntKind} {a b z : Int} {s t : ByteArray}
theorem o_add (hop : o.op = .binOp .add T x y U) (hx : ev sl x = some (.d (.c (.int k a)))) (hy : ev sl y = some (.d (.c (.int k b)))) (hz : k.wrap (a + b) = z) : OpD P o H sl 0 0 (.d (.c (.int k z))) [] := o_bin hop hx hy (fun w => by subst hz; simp [binOp, Op.intArith]) rfl rfl
theorem o_sub (hop : o.op = .binOp .sub T x y U) (hx : ev sl x = some (.d (.c (.int k a)))) (hy : ev sl y = some (.d (.c (.int k b)))) (hz : k.wrap (a - b) = z) : OpD P o H sl 0 0 (.d (.c (.int k z))) [] := o_bin hop hx hy (fun w => by subst hz; simp [binOp, Op.intArith]) rfl rfl
theorem o_mul (hop : o.op = .binOp .mul T x y U) (hx : ev sl x = some (.d (.c (.int k a)))) (hy : ev sl y = some (.d (.c (.int k b)))) (hz : k.wrap (a * b) = z) : OpD P o H sl 0 0 (.d (.c (.int k z))) [] := o_bin hop hx hy (fun w => by subst hz; simp [binOp, Op.intArith]) rfl rfl
theorem o_ilt (hop : o.op = .binOp .lss T x y U) (hx : ev sl x = some (.d (.c (.int k a)))) (hy : ev sl y = some (.d (.c (.int k b)))) : OpD P o H sl 0 0 (vB (decide (a < b))) [] := o_bin hop hx hy (fun w => by simp [binOp, Op.intCmp]) rfl rfl
theorem o_ile (hop : o.op = .binOp .leq T x y U) (hx : ev sl x = some (.d (.c (.int k a)))) (hy : ev sl y = some (.d (.c (.int k b)))) : OpD P o H sl 0 0 (vB (decide (a ≤ b))) [] := o_bin hop hx hy (fun w => by simp [binOp, Op.intCmp]) rfl rfl
theorem o_igt (hop : o.op = .binOp .gtr T x y U) (hx : ev sl x = some (.d (.c (.int k a)))) (hy : ev sl y = some (.d (.c (.int k b)))) : OpD P o H sl 0 0 (vB (decide (b < a))) [] := o_bin hop hx hy (fun w => by simp [binOp, Op.intCmp]) rfl rfl
theorem o_ige (hop : o.op = .binOp .geq T x y U) (hx : ev sl x = some (.d (.c (.int k a)))) (hy : ev sl y = some (.d (.c (.int k b)))) : OpD P o H sl 0 0 (vB (decide (b ≤ a))) [] := o_bin hop hx hy (fun w => by simp [binOp, Op.intCmp]) rfl rfl
theorem o_ieq (hop : o.op = .binOp .eql T x y U) (hx : ev sl x = some (.d (.c (.int k a)))) (hy : ev sl y = some (.d (.c (.int k b)))) : OpD P o H sl 0 0 (vB (decide (a = b))) [] := o_bin hop hx hy (fun w => by simp [binOp, Op.intCmp]; rfl) rfl rfl
theorem o_ine (hop : o.op = .binOp .neq T x y U) (hx : ev sl x = some (.d (.c (.int k a)))) (hy : ev sl y = some (.d (.c (.int k b)))) : OpD P o H sl 0 0 (vB (!decide (a = b))) [] := o_bin hop hx hy (fun w => by simp [binOp, Op.intCmp]; rfl) rfl rfl
theorem ba_eqE (s t : ByteArray) : (s.toList == t.toList) = decide (s = t) := by
  by_cases h : s = t
  · subst h; simp
  · have : ¬ s.toList = t.toList := fun e => h (by
      rw [ByteArray.toList_eq, ByteArray.toList_eq] at e
      cases s; cases t; simp only at e; congr; exact Array.ext' e)
    simp [h, this]
theorem ble_ge (s t : ByteArray) : (!(bl s t || (s.toList == t.toList))) = bl t s := by
  cases h1 : bl s t
  · cases h2 : bl t s
    · have := bytesLess_total h1 h2
      simp [this]
    · cases h3 : (s.toList == t.toList)
      · rfl
      · simp only [beq_iff_eq] at h3
        rw [bl, h3, bytesLess_irrefl] at h2; cases h2
  · simp only [Bool.true_or, Bool.not_true]
    exact (bytesLess_asymm h1).symm
theorem o_slt (hop : o.op = .binOp .lss T x y U) (hx : ev sl x = some (vS s)) (hy : ev sl y = some (vS t)) : OpD P o H sl 0 0 (vB (bl s t)) [] := o_bin hop hx hy (fun w => by simp [binOp, Op.stringOp]) rfl rfl
theorem o_sgt (hop : o.op = .binOp .gtr T x y U) (hx : ev sl x = some (vS s)) (hy : ev sl y = some (vS t)) : OpD P o H sl 0 0 (vB (bl t s)) [] := o_bin hop hx hy (fun w => by rw [← ble_ge]; simp [binOp, Op.stringOp]) rfl rfl
theorem o_sle (hop : o.op = .binOp .leq T x y U) (hx : ev sl x = some (vS s)) (hy : ev sl y = some (vS t)) : OpD P o H sl 0 0 (vB (!bl t s)) [] := o_bin hop hx hy (fun w => by rw [← ble_ge]; simp [binOp, Op.stringOp]) rfl rfl
theorem o_sge (hop : o.op = .binOp .geq T x y U) (hx : ev sl x = some (vS s)) (hy : ev sl y = some (vS t)) : OpD P o H sl 0 0 (vB (!bl s t)) [] := o_bin hop hx hy (fun w => by simp [binOp, Op.stringOp]) rfl rfl
theorem o_seq (hop : o.op = .binOp .eql T x y U) (hx : ev sl x = some (vS s)) (hy : ev sl y = some (vS t)) : OpD P o H sl 0 0 (vB (decide (s = t))) [] := o_bin hop hx hy (fun w => by rw [← ba_eqE]; simp [binOp, Op.stringOp]) rfl rfl
theorem o_sne (hop : o.op = .binOp .neq T x y U) (hx : ev sl x = some (vS s)) (hy : ev sl y = some (vS t)) : OpD P o H sl 0 0 (vB (!decide (s = t))) [] := o_bin hop hx hy (fun w => by rw [← ba_eqE]; simp [binOp, Op.stringOp]) rfl rfl
theorem o_sadd (hop : o.op = .binOp .add T x y U) (hx : ev sl x = some (vS s)) (hy : ev sl y = some (vS t)) (hl : s.size + t.size ≤ 9223372036854775807) : OpD P o H sl 0 0 (vS (s ++ t)) [] := o_bin hop hx hy (fun w => by
  have h1 : ¬ (IntKind.i64.max < ((s.size + t.size : Nat) : Int)) := by have : IntKind.i64.max = 9223372036854775807 := by decide
                                                                        rw [this]; omega
  simp only [binOp, Op.stringOp]
  rw [if_neg (by simpa using h1)]; simp) rfl rfl
theorem o_beq {p q : Bool} (hop : o.op = .binOp .eql T x y U) (hx : ev sl x = some (vB p)) (hy : ev sl y = some (vB q)) (hT : P.underlying T = some .bool) : OpD P o H sl 0 0 (vB (p == q)) [] := o_bin hop hx hy (fun w => by
  have := run_equalIn_bool' (P := P) w 9999 T p q hT
  simp only [Nat.reduceAdd] at this
  simp only [binOp, Op.equal, Op.maxDepth, Sem.run_bind, this, Result.andThen_ok, Sem.run_pure]) rfl rfl
theorem o_bne {p q : Bool} (hop : o.op = .binOp .neq T x y U) (hx : ev sl x = some (vB p)) (hy : ev sl y = some (vB q)) (hT : P.underlying T = some .bool) : OpD P o H sl 0 0 (vB (!(p == q))) [] := o_bin hop hx hy (fun w => by
  have := run_equalIn_bool' (P := P) w 9999 T p q hT
  simp only [Nat.reduceAdd] at this
  simp only [binOp, Op.equal, Op.maxDepth, Sem.run_bind, this, Result.andThen_ok, Sem.run_pure]) rfl rfl
end
theorem w64 {a : Int} (h1 : -9223372036854775808 ≤ a) (h2 : a ≤ 9223372036854775807) : IntKind.i64.wrap a = a := IntWalk.i64_in _ (by omega)
section
variable {Γ : Cx} {k : Kont} {sl : List (Nat × V)} {hp : Hp} {o : Oper} {rest : List Oper} {ops : Array Oper}
theorem wl_gp {j t : Nat} {oj : Oper} {b c : Bool} (hg : o.guard = some (j, b)) (hj : ops[j]? = some oj) (ht : oj.dst = some t) (hb : look sl t = some (vB c)) (h1 : c = true → WL Γ ops (o :: rest) k ⟨(t, vB true) :: sl, hp⟩) (h2 : c = false → WL Γ ops (o :: rest) k ⟨(t, vB false) :: sl, hp⟩) : WL Γ ops (o :: rest) k ⟨sl, hp⟩ := by
  clear hg hj ht
  exact wl_split t hb h1 h2
end
end Go.Proofs.YtlbnhhfaedhgfaaDoor
namespace Go.Proofs.YtlbnhhfaedhgfaaDoor
set_option linter.unusedSimpArgs false
set_option linter.unusedVariables false
open Go.RowKit

def memN (t : Nat) : List Nat → Bool
  | [] => false
  | s :: r => bif Nat.beq s t then true else memN t r
theorem memN_iff {t : Nat} : ∀ {l : List Nat}, memN t l = true ↔ t ∈ l
  | [] => by simp [memN]
  | s :: r => by
    rw [memN]
    by_cases h : s = t
    · subst h; simp
    · have : Nat.beq s t = false := by cases hb : Nat.beq s t; rfl; exact absurd (Nat.eq_of_beq_eq_true hb) h
      rw [this, cond_false, memN_iff, List.mem_cons]
      constructor
      · exact .inr
      · rintro (rfl | h2)
        · exact absurd rfl h
        · exact h2
def keep {α : Type} (ts : List Nat) : List (Nat × α) → List (Nat × α)
  | [] => []
  | (k, v) :: r => bif memN k ts then (k, v) :: keep ts r else keep ts r
theorem look_keep {α : Type} (ts : List Nat) (t : Nat) : ∀ l : List (Nat × α), look (keep ts l) t = bif memN t ts then look l t else none
  | [] => by simp [keep, look]
  | (k, v) :: r => by
    rw [keep]
    cases hk : memN k ts with
    | true =>
      rw [cond_true, look_cons, look_cons, look_keep ts t r]
      split
      · subst_vars; rw [hk]; rfl
      · rfl
    | false =>
      rw [cond_false, look_cons, look_keep ts t r]
      split
      · subst_vars; rw [hk]; rfl
      · rfl

structure PI where
  i : Nat
  an : Nat
  ts : List Nat
structure Ft where
  p : PI
  ks : List Nat
  ws : List Nat
  lo : Nat
  nn : Nat
def bitN (m j : Nat) : Bool := Nat.testBit m j
def disj (xs ys : List Nat) : Bool := xs.all fun x => !memN x ys
def outR (xs : List Nat) (lo nn : Nat) : Bool := xs.all fun x => Nat.blt x lo || Nat.ble (lo + nn) x
def okF (x : Ft) : List Ft → Bool
  | [] => true
  | y :: r => (bitN x.p.an y.p.i || (disj x.ws y.ks && disj x.ws y.ws && disj y.ws x.ks && outR x.ws y.lo y.nn)) && okF x r
theorem okF_mem {x : Ft} : ∀ {F : List Ft}, okF x F = true → ∀ {y : Ft}, y ∈ F → bitN x.p.an y.p.i = true ∨ (disj x.ws y.ks = true ∧ disj x.ws y.ws = true ∧ disj y.ws x.ks = true ∧ outR x.ws y.lo y.nn = true)
  | [], _, y, hy => by cases hy
  | z :: r, h, y, hy => by
    simp only [okF, Bool.and_eq_true, Bool.or_eq_true] at h
    rcases List.mem_cons.1 hy with rfl | hy
    · rcases h.1 with h1 | ⟨⟨⟨h1, h2⟩, h3⟩, h4⟩
      · exact .inl h1
      · exact .inr ⟨h1, h2, h3, h4⟩
    · exact okF_mem h.2 hy
theorem disj_no {xs ys : List Nat} (h : disj xs ys = true) {t : Nat} (h1 : memN t xs = true) (h2 : memN t ys = true) : False := by
  have := List.all_eq_true.1 h t (memN_iff.1 h1)
  rw [h2] at this; cases this

inductive Wt (ops : Array Oper) (o : Oper) (sl : List (Nat × V)) : Bool → Prop
  | no : o.guard = none → Wt ops o sl true
  | y {j t : Nat} {b : Bool} {oj : Oper} : o.guard = some (j, b) → ops[j]? = some oj → oj.dst = some t → look sl t = some (vB b) → Wt ops o sl true
  | n {j t : Nat} {b c : Bool} {oj : Oper} : o.guard = some (j, b) → ops[j]? = some oj → oj.dst = some t → look sl t = some (vB c) → (b != c) = true → Wt ops o sl false
  | u {j t : Nat} {b : Bool} {oj : Oper} : o.guard = some (j, b) → ops[j]? = some oj → oj.dst = some t → look sl t = some (.t []) → Wt ops o sl false
theorem yields_u {ops : Array Oper} {B : Nat → Prop} {j t : Nat} {oj : Oper} {sl : List (Nat × V)} {ρ : Lc} {a : Act} {w : World} (hs : SR B sl ρ a w) (hj : ops[j]? = some oj) (ht : oj.dst = some t) (hb : look sl t = some (.t [])) : yielded ops a.tmps j = none := by
  obtain ⟨v, h1, h2⟩ := hs t _ hb
  obtain ⟨vs, rfl, h3⟩ := rv_t h2
  simp [yielded, hj, ht, h1]
theorem Wt.spec {ops : Array Oper} {o : Oper} {B : Nat → Prop} {sl : List (Nat × V)} {ρ : Lc} {a : Act} {w : World} {b : Bool} (hs : SR B sl ρ a w) (h : Wt ops o sl b) : Region.wanted o (yielded ops a.tmps) = b := by
  cases h with
  | no h => simp [Region.wanted, h]
  | y h1 h2 h3 h4 => simp [Region.wanted, h1, yields hs h2 h3 h4]
  | n h1 h2 h3 h4 h5 =>
    rename_i j t c d oj
    have hne : c ≠ d := by simpa using h5
    simp [Region.wanted, h1, yields hs h2 h3 h4]; exact fun e => hne e.symm
  | u h1 h2 h3 h4 => simp [Region.wanted, h1, yields_u hs h2 h3 h4]
def Dv (P : Program) (ops : Array Oper) (o : Oper) (hp : Hp) (sl : List (Nat × V)) (lo nn : Nat) (ψ : V → Hp → Prop) : Prop := (Wt ops o sl true ∧ OpV P o hp sl lo nn ψ) ∨ (Wt ops o sl false ∧ ψ (.t []) [])
def put1 (d : Option Tmp) (u : V) (sl : List (Nat × V)) : List (Nat × V) := match d with
  | some t => (t, u) :: sl
  | none => sl
def inW (h : Hp) (ws : List Nat) : Bool := h.all fun e => memN e.1 ws
def WD (Γ : Cx) (ops : Array Oper) (k : Kont) : List PI → List Ft → St → Prop
  | [], _, st => WK Γ k .normal st
  | p :: r, F, st => ∃ (o : Oper) (ks ws : List Nat) (lo nn : Nat) (ψ : V → Hp → Prop), ops[p.i]? = some o ∧ (∀ d, o.dst = some d → d < Γ.nt) ∧ freshB st.hp lo nn = true ∧ okF ⟨p, ks, ws, lo, nn⟩ F = true ∧
      Dv Γ.P ops o (keep ks st.hp) (keep p.ts st.sl) lo nn ψ ∧ (∀ u h, ψ u h → inW h ws = true) ∧ ((∃ u h, ψ u h ∧ ∀ u' h', ψ u' h' → u' = u ∧ h' = h) ∨ (r.all fun q => bitN q.an p.i) = true) ∧ ∀ u h, ψ u h → WD Γ ops k r (⟨p, ks, ws, lo, nn⟩ :: F) ⟨put1 o.dst u st.sl, h ++ st.hp⟩

def ancOf (acc : List (Nat × Nat)) : List Edge → Nat
  | [] => 0
  | e :: r => bif Region.binds .any e then Nat.lor (Nat.lor (Nat.pow 2 e.on) ((look acc e.on).getD 0)) (ancOf acc r) else ancOf acc r
def lateN (pl : List PI) (n i : Nat) : Bool := pl.any fun q => Nat.beq q.i n && bitN q.an i
def tsOk (ops : List Oper) (pl : List PI) (i an : Nat) (ts : List Nat) : Nat → Bool
  | 0 => true
  | n + 1 => (match ops[n]? with
    | some o => match o.dst with
      | some d => bitN an n || !memN d ts || lateN pl n i
      | none => true
    | none => true) && tsOk ops pl i an ts n
def chkI (ops : List Oper) (pl : List PI) (n : Nat) : List PI → List (Nat × Nat) → Bool
  | [], acc => Nat.beq acc.length n
  | p :: r, acc => (match ops[p.i]? with
    | some o => Nat.blt p.i n && (look acc p.i).isNone && (o.after.toList.all fun e => !Region.binds .any e || (look acc e.on).isSome) && Nat.beq p.an (ancOf acc o.after.toList) && tsOk ops pl p.i p.an p.ts n
    | none => false) && chkI ops pl n r ((p.i, p.an) :: acc)
def dstsOk : List Oper → Bool
  | [] => true
  | o :: r => (match o.dst with
    | some d => r.all fun x => match x.dst with
      | some d' => !Nat.beq d d'
      | none => true
    | none => true) && dstsOk r
def chkPe (ops : List Oper) (pl : List PI) : Bool := chkI ops pl ops.length pl [] && dstsOk ops

structure PlanOk (ops : Array Oper) (pl : List PI) : Prop where
  lt : ∀ p ∈ pl, p.i < ops.size
  nd : (pl.map (·.i)).Nodup
  all : ∀ i, i < ops.size → i ∈ pl.map (·.i)
  edge : ∀ a p b o e, pl = a ++ p :: b → ops[p.i]? = some o → e ∈ o.after → Region.binds .any e = true → e.on ∈ a.map (·.i)
  anc : ∀ a p b o j, pl = a ++ p :: b → ops[p.i]? = some o → bitN p.an j = true → ∃ e ∈ o.after, Region.binds .any e = true ∧ (e.on = j ∨ ∃ q ∈ a, q.i = e.on ∧ bitN q.an j = true)
  ts : ∀ p ∈ pl, ∀ i o d, ops[i]? = some o → o.dst = some d → memN d p.ts = true → bitN p.an i = true ∨ ∃ q ∈ pl, q.i = i ∧ bitN q.an p.i = true
  dst : ∀ (i j : Nat) (oi oj : Oper) (d : Tmp), ops[i]? = some oi → ops[j]? = some oj → oi.dst = some d → oj.dst = some d → i = j

theorem ancOf_bit {acc : List (Nat × Nat)} {j : Nat} : ∀ {es : List Edge}, bitN (ancOf acc es) j = true → ∃ e ∈ es, Region.binds .any e = true ∧ (e.on = j ∨ ∃ m, look acc e.on = some m ∧ bitN m j = true)
  | [], h => by simp [ancOf, bitN] at h
  | e :: r, h => by
    rw [ancOf] at h
    cases hb : Region.binds .any e with
    | false =>
      rw [hb, cond_false] at h
      obtain ⟨e', h1, h2⟩ := ancOf_bit h
      exact ⟨e', List.mem_cons_of_mem _ h1, h2⟩
    | true =>
      rw [hb, cond_true] at h
      have h : Nat.testBit ((2 ^ e.on ||| (look acc e.on).getD 0) ||| ancOf acc r) j = true := h
      simp only [Nat.testBit_or, Bool.or_eq_true] at h
      rcases h with (h | h) | h
      · rw [Nat.testBit_two_pow] at h
        exact ⟨e, List.mem_cons_self, hb, .inl (by simpa using h)⟩
      · cases hl : look acc e.on with
        | none => simp [hl] at h
        | some m => exact ⟨e, List.mem_cons_self, hb, .inr ⟨m, hl, by simpa [hl, bitN] using h⟩⟩
      · obtain ⟨e', h1, h2⟩ := ancOf_bit h
        exact ⟨e', List.mem_cons_of_mem _ h1, h2⟩
theorem lateN_spec {pl : List PI} {n i : Nat} (h : lateN pl n i = true) : ∃ q ∈ pl, q.i = n ∧ bitN q.an i = true := by
  obtain ⟨q, hq, h1⟩ := List.any_eq_true.1 h
  simp only [Bool.and_eq_true] at h1
  exact ⟨q, hq, Nat.eq_of_beq_eq_true h1.1, h1.2⟩
theorem tsOk_spec {ops : List Oper} {pl : List PI} {k an : Nat} {ts : List Nat} : ∀ {n : Nat}, tsOk ops pl k an ts n = true → ∀ i o d, i < n → ops[i]? = some o → o.dst = some d → memN d ts = true → bitN an i = true ∨ ∃ q ∈ pl, q.i = i ∧ bitN q.an k = true
  | 0, _, i, _, _, hi, _, _, _ => by omega
  | n + 1, h, i, o, d, hi, h1, h2, h3 => by
    simp only [tsOk, Bool.and_eq_true] at h
    by_cases e : i = n
    · subst e
      have := h.1
      rw [h1] at this; simp only [h2, h3, Bool.not_true, Bool.or_false, Bool.or_eq_true] at this
      exact this.imp_right lateN_spec
    · exact tsOk_spec h.2 i o d (by omega) h1 h2 h3
theorem dstsOk_spec : ∀ {ops : List Oper}, dstsOk ops = true → ∀ (i j : Nat) (oi oj : Oper) (d : Tmp), ops[i]? = some oi → ops[j]? = some oj → oi.dst = some d → oj.dst = some d → i = j
  | [], _, i, j, oi, oj, d, h1, _, _, _ => by simp at h1
  | o :: r, h, i, j, oi, oj, d, h1, h2, h3, h4 => by
    simp only [dstsOk, Bool.and_eq_true] at h
    have key : ∀ (j : Nat) (oj : Oper), r[j]? = some oj → oj.dst = some d → o.dst = some d → False := fun j oj hj hd ho => by
      have h5 := h.1
      rw [ho] at h5
      have h6 := List.all_eq_true.1 h5 oj (List.mem_of_getElem? hj)
      simp only [hd] at h6
      simp at h6
    cases i with
    | zero =>
      cases j with
      | zero => rfl
      | succ j =>
        simp only [List.getElem?_cons_zero, Option.some.injEq] at h1; subst h1
        exact (key j oj (by simpa using h2) h4 h3).elim
    | succ i =>
      cases j with
      | zero =>
        simp only [List.getElem?_cons_zero, Option.some.injEq] at h2; subst h2
        exact (key i oi (by simpa using h1) h3 h4).elim
      | succ j => rw [dstsOk_spec h.2 i j oi oj d (by simpa using h1) (by simpa using h2) h3 h4]
structure AccOk (ops : Array Oper) (a : List PI) (acc : List (Nat × Nat)) : Prop where
  mem : ∀ i, (look acc i).isSome = true → i ∈ a.map (·.i)
  inv : ∀ i m, look acc i = some m → ∃ q ∈ a, q.i = i ∧ q.an = m
  has : ∀ q ∈ a, (look acc q.i).isSome = true
  len : acc.length = a.length
theorem chkI_spec {l : List Oper} {pl0 : List PI} {n : Nat} (hn : n = l.length) : ∀ {r a : List PI} {acc : List (Nat × Nat)}, chkI l pl0 n r acc = true → AccOk l.toArray a acc → (a.map (·.i)).Nodup → (∀ p ∈ a, p.i < n) →
    ((a ++ r).map (·.i)).Nodup ∧ (∀ p ∈ r, p.i < n) ∧ (a ++ r).length = n ∧
    (∀ x p b o e, r = x ++ p :: b → l[p.i]? = some o → e ∈ o.after → Region.binds .any e = true → e.on ∈ (a ++ x).map (·.i)) ∧
    (∀ x p b o j, r = x ++ p :: b → l[p.i]? = some o → bitN p.an j = true → ∃ e ∈ o.after, Region.binds .any e = true ∧ (e.on = j ∨ ∃ q ∈ a ++ x, q.i = e.on ∧ bitN q.an j = true)) ∧
    (∀ p ∈ r, ∀ i o d, l[i]? = some o → o.dst = some d → memN d p.ts = true → bitN p.an i = true ∨ ∃ q ∈ pl0, q.i = i ∧ bitN q.an p.i = true)
  | [], a, acc, h, hacc, hnd, hlt => by
    simp only [chkI] at h
    have := Nat.eq_of_beq_eq_true h
    refine ⟨by simpa using hnd, by simp, by simp [← hacc.len, this], ?_, ?_, by simp⟩
    · intro x p b o e h1; simp at h1
    · intro x p b o j h1; simp at h1
  | p :: r, a, acc, h, hacc, hnd, hlt => by
    simp only [chkI, Bool.and_eq_true] at h
    obtain ⟨h1, h2⟩ := h
    cases ho : l[p.i]? with
    | none => rw [ho] at h1; cases h1
    | some o =>
      simp only [ho, Bool.and_eq_true] at h1
      obtain ⟨⟨⟨⟨h3, h4⟩, h5⟩, h6⟩, h7⟩ := h1
      have h3 := blt_lt h3
      have h6 := Nat.eq_of_beq_eq_true h6
      have hnot : p.i ∉ a.map (·.i) := fun hm => by
        obtain ⟨q, hq, e⟩ := List.mem_map.1 hm
        have := hacc.has q hq
        rw [e] at this
        cases hl : look acc p.i <;> simp [hl] at this h4
      have hacc' : AccOk l.toArray (a ++ [p]) ((p.i, p.an) :: acc) := by
        refine ⟨fun i hi => ?_, fun i m hi => ?_, fun q hq => ?_, by simp [hacc.len]⟩
        · rw [look_cons] at hi
          split at hi
          · subst_vars; simp
          · have := hacc.mem i hi
            rw [List.map_append]; exact List.mem_append_left _ this
        · rw [look_cons] at hi
          split at hi
          · subst_vars; obtain rfl := Option.some.inj hi; exact ⟨p, by simp, rfl, rfl⟩
          · obtain ⟨q, hq, h8⟩ := hacc.inv i m hi
            exact ⟨q, List.mem_append_left _ hq, h8⟩
        · rw [look_cons]
          split
          · rfl
          · rcases List.mem_append.1 hq with hq | hq
            · exact hacc.has q hq
            · simp only [List.mem_singleton] at hq; subst hq; contradiction
      have hnd' : ((a ++ [p]).map (·.i)).Nodup := by
        rw [List.map_append, List.nodup_append]
        refine ⟨hnd, by simp, fun x hx y hy => ?_⟩
        simp only [List.map_cons, List.map_nil, List.mem_singleton] at hy
        subst hy
        intro e; subst e; exact hnot hx
      have ih := chkI_spec hn h2 hacc' hnd' (fun q hq => by
        rcases List.mem_append.1 hq with hq | hq
        · exact hlt q hq
        · simp only [List.mem_singleton] at hq; subst hq; exact h3)
      simp only [List.append_assoc, List.singleton_append] at ih
      obtain ⟨i1, i2, i3, i4, i5, i6⟩ := ih
      refine ⟨i1, ?_, i3, ?_, ?_, ?_⟩
      · intro q hq
        rcases List.mem_cons.1 hq with rfl | hq
        · exact h3
        · exact i2 q hq
      · intro x q b o' e hx ho' he hb
        cases x with
        | nil =>
          simp only [List.nil_append, List.cons.injEq] at hx
          obtain ⟨rfl, rfl⟩ := hx
          rw [ho] at ho'; obtain rfl := Option.some.inj ho'
          have := List.all_eq_true.1 h5 e (by simpa using he)
          simp only [hb, Bool.not_true, Bool.false_or] at this
          simpa using hacc.mem _ this
        | cons y x =>
          simp only [List.cons_append, List.cons.injEq] at hx
          obtain ⟨rfl, rfl⟩ := hx
          exact i4 x q b o' e rfl ho' he hb
      · intro x q b o' j hx ho' hj
        cases x with
        | nil =>
          simp only [List.nil_append, List.cons.injEq] at hx
          obtain ⟨rfl, rfl⟩ := hx
          rw [ho] at ho'; obtain rfl := Option.some.inj ho'
          rw [h6] at hj
          obtain ⟨e, he, hb, h8⟩ := ancOf_bit hj
          refine ⟨e, by simpa using he, hb, ?_⟩
          rcases h8 with h8 | ⟨m, h8, h9⟩
          · exact .inl h8
          · obtain ⟨q, hq, h10, rfl⟩ := hacc.inv _ _ h8
            exact .inr ⟨q, by simpa using hq, h10, h9⟩
        | cons y x =>
          simp only [List.cons_append, List.cons.injEq] at hx
          obtain ⟨rfl, rfl⟩ := hx
          exact i5 x q b o' j rfl ho' hj
      · intro q hq i o' d h8 h9 h10
        rcases List.mem_cons.1 hq with rfl | hq
        · exact tsOk_spec h7 i o' d (by subst hn; exact (List.getElem?_eq_some_iff.1 h8).1) h8 h9 h10
        · exact i6 q hq i o' d h8 h9 h10
theorem nd_len : ∀ (n : Nat) (l : List Nat), l.Nodup → (∀ x ∈ l, x < n) → l.length ≤ n
  | 0, [], _, _ => Nat.le_refl _
  | 0, x :: _, _, h => absurd (h x List.mem_cons_self) (by omega)
  | n + 1, l, h1, h2 => by
    by_cases hn : n ∈ l
    · have := nd_len n (l.erase n) (h1.erase n) (fun x hx => by
        have h7 := h2 x (List.mem_of_mem_erase hx)
        by_cases e : x = n
        · subst e; exact absurd hx (h1.not_mem_erase)
        · omega)
      rw [List.length_erase_of_mem hn] at this; omega
    · have := nd_len n l h1 (fun x hx => by
        have h7 := h2 x hx
        by_cases e : x = n
        · subst e; exact absurd hx hn
        · omega)
      omega
theorem nodup_all : ∀ (n : Nat) (l : List Nat), l.Nodup → (∀ x ∈ l, x < n) → l.length = n → ∀ i, i < n → i ∈ l
  | 0, _, _, _, _, i, hi => by omega
  | n + 1, l, h1, h2, h3, i, hi => by
    have hmem : n ∈ l := by
      apply Classical.byContradiction
      intro hn
      have h4 : ∀ x ∈ l, x < n := fun x hx => by
        have := h2 x hx
        by_cases e : x = n
        · subst e; exact absurd hx hn
        · omega
      have h5 := nd_len n l h1 h4
      omega
    by_cases e : i = n
    · subst e; exact hmem
    · have h5 := nodup_all n (l.erase n) (h1.erase n) (fun x hx => by
        have h6 := List.mem_of_mem_erase hx
        have h7 := h2 x h6
        by_cases e : x = n
        · subst e; exact absurd hx (h1.not_mem_erase)
        · omega) (by rw [List.length_erase_of_mem hmem, h3]; rfl) i (by omega)
      exact List.mem_of_mem_erase h5
theorem PlanOk.of {l : List Oper} {pl : List PI} (h : chkPe l pl = true) : PlanOk l.toArray pl := by
  simp only [chkPe, Bool.and_eq_true] at h
  obtain ⟨h1, h2, h3, h4, h5, h6⟩ := chkI_spec rfl h.1 (a := []) ⟨by simp [look], by simp [look], by simp, rfl⟩ (by simp) (by simp)
  simp only [List.nil_append] at *
  refine ⟨by simpa using h2, h1, fun i hi => nodup_all _ _ h1 (fun x hx => ?_) (by simpa using h3) i (by simpa using hi), fun a p b o e h7 h8 => h4 a p b o e h7 (by simpa using h8), fun a p b o j h7 h8 => h5 a p b o j h7 (by simpa using h8), fun p hp i o d h7 => h6 p hp i o d (by simpa using h7), fun i j oi oj d h7 h8 => dstsOk_spec h.2 i j oi oj d (by simpa using h7) (by simpa using h8)⟩
  obtain ⟨p, hp, rfl⟩ := List.mem_map.1 hx
  exact h2 p hp
end Go.Proofs.YtlbnhhfaedhgfaaDoor
namespace Go.Proofs.YtlbnhhfaedhgfaaDoor
set_option linter.unusedSimpArgs false
set_option linter.unusedVariables false
open Go.RowKit

theorem RelP.look {Γ : Cx} {st st' : St} {ρ : Lc} {a : Act} {w : World} (hr : RelP Γ st ρ a w) (h1 : ∀ t, look st'.sl t = look st.sl t) (h2 : ∀ k, look st'.hp k = look st.hp k) : RelP Γ st' ρ a w := by
  refine ⟨hr.defers, hr.size, hr.kp, hr.ext0, fun k l b hk hb => ?_, fun k l hk => by rw [h2]; exact hr.dom k l hk, hr.dom0, hr.bup, ⟨fun k blk hk => hr.hr.rel k blk (by rw [← h2]; exact hk), fun k k' blk blk' l l' b g1 g2 => hr.hr.inj k k' blk blk' l l' b (by rw [← h2]; exact g1) (by rw [← h2]; exact g2), hr.hr.lt, hr.hr.gl⟩, fun t u hu => hr.sr t u (by rw [← h1]; exact hu)⟩
  rcases hr.own k l b hk hb with h | h | ⟨k0, l0, h3, h4⟩
  · exact .inl h
  · exact .inr (.inl h)
  · exact .inr (.inr ⟨k0, l0, by rw [h2]; exact h3, h4⟩)

theorem RelP.put {Γ : Cx} {st : St} {H0 h : Hp} {ρ ρ' : Lc} {a : Act} {w w' : World} {d : Option Tmp} {u : V} {v : Value} (hr : RelP Γ st ρ a w) (hsub : Sub H0 st.hp) (s : Step Γ.B H0 h ρ ρ' w w') (hu : RV w' (okb Γ.B w' ρ') ρ' u v)
    (hd : ∀ t, d = some t → t < Γ.nt) : RelP Γ ⟨put1 d u st.sl, h ++ st.hp⟩ ρ' (a.put d v) w' := by
  cases d with
  | none => exact hr.step (d := none) hsub s hu hd
  | some t => exact hr.step (d := some t) hsub s hu hd
structure En where
  f : Ft
  o : Oper
  u : V
  h : Hp
abbrev En.i (e : En) : Nat := e.f.p.i
def slE : List En → List (Nat × V)
  | [] => []
  | e :: r => put1 e.o.dst e.u (slE r)
def hpE : List En → Hp
  | [] => []
  | e :: r => e.h ++ hpE r
theorem put1_app (d : Option Tmp) (u : V) (a b : List (Nat × V)) : put1 d u a ++ b = put1 d u (a ++ b) := by cases d <;> rfl
theorem look_put1 (d : Option Tmp) (u : V) (a : List (Nat × V)) (t : Nat) : look (put1 d u a) t = if d = some t then some u else look a t := by
  cases d with
  | none => simp [put1]
  | some s => simp [put1, look_cons]
theorem slE_none {t : Nat} : ∀ {L : List En}, (∀ e ∈ L, e.o.dst ≠ some t) → look (slE L) t = none
  | [], _ => rfl
  | e :: r, h => by
    rw [slE, look_put1, if_neg (h e List.mem_cons_self)]
    exact slE_none fun x hx => h x (List.mem_cons_of_mem _ hx)
theorem slE_some {t : Nat} {e : En} (hd : e.o.dst = some t) : ∀ {L : List En}, (∀ x ∈ L, x.o.dst = some t → x = e) → e ∈ L → look (slE L) t = some e.u
  | [], _, h => by cases h
  | x :: r, hu, h => by
    rw [slE, look_put1]
    split
    · rw [hu x List.mem_cons_self (by assumption)]
    · refine slE_some hd (fun y hy => hu y (List.mem_cons_of_mem _ hy)) ?_
      rcases List.mem_cons.1 h with rfl | h
      · contradiction
      · exact h
def anc (x y : En) : Prop := bitN x.f.p.an y.f.p.i = true
def SrtE (L : List En) : Prop := L.Pairwise fun x y => ¬ anc y x
def Cm (L : List En) (k : Nat) : Prop := ∀ x ∈ L, ∀ y ∈ L, look x.h k ≠ none → look y.h k ≠ none → x = y ∨ anc x y ∨ anc y x
theorem hpE_none {k : Nat} : ∀ {L : List En}, (∀ x ∈ L, look x.h k = none) → look (hpE L) k = none
  | [], _ => rfl
  | e :: r, h => by
    rw [hpE, look_append, h e List.mem_cons_self]
    simpa using hpE_none fun x hx => h x (List.mem_cons_of_mem _ hx)
theorem hpE_none' {k : Nat} : ∀ {L : List En}, look (hpE L) k = none → ∀ x ∈ L, look x.h k = none
  | [], _, x, hx => by cases hx
  | e :: r, h, x, hx => by
    rw [hpE, look_append] at h
    have h1 := Option.or_eq_none_iff.1 h
    rcases List.mem_cons.1 hx with rfl | hx
    · exact h1.1
    · exact hpE_none' h1.2 x hx
theorem hpE_iff {k : Nat} {b : Option Blk} : ∀ {L : List En}, SrtE L → Cm L k → (look (hpE L) k = some b ↔ ∃ x ∈ L, look x.h k = some b ∧ ∀ y ∈ L, look y.h k ≠ none → y = x ∨ anc x y)
  | [], _, _ => by simp [hpE, look]
  | e :: r, hs, hc => by
    have hs' := List.pairwise_cons.1 hs
    have ih := hpE_iff (k := k) (b := b) hs'.2 fun x hx y hy => hc x (List.mem_cons_of_mem _ hx) y (List.mem_cons_of_mem _ hy)
    rw [hpE, look_append]
    cases he : look e.h k with
    | none =>
      rw [Option.none_or, ih]
      constructor
      · rintro ⟨x, hx, h1, h2⟩
        refine ⟨x, List.mem_cons_of_mem _ hx, h1, fun y hy hk => ?_⟩
        rcases List.mem_cons.1 hy with rfl | hy
        · exact absurd he hk
        · exact h2 y hy hk
      · rintro ⟨x, hx, h1, h2⟩
        rcases List.mem_cons.1 hx with rfl | hx
        · rw [he] at h1; cases h1
        · exact ⟨x, hx, h1, fun y hy hk => h2 y (List.mem_cons_of_mem _ hy) hk⟩
    | some c =>
      have hek : look e.h k ≠ none := by rw [he]; simp
      rw [Option.some_or]
      constructor
      · intro h
        refine ⟨e, List.mem_cons_self, by rw [he]; exact h, fun y hy hk => ?_⟩
        rcases List.mem_cons.1 hy with rfl | hy'
        · exact .inl rfl
        · rcases hc e List.mem_cons_self y hy hek hk with h1 | h1 | h1
          · exact .inl h1.symm
          · exact .inr h1
          · exact absurd h1 (hs'.1 y hy')
      · rintro ⟨x, hx, h1, h2⟩
        rcases List.mem_cons.1 hx with rfl | hx
        · rw [← he]; exact h1
        · rcases h2 e List.mem_cons_self hek with rfl | h3
          · rw [← he]; exact h1
          · exact absurd h3 (hs'.1 x hx)
theorem hpE_eq {k : Nat} {L M : List En} (h1 : SrtE L) (h2 : SrtE M) (h3 : Cm L k) (h4 : Cm M k) (hm : ∀ x, look x.h k ≠ none → (x ∈ L ↔ x ∈ M)) : look (hpE L) k = look (hpE M) k := by
  apply Option.ext
  intro b
  rw [hpE_iff h1 h3, hpE_iff h2 h4]
  constructor
  · rintro ⟨x, hx, h5, h6⟩
    exact ⟨x, (hm x (by rw [h5]; simp)).1 hx, h5, fun y hy hk => h6 y ((hm y hk).2 hy) hk⟩
  · rintro ⟨x, hx, h5, h6⟩
    exact ⟨x, (hm x (by rw [h5]; simp)).2 hx, h5, fun y hy hk => h6 y ((hm y hk).1 hy) hk⟩

theorem inW_spec {h : Hp} {ws : List Nat} (hi : inW h ws = true) {k : Nat} (hk : look h k ≠ none) : memN k ws = true := by
  cases e : look h k with
  | none => exact absurd e hk
  | some x => exact List.all_eq_true.1 hi _ (look_mem e)
theorem outR_spec {ws : List Nat} {lo nn k : Nat} (h : outR ws lo nn = true) (hk : memN k ws = true) (h1 : lo ≤ k) (h2 : k < lo + nn) : False := by
  have := List.all_eq_true.1 h k (memN_iff.1 hk)
  simp only [Bool.or_eq_true] at this
  rcases this with h3 | h3
  · have := blt_lt h3; omega
  · have := Nat.le_of_ble_eq_true h3; omega

inductive Good (Γ : Cx) (ops : Array Oper) (hp0 : Hp) : List En → Prop
  | nil : Good Γ ops hp0 []
  | cons {e : En} {E : List En} : Good Γ ops hp0 E → ops[e.i]? = some e.o → (∀ d, e.o.dst = some d → d < Γ.nt) → freshB (hpE E ++ hp0) e.f.lo e.f.nn = true → okF e.f (E.map (·.f)) = true → inW e.h e.f.ws = true → Good Γ ops hp0 (e :: E)
section
variable {Γ : Cx} {ops : Array Oper} {pl : List PI} {hp0 : Hp} {sl0 : List (Nat × V)}
theorem Good.cm {E : List En} (h : Good Γ ops hp0 E) (k : Nat) : Cm E k := by
  induction h with
  | nil => intro x hx; cases hx
  | @cons e E hg h1 h2 h3 h4 h5 ih =>
    have hin : ∀ {E : List En}, Good Γ ops hp0 E → ∀ x ∈ E, inW x.h x.f.ws = true := by
      intro E h
      induction h with
      | nil => intro x hx; cases hx
      | cons hg _ _ _ _ h5 ih => intro x hx; rcases List.mem_cons.1 hx with rfl | hx; exact h5; exact ih x hx
    have key : ∀ y ∈ E, look e.h k ≠ none → look y.h k ≠ none → anc e y := by
      intro y hy hk1 hk2
      rcases okF_mem h4 (List.mem_map.2 ⟨y, hy, rfl⟩) with h6 | ⟨-, h6, -, -⟩
      · exact h6
      · exact (disj_no h6 (inW_spec h5 hk1) (inW_spec (hin hg y hy) hk2)).elim
    intro x hx y hy hk1 hk2
    rcases List.mem_cons.1 hx with hx | hx <;> rcases List.mem_cons.1 hy with hy | hy
    · rw [hx, hy]; exact .inl rfl
    · rw [hx] at hk1 ⊢; exact .inr (.inl (key y hy hk1 hk2))
    · rw [hy] at hk2 ⊢; exact .inr (.inr (key x hx hk2 hk1))
    · exact ih x hx y hy hk1 hk2
theorem Good.at {E : List En} (h : Good Γ ops hp0 E) : ∀ {X Y : List En} {e : En}, E = X ++ e :: Y → Good Γ ops hp0 Y ∧ ops[e.i]? = some e.o ∧ (∀ d, e.o.dst = some d → d < Γ.nt) ∧ freshB (hpE Y ++ hp0) e.f.lo e.f.nn = true ∧ okF e.f (Y.map (·.f)) = true ∧ inW e.h e.f.ws = true ∧
    ∀ x ∈ X, bitN x.f.p.an e.f.p.i = true ∨ (disj x.f.ws e.f.ks = true ∧ disj x.f.ws e.f.ws = true ∧ disj e.f.ws x.f.ks = true ∧ outR x.f.ws e.f.lo e.f.nn = true) := by
  induction h with
  | nil => intro X Y e he; simp at he
  | @cons e0 E hg h1 h2 h3 h4 h5 ih =>
    intro X Y e he
    cases X with
    | nil =>
      simp only [List.nil_append, List.cons.injEq] at he
      obtain ⟨rfl, rfl⟩ := he
      exact ⟨hg, h1, h2, h3, h4, h5, by simp⟩
    | cons x X =>
      simp only [List.cons_append, List.cons.injEq] at he
      obtain ⟨rfl, rfl⟩ := he
      obtain ⟨i1, i2, i3, i4, i5, i6, i7⟩ := ih rfl
      refine ⟨i1, i2, i3, i4, i5, i6, fun x hx => ?_⟩
      rcases List.mem_cons.1 hx with rfl | hx
      · exact okF_mem h4 (List.mem_map.2 ⟨e, by simp, rfl⟩)
      · exact i7 x hx
theorem Good.mem {E : List En} (h : Good Γ ops hp0 E) {x : En} (hx : x ∈ E) : ops[x.i]? = some x.o ∧ inW x.h x.f.ws = true := by
  obtain ⟨X, Y, rfl⟩ := List.append_of_mem hx
  obtain ⟨-, h1, -, -, -, h2, -⟩ := h.at rfl
  exact ⟨h1, h2⟩
theorem PlanOk.anc_mem (hp : PlanOk ops pl) : ∀ (n : Nat) {a b : List PI} {p : PI} {j : Nat}, a.length = n → pl = a ++ p :: b → bitN p.an j = true → j ∈ a.map (·.i) := by
  intro n
  induction n using Nat.strongRecOn with
  | _ n ih =>
    intro a b p j hn he hj
    have hlt := hp.lt p (by rw [he]; simp)
    have ho : ops[p.i]? = some ops[p.i] := Array.getElem?_eq_getElem hlt
    obtain ⟨e, h1, h2, h3⟩ := hp.anc a p b _ j he ho hj
    rcases h3 with rfl | ⟨q, hq, h4, h5⟩
    · exact hp.edge a p b _ e he ho h1 h2
    · obtain ⟨a1, a2, rfl⟩ := List.append_of_mem hq
      have := ih a1.length (by simp at hn; omega) (a := a1) (b := a2 ++ p :: b) (p := q) rfl (by rw [he]; simp) h5
      rw [List.map_append]; exact List.mem_append_left _ this
theorem srt_of (hp : PlanOk ops pl) : ∀ {E : List En} {rest : List PI}, pl = (E.map (·.f.p)).reverse ++ rest → SrtE E
  | [], _, _ => .nil
  | e :: E, rest, he => by
    simp only [List.map_cons, List.reverse_cons, List.append_assoc, List.singleton_append] at he
    refine List.pairwise_cons.2 ⟨fun y hy hb => ?_, srt_of hp he⟩
    have hy' : y.f.p ∈ (E.map (·.f.p)).reverse := by simpa using ⟨y, hy, rfl⟩
    obtain ⟨a1, a2, h1⟩ := List.append_of_mem hy'
    rw [h1] at he
    have h2 := hp.anc_mem a1.length (a := a1) (b := a2 ++ e.f.p :: rest) (p := y.f.p) rfl (by rw [he]; simp) hb
    have h3 := hp.nd
    rw [he, List.map_append, List.nodup_append] at h3
    exact h3.2.2 e.f.p.i (by rw [List.map_append]; exact List.mem_append_left _ h2) e.f.p.i (by simp) rfl
theorem uq_of (hp : PlanOk ops pl) {E : List En} {rest : List PI} (he : pl = (E.map (·.f.p)).reverse ++ rest) {x y : En} (hx : x ∈ E) (hy : y ∈ E) (h : x.i = y.i) : x = y := by
  have h1 : (E.map (·.i)).Nodup := by
    have h2 := hp.nd
    rw [he, List.map_append, List.nodup_append] at h2
    have h3 := h2.1
    rw [List.map_reverse, List.map_map] at h3
    have h4 : ∀ {l : List Nat}, l.reverse.Nodup → l.Nodup := fun h => by
      have := List.pairwise_reverse.1 h
      exact this.imp fun h => h.symm
    exact h4 h3
  clear he
  induction E with
  | nil => cases hx
  | cons e E ih =>
    simp only [List.map_cons, List.nodup_cons] at h1
    rcases List.mem_cons.1 hx with hx | hx <;> rcases List.mem_cons.1 hy with hy | hy
    · rw [hx, hy]
    · rw [hx] at h; exact absurd (List.mem_map.2 ⟨y, hy, h.symm⟩) h1.1
    · rw [hy] at h; exact absurd (List.mem_map.2 ⟨x, hx, h⟩) h1.1
    · exact ih hx hy h1.2

theorem pi_uq (hp : PlanOk ops pl) {p q : PI} (h1 : p ∈ pl) (h2 : q ∈ pl) (h : p.i = q.i) : p = q := by
  have hn := hp.nd
  clear hp
  induction pl with
  | nil => cases h1
  | cons x r ih =>
    simp only [List.map_cons, List.nodup_cons] at hn
    rcases List.mem_cons.1 h1 with h1 | h1 <;> rcases List.mem_cons.1 h2 with h2 | h2
    · rw [h1, h2]
    · rw [h1] at h; exact absurd (List.mem_map.2 ⟨q, h2, h.symm⟩) hn.1
    · rw [h2] at h; exact absurd (List.mem_map.2 ⟨p, h1, h⟩) hn.1
    · exact ih h1 h2 hn.2
structure Sim (Γ : Cx) (ops : Array Oper) (pl : List PI) (hp0 : Hp) (E T : List En) (rest : List PI) : Prop where
  ok : PlanOk ops pl
  eq : pl = (E.map (·.f.p)).reverse ++ rest
  good : Good Γ ops hp0 E
  sub : ∀ x ∈ T, x ∈ E
  cl : ∀ x ∈ T, ∀ j, bitN x.f.p.an j = true → ∃ y ∈ T, y.i = j
  srt : SrtE T
theorem PlanOk.noY (hp : PlanOk ops pl) {Y : List En} {p : PI} {b : List PI} (h : pl = (Y.map (·.f.p)).reverse ++ p :: b) {x : En} (hx : x ∈ Y) (hb : bitN x.f.p.an p.i = true) : False := by
  obtain ⟨A, C, rfl⟩ := List.append_of_mem hx
  have e : pl = (C.map (·.f.p)).reverse ++ x.f.p :: ((A.map (·.f.p)).reverse ++ p :: b) := by rw [h]; simp
  obtain ⟨q, hq, h1⟩ := List.mem_map.1 (hp.anc_mem _ rfl e hb)
  have hn := hp.nd
  rw [e, List.map_append, List.nodup_append] at hn
  exact hn.2.2 q.i (List.mem_map.2 ⟨q, hq, rfl⟩) p.i (List.mem_map.2 ⟨p, by simp, rfl⟩) h1
structure At8 (Γ : Cx) (ops : Array Oper) (pl : List PI) (hp0 : Hp) (E T Y : List En) (f : Ft) : Prop where
  sub : ∀ x ∈ Y, x ∈ E
  okf : okF f (Y.map (·.f)) = true
  fr : freshB (hpE Y ++ hp0) f.lo f.nn = true
  new : ∀ x ∈ E, x ∈ Y ∨ x.i = f.p.i ∨ bitN x.f.p.an f.p.i = true ∨ (disj x.f.ws f.ks = true ∧ disj x.f.ws f.ws = true ∧ disj f.ws x.f.ks = true ∧ outR x.f.ws f.lo f.nn = true)
  anT : ∀ j, bitN f.p.an j = true → ∃ y ∈ T, y.i = j
  anY : ∀ j, bitN f.p.an j = true → ∃ y ∈ Y, y.i = j
  no : ∀ x ∈ T, x.i ≠ f.p.i
  srt : SrtE Y
  mem : f.p ∈ pl
  bef : ∀ x ∈ Y, bitN x.f.p.an f.p.i = true → False
variable {E T Y : List En} {rest : List PI} {f : Ft}
theorem Sim.inpl (s : Sim Γ ops pl hp0 E T rest) {x : En} (hx : x ∈ E) : x.f.p ∈ pl := by
  rw [s.eq]; exact List.mem_append_left _ (by simpa using ⟨x, hx, rfl⟩)
theorem At8.sl (h : At8 Γ ops pl hp0 E T Y f) (s : Sim Γ ops pl hp0 E T rest) {t : Nat} (ht : memN t f.p.ts = true) : look (slE T ++ sl0) t = look (slE Y ++ sl0) t := by
  have huq : ∀ {L : List En}, (∀ x ∈ L, x ∈ E) → ∀ {y : En}, y ∈ L → y.o.dst = some t → ∀ x ∈ L, x.o.dst = some t → x = y := fun hL y hy hd x hx hxd => uq_of s.ok s.eq (hL x hx) (hL y hy) (s.ok.dst _ _ _ _ t (s.good.mem (hL x hx)).1 (s.good.mem (hL y hy)).1 hxd hd)
  rw [look_append, look_append]
  by_cases hex : ∃ e ∈ E, e.o.dst = some t
  · obtain ⟨e, he, hd⟩ := hex
    rcases s.ok.ts f.p h.mem _ _ t (s.good.mem he).1 hd ht with hb | ⟨q, hq, hqi, hqb⟩
    rotate_left
    · obtain rfl := pi_uq s.ok hq (s.inpl he) hqi
      have no : ∀ (L : List En), (∀ x ∈ L, x ∈ E) → ¬ e ∈ L → look (slE L) t = none := fun L hL hne => slE_none fun x hx hxd => hne (by rw [← uq_of s.ok s.eq (hL x hx) he (s.ok.dst _ _ _ _ t (s.good.mem (hL x hx)).1 (s.good.mem he).1 hxd hd)]; exact hx)
      rw [no T s.sub fun hx => (by obtain ⟨y, hy, h2⟩ := s.cl _ hx _ hqb; exact h.no y hy h2), no Y h.sub fun hx => h.bef _ hx hqb]
    obtain ⟨y, hy, h1⟩ := h.anT _ hb
    obtain rfl := uq_of s.ok s.eq (s.sub y hy) he h1
    obtain ⟨z, hz, h2⟩ := h.anY _ hb
    obtain rfl := uq_of s.ok s.eq (h.sub z hz) (s.sub y hy) h2
    rw [slE_some hd (huq s.sub hy hd) hy, slE_some hd (huq h.sub hz hd) hz]
  · rw [slE_none fun e he hd => hex ⟨e, s.sub e he, hd⟩, slE_none fun e he hd => hex ⟨e, h.sub e he, hd⟩]
theorem At8.hp (h : At8 Γ ops pl hp0 E T Y f) (s : Sim Γ ops pl hp0 E T rest) {k : Nat} (hk : memN k f.ks = true) : look (hpE T ++ hp0) k = look (hpE Y ++ hp0) k := by
  have hcm := s.good.cm k
  have : look (hpE T) k = look (hpE Y) k := by
    refine hpE_eq s.srt h.srt (fun x hx y hy => hcm x (s.sub x hx) y (s.sub y hy)) (fun x hx y hy => hcm x (h.sub x hx) y (h.sub y hy)) fun x hxk => ⟨fun hx => ?_, fun hx => ?_⟩
    · have hE := s.sub x hx
      have hw := inW_spec (s.good.mem hE).2 hxk
      rcases h.new x hE with h1 | h1 | h1 | ⟨h1, -⟩
      · exact h1
      · exact absurd h1 (h.no x hx)
      · obtain ⟨y, hy, h2⟩ := s.cl x hx _ h1
        exact absurd h2 (h.no y hy)
      · exact (disj_no h1 hw hk).elim
    · have hE := h.sub x hx
      have hw := inW_spec (s.good.mem hE).2 hxk
      rcases okF_mem h.okf (List.mem_map.2 ⟨x, hx, rfl⟩) with h1 | ⟨-, -, h1, -⟩
      · obtain ⟨y, hy, h2⟩ := h.anT _ h1
        obtain rfl := uq_of s.ok s.eq (s.sub y hy) hE h2
        exact hy
      · exact (disj_no h1 hw hk).elim
  rw [look_append, look_append, this]
theorem At8.fresh (h : At8 Γ ops pl hp0 E T Y f) (s : Sim Γ ops pl hp0 E T rest) {k : Nat} (h1 : f.lo ≤ k) (h2 : k < f.lo + f.nn) : look (hpE T ++ hp0) k = none := by
  have h3 := freshB_look h.fr h1 h2
  rw [look_append] at h3 ⊢
  have h4 := Option.or_eq_none_iff.1 h3
  refine Option.or_eq_none_iff.2 ⟨hpE_none fun x hx => ?_, h4.2⟩
  apply Classical.byContradiction
  intro hk
  have hE := s.sub x hx
  have hw := inW_spec (s.good.mem hE).2 hk
  rcases h.new x hE with h5 | h5 | h5 | ⟨-, -, -, h5⟩
  · exact hk (hpE_none' h4.1 x h5)
  · exact h.no x hx h5
  · obtain ⟨y, hy, h6⟩ := s.cl x hx _ h5
    exact h.no y hy h6
  · exact outR_spec h5 hw h1 h2
theorem At8.run {Q : Exit → Act → World → Prop} {K : Act → World → Prop} {a : Act} {w : World} {o : Oper} {ψ : V → Hp → Prop} (h : At8 Γ ops pl hp0 E T Y f) (s : Sim Γ ops pl hp0 E T rest) (hr : Rel Γ ⟨slE T ++ sl0, hpE T ++ hp0⟩ a w) (ho : ops[f.p.i]? = some o) (hd : ∀ d, o.dst = some d → d < Γ.nt)
    (hv : Dv Γ.P ops o (keep f.ks (hpE Y ++ hp0)) (keep f.p.ts (slE Y ++ sl0)) f.lo f.nn ψ) (hK : ∀ u h a' w', ψ u h → Rel Γ ⟨put1 o.dst u (slE T ++ sl0), h ++ (hpE T ++ hp0)⟩ a' w' → K a' w') : wpOp Γ.P ops Q f.p.i K a w := by
  obtain ⟨ρ, hr⟩ := hr
  have hsr : SR Γ.B (keep f.p.ts (slE Y ++ sl0)) ρ a w := fun t u hu => by
    rw [look_keep] at hu
    cases ht : memN t f.p.ts with
    | false => rw [ht] at hu; cases hu
    | true =>
      rw [ht, cond_true] at hu
      exact hr.sr t u (by simp only; rw [h.sl s ht]; exact hu)
  have hsub : Sub (keep f.ks (hpE Y ++ hp0)) (hpE T ++ hp0) := fun k blk hk => by
    rw [look_keep] at hk
    cases ht : memN k f.ks with
    | false => rw [ht] at hk; cases hk
    | true =>
      rw [ht, cond_true] at hk
      rw [h.hp s ht]; exact hk
  have hHR : HR Γ.B (keep f.ks (hpE Y ++ hp0)) ρ w := ⟨fun k blk hk => hr.hr.rel k blk (hsub _ _ hk), fun k k' blk blk' l l' b g1 g2 => hr.hr.inj k k' blk blk' l l' b (hsub _ _ g1) (hsub _ _ g2), hr.hr.lt, hr.hr.gl⟩
  have hfr : ∀ k, f.lo ≤ k → k < f.lo + f.nn → ρ k = none := fun k h1 h2 => by
    cases e : ρ k with
    | none => rfl
    | some l => exact absurd (h.fresh s h1 h2) (hr.dom k l e)
  unfold wpOp
  simp only [ho]
  rcases hv with ⟨hw, hop⟩ | ⟨hw, hψ⟩
  · rw [if_pos (hw.spec hsr)]
    refine .inl (Oper.wp_mono' (hop Γ.B a w ρ hr.up hr.defers hsr hHR hfr) ?_ fun _ _ _ h => h.elim)
    rintro a' w' ⟨v, u, h', ρ', rfl, hψ, hs, hv⟩
    exact hK u h' _ _ hψ ⟨ρ', hr.put hsub hs hv hd⟩
  · rw [if_neg (by rw [hw.spec hsr]; simp)]
    exact hK _ _ _ _ hψ ⟨ρ, hr.put (u := .t []) (v := undef) (fun _ _ h => h) (Step.refl _ ρ w) (RV.t RVs.nil) hd⟩
end
end Go.Proofs.YtlbnhhfaedhgfaaDoor
