/-
  A region that draws its order: a head of operations that read, call and make variables (alloc), each in whatever order its edges allow, and a tail in one forced order. One walk of the head in the order of the text serves every order.
-/
import Derived.Test.YtddjhemncniidaaDoorK0
import Derived.StillTail
import Derived.Deep.Quiet
import Derived.Deep.QuietTactic
import Derived.BigQuiet
import Derived.Lib.QuietBelow
namespace Go.Proofs.YtddjhemncniidaaDoor
set_option linter.unusedSimpArgs false
set_option linter.unusedVariables false
open Go.RowKit Go.Sort

/-- The worlds in which nothing of W0 has turned. -/
def gr (W0 : World) (p : Regrown) : World := grow (redrawn W0 p.d) p.os
theorem kp_gr (W0 : World) (p : Regrown) : Kp [] W0 (gr W0 p) := Kp.of_below (below_regrown W0 p.d p.os)
theorem gr_of_kp {W0 w : World} (h : Kp [] W0 w) : ∃ p : Regrown, w = gr W0 p := regrown_of_below h.below
theorem quiet_call {P : Program} {f : FuncId} {args : Array Value} {W0 : World} {p : Regrown} {v : Value}
    (h : Calls P f args (gr W0 p) fun e w' => e = .returned v ∧ Kp [] (gr W0 p) w') : Calls P f args (gr W0 p) fun e w'' => e = .returned v ∧ ∃ p', w'' = gr W0 p' :=
  h.mono fun _ _ ⟨he, hb⟩ => ⟨he, gr_of_kp ((kp_gr W0 p).trans hb)⟩
theorem quiet_call_same {P : Program} {f : FuncId} {args : Array Value} {W0 : World} {p : Regrown} {v : Value}
    (h : Calls P f args (gr W0 p) fun e w' => e = .returned v ∧ gr W0 p = w') : Calls P f args (gr W0 p) fun e w'' => e = .returned v ∧ ∃ p', w'' = gr W0 p' :=
  h.mono fun _ _ ⟨he, hb⟩ => ⟨he, p, hb.symm⟩

def noAlloc (o : Oper) : Oper := match o.op with | .alloc _ => { o with op := .move (.const undef) } | _ => o
def isAlloc (o : Oper) : Option TypeId := match o.op with | .alloc t => some t | _ => none

/-- The head's look: each edge leads back; what an operation looks at, if the head makes it, is made by one that it waits for, and by no alloc; no two write one slot. -/
def headOk (ops : Array Oper) (n : Nat) (o : Oper) (k : Nat) : Bool :=
  (o.after.all fun e => !Region.binds .any e || decide (e.on < k)) &&
  ((isAlloc o).isNone || (o.guard.isNone && o.dst.isSome)) &&
  ((List.range n).all fun j => match ops[j]? with
    | none => true
    | some oj => match oj.dst with
      | none => true
      | some d => (j == k || o.dst != some d) && (!(o.looksAt ops).contains d || ((isAlloc oj).isNone && o.after.any fun e => Region.binds .any e && e.on == j)))
def chkQA (ops : Array Oper) (n : Nat) : Bool :=
  Region.noSelect ops && decide (n < ops.size) && Region.sinkB .any ops n && Region.chainB .any ops n &&
  Region.seqB .any ops (ops.size - n) n ((Array.range ops.size).map fun i => decide (i < n)) &&
  (List.range n).all fun k => match ops[k]? with | some o => headOk ops n o k | none => false

/-- Two frames agree on what an operation looks at. -/
def Agrees (ops : Array Oper) (o : Oper) (a b : Act) : Prop := ∀ t ∈ o.looksAt ops, a.tmps[t]? = b.tmps[t]?

theorem Agrees.exec {ops : Array Oper} {o : Oper} {a b : Act} (h : Agrees ops o a b) (hs : ∀ cs bb, o.op ≠ .select cs bb) : execOp a.eval o = execOp b.eval o := by
  refine execOp_congr o hs fun x hx => ?_
  cases x with
  | tmp t =>
    have := h t (List.mem_append_left _ (List.mem_filterMap.2 ⟨.tmp t, by simpa using hx, rfl⟩))
    simp [Act.eval, this]
  | _ => rfl
theorem Agrees.wanted {ops : Array Oper} {o : Oper} {a b : Act} (h : Agrees ops o a b) : Region.wanted o (yielded ops a.tmps) = Region.wanted o (yielded ops b.tmps) := by
  unfold Region.wanted
  cases hg : o.guard with
  | none => rfl
  | some gw =>
    obtain ⟨g, want⟩ := gw
    have hy : yielded ops a.tmps g = yielded ops b.tmps g := by
      unfold yielded
      cases ht : (ops[g]?).bind (·.dst) with
      | none => rfl
      | some t =>
        have := h t (List.mem_append_right _ (by simp [hg, ht]))
        simp [this]
    simp only [hy]

theorem put_getElem? (a : Act) (o : Option Tmp) (v : Value) (t : Tmp) (h : o ≠ some t) : (a.put o v).tmps[t]? = a.tmps[t]? := by
  cases o with
  | none => rfl
  | some d => exact Array.getElem?_setIfInBounds_ne (fun e => h (by rw [e]))

/-- An operation of the head: ONE value, in every world in which nothing of W0 has turned; a call leaves all that it found. -/
def qkUpon (P : Program) (w : World) (v : Value) : Result Next → Prop
  | .ok (.value u) w' => w' = w ∧ u = v
  | .ok .skip w' => w' = w ∧ v = undef
  | .ok (.enter f args) w' => w' = w ∧ Calls P f args w (fun e w'' => e = .returned v ∧ Kp [] w w'')
  | _ => False
def qkAt (P : Program) (o : Oper) (a : Act) (W0 : World) (v : Value) : Prop := ∀ w, (∃ p : Regrown, w = gr W0 p) → qkUpon P w v ((execOp a.eval o).run P w)
def qk (P : Program) (o : Oper) (a : Act) (W0 : World) (next : Act → Prop) : Prop := ∃ v, qkAt P o a W0 v ∧ next (a.put o.dst v)
/-- The walk in the order of the text. -/
def wpQK (P : Program) (ops : Array Oper) (W0 : World) (Q : Act → Prop) : List Oper → Act → Prop
  | [], a => Q a
  | o :: rest, a => if Region.wanted o (yielded ops a.tmps) then qk P o a W0 (wpQK P ops W0 Q rest) else wpQK P ops W0 Q rest (a.put o.dst undef)
theorem wpQK_nil {P : Program} {ops : Array Oper} {W0 : World} {Q : Act → Prop} {a : Act} (h : Q a) : wpQK P ops W0 Q [] a := h
theorem wpQK_step {P : Program} {ops : Array Oper} {W0 : World} {Q : Act → Prop} {a : Act} {o : Oper} {rest : List Oper}
    (h : ∀ K : Act → Prop, (∀ a, wpQK P ops W0 Q rest a → K a) → if Region.wanted o (yielded ops a.tmps) then qk P o a W0 K else K (a.put o.dst undef)) : wpQK P ops W0 Q (o :: rest) a :=
  h _ (fun _ h => h)
attribute [go_sem] qk qkAt qkUpon

/-- In frame a operation o yields v. -/
def Gives (P : Program) (ops : Array Oper) (W0 : World) (o : Oper) (v : Value) (a : Act) : Prop :=
  (Region.wanted o (yielded ops a.tmps) = true ∧ qkAt P o a W0 v) ∨ (Region.wanted o (yielded ops a.tmps) = false ∧ v = undef)
theorem Gives.of_same {P : Program} {ops : Array Oper} {W0 : World} {o : Oper} {v : Value} {a a' : Act} (hy : Gives P ops W0 o v a) (he : execOp a'.eval o = execOp a.eval o)
    (hw : Region.wanted o (yielded ops a'.tmps) = Region.wanted o (yielded ops a.tmps)) : Gives P ops W0 o v a' := by
  unfold Gives qkAt at *
  rw [he, hw]
  exact hy

/-- What the walk in the order of the text shows: a last frame, and of each operation that it yields, there, what that frame holds. -/
theorem lex_final {P : Program} {L : Array Oper} {W0 : World} {Qf : Act → Prop} :
    ∀ (l : List Oper) (a : Act), wpQK P L W0 Qf l a →
      (∀ (i j : Nat) (oi oj : Oper), i ≤ j → l[i]? = some oi → l[j]? = some oj → ∀ d, oj.dst = some d → d ∉ oi.looksAt L) →
      (∀ (i j : Nat) (oi oj : Oper), i < j → l[i]? = some oi → l[j]? = some oj → ∀ d, oi.dst = some d → oj.dst ≠ some d) →
      (∀ (i : Nat) (o : Oper), l[i]? = some o → ∀ cs b, o.op ≠ .select cs b) →
      ∃ A : Act, Qf A ∧ A.tmps.size = a.tmps.size ∧ A.defers = a.defers ∧
        (∀ t, (∀ (i : Nat) (o : Oper), l[i]? = some o → o.dst ≠ some t) → A.tmps[t]? = a.tmps[t]?) ∧
        (∀ (i : Nat) (o : Oper), l[i]? = some o → ∃ v, Gives P L W0 o v A ∧ ∀ d, o.dst = some d → A.tmps[d]? = if d < A.tmps.size then some v else none)
  | [], a, h, _, _, _ => ⟨a, h, rfl, rfl, fun _ _ => rfl, fun i o hi => by simp at hi⟩
  | o :: rest, a, h, hl, hd, hs => by
    have hst : ∃ v, Gives P L W0 o v a ∧ wpQK P L W0 Qf rest (a.put o.dst v) := by
      simp only [wpQK] at h
      by_cases hw : Region.wanted o (yielded L a.tmps) = true
      · simp only [hw, if_true] at h
        obtain ⟨v, h1, h2⟩ := h
        exact ⟨v, .inl ⟨hw, h1⟩, h2⟩
      · simp only [hw] at h
        exact ⟨undef, .inr ⟨by simpa using hw, rfl⟩, h⟩
    obtain ⟨v, hy, hr⟩ := hst
    obtain ⟨A, hQ, hsz, hdf, hkeep, hall⟩ := lex_final rest (a.put o.dst v) hr
      (fun i j oi oj hij hi hj => hl (i + 1) (j + 1) oi oj (by omega) (by simpa using hi) (by simpa using hj))
      (fun i j oi oj hij hi hj => hd (i + 1) (j + 1) oi oj (by omega) (by simpa using hi) (by simpa using hj))
      (fun i o' hi => hs (i + 1) o' (by simpa using hi))
    have hsz' : A.tmps.size = a.tmps.size := by rw [hsz]; cases o.dst <;> simp [Act.put]
    have hdf' : A.defers = a.defers := by rw [hdf]; cases o.dst <;> rfl
    have hag : Agrees L o A a := fun t ht => by
      have h1 : A.tmps[t]? = (a.put o.dst v).tmps[t]? := hkeep t fun i o' hi e =>
        hl 0 (i + 1) o o' (by omega) (by simp) (by simpa using hi) t e ht
      rw [h1, put_getElem? a o.dst v t fun e => hl 0 0 o o (by omega) (by simp) (by simp) t e ht]
    refine ⟨A, hQ, hsz', hdf', fun t ht => ?_, fun i o' hi => ?_⟩
    · rw [hkeep t fun i o' hi => ht (i + 1) o' (by simpa using hi)]
      exact put_getElem? a o.dst v t (ht 0 o (by simp))
    · cases i with
      | zero =>
        obtain rfl : o = o' := by simpa using hi
        refine ⟨v, hy.of_same (hag.exec (hs 0 o (by simp))) hag.wanted, fun d hod => ?_⟩
        rw [hkeep d fun i o'' hi' => hd 0 (i + 1) o o'' (by omega) (by simp) (by simpa using hi') d hod]
        rw [hsz', hod]
        simp [Act.put, Array.getElem?_setIfInBounds]
      | succ i => exact hall i o' (by simpa using hi)

theorem noAlloc_dst (o : Oper) : (noAlloc o).dst = o.dst := by unfold noAlloc; split <;> rfl
theorem noAlloc_guard (o : Oper) : (noAlloc o).guard = o.guard := by unfold noAlloc; split <;> rfl
theorem noAlloc_of {o : Oper} (h : isAlloc o = none) : noAlloc o = o := by
  unfold isAlloc at h; unfold noAlloc
  split
  · rename_i t e; rw [e] at h; simp at h
  · rfl
theorem isAlloc_op {o : Oper} {T : TypeId} (h : isAlloc o = some T) : o.op = .alloc T := by
  unfold isAlloc at h
  split at h
  · rename_i t e; rw [e]; simpa using h
  · cases h
theorem looksAt_map (l : List Oper) (o : Oper) : o.looksAt (l.map noAlloc).toArray = o.looksAt l.toArray := by
  unfold Oper.looksAt
  congr 1
  cases o.guard with
  | none => rfl
  | some gw =>
    obtain ⟨g, w⟩ := gw
    simp only [List.getElem?_toArray, List.getElem?_map]
    cases h : l[g]? <;> simp [noAlloc_dst]
theorem looksAt_noAlloc (L : Array Oper) (o : Oper) : ∀ t ∈ (noAlloc o).looksAt L, t ∈ o.looksAt L := by
  intro t ht
  cases h : isAlloc o with
  | none => rw [noAlloc_of h] at ht; exact ht
  | some T =>
    have e := isAlloc_op h
    unfold noAlloc at ht
    rw [e] at ht
    unfold Oper.looksAt at *
    simp only [Op.operands] at ht
    rw [List.mem_append] at *
    rcases ht with ht | ht
    · simp at ht
    · exact Or.inr ht
theorem yielded_map (l : List Oper) (tmps : Array Value) (j : Nat) : yielded (l.map noAlloc).toArray tmps j = yielded l.toArray tmps j := by
  unfold yielded
  simp only [List.getElem?_toArray, List.getElem?_map]
  cases l[j]? <;> simp [noAlloc_dst]
theorem wanted_map (l : List Oper) (o : Oper) (tmps : Array Value) : Region.wanted o (yielded (l.map noAlloc).toArray tmps) = Region.wanted o (yielded l.toArray tmps) := by
  unfold Region.wanted
  cases o.guard with
  | none => rfl
  | some gw => obtain ⟨g, w⟩ := gw; simp [yielded_map]

theorem headOk_spec {ops : Array Oper} {n k : Nat} {o : Oper} (h : headOk ops n o k = true) :
    (∀ e ∈ o.after, Region.binds .any e = true → e.on < k) ∧
    (∀ T, isAlloc o = some T → o.guard = none ∧ ∃ d, o.dst = some d) ∧
    (∀ j oj, j < n → ops[j]? = some oj → ∀ d, oj.dst = some d → (j ≠ k → o.dst ≠ some d) ∧ (d ∈ o.looksAt ops → isAlloc oj = none ∧ ∃ e ∈ o.after, Region.binds .any e = true ∧ e.on = j)) := by
  simp only [headOk, Bool.and_eq_true] at h
  obtain ⟨⟨h1, h2⟩, h3⟩ := h
  refine ⟨fun e he hb => ?_, fun T hT => ?_, fun j oj hj hoj d hd => ?_⟩
  · have := Array.all_eq_true_iff_forall_mem.1 h1 e he
    simpa [hb] using this
  · simp only [hT, Option.isNone_some, Bool.false_or, Bool.and_eq_true, Option.isNone_iff_eq_none, Option.isSome_iff_exists] at h2
    exact h2
  · have := List.all_eq_true.1 h3 j (List.mem_range.2 hj)
    simp only [hoj, hd, Bool.and_eq_true, Bool.or_eq_true, beq_iff_eq, bne_iff_ne, Bool.not_eq_true', Option.isNone_iff_eq_none] at this
    refine ⟨fun hne => this.1.resolve_left hne, fun hm => ?_⟩
    rcases this.2 with h | h
    · simp [hm] at h
    · obtain ⟨e, he, hb⟩ := Array.any_eq_true'.1 h.2
      simp only [Bool.and_eq_true, beq_iff_eq] at hb
      exact ⟨h.1, e, he, hb.1, hb.2⟩

/-- A variable that the head has made: its slot holds its address; it is as it was made. -/
def Boxed (zc : TypeId → Array Value) (W0 : World) (b : Act) (w : World) (d : Tmp) (T : TypeId) (B : Nat) : Prop :=
  (b.tmps[d]? = if d < b.tmps.size then some (.pointer (some ⟨B, 0, none⟩)) else none) ∧ W0.heap.size ≤ B ∧ B < w.heap.size ∧ w.heap[B]? = some (.cells (zc T) T (0, 0))

theorem Boxed.later {zc : TypeId → Array Value} {W0 : World} {b b' : Act} {w w' : World} {d : Tmp} {T : TypeId} {B : Nat} (h : Boxed zc W0 b w d T B) (hs : b'.tmps.size = b.tmps.size) (hd : b'.tmps[d]? = b.tmps[d]?) (hk : Kp [] w w') : Boxed zc W0 b' w' d T B :=
  ⟨by rw [hd, hs]; exact h.1, h.2.1, Nat.lt_of_lt_of_le h.2.2.1 hk.size, by rw [hk.block B h.2.2.1 (by simp)]; exact h.2.2.2⟩

/-- What holds while the head is on its way. -/
structure Inv (l : List Oper) (n : Nat) (zc : TypeId → Array Value) (W0 : World) (A : Act) (listed : Array Bool) (b : Act) (w : World) : Prop where
  hi : HeadInv .any l.toArray n listed
  size : b.tmps.size = A.tmps.size
  defers : b.defers = A.defers
  kp : Kp [] W0 w
  un : ∀ t, (∀ (k : Nat) (o : Oper), k < n → l[k]? = some o → o.dst ≠ some t) → b.tmps[t]? = A.tmps[t]?
  got : ∀ (k : Nat) (o : Oper), k < n → l[k]? = some o → isAlloc o = none → listed.getD k false = true → ∀ d, o.dst = some d → b.tmps[d]? = A.tmps[d]?
  al : ∃ Bs : Nat → Nat, (∀ (k : Nat) (o : Oper) T d, k < n → l[k]? = some o → isAlloc o = some T → o.dst = some d → listed.getD k false = true → Boxed zc W0 b w d T (Bs k)) ∧
    (∀ (k k' : Nat) (o o' : Oper), k < n → k' < n → l[k]? = some o → l[k']? = some o' → isAlloc o ≠ none → isAlloc o' ≠ none → listed.getD k false = true → listed.getD k' false = true → k ≠ k' → Bs k ≠ Bs k')

theorem put_size (a : Act) (o : Option Tmp) (v : Value) : (a.put o v).tmps.size = a.tmps.size := by cases o <;> simp [Act.put]
theorem put_defers (a : Act) (o : Option Tmp) (v : Value) : (a.put o v).defers = a.defers := by cases o <;> rfl
theorem put_same (a : Act) (d : Tmp) (v : Value) : (a.put (some d) v).tmps[d]? = if d < a.tmps.size then some v else none := by simp [Act.put, Array.getElem?_setIfInBounds]
theorem getD_set_self {listed : Array Bool} {i j : Nat} (h : (listed.setIfInBounds i true).getD j false = true) (hne : i ≠ j) : listed.getD j false = true := by
  rwa [getD_set_ne false hne] at h

section
variable {P : Program} {l : List Oper} {n : Nat} {zc : TypeId → Array Value} {W0 : World} {A : Act} {listed : Array Bool} {b : Act} {w : World} {Q : Exit → Act → World → Prop}

/-- One operation of the head, in whatever order it comes up. -/
theorem Inv.step (hchk : ∀ k o, k < n → l[k]? = some o → headOk l.toArray n o k = true) (hns : Region.noSelect l.toArray = true)
    (hz : ∀ o ∈ l, ∀ T, o.op = .alloc T → ∀ ρ w, (execOp ρ o).run P w = .ok (.value (.pointer (some ⟨w.heap.size, 0, none⟩))) (w.alloc (.cells (zc T) T)))
    (hall : ∀ (k : Nat) (o : Oper), k < n → l[k]? = some o → isAlloc o = none → ∃ v, Gives P (l.map noAlloc).toArray W0 o v A ∧ ∀ d, o.dst = some d → A.tmps[d]? = if d < A.tmps.size then some v else none)
    (inv : Inv l n zc W0 A listed b w) {i : Nat} (hi : i ∈ Region.ready .any l.toArray listed) (hin : i < n) :
    wpOp P l.toArray Q i (fun b' w' => Inv l n zc W0 A (listed.setIfInBounds i true) b' w') b w := by
  obtain ⟨hun, o, ho, hdep⟩ := mem_ready.1 hi
  have ho' : l[i]? = some o := by simpa using ho
  have hd := headOk_spec (hchk i o hin ho')
  have later : ∀ (v : Value) (w' : World), Kp [] w w' → (∀ k o', k < n → l[k]? = some o' → k ≠ i → ∀ d, o'.dst = some d → o.dst ≠ some d) →
      (isAlloc o = none → ∀ d, o.dst = some d → (b.put o.dst v).tmps[d]? = A.tmps[d]?) →
      (∀ T d, isAlloc o = some T → o.dst = some d → Boxed zc W0 (b.put o.dst v) w' d T w.heap.size) →
      Inv l n zc W0 A (listed.setIfInBounds i true) (b.put o.dst v) w' := by
    intro v w' hk hne hgot hbox
    obtain ⟨Bs, hB, hBne⟩ := inv.al
    refine ⟨inv.hi.set hi hin, by rw [put_size]; exact inv.size, by rw [put_defers]; exact inv.defers, inv.kp.trans hk, fun t ht => ?_, fun k o' hkn hko hka hkl d hd' => ?_, ?_⟩
    · rw [put_getElem? b o.dst v t (ht i o hin ho')]; exact inv.un t ht
    · by_cases hki : k = i
      · subst hki
        obtain rfl : o' = o := Option.some.inj (hko.symm.trans ho')
        exact hgot hka d hd'
      · rw [put_getElem? b o.dst v d (hne k o' hkn hko hki d hd')]
        exact inv.got k o' hkn hko hka (getD_set_self hkl (Ne.symm hki)) d hd'
    · refine ⟨fun k => if k = i then w.heap.size else Bs k, fun k o' T d hkn hko hka hd' hkl => ?_, fun k k' o1 o2 hkn hkn' hko hko' ha ha' hkl hkl' hne' => ?_⟩
      · by_cases hki : k = i
        · subst hki
          obtain rfl : o' = o := Option.some.inj (hko.symm.trans ho')
          simp only [if_true]
          exact hbox T d hka hd'
        · simp only [if_neg hki]
          exact (hB k o' T d hkn hko hka hd' (getD_set_self hkl (Ne.symm hki))).later (put_size _ _ _) (put_getElem? b o.dst v d (hne k o' hkn hko hki d hd')) hk
      · have old : ∀ k o1, k < n → l[k]? = some o1 → isAlloc o1 ≠ none → k ≠ i → (listed.setIfInBounds i true).getD k false = true → Bs k < w.heap.size := fun k o1 hkn hko ha hki hkl => by
          cases hT : isAlloc o1 with
          | none => exact absurd hT ha
          | some T =>
            obtain ⟨-, d, hd'⟩ := (headOk_spec (hchk k o1 hkn hko)).2.1 T hT
            exact (hB k o1 T d hkn hko hT hd' (getD_set_self hkl (Ne.symm hki))).2.2.1
        by_cases hki : k = i
        · have hk'i : k' ≠ i := fun e => hne' (hki.trans e.symm)
          simp only [if_pos hki, if_neg hk'i]
          have := old k' o2 hkn' hko' ha' hk'i hkl'
          omega
        · by_cases hk'i : k' = i
          · simp only [if_neg hki, if_pos hk'i]
            have := old k o1 hkn hko ha hki hkl
            omega
          · simp only [if_neg hki, if_neg hk'i]
            exact hBne k k' o1 o2 hkn hkn' hko hko' ha ha' (getD_set_self hkl (Ne.symm hki)) (getD_set_self hkl' (Ne.symm hk'i)) hne'
  have hne : ∀ k o', k < n → l[k]? = some o' → k ≠ i → ∀ d, o'.dst = some d → o.dst ≠ some d := fun k o' hkn hko hki d hd' => (hd.2.2 k o' hkn (by simpa using hko) d hd').1 hki
  unfold wpOp
  simp only [ho]
  cases hT : isAlloc o with
  | some T =>
    obtain ⟨hg, d, hdst⟩ := hd.2.1 T hT
    have hw : Region.wanted o (yielded l.toArray b.tmps) = true := by simp [Region.wanted, hg]
    simp only [hw, if_true]
    refine .inl ?_
    unfold Oper.wp
    rw [hz o (List.mem_of_getElem? ho') T (isAlloc_op hT)]
    simp only [Oper.upon]
    refine later _ _ ((Kp.refl _ _).alloc _) hne (fun h => by rw [hT] at h; cases h) (fun T' d' hT' hd' => ?_)
    obtain rfl : T = T' := Option.some.inj (hT.symm.trans hT')
    rw [hd']
    exact ⟨by rw [put_same, put_size], inv.kp.size, by simp, heap_alloc_new w _⟩
  | none =>
    obtain ⟨v, hy, hA⟩ := hall i o hin ho' hT
    have hag : Agrees l.toArray o b A := fun t ht => by
      by_cases hex : ∃ (k : Nat) (o' : Oper), k < n ∧ l[k]? = some o' ∧ o'.dst = some t
      · obtain ⟨k, o', hkn, hko, hkd⟩ := hex
        obtain ⟨hna, e, he, hb, hon⟩ := (hd.2.2 k o' hkn (by simpa using hko) t hkd).2 ht
        have := hdep e he hb
        rw [hon] at this
        exact inv.got k o' hkn hko hna this t hkd
      · exact inv.un t fun k o' hkn hko hkd => hex ⟨k, o', hkn, hko, hkd⟩
    have hsel : ∀ cs bb, o.op ≠ .select cs bb := fun cs bb => Region.noSelect_spec hns i o cs bb ho
    have hy' : Gives P (l.map noAlloc).toArray W0 o v b := hy.of_same (hag.exec hsel) (by rw [wanted_map, wanted_map]; exact hag.wanted)
    have fin : ∀ w', Kp [] w w' → Inv l n zc W0 A (listed.setIfInBounds i true) (b.put o.dst v) w' := fun w' hk =>
      later v w' hk hne (fun _ d hd' => by rw [hd', put_same, hA d hd', inv.size]) (fun T d h => by rw [hT] at h; cases h)
    rcases hy' with ⟨hw, hv⟩ | ⟨hw, rfl⟩
    · rw [wanted_map] at hw
      simp only [hw, if_true]
      refine .inl ?_
      have h1 := hv w (gr_of_kp inv.kp)
      unfold Oper.wp
      generalize (execOp b.eval o).run P w = r at *
      cases r with
      | ok nx w' =>
        cases nx <;> simp only [qkUpon] at h1 <;> simp only [Oper.upon]
        case value u => obtain ⟨rfl, rfl⟩ := h1; exact fin _ (Kp.refl _ _)
        case skip => obtain ⟨rfl, rfl⟩ := h1; exact fin _ (Kp.refl _ _)
        case enter f args =>
          obtain ⟨rfl, hc⟩ := h1
          exact hc.mono fun e w'' ⟨he, hk⟩ => by subst he; exact fin _ hk
      | halt x w' => simp only [qkUpon] at h1
    · rw [wanted_map] at hw
      simp only [hw, Bool.false_eq_true, if_false]
      exact fin _ (Kp.refl _ _)

/-- How many of the head have not come up. -/
def leftOf (n : Nat) (listed : Array Bool) : Nat := ((List.range n).filter fun k => !listed.getD k false).length

theorem leftOf_set {i : Nat} (hin : i < n) (hsz : i < listed.size) (hun : listed.getD i false = false) : leftOf n (listed.setIfInBounds i true) + 1 = leftOf n listed := by
  unfold leftOf
  have key : ∀ m, m ≤ n → ((List.range m).filter fun k => !(listed.setIfInBounds i true).getD k false).length + (if i < m then 1 else 0) = ((List.range m).filter fun k => !listed.getD k false).length := by
    intro m
    induction m with
    | zero => intro _; simp
    | succ m ih =>
      intro hm
      have := ih (by omega)
      rw [List.range_succ, List.filter_append, List.filter_append, List.length_append, List.length_append]
      by_cases him : i = m
      · subst him
        have e1 : (listed.setIfInBounds i true).getD i false = true := by simp [Array.getD, hsz]
        simp only [List.filter_cons, List.filter_nil, e1, hun]
        simp at this ⊢
        omega
      · have e1 : (listed.setIfInBounds i true).getD m false = listed.getD m false := getD_set_ne false him
        simp only [List.filter_cons, List.filter_nil, e1]
        by_cases h1 : i < m
        · rw [if_pos h1] at this; rw [if_pos (show i < m + 1 by omega)]; omega
        · rw [if_neg h1] at this; rw [if_neg (show ¬ i < m + 1 by omega)]; omega
  have := key n (Nat.le_refl _)
  rw [if_pos hin] at this
  exact this

theorem all_of_left (h : leftOf n listed = 0) : ∀ k, k < n → listed.getD k false = true := by
  intro k hk
  have h1 := List.eq_nil_of_length_eq_zero h
  have h2 := List.filter_eq_nil_iff.1 h1 k (List.mem_range.2 hk)
  simpa using h2

theorem least_left (h : leftOf n listed ≠ 0) : ∃ k, k < n ∧ listed.getD k false = false ∧ ∀ j, j < k → listed.getD j false = true := by
  have hex : ∃ k, k < n ∧ listed.getD k false = false := by
    apply Classical.byContradiction
    intro hno
    apply h
    unfold leftOf
    rw [List.length_eq_zero_iff, List.filter_eq_nil_iff]
    intro k hk
    have := List.mem_range.1 hk
    cases e : listed.getD k false with
    | true => simp
    | false => exact absurd ⟨k, this, e⟩ hno
  obtain ⟨k, hk, hf⟩ := hex
  induction k using Nat.strongRecOn with
  | _ k ih =>
    by_cases h' : ∃ j, j < k ∧ listed.getD j false = false
    · obtain ⟨j, hj, hjf⟩ := h'
      exact ih j hj (by omega) hjf
    · exact ⟨k, hk, hf, fun j hj => by cases e : listed.getD j false with
        | true => rfl
        | false => exact absurd ⟨j, hj, e⟩ h'⟩

/-- The head is done: what is listed is known to the sign. -/
theorem listed_eq (hh : HeadInv .any l.toArray n listed) (h : leftOf n listed = 0) : listed = (Array.range l.toArray.size).map fun i => decide (i < n) := by
  apply Array.ext
  · simp [hh.size]
  · intro i h1 h2
    simp only [Array.getElem_map, Array.getElem_range]
    by_cases hi : i < n
    · have := all_of_left h i hi
      simp only [Array.getD, h1, dif_pos] at this
      simpa [hi] using this
    · have := hh.tail i (by omega) (by rw [← hh.size]; exact h1)
      simp only [Array.getD, h1, dif_pos] at this
      simpa [hi] using this

theorem wpAny_head (hn : n < l.toArray.size) (hs : Region.sinkB .any l.toArray n = true) (hc : Region.chainB .any l.toArray n = true)
    (hq : Region.seqB .any l.toArray (l.toArray.size - n) n ((Array.range l.toArray.size).map fun i => decide (i < n)) = true)
    (hchk : ∀ k o, k < n → l[k]? = some o → headOk l.toArray n o k = true) (hns : Region.noSelect l.toArray = true)
    (hz : ∀ o ∈ l, ∀ T, o.op = .alloc T → ∀ ρ w, (execOp ρ o).run P w = .ok (.value (.pointer (some ⟨w.heap.size, 0, none⟩))) (w.alloc (.cells (zc T) T)))
    (hall : ∀ (k : Nat) (o : Oper), k < n → l[k]? = some o → isAlloc o = none → ∃ v, Gives P (l.map noAlloc).toArray W0 o v A ∧ ∀ d, o.dst = some d → A.tmps[d]? = if d < A.tmps.size then some v else none)
    (hQ : ∀ b w, Inv l n zc W0 A ((Array.range l.toArray.size).map fun i => decide (i < n)) b w → wpList P l.toArray Q (l.drop n) b w) :
    ∀ (m : Nat) (listed : Array Bool) (b : Act) (w : World), leftOf n listed = m → Inv l n zc W0 A listed b w → wpAny P .any l.toArray Q (m + (l.toArray.size - n)) listed b w
  | 0, listed, b, w, hm, inv => by
    have e := listed_eq inv.hi hm
    subst e
    have hdl : (l.drop n).length = l.toArray.size - n := by simp
    have := wpAny_of_seq (md := .any) (Q' := Q) (l.drop n) n _ b w (fun j => by simp [List.getElem?_drop]) (by rw [hdl]; exact hq) (hQ b w inv)
    rw [hdl] at this
    rw [Nat.zero_add]
    exact this
  | m + 1, listed, b, w, hm, inv => by
    obtain ⟨k, hkn, hkf, hkl⟩ := least_left (n := n) (listed := listed) (by omega)
    have hksz : k < listed.size := by rw [inv.hi.size]; omega
    have hks : k < l.length := by simpa using Nat.lt_trans hkn hn
    have hkr : k ∈ Region.ready .any l.toArray listed := by
      refine mem_ready.2 ⟨getD_in hksz hkf, l[k], by simp [hks], fun e he hb => hkl _ ?_⟩
      exact (headOk_spec (hchk k l[k] hkn (by simp [hks]))).1 e he hb
    rw [show m + 1 + (l.toArray.size - n) = (m + (l.toArray.size - n)) + 1 by omega]
    refine ⟨fun h0 => (by rw [h0] at hkr; cases hkr), fun i hi => ?_⟩
    have hin : i < n := by
      rcases Nat.lt_or_ge i n with h | h
      · exact h
      · exact absurd hi (tail_waits hs hc hn inv.hi _ k rfl hkn (getD_in hksz hkf) i h)
    have hun := (mem_ready.1 hi).1
    refine wpOp_mono (fun b' w' inv' => wpAny_head hn hs hc hq hchk hns hz hall hQ m _ b' w' ?_ inv') (inv.step hchk hns hz hall hi hin)
    have := leftOf_set (n := n) hin (by rw [inv.hi.size]; omega) (getD_both hun)
    omega

/-- **A region that draws: a head in whatever order, a tail in one.** -/
theorem wp_region_QA {id : Nat} {Qf : Act → Prop} {a : Act} {w0 : World} (n : Nat) (W0 : World) (zc : TypeId → Array Value) (hm : P.follows .mixedOrders = true) (hchk : chkQA l.toArray n = true)
    (hW : Kp [] W0 { w0 with drawn := w0.drawn + 1 })
    (hz : ∀ o ∈ l, ∀ T, o.op = .alloc T → ∀ ρ w, (execOp ρ o).run P w = .ok (.value (.pointer (some ⟨w.heap.size, 0, none⟩))) (w.alloc (.cells (zc T) T)))
    (h : wpQK P (l.map noAlloc).toArray W0 Qf ((l.map noAlloc).take n) a)
    (hQ : ∀ A b w, Qf A → Inv l n zc W0 A ((Array.range l.toArray.size).map fun i => decide (i < n)) b w → wpList P l.toArray Q (l.drop n) b w) :
    (Code.region id l.toArray true).wp P Q a w0 := by
  simp only [chkQA, Bool.and_eq_true, decide_eq_true_eq] at hchk
  obtain ⟨⟨⟨⟨⟨hns, hn⟩, hs⟩, hc⟩, hq⟩, hh⟩ := hchk
  have hok : ∀ k o, k < n → l[k]? = some o → headOk l.toArray n o k = true := fun k o hk ho => by
    have := List.all_eq_true.1 hh k (List.mem_range.2 hk)
    simpa [ho] using this
  have hmem : ∀ (i : Nat) (o' : Oper), ((l.map noAlloc).take n)[i]? = some o' → i < n ∧ ∃ o, l[i]? = some o ∧ o' = noAlloc o := by
    intro i o' hi
    rw [List.getElem?_take] at hi
    split at hi
    · rename_i hin
      rw [List.getElem?_map] at hi
      cases e : l[i]? with
      | none => simp [e] at hi
      | some o => exact ⟨hin, o, rfl, by simpa [e] using hi.symm⟩
    · cases hi
  obtain ⟨A, hQA, hsz, hdf, hkeep, hall⟩ := lex_final ((l.map noAlloc).take n) a h
    (fun i j oi oj hij hi hj d hd hm => by
      obtain ⟨hin, o1, h1, rfl⟩ := hmem i oi hi
      obtain ⟨hjn, o2, h2, rfl⟩ := hmem j oj hj
      rw [noAlloc_dst] at hd
      have hm' := looksAt_noAlloc _ _ d hm
      rw [looksAt_map] at hm'
      have sp := headOk_spec (hok i o1 hin h1)
      obtain ⟨-, e, he, hb, hon⟩ := (sp.2.2 j o2 hjn (by simpa using h2) d hd).2 hm'
      have := sp.1 e he hb
      omega)
    (fun i j oi oj hij hi hj d hd => by
      obtain ⟨hin, o1, h1, rfl⟩ := hmem i oi hi
      obtain ⟨hjn, o2, h2, rfl⟩ := hmem j oj hj
      rw [noAlloc_dst] at hd ⊢
      exact ((headOk_spec (hok j o2 hjn h2)).2.2 i o1 hin (by simpa using h1) d hd).1 (by omega))
    (fun i o' hi cs b => by
      obtain ⟨hin, o1, h1, rfl⟩ := hmem i o' hi
      have := Region.noSelect_spec hns i o1 cs b (by simpa using h1)
      unfold noAlloc
      split
      · simp
      · exact this)
  refine wp_region_any hm ?_
  have inv0 : Inv l n zc W0 A (Array.replicate l.toArray.size false) a { w0 with drawn := w0.drawn + 1 } :=
    ⟨⟨by simp, fun j oj _ hl => (by rw [getD_replicate_false] at hl; cases hl), fun t _ ht => getD_in (by simpa using ht) (getD_replicate_false _ _)⟩,
      hsz.symm, hdf.symm, hW, fun t ht => (hkeep t fun i o' hi => by obtain ⟨hin, o1, h1, rfl⟩ := hmem i o' hi; rw [noAlloc_dst]; exact ht i o1 hin h1).symm,
      fun k o _ _ _ hl => (by rw [getD_replicate_false] at hl; cases hl), ⟨fun _ => 0, fun k o T d _ _ _ _ hl => (by rw [getD_replicate_false] at hl; cases hl), fun k k' o o' _ _ _ _ _ _ hl => (by rw [getD_replicate_false] at hl; cases hl)⟩⟩
  have hleft : leftOf n (Array.replicate l.toArray.size false) = n := by
    unfold leftOf
    rw [List.filter_eq_self.2 (fun k _ => by rw [getD_replicate_false]; rfl), List.length_range]
  have := wpAny_head hn hs hc hq hok hns hz (fun k o hk ho hna => by
      have := hall k o (by rw [List.getElem?_take, if_pos hk, List.getElem?_map, ho]; simp [noAlloc_of hna])
      exact this) (fun b w inv => hQ A b w hQA inv) n _ a _ hleft inv0
  rw [show n + (l.toArray.size - n) = l.toArray.size by omega] at this
  exact this

/-- The variables that the head makes: place, slot, type. -/
def allocsOf (l : List Oper) (n : Nat) : List (Nat × Tmp × TypeId) :=
  (l.take n).zipIdx.filterMap fun x => match isAlloc x.1, x.1.dst with | some T, some d => some (x.2, d, T) | _, _ => none

theorem mem_allocsOf {k : Nat} {d : Tmp} {T : TypeId} : (k, d, T) ∈ allocsOf l n ↔ k < n ∧ ∃ o, l[k]? = some o ∧ isAlloc o = some T ∧ o.dst = some d := by
  unfold allocsOf
  rw [List.mem_filterMap]
  constructor
  · rintro ⟨⟨o, j⟩, hm, hx⟩
    have h1 := List.mem_zipIdx_iff_getElem?.1 hm
    simp only at h1 hx
    rw [List.getElem?_take] at h1
    split at h1
    · rename_i hjn
      cases ha : isAlloc o with
      | none => simp [ha] at hx
      | some T' =>
        cases hd : o.dst with
        | none => simp [ha, hd] at hx
        | some d' =>
          simp only [ha, hd, Option.some.injEq, Prod.mk.injEq] at hx
          obtain ⟨rfl, rfl, rfl⟩ := hx
          exact ⟨hjn, o, h1, ha, hd⟩
    · cases h1
  · rintro ⟨hk, o, ho, ha, hd⟩
    exact ⟨(o, k), List.mem_zipIdx_iff_getElem?.2 (by simp only; rw [List.getElem?_take, if_pos hk]; exact ho), by simp [ha, hd]⟩

theorem act_ext {a b : Act} (h1 : a.tmps.size = b.tmps.size) (h2 : a.defers = b.defers) (h : ∀ t : Nat, a.tmps[t]? = b.tmps[t]?) : a = b := by
  obtain ⟨t1, d1⟩ := a
  obtain ⟨t2, d2⟩ := b
  have : t1 = t2 := Array.ext_getElem? h
  subst this; subst h2; rfl

theorem done_getD {N k : Nat} (hk : k < n) (hN : k < N) : ((Array.range N).map fun i => decide (i < n)).getD k false = true := by
  simp [Array.getD, hN, hk]

abbrev doneAt (l : List Oper) (n : Nat) : Array Bool := (Array.range l.toArray.size).map fun i => decide (i < n)

/-- What a slot holds behind the head, if no alloc made it. -/
theorem Inv.slot (inv : Inv l n zc W0 A (doneAt l n) b w) (t : Tmp) (ht : ∀ k d T, (k, d, T) ∈ allocsOf l n → d ≠ t) : b.tmps[t]? = A.tmps[t]? := by
  by_cases hex : ∃ (k : Nat) (o' : Oper), k < n ∧ l[k]? = some o' ∧ o'.dst = some t
  · obtain ⟨k, o', hkn, hko, hkd⟩ := hex
    have hkl : k < l.length := (List.getElem?_eq_some_iff.1 hko).1
    cases ha : isAlloc o' with
    | some T => exact absurd rfl (ht k t T (mem_allocsOf.2 ⟨hkn, o', hko, ha, hkd⟩))
    | none => exact inv.got k o' hkn hko ha (done_getD hkn (by simpa using hkl)) t hkd
  · exact inv.un t fun k o' hkn hko hkd => hex ⟨k, o', hkn, hko, hkd⟩

theorem Inv.act0 (inv : Inv l n zc W0 A (doneAt l n) b w) (h : allocsOf l n = []) : b = A :=
  act_ext inv.size inv.defers fun t => inv.slot t fun k d T hm => by rw [h] at hm; cases hm

theorem Inv.act1 (inv : Inv l n zc W0 A (doneAt l n) b w) {k : Nat} {d : Tmp} {T : TypeId} (h : allocsOf l n = [(k, d, T)]) :
    ∃ B, b = A.put (some d) (.pointer (some ⟨B, 0, none⟩)) ∧ W0.heap.size ≤ B ∧ B < w.heap.size ∧ w.heap[B]? = some (.cells (zc T) T (0, 0)) := by
  obtain ⟨Bs, hB, -⟩ := inv.al
  obtain ⟨hkn, o, ho, ha, hd⟩ := mem_allocsOf.1 (show (k, d, T) ∈ allocsOf l n by rw [h]; simp)
  have hb := hB k o T d hkn ho ha hd (done_getD hkn (by simpa using (List.getElem?_eq_some_iff.1 ho).1))
  refine ⟨Bs k, act_ext (by rw [put_size]; exact inv.size) (by rw [put_defers]; exact inv.defers) fun t => ?_, hb.2⟩
  by_cases e : d = t
  · subst e; rw [put_same, hb.1, inv.size]
  · rw [put_getElem? A _ _ _ (by simpa using e)]
    exact inv.slot t fun k' d' T' hm => by rw [h] at hm; simp at hm; obtain ⟨-, rfl, -⟩ := hm; exact e

theorem Inv.act2 (inv : Inv l n zc W0 A (doneAt l n) b w) {k k' : Nat} {d d' : Tmp} {T T' : TypeId} (h : allocsOf l n = [(k, d, T), (k', d', T')]) (hne : k ≠ k') (hdd : d ≠ d') :
    ∃ B B', b = (A.put (some d) (.pointer (some ⟨B, 0, none⟩))).put (some d') (.pointer (some ⟨B', 0, none⟩)) ∧ W0.heap.size ≤ B ∧ B < w.heap.size ∧ w.heap[B]? = some (.cells (zc T) T (0, 0)) ∧
      W0.heap.size ≤ B' ∧ B' < w.heap.size ∧ w.heap[B']? = some (.cells (zc T') T' (0, 0)) ∧ B ≠ B' := by
  obtain ⟨Bs, hB, hBne⟩ := inv.al
  obtain ⟨hkn, o, ho, ha, hd⟩ := mem_allocsOf.1 (show (k, d, T) ∈ allocsOf l n by rw [h]; simp)
  obtain ⟨hkn', o', ho', ha', hd'⟩ := mem_allocsOf.1 (show (k', d', T') ∈ allocsOf l n by rw [h]; simp)
  have g1 := done_getD hkn (show k < l.toArray.size by simpa using (List.getElem?_eq_some_iff.1 ho).1)
  have g2 := done_getD hkn' (show k' < l.toArray.size by simpa using (List.getElem?_eq_some_iff.1 ho').1)
  have hb := hB k o T d hkn ho ha hd g1
  have hb' := hB k' o' T' d' hkn' ho' ha' hd' g2
  refine ⟨Bs k, Bs k', act_ext (by rw [put_size, put_size]; exact inv.size) (by rw [put_defers, put_defers]; exact inv.defers) fun t => ?_, hb.2.1, hb.2.2.1, hb.2.2.2, hb'.2.1, hb'.2.2.1, hb'.2.2.2,
    hBne k k' o o' hkn hkn' ho ho' (by rw [ha]; simp) (by rw [ha']; simp) g1 g2 hne⟩
  by_cases e' : d' = t
  · subst e'; rw [put_same, hb'.1, put_size, inv.size]
  · rw [put_getElem? _ _ _ _ (by simpa using e')]
    by_cases e : d = t
    · subst e; rw [put_same, hb.1, inv.size]
    · rw [put_getElem? A _ _ _ (by simpa using e)]
      exact inv.slot t fun k1 d1 T1 hm => by
        rw [h] at hm
        simp only [List.mem_cons, Prod.mk.injEq, List.not_mem_nil, or_false] at hm
        rcases hm with ⟨-, rfl, -⟩ | ⟨-, rfl, -⟩
        · exact e
        · exact e'

/-- The region as the walk meets it: what follows the walk in the order of the text is asked of every frame and world that the head may leave. -/
theorem wp_region_qa {id : Nat} {a : Act} {w0 : World} (n : Nat) (W0 : World) (zc : TypeId → Array Value) (hm : P.follows .mixedOrders = true) (hchk : chkQA l.toArray n = true)
    (hW : Kp [] W0 { w0 with drawn := w0.drawn + 1 })
    (hz : ∀ o ∈ l, ∀ T, o.op = .alloc T → ∀ ρ w, (execOp ρ o).run P w = .ok (.value (.pointer (some ⟨w.heap.size, 0, none⟩))) (w.alloc (.cells (zc T) T)))
    (h : wpQK P (l.map noAlloc).toArray W0 (fun A => ∀ b w, Kp [] W0 w → Inv l n zc W0 A (doneAt l n) b w → wpList P l.toArray Q (l.drop n) b w) ((l.map noAlloc).take n) a) :
    (Code.region id l.toArray true).wp P Q a w0 :=
  wp_region_QA n W0 zc hm hchk hW hz h fun _ b w hA inv => hA b w inv.kp inv

/-- .. where all that it makes is of one type. -/
theorem wp_region_q1 {id : Nat} {a : Act} {w0 : World} (n : Nat) (W0 : World) (T0 : TypeId) (z : Array Value) (hm : P.follows .mixedOrders = true) (hchk : chkQA l.toArray n = true) (hT : (l.all fun o => (isAlloc o).all (· == T0)) = true)
    (hz : ∀ o : Oper, o.op = .alloc T0 → ∀ ρ w, (execOp ρ o).run P w = .ok (.value (.pointer (some ⟨w.heap.size, 0, none⟩))) (w.alloc (.cells z T0)))
    (hW : Kp [] W0 { w0 with drawn := w0.drawn + 1 })
    (h : wpQK P (l.map noAlloc).toArray W0 (fun A => ∀ b w, Kp [] W0 w → Inv l n (fun _ => z) W0 A (doneAt l n) b w → wpList P l.toArray Q (l.drop n) b w) ((l.map noAlloc).take n) a) :
    (Code.region id l.toArray true).wp P Q a w0 :=
  wp_region_qa n W0 (fun _ => z) hm hchk hW (fun o ho T hop ρ w => by
    have h1 := List.all_eq_true.1 hT o ho
    have h2 : isAlloc o = some T := by simp [isAlloc, hop]
    rw [h2] at h1
    obtain rfl : T = T0 := by simpa using h1
    exact hz o hop ρ w) h

/-- .. with no alloc in it. -/
theorem wp_region_q0 {id : Nat} {a : Act} {w0 : World} (n : Nat) (W0 : World) (hm : P.follows .mixedOrders = true) (hchk : chkQA l.toArray n = true) (hal : allocsOf l n = []) (hno : (l.all fun o => (isAlloc o).isNone) = true)
    (hW : Kp [] W0 { w0 with drawn := w0.drawn + 1 })
    (h : wpQK P (l.map noAlloc).toArray W0 (fun A => ∀ w, Kp [] W0 w → wpList P l.toArray Q (l.drop n) A w) ((l.map noAlloc).take n) a) :
    (Code.region id l.toArray true).wp P Q a w0 :=
  wp_region_QA n W0 (fun _ => #[]) hm hchk hW (fun o ho T hT => by have := List.all_eq_true.1 hno o ho; simp [isAlloc, hT] at this) h fun A b w hA inv => by rw [inv.act0 hal]; exact hA w inv.kp

theorem grc {W0 : World} {B : Nat} {L : List Value} (hs : B < W0.heap.size) (h : ∀ i, W0.cell? ⟨B, i, none⟩ = L[i]?) : ∀ p i, (gr W0 p).cell? ⟨B, i, none⟩ = L[i]? :=
  fun p i => ((kp_gr W0 p).cell (p := ⟨B, i, none⟩) hs (by simp)).trans (h i)
theorem kpc {X : List Nat} {W0 w : World} {B : Nat} {L : List Value} (hk : Kp X W0 w) (hs : B < W0.heap.size) (h : ∀ i, W0.cell? ⟨B, i, none⟩ = L[i]?) (hx : B ∉ X := by simp) : ∀ i, w.cell? ⟨B, i, none⟩ = L[i]? :=
  fun i => (hk.cell (p := ⟨B, i, none⟩) hs hx).trans (h i)
theorem kpf {X : List Nat} {W0 w : World} {B : Nat} (hk : Kp X W0 w) (hs : B < W0.heap.size) (h : ∀ i, W0.frozen? ⟨B, i, none⟩ = false) (hx : B ∉ X := by simp) : ∀ i, w.frozen? ⟨B, i, none⟩ = false :=
  fun i => (hk.frozen (p := ⟨B, i, none⟩) hs hx).trans (h i)
theorem boxc {w : World} {B : Nat} {c : Array Value} {T : TypeId} (h : w.heap[B]? = some (.cells c T (0, 0))) : ∀ i, w.cell? ⟨B, i, none⟩ = c.toList[i]? := fun i => by simp [World.cell?, h]
theorem boxf {w : World} {B : Nat} {c : Array Value} {T : TypeId} (h : w.heap[B]? = some (.cells c T (0, 0))) : ∀ i, w.frozen? ⟨B, i, none⟩ = false := fun i => by simp [World.frozen?, h]

theorem setCells_frozen (B : Nat) : ∀ (vs : List Value) (o : Nat) (w : World) (p : Addr), (w.setCells B o vs).frozen? p = w.frozen? p
  | [], _, _, _ => rfl
  | v :: r, o, w, p => by rw [World.setCells, setCells_frozen B r]; simp
theorem setCells_size (B : Nat) : ∀ (vs : List Value) (o : Nat) (w : World), (w.setCells B o vs).heap.size = w.heap.size
  | [], _, _ => rfl
  | v :: r, o, w => by rw [World.setCells, setCells_size B r]; simp
theorem cells_set {w : World} {B : Nat} {L vs : List Value} (h : ∀ i, w.cell? ⟨B, i, none⟩ = L[i]?) (hl : L.length = vs.length) : ∀ i, (w.setCells B 0 vs).cell? ⟨B, i, none⟩ = vs[i]? := by
  intro i
  by_cases hi : i < vs.length
  · have := World.cell?_setCells_in B vs 0 w (fun j hj => by rw [Nat.zero_add, h j]; simp [hl, hj]) i hi
    rw [Nat.zero_add] at this
    rw [this, List.getElem?_eq_getElem hi]
  · rw [World.cell?_setCells_out B vs 0 w ⟨B, i, none⟩ (fun _ _ => Or.inr (by simp only; omega)), h i, List.getElem?_eq_none (by omega), List.getElem?_eq_none (by omega)]
theorem kp_set {X : List Nat} {a w : World} {B o : Nat} {vs : List Value} (h : Kp X a w) (hB : B ∈ X ∨ a.heap.size ≤ B) : Kp X a (w.setCells B o vs) := by
  induction vs generalizing o w with
  | nil => exact h
  | cons v r ih => exact ih (h.setCell hB v)
theorem cells_other {w : World} {B B' : Nat} {L : List Value} (vs : List Value) (h : ∀ i, w.cell? ⟨B, i, none⟩ = L[i]?) (hne : B' ≠ B) : ∀ i, (w.setCells B' 0 vs).cell? ⟨B, i, none⟩ = L[i]? := fun i => by
  rw [World.cell?_setCells_out B' vs 0 w ⟨B, i, none⟩ (fun e => absurd e.symm hne)]; exact h i
theorem frz {w : World} {B B' : Nat} (vs : List Value) (h : ∀ i, w.frozen? ⟨B, i, none⟩ = false) : ∀ i, (w.setCells B' 0 vs).frozen? ⟨B, i, none⟩ = false := fun i => (setCells_frozen B' vs 0 w _).trans (h i)
theorem nameWorldB {P : Program} {f : Func} {R : Ending → World → Prop} {e : Exit} {a : Act} {W : World} (F : World → Prop) (hF : F W) (h : ∀ W0, F W0 → bodyPost P f R e a W0) : bodyPost P f R e a W := h W hF
end
attribute [irreducible] wpQK
end Go.Proofs.YtddjhemncniidaaDoor
