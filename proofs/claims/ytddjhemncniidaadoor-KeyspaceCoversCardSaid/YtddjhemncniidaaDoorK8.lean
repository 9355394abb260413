/-
  The steps of a walk through a region that draws its order ('DC').
-/
import Derived.Test.YtddjhemncniidaaDoorK7
namespace Go.Proofs.YtddjhemncniidaaDoor
set_option linter.unusedSimpArgs false
set_option linter.unusedVariables false
open Go.RowKit
attribute [local semireducible] DC
def nth : List Oper → Nat → Option Oper
  | [], _ => none
  | x :: _, 0 => some x
  | _ :: l, n + 1 => nth l n
theorem nth_get {o : Oper} : ∀ {l : List Oper} {i : Nat}, nth l i = some o → l.toArray[i]? = some o
  | x :: l, 0, h => by simpa [nth] using h
  | x :: l, i + 1, h => by have := nth_get (l := l) (i := i) (by simpa [nth] using h); simpa using this
section
variable {P : Program} {l : List Oper} {w0 : World} {X : Fr} {R : List Win} {im : List Nat} {Qf : Act → List OB → Prop} {i : Nat} {r : List Nat} {a a' : Act} {S : List OB} {o : Oper}

theorem dc_nil (h : Qf a S) : DC P l.toArray w0 X R im Qf [] a S := h
theorem dc_skip (ho : nth l i = some o) (hw : Region.wanted o (yielded l.toArray a.tmps) = false) (ha : a.put o.dst undef = a') (h : DC P l.toArray w0 X R im Qf r a' S) : DC P l.toArray w0 X R im Qf (i :: r) a S :=
  ⟨o, nth_get ho, by rw [hw]; subst ha; exact h⟩
theorem dc_read {v : Value} (ho : nth l i = some o) (hi : im.contains i = false) (hw : Region.wanted o (yielded l.toArray a.tmps) = true) (hv : ∀ w, Rep w0 X R S w → (execOp a.eval o).run P w = .ok (.value v) w) (ha : a.put o.dst v = a') (h : DC P l.toArray w0 X R im Qf r a' S) :
    DC P l.toArray w0 X R im Qf (i :: r) a S := ⟨o, nth_get ho, by rw [hw, if_pos rfl, hi]; subst ha; exact ⟨v, hv, h⟩⟩
theorem dc_pure {v : Value} (ho : nth l i = some o) (hi : im.contains i = false) (hw : Region.wanted o (yielded l.toArray a.tmps) = true) (hv : ∀ w, (execOp a.eval o).run P w = .ok (.value v) w) (ha : a.put o.dst v = a') (h : DC P l.toArray w0 X R im Qf r a' S) :
    DC P l.toArray w0 X R im Qf (i :: r) a S := dc_read ho hi hw (fun w _ => hv w) ha h
theorem dc_facts {v : Value} (ho : nth l i = some o) (hi : im.contains i = false) (hw : Region.wanted o (yielded l.toArray a.tmps) = true) (hv : ∀ w, Facts w R S → (execOp a.eval o).run P w = .ok (.value v) w) (ha : a.put o.dst v = a') (h : DC P l.toArray w0 X R im Qf r a' S) :
    DC P l.toArray w0 X R im Qf (i :: r) a S := dc_read ho hi hw (fun w hR => hv w hR.facts) ha h
theorem dc_move {x : Operand} (ho : nth l i = some o) (hi : im.contains i = false) (hw : Region.wanted o (yielded l.toArray a.tmps) = true) (hop : o.op = .move x) (ha : a.put o.dst (a.eval x) = a') (h : DC P l.toArray w0 X R im Qf r a' S) :
    DC P l.toArray w0 X R im Qf (i :: r) a S := dc_pure ho hi hw (fun w => by unfold execOp; rw [hop]; rfl) ha h
theorem dc_assign {x : Operand} (ho : nth l i = some o) (hi : im.contains i = false) (hw : Region.wanted o (yielded l.toArray a.tmps) = true) (hop : o.op = .assign x) (ha : a.put o.dst (a.eval x) = a') (h : DC P l.toArray w0 X R im Qf r a' S) :
    DC P l.toArray w0 X R im Qf (i :: r) a S := dc_pure ho hi hw (fun w => by unfold execOp; rw [hop]; rfl) ha h
theorem dc_ld {x : Operand} {T T' : TypeId} {b off n : Nat} {c : List Value} {ag : Bool} (ho : nth l i = some o) (hi : im.contains i = false) (hw : Region.wanted o (yielded l.toArray a.tmps) = true) (hop : o.op = .load T x) (hx : a.eval x = .pointer (some ⟨b, off, none⟩)) (hA : At S b T' c) (hT : Ty P T n ag)
    (hl : (decide (off + n ≤ c.length) && (ag || n == 1)) = true) (ha : a.put o.dst (ldV ag n off c) = a') (h : DC P l.toArray w0 X R im Qf r a' S) : DC P l.toArray w0 X R im Qf (i :: r) a S := by
  simp only [Bool.and_eq_true, decide_eq_true_eq, Bool.or_eq_true, beq_iff_eq] at hl
  refine dc_read ho hi hw (fun w hR => ?_) ha h
  have hr := run_ld (w := w) hT (hR.cells hA.mem) hl.1 (fun e => hl.2.resolve_left (by simp [e]))
  unfold execOp
  rw [hop]
  simp only [hx, Instr.loadAt, Instr.sureAddr, Sem.run_bind, Sem.run_pure, Result.andThen_ok, hr]
/-- A call of a Go function. -/
theorem dc_call {f : FuncId} {args : Array Value} (ho : nth l i = some o) (hi : im.contains i = true) (hw : Region.wanted o (yielded l.toArray a.tmps) = true) (hr : ∀ w, (execOp a.eval o).run P w = .ok (.enter f args) w)
    (h : ∀ w, Rep w0 X R S w → Calls P f args w fun e w' => ∃ v N, e = .returned v ∧ Rep w0 X R (N ++ S) w' ∧ ∃ a', a.put o.dst v = a' ∧ DC P l.toArray w0 X R im Qf r a' (N ++ S)) : DC P l.toArray w0 X R im Qf (i :: r) a S :=
  ⟨o, nth_get ho, by
    rw [hw, if_pos rfl, hi, if_pos rfl]
    intro w hR
    rw [hr w]
    exact ⟨rfl, (h w hR).mono fun e w' ⟨v, N, he, hN, a', ha, hd⟩ => ⟨v, N, he, hN, by subst ha; exact hd⟩⟩⟩
/-- .. that makes nothing that is kept. -/
theorem dc_call0 {f : FuncId} {args : Array Value} (ho : nth l i = some o) (hi : im.contains i = true) (hw : Region.wanted o (yielded l.toArray a.tmps) = true) (hr : ∀ w, (execOp a.eval o).run P w = .ok (.enter f args) w)
    (h : ∀ w, Rep w0 X R S w → Calls P f args w fun e w' => ∃ v, e = .returned v ∧ Kp [] w w' ∧ ∃ a', a.put o.dst v = a' ∧ DC P l.toArray w0 X R im Qf r a' S) : DC P l.toArray w0 X R im Qf (i :: r) a S :=
  dc_call ho hi hw hr fun w hR => (h w hR).mono fun _ _ ⟨v, he, hk, a', ha, hd⟩ => ⟨v, [], he, hR.kp0 hk, a', ha, hd⟩
/-- .. that makes the blocks sl. -/
theorem dc_callS {f : FuncId} {args : Array Value} (ho : nth l i = some o) (hi : im.contains i = true) (hw : Region.wanted o (yielded l.toArray a.tmps) = true) (hr : ∀ w, (execOp a.eval o).run P w = .ok (.enter f args) w)
    (h : ∀ w, Rep w0 X R S w → Calls P f args w fun e w' => ∃ v sl, e = .returned v ∧ Rep w nof [] sl w' ∧ ∃ a', a.put o.dst v = a' ∧ DC P l.toArray w0 X R im Qf r a' (sl ++ S)) : DC P l.toArray w0 X R im Qf (i :: r) a S :=
  dc_call ho hi hw hr fun w hR => (h w hR).mono fun _ _ ⟨v, sl, he, hk, a', ha, hd⟩ => ⟨v, sl, he, hR.join hk, a', ha, hd⟩
/-- .. that turns the tape. -/
theorem dc_callT {f : FuncId} {args : Array Value} (ho : nth l i = some o) (hi : im.contains i = true) (hw : Region.wanted o (yielded l.toArray a.tmps) = true) (hr : ∀ w, (execOp a.eval o).run P w = .ok (.enter f args) w)
    (h : ∀ w, Rep w0 X R S w → Calls P f args w fun e w' => ∃ v, e = .returned v ∧ Kp X.X w w' ∧ X.J w' ∧ ∃ a', a.put o.dst v = a' ∧ DC P l.toArray w0 X R im Qf r a' S) : DC P l.toArray w0 X R im Qf (i :: r) a S :=
  dc_call ho hi hw hr fun w hR => (h w hR).mono fun _ _ ⟨v, he, hk, hj, a', ha, hd⟩ => ⟨v, [], he, hR.tk hk hj, a', ha, hd⟩
/-- A maker that is no call. -/
theorem dc_make (ho : nth l i = some o) (hi : im.contains i = true) (hw : Region.wanted o (yielded l.toArray a.tmps) = true)
    (h : ∀ w, Rep w0 X R S w → ∃ v N w', (execOp a.eval o).run P w = .ok (.value v) w' ∧ Rep w0 X R (N ++ S) w' ∧ ∃ a', a.put o.dst v = a' ∧ DC P l.toArray w0 X R im Qf r a' (N ++ S)) : DC P l.toArray w0 X R im Qf (i :: r) a S :=
  ⟨o, nth_get ho, by
    rw [hw, if_pos rfl, hi, if_pos rfl]
    intro w hR
    obtain ⟨v, N, w', h1, h2, a', h3, h4⟩ := h w hR
    rw [h1]
    exact ⟨N, h2, by subst h3; exact h4⟩⟩
theorem dc_box {x : Operand} {T : TypeId} {d : Tmp} {vs : List Value} (ho : nth l i = some o) (hi : im.contains i = true) (hw : Region.wanted o (yielded l.toArray a.tmps) = true) (hop : o.op = .box T x) (hd : o.dst = some d) (hv : (a.eval x).cells = vs.toArray)
    (h : ∀ B, ∃ a', a.put (some d) (.pointer (some ⟨B, 0, none⟩)) = a' ∧ DC P l.toArray w0 X R im Qf r a' (⟨B, T, vs⟩ :: S)) : DC P l.toArray w0 X R im Qf (i :: r) a S :=
  dc_make ho hi hw fun w hR => by
    obtain ⟨a', h1, h2⟩ := h w.heap.size
    refine ⟨_, [⟨w.heap.size, T, vs⟩], _, ?_, by simpa using hR.alloc T vs.toArray, a', by rw [hd]; exact h1, h2⟩
    unfold execOp; rw [hop]
    simp [Instr.box, newVar, newRow, newObj, hv, Sem.run]
theorem dc_alloc {T : TypeId} {d : Tmp} {vs : List Value} (ho : nth l i = some o) (hi : im.contains i = true) (hw : Region.wanted o (yielded l.toArray a.tmps) = true) (hop : o.op = .alloc T) (hd : o.dst = some d) (hz : ZeroIs P T vs)
    (h : ∀ B, ∃ a', a.put (some d) (.pointer (some ⟨B, 0, none⟩)) = a' ∧ DC P l.toArray w0 X R im Qf r a' (⟨B, T, vs⟩ :: S)) : DC P l.toArray w0 X R im Qf (i :: r) a S :=
  dc_make ho hi hw fun w hR => by
    obtain ⟨a', h1, h2⟩ := h w.heap.size
    exact ⟨_, [⟨w.heap.size, T, vs⟩], _, zero_run hz hop _ _, by simpa using hR.alloc T vs.toArray, a', by rw [hd]; exact h1, h2⟩
theorem dc_bs {t E : TypeId} {z bytes len : Nat} {parts : Array (Nat × Operand)} {d : Tmp} {vs : List Value} (ho : nth l i = some o) (hi : im.contains i = true) (hw : Region.wanted o (yielded l.toArray a.tmps) = true) (hop : o.op = .buildSlice t len parts) (hd : o.dst = some d) (hS : Sl P t E z bytes)
    (hp : (inRow z 0 (parts.toList.map fun p => (p.1, a.eval p.2)) && (parts.size == len) && decide (parts.size * z ≤ 16777216)) = true) (hl : flat (parts.toList.map fun p => (p.1, a.eval p.2)) = vs)
    (h : ∀ B, ∃ a', a.put (some d) (.slice (some ⟨B, 0, none⟩) len len) = a' ∧ DC P l.toArray w0 X R im Qf r a' (⟨B, E, vs⟩ :: S)) : DC P l.toArray w0 X R im Qf (i :: r) a S :=
  dc_make ho hi hw fun w hR => by
    simp only [Bool.and_eq_true, beq_iff_eq, decide_eq_true_eq] at hp
    obtain ⟨⟨hp, rfl⟩, hs⟩ := hp
    have hr := run_bs (P := P) (w := w) hS (parts.map fun p => (p.1, a.eval p.2)) (by simpa using hp) (by simpa using hs)
    simp only [Array.size_map] at hr
    have hl' : flat (parts.map fun p => (p.1, a.eval p.2)).toList = vs := by rw [← hl]; simp
    rw [hl'] at hr
    obtain ⟨a', h1, h2⟩ := h w.heap.size
    refine ⟨_, [⟨w.heap.size, E, vs⟩], _, ?_, by simpa using hR.alloc E vs.toArray, a', by rw [hd]; exact h1, h2⟩
    unfold execOp; rw [hop]
    simp only [Sem.run_bind, Sem.run_pure, Result.andThen_ok, hr]
end
end Go.Proofs.YtddjhemncniidaaDoor
