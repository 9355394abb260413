/-
  Lemmas: One rule for every operation of a walk that makes, writes or
-/
import Derived.Test.YtohpjdeohpamaaaGreatDoorPA10
set_option linter.unusedSimpArgs false
set_option linter.unusedVariables false
namespace Go.Proofs.YtohpjdeohpamaaaGreatDoor
open Go.RowKit
section
variable {α : Type} {enc : α → List Value} {z : Nat}
def fl (enc : α → List Value) (l : List α) : List Value := l.flatMap enc
theorem fl_cons (x : α) (l : List α) : fl enc (x :: l) = enc x ++ fl enc l := rfl
theorem fl_length (hz : ∀ x, (enc x).length = z) : ∀ l : List α, (fl enc l).length = l.length * z
  | [] => by simp [fl]
  | x :: l => by rw [fl_cons, List.length_append, fl_length hz l, hz, List.length_cons, Nat.add_mul]; omega
theorem fl_drop (hz : ∀ x, (enc x).length = z) : ∀ (l : List α) (n : Nat), (fl enc l).drop (n * z) = fl enc (l.drop n)
  | [], n => by simp [fl]
  | x :: l, 0 => by simp
  | x :: l, n + 1 => by
    rw [fl_cons, List.drop_succ_cons, ← fl_drop hz l n, List.drop_append, hz, List.drop_eq_nil_of_le (by rw [hz, Nat.add_mul]; omega), List.nil_append]
    congr 1; rw [Nat.add_mul]; omega
theorem fl_part (hz : ∀ x, (enc x).length = z) {l : List α} {k : Nat} {r : α} (h : l[k]? = some r) (i m : Nat) (him : i + m ≤ z) : ((fl enc l).drop (k * z + i)).take m = ((enc r).drop i).take m := by
  obtain ⟨h1, h2⟩ := List.getElem?_eq_some_iff.1 h
  rw [← List.drop_drop, fl_drop hz, List.drop_eq_getElem_cons h1, h2, fl_cons, List.drop_append_of_le_length (by rw [hz]; omega), List.take_append_of_le_length (by rw [List.length_drop, hz]; omega)]
theorem fl_elem (hz : ∀ x, (enc x).length = z) {l : List α} {k : Nat} {r : α} (h : l[k]? = some r) : ((fl enc l).drop (k * z)).take z = enc r := by
  have := fl_part hz h 0 z (by omega)
  rw [Nat.add_zero, List.drop_zero, List.take_of_length_le (Nat.le_of_eq (hz r))] at this; exact this
theorem fl_get (hz : ∀ x, (enc x).length = z) {l : List α} {k : Nat} {r : α} (h : l[k]? = some r) {j : Nat} {u : Value} (hj : (enc r)[j]? = some u) : (fl enc l)[k * z + j]? = some u := by
  have hjz : j < z := by rw [← hz r]; exact (List.getElem?_eq_some_iff.1 hj).1
  have h1 := fl_elem hz h
  rw [← h1, List.getElem?_take_of_lt hjz, List.getElem?_drop] at hj; exact hj
theorem Rw.elem (hz : ∀ x, (enc x).length = z) {w0 w : World} {X : Fr} {R : List Win} {S : List OB} {p : Option Addr} {n c k : Nat} {l : List α} {r : α} (h : Rw w0 X z (.slice p n c) n (fl enc l)) (hz0 : 0 < z) (hk : l[k]? = some r) (hR : Rep w0 X R S w) :
    ∃ b o : Nat, p = some ⟨b, o, none⟩ ∧ Rep w0 X (⟨b, o + k * z, enc r⟩ :: R) S w := by
  obtain ⟨p', c', e, h1, h2⟩ := h.ex
  simp only [Value.slice.injEq] at e
  obtain ⟨rfl, -, rfl⟩ := e
  have hl := h.len
  rw [fl_length hz] at hl
  have hkl := (List.getElem?_eq_some_iff.1 hk).1
  have hln : l.length = n := Nat.eq_of_mul_eq_mul_right hz0 hl
  rcases h2 with rfl | ⟨b, o, rfl, hb, hx, hc⟩
  · omega
  · exact ⟨b, o, rfl, hR.addwin b (o + k * z) (enc r) hb hx fun j u hj => by rw [Nat.add_assoc]; exact hc _ _ (fl_get hz hk hj)⟩
theorem Rw.count (hz : ∀ x, (enc x).length = z) (hz0 : 0 < z) {w0 : World} {X : Fr} {v : Value} {n : Nat} {l : List α} (h : Rw w0 X z v n (fl enc l)) : l.length = n := by
  have := h.len; rw [fl_length hz] at this; exact Nat.eq_of_mul_eq_mul_right hz0 this
theorem Rd.count (hz : ∀ x, (enc x).length = z) (hz0 : 0 < z) {w0 : World} {v : Value} {n : Nat} {l : List α} (h : Rd w0 z v n (fl enc l)) : l.length = n := by
  have := h.len; rw [fl_length hz] at this; exact Nat.eq_of_mul_eq_mul_right hz0 this
end
theorem rvz (r : Rng) : r.vals.length = 4 := rfl
theorem rvals_fl (l : List Rng) : rvals l = fl Rng.vals l := rfl

theorem OS.head {sl : List OB} {E : TypeId} {z n i cap : Nat} {p : Option Addr} {xs : List Value} (h : OS sl E z (.slice p n cap) n xs) (hi : i ≤ n) : OS sl E z (.slice p i cap) i (xs.take (i * z)) := by
  have hl := h.1
  have hm := Nat.mul_le_mul_right z hi
  refine ⟨by rw [List.length_take]; omega, ?_⟩
  rcases h.2 with ⟨h1, h2, h3⟩ | ⟨g, cap', sp, h1, h2, h3, h4, h5⟩
  · simp only [Value.slice.injEq] at h2
    obtain ⟨rfl, h2, rfl⟩ := h2
    subst h3
    obtain rfl : i = 0 := by omega
    exact .inl ⟨h1, rfl, rfl⟩
  · simp only [Value.slice.injEq] at h2
    obtain ⟨rfl, h2, rfl⟩ := h2
    refine .inr ⟨g, cap, xs.drop (i * z) ++ sp, by rw [h1, ← List.append_assoc, List.take_append_drop], rfl, by omega, h4, by rw [← List.append_assoc, List.take_append_drop]; exact h5⟩

def ldW (ag : Bool) (vs : List Value) : Value := if ag then .agg vs.toArray else vs.headD undef
section
variable {P : Program} {w : World}
theorem run_ld_os {w0 : World} {X : Fr} {R : List Win} {S sl pre post : List OB} {T E : TypeId} {z n m off g cap : Nat} {ag : Bool} {xs vs : List Value} (hR : Rep w0 X R S w) (hO : OS sl E z (.slice (some ⟨g, 0, none⟩) n cap) n xs) (hC : Ctx S sl pre post)
    (hT : Ty P T m ag) (hag : (ag || m == 1) = true) (hl : off + m ≤ xs.length) (hv : (xs.drop off).take m = vs) : (loadVar T ⟨g, off, none⟩).run P w = .ok (ldW ag vs) w := by
  rcases hO.2 with ⟨-, e, -⟩ | ⟨g', cap', sp, rfl, e, h2, h3, h4⟩
  · simp at e
  · simp only [Value.slice.injEq, Option.some.injEq, Addr.mk.injEq, and_true, true_and] at e
    obtain ⟨rfl, rfl⟩ := e
    have hm : (⟨g, E, xs ++ sp⟩ : OB) ∈ S := (sub_ctx hC).subset List.mem_cons_self
    simp only [Bool.or_eq_true, beq_iff_eq] at hag
    have hr' := run_ld (w := w) hT (hR.cells hm) (off := off) (by simp only [List.length_append]; omega) (fun e => hag.resolve_left (by simp [e]))
    rw [hr']
    have hv' : ((xs ++ sp).drop off).take m = vs := by
      rw [List.drop_append_of_le_length (by omega), List.take_append_of_le_length (by rw [List.length_drop]; omega)]; exact hv
    congr 1
    cases ag with
    | true => simp only [ldV, ldW, if_true, hv']
    | false =>
      obtain rfl : m = 1 := hag.resolve_left (by simp)
      simp only [ldV, ldW, Bool.false_eq_true, if_false, ← hv']
      rw [List.headD_eq_head?_getD, List.head?_take, if_neg (by omega), List.head?_drop, List.getD_eq_getElem?_getD]
theorem wpList_ld_os {ops : Array Oper} {Q : Exit → Act → World → Prop} {a a' : Act} {rest : List Oper} {o : Oper} {w0 : World} {X : Fr} {R : List Win} {S sl pre post : List OB} {T E : TypeId} {z n m off g cap : Nat} {ag : Bool} {x : Operand} {xs vs : List Value}
    (hR : Rep w0 X R S w) (hop : o.op = .load T x) (hg : o.guard = none) (hO : OS sl E z (.slice (some ⟨g, 0, none⟩) n cap) n xs) (hC : Ctx S sl pre post) (hx : a.eval x = .pointer (some ⟨g, off, none⟩)) (hT : Ty P T m ag) (hag : (ag || m == 1) = true)
    (hl : off + m ≤ xs.length) (hv : (xs.drop off).take m = vs) (ha : a.put o.dst (ldW ag vs) = a') (h : wpList P ops Q rest a' w) : wpList P ops Q (o :: rest) a w := by
  have hr := run_ld_os hR hO hC hT hag hl hv
  refine BigFrame.wpList_want (by simp [Region.wanted, hg]) fun K hK => ?_
  unfold Oper.wp execOp
  rw [hop]
  simp only [hx, Instr.loadAt, Instr.sureAddr, Sem.run_bind, Sem.run_pure, Result.andThen_ok, hr, Oper.upon]
  subst ha
  exact hK _ _ h
theorem dc_ld_own {L : List Oper} {w0 : World} {X : Fr} {R : List Win} {im : List Nat} {Qf : Act → List OB → Prop} {i : Nat} {rr : List Nat} {a a' : Act} {S sl pre post : List OB} {o : Oper} {T E : TypeId} {x : Operand} {z n m off g cap : Nat} {ag : Bool} {xs vs : List Value}
    (ho : nth L i = some o) (hi : im.contains i = false) (hw : Region.wanted o (yielded L.toArray a.tmps) = true) (hop : o.op = .load T x) (hO : OS sl E z (.slice (some ⟨g, 0, none⟩) n cap) n xs) (hC : Ctx S sl pre post) (hx : a.eval x = .pointer (some ⟨g, off, none⟩)) (hT : Ty P T m ag) (hag : (ag || m == 1) = true)
    (hl : off + m ≤ xs.length) (hv : (xs.drop off).take m = vs) (ha : a.put o.dst (ldW ag vs) = a') (h : DC P L.toArray w0 X R im Qf rr a' S) : DC P L.toArray w0 X R im Qf (i :: rr) a S := by
  refine dc_read ho hi hw (fun w hR => ?_) ha h
  have hr := run_ld_os hR hO hC hT hag hl hv
  unfold execOp
  rw [hop]
  simp only [hx, Instr.loadAt, Instr.sureAddr, Sem.run_bind, Sem.run_pure, Result.andThen_ok, hr]

theorem zeroCells_mem {zc : Array Value} {n : Nat} {p : Value → Prop} (h : ∀ v ∈ zc, p v) : ∀ v ∈ (Builtin.zeroCells zc n).toList, p v := by
  intro v hv
  simp only [Builtin.zeroCells, Array.toList_map, List.mem_map] at hv
  obtain ⟨i, hi, rfl⟩ := hv
  have hi' : i < n * zc.size := by simpa using hi
  have hs : 0 < zc.size := Nat.pos_of_ne_zero fun h0 => by rw [h0] at hi'; omega
  have hlt := Nat.mod_lt i hs
  rw [getElem!_pos zc (i % zc.size) hlt]
  exact h _ (Array.getElem_mem hlt)
theorem run_clear_os {w0 : World} {X : Fr} {R : List Win} {S sl pre post : List OB} {t ty E : TypeId} {z bytes n i m c cap g : Nat} {xs zl : List Value} (hS : Sl P t E z bytes) (hZ : ZeroIs P E zl) (hz1 : zl.all Value.oneCell' = true) (hR : Rep w0 X R S w)
    (hO : OS sl E z (.slice (some ⟨g, 0, none⟩) n cap) n xs) (hC : Ctx S sl pre post) (him : i + m = n) (hm : 0 < m) :
    ∃ sl' w', (Builtin.clear_ #[t] ty #[.slice (some ⟨g, i * z, none⟩) m c]).run P w = .ok (.tuple #[]) w' ∧ OS sl' E z (.slice (some ⟨g, 0, none⟩) i cap) i (xs.take (i * z)) ∧ Rep w0 X R (pre ++ (sl' ++ post)) w' := by
  obtain ⟨inf, zv, hi, hz, rfl, rfl, hzs⟩ := hS.el
  have ht := hS.un
  simp only [ZeroIs, hi, Option.bind_some, hz, Option.map_some, Option.some.injEq] at hZ
  rcases hO.2 with ⟨-, e, -⟩ | ⟨g', cap', sp, rfl, e, h2, h3, h4⟩
  · simp at e
  · simp only [Value.slice.injEq, Option.some.injEq, Addr.mk.injEq, and_true, true_and] at e
    obtain ⟨rfl, rfl⟩ := e
    have e := hC.eq
    subst e
    have hmem : (⟨g, E, xs ++ sp⟩ : OB) ∈ pre ++ ([⟨g, E, xs ++ sp⟩] ++ post) := by simp
    have hzl : (Builtin.zeroCells zv.cells m).toList.length = m * inf.size := by rw [Array.length_toList, size_zeroCells, hzs]
    have hxl := hO.1
    have hnm : n * inf.size = i * inf.size + m * inf.size := by rw [← him, Nat.add_mul]
    have hst := run_storeCells_at P g (i * inf.size) E (Builtin.zeroCells zv.cells m).toList 0 (xs ++ sp).toArray w (hR.own _ hmem) (by rw [hzl]; simp; omega) (zeroCells_mem fun v hv => List.all_eq_true.1 hz1 v (by rw [← hZ]; exact Array.mem_toList_iff.2 hv))
    simp only [Nat.add_zero, hzl] at hst
    have hst2 : stL (i * inf.size) (Builtin.zeroCells zv.cells m).toList (xs ++ sp) = xs.take (i * inf.size) ++ ((Builtin.zeroCells zv.cells m).toList ++ sp) := by
      rw [stL_eq _ _ _ (by rw [hzl]; simp; omega), hzl, List.take_append_of_le_length (by omega), show i * inf.size + m * inf.size = xs.length by omega, List.drop_left, List.append_assoc]
    have hR' := hR.store (c' := stL (i * inf.size) (Builtin.zeroCells zv.cells m).toList (xs ++ sp)) To.mid
    refine ⟨[⟨g, E, xs.take (i * inf.size) ++ ((Builtin.zeroCells zv.cells m).toList ++ sp)⟩], w.setRow g (stL (i * inf.size) (Builtin.zeroCells zv.cells m).toList (xs ++ sp)).toArray, ?_, ⟨by rw [List.length_take]; omega, .inr ⟨g, cap, (Builtin.zeroCells zv.cells m).toList ++ sp, rfl, rfl, by omega, h3, ?_⟩⟩, ?_⟩
    · have hm0 : m ≠ 0 := by omega
      rw [stL_eq _ _ _ (by rw [hzl]; simp; omega), hzl]
      cases m with
      | zero => omega
      | succ m =>
        simp [Builtin.clear_, run_underlying ht, zeroValue, typeInfo, hi, hz, hst]
    · simp only [List.length_append, List.length_take, hzl] at h4 ⊢; omega
    · have e2 : ([⟨g, E, stL (i * inf.size) (Builtin.zeroCells zv.cells m).toList (xs ++ sp)⟩] : List OB) = [⟨g, E, xs.take (i * inf.size) ++ ((Builtin.zeroCells zv.cells m).toList ++ sp)⟩] := by rw [hst2]
      rw [e2] at hR'; exact hR'
theorem wpList_clear_os {ops : Array Oper} {Q : Exit → Act → World → Prop} {a : Act} {rest : List Oper} {o : Oper} {w0 : World} {X : Fr} {R : List Win} {S sl pre post : List OB} {t E : TypeId} {z bytes n i m c cap g : Nat} {xs zl : List Value} {s : Operand}
    (hR : Rep w0 X R S w) (hop : o.op = .call { callee := .builtin .clear, args := #[s], argTypes := #[t] }) (hd : o.dst = none) (hg : o.guard = none) (hs : a.eval s = .slice (some ⟨g, i * z, none⟩) m c) (hS : Sl P t E z bytes) (hZ : ZeroIs P E zl) (hz1 : zl.all Value.oneCell' = true)
    (hO : OS sl E z (.slice (some ⟨g, 0, none⟩) n cap) n xs) (hC : Ctx S sl pre post) (him : i + m = n) (hm : 0 < m)
    (h : ∀ sl' w', OS sl' E z (.slice (some ⟨g, 0, none⟩) i cap) i (xs.take (i * z)) → Rep w0 X R (pre ++ (sl' ++ post)) w' → wpList P ops Q rest a w') : wpList P ops Q (o :: rest) a w := by
  obtain ⟨sl', w', hr, h2, h3⟩ := run_clear_os (P := P) (ty := o.type) (c := c) hS hZ hz1 hR hO hC him hm
  refine BigFrame.wpList_want (by simp [Region.wanted, hg]) fun K hK => ?_
  unfold Oper.wp execOp
  simp only [hop, resolve, invoke, builtin, Sem.run_bind, Sem.run_pure, Result.andThen_ok, List.map_toArray, List.map_cons, List.map_nil, hs, hr, Oper.upon, hd, Act.put]
  exact hK _ _ (h _ _ h2 h3)
end
end Go.Proofs.YtohpjdeohpamaaaGreatDoor
namespace Go.Proofs.YtohpjdeohpamaaaGreatDoor
open Go.RowKit
inductive Plan
  | done
  | rd (i : Nat) (t : Plan)
  | m1 (i : Nat) (t : Plan)
  | m2 (i : Nat) (t : Plan) (j : Nat) (u : Plan)
def Plan.still : Plan → Bool
  | .rd _ _ => false
  | _ => true

def okS (ops : Array Oper) (k : Nat) : Bool :=
  match ops[k]? with
  | none => false
  | some o => (List.range ops.size).all fun j => match ops[j]? with
      | none => true
      | some oj => match oj.dst with
        | none => true
        | some d => (j == k || o.dst != some d) && (!(o.looksAt ops).contains d || o.after.any fun e => Region.binds .any e && e.on == j)
def depsIn (ops : Array Oper) (pre : List Nat) (k : Nat) : Bool :=
  match ops[k]? with
  | none => false
  | some o => o.after.all fun e => !Region.binds .any e || pre.contains e.on
def waitsP (ops : Array Oper) (pre c : List Nat) : Bool := (List.range ops.size).all fun k => pre.contains k || c.contains k || !depsIn ops pre k
def stepP (ops : Array Oper) (pre : List Nat) (i : Nat) : Bool := decide (i < ops.size) && !pre.contains i && depsIn ops pre i
def chkP (ops : Array Oper) : Plan → List Nat → Bool
  | .done, pre => (List.range ops.size).all fun k => pre.contains k
  | .rd i t, pre => stepP ops pre i && chkP ops t (pre ++ [i])
  | .m1 i t, pre => waitsP ops pre [i] && stepP ops pre i && chkP ops t (pre ++ [i])
  | .m2 i t j u, pre => waitsP ops pre [i, j] && stepP ops pre i && chkP ops t (pre ++ [i]) && stepP ops pre j && chkP ops u (pre ++ [j])
section
variable {P : Program} {w0 : World} {X : Fr} {R : List Win}
def MUp (P : Program) (w0 : World) (X : Fr) (R : List Win) (S : List OB) (next : Value → List OB → List OB → Prop) (w : World) : Result Next → Prop
  | .ok (.value v) w' => ∃ M' S', S.Sublist S' ∧ Rep w0 X R (M' ++ S') w' ∧ next v M' S'
  | .ok .skip w' => ∃ M' S', S.Sublist S' ∧ Rep w0 X R (M' ++ S') w' ∧ next undef M' S'
  | .ok (.enter f args) w' => w' = w ∧ Calls P f args w (fun e w'' => ∃ v M' S', e = .returned v ∧ S.Sublist S' ∧ Rep w0 X R (M' ++ S') w'' ∧ next v M' S')
  | _ => False
def MSt (P : Program) (L : Array Oper) (w0 : World) (X : Fr) (R : List Win) (i : Nat) (a : Act) (M S : List OB) (next : Act → List OB → List OB → Prop) : Prop :=
  ∃ o, L[i]? = some o ∧ if Region.wanted o (yielded L a.tmps) then ∀ w, Rep w0 X R (M ++ S) w → MUp P w0 X R S (fun v M' S' => next (a.put o.dst v) M' S') w ((execOp a.eval o).run P w) else next (a.put o.dst undef) M S
def DT (P : Program) (L : Array Oper) (w0 : World) (X : Fr) (R : List Win) (Qf : Act → List OB → Prop) : Plan → Act → List OB → List OB → Prop
  | .done, a, M, S => Qf a (M ++ S)
  | .rd i t, a, M, S => ∃ o, L[i]? = some o ∧ if Region.wanted o (yielded L a.tmps) then ∃ v, (∀ w, Rep w0 X R S w → (execOp a.eval o).run P w = .ok (.value v) w) ∧ DT P L w0 X R Qf t (a.put o.dst v) M S else DT P L w0 X R Qf t (a.put o.dst undef) M S
  | .m1 i t, a, M, S => MSt P L w0 X R i a M S (DT P L w0 X R Qf t)
  | .m2 i t j u, a, M, S => MSt P L w0 X R i a M S (DT P L w0 X R Qf t) ∧ MSt P L w0 X R j a M S (DT P L w0 X R Qf u)

theorem okS_spec {ops : Array Oper} {k : Nat} (h : okS ops k = true) : ∃ o, ops[k]? = some o ∧
    (∀ j oj, j < ops.size → ops[j]? = some oj → ∀ d, oj.dst = some d → (j ≠ k → o.dst ≠ some d) ∧ (d ∈ o.looksAt ops → ∃ e ∈ o.after, Region.binds .any e = true ∧ e.on = j)) := by
  unfold okS at h
  cases ho : ops[k]? with
  | none => simp [ho] at h
  | some o =>
    simp only [ho] at h
    refine ⟨o, rfl, fun j oj hj hoj d hd => ?_⟩
    have := List.all_eq_true.1 h j (List.mem_range.2 hj)
    simp only [hoj, hd, Bool.and_eq_true, Bool.or_eq_true, beq_iff_eq, bne_iff_ne, Bool.not_eq_true'] at this
    refine ⟨fun hne => this.1.resolve_left hne, fun hm => ?_⟩
    rcases this.2 with h | h
    · simp [hm] at h
    · obtain ⟨e, he, hb⟩ := Array.any_eq_true'.1 h
      simp only [Bool.and_eq_true, beq_iff_eq] at hb
      exact ⟨e, he, hb.1, hb.2⟩
theorem depsIn_spec {ops : Array Oper} {pre : List Nat} {k : Nat} {o : Oper} (h : depsIn ops pre k = true) (ho : ops[k]? = some o) : ∀ e ∈ o.after, Region.binds .any e = true → e.on ∈ pre := by
  unfold depsIn at h
  simp only [ho] at h
  intro e he hb
  have := Array.all_eq_true_iff_forall_mem.1 h e he
  simpa [hb] using this
theorem depsIn_of {ops : Array Oper} {pre : List Nat} {k : Nat} {o : Oper} (ho : ops[k]? = some o) (h : ∀ e ∈ o.after, Region.binds .any e = true → e.on ∈ pre) : depsIn ops pre k = true := by
  unfold depsIn
  simp only [ho]
  refine Array.all_eq_true_iff_forall_mem.2 fun e he => ?_
  cases hb : Region.binds .any e with
  | false => rfl
  | true => simpa using h e he hb

structure TOk (l : List Oper) : Prop where
  ns : Region.noSelect l.toArray = true
  ok : ∀ k, k < l.toArray.size → okS l.toArray k = true
def Ev (P : Program) (l : List Oper) (w0 : World) (X : Fr) (R : List Win) (pre mk : List Nat) (A : Act) (S : List OB) : Prop :=
  ∀ (k : Nat) (o : Oper), k ∈ pre → l[k]? = some o → k ∉ mk → ∃ v, RG P l.toArray w0 X R S A o v ∧ ∀ d, o.dst = some d → A.tmps[d]? = if d < A.tmps.size then some v else none
def Cl (l : List Oper) (pre : List Nat) : Prop := (∀ k ∈ pre, k < l.toArray.size) ∧ ∀ k ∈ pre, ∀ o, l[k]? = some o → ∀ e ∈ o.after, Region.binds .any e = true → pre.idxOf e.on < pre.idxOf k
theorem Cl.snoc {l : List Oper} {pre : List Nat} {i : Nat} (h : Cl l pre) (hs : stepP l.toArray pre i = true) : Cl l (pre ++ [i]) ∧ i ∉ pre ∧ i < l.toArray.size ∧ ∀ o, l[i]? = some o → ∀ e ∈ o.after, Region.binds .any e = true → e.on ∈ pre := by
  simp only [stepP, Bool.and_eq_true, decide_eq_true_eq, Bool.not_eq_true'] at hs
  obtain ⟨⟨h1, h2⟩, h3⟩ := hs
  have hip : i ∉ pre := by simpa using h2
  have hd : ∀ o, l[i]? = some o → ∀ e ∈ o.after, Region.binds .any e = true → e.on ∈ pre := fun o ho => depsIn_spec h3 (by simpa using ho)
  refine ⟨⟨fun k hk => ?_, fun k hk o ho e he hb => ?_⟩, hip, h1, hd⟩
  · rcases List.mem_append.1 hk with hk | hk
    · exact h.1 k hk
    · obtain rfl : k = i := by simpa using hk
      exact h1
  · rcases List.mem_append.1 hk with hk | hk
    · have h4 := h.2 k hk o ho e he hb
      have h5 : e.on ∈ pre := by
        apply Classical.byContradiction
        intro hno
        have h6 : pre.idxOf e.on = pre.length := List.idxOf_eq_length hno
        have h7 := List.idxOf_lt_length_of_mem hk
        omega
      rw [List.idxOf_append, if_pos h5, List.idxOf_append, if_pos hk]; exact h4
    · obtain rfl : k = i := by simpa using hk
      have h5 := hd o ho e he hb
      have h6 := List.idxOf_lt_length_of_mem h5
      rw [List.idxOf_append, if_pos h5, List.idxOf_append, if_neg hip]
      omega
theorem Cl.mem {l : List Oper} {pre : List Nat} (h : Cl l pre) {k : Nat} (hk : k ∈ pre) {o : Oper} (ho : l[k]? = some o) : ∀ {e}, e ∈ o.after → Region.binds .any e = true → e.on ∈ pre := by
  intro e he hb
  apply Classical.byContradiction
  intro hno
  have h4 := h.2 k hk o ho e he hb
  have h6 : pre.idxOf e.on = pre.length := List.idxOf_eq_length hno
  have h7 := List.idxOf_lt_length_of_mem hk
  omega
theorem keepP {l : List Oper} (hk : TOk l) {pre : List Nat} (hc : Cl l pre) {i : Nat} {o : Oper} (hi : i ∉ pre) (hin : i < l.toArray.size) (ho : l[i]? = some o) {k : Nat} {ok : Oper} (hkp : k ∈ pre) (hok : l[k]? = some ok) :
    (∀ d, o.dst = some d → d ∉ ok.looksAt l.toArray) ∧ (∀ d, ok.dst = some d → o.dst ≠ some d) := by
  obtain ⟨ok', hok', g2⟩ := okS_spec (hk.ok k (hc.1 k hkp))
  obtain rfl : ok = ok' := Option.some.inj ((by simpa using hok : l.toArray[k]? = some ok).symm.trans hok')
  have ho' : l.toArray[i]? = some o := by simpa using ho
  refine ⟨fun d hd hm => ?_, fun d hd e => ?_⟩
  · obtain ⟨e, he, hb, hon⟩ := (g2 i o hin ho' d hd).2 hm
    exact hi (hon ▸ hc.mem hkp hok he hb)
  · exact (g2 i o hin ho' d e).1 (fun e2 => hi (e2 ▸ hkp)) hd
theorem selfP {l : List Oper} (hk : TOk l) {i : Nat} {o : Oper} (hin : i < l.toArray.size) (ho : l[i]? = some o) {pre : List Nat} (hi : i ∉ pre) (hd : ∀ e ∈ o.after, Region.binds .any e = true → e.on ∈ pre) : ∀ d, o.dst = some d → d ∉ o.looksAt l.toArray := fun d hd' hm => by
  obtain ⟨o', ho', g2⟩ := okS_spec (hk.ok i hin)
  obtain rfl : o = o' := Option.some.inj ((by simpa using ho : l.toArray[i]? = some o).symm.trans ho')
  obtain ⟨e, he, hb, hon⟩ := (g2 i o hin ho' d hd').2 hm
  exact hi (hon ▸ hd e he hb)
theorem segP {l : List Oper} {Qf : Act → List OB → Prop} (hk : TOk l) {M S : List OB} {mk : List Nat} :
    ∀ (pl : Plan) (pre : List Nat) (A : Act), Cl l pre → chkP l.toArray pl pre = true → DT P l.toArray w0 X R Qf pl A M S → Ev P l w0 X R pre mk A S → (∀ k ∈ mk, k ∈ pre) →
      ∃ sg pl' A', pl'.still = true ∧ Cl l (pre ++ sg) ∧ chkP l.toArray pl' (pre ++ sg) = true ∧ DT P l.toArray w0 X R Qf pl' A' M S ∧ A'.tmps.size = A.tmps.size ∧ A'.defers = A.defers ∧ (∀ k ∈ sg, k ∉ pre ∧ k < l.toArray.size) ∧
        (∀ t, (∀ (k : Nat) (o : Oper), k ∈ sg → l[k]? = some o → o.dst ≠ some t) → A'.tmps[t]? = A.tmps[t]?) ∧ Ev P l w0 X R (pre ++ sg) mk A' S
  | .done, pre, A, hc, hp, hd, hr, _ => ⟨[], .done, A, rfl, by simpa using hc, by simpa using hp, hd, rfl, rfl, by simp, fun _ _ => rfl, by simpa using hr⟩
  | .m1 i t, pre, A, hc, hp, hd, hr, _ => ⟨[], .m1 i t, A, rfl, by simpa using hc, by simpa using hp, hd, rfl, rfl, by simp, fun _ _ => rfl, by simpa using hr⟩
  | .m2 i t j u, pre, A, hc, hp, hd, hr, _ => ⟨[], .m2 i t j u, A, rfl, by simpa using hc, by simpa using hp, hd, rfl, rfl, by simp, fun _ _ => rfl, by simpa using hr⟩
  | .rd i t, pre, A, hc, hp, hd, hr, hm => by
    simp only [chkP, Bool.and_eq_true] at hp
    obtain ⟨hs, hp⟩ := hp
    obtain ⟨hc', hip, hin, hdeps⟩ := hc.snoc hs
    obtain ⟨o, ho, hd⟩ := hd
    have ho' : l[i]? = some o := by simpa using ho
    have hsel : ∀ cs bb, o.op ≠ .select cs bb := fun cs bb => Region.noSelect_spec hk.ns i o cs bb ho
    have hself := selfP hk hin ho' hip (hdeps o ho')
    have hst : ∃ v, RG P l.toArray w0 X R S A o v ∧ DT P l.toArray w0 X R Qf t (A.put o.dst v) M S := by
      by_cases hw : Region.wanted o (yielded l.toArray A.tmps) = true
      · rw [if_pos hw] at hd
        obtain ⟨v, hv, hn⟩ := hd
        exact ⟨v, .inl ⟨hw, hv⟩, hn⟩
      · rw [if_neg hw] at hd
        exact ⟨undef, .inr ⟨by simpa using hw, rfl⟩, hd⟩
    obtain ⟨v, hg, hn⟩ := hst
    have hag : ∀ (ok : Oper), (∀ d, o.dst = some d → d ∉ ok.looksAt l.toArray) → Agrees l.toArray ok (A.put o.dst v) A := fun ok hok t ht => put_getElem? A o.dst v t fun e => hok t e ht
    obtain ⟨sg, pl', A', e1, e2, e3, e4, e5, e6, e7, e8, e9⟩ := segP hk t (pre ++ [i]) (A.put o.dst v) hc' hp hn (fun k ok hkp hok hkm => by
      rcases List.mem_append.1 hkp with hkp | hkp
      · obtain ⟨u, hu, hud⟩ := hr k ok hkp hok hkm
        have hkk := keepP hk hc hip hin ho' hkp hok
        exact ⟨u, hu.of_same (hag ok hkk.1) (fun cs bb => Region.noSelect_spec hk.ns k ok cs bb (by simpa using hok)) (List.Sublist.refl _), fun d hd' => by
          rw [put_getElem? A o.dst v d (hkk.2 d hd'), put_size]; exact hud d hd'⟩
      · obtain rfl : k = i := by simpa using hkp
        obtain rfl : o = ok := Option.some.inj (ho'.symm.trans hok)
        exact ⟨v, hg.of_same (hag o hself) hsel (List.Sublist.refl _), fun d hd' => by rw [hd', put_same, Act.put]; simp⟩) (fun k hkm => List.mem_append_left _ (hm k hkm))
    refine ⟨i :: sg, pl', A', e1, by simpa using e2, by simpa using e3, e4, by rw [e5, put_size], by rw [e6, put_defers], fun k hkm => ?_, fun t ht => ?_, by simpa using e9⟩
    · rcases List.mem_cons.1 hkm with rfl | hkm
      · exact ⟨hip, hin⟩
      · exact ⟨fun h => (e7 k hkm).1 (List.mem_append_left _ h), (e7 k hkm).2⟩
    · rw [e8 t fun k ok hkm => ht k ok (List.mem_cons_of_mem _ hkm)]
      exact put_getElem? A o.dst v t (ht i o List.mem_cons_self ho')

structure PInv (P : Program) (l : List Oper) (w0 : World) (X : Fr) (R : List Win) (Qf : Act → List OB → Prop) (pre mk : List Nat) (pl : Plan) (A : Act) (M S : List OB) (listed : Array Bool) (b : Act) (w : World) : Prop where
  hi : HeadInv .any l.toArray l.toArray.size listed
  still : pl.still = true
  cl : Cl l pre
  ck : chkP l.toArray pl pre = true
  dt : DT P l.toArray w0 X R Qf pl A M S
  sub : ∀ k ∈ mk, k ∈ pre
  imp : ∀ k ∈ mk, listed.getD k false = true
  done : ∀ k, k < l.toArray.size → listed.getD k false = true → k ∈ pre
  size : b.tmps.size = A.tmps.size
  defers : b.defers = A.defers
  rep : Rep w0 X R (M ++ S) w
  un : ∀ t, (∀ (k : Nat) (o : Oper), k < l.toArray.size → l[k]? = some o → o.dst ≠ some t) → b.tmps[t]? = A.tmps[t]?
  got : ∀ (k : Nat) (o : Oper), k ∈ pre → l[k]? = some o → listed.getD k false = true → ∀ d, o.dst = some d → b.tmps[d]? = A.tmps[d]?
  ev : Ev P l w0 X R pre mk A S

section
variable {l : List Oper} {Qf : Act → List OB → Prop} {Q : Exit → Act → World → Prop} {pre mk : List Nat} {pl : Plan} {A : Act} {M S : List OB} {listed : Array Bool} {b : Act} {w : World}
theorem PInv.agrees (hk : TOk l) (inv : PInv P l w0 X R Qf pre mk pl A M S listed b w) {i : Nat} {o : Oper} (hin : i < l.toArray.size) (ho : l[i]? = some o) (hdep : ∀ e ∈ o.after, Region.binds .any e = true → listed.getD e.on false = true) : Agrees l.toArray o b A := by
  intro t ht
  obtain ⟨o', ho', h2⟩ := okS_spec (hk.ok i hin)
  obtain rfl : o = o' := Option.some.inj ((by simpa using ho : l.toArray[i]? = some o).symm.trans ho')
  by_cases hex : ∃ (k : Nat) (o' : Oper), k < l.toArray.size ∧ l[k]? = some o' ∧ o'.dst = some t
  · obtain ⟨k, o', hkn, hko, hkd⟩ := hex
    obtain ⟨e, he, hb, hon⟩ := (h2 k o' hkn (by simpa using hko) t hkd).2 ht
    have hl := hdep e he hb
    rw [hon] at hl
    exact inv.got k o' (inv.done k hkn hl) hko hl t hkd
  · exact inv.un t fun k o' hkn hko hkd => hex ⟨k, o', hkn, hko, hkd⟩
theorem PInv.later (hk : TOk l) (inv : PInv P l w0 X R Qf pre mk pl A M S listed b w) {i : Nat} {o : Oper} {t : Plan} (hi : i ∈ Region.ready .any l.toArray listed) (ho : l[i]? = some o) (hs : stepP l.toArray pre i = true) (hp : chkP l.toArray t (pre ++ [i]) = true)
    {v : Value} {M' S' : List OB} {w' : World} (hS : S.Sublist S') (hR : Rep w0 X R (M' ++ S') w') (hD : DT P l.toArray w0 X R Qf t (A.put o.dst v) M' S') :
    ∃ pre mk pl A M S, PInv P l w0 X R Qf pre mk pl A M S (listed.setIfInBounds i true) (b.put o.dst v) w' := by
  obtain ⟨hc', hip, hin, hdeps⟩ := inv.cl.snoc hs
  have hil : i < listed.size := by rw [inv.hi.size]; exact hin
  have hself : (listed.setIfInBounds i true).getD i false = true := by simp [Array.getD, hil]
  obtain ⟨o2, ho2, h2⟩ := okS_spec (hk.ok i hin)
  obtain rfl : o = o2 := Option.some.inj ((by simpa using ho : l.toArray[i]? = some o).symm.trans ho2)
  have hne : ∀ (k : Nat) (ok : Oper), k < l.toArray.size → l[k]? = some ok → k ≠ i → ∀ d, ok.dst = some d → o.dst ≠ some d := fun k ok hkn hok hki d hd => (h2 k ok hkn (by simpa using hok) d hd).1 hki
  obtain ⟨sg, pl', A', e1, e2, e3, e4, e5, e6, e7, e8, e9⟩ := segP (mk := i :: mk) hk t (pre ++ [i]) (A.put o.dst v) hc' hp hD (fun k ok hkp hok hkm => by
    rcases List.mem_append.1 hkp with hkp | hkp
    · obtain ⟨u, hu, hud⟩ := inv.ev k ok hkp hok (fun h => hkm (List.mem_cons_of_mem _ h))
      have hkk := keepP hk inv.cl hip hin ho hkp hok
      exact ⟨u, hu.of_same (fun t ht => put_getElem? A o.dst v t fun e => hkk.1 t e ht) (fun cs bb => Region.noSelect_spec hk.ns k ok cs bb (by simpa using hok)) hS, fun d hd' => by
        rw [put_getElem? A o.dst v d (hkk.2 d hd'), put_size]; exact hud d hd'⟩
    · obtain rfl : k = i := by simpa using hkp
      exact absurd List.mem_cons_self hkm) (fun k hkm => by
    rcases List.mem_cons.1 hkm with rfl | hkm
    · simp
    · exact List.mem_append_left _ (inv.sub k hkm))
  have hsgd : ∀ k ∈ sg, listed.getD k false = true → False := fun k hkm hl => (e7 k hkm).1 (List.mem_append_left _ (inv.done k (e7 k hkm).2 hl))
  have hisg : i ∉ sg := fun hm => (e7 i hm).1 (by simp)
  refine ⟨pre ++ [i] ++ sg, i :: mk, pl', A', M', S', inv.hi.set hi hin, e1, e2, e3, e4, fun k hkm => ?_, fun k hkm => ?_, fun k hkn hkl => ?_, by rw [put_size, e5, put_size]; exact inv.size, by rw [put_defers, e6, put_defers]; exact inv.defers, hR, fun t ht => ?_, fun k ok hkp hok hkl d hd' => ?_, e9⟩
  · rcases List.mem_cons.1 hkm with rfl | hkm
    · simp
    · simp [inv.sub k hkm]
  · rcases List.mem_cons.1 hkm with rfl | hkm
    · exact hself
    · exact getD_set_true (inv.imp k hkm)
  · by_cases hki : k = i
    · subst hki; simp
    · have := inv.done k hkn (getD_set_self hkl (Ne.symm hki)); simp [this]
  · rw [put_getElem? b o.dst v t (ht i o hin ho), e8 t (fun k ok hkm hok => ht k ok (e7 k hkm).2 hok), put_getElem? A o.dst v t (ht i o hin ho)]
    exact inv.un t ht
  · have hkn : k < l.toArray.size := e2.1 k hkp
    have hnsg : k ∉ sg := fun hm => by
      by_cases hki : k = i
      · subst hki; exact hisg hm
      · exact hsgd k hm (getD_set_self hkl (Ne.symm hki))
    rw [e8 d (fun k2 ok2 hkm2 hok2 e => by
      obtain ⟨ok', hok', g2⟩ := okS_spec (hk.ok k2 (e7 k2 hkm2).2)
      obtain rfl : ok2 = ok' := Option.some.inj ((by simpa using hok2 : l.toArray[k2]? = some ok2).symm.trans hok')
      exact (g2 k ok hkn (by simpa using hok) d hd').1 (fun e2 => hnsg (e2 ▸ hkm2)) e)]
    by_cases hki : k = i
    · subst hki
      obtain rfl : ok = o := Option.some.inj (hok.symm.trans ho)
      rw [hd', put_same, put_same, inv.size]
    · have hkp' : k ∈ pre := by
        rcases List.mem_append.1 hkp with hkp | hkp
        · rcases List.mem_append.1 hkp with hkp | hkp
          · exact hkp
          · exact absurd (by simpa using hkp) hki
        · exact absurd hkp hnsg
      rw [put_getElem? b o.dst v d (hne k ok hkn hok hki d hd'), put_getElem? A o.dst v d (hne k ok hkn hok hki d hd')]
      exact inv.got k ok hkp' hok (getD_set_self hkl (Ne.symm hki)) d hd'
theorem PInv.maker (hk : TOk l) (inv : PInv P l w0 X R Qf pre mk pl A M S listed b w) {i : Nat} {t : Plan} (hi : i ∈ Region.ready .any l.toArray listed) (hs : stepP l.toArray pre i = true) (hp : chkP l.toArray t (pre ++ [i]) = true) (hd : MSt P l.toArray w0 X R i A M S (DT P l.toArray w0 X R Qf t)) :
    wpOp P l.toArray Q i (fun b' w' => ∃ pre mk pl A M S, PInv P l w0 X R Qf pre mk pl A M S (listed.setIfInBounds i true) b' w') b w := by
  obtain ⟨hun, o, ho, hdep⟩ := mem_ready.1 hi
  have ho' : l[i]? = some o := by simpa using ho
  have hin : i < l.toArray.size := (Array.getElem?_eq_some_iff.1 ho).1
  have hag := inv.agrees hk hin ho' hdep
  have hsel : ∀ cs bb, o.op ≠ .select cs bb := fun cs bb => Region.noSelect_spec hk.ns i o cs bb ho
  obtain ⟨o3, ho3, hd⟩ := hd
  obtain rfl : o = o3 := Option.some.inj (ho.symm.trans ho3)
  unfold wpOp
  simp only [ho]
  rw [hag.wanted]
  by_cases hw : Region.wanted o (yielded l.toArray A.tmps) = true
  · rw [if_pos hw] at hd
    simp only [hw, if_true]
    refine .inl ?_
    have h5 := hd w inv.rep
    unfold Oper.wp
    rw [hag.exec hsel]
    generalize (execOp A.eval o).run P w = res at h5 ⊢
    cases res with
    | ok nx w' =>
      cases nx <;> simp only [MUp] at h5 <;> simp only [Oper.upon]
      case value v => obtain ⟨M', S', h6, h7, h8⟩ := h5; exact inv.later hk hi ho' hs hp h6 h7 h8
      case skip => obtain ⟨M', S', h6, h7, h8⟩ := h5; exact inv.later hk hi ho' hs hp h6 h7 h8
      case enter f args =>
        obtain ⟨rfl, hc⟩ := h5
        exact hc.mono fun e w'' ⟨v, M', S', he, h6, h7, h8⟩ => by subst he; exact inv.later hk hi ho' hs hp h6 h7 h8
    | halt x w' => simp only [MUp] at h5
  · rw [if_neg hw] at hd
    simp only [hw, Bool.false_eq_true, if_false]
    exact inv.later hk hi ho' hs hp (List.Sublist.refl _) inv.rep hd
theorem PInv.step (hk : TOk l) (inv : PInv P l w0 X R Qf pre mk pl A M S listed b w) {i : Nat} (hi : i ∈ Region.ready .any l.toArray listed) :
    wpOp P l.toArray Q i (fun b' w' => ∃ pre mk pl A M S, PInv P l w0 X R Qf pre mk pl A M S (listed.setIfInBounds i true) b' w') b w := by
  obtain ⟨hun, o, ho, hdep⟩ := mem_ready.1 hi
  have ho' : l[i]? = some o := by simpa using ho
  have hin : i < l.toArray.size := (Array.getElem?_eq_some_iff.1 ho).1
  by_cases hip : i ∈ pre
  · have hag := inv.agrees hk hin ho' hdep
    have hsel : ∀ cs bb, o.op ≠ .select cs bb := fun cs bb => Region.noSelect_spec hk.ns i o cs bb ho
    have himf : i ∉ mk := fun hm => by have := inv.imp i hm; rw [getD_both hun] at this; cases this
    obtain ⟨o2, ho2, h2⟩ := okS_spec (hk.ok i hin)
    obtain rfl : o = o2 := Option.some.inj (ho.symm.trans ho2)
    have hne : ∀ (k : Nat) (ok : Oper), k < l.toArray.size → l[k]? = some ok → k ≠ i → ∀ d, ok.dst = some d → o.dst ≠ some d := fun k ok hkn hok hki d hd => (h2 k ok hkn (by simpa using hok) d hd).1 hki
    obtain ⟨v, hg, hA⟩ := inv.ev i o hip ho' himf
    have hg' := hg.of_same hag hsel (List.Sublist.refl _)
    have fin : ∃ pre mk pl A M S, PInv P l w0 X R Qf pre mk pl A M S (listed.setIfInBounds i true) (b.put o.dst v) w := by
      refine ⟨pre, mk, pl, A, M, S, inv.hi.set hi hin, inv.still, inv.cl, inv.ck, inv.dt, inv.sub, fun k hkm => getD_set_true (inv.imp k hkm), fun k hkn hkl => ?_, by rw [put_size]; exact inv.size, by rw [put_defers]; exact inv.defers, inv.rep, fun t ht => ?_, fun k ok hkp hok hkl d hd => ?_, inv.ev⟩
      · by_cases hki : k = i
        · subst hki; exact hip
        · exact inv.done k hkn (getD_set_self hkl (Ne.symm hki))
      · rw [put_getElem? b o.dst v t (ht i o hin ho')]; exact inv.un t ht
      · by_cases hki : k = i
        · subst hki
          obtain rfl : ok = o := Option.some.inj (hok.symm.trans ho')
          rw [hd, put_same, hA d hd, inv.size]
        · rw [put_getElem? b o.dst v d (hne k ok (inv.cl.1 k hkp) hok hki d hd)]
          exact inv.got k ok hkp hok (getD_set_self hkl (Ne.symm hki)) d hd
    unfold wpOp
    simp only [ho]
    rcases hg' with ⟨hw, hv⟩ | ⟨hw, rfl⟩
    · simp only [hw, if_true]
      refine .inl ?_
      unfold Oper.wp
      have hrep : Rep w0 X R S w := inv.rep.sub (List.sublist_append_right _ _)
      rw [hv w hrep]
      exact fin
    · simp only [hw, Bool.false_eq_true, if_false]
      exact fin
  · have hdi : depsIn l.toArray pre i = true := depsIn_of ho fun e he hb => by
      have hl := hdep e he hb
      have hlt : e.on < l.toArray.size := by
        rcases Nat.lt_or_ge e.on listed.size with h | h
        · rw [← inv.hi.size]; exact h
        · simp [Array.getD, Nat.not_lt.2 h] at hl
      exact inv.done e.on hlt hl
    have hwait : ∀ c, waitsP l.toArray pre c = true → i ∈ c := fun c hc => by
      have := List.all_eq_true.1 hc i (List.mem_range.2 hin)
      simpa [hip, hdi] using this
    have hck := inv.ck
    have hdt := inv.dt
    cases pl with
    | done =>
      have := List.all_eq_true.1 hck i (List.mem_range.2 hin)
      exact absurd (by simpa using this) hip
    | rd j t => exact absurd inv.still (by simp [Plan.still])
    | m1 j t =>
      simp only [chkP, Bool.and_eq_true] at hck
      obtain rfl : i = j := by simpa using hwait _ hck.1.1
      exact inv.maker hk hi hck.1.2 hck.2 hdt
    | m2 j t q u =>
      simp only [chkP, Bool.and_eq_true] at hck
      have hm := hwait _ hck.1.1.1.1
      rcases List.mem_cons.1 hm with rfl | hm
      · exact inv.maker hk hi hck.1.1.1.2 hck.1.1.2 hdt.1
      · obtain rfl : i = q := by simpa using hm
        exact inv.maker hk hi hck.1.2 hck.2 hdt.2
end
end
attribute [irreducible] DT MSt
end Go.Proofs.YtohpjdeohpamaaaGreatDoor
namespace Go.Proofs.YtohpjdeohpamaaaGreatDoor
open Go.RowKit
attribute [local semireducible] DC DT MSt
section
variable {P : Program} {l : List Oper} {w0 : World} {X : Fr} {R : List Win} {Qf : Act → List OB → Prop} {i j : Nat} {t u : Plan} {a a' : Act} {S M : List OB} {o : Oper} {next : Act → List OB → List OB → Prop}
end
theorem DT.mono {P : Program} {l : List Oper} {w0 : World} {X : Fr} {R : List Win} {Q Q' : Act → List OB → Prop} (hQ : ∀ A S, Q A S → Q' A S) : ∀ (pl : Plan) (a : Act) (M S : List OB), DT P l.toArray w0 X R Q pl a M S → DT P l.toArray w0 X R Q' pl a M S := by
  have ms : ∀ (next next' : Act → List OB → List OB → Prop) (i : Nat) (a : Act) (M S : List OB), (∀ a M S, next a M S → next' a M S) → MSt P l.toArray w0 X R i a M S next → MSt P l.toArray w0 X R i a M S next' := by
    intro next next' i a M S hn ⟨o, ho, h⟩
    refine ⟨o, ho, ?_⟩
    split
    · rename_i hw
      rw [if_pos hw] at h
      intro w hR
      have h := h w hR
      revert h
      unfold MUp
      generalize (execOp a.eval o).run P w = r
      intro h
      cases r with
      | ok n w' =>
        cases n with
        | value v => obtain ⟨M', S', h1, h2, h3⟩ := h; exact ⟨M', S', h1, h2, hn _ _ _ h3⟩
        | skip => obtain ⟨M', S', h1, h2, h3⟩ := h; exact ⟨M', S', h1, h2, hn _ _ _ h3⟩
        | enter f args => exact ⟨h.1, h.2.mono fun e w'' ⟨v, M', S', he, h1, h2, h3⟩ => ⟨v, M', S', he, h1, h2, hn _ _ _ h3⟩⟩
        | _ => exact h
      | _ => exact h
    · rename_i hw
      rw [if_neg hw] at h
      exact hn _ _ _ h
  intro pl
  induction pl with
  | done => intro a M S h; exact hQ _ _ h
  | rd i t ih =>
    intro a M S ⟨o, ho, h⟩
    refine ⟨o, ho, ?_⟩
    split
    · rename_i hw
      rw [if_pos hw] at h
      obtain ⟨v, h1, h2⟩ := h
      exact ⟨v, h1, ih _ _ _ h2⟩
    · rename_i hw
      rw [if_neg hw] at h
      exact ih _ _ _ h
  | m1 i t ih => intro a M S h; exact ms _ _ _ _ _ _ ih h
  | m2 i t j u ih ih' => intro a M S h; exact ⟨ms _ _ _ _ _ _ ih h.1, ms _ _ _ _ _ _ ih' h.2⟩
section
variable {P : Program} {l : List Oper} {w0 w : World} {X : Fr} {R : List Win} {S : List OB} {Q : Exit → Act → World → Prop} {id : Nat} {a : Act}
end
end Go.Proofs.YtohpjdeohpamaaaGreatDoor
namespace Go.Proofs.YtohpjdeohpamaaaGreatDoor
open Go.RowKit
section
variable {P : Program} {o : Oper} {w0 w : World} {X : Fr} {R : List Win} {S : List OB} {a : Act} {a0 : Act} {T T' : TypeId} {x y : Operand} {b off n : Nat} {c : List Value} {ag : Bool}
def MemS (P : Program) (w0 : World) (X : Fr) (R : List Win) (o : Oper) (a : Act) (S : List OB) (a' : Nat → Act) (S' : Nat → List OB) : Prop :=
  ∀ (ops : Array Oper) (Q : Exit → Act → World → Prop) (rest : List Oper) (w : World), Rep w0 X R S w → (∀ w' B, Rep w0 X R (S' B) w' → wpList P ops Q rest (a' B) w') → wpList P ops Q (o :: rest) a w
theorem mem_box {d : Tmp} {l : List Value} {a' : Nat → Act} (hop : o.op = .box T x) (hd : o.dst = some d) (hg : o.guard = none) (hv : (a.eval x).cells = l.toArray) (ha : ∀ B, a.put (some d) (.pointer (some ⟨B, 0, none⟩)) = a' B) : MemS P w0 X R o a S a' (fun B => ⟨B, T, l⟩ :: S) :=
  fun _ _ _ _ hR h => wpList_box hR hop hd hg hv fun w' B hR' => ⟨_, ha B, h w' B hR'⟩
theorem mem_alloc {d : Tmp} {l : List Value} {a' : Nat → Act} (hop : o.op = .alloc T) (hd : o.dst = some d) (hg : o.guard = none) (hz : ZeroIs P T l) (ha : ∀ B, a.put (some d) (.pointer (some ⟨B, 0, none⟩)) = a' B) : MemS P w0 X R o a S a' (fun B => ⟨B, T, l⟩ :: S) :=
  fun _ _ _ _ hR h => wpList_alloc hR hop hd hg hz fun w' B hR' => ⟨_, ha B, h w' B hR'⟩
theorem mem_bs {t E : TypeId} {z bytes len : Nat} {parts : Array (Nat × Operand)} {d : Tmp} {l : List Value} {a' : Nat → Act} (hop : o.op = .buildSlice t len parts) (hd : o.dst = some d) (hg : o.guard = none) (hS : Sl P t E z bytes)
    (hp : (inRow z 0 (parts.toList.map fun p => (p.1, a.eval p.2)) && (parts.size == len) && decide (parts.size * z ≤ 16777216)) = true) (hl : flat (parts.toList.map fun p => (p.1, a.eval p.2)) = l) (ha : ∀ B, a.put (some d) (.slice (some ⟨B, 0, none⟩) len len) = a' B) : MemS P w0 X R o a S a' (fun B => ⟨B, E, l⟩ :: S) :=
  fun _ _ _ _ hR h => wpList_bs hR hop hd hg hS hp hl fun w' B hR' => ⟨_, ha B, h w' B hR'⟩
theorem mem_st {vs c' : List Value} {F : List Value → List OB} (hop : o.op = .store T x y) (hd : o.dst = none) (hg : o.guard = none) (hx : a.eval x = .pointer (some ⟨b, off, none⟩)) (hv : (a.eval y).cells = vs.toArray) (hA : UpI S b T' c F) (hT : Ty P T n ag) (hc : stL off vs c = c')
    (hl : (decide (off + n ≤ c.length) && (vs.length == n) && vs.all Value.oneCell') = true) : MemS P w0 X R o a S (fun _ => a) (fun _ => F c') :=
  fun _ _ _ _ hR h => wpList_st hR hop hd hg hx hv hA.at hT hc (hA.out c') hl fun w' hR' => h w' 0 hR'
def LdS (P : Program) (w0 : World) (X : Fr) (R : List Win) (o : Oper) (a : Act) (S : List OB) (a0 : Act) : Prop :=
  ∀ (ops : Array Oper) (Q : Exit → Act → World → Prop) (rest : List Oper) (w : World), Rep w0 X R S w → wpList P ops Q rest a0 w → wpList P ops Q (o :: rest) a w
theorem lds_ld {F : List Value → List OB} (hop : o.op = .load T x) (hg : o.guard = none) (hx : a.eval x = .pointer (some ⟨b, off, none⟩)) (hA : UpI S b T' c F) (hT : Ty P T n ag) (hl : (decide (off + n ≤ c.length) && (ag || n == 1)) = true) (ha : a.put o.dst (ldV ag n off c) = a0) :
    LdS P w0 X R o a S a0 := fun _ _ _ _ hR h => wpList_ld hR hop hg hx hA.at hT hl ha h
class WinI (R : List Win) (b off : Nat) (j : outParam Nat) (vs : outParam (List Value)) : Prop where
  out : ∃ o, (⟨b, o, vs⟩ : Win) ∈ R ∧ off = o + j
instance (priority := low) WinI.there {x : Win} {R : List Win} {b off j : Nat} {vs : List Value} [h : WinI R b off j vs] : WinI (x :: R) b off j vs := by
  obtain ⟨o, h1, h2⟩ := h.out
  exact ⟨o, List.mem_cons_of_mem _ h1, h2⟩
instance (priority := low) WinI.skip {l R : List Win} {b off j : Nat} {vs : List Value} [h : WinI R b off j vs] : WinI (l ++ R) b off j vs := by
  obtain ⟨o, h1, h2⟩ := h.out
  exact ⟨o, List.mem_append_right _ h1, h2⟩
instance WinI.at {b o j : Nat} {vs : List Value} {R : List Win} : WinI (⟨b, o, vs⟩ :: R) b (o + j) j vs := ⟨o, List.mem_cons_self, rfl⟩
instance WinI.here {b o : Nat} {vs : List Value} {R : List Win} : WinI (⟨b, o, vs⟩ :: R) b o 0 vs := ⟨o, List.mem_cons_self, rfl⟩
theorem run_ldw {j : Nat} {vs : List Value} (hR : Rep w0 X R S w) (hT : Ty P T n ag) (hW : WinI R b off j vs) (hl : j + n ≤ vs.length) (h1 : ag = false → n = 1) : (loadVar T ⟨b, off, none⟩).run P w = .ok (ldV ag n j vs) w := by
  obtain ⟨o, hm, rfl⟩ := hW.out
  obtain ⟨g1, g2, g3⟩ := hR.win _ hm
  have hc : ∀ i v, vs[i]? = some v → w.cell? ⟨b, o + i, none⟩ = some v := fun i v hv => by rw [hR.kp.cell (p := ⟨b, o + i, none⟩) g1 g2]; exact g3 i v hv
  unfold loadVar
  rw [Sem.run_bind, run_agg hT]
  cases ag with
  | true =>
    have := run_loadCells_list (P := P) w ⟨b, o + j, none⟩ ((vs.drop j).take n) fun i v hv => by
      rw [addr_add, Nat.add_assoc]
      refine hc _ _ ?_
      rw [List.getElem?_take] at hv
      split at hv
      · simpa using hv
      · cases hv
    rw [List.length_take, List.length_drop, Nat.min_eq_left (by omega)] at this
    simp [run_size hT, this, ldV]
  | false =>
    have hn := h1 rfl
    have h := hc j (vs[j]'(by omega)) (List.getElem?_eq_getElem _)
    simp [ldV, load, Sem.run, h, List.getD, List.getElem?_eq_getElem (show j < vs.length by omega)]
theorem lds_win {j : Nat} {vs : List Value} (hop : o.op = .load T x) (hg : o.guard = none) (hx : a.eval x = .pointer (some ⟨b, off, none⟩)) (hW : WinI R b off j vs) (hT : Ty P T n ag) (hl : (decide (j + n ≤ vs.length) && (ag || n == 1)) = true) (ha : a.put o.dst (ldV ag n j vs) = a0) :
    LdS P w0 X R o a S a0 := fun ops Q rest w hR h => by
  simp only [Bool.and_eq_true, decide_eq_true_eq, Bool.or_eq_true, beq_iff_eq] at hl
  have hr := run_ldw (P := P) hR hT hW hl.1 (fun e => hl.2.resolve_left (by simp [e]))
  refine BigFrame.wpList_want (by simp [Region.wanted, hg]) fun K hK => ?_
  unfold Oper.wp execOp
  rw [hop]
  simp only [hx, Instr.loadAt, Instr.sureAddr, Sem.run_bind, Sem.run_pure, Result.andThen_ok, hr, Oper.upon]
  subst ha
  exact hK _ _ h
theorem wl_ld {ops : Array Oper} {Q : Exit → Act → World → Prop} {rest : List Oper} (hR : Rep w0 X R S w) (h : wpList P ops Q rest a0 w)
    (hm : LdS P w0 X R o a S a0 := by
      first
        | exact lds_ld rfl rfl rfl (by exact inferInstance) (by exact inferInstance) (by exact rfl) (by simp only [Act.put, List.setIfInBounds_toArray, List.set_cons_zero, List.set_cons_succ, ldV, List.drop_succ_cons, List.drop_zero, List.take_succ_cons, List.take_zero, List.getD_cons_zero, List.getD_cons_succ]; exact rfl)
        | exact lds_win rfl rfl rfl (by exact inferInstance) (by exact inferInstance) (by exact rfl) (by simp only [Act.put, List.setIfInBounds_toArray, List.set_cons_zero, List.set_cons_succ, ldV, List.drop_succ_cons, List.drop_zero, List.take_succ_cons, List.take_zero, List.getD_cons_zero, List.getD_cons_succ]; exact rfl)) : wpList P ops Q (o :: rest) a w := hm ops Q rest w hR h
theorem wl_st {ops : Array Oper} {Q : Exit → Act → World → Prop} {rest : List Oper} {S' : List OB} (hR : Rep w0 X R S w) (h : ∀ w', Rep w0 X R S' w' → wpList P ops Q rest a w')
    (hm : MemS P w0 X R o a S (fun _ => a) (fun _ => S') := by exact mem_st rfl rfl rfl rfl rfl (by exact inferInstance) (by exact inferInstance) (by simp only [stL]; exact rfl) (by exact rfl)) : wpList P ops Q (o :: rest) a w := hm ops Q rest w hR fun w' _ hR' => h w' hR'
theorem wl_mem {ops : Array Oper} {Q : Exit → Act → World → Prop} {rest : List Oper} {a' : Nat → Act} {S' : Nat → List OB} (hR : Rep w0 X R S w) (h : ∀ w' B, Rep w0 X R (S' B) w' → wpList P ops Q rest (a' B) w')
    (hm : MemS P w0 X R o a S a' S' := by
      first
        | exact mem_box rfl rfl rfl rfl (by intro B; simp only [Act.put, List.setIfInBounds_toArray, List.set_cons_zero, List.set_cons_succ]; exact rfl)
        | exact mem_alloc rfl rfl rfl (by exact ZeroI.out) (by intro B; simp only [Act.put, List.setIfInBounds_toArray, List.set_cons_zero, List.set_cons_succ]; exact rfl)
        | exact mem_bs rfl rfl rfl (by exact inferInstance) (by exact rfl) (by simp only [List.map_cons, List.map_nil, flat, eval_tmp, eval_con, List.getD_cons_succ, List.getD_cons_zero, cells_agg, cells_bool, cells_int, cells_str, cells_sl, cells_ptr, cells_map, cells_fn, List.cons_append, List.nil_append, List.append_nil]; exact rfl) (by intro B; simp only [Act.put, List.setIfInBounds_toArray, List.set_cons_zero, List.set_cons_succ]; exact rfl)) : wpList P ops Q (o :: rest) a w := hm ops Q rest w hR h
def DS (P : Program) (L : Array Oper) (w0 : World) (X : Fr) (R : List Win) (im : List Nat) (i : Nat) (a : Act) (S : List OB) (a' : Nat → Act) (S' : Nat → List OB) : Prop :=
  ∀ (Qf : Act → List OB → Prop) (r : List Nat), (∀ B, DC P L w0 X R im Qf r (a' B) (S' B)) → DC P L w0 X R im Qf (i :: r) a S
variable {l : List Oper} {im : List Nat} {i : Nat} {v : Value}
theorem ds_skip (ho : nth l i = some o) (hw : Region.wanted o (yielded l.toArray a.tmps) = false) (ha : a.put o.dst undef = a0) : DS P l.toArray w0 X R im i a S (fun _ => a0) (fun _ => S) := fun _ _ h => dc_skip ho hw ha (h 0)
theorem ds_move (ho : nth l i = some o) (hi : im.contains i = false) (hw : Region.wanted o (yielded l.toArray a.tmps) = true) (hop : o.op = .move x) (ha : a.put o.dst (a.eval x) = a0) : DS P l.toArray w0 X R im i a S (fun _ => a0) (fun _ => S) := fun _ _ h => dc_move ho hi hw hop ha (h 0)
theorem ds_assign (ho : nth l i = some o) (hi : im.contains i = false) (hw : Region.wanted o (yielded l.toArray a.tmps) = true) (hop : o.op = .assign x) (ha : a.put o.dst (a.eval x) = a0) : DS P l.toArray w0 X R im i a S (fun _ => a0) (fun _ => S) := fun _ _ h => dc_assign ho hi hw hop ha (h 0)
theorem ds_ld {F : List Value → List OB} (ho : nth l i = some o) (hi : im.contains i = false) (hw : Region.wanted o (yielded l.toArray a.tmps) = true) (hop : o.op = .load T x) (hx : a.eval x = .pointer (some ⟨b, off, none⟩)) (hA : UpI S b T' c F) (hT : Ty P T n ag)
    (hl : (decide (off + n ≤ c.length) && (ag || n == 1)) = true) (ha : a.put o.dst (ldV ag n off c) = a0) : DS P l.toArray w0 X R im i a S (fun _ => a0) (fun _ => S) := fun _ _ h => dc_ld ho hi hw hop hx hA.at hT hl ha (h 0)
theorem ds_ldw {j : Nat} {vs : List Value} (ho : nth l i = some o) (hi : im.contains i = false) (hw : Region.wanted o (yielded l.toArray a.tmps) = true) (hop : o.op = .load T x) (hx : a.eval x = .pointer (some ⟨b, off, none⟩)) (hW : WinI R b off j vs) (hT : Ty P T n ag)
    (hl : (decide (j + n ≤ vs.length) && (ag || n == 1)) = true) (ha : a.put o.dst (ldV ag n j vs) = a0) : DS P l.toArray w0 X R im i a S (fun _ => a0) (fun _ => S) := fun _ _ h => by
  simp only [Bool.and_eq_true, decide_eq_true_eq, Bool.or_eq_true, beq_iff_eq] at hl
  refine dc_read ho hi hw (fun w hR => ?_) ha (h 0)
  have hr := run_ldw (P := P) hR hT hW hl.1 (fun e => hl.2.resolve_left (by simp [e]))
  unfold execOp
  rw [hop]
  simp only [hx, Instr.loadAt, Instr.sureAddr, Sem.run_bind, Sem.run_pure, Result.andThen_ok, hr]
theorem ds_box {d : Tmp} {vs : List Value} {a' : Nat → Act} (ho : nth l i = some o) (hi : im.contains i = true) (hw : Region.wanted o (yielded l.toArray a.tmps) = true) (hop : o.op = .box T x) (hd : o.dst = some d) (hv : (a.eval x).cells = vs.toArray)
    (ha : ∀ B, a.put (some d) (.pointer (some ⟨B, 0, none⟩)) = a' B) : DS P l.toArray w0 X R im i a S a' (fun B => ⟨B, T, vs⟩ :: S) := fun _ _ h => dc_box ho hi hw hop hd hv fun B => ⟨_, ha B, h B⟩
theorem ds_alloc {d : Tmp} {vs : List Value} {a' : Nat → Act} (ho : nth l i = some o) (hi : im.contains i = true) (hw : Region.wanted o (yielded l.toArray a.tmps) = true) (hop : o.op = .alloc T) (hd : o.dst = some d) (hz : ZeroIs P T vs)
    (ha : ∀ B, a.put (some d) (.pointer (some ⟨B, 0, none⟩)) = a' B) : DS P l.toArray w0 X R im i a S a' (fun B => ⟨B, T, vs⟩ :: S) := fun _ _ h => dc_alloc ho hi hw hop hd hz fun B => ⟨_, ha B, h B⟩
theorem ds_bs {t E : TypeId} {z bytes len : Nat} {parts : Array (Nat × Operand)} {d : Tmp} {vs : List Value} {a' : Nat → Act} (ho : nth l i = some o) (hi : im.contains i = true) (hw : Region.wanted o (yielded l.toArray a.tmps) = true) (hop : o.op = .buildSlice t len parts) (hd : o.dst = some d) (hS : Sl P t E z bytes)
    (hp : (inRow z 0 (parts.toList.map fun p => (p.1, a.eval p.2)) && (parts.size == len) && decide (parts.size * z ≤ 16777216)) = true) (hl : flat (parts.toList.map fun p => (p.1, a.eval p.2)) = vs) (ha : ∀ B, a.put (some d) (.slice (some ⟨B, 0, none⟩) len len) = a' B) : DS P l.toArray w0 X R im i a S a' (fun B => ⟨B, E, vs⟩ :: S) :=
  fun _ _ h => dc_bs ho hi hw hop hd hS hp hl fun B => ⟨_, ha B, h B⟩
theorem ds_pure (ho : nth l i = some o) (hi : im.contains i = false) (hw : Region.wanted o (yielded l.toArray a.tmps) = true) (hv : ∀ w, (execOp a.eval o).run P w = .ok (.value v) w) (ha : a.put o.dst v = a0) : DS P l.toArray w0 X R im i a S (fun _ => a0) (fun _ => S) := fun _ _ h => dc_pure ho hi hw hv ha (h 0)
theorem ds_facts (ho : nth l i = some o) (hi : im.contains i = false) (hw : Region.wanted o (yielded l.toArray a.tmps) = true) (hv : ∀ w, Facts w R S → (execOp a.eval o).run P w = .ok (.value v) w) (ha : a.put o.dst v = a0) : DS P l.toArray w0 X R im i a S (fun _ => a0) (fun _ => S) := fun _ _ h => dc_facts ho hi hw hv ha (h 0)
theorem dk {Qf : Act → List OB → Prop} {r : List Nat} {a' : Nat → Act} {S' : Nat → List OB} (h : ∀ B, DC P l.toArray w0 X R im Qf r (a' B) (S' B))
    (hs : DS P l.toArray w0 X R im i a S a' S' := by
      first
        | exact ds_skip rfl rfl (by simp only [Act.put, List.setIfInBounds_toArray, List.set_cons_zero, List.set_cons_succ]; exact rfl)
        | exact ds_move rfl rfl rfl rfl (by simp only [Act.put, eval_tmp, eval_con, List.getD_cons_succ, List.getD_cons_zero, List.setIfInBounds_toArray, List.set_cons_zero, List.set_cons_succ]; exact rfl)
        | exact ds_assign rfl rfl rfl rfl (by simp only [Act.put, eval_tmp, eval_con, List.getD_cons_succ, List.getD_cons_zero, List.setIfInBounds_toArray, List.set_cons_zero, List.set_cons_succ]; exact rfl)
        | exact ds_ld rfl rfl rfl rfl rfl (by exact inferInstance) (by exact inferInstance) (by exact rfl) (by simp only [Act.put, List.setIfInBounds_toArray, List.set_cons_zero, List.set_cons_succ, ldV, List.drop_succ_cons, List.drop_zero, List.take_succ_cons, List.take_zero, List.getD_cons_zero, List.getD_cons_succ]; exact rfl)
        | exact ds_ldw rfl rfl rfl rfl rfl (by exact inferInstance) (by exact inferInstance) (by exact rfl) (by simp only [Act.put, List.setIfInBounds_toArray, List.set_cons_zero, List.set_cons_succ, ldV, List.drop_succ_cons, List.drop_zero, List.take_succ_cons, List.take_zero, List.getD_cons_zero, List.getD_cons_succ]; exact rfl)
        | exact ds_box rfl rfl rfl rfl rfl rfl (by intro B; simp only [Act.put, List.setIfInBounds_toArray, List.set_cons_zero, List.set_cons_succ]; exact rfl)
        | exact ds_alloc rfl rfl rfl rfl rfl (by exact ZeroI.out) (by intro B; simp only [Act.put, List.setIfInBounds_toArray, List.set_cons_zero, List.set_cons_succ]; exact rfl)
        | exact ds_bs rfl rfl rfl rfl rfl (by exact inferInstance) (by exact rfl) (by simp only [List.map_cons, List.map_nil, flat, eval_tmp, eval_con, List.getD_cons_succ, List.getD_cons_zero, cells_agg, cells_bool, cells_int, cells_str, cells_sl, cells_ptr, cells_map, cells_fn, List.cons_append, List.nil_append, List.append_nil]; exact rfl) (by intro B; simp only [Act.put, List.setIfInBounds_toArray, List.set_cons_zero, List.set_cons_succ]; exact rfl)
        | exact ds_pure (by exact rfl) (by exact rfl) (by exact rfl) (by intro w; first | (go_simp; exact rfl) | (go_simp; done)) (by simp only [Act.put, List.setIfInBounds_toArray, List.set_cons_zero, List.set_cons_succ]; exact rfl)
        | exact ds_facts (by exact rfl) (by exact rfl) (by exact rfl) (by intro w hF; simp only [Facts, WFacts, facts_app, and_true, Nat.reduceAdd] at hF; (first | (go_simp; done) | (go_simp; exact rfl))) (by simp only [Act.put, List.setIfInBounds_toArray, List.set_cons_zero, List.set_cons_succ]; exact rfl)) : DC P l.toArray w0 X R im Qf (i :: r) a S := hs Qf r h
theorem dn {q : Act → Prop} {d : Option Tmp} {a' : Act} (h : q a') (ha : a.put d v = a' := by simp only [Act.put, List.setIfInBounds_toArray, List.set_cons_zero, List.set_cons_succ]; exact rfl) : ∃ a', a.put d v = a' ∧ q a' := ⟨a', ha, h⟩
section
variable {Qf : Act → List OB → Prop} {r : List Nat} {f : FuncId} {args : Array Value}
theorem dk_call0 (h : ∀ w, Rep w0 X R S w → Calls P f args w fun e w' => ∃ v, e = .returned v ∧ Kp [] w w' ∧ ∃ a', a.put o.dst v = a' ∧ DC P l.toArray w0 X R im Qf r a' S)
    (ho : nth l i = some o := by exact rfl) (hi : im.contains i = true := by exact rfl) (hw : Region.wanted o (yielded l.toArray a.tmps) = true := by exact rfl) (hr : ∀ w, (execOp a.eval o).run P w = .ok (.enter f args) w := by intro w; go_simp; exact ⟨rfl, rfl⟩) : DC P l.toArray w0 X R im Qf (i :: r) a S := dc_call0 ho hi hw hr h
end
class SegI (S sl : List OB) (G : outParam (List OB → List OB)) : Prop where
  out : ∃ pre post, Ctx S sl pre post ∧ ∀ s, G s = pre ++ (s ++ post)
instance (priority := low) SegI.skip {l S sl : List OB} {G : List OB → List OB} [h : SegI S sl G] : SegI (l ++ S) sl (fun s => l ++ G s) := by
  obtain ⟨p, q, h1, h2⟩ := h.out
  exact ⟨l ++ p, q, .skip h1, fun s => by rw [h2]; simp⟩
instance (priority := low) SegI.there {x : OB} {S sl : List OB} {G : List OB → List OB} [h : SegI S sl G] : SegI (x :: S) sl (fun s => x :: G s) := by
  obtain ⟨p, q, h1, h2⟩ := h.out
  exact ⟨x :: p, q, .there h1, fun s => by rw [h2]; simp⟩
instance SegI.one {e : OB} {post : List OB} : SegI (e :: post) [e] (fun s => s ++ post) := ⟨[], post, .one, fun _ => by simp⟩
instance SegI.last {sl : List OB} : SegI sl sl (fun s => s) := ⟨[], [], .last, fun _ => by simp⟩
instance SegI.here {sl post : List OB} : SegI (sl ++ post) sl (fun s => s ++ post) := ⟨[], post, .here, fun _ => by simp⟩
instance SegI.empty {S : List OB} : SegI S [] (fun s => s ++ S) := ⟨[], S, .empty, fun _ => by simp⟩
theorem wl_append {ops : Array Oper} {Q : Exit → Act → World → Prop} {rest : List Oper} {t E : TypeId} {z bytes n m : Nat} {v x : Value} {xs news : List Value} {s y : Operand} {d : Tmp} {sl : List OB} {G : List OB → List OB} {a' : Value → Act}
    (hR : Rep w0 X R S w) (hop : o.op = .call { callee := .builtin .append, args := #[s, y], argTypes := #[t, t] }) (hd : o.dst = some d) (hg : o.guard = none) (hs : a.eval s = v) (hy : a.eval y = x) (ho : OS sl E z v n xs) (hx : Rd w z x m news) (h : ∀ v' sl' w', OS sl' E z v' (n + m) (xs ++ news) → Rep w0 X R (G sl') w' → wpList P ops Q rest (a' v') w')
    [hS : Sl P t E z bytes] [hC : SegI S sl G]
    (h1 : news.all Value.oneCell' = true := by exact rfl) (hb : (n + m) * bytes ≤ 140737488355328 := by omega) (hm : n + m ≤ 9223372036854775807 := by omega) (ha : ∀ v', a.put (some d) v' = a' v' := by intro v; simp only [Act.put, List.setIfInBounds_toArray, List.set_cons_zero, List.set_cons_succ]; exact rfl) : wpList P ops Q (o :: rest) a w := by
  obtain ⟨p, q, h2, h3⟩ := hC.out
  exact wpList_append hR hop hd hg hs hy hS ho h2 hx h1 hb hm fun v' sl' w' hO hR' => ⟨_, ha v', h v' sl' w' hO (by rw [h3]; exact hR')⟩
end
end Go.Proofs.YtohpjdeohpamaaaGreatDoor
