/-
  Lists in memory, whatever their elements: cells of elements one after the other; loads, stores, clear and copy at own slices, at any index.
-/
import Derived.Test.YtddjhemncniidaaDoorK10
namespace Go.Proofs.YtddjhemncniidaaDoor
set_option linter.unusedSimpArgs false
set_option linter.unusedVariables false
open Go.RowKit
section
variable {α : Type} {enc : α → List Value} {z : Nat}
/-- The cells of a list. -/
def fl (enc : α → List Value) (l : List α) : List Value := l.flatMap enc
theorem fl_nil : fl enc [] = [] := rfl
theorem fl_cons (x : α) (l : List α) : fl enc (x :: l) = enc x ++ fl enc l := rfl
theorem fl_append (a b : List α) : fl enc (a ++ b) = fl enc a ++ fl enc b := by simp [fl]
theorem fl_one (x : α) : fl enc [x] = enc x := by simp [fl]
theorem fl_length (hz : ∀ x, (enc x).length = z) : ∀ l : List α, (fl enc l).length = l.length * z
  | [] => by simp [fl]
  | x :: l => by rw [fl_cons, List.length_append, fl_length hz l, hz, List.length_cons, Nat.add_mul]; omega
theorem fl_drop (hz : ∀ x, (enc x).length = z) : ∀ (l : List α) (n : Nat), (fl enc l).drop (n * z) = fl enc (l.drop n)
  | [], n => by simp [fl]
  | x :: l, 0 => by simp
  | x :: l, n + 1 => by
    rw [fl_cons, List.drop_succ_cons, ← fl_drop hz l n, List.drop_append, hz, List.drop_eq_nil_of_le (by rw [hz, Nat.add_mul]; omega), List.nil_append]
    congr 1; rw [Nat.add_mul]; omega
theorem fl_take (hz : ∀ x, (enc x).length = z) : ∀ (l : List α) (n : Nat), (fl enc l).take (n * z) = fl enc (l.take n)
  | [], n => by simp [fl]
  | x :: l, 0 => by simp [fl]
  | x :: l, n + 1 => by
    rw [fl_cons, List.take_succ_cons, fl_cons, ← fl_take hz l n, List.take_append, hz, List.take_of_length_le (by rw [hz, Nat.add_mul]; omega)]
    congr 2; rw [Nat.add_mul]; omega
theorem fl_part (hz : ∀ x, (enc x).length = z) {l : List α} {k : Nat} {r : α} (h : l[k]? = some r) (i m : Nat) (him : i + m ≤ z) : ((fl enc l).drop (k * z + i)).take m = ((enc r).drop i).take m := by
  obtain ⟨h1, h2⟩ := List.getElem?_eq_some_iff.1 h
  rw [← List.drop_drop, fl_drop hz, List.drop_eq_getElem_cons h1, h2, fl_cons, List.drop_append_of_le_length (by rw [hz]; omega), List.take_append_of_le_length (by rw [List.length_drop, hz]; omega)]
theorem fl_elem (hz : ∀ x, (enc x).length = z) {l : List α} {k : Nat} {r : α} (h : l[k]? = some r) : ((fl enc l).drop (k * z)).take z = enc r := by
  have := fl_part hz h 0 z (by omega)
  rw [Nat.add_zero, List.drop_zero, List.take_of_length_le (Nat.le_of_eq (hz r))] at this; exact this
theorem fl_get (hz : ∀ x, (enc x).length = z) {l : List α} {k : Nat} {r : α} (h : l[k]? = some r) {j : Nat} {u : Value} (hj : (enc r)[j]? = some u) : (fl enc l)[k * z + j]? = some u := by
  have hjz : j < z := by rw [← hz r]; exact (List.getElem?_eq_some_iff.1 hj).1
  have h1 := fl_elem hz h
  rw [← h1, List.getElem?_take_of_lt hjz, List.getElem?_drop] at hj; exact hj
theorem fl_all {p : Value → Bool} (h : ∀ x, (enc x).all p = true) (l : List α) : (fl enc l).all p = true := by
  simp only [fl, List.all_flatMap]; exact List.all_eq_true.2 fun x _ => h x
theorem stL_skip : ∀ (p c : List Value) (o : Nat) (vs : List Value), o + vs.length ≤ c.length → stL (p.length + o) vs (p ++ c) = p ++ stL o vs c
  | [], c, o, vs, _ => by simp
  | x :: p, c, o, vs, h => by
    rw [List.cons_append, List.length_cons, show p.length + 1 + o = (p.length + o) + 1 by omega, stL_cons _ _ _ _ (by rw [List.length_append]; omega), stL_skip p c o vs h, List.cons_append]
theorem fl_set (hz : ∀ x, (enc x).length = z) : ∀ {l : List α} {k : Nat} {r r' : α} (_ : l[k]? = some r) (i : Nat) (vs : List Value) (_ : i + vs.length ≤ z) (_ : stL i vs (enc r) = enc r'), stL (k * z + i) vs (fl enc l) = fl enc (l.set k r')
  | x :: l, 0, r, r', h, i, vs, hi, hr => by
    obtain rfl : x = r := by simpa using h
    rw [fl_cons, Nat.zero_mul, Nat.zero_add, stL_app (by rw [hz]; exact hi), hr, List.set_cons_zero, fl_cons]
  | x :: l, k + 1, r, r', h, i, vs, hi, hr => by
    have h' : l[k]? = some r := by simpa using h
    have hk := (List.getElem?_eq_some_iff.1 h').1
    have hlen : k * z + i + vs.length ≤ (fl enc l).length := by
      rw [fl_length hz]; have := Nat.mul_le_mul_right z (show k + 1 ≤ l.length from hk); rw [Nat.add_mul] at this; omega
    rw [fl_cons, List.set_cons_succ, fl_cons, ← fl_set hz h' i vs hi hr, ← stL_skip (enc x) (fl enc l) (k * z + i) vs hlen]
    congr 1; rw [hz, Nat.add_mul]; omega
theorem fl_store (hz : ∀ x, (enc x).length = z) {l : List α} {k : Nat} (h : k < l.length) (r' : α) : stL (k * z) (enc r') (fl enc l) = fl enc (l.set k r') := by
  have := fl_set hz (List.getElem?_eq_getElem h) 0 (enc r') (by rw [hz]; omega) (r' := r') (by rw [stL_eq _ _ _ (by rw [hz, hz]; omega)]; simp [hz])
  simpa using this
/-- A slice of a list's elements, k-th element: a window. -/
theorem Rw.elem (hz : ∀ x, (enc x).length = z) {w0 w : World} {X : Fr} {R : List Win} {S : List OB} {p : Option Addr} {n c k : Nat} {l : List α} {r : α} (h : Rw w0 X z (.slice p n c) n (fl enc l)) (hz0 : 0 < z) (hk : l[k]? = some r) (hR : Rep w0 X R S w) :
    ∃ b o : Nat, p = some ⟨b, o, none⟩ ∧ Rep w0 X (⟨b, o + k * z, enc r⟩ :: R) S w := by
  obtain ⟨p', c', e, h1, h2⟩ := h.ex
  simp only [Value.slice.injEq] at e
  obtain ⟨rfl, -, rfl⟩ := e
  have hl := h.len
  rw [fl_length hz] at hl
  have hkl := (List.getElem?_eq_some_iff.1 hk).1
  have hln : l.length = n := Nat.eq_of_mul_eq_mul_right hz0 hl
  rcases h2 with rfl | ⟨b, o, rfl, hb, hx, hc⟩
  · omega
  · exact ⟨b, o, rfl, hR.addwin b (o + k * z) (enc r) hb hx fun j u hj => by rw [Nat.add_assoc]; exact hc _ _ (fl_get hz hk hj)⟩
theorem Rw.count (hz : ∀ x, (enc x).length = z) (hz0 : 0 < z) {w0 : World} {X : Fr} {v : Value} {n : Nat} {l : List α} (h : Rw w0 X z v n (fl enc l)) : l.length = n := by
  have := h.len; rw [fl_length hz] at this; exact Nat.eq_of_mul_eq_mul_right hz0 this
theorem Rd.count (hz : ∀ x, (enc x).length = z) (hz0 : 0 < z) {w0 : World} {v : Value} {n : Nat} {l : List α} (h : Rd w0 z v n (fl enc l)) : l.length = n := by
  have := h.len; rw [fl_length hz] at this; exact Nat.eq_of_mul_eq_mul_right hz0 this
end
theorem rvz (r : Rng) : r.vals.length = 4 := rfl
theorem rvals_fl (l : List Rng) : rvals l = fl Rng.vals l := rfl

/-- The shorter beginning of an own slice. -/
theorem OS.head {sl : List OB} {E : TypeId} {z n i cap : Nat} {p : Option Addr} {xs : List Value} (h : OS sl E z (.slice p n cap) n xs) (hi : i ≤ n) : OS sl E z (.slice p i cap) i (xs.take (i * z)) := by
  have hl := h.1
  have hm := Nat.mul_le_mul_right z hi
  refine ⟨by rw [List.length_take]; omega, ?_⟩
  rcases h.2 with ⟨h1, h2, h3⟩ | ⟨g, cap', sp, h1, h2, h3, h4, h5⟩
  · simp only [Value.slice.injEq] at h2
    obtain ⟨rfl, h2, rfl⟩ := h2
    subst h3
    obtain rfl : i = 0 := by omega
    exact .inl ⟨h1, rfl, rfl⟩
  · simp only [Value.slice.injEq] at h2
    obtain ⟨rfl, h2, rfl⟩ := h2
    refine .inr ⟨g, cap, xs.drop (i * z) ++ sp, by rw [h1, ← List.append_assoc, List.take_append_drop], rfl, by omega, h4, by rw [← List.append_assoc, List.take_append_drop]; exact h5⟩

/-- What a load reads of an own slice. -/
def ldW (ag : Bool) (vs : List Value) : Value := if ag then .agg vs.toArray else vs.headD undef
section
variable {P : Program} {w : World}
theorem run_ld_os {w0 : World} {X : Fr} {R : List Win} {S sl pre post : List OB} {T E : TypeId} {z n m off g cap : Nat} {ag : Bool} {xs vs : List Value} (hR : Rep w0 X R S w) (hO : OS sl E z (.slice (some ⟨g, 0, none⟩) n cap) n xs) (hC : Ctx S sl pre post)
    (hT : Ty P T m ag) (hag : (ag || m == 1) = true) (hl : off + m ≤ xs.length) (hv : (xs.drop off).take m = vs) : (loadVar T ⟨g, off, none⟩).run P w = .ok (ldW ag vs) w := by
  rcases hO.2 with ⟨-, e, -⟩ | ⟨g', cap', sp, rfl, e, h2, h3, h4⟩
  · simp at e
  · simp only [Value.slice.injEq, Option.some.injEq, Addr.mk.injEq, and_true, true_and] at e
    obtain ⟨rfl, rfl⟩ := e
    have hm : (⟨g, E, xs ++ sp⟩ : OB) ∈ S := (sub_ctx hC).subset List.mem_cons_self
    simp only [Bool.or_eq_true, beq_iff_eq] at hag
    have hr' := run_ld (w := w) hT (hR.cells hm) (off := off) (by simp only [List.length_append]; omega) (fun e => hag.resolve_left (by simp [e]))
    rw [hr']
    have hv' : ((xs ++ sp).drop off).take m = vs := by
      rw [List.drop_append_of_le_length (by omega), List.take_append_of_le_length (by rw [List.length_drop]; omega)]; exact hv
    congr 1
    cases ag with
    | true => simp only [ldV, ldW, if_true, hv']
    | false =>
      obtain rfl : m = 1 := hag.resolve_left (by simp)
      simp only [ldV, ldW, Bool.false_eq_true, if_false, ← hv']
      rw [List.headD_eq_head?_getD, List.head?_take, if_neg (by omega), List.head?_drop, List.getD_eq_getElem?_getD]
theorem wpList_ld_os {ops : Array Oper} {Q : Exit → Act → World → Prop} {a a' : Act} {rest : List Oper} {o : Oper} {w0 : World} {X : Fr} {R : List Win} {S sl pre post : List OB} {T E : TypeId} {z n m off g cap : Nat} {ag : Bool} {x : Operand} {xs vs : List Value}
    (hR : Rep w0 X R S w) (hop : o.op = .load T x) (hg : o.guard = none) (hO : OS sl E z (.slice (some ⟨g, 0, none⟩) n cap) n xs) (hC : Ctx S sl pre post) (hx : a.eval x = .pointer (some ⟨g, off, none⟩)) (hT : Ty P T m ag) (hag : (ag || m == 1) = true)
    (hl : off + m ≤ xs.length) (hv : (xs.drop off).take m = vs) (ha : a.put o.dst (ldW ag vs) = a') (h : wpList P ops Q rest a' w) : wpList P ops Q (o :: rest) a w := by
  have hr := run_ld_os hR hO hC hT hag hl hv
  refine BigFrame.wpList_want (by simp [Region.wanted, hg]) fun K hK => ?_
  unfold Oper.wp execOp
  rw [hop]
  simp only [hx, Instr.loadAt, Instr.sureAddr, Sem.run_bind, Sem.run_pure, Result.andThen_ok, hr, Oper.upon]
  subst ha
  exact hK _ _ h
theorem dc_ld_own {L : List Oper} {w0 : World} {X : Fr} {R : List Win} {im : List Nat} {Qf : Act → List OB → Prop} {i : Nat} {rr : List Nat} {a a' : Act} {S sl pre post : List OB} {o : Oper} {T E : TypeId} {x : Operand} {z n m off g cap : Nat} {ag : Bool} {xs vs : List Value}
    (ho : nth L i = some o) (hi : im.contains i = false) (hw : Region.wanted o (yielded L.toArray a.tmps) = true) (hop : o.op = .load T x) (hO : OS sl E z (.slice (some ⟨g, 0, none⟩) n cap) n xs) (hC : Ctx S sl pre post) (hx : a.eval x = .pointer (some ⟨g, off, none⟩)) (hT : Ty P T m ag) (hag : (ag || m == 1) = true)
    (hl : off + m ≤ xs.length) (hv : (xs.drop off).take m = vs) (ha : a.put o.dst (ldW ag vs) = a') (h : DC P L.toArray w0 X R im Qf rr a' S) : DC P L.toArray w0 X R im Qf (i :: rr) a S := by
  refine dc_read ho hi hw (fun w hR => ?_) ha h
  have hr := run_ld_os hR hO hC hT hag hl hv
  unfold execOp
  rw [hop]
  simp only [hx, Instr.loadAt, Instr.sureAddr, Sem.run_bind, Sem.run_pure, Result.andThen_ok, hr]

theorem zeroCells_mem {zc : Array Value} {n : Nat} {p : Value → Prop} (h : ∀ v ∈ zc, p v) : ∀ v ∈ (Builtin.zeroCells zc n).toList, p v := by
  intro v hv
  simp only [Builtin.zeroCells, Array.toList_map, List.mem_map] at hv
  obtain ⟨i, hi, rfl⟩ := hv
  have hi' : i < n * zc.size := by simpa using hi
  have hs : 0 < zc.size := Nat.pos_of_ne_zero fun h0 => by rw [h0] at hi'; omega
  have hlt := Nat.mod_lt i hs
  rw [getElem!_pos zc (i % zc.size) hlt]
  exact h _ (Array.getElem_mem hlt)
/-- clear at the end of an own slice. -/
theorem run_clear_os {w0 : World} {X : Fr} {R : List Win} {S sl pre post : List OB} {t ty E : TypeId} {z bytes n i m c cap g : Nat} {xs zl : List Value} (hS : Sl P t E z bytes) (hZ : ZeroIs P E zl) (hz1 : zl.all Value.oneCell' = true) (hR : Rep w0 X R S w)
    (hO : OS sl E z (.slice (some ⟨g, 0, none⟩) n cap) n xs) (hC : Ctx S sl pre post) (him : i + m = n) (hm : 0 < m) :
    ∃ sl' w', (Builtin.clear_ #[t] ty #[.slice (some ⟨g, i * z, none⟩) m c]).run P w = .ok (.tuple #[]) w' ∧ OS sl' E z (.slice (some ⟨g, 0, none⟩) i cap) i (xs.take (i * z)) ∧ Rep w0 X R (pre ++ (sl' ++ post)) w' := by
  obtain ⟨inf, zv, hi, hz, rfl, rfl, hzs⟩ := hS.el
  have ht := hS.un
  simp only [ZeroIs, hi, Option.bind_some, hz, Option.map_some, Option.some.injEq] at hZ
  rcases hO.2 with ⟨-, e, -⟩ | ⟨g', cap', sp, rfl, e, h2, h3, h4⟩
  · simp at e
  · simp only [Value.slice.injEq, Option.some.injEq, Addr.mk.injEq, and_true, true_and] at e
    obtain ⟨rfl, rfl⟩ := e
    have e := hC.eq
    subst e
    have hmem : (⟨g, E, xs ++ sp⟩ : OB) ∈ pre ++ ([⟨g, E, xs ++ sp⟩] ++ post) := by simp
    have hzl : (Builtin.zeroCells zv.cells m).toList.length = m * inf.size := by rw [Array.length_toList, size_zeroCells, hzs]
    have hxl := hO.1
    have hnm : n * inf.size = i * inf.size + m * inf.size := by rw [← him, Nat.add_mul]
    have hst := run_storeCells_at P g (i * inf.size) E (Builtin.zeroCells zv.cells m).toList 0 (xs ++ sp).toArray w (hR.own _ hmem) (by rw [hzl]; simp; omega) (zeroCells_mem fun v hv => List.all_eq_true.1 hz1 v (by rw [← hZ]; exact Array.mem_toList_iff.2 hv))
    simp only [Nat.add_zero, hzl] at hst
    have hst2 : stL (i * inf.size) (Builtin.zeroCells zv.cells m).toList (xs ++ sp) = xs.take (i * inf.size) ++ ((Builtin.zeroCells zv.cells m).toList ++ sp) := by
      rw [stL_eq _ _ _ (by rw [hzl]; simp; omega), hzl, List.take_append_of_le_length (by omega), show i * inf.size + m * inf.size = xs.length by omega, List.drop_left, List.append_assoc]
    have hR' := hR.store (c' := stL (i * inf.size) (Builtin.zeroCells zv.cells m).toList (xs ++ sp)) To.mid
    refine ⟨[⟨g, E, xs.take (i * inf.size) ++ ((Builtin.zeroCells zv.cells m).toList ++ sp)⟩], w.setRow g (stL (i * inf.size) (Builtin.zeroCells zv.cells m).toList (xs ++ sp)).toArray, ?_, ⟨by rw [List.length_take]; omega, .inr ⟨g, cap, (Builtin.zeroCells zv.cells m).toList ++ sp, rfl, rfl, by omega, h3, ?_⟩⟩, ?_⟩
    · have hm0 : m ≠ 0 := by omega
      rw [stL_eq _ _ _ (by rw [hzl]; simp; omega), hzl]
      cases m with
      | zero => omega
      | succ m =>
        simp [Builtin.clear_, run_underlying ht, zeroValue, typeInfo, hi, hz, hst]
    · simp only [List.length_append, List.length_take, hzl] at h4 ⊢; omega
    · have e2 : ([⟨g, E, stL (i * inf.size) (Builtin.zeroCells zv.cells m).toList (xs ++ sp)⟩] : List OB) = [⟨g, E, xs.take (i * inf.size) ++ ((Builtin.zeroCells zv.cells m).toList ++ sp)⟩] := by rw [hst2]
      rw [e2] at hR'; exact hR'
theorem wpList_clear_os {ops : Array Oper} {Q : Exit → Act → World → Prop} {a : Act} {rest : List Oper} {o : Oper} {w0 : World} {X : Fr} {R : List Win} {S sl pre post : List OB} {t E : TypeId} {z bytes n i m c cap g : Nat} {xs zl : List Value} {s : Operand}
    (hR : Rep w0 X R S w) (hop : o.op = .call { callee := .builtin .clear, args := #[s], argTypes := #[t] }) (hd : o.dst = none) (hg : o.guard = none) (hs : a.eval s = .slice (some ⟨g, i * z, none⟩) m c) (hS : Sl P t E z bytes) (hZ : ZeroIs P E zl) (hz1 : zl.all Value.oneCell' = true)
    (hO : OS sl E z (.slice (some ⟨g, 0, none⟩) n cap) n xs) (hC : Ctx S sl pre post) (him : i + m = n) (hm : 0 < m)
    (h : ∀ sl' w', OS sl' E z (.slice (some ⟨g, 0, none⟩) i cap) i (xs.take (i * z)) → Rep w0 X R (pre ++ (sl' ++ post)) w' → wpList P ops Q rest a w') : wpList P ops Q (o :: rest) a w := by
  obtain ⟨sl', w', hr, h2, h3⟩ := run_clear_os (P := P) (ty := o.type) (c := c) hS hZ hz1 hR hO hC him hm
  refine BigFrame.wpList_want (by simp [Region.wanted, hg]) fun K hK => ?_
  unfold Oper.wp execOp
  simp only [hop, resolve, invoke, builtin, Sem.run_bind, Sem.run_pure, Result.andThen_ok, List.map_toArray, List.map_cons, List.map_nil, hs, hr, Oper.upon, hd, Act.put]
  exact hK _ _ (h _ _ h2 h3)
/-- copy inside an own slice, one place on: from element i to element i + 1. -/
theorem run_copy_os {w0 : World} {X : Fr} {R : List Win} {S sl pre post : List OB} {t t2 ty E : TypeId} {z bytes n i m c c2 cap g : Nat} {xs : List Value} (hS : Sl P t E z bytes) (hx1 : xs.all Value.oneCell' = true) (hR : Rep w0 X R S w)
    (hO : OS sl E z (.slice (some ⟨g, 0, none⟩) n cap) n xs) (hC : Ctx S sl pre post) (him : i + 1 + m = n) :
    ∃ sl' w', (Builtin.copy_ #[t, t2] ty #[.slice (some ⟨g, (i + 1) * z, none⟩) m c, .slice (some ⟨g, i * z, none⟩) (m + 1) c2]).run P w = .ok (goInt m) w' ∧ OS sl' E z (.slice (some ⟨g, 0, none⟩) n cap) n (xs.take ((i + 1) * z) ++ (xs.drop (i * z)).take (m * z)) ∧ Rep w0 X R (pre ++ (sl' ++ post)) w' := by
  obtain ⟨inf, zv, hi, hz, rfl, rfl, hzs⟩ := hS.el
  have ht := hS.un
  rcases hO.2 with ⟨-, e, -⟩ | ⟨g', cap', sp, rfl, e, h2, h3, h4⟩
  · simp at e
  · simp only [Value.slice.injEq, Option.some.injEq, Addr.mk.injEq, and_true, true_and] at e
    obtain ⟨rfl, rfl⟩ := e
    have e := hC.eq
    subst e
    have hmem : (⟨g, E, xs ++ sp⟩ : OB) ∈ pre ++ ([⟨g, E, xs ++ sp⟩] ++ post) := by simp
    have hxl := hO.1
    have hnm : n * inf.size = (i + 1) * inf.size + m * inf.size := by rw [← him, Nat.add_mul]
    have hi1 : (i + 1) * inf.size = i * inf.size + inf.size := by rw [Nat.add_mul]; omega
    have hcl : ((xs.drop (i * inf.size)).take (m * inf.size)).length = m * inf.size := by rw [List.length_take, List.length_drop]; omega
    have hsrc : ∀ j v, ((xs.drop (i * inf.size)).take (m * inf.size))[j]? = some v → w.cell? ((⟨g, i * inf.size, none⟩ : Addr).add j) = some v := fun j v hj => by
      have hj' : j < m * inf.size := by rw [← hcl]; exact (List.getElem?_eq_some_iff.1 hj).1
      rw [List.getElem?_take_of_lt hj', List.getElem?_drop] at hj
      rw [addr_add, hR.cells hmem]
      simp only
      rw [List.getElem?_append_left (List.getElem?_eq_some_iff.1 hj).1]; exact hj
    have hl := run_loadCells_list (P := P) w ⟨g, i * inf.size, none⟩ _ hsrc
    have hall : ∀ v ∈ (xs.drop (i * inf.size)).take (m * inf.size), v.oneCell' = true := fun v hv => List.all_eq_true.1 hx1 v (List.mem_of_mem_drop (List.mem_of_mem_take hv))
    have hst := run_storeCells_at P g ((i + 1) * inf.size) E ((xs.drop (i * inf.size)).take (m * inf.size)) 0 (xs ++ sp).toArray w (hR.own _ hmem) (by rw [hcl]; simp; omega) hall
    simp only [Nat.add_zero, hcl] at hst
    have hst2 : stL ((i + 1) * inf.size) ((xs.drop (i * inf.size)).take (m * inf.size)) (xs ++ sp) = (xs.take ((i + 1) * inf.size) ++ (xs.drop (i * inf.size)).take (m * inf.size)) ++ sp := by
      rw [stL_eq _ _ _ (by rw [hcl]; simp; omega), hcl, List.take_append_of_le_length (by omega), show (i + 1) * inf.size + m * inf.size = xs.length by omega, List.drop_left]
    have hR' := hR.store (c' := stL ((i + 1) * inf.size) ((xs.drop (i * inf.size)).take (m * inf.size)) (xs ++ sp)) To.mid
    refine ⟨[⟨g, E, (xs.take ((i + 1) * inf.size) ++ (xs.drop (i * inf.size)).take (m * inf.size)) ++ sp⟩], w.setRow g (stL ((i + 1) * inf.size) ((xs.drop (i * inf.size)).take (m * inf.size)) (xs ++ sp)).toArray, ?_, ⟨by rw [List.length_append, hcl, List.length_take]; omega, .inr ⟨g, cap, sp, rfl, rfl, h2, h3, ?_⟩⟩, ?_⟩
    · rw [stL_eq _ _ _ (by rw [hcl]; simp; omega), hcl]
      have hmin : Nat.min (m + 1) m = m := by simp [Nat.min_def]
      rw [hcl] at hl
      simp [Builtin.copy_, run_underlying ht, Builtin.lenOf, Builtin.firstCells, sizeOf, typeInfo, hi, hmin, hl, hst]
    · simp only [List.length_append, List.length_take, hcl] at h4 ⊢; omega
    · have e2 : ([⟨g, E, stL ((i + 1) * inf.size) ((xs.drop (i * inf.size)).take (m * inf.size)) (xs ++ sp)⟩] : List OB) = [⟨g, E, (xs.take ((i + 1) * inf.size) ++ (xs.drop (i * inf.size)).take (m * inf.size)) ++ sp⟩] := by rw [hst2]
      rw [e2] at hR'; exact hR'
theorem run_copy_os' {w0 : World} {X : Fr} {R : List Win} {S sl pre post : List OB} {t t2 ty E : TypeId} {z bytes n i m o1 o2 c c2 cap g : Nat} {xs : List Value} (hS : Sl P t E z bytes) (hx1 : xs.all Value.oneCell' = true) (hR : Rep w0 X R S w)
    (hO : OS sl E z (.slice (some ⟨g, 0, none⟩) n cap) n xs) (hC : Ctx S sl pre post) (him : i + 1 + m = n) (h1 : 0 < m → o1 = (i + 1) * z) (h2 : 0 < m → o2 = i * z) :
    ∃ sl' w', (Builtin.copy_ #[t, t2] ty #[.slice (some ⟨g, o1, none⟩) m c, .slice (some ⟨g, o2, none⟩) (m + 1) c2]).run P w = .ok (goInt m) w' ∧ OS sl' E z (.slice (some ⟨g, 0, none⟩) n cap) n (xs.take ((i + 1) * z) ++ (xs.drop (i * z)).take (m * z)) ∧ Rep w0 X R (pre ++ (sl' ++ post)) w' := by
  rcases Nat.eq_zero_or_pos m with rfl | hm
  · obtain ⟨inf, zv, hi, hz, rfl, rfl, hzs⟩ := hS.el
    have ht := hS.un
    have hmin : Nat.min (0 + 1) 0 = 0 := rfl
    refine ⟨sl, w, ?_, ?_, by rw [← hC.eq]; exact hR⟩
    · simp [Builtin.copy_, run_underlying ht, Builtin.lenOf, Builtin.firstCells, sizeOf, typeInfo, hi, hmin, loadCells, loadCellsFrom, storeCells]
    · have : xs.take ((i + 1) * inf.size) ++ (xs.drop (i * inf.size)).take (0 * inf.size) = xs := by
        rw [List.take_of_length_le (by rw [hO.1, ← him]; simp)]; simp
      rw [this]; exact hO
  · rw [h1 hm, h2 hm]; exact run_copy_os hS hx1 hR hO hC him
theorem wpList_copy_os {ops : Array Oper} {Q : Exit → Act → World → Prop} {a : Act} {rest : List Oper} {o : Oper} {w0 : World} {X : Fr} {R : List Win} {S sl pre post : List OB} {t t2 E : TypeId} {z bytes n i m m2 o1 o2 c c2 cap g : Nat} {xs : List Value} {s y : Operand} {d : Tmp}
    (hR : Rep w0 X R S w) (hop : o.op = .call { callee := .builtin .copy, args := #[s, y], argTypes := #[t, t2] }) (hd : o.dst = some d) (hg : o.guard = none) (hs : a.eval s = .slice (some ⟨g, o1, none⟩) m c) (hy : a.eval y = .slice (some ⟨g, o2, none⟩) m2 c2) (hS : Sl P t E z bytes) (hx1 : xs.all Value.oneCell' = true)
    (hO : OS sl E z (.slice (some ⟨g, 0, none⟩) n cap) n xs) (hC : Ctx S sl pre post) (him : m2 = m + 1 ∧ i + 1 + m = n ∧ (0 < m → o1 = (i + 1) * z) ∧ (0 < m → o2 = i * z))
    (h : ∀ sl' w', OS sl' E z (.slice (some ⟨g, 0, none⟩) n cap) n (xs.take ((i + 1) * z) ++ (xs.drop (i * z)).take (m * z)) → Rep w0 X R (pre ++ (sl' ++ post)) w' → ∃ a', a.put (some d) (goInt m) = a' ∧ wpList P ops Q rest a' w') : wpList P ops Q (o :: rest) a w := by
  obtain ⟨rfl, him, ho1, ho2⟩ := him
  obtain ⟨sl', w', hr, h2, h3⟩ := run_copy_os' (P := P) (ty := o.type) (t2 := t2) (c := c) (c2 := c2) hS hx1 hR hO hC him ho1 ho2
  refine BigFrame.wpList_want (by simp [Region.wanted, hg]) fun K hK => ?_
  unfold Oper.wp execOp
  simp only [hop, resolve, invoke, builtin, Sem.run_bind, Sem.run_pure, Result.andThen_ok, List.map_toArray, List.map_cons, List.map_nil, hs, hy, hr, Oper.upon, hd]
  obtain ⟨a', e, h'⟩ := h sl' w' h2 h3
  rw [e]
  exact hK _ _ h'
/-- A slice's end, at whatever capacity. -/
theorem run_slice_end {t E : TypeId} {z bytes g o n cap lo : Nat} {i : Int} (hS : Sl P t E z bytes) (hi : i = (lo : Int)) (hl : lo ≤ n) : ∃ off, (lo < cap → off = o + lo * z) ∧ (Instr.sliceAt t (.slice (some ⟨g, o, none⟩) n cap) (some (.int .i64 i)) none none).run P w = .ok (.slice (some ⟨g, off, none⟩) (n - lo) (cap - lo)) w := by
  obtain ⟨inf, zv, hinf, hz, rfl, rfl, hzs⟩ := hS.el
  have ht := hS.un
  subst hi
  have h1 := run_sliceBound (P := P) (w := w) .i64 (lo : Int) n .sliceB (by omega) (by omega)
  by_cases hc : cap = lo
  · refine ⟨o, fun h => by omega, ?_⟩
    simp [Instr.sliceAt, Instr.slice, run_underlying ht, Instr.sliceBounds, h1, sizeOf, typeInfo, hinf, hc]
  · refine ⟨o + lo * inf.size, fun _ => rfl, ?_⟩
    simp [Instr.sliceAt, Instr.slice, run_underlying ht, Instr.sliceBounds, h1, sizeOf, typeInfo, hinf, hc, addr_add]
theorem dc_slice_end {L : List Oper} {w0 : World} {X : Fr} {R : List Win} {im : List Nat} {Qf : Act → List OB → Prop} {k : Nat} {rr : List Nat} {a : Act} {S : List OB} {op : Oper} {t E : TypeId} {z bytes g o n cap lo : Nat} {i : Int} {x y : Operand}
    (ho : nth L k = some op) (hi : im.contains k = false) (hw : Region.wanted op (yielded L.toArray a.tmps) = true) (hop : op.op = .slice t x (some y) none none) (hx : a.eval x = .slice (some ⟨g, o, none⟩) n cap) (hy : a.eval y = .int .i64 i) (hS : Sl P t E z bytes) (hlo : i = (lo : Int)) (hl : lo ≤ n)
    (h : ∀ off, Hid (lo < cap → off = o + lo * z) → ∃ a', a.put op.dst (.slice (some ⟨g, off, none⟩) (n - lo) (cap - lo)) = a' ∧ DC P L.toArray w0 X R im Qf rr a' S) : DC P L.toArray w0 X R im Qf (k :: rr) a S := by
  obtain ⟨off, h1⟩ : ∃ off, (lo < cap → off = o + lo * z) ∧ ∀ w, (Instr.sliceAt t (.slice (some ⟨g, o, none⟩) n cap) (some (.int .i64 i)) none none).run P w = .ok (.slice (some ⟨g, off, none⟩) (n - lo) (cap - lo)) w := by
    by_cases hc : lo < cap
    · refine ⟨o + lo * z, fun _ => rfl, fun w => ?_⟩
      obtain ⟨off, h1, h2⟩ := run_slice_end (P := P) (w := w) (g := g) (o := o) (cap := cap) hS hlo hl
      rw [h2, h1 hc]
    · by_cases hce : cap = lo
      · refine ⟨o, fun h => absurd h hc, fun w => ?_⟩
        obtain ⟨inf, zv, hinf, hz, rfl, rfl, hzs⟩ := hS.el
        have ht := hS.un
        subst hlo
        have h1 := run_sliceBound (P := P) (w := w) .i64 (lo : Int) n .sliceB (by omega) (by omega)
        simp [Instr.sliceAt, Instr.slice, run_underlying ht, Instr.sliceBounds, h1, sizeOf, typeInfo, hinf, hce]
      · refine ⟨o + lo * z, fun h => absurd h hc, fun w => ?_⟩
        obtain ⟨inf, zv, hinf, hz, rfl, rfl, hzs⟩ := hS.el
        have ht := hS.un
        subst hlo
        have h1 := run_sliceBound (P := P) (w := w) .i64 (lo : Int) n .sliceB (by omega) (by omega)
        simp [Instr.sliceAt, Instr.slice, run_underlying ht, Instr.sliceBounds, h1, sizeOf, typeInfo, hinf, hce, addr_add]
  obtain ⟨a', e, hd⟩ := h off (Lib.hid h1.1)
  refine dc_pure ho hi hw (fun w => ?_) e hd
  unfold execOp
  rw [hop]
  simp [hx, hy, h1.2 w]
/-- A move, where the walk would go on past what follows it. -/
theorem wpList_mv {ops : Array Oper} {Q : Exit → Act → World → Prop} {a a' : Act} {rest : List Oper} {o : Oper} {x : Operand} (hop : o.op = .move x) (hg : o.guard = none) (ha : a.put o.dst (a.eval x) = a') (h : wpList P ops Q rest a' w) : wpList P ops Q (o :: rest) a w := by
  refine BigFrame.wpList_want (by simp [Region.wanted, hg]) fun K hK => ?_
  unfold Oper.wp execOp
  simp only [hop, Sem.run_pure, Oper.upon]
  subst ha
  exact hK _ _ h
end
end Go.Proofs.YtddjhemncniidaaDoor
