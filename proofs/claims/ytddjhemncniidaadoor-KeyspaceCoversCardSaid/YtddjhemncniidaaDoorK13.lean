/-
  The steps of a walk through a region by a plan ('DT').
-/
import Derived.Test.YtddjhemncniidaaDoorK12
namespace Go.Proofs.YtddjhemncniidaaDoor
set_option linter.unusedSimpArgs false
set_option linter.unusedVariables false
open Go.RowKit
attribute [local semireducible] DC DT MSt
theorem Rep.perm {w0 w : World} {X : Fr} {R : List Win} {S S' : List OB} (h : Rep w0 X R S w) (hp : S.Perm S') : Rep w0 X R S' w :=
  ⟨h.kp, fun e he => h.own e (hp.mem_iff.2 he), (hp.pairwise_iff (fun h e => h e.symm)).1 h.ne, fun e he => h.new e (hp.mem_iff.2 he), h.win, h.j, h.js, h.xl⟩
theorem perm_pick {e : OB} {l S pre post : List OB} (h : Ctx S [e] pre post) (hl : l.Perm (pre ++ post)) : S.Perm (e :: l) := by
  rw [h.eq]
  exact List.perm_middle.trans (hl.symm.cons e)
theorem perm_seg {sl l S pre post : List OB} (h : Ctx S sl pre post) (hl : l.Perm (pre ++ post)) : S.Perm (sl ++ l) := by
  rw [h.eq]
  have := List.perm_append_comm (l₁ := pre) (l₂ := sl)
  refine List.Perm.trans ?_ (hl.symm.append_left sl)
  rw [← List.append_assoc, ← List.append_assoc]
  exact this.append_right post
section
variable {P : Program} {l : List Oper} {w0 : World} {X : Fr} {R : List Win} {Qf : Act → List OB → Prop} {i j : Nat} {t u : Plan} {a a' : Act} {S M : List OB} {o : Oper} {next : Act → List OB → List OB → Prop}
theorem dt_done (h : Qf a (M ++ S)) : DT P l.toArray w0 X R Qf .done a M S := h
theorem dt_rd (h : DC P l.toArray w0 X R [] (fun a' S' => S' = S → DT P l.toArray w0 X R Qf t a' M S) [i] a S) : DT P l.toArray w0 X R Qf (.rd i t) a M S := by
  obtain ⟨o, ho, h⟩ := h
  refine ⟨o, ho, ?_⟩
  split
  · rename_i hw
    rw [if_pos hw] at h
    simp only [List.contains_nil, Bool.false_eq_true, if_false] at h
    obtain ⟨v, hv, h⟩ := h
    exact ⟨v, hv, h rfl⟩
  · rename_i hw
    rw [if_neg hw] at h
    exact h rfl
theorem dt_m1 (h : MSt P l.toArray w0 X R i a M S (DT P l.toArray w0 X R Qf t)) : DT P l.toArray w0 X R Qf (.m1 i t) a M S := h
theorem dt_m2 (h : MSt P l.toArray w0 X R i a M S (DT P l.toArray w0 X R Qf t)) (h' : MSt P l.toArray w0 X R j a M S (DT P l.toArray w0 X R Qf u)) : DT P l.toArray w0 X R Qf (.m2 i t j u) a M S := ⟨h, h'⟩
/-- A maker that touches nothing that is to be written later. -/
theorem ms_dc (h : DC P l.toArray w0 X R [i] (fun a' S' => next a' [] S') [i] a S) : MSt P l.toArray w0 X R i a [] S next := by
  obtain ⟨o, ho, h⟩ := h
  refine ⟨o, ho, ?_⟩
  split
  · rename_i hw
    rw [if_pos hw] at h
    simp only [List.contains_cons, beq_self_eq_true, Bool.true_or, if_true] at h
    intro w hR
    have h := h w hR
    revert h
    unfold MUp
    generalize (execOp a.eval o).run P w = r
    intro h
    cases r with
    | ok n w' =>
      cases n with
      | value v =>
        obtain ⟨N, h1, h2⟩ := h
        exact ⟨[], N ++ S, List.sublist_append_right _ _, h1, h2⟩
      | enter f args =>
        obtain ⟨h1, h2⟩ := h
        refine ⟨h1, h2.mono fun e w'' ⟨v, N, he, hN, hn⟩ => ⟨v, [], N ++ S, he, List.sublist_append_right _ _, hN, hn⟩⟩
      | skip => exact absurd h id
      | _ => exact h
    | _ => exact h
  · rename_i hw
    rw [if_neg hw] at h
    exact h
/-- A variable that is written later. -/
theorem ms_alloc {T : TypeId} {d : Tmp} {vs : List Value} (ho : nth l i = some o) (hw : Region.wanted o (yielded l.toArray a.tmps) = true) (hop : o.op = .alloc T) (hd : o.dst = some d) (hz : ZeroIs P T vs)
    (h : ∀ B, ∃ a', a.put (some d) (.pointer (some ⟨B, 0, none⟩)) = a' ∧ next a' (⟨B, T, vs⟩ :: M) S) : MSt P l.toArray w0 X R i a M S next :=
  ⟨o, nth_get ho, by
    rw [if_pos hw]
    intro w hR
    obtain ⟨a', h1, h2⟩ := h w.heap.size
    unfold MUp
    rw [zero_run hz hop _ _]
    exact ⟨⟨w.heap.size, T, vs⟩ :: M, S, List.Sublist.refl _, by simpa using hR.alloc T vs.toArray, by rw [hd]; subst h1; exact h2⟩⟩
/-- .. its writing; nothing is written to it later. -/
theorem ms_store {T T' : TypeId} {x y : Operand} {b off n : Nat} {c vs c' : List Value} {pre post : List OB} {ag : Bool} (ho : nth l i = some o) (hw : Region.wanted o (yielded l.toArray a.tmps) = true) (hop : o.op = .store T x y) (hd : o.dst = none) (hx : a.eval x = .pointer (some ⟨b, off, none⟩)) (hv : (a.eval y).cells = vs.toArray)
    (hM : Ctx M [⟨b, T', c⟩] pre post) (hT : Ty P T n ag) (hc : stL off vs c = c') (hl : (decide (off + n ≤ c.length) && (vs.length == n) && vs.all Value.oneCell') = true) (h : next a (pre ++ post) (⟨b, T', c'⟩ :: S)) : MSt P l.toArray w0 X R i a M S next :=
  ⟨o, nth_get ho, by
    rw [if_pos hw]
    intro w hR
    simp only [Bool.and_eq_true, decide_eq_true_eq, beq_iff_eq] at hl
    rw [hM.eq] at hR
    have hto : To ((pre ++ ([⟨b, T', c⟩] ++ post)) ++ S) b T' c c' ((pre ++ ([⟨b, T', c'⟩] ++ post)) ++ S) := by
      simp only [List.append_assoc, List.singleton_append]; exact .skip .here
    have hr := run_st (P := P) hT hR hv hc hto hl.1.1 hl.1.2 hl.2
    unfold MUp execOp
    rw [hop]
    simp only [hx, Instr.storeAt, Instr.sureAddr, Sem.run_bind, Sem.run_pure, Result.andThen_ok, hr]
    refine ⟨pre ++ post, ⟨b, T', c'⟩ :: S, List.sublist_cons_self _ _, ?_, ?_⟩
    · refine (hR.store hto).perm ?_
      simp only [List.append_assoc, List.singleton_append]
      refine List.Perm.append_left pre ?_
      exact List.perm_middle.symm
    · rw [hd]; exact h⟩
theorem ms_bs {tt E : TypeId} {z bytes len : Nat} {parts : Array (Nat × Operand)} {d : Tmp} {vs : List Value} (ho : nth l i = some o) (hw : Region.wanted o (yielded l.toArray a.tmps) = true) (hop : o.op = .buildSlice tt len parts) (hd : o.dst = some d) (hS : Sl P tt E z bytes)
    (hp : (inRow z 0 (parts.toList.map fun p => (p.1, a.eval p.2)) && (parts.size == len) && decide (parts.size * z ≤ 16777216)) = true) (hl : flat (parts.toList.map fun p => (p.1, a.eval p.2)) = vs)
    (h : ∀ B, ∃ a', a.put (some d) (.slice (some ⟨B, 0, none⟩) len len) = a' ∧ next a' (⟨B, E, vs⟩ :: M) S) : MSt P l.toArray w0 X R i a M S next :=
  ⟨o, nth_get ho, by
    rw [if_pos hw]
    intro w hR
    simp only [Bool.and_eq_true, beq_iff_eq, decide_eq_true_eq] at hp
    obtain ⟨⟨hp, rfl⟩, hs⟩ := hp
    have hr := run_bs (P := P) (w := w) hS (parts.map fun p => (p.1, a.eval p.2)) (by simpa using hp) (by simpa using hs)
    simp only [Array.size_map] at hr
    have hl' : flat (parts.map fun p => (p.1, a.eval p.2)).toList = vs := by rw [← hl]; simp
    rw [hl'] at hr
    obtain ⟨a', h1, h2⟩ := h w.heap.size
    unfold MUp execOp; rw [hop]
    simp only [Sem.run_bind, Sem.run_pure, Result.andThen_ok, hr]
    exact ⟨⟨w.heap.size, E, vs⟩ :: M, S, List.Sublist.refl _, by simpa using hR.alloc E vs.toArray, by rw [hd]; subst h1; exact h2⟩⟩
theorem ms_append {tt E : TypeId} {z bytes n m : Nat} {v x : Value} {xs news : List Value} {s y : Operand} {d : Tmp} {sl pre post : List OB} (ho : nth l i = some o) (hw : Region.wanted o (yielded l.toArray a.tmps) = true)
    (hop : o.op = .call { callee := .builtin .append, args := #[s, y], argTypes := #[tt, tt] }) (hd : o.dst = some d) (hs : a.eval s = v) (hy : a.eval y = x) (hS : Sl P tt E z bytes) (hO : OS sl E z v n xs) (hC : Ctx M sl pre post) (hx : ∀ w, Rep w0 X R (M ++ S) w → Rd w z x m news)
    (h1 : news.all Value.oneCell' = true) (hb : (n + m) * bytes ≤ 140737488355328) (hm : n + m ≤ 9223372036854775807)
    (h : ∀ v' sl', OS sl' E z v' (n + m) (xs ++ news) → ∃ a', a.put (some d) v' = a' ∧ next a' (pre ++ (sl' ++ post)) S) : MSt P l.toArray w0 X R i a M S next :=
  ⟨o, nth_get ho, by
    rw [if_pos hw]
    intro w hR
    have hC' : Ctx (M ++ S) sl pre (post ++ S) := by
      have e := hC.eq
      subst e
      rw [List.append_assoc, List.append_assoc]
      clear hO h hx hR hC
      induction pre with
      | nil => exact Ctx.here (sl := sl) (post := post ++ S)
      | cons x pre ih => exact Ctx.there ih
    obtain ⟨v', sl', w', hr, h2, h3⟩ := run_append_os (P := P) (ty := o.type) hS hR hO hC' (hx w hR) h1 hb hm
    obtain ⟨a', e, h'⟩ := h v' sl' h2
    unfold MUp execOp
    simp only [hop, resolve, invoke, builtin, Sem.run_bind, Sem.run_pure, Result.andThen_ok, List.map_toArray, List.map_cons, List.map_nil, hs, hy, hr]
    exact ⟨pre ++ (sl' ++ post), S, List.Sublist.refl _, by simpa [List.append_assoc] using h3, by rw [hd, e]; exact h'⟩⟩
theorem ms_call0 {f : FuncId} {args : Array Value} (ho : nth l i = some o) (hw : Region.wanted o (yielded l.toArray a.tmps) = true) (hr : ∀ w, (execOp a.eval o).run P w = .ok (.enter f args) w)
    (h : ∀ w, Rep w0 X R (M ++ S) w → Calls P f args w fun e w' => ∃ v, e = .returned v ∧ Kp [] w w' ∧ ∃ a', a.put o.dst v = a' ∧ next a' M S) : MSt P l.toArray w0 X R i a M S next :=
  ⟨o, nth_get ho, by
    rw [if_pos hw]
    intro w hR
    rw [hr w]
    exact ⟨rfl, (h w hR).mono fun _ _ ⟨v, he, hk, a', ha, hd⟩ => ⟨v, M, S, he, List.Sublist.refl _, hR.kp0 hk, by subst ha; exact hd⟩⟩⟩
theorem ms_callT {f : FuncId} {args : Array Value} (ho : nth l i = some o) (hw : Region.wanted o (yielded l.toArray a.tmps) = true) (hr : ∀ w, (execOp a.eval o).run P w = .ok (.enter f args) w)
    (h : ∀ w, Rep w0 X R (M ++ S) w → Calls P f args w fun e w' => ∃ v, e = .returned v ∧ Kp X.X w w' ∧ X.J w' ∧ ∃ a', a.put o.dst v = a' ∧ next a' M S) : MSt P l.toArray w0 X R i a M S next :=
  ⟨o, nth_get ho, by
    rw [if_pos hw]
    intro w hR
    rw [hr w]
    exact ⟨rfl, (h w hR).mono fun _ _ ⟨v, he, hk, hj, a', ha, hd⟩ => ⟨v, M, S, he, List.Sublist.refl _, hR.tk hk hj, by subst ha; exact hd⟩⟩⟩
theorem ms_callS {f : FuncId} {args : Array Value} (ho : nth l i = some o) (hw : Region.wanted o (yielded l.toArray a.tmps) = true) (hr : ∀ w, (execOp a.eval o).run P w = .ok (.enter f args) w)
    (h : ∀ w, Rep w0 X R (M ++ S) w → Calls P f args w fun e w' => ∃ v sl, e = .returned v ∧ Rep w nof [] sl w' ∧ ∃ a', a.put o.dst v = a' ∧ next a' M (sl ++ S)) : MSt P l.toArray w0 X R i a M S next :=
  ⟨o, nth_get ho, by
    rw [if_pos hw]
    intro w hR
    rw [hr w]
    refine ⟨rfl, (h w hR).mono fun _ _ ⟨v, sl, he, hk, a', ha, hd⟩ => ⟨v, M, sl ++ S, he, List.sublist_append_right _ _, (hR.join hk).perm ?_, by subst ha; exact hd⟩⟩
    rw [← List.append_assoc, ← List.append_assoc]
    exact List.perm_append_comm.append_right S⟩
end
theorem DT.mono {P : Program} {l : List Oper} {w0 : World} {X : Fr} {R : List Win} {Q Q' : Act → List OB → Prop} (hQ : ∀ A S, Q A S → Q' A S) : ∀ (pl : Plan) (a : Act) (M S : List OB), DT P l.toArray w0 X R Q pl a M S → DT P l.toArray w0 X R Q' pl a M S := by
  have ms : ∀ (next next' : Act → List OB → List OB → Prop) (i : Nat) (a : Act) (M S : List OB), (∀ a M S, next a M S → next' a M S) → MSt P l.toArray w0 X R i a M S next → MSt P l.toArray w0 X R i a M S next' := by
    intro next next' i a M S hn ⟨o, ho, h⟩
    refine ⟨o, ho, ?_⟩
    split
    · rename_i hw
      rw [if_pos hw] at h
      intro w hR
      have h := h w hR
      revert h
      unfold MUp
      generalize (execOp a.eval o).run P w = r
      intro h
      cases r with
      | ok n w' =>
        cases n with
        | value v => obtain ⟨M', S', h1, h2, h3⟩ := h; exact ⟨M', S', h1, h2, hn _ _ _ h3⟩
        | skip => obtain ⟨M', S', h1, h2, h3⟩ := h; exact ⟨M', S', h1, h2, hn _ _ _ h3⟩
        | enter f args => exact ⟨h.1, h.2.mono fun e w'' ⟨v, M', S', he, h1, h2, h3⟩ => ⟨v, M', S', he, h1, h2, hn _ _ _ h3⟩⟩
        | _ => exact h
      | _ => exact h
    · rename_i hw
      rw [if_neg hw] at h
      exact hn _ _ _ h
  intro pl
  induction pl with
  | done => intro a M S h; exact hQ _ _ h
  | rd i t ih =>
    intro a M S ⟨o, ho, h⟩
    refine ⟨o, ho, ?_⟩
    split
    · rename_i hw
      rw [if_pos hw] at h
      obtain ⟨v, h1, h2⟩ := h
      exact ⟨v, h1, ih _ _ _ h2⟩
    · rename_i hw
      rw [if_neg hw] at h
      exact ih _ _ _ h
  | m1 i t ih => intro a M S h; exact ms _ _ _ _ _ _ ih h
  | m2 i t j u ih ih' => intro a M S h; exact ⟨ms _ _ _ _ _ _ ih h.1, ms _ _ _ _ _ _ ih' h.2⟩
section
variable {P : Program} {l : List Oper} {w0 w : World} {X : Fr} {R : List Win} {S : List OB} {Q : Exit → Act → World → Prop} {id : Nat} {a : Act}
theorem wp_region_T1 {α0 : Type} (pl : Plan) (F : α0 → Prop) (G : α0 → Act) (SS : α0 → List OB) (hR : Rep w0 X R S w) (hm : P.follows .mixedOrders = true) (hchk : chkT l.toArray pl = true)
    (h : DT P l.toArray w0 X R (fun A S => ∃ x0, F x0 ∧ A = G x0 ∧ S.Perm (SS x0)) pl a [] S) (hq : ∀ x0 w, F x0 → Rep w0 X R (SS x0) w → Q .normal (G x0) w) : (Code.region id l.toArray true).wp P Q a w :=
  wp_region_T pl (fun A w => ∃ x0, F x0 ∧ A = G x0 ∧ Rep w0 X R (SS x0) w) hR hm hchk (DT.mono (fun _ _ ⟨x0, h1, h2, h3⟩ w hR => ⟨x0, h1, h2, hR.perm h3⟩) _ _ _ _ h)
    fun A w ⟨x0, h1, h2, h3⟩ => by subst h2; exact hq _ _ h1 h3
theorem wp_region_T2 {α0 α1 : Type} (pl : Plan) (F : α0 → α1 → Prop) (G : α0 → α1 → Act) (SS : α0 → α1 → List OB) (hR : Rep w0 X R S w) (hm : P.follows .mixedOrders = true) (hchk : chkT l.toArray pl = true)
    (h : DT P l.toArray w0 X R (fun A S => ∃ x0 x1, F x0 x1 ∧ A = G x0 x1 ∧ S.Perm (SS x0 x1)) pl a [] S) (hq : ∀ x0 x1 w, F x0 x1 → Rep w0 X R (SS x0 x1) w → Q .normal (G x0 x1) w) : (Code.region id l.toArray true).wp P Q a w :=
  wp_region_T pl (fun A w => ∃ x0 x1, F x0 x1 ∧ A = G x0 x1 ∧ Rep w0 X R (SS x0 x1) w) hR hm hchk (DT.mono (fun _ _ ⟨x0, x1, h1, h2, h3⟩ w hR => ⟨x0, x1, h1, h2, hR.perm h3⟩) _ _ _ _ h)
    fun A w ⟨x0, x1, h1, h2, h3⟩ => by subst h2; exact hq _ _ _ h1 h3
theorem wp_region_T3 {α0 α1 α2 : Type} (pl : Plan) (F : α0 → α1 → α2 → Prop) (G : α0 → α1 → α2 → Act) (SS : α0 → α1 → α2 → List OB) (hR : Rep w0 X R S w) (hm : P.follows .mixedOrders = true) (hchk : chkT l.toArray pl = true)
    (h : DT P l.toArray w0 X R (fun A S => ∃ x0 x1 x2, F x0 x1 x2 ∧ A = G x0 x1 x2 ∧ S.Perm (SS x0 x1 x2)) pl a [] S) (hq : ∀ x0 x1 x2 w, F x0 x1 x2 → Rep w0 X R (SS x0 x1 x2) w → Q .normal (G x0 x1 x2) w) : (Code.region id l.toArray true).wp P Q a w :=
  wp_region_T pl (fun A w => ∃ x0 x1 x2, F x0 x1 x2 ∧ A = G x0 x1 x2 ∧ Rep w0 X R (SS x0 x1 x2) w) hR hm hchk (DT.mono (fun _ _ ⟨x0, x1, x2, h1, h2, h3⟩ w hR => ⟨x0, x1, x2, h1, h2, hR.perm h3⟩) _ _ _ _ h)
    fun A w ⟨x0, x1, x2, h1, h2, h3⟩ => by subst h2; exact hq _ _ _ _ h1 h3
theorem wp_region_T4 {α0 α1 α2 α3 : Type} (pl : Plan) (F : α0 → α1 → α2 → α3 → Prop) (G : α0 → α1 → α2 → α3 → Act) (SS : α0 → α1 → α2 → α3 → List OB) (hR : Rep w0 X R S w) (hm : P.follows .mixedOrders = true) (hchk : chkT l.toArray pl = true)
    (h : DT P l.toArray w0 X R (fun A S => ∃ x0 x1 x2 x3, F x0 x1 x2 x3 ∧ A = G x0 x1 x2 x3 ∧ S.Perm (SS x0 x1 x2 x3)) pl a [] S) (hq : ∀ x0 x1 x2 x3 w, F x0 x1 x2 x3 → Rep w0 X R (SS x0 x1 x2 x3) w → Q .normal (G x0 x1 x2 x3) w) : (Code.region id l.toArray true).wp P Q a w :=
  wp_region_T pl (fun A w => ∃ x0 x1 x2 x3, F x0 x1 x2 x3 ∧ A = G x0 x1 x2 x3 ∧ Rep w0 X R (SS x0 x1 x2 x3) w) hR hm hchk (DT.mono (fun _ _ ⟨x0, x1, x2, x3, h1, h2, h3⟩ w hR => ⟨x0, x1, x2, x3, h1, h2, hR.perm h3⟩) _ _ _ _ h)
    fun A w ⟨x0, x1, x2, x3, h1, h2, h3⟩ => by subst h2; exact hq _ _ _ _ _ h1 h3
theorem wp_region_T5 {α0 α1 α2 α3 α4 : Type} (pl : Plan) (F : α0 → α1 → α2 → α3 → α4 → Prop) (G : α0 → α1 → α2 → α3 → α4 → Act) (SS : α0 → α1 → α2 → α3 → α4 → List OB) (hR : Rep w0 X R S w) (hm : P.follows .mixedOrders = true) (hchk : chkT l.toArray pl = true)
    (h : DT P l.toArray w0 X R (fun A S => ∃ x0 x1 x2 x3 x4, F x0 x1 x2 x3 x4 ∧ A = G x0 x1 x2 x3 x4 ∧ S.Perm (SS x0 x1 x2 x3 x4)) pl a [] S) (hq : ∀ x0 x1 x2 x3 x4 w, F x0 x1 x2 x3 x4 → Rep w0 X R (SS x0 x1 x2 x3 x4) w → Q .normal (G x0 x1 x2 x3 x4) w) : (Code.region id l.toArray true).wp P Q a w :=
  wp_region_T pl (fun A w => ∃ x0 x1 x2 x3 x4, F x0 x1 x2 x3 x4 ∧ A = G x0 x1 x2 x3 x4 ∧ Rep w0 X R (SS x0 x1 x2 x3 x4) w) hR hm hchk (DT.mono (fun _ _ ⟨x0, x1, x2, x3, x4, h1, h2, h3⟩ w hR => ⟨x0, x1, x2, x3, x4, h1, h2, hR.perm h3⟩) _ _ _ _ h)
    fun A w ⟨x0, x1, x2, x3, x4, h1, h2, h3⟩ => by subst h2; exact hq _ _ _ _ _ _ h1 h3
theorem wp_region_T6 {α0 α1 α2 α3 α4 α5 : Type} (pl : Plan) (F : α0 → α1 → α2 → α3 → α4 → α5 → Prop) (G : α0 → α1 → α2 → α3 → α4 → α5 → Act) (SS : α0 → α1 → α2 → α3 → α4 → α5 → List OB) (hR : Rep w0 X R S w) (hm : P.follows .mixedOrders = true) (hchk : chkT l.toArray pl = true)
    (h : DT P l.toArray w0 X R (fun A S => ∃ x0 x1 x2 x3 x4 x5, F x0 x1 x2 x3 x4 x5 ∧ A = G x0 x1 x2 x3 x4 x5 ∧ S.Perm (SS x0 x1 x2 x3 x4 x5)) pl a [] S) (hq : ∀ x0 x1 x2 x3 x4 x5 w, F x0 x1 x2 x3 x4 x5 → Rep w0 X R (SS x0 x1 x2 x3 x4 x5) w → Q .normal (G x0 x1 x2 x3 x4 x5) w) : (Code.region id l.toArray true).wp P Q a w :=
  wp_region_T pl (fun A w => ∃ x0 x1 x2 x3 x4 x5, F x0 x1 x2 x3 x4 x5 ∧ A = G x0 x1 x2 x3 x4 x5 ∧ Rep w0 X R (SS x0 x1 x2 x3 x4 x5) w) hR hm hchk (DT.mono (fun _ _ ⟨x0, x1, x2, x3, x4, x5, h1, h2, h3⟩ w hR => ⟨x0, x1, x2, x3, x4, x5, h1, h2, hR.perm h3⟩) _ _ _ _ h)
    fun A w ⟨x0, x1, x2, x3, x4, x5, h1, h2, h3⟩ => by subst h2; exact hq _ _ _ _ _ _ _ h1 h3
theorem wp_region_T7 {α0 α1 α2 α3 α4 α5 α6 : Type} (pl : Plan) (F : α0 → α1 → α2 → α3 → α4 → α5 → α6 → Prop) (G : α0 → α1 → α2 → α3 → α4 → α5 → α6 → Act) (SS : α0 → α1 → α2 → α3 → α4 → α5 → α6 → List OB) (hR : Rep w0 X R S w) (hm : P.follows .mixedOrders = true) (hchk : chkT l.toArray pl = true)
    (h : DT P l.toArray w0 X R (fun A S => ∃ x0 x1 x2 x3 x4 x5 x6, F x0 x1 x2 x3 x4 x5 x6 ∧ A = G x0 x1 x2 x3 x4 x5 x6 ∧ S.Perm (SS x0 x1 x2 x3 x4 x5 x6)) pl a [] S) (hq : ∀ x0 x1 x2 x3 x4 x5 x6 w, F x0 x1 x2 x3 x4 x5 x6 → Rep w0 X R (SS x0 x1 x2 x3 x4 x5 x6) w → Q .normal (G x0 x1 x2 x3 x4 x5 x6) w) : (Code.region id l.toArray true).wp P Q a w :=
  wp_region_T pl (fun A w => ∃ x0 x1 x2 x3 x4 x5 x6, F x0 x1 x2 x3 x4 x5 x6 ∧ A = G x0 x1 x2 x3 x4 x5 x6 ∧ Rep w0 X R (SS x0 x1 x2 x3 x4 x5 x6) w) hR hm hchk (DT.mono (fun _ _ ⟨x0, x1, x2, x3, x4, x5, x6, h1, h2, h3⟩ w hR => ⟨x0, x1, x2, x3, x4, x5, x6, h1, h2, hR.perm h3⟩) _ _ _ _ h)
    fun A w ⟨x0, x1, x2, x3, x4, x5, x6, h1, h2, h3⟩ => by subst h2; exact hq _ _ _ _ _ _ _ _ h1 h3
theorem wp_region_T8 {α0 α1 α2 α3 α4 α5 α6 α7 : Type} (pl : Plan) (F : α0 → α1 → α2 → α3 → α4 → α5 → α6 → α7 → Prop) (G : α0 → α1 → α2 → α3 → α4 → α5 → α6 → α7 → Act) (SS : α0 → α1 → α2 → α3 → α4 → α5 → α6 → α7 → List OB) (hR : Rep w0 X R S w) (hm : P.follows .mixedOrders = true) (hchk : chkT l.toArray pl = true)
    (h : DT P l.toArray w0 X R (fun A S => ∃ x0 x1 x2 x3 x4 x5 x6 x7, F x0 x1 x2 x3 x4 x5 x6 x7 ∧ A = G x0 x1 x2 x3 x4 x5 x6 x7 ∧ S.Perm (SS x0 x1 x2 x3 x4 x5 x6 x7)) pl a [] S) (hq : ∀ x0 x1 x2 x3 x4 x5 x6 x7 w, F x0 x1 x2 x3 x4 x5 x6 x7 → Rep w0 X R (SS x0 x1 x2 x3 x4 x5 x6 x7) w → Q .normal (G x0 x1 x2 x3 x4 x5 x6 x7) w) : (Code.region id l.toArray true).wp P Q a w :=
  wp_region_T pl (fun A w => ∃ x0 x1 x2 x3 x4 x5 x6 x7, F x0 x1 x2 x3 x4 x5 x6 x7 ∧ A = G x0 x1 x2 x3 x4 x5 x6 x7 ∧ Rep w0 X R (SS x0 x1 x2 x3 x4 x5 x6 x7) w) hR hm hchk (DT.mono (fun _ _ ⟨x0, x1, x2, x3, x4, x5, x6, x7, h1, h2, h3⟩ w hR => ⟨x0, x1, x2, x3, x4, x5, x6, x7, h1, h2, hR.perm h3⟩) _ _ _ _ h)
    fun A w ⟨x0, x1, x2, x3, x4, x5, x6, x7, h1, h2, h3⟩ => by subst h2; exact hq _ _ _ _ _ _ _ _ _ h1 h3
end
end Go.Proofs.YtddjhemncniidaaDoor
