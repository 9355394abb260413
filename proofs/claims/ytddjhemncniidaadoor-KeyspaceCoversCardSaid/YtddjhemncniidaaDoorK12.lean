/-
  A region that draws its order, whose makers and stores have no one order: a plan tells what may come next; the region's end is told once for all its ways.
-/
import Derived.Test.YtddjhemncniidaaDoorK11
namespace Go.Proofs.YtddjhemncniidaaDoor
set_option linter.unusedSimpArgs false
set_option linter.unusedVariables false
open Go.RowKit
/-- A plan: reads as soon as they can be done, then whatever maker may come next. -/
inductive Plan
  | done
  | rd (i : Nat) (t : Plan)
  | m1 (i : Nat) (t : Plan)
  | m2 (i : Nat) (t : Plan) (j : Nat) (u : Plan)
def Plan.still : Plan → Bool
  | .rd _ _ => false
  | _ => true

def okS (ops : Array Oper) (k : Nat) : Bool :=
  match ops[k]? with
  | none => false
  | some o => (List.range ops.size).all fun j => match ops[j]? with
      | none => true
      | some oj => match oj.dst with
        | none => true
        | some d => (j == k || o.dst != some d) && (!(o.looksAt ops).contains d || o.after.any fun e => Region.binds .any e && e.on == j)
def depsIn (ops : Array Oper) (pre : List Nat) (k : Nat) : Bool :=
  match ops[k]? with
  | none => false
  | some o => o.after.all fun e => !Region.binds .any e || pre.contains e.on
def waitsP (ops : Array Oper) (pre c : List Nat) : Bool := (List.range ops.size).all fun k => pre.contains k || c.contains k || !depsIn ops pre k
def stepP (ops : Array Oper) (pre : List Nat) (i : Nat) : Bool := decide (i < ops.size) && !pre.contains i && depsIn ops pre i
def chkP (ops : Array Oper) : Plan → List Nat → Bool
  | .done, pre => (List.range ops.size).all fun k => pre.contains k
  | .rd i t, pre => stepP ops pre i && chkP ops t (pre ++ [i])
  | .m1 i t, pre => waitsP ops pre [i] && stepP ops pre i && chkP ops t (pre ++ [i])
  | .m2 i t j u, pre => waitsP ops pre [i, j] && stepP ops pre i && chkP ops t (pre ++ [i]) && stepP ops pre j && chkP ops u (pre ++ [j])
def chkT (ops : Array Oper) (pl : Plan) : Bool := Region.noSelect ops && ((List.range ops.size).all fun k => okS ops k) && chkP ops pl []

section
variable {P : Program} {w0 : World} {X : Fr} {R : List Win}
/-- The outcome of an operation that makes or writes: over the stable blocks S and the blocks M, which later operations may write. -/
def MUp (P : Program) (w0 : World) (X : Fr) (R : List Win) (S : List OB) (next : Value → List OB → List OB → Prop) (w : World) : Result Next → Prop
  | .ok (.value v) w' => ∃ M' S', S.Sublist S' ∧ Rep w0 X R (M' ++ S') w' ∧ next v M' S'
  | .ok .skip w' => ∃ M' S', S.Sublist S' ∧ Rep w0 X R (M' ++ S') w' ∧ next undef M' S'
  | .ok (.enter f args) w' => w' = w ∧ Calls P f args w (fun e w'' => ∃ v M' S', e = .returned v ∧ S.Sublist S' ∧ Rep w0 X R (M' ++ S') w'' ∧ next v M' S')
  | _ => False
def MSt (P : Program) (L : Array Oper) (w0 : World) (X : Fr) (R : List Win) (i : Nat) (a : Act) (M S : List OB) (next : Act → List OB → List OB → Prop) : Prop :=
  ∃ o, L[i]? = some o ∧ if Region.wanted o (yielded L a.tmps) then ∀ w, Rep w0 X R (M ++ S) w → MUp P w0 X R S (fun v M' S' => next (a.put o.dst v) M' S') w ((execOp a.eval o).run P w) else next (a.put o.dst undef) M S
def DT (P : Program) (L : Array Oper) (w0 : World) (X : Fr) (R : List Win) (Qf : Act → List OB → Prop) : Plan → Act → List OB → List OB → Prop
  | .done, a, M, S => Qf a (M ++ S)
  | .rd i t, a, M, S => ∃ o, L[i]? = some o ∧ if Region.wanted o (yielded L a.tmps) then ∃ v, (∀ w, Rep w0 X R S w → (execOp a.eval o).run P w = .ok (.value v) w) ∧ DT P L w0 X R Qf t (a.put o.dst v) M S else DT P L w0 X R Qf t (a.put o.dst undef) M S
  | .m1 i t, a, M, S => MSt P L w0 X R i a M S (DT P L w0 X R Qf t)
  | .m2 i t j u, a, M, S => MSt P L w0 X R i a M S (DT P L w0 X R Qf t) ∧ MSt P L w0 X R j a M S (DT P L w0 X R Qf u)

theorem okS_spec {ops : Array Oper} {k : Nat} (h : okS ops k = true) : ∃ o, ops[k]? = some o ∧
    (∀ j oj, j < ops.size → ops[j]? = some oj → ∀ d, oj.dst = some d → (j ≠ k → o.dst ≠ some d) ∧ (d ∈ o.looksAt ops → ∃ e ∈ o.after, Region.binds .any e = true ∧ e.on = j)) := by
  unfold okS at h
  cases ho : ops[k]? with
  | none => simp [ho] at h
  | some o =>
    simp only [ho] at h
    refine ⟨o, rfl, fun j oj hj hoj d hd => ?_⟩
    have := List.all_eq_true.1 h j (List.mem_range.2 hj)
    simp only [hoj, hd, Bool.and_eq_true, Bool.or_eq_true, beq_iff_eq, bne_iff_ne, Bool.not_eq_true'] at this
    refine ⟨fun hne => this.1.resolve_left hne, fun hm => ?_⟩
    rcases this.2 with h | h
    · simp [hm] at h
    · obtain ⟨e, he, hb⟩ := Array.any_eq_true'.1 h
      simp only [Bool.and_eq_true, beq_iff_eq] at hb
      exact ⟨e, he, hb.1, hb.2⟩
theorem depsIn_spec {ops : Array Oper} {pre : List Nat} {k : Nat} {o : Oper} (h : depsIn ops pre k = true) (ho : ops[k]? = some o) : ∀ e ∈ o.after, Region.binds .any e = true → e.on ∈ pre := by
  unfold depsIn at h
  simp only [ho] at h
  intro e he hb
  have := Array.all_eq_true_iff_forall_mem.1 h e he
  simpa [hb] using this
theorem depsIn_of {ops : Array Oper} {pre : List Nat} {k : Nat} {o : Oper} (ho : ops[k]? = some o) (h : ∀ e ∈ o.after, Region.binds .any e = true → e.on ∈ pre) : depsIn ops pre k = true := by
  unfold depsIn
  simp only [ho]
  refine Array.all_eq_true_iff_forall_mem.2 fun e he => ?_
  cases hb : Region.binds .any e with
  | false => rfl
  | true => simpa using h e he hb

structure TOk (l : List Oper) : Prop where
  ns : Region.noSelect l.toArray = true
  ok : ∀ k, k < l.toArray.size → okS l.toArray k = true
/-- What the readers that have been passed give. -/
def Ev (P : Program) (l : List Oper) (w0 : World) (X : Fr) (R : List Win) (pre mk : List Nat) (A : Act) (S : List OB) : Prop :=
  ∀ (k : Nat) (o : Oper), k ∈ pre → l[k]? = some o → k ∉ mk → ∃ v, RG P l.toArray w0 X R S A o v ∧ ∀ d, o.dst = some d → A.tmps[d]? = if d < A.tmps.size then some v else none
/-- The operations passed stand behind what they need. -/
def Cl (l : List Oper) (pre : List Nat) : Prop := (∀ k ∈ pre, k < l.toArray.size) ∧ ∀ k ∈ pre, ∀ o, l[k]? = some o → ∀ e ∈ o.after, Region.binds .any e = true → pre.idxOf e.on < pre.idxOf k
theorem Cl.snoc {l : List Oper} {pre : List Nat} {i : Nat} (h : Cl l pre) (hs : stepP l.toArray pre i = true) : Cl l (pre ++ [i]) ∧ i ∉ pre ∧ i < l.toArray.size ∧ ∀ o, l[i]? = some o → ∀ e ∈ o.after, Region.binds .any e = true → e.on ∈ pre := by
  simp only [stepP, Bool.and_eq_true, decide_eq_true_eq, Bool.not_eq_true'] at hs
  obtain ⟨⟨h1, h2⟩, h3⟩ := hs
  have hip : i ∉ pre := by simpa using h2
  have hd : ∀ o, l[i]? = some o → ∀ e ∈ o.after, Region.binds .any e = true → e.on ∈ pre := fun o ho => depsIn_spec h3 (by simpa using ho)
  refine ⟨⟨fun k hk => ?_, fun k hk o ho e he hb => ?_⟩, hip, h1, hd⟩
  · rcases List.mem_append.1 hk with hk | hk
    · exact h.1 k hk
    · obtain rfl : k = i := by simpa using hk
      exact h1
  · rcases List.mem_append.1 hk with hk | hk
    · have h4 := h.2 k hk o ho e he hb
      have h5 : e.on ∈ pre := by
        apply Classical.byContradiction
        intro hno
        have h6 : pre.idxOf e.on = pre.length := List.idxOf_eq_length hno
        have h7 := List.idxOf_lt_length_of_mem hk
        omega
      rw [List.idxOf_append, if_pos h5, List.idxOf_append, if_pos hk]; exact h4
    · obtain rfl : k = i := by simpa using hk
      have h5 := hd o ho e he hb
      have h6 := List.idxOf_lt_length_of_mem h5
      rw [List.idxOf_append, if_pos h5, List.idxOf_append, if_neg hip]
      omega
theorem Cl.mem {l : List Oper} {pre : List Nat} (h : Cl l pre) {k : Nat} (hk : k ∈ pre) {o : Oper} (ho : l[k]? = some o) : ∀ {e}, e ∈ o.after → Region.binds .any e = true → e.on ∈ pre := by
  intro e he hb
  apply Classical.byContradiction
  intro hno
  have h4 := h.2 k hk o ho e he hb
  have h6 : pre.idxOf e.on = pre.length := List.idxOf_eq_length hno
  have h7 := List.idxOf_lt_length_of_mem hk
  omega
/-- What has been passed does not look at a slot that is written later, nor writes it. -/
theorem keepP {l : List Oper} (hk : TOk l) {pre : List Nat} (hc : Cl l pre) {i : Nat} {o : Oper} (hi : i ∉ pre) (hin : i < l.toArray.size) (ho : l[i]? = some o) {k : Nat} {ok : Oper} (hkp : k ∈ pre) (hok : l[k]? = some ok) :
    (∀ d, o.dst = some d → d ∉ ok.looksAt l.toArray) ∧ (∀ d, ok.dst = some d → o.dst ≠ some d) := by
  obtain ⟨ok', hok', g2⟩ := okS_spec (hk.ok k (hc.1 k hkp))
  obtain rfl : ok = ok' := Option.some.inj ((by simpa using hok : l.toArray[k]? = some ok).symm.trans hok')
  have ho' : l.toArray[i]? = some o := by simpa using ho
  refine ⟨fun d hd hm => ?_, fun d hd e => ?_⟩
  · obtain ⟨e, he, hb, hon⟩ := (g2 i o hin ho' d hd).2 hm
    exact hi (hon ▸ hc.mem hkp hok he hb)
  · exact (g2 i o hin ho' d e).1 (fun e2 => hi (e2 ▸ hkp)) hd
theorem selfP {l : List Oper} (hk : TOk l) {i : Nat} {o : Oper} (hin : i < l.toArray.size) (ho : l[i]? = some o) {pre : List Nat} (hi : i ∉ pre) (hd : ∀ e ∈ o.after, Region.binds .any e = true → e.on ∈ pre) : ∀ d, o.dst = some d → d ∉ o.looksAt l.toArray := fun d hd' hm => by
  obtain ⟨o', ho', g2⟩ := okS_spec (hk.ok i hin)
  obtain rfl : o = o' := Option.some.inj ((by simpa using ho : l.toArray[i]? = some o).symm.trans ho')
  obtain ⟨e, he, hb, hon⟩ := (g2 i o hin ho' d hd').2 hm
  exact hi (hon ▸ hd e he hb)
/-- Readers up to the next maker. -/
theorem segP {l : List Oper} {Qf : Act → List OB → Prop} (hk : TOk l) {M S : List OB} {mk : List Nat} :
    ∀ (pl : Plan) (pre : List Nat) (A : Act), Cl l pre → chkP l.toArray pl pre = true → DT P l.toArray w0 X R Qf pl A M S → Ev P l w0 X R pre mk A S → (∀ k ∈ mk, k ∈ pre) →
      ∃ sg pl' A', pl'.still = true ∧ Cl l (pre ++ sg) ∧ chkP l.toArray pl' (pre ++ sg) = true ∧ DT P l.toArray w0 X R Qf pl' A' M S ∧ A'.tmps.size = A.tmps.size ∧ A'.defers = A.defers ∧ (∀ k ∈ sg, k ∉ pre ∧ k < l.toArray.size) ∧
        (∀ t, (∀ (k : Nat) (o : Oper), k ∈ sg → l[k]? = some o → o.dst ≠ some t) → A'.tmps[t]? = A.tmps[t]?) ∧ Ev P l w0 X R (pre ++ sg) mk A' S
  | .done, pre, A, hc, hp, hd, hr, _ => ⟨[], .done, A, rfl, by simpa using hc, by simpa using hp, hd, rfl, rfl, by simp, fun _ _ => rfl, by simpa using hr⟩
  | .m1 i t, pre, A, hc, hp, hd, hr, _ => ⟨[], .m1 i t, A, rfl, by simpa using hc, by simpa using hp, hd, rfl, rfl, by simp, fun _ _ => rfl, by simpa using hr⟩
  | .m2 i t j u, pre, A, hc, hp, hd, hr, _ => ⟨[], .m2 i t j u, A, rfl, by simpa using hc, by simpa using hp, hd, rfl, rfl, by simp, fun _ _ => rfl, by simpa using hr⟩
  | .rd i t, pre, A, hc, hp, hd, hr, hm => by
    simp only [chkP, Bool.and_eq_true] at hp
    obtain ⟨hs, hp⟩ := hp
    obtain ⟨hc', hip, hin, hdeps⟩ := hc.snoc hs
    obtain ⟨o, ho, hd⟩ := hd
    have ho' : l[i]? = some o := by simpa using ho
    have hsel : ∀ cs bb, o.op ≠ .select cs bb := fun cs bb => Region.noSelect_spec hk.ns i o cs bb ho
    have hself := selfP hk hin ho' hip (hdeps o ho')
    have hst : ∃ v, RG P l.toArray w0 X R S A o v ∧ DT P l.toArray w0 X R Qf t (A.put o.dst v) M S := by
      by_cases hw : Region.wanted o (yielded l.toArray A.tmps) = true
      · rw [if_pos hw] at hd
        obtain ⟨v, hv, hn⟩ := hd
        exact ⟨v, .inl ⟨hw, hv⟩, hn⟩
      · rw [if_neg hw] at hd
        exact ⟨undef, .inr ⟨by simpa using hw, rfl⟩, hd⟩
    obtain ⟨v, hg, hn⟩ := hst
    have hag : ∀ (ok : Oper), (∀ d, o.dst = some d → d ∉ ok.looksAt l.toArray) → Agrees l.toArray ok (A.put o.dst v) A := fun ok hok t ht => put_getElem? A o.dst v t fun e => hok t e ht
    obtain ⟨sg, pl', A', e1, e2, e3, e4, e5, e6, e7, e8, e9⟩ := segP hk t (pre ++ [i]) (A.put o.dst v) hc' hp hn (fun k ok hkp hok hkm => by
      rcases List.mem_append.1 hkp with hkp | hkp
      · obtain ⟨u, hu, hud⟩ := hr k ok hkp hok hkm
        have hkk := keepP hk hc hip hin ho' hkp hok
        exact ⟨u, hu.of_same (hag ok hkk.1) (fun cs bb => Region.noSelect_spec hk.ns k ok cs bb (by simpa using hok)) (List.Sublist.refl _), fun d hd' => by
          rw [put_getElem? A o.dst v d (hkk.2 d hd'), put_size]; exact hud d hd'⟩
      · obtain rfl : k = i := by simpa using hkp
        obtain rfl : o = ok := Option.some.inj (ho'.symm.trans hok)
        exact ⟨v, hg.of_same (hag o hself) hsel (List.Sublist.refl _), fun d hd' => by rw [hd', put_same, Act.put]; simp⟩) (fun k hkm => List.mem_append_left _ (hm k hkm))
    refine ⟨i :: sg, pl', A', e1, by simpa using e2, by simpa using e3, e4, by rw [e5, put_size], by rw [e6, put_defers], fun k hkm => ?_, fun t ht => ?_, by simpa using e9⟩
    · rcases List.mem_cons.1 hkm with rfl | hkm
      · exact ⟨hip, hin⟩
      · exact ⟨fun h => (e7 k hkm).1 (List.mem_append_left _ h), (e7 k hkm).2⟩
    · rw [e8 t fun k ok hkm => ht k ok (List.mem_cons_of_mem _ hkm)]
      exact put_getElem? A o.dst v t (ht i o List.mem_cons_self ho')

structure PInv (P : Program) (l : List Oper) (w0 : World) (X : Fr) (R : List Win) (Qf : Act → List OB → Prop) (pre mk : List Nat) (pl : Plan) (A : Act) (M S : List OB) (listed : Array Bool) (b : Act) (w : World) : Prop where
  hi : HeadInv .any l.toArray l.toArray.size listed
  still : pl.still = true
  cl : Cl l pre
  ck : chkP l.toArray pl pre = true
  dt : DT P l.toArray w0 X R Qf pl A M S
  sub : ∀ k ∈ mk, k ∈ pre
  imp : ∀ k ∈ mk, listed.getD k false = true
  done : ∀ k, k < l.toArray.size → listed.getD k false = true → k ∈ pre
  size : b.tmps.size = A.tmps.size
  defers : b.defers = A.defers
  rep : Rep w0 X R (M ++ S) w
  un : ∀ t, (∀ (k : Nat) (o : Oper), k < l.toArray.size → l[k]? = some o → o.dst ≠ some t) → b.tmps[t]? = A.tmps[t]?
  got : ∀ (k : Nat) (o : Oper), k ∈ pre → l[k]? = some o → listed.getD k false = true → ∀ d, o.dst = some d → b.tmps[d]? = A.tmps[d]?
  ev : Ev P l w0 X R pre mk A S

section
variable {l : List Oper} {Qf : Act → List OB → Prop} {Q : Exit → Act → World → Prop} {pre mk : List Nat} {pl : Plan} {A : Act} {M S : List OB} {listed : Array Bool} {b : Act} {w : World}
theorem PInv.agrees (hk : TOk l) (inv : PInv P l w0 X R Qf pre mk pl A M S listed b w) {i : Nat} {o : Oper} (hin : i < l.toArray.size) (ho : l[i]? = some o) (hdep : ∀ e ∈ o.after, Region.binds .any e = true → listed.getD e.on false = true) : Agrees l.toArray o b A := by
  intro t ht
  obtain ⟨o', ho', h2⟩ := okS_spec (hk.ok i hin)
  obtain rfl : o = o' := Option.some.inj ((by simpa using ho : l.toArray[i]? = some o).symm.trans ho')
  by_cases hex : ∃ (k : Nat) (o' : Oper), k < l.toArray.size ∧ l[k]? = some o' ∧ o'.dst = some t
  · obtain ⟨k, o', hkn, hko, hkd⟩ := hex
    obtain ⟨e, he, hb, hon⟩ := (h2 k o' hkn (by simpa using hko) t hkd).2 ht
    have hl := hdep e he hb
    rw [hon] at hl
    exact inv.got k o' (inv.done k hkn hl) hko hl t hkd
  · exact inv.un t fun k o' hkn hko hkd => hex ⟨k, o', hkn, hko, hkd⟩
/-- Behind a maker. -/
theorem PInv.later (hk : TOk l) (inv : PInv P l w0 X R Qf pre mk pl A M S listed b w) {i : Nat} {o : Oper} {t : Plan} (hi : i ∈ Region.ready .any l.toArray listed) (ho : l[i]? = some o) (hs : stepP l.toArray pre i = true) (hp : chkP l.toArray t (pre ++ [i]) = true)
    {v : Value} {M' S' : List OB} {w' : World} (hS : S.Sublist S') (hR : Rep w0 X R (M' ++ S') w') (hD : DT P l.toArray w0 X R Qf t (A.put o.dst v) M' S') :
    ∃ pre mk pl A M S, PInv P l w0 X R Qf pre mk pl A M S (listed.setIfInBounds i true) (b.put o.dst v) w' := by
  obtain ⟨hc', hip, hin, hdeps⟩ := inv.cl.snoc hs
  have hil : i < listed.size := by rw [inv.hi.size]; exact hin
  have hself : (listed.setIfInBounds i true).getD i false = true := by simp [Array.getD, hil]
  obtain ⟨o2, ho2, h2⟩ := okS_spec (hk.ok i hin)
  obtain rfl : o = o2 := Option.some.inj ((by simpa using ho : l.toArray[i]? = some o).symm.trans ho2)
  have hne : ∀ (k : Nat) (ok : Oper), k < l.toArray.size → l[k]? = some ok → k ≠ i → ∀ d, ok.dst = some d → o.dst ≠ some d := fun k ok hkn hok hki d hd => (h2 k ok hkn (by simpa using hok) d hd).1 hki
  obtain ⟨sg, pl', A', e1, e2, e3, e4, e5, e6, e7, e8, e9⟩ := segP (mk := i :: mk) hk t (pre ++ [i]) (A.put o.dst v) hc' hp hD (fun k ok hkp hok hkm => by
    rcases List.mem_append.1 hkp with hkp | hkp
    · obtain ⟨u, hu, hud⟩ := inv.ev k ok hkp hok (fun h => hkm (List.mem_cons_of_mem _ h))
      have hkk := keepP hk inv.cl hip hin ho hkp hok
      exact ⟨u, hu.of_same (fun t ht => put_getElem? A o.dst v t fun e => hkk.1 t e ht) (fun cs bb => Region.noSelect_spec hk.ns k ok cs bb (by simpa using hok)) hS, fun d hd' => by
        rw [put_getElem? A o.dst v d (hkk.2 d hd'), put_size]; exact hud d hd'⟩
    · obtain rfl : k = i := by simpa using hkp
      exact absurd List.mem_cons_self hkm) (fun k hkm => by
    rcases List.mem_cons.1 hkm with rfl | hkm
    · simp
    · exact List.mem_append_left _ (inv.sub k hkm))
  have hsgd : ∀ k ∈ sg, listed.getD k false = true → False := fun k hkm hl => (e7 k hkm).1 (List.mem_append_left _ (inv.done k (e7 k hkm).2 hl))
  have hisg : i ∉ sg := fun hm => (e7 i hm).1 (by simp)
  refine ⟨pre ++ [i] ++ sg, i :: mk, pl', A', M', S', inv.hi.set hi hin, e1, e2, e3, e4, fun k hkm => ?_, fun k hkm => ?_, fun k hkn hkl => ?_, by rw [put_size, e5, put_size]; exact inv.size, by rw [put_defers, e6, put_defers]; exact inv.defers, hR, fun t ht => ?_, fun k ok hkp hok hkl d hd' => ?_, e9⟩
  · rcases List.mem_cons.1 hkm with rfl | hkm
    · simp
    · simp [inv.sub k hkm]
  · rcases List.mem_cons.1 hkm with rfl | hkm
    · exact hself
    · exact getD_set_true (inv.imp k hkm)
  · by_cases hki : k = i
    · subst hki; simp
    · have := inv.done k hkn (getD_set_self hkl (Ne.symm hki)); simp [this]
  · rw [put_getElem? b o.dst v t (ht i o hin ho), e8 t (fun k ok hkm hok => ht k ok (e7 k hkm).2 hok), put_getElem? A o.dst v t (ht i o hin ho)]
    exact inv.un t ht
  · have hkn : k < l.toArray.size := e2.1 k hkp
    have hnsg : k ∉ sg := fun hm => by
      by_cases hki : k = i
      · subst hki; exact hisg hm
      · exact hsgd k hm (getD_set_self hkl (Ne.symm hki))
    rw [e8 d (fun k2 ok2 hkm2 hok2 e => by
      obtain ⟨ok', hok', g2⟩ := okS_spec (hk.ok k2 (e7 k2 hkm2).2)
      obtain rfl : ok2 = ok' := Option.some.inj ((by simpa using hok2 : l.toArray[k2]? = some ok2).symm.trans hok')
      exact (g2 k ok hkn (by simpa using hok) d hd').1 (fun e2 => hnsg (e2 ▸ hkm2)) e)]
    by_cases hki : k = i
    · subst hki
      obtain rfl : ok = o := Option.some.inj (hok.symm.trans ho)
      rw [hd', put_same, put_same, inv.size]
    · have hkp' : k ∈ pre := by
        rcases List.mem_append.1 hkp with hkp | hkp
        · rcases List.mem_append.1 hkp with hkp | hkp
          · exact hkp
          · exact absurd (by simpa using hkp) hki
        · exact absurd hkp hnsg
      rw [put_getElem? b o.dst v d (hne k ok hkn hok hki d hd'), put_getElem? A o.dst v d (hne k ok hkn hok hki d hd')]
      exact inv.got k ok hkp' hok (getD_set_self hkl (Ne.symm hki)) d hd'
theorem PInv.maker (hk : TOk l) (inv : PInv P l w0 X R Qf pre mk pl A M S listed b w) {i : Nat} {t : Plan} (hi : i ∈ Region.ready .any l.toArray listed) (hs : stepP l.toArray pre i = true) (hp : chkP l.toArray t (pre ++ [i]) = true) (hd : MSt P l.toArray w0 X R i A M S (DT P l.toArray w0 X R Qf t)) :
    wpOp P l.toArray Q i (fun b' w' => ∃ pre mk pl A M S, PInv P l w0 X R Qf pre mk pl A M S (listed.setIfInBounds i true) b' w') b w := by
  obtain ⟨hun, o, ho, hdep⟩ := mem_ready.1 hi
  have ho' : l[i]? = some o := by simpa using ho
  have hin : i < l.toArray.size := (Array.getElem?_eq_some_iff.1 ho).1
  have hag := inv.agrees hk hin ho' hdep
  have hsel : ∀ cs bb, o.op ≠ .select cs bb := fun cs bb => Region.noSelect_spec hk.ns i o cs bb ho
  obtain ⟨o3, ho3, hd⟩ := hd
  obtain rfl : o = o3 := Option.some.inj (ho.symm.trans ho3)
  unfold wpOp
  simp only [ho]
  rw [hag.wanted]
  by_cases hw : Region.wanted o (yielded l.toArray A.tmps) = true
  · rw [if_pos hw] at hd
    simp only [hw, if_true]
    refine .inl ?_
    have h5 := hd w inv.rep
    unfold Oper.wp
    rw [hag.exec hsel]
    generalize (execOp A.eval o).run P w = res at h5 ⊢
    cases res with
    | ok nx w' =>
      cases nx <;> simp only [MUp] at h5 <;> simp only [Oper.upon]
      case value v => obtain ⟨M', S', h6, h7, h8⟩ := h5; exact inv.later hk hi ho' hs hp h6 h7 h8
      case skip => obtain ⟨M', S', h6, h7, h8⟩ := h5; exact inv.later hk hi ho' hs hp h6 h7 h8
      case enter f args =>
        obtain ⟨rfl, hc⟩ := h5
        exact hc.mono fun e w'' ⟨v, M', S', he, h6, h7, h8⟩ => by subst he; exact inv.later hk hi ho' hs hp h6 h7 h8
    | halt x w' => simp only [MUp] at h5
  · rw [if_neg hw] at hd
    simp only [hw, Bool.false_eq_true, if_false]
    exact inv.later hk hi ho' hs hp (List.Sublist.refl _) inv.rep hd
theorem PInv.step (hk : TOk l) (inv : PInv P l w0 X R Qf pre mk pl A M S listed b w) {i : Nat} (hi : i ∈ Region.ready .any l.toArray listed) :
    wpOp P l.toArray Q i (fun b' w' => ∃ pre mk pl A M S, PInv P l w0 X R Qf pre mk pl A M S (listed.setIfInBounds i true) b' w') b w := by
  obtain ⟨hun, o, ho, hdep⟩ := mem_ready.1 hi
  have ho' : l[i]? = some o := by simpa using ho
  have hin : i < l.toArray.size := (Array.getElem?_eq_some_iff.1 ho).1
  by_cases hip : i ∈ pre
  · have hag := inv.agrees hk hin ho' hdep
    have hsel : ∀ cs bb, o.op ≠ .select cs bb := fun cs bb => Region.noSelect_spec hk.ns i o cs bb ho
    have himf : i ∉ mk := fun hm => by have := inv.imp i hm; rw [getD_both hun] at this; cases this
    obtain ⟨o2, ho2, h2⟩ := okS_spec (hk.ok i hin)
    obtain rfl : o = o2 := Option.some.inj (ho.symm.trans ho2)
    have hne : ∀ (k : Nat) (ok : Oper), k < l.toArray.size → l[k]? = some ok → k ≠ i → ∀ d, ok.dst = some d → o.dst ≠ some d := fun k ok hkn hok hki d hd => (h2 k ok hkn (by simpa using hok) d hd).1 hki
    obtain ⟨v, hg, hA⟩ := inv.ev i o hip ho' himf
    have hg' := hg.of_same hag hsel (List.Sublist.refl _)
    have fin : ∃ pre mk pl A M S, PInv P l w0 X R Qf pre mk pl A M S (listed.setIfInBounds i true) (b.put o.dst v) w := by
      refine ⟨pre, mk, pl, A, M, S, inv.hi.set hi hin, inv.still, inv.cl, inv.ck, inv.dt, inv.sub, fun k hkm => getD_set_true (inv.imp k hkm), fun k hkn hkl => ?_, by rw [put_size]; exact inv.size, by rw [put_defers]; exact inv.defers, inv.rep, fun t ht => ?_, fun k ok hkp hok hkl d hd => ?_, inv.ev⟩
      · by_cases hki : k = i
        · subst hki; exact hip
        · exact inv.done k hkn (getD_set_self hkl (Ne.symm hki))
      · rw [put_getElem? b o.dst v t (ht i o hin ho')]; exact inv.un t ht
      · by_cases hki : k = i
        · subst hki
          obtain rfl : ok = o := Option.some.inj (hok.symm.trans ho')
          rw [hd, put_same, hA d hd, inv.size]
        · rw [put_getElem? b o.dst v d (hne k ok (inv.cl.1 k hkp) hok hki d hd)]
          exact inv.got k ok hkp hok (getD_set_self hkl (Ne.symm hki)) d hd
    unfold wpOp
    simp only [ho]
    rcases hg' with ⟨hw, hv⟩ | ⟨hw, rfl⟩
    · simp only [hw, if_true]
      refine .inl ?_
      unfold Oper.wp
      have hrep : Rep w0 X R S w := inv.rep.sub (List.sublist_append_right _ _)
      rw [hv w hrep]
      exact fin
    · simp only [hw, Bool.false_eq_true, if_false]
      exact fin
  · have hdi : depsIn l.toArray pre i = true := depsIn_of ho fun e he hb => by
      have hl := hdep e he hb
      have hlt : e.on < l.toArray.size := by
        rcases Nat.lt_or_ge e.on listed.size with h | h
        · rw [← inv.hi.size]; exact h
        · simp [Array.getD, Nat.not_lt.2 h] at hl
      exact inv.done e.on hlt hl
    have hwait : ∀ c, waitsP l.toArray pre c = true → i ∈ c := fun c hc => by
      have := List.all_eq_true.1 hc i (List.mem_range.2 hin)
      simpa [hip, hdi] using this
    have hck := inv.ck
    have hdt := inv.dt
    cases pl with
    | done =>
      have := List.all_eq_true.1 hck i (List.mem_range.2 hin)
      exact absurd (by simpa using this) hip
    | rd j t => exact absurd inv.still (by simp [Plan.still])
    | m1 j t =>
      simp only [chkP, Bool.and_eq_true] at hck
      obtain rfl : i = j := by simpa using hwait _ hck.1.1
      exact inv.maker hk hi hck.1.2 hck.2 hdt
    | m2 j t q u =>
      simp only [chkP, Bool.and_eq_true] at hck
      have hm := hwait _ hck.1.1.1.1
      rcases List.mem_cons.1 hm with rfl | hm
      · exact inv.maker hk hi hck.1.1.1.2 hck.1.1.2 hdt.1
      · obtain rfl : i = q := by simpa using hm
        exact inv.maker hk hi hck.1.2 hck.2 hdt.2
theorem wpAny_T (hk : TOk l) (hQ : ∀ A S w, Qf A S → Rep w0 X R S w → Q .normal A w) :
    ∀ (m : Nat) (listed : Array Bool) (b : Act) (w : World), leftOf l.toArray.size listed = m → (∃ pre mk pl A M S, PInv P l w0 X R Qf pre mk pl A M S listed b w) → wpAny P .any l.toArray Q m listed b w
  | 0, listed, b, w, hm, ⟨pre, mk, pl, A, M, S, inv⟩ => by
    have hall := all_of_left hm
    have hin : ∀ k, k < l.toArray.size → k ∈ pre := fun k hkn => inv.done k hkn (hall k hkn)
    have hstep : ∀ i, stepP l.toArray pre i = true → False := fun i hs => by
      obtain ⟨-, h1, h2, -⟩ := inv.cl.snoc hs
      exact h1 (hin i h2)
    have hck := inv.ck
    have hdt := inv.dt
    obtain rfl : pl = .done := by
      cases pl with
      | done => rfl
      | rd j t => exact absurd inv.still (by simp [Plan.still])
      | m1 j t => simp only [chkP, Bool.and_eq_true] at hck; exact (hstep j hck.1.2).elim
      | m2 j t q u => simp only [chkP, Bool.and_eq_true] at hck; exact (hstep j hck.1.1.1.2).elim
    have hb : b = A := act_ext inv.size inv.defers fun t => by
      by_cases hex : ∃ (k : Nat) (o' : Oper), k < l.toArray.size ∧ l[k]? = some o' ∧ o'.dst = some t
      · obtain ⟨k, o', hkn, hko, hkd⟩ := hex
        exact inv.got k o' (hin k hkn) hko (hall k hkn) t hkd
      · exact inv.un t fun k o' hkn hko hkd => hex ⟨k, o', hkn, hko, hkd⟩
    subst hb
    refine ⟨?_, hQ b _ w hdt inv.rep⟩
    apply List.eq_nil_iff_forall_not_mem.2
    intro k hkm
    obtain ⟨h1, o, ho, -⟩ := mem_ready.1 hkm
    have h2 := hall k (Array.getElem?_eq_some_iff.1 ho).1
    rw [getD_both h1] at h2; cases h2
  | m + 1, listed, b, w, hm, ⟨pre, mk, pl, A, M, S, inv⟩ => by
    have hex : ∃ k, k < l.toArray.size ∧ listed.getD k false = false := by
      obtain ⟨k, hkn, hkf, -⟩ := least_left (n := l.toArray.size) (listed := listed) (by omega)
      exact ⟨k, hkn, hkf⟩
    have hready : ∀ k, k < l.toArray.size → listed.getD k false = false → (∀ o, l.toArray[k]? = some o → ∀ e ∈ o.after, Region.binds .any e = true → listed.getD e.on false = true) → k ∈ Region.ready .any l.toArray listed := fun k hkn hkf hd =>
      mem_ready.2 ⟨getD_in (by rw [inv.hi.size]; omega) hkf, l.toArray[k], Array.getElem?_eq_getElem hkn, hd _ (Array.getElem?_eq_getElem hkn)⟩
    obtain ⟨k, hkr⟩ : ∃ k, k ∈ Region.ready .any l.toArray listed := by
      by_cases hpre : ∃ k, k ∈ pre ∧ listed.getD k false = false
      · obtain ⟨k, hkp, hkf⟩ := hpre
        generalize hp : pre.idxOf k = p
        induction p using Nat.strongRecOn generalizing k with
        | _ p ih =>
          by_cases hall : ∀ o, l.toArray[k]? = some o → ∀ e ∈ o.after, Region.binds .any e = true → listed.getD e.on false = true
          · exact ⟨k, hready k (inv.cl.1 k hkp) hkf hall⟩
          · have : ∃ o, l.toArray[k]? = some o ∧ ∃ e, e ∈ o.after ∧ Region.binds .any e = true ∧ listed.getD e.on false = false := by
              apply Classical.byContradiction
              intro hno
              apply hall
              intro o ho e he hb
              cases e' : listed.getD e.on false with
              | true => rfl
              | false => exact absurd ⟨o, ho, e, he, hb, e'⟩ hno
            obtain ⟨o, ho, e, he, hb, hef⟩ := this
            have hlt := inv.cl.2 k hkp o (by simpa using ho) e he hb
            exact ih (pre.idxOf e.on) (by omega) e.on (inv.cl.mem hkp (by simpa using ho) he hb) hef rfl
      · have hall : ∀ k ∈ pre, listed.getD k false = true := fun k hkp => by
          cases e' : listed.getD k false with
          | true => rfl
          | false => exact absurd ⟨k, hkp, e'⟩ hpre
        have hgo : ∀ i, stepP l.toArray pre i = true → i ∈ Region.ready .any l.toArray listed := fun i hs => by
          obtain ⟨-, h1, h2, h3⟩ := inv.cl.snoc hs
          refine hready i h2 ?_ fun o ho e he hb => hall _ (h3 o (by simpa using ho) e he hb)
          cases e' : listed.getD i false with
          | false => rfl
          | true => exact absurd (inv.done i h2 e') h1
        have hck := inv.ck
        cases pl with
        | done =>
          obtain ⟨k, hkn, hkf⟩ := hex
          have := List.all_eq_true.1 hck k (List.mem_range.2 hkn)
          rw [hall k (by simpa using this)] at hkf; cases hkf
        | rd j t => exact absurd inv.still (by simp [Plan.still])
        | m1 j t => simp only [chkP, Bool.and_eq_true] at hck; exact ⟨j, hgo j hck.1.2⟩
        | m2 j t q u => simp only [chkP, Bool.and_eq_true] at hck; exact ⟨j, hgo j hck.1.1.1.2⟩
    refine ⟨fun h0 => (by rw [h0] at hkr; cases hkr), fun i hi => ?_⟩
    have hun := (mem_ready.1 hi).1
    obtain ⟨-, o, ho, -⟩ := mem_ready.1 hi
    have hin : i < l.toArray.size := (Array.getElem?_eq_some_iff.1 ho).1
    refine wpOp_mono (fun b' w' inv' => wpAny_T hk hQ m _ b' w' ?_ inv') (inv.step hk hi)
    have := leftOf_set (n := l.toArray.size) hin (by rw [inv.hi.size]; omega) (getD_both hun)
    omega
/-- **A region that draws its order, by a plan; QI tells what holds at its end, whatever way was gone.** -/
theorem wp_region_T {id : Nat} {a : Act} (pl : Plan) (QI : Act → World → Prop) (hR : Rep w0 X R S w) (hm : P.follows .mixedOrders = true) (hchk : chkT l.toArray pl = true)
    (h : DT P l.toArray w0 X R (fun A S => ∀ w, Rep w0 X R S w → QI A w) pl a [] S) (hq : ∀ A w, QI A w → Q .normal A w) : (Code.region id l.toArray true).wp P Q a w := by
  simp only [chkT, Bool.and_eq_true] at hchk
  obtain ⟨⟨hns, h1⟩, h2⟩ := hchk
  have hk : TOk l := ⟨hns, fun k hkn => List.all_eq_true.1 h1 k (List.mem_range.2 hkn)⟩
  refine wp_region_any hm ?_
  obtain ⟨sg, pl', A', e1, e2, e3, e4, e5, e6, e7, e8, e9⟩ := segP (mk := []) hk pl [] a ⟨by simp, by simp⟩ h2 h (fun k o hkm => by cases hkm) (by simp)
  have inv0 : PInv P l w0 X R (fun A S => ∀ w, Rep w0 X R S w → QI A w) ([] ++ sg) [] pl' A' [] S (Array.replicate l.toArray.size false) a { w with drawn := w.drawn + 1 } :=
    ⟨⟨by simp, fun j oj _ hl => (by rw [getD_replicate_false] at hl; cases hl), fun t h1 h2 => by omega⟩, e1, e2, e3, e4, by simp, by simp, fun k _ hl => (by rw [getD_replicate_false] at hl; cases hl), e5.symm, e6.symm, hR.kp0 ((Kp.refl _ _).drew), fun t ht => (e8 t fun k o hkm hok => ht k o (e7 k hkm).2 hok).symm,
      fun k o _ _ hl => (by rw [getD_replicate_false] at hl; cases hl), e9⟩
  have hleft : leftOf l.toArray.size (Array.replicate l.toArray.size false) = l.toArray.size := by
    unfold leftOf
    rw [List.filter_eq_self.2 (fun k _ => by rw [getD_replicate_false]; rfl), List.length_range]
  exact wpAny_T hk (fun A S w hA hR => hq A w (hA w hR)) _ _ a _ hleft ⟨_, _, _, _, _, _, inv0⟩
end
end
attribute [irreducible] DT MSt
end Go.Proofs.YtddjhemncniidaaDoor
