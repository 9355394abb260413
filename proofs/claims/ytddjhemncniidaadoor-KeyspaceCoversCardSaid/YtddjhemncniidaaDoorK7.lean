/-
  A region that draws its order and makes memory on its way: the operations that make memory stand in one order by their edges; those that only read come up anywhere. One walk in one order ('ci') serves every order.
-/
import Derived.Test.YtddjhemncniidaaDoorK4
namespace Go.Proofs.YtddjhemncniidaaDoor
set_option linter.unusedSimpArgs false
set_option linter.unusedVariables false
open Go.RowKit

/-- The last of the makers im ahead of k in the order ci. -/
def lastImp (im : List Nat) (k : Nat) : List Nat → Option Nat → Option Nat
  | [], _ => none
  | i :: r, q => if i == k then q else lastImp im k r (if im.contains i then some i else q)
def okOp (ops : Array Oper) (n : Nat) (ci im : List Nat) (k : Nat) : Bool :=
  match ops[k]? with
  | none => false
  | some o =>
    (o.after.all fun e => !Region.binds .any e || decide (ci.idxOf e.on < ci.idxOf k)) &&
    ((List.range n).all fun j => match ops[j]? with
      | none => true
      | some oj => match oj.dst with
        | none => true
        | some d => (j == k || o.dst != some d) && (!(o.looksAt ops).contains d || o.after.any fun e => Region.binds .any e && e.on == j)) &&
    (match lastImp im k ci none with
      | none => true
      | some q => o.after.any fun e => Region.binds .any e && (e.on == q || (!im.contains e.on && lastImp im e.on ci none == some q)))
def chkC (ops : Array Oper) (n : Nat) (ci im : List Nat) : Bool :=
  Region.noSelect ops && decide (n < ops.size) && Region.sinkB .any ops n && Region.chainB .any ops n &&
  Region.seqB .any ops (ops.size - n) n ((Array.range ops.size).map fun i => decide (i < n)) &&
  ((List.range n).all fun k => ci.contains k) && (ci.all fun k => decide (k < n)) && decide ci.Nodup &&
  (List.range n).all fun k => okOp ops n ci im k

section
variable {P : Program} {w0 : World} {X : Fr} {R : List Win}

/-- A maker's outcome. -/
def IUp (P : Program) (w0 : World) (X : Fr) (R : List Win) (S : List OB) (next : Value → List OB → Prop) (w : World) : Result Next → Prop
  | .ok (.value v) w' => ∃ N, Rep w0 X R (N ++ S) w' ∧ next v (N ++ S)
  | .ok (.enter f args) w' => w' = w ∧ Calls P f args w (fun e w'' => ∃ v N, e = .returned v ∧ Rep w0 X R (N ++ S) w'' ∧ next v (N ++ S))
  | _ => False
/-- One operation that only reads. -/
def RSt (P : Program) (w0 : World) (X : Fr) (R : List Win) (o : Oper) (a : Act) (S : List OB) (next : Act → Prop) : Prop := ∃ v, (∀ w, Rep w0 X R S w → (execOp a.eval o).run P w = .ok (.value v) w) ∧ next (a.put o.dst v)
/-- One maker. -/
def ISt (P : Program) (w0 : World) (X : Fr) (R : List Win) (o : Oper) (a : Act) (S : List OB) (next : Act → List OB → Prop) : Prop := ∀ w, Rep w0 X R S w → IUp P w0 X R S (fun v S' => next (a.put o.dst v) S') w ((execOp a.eval o).run P w)
def DC (P : Program) (L : Array Oper) (w0 : World) (X : Fr) (R : List Win) (im : List Nat) (Qf : Act → List OB → Prop) : List Nat → Act → List OB → Prop
  | [], a, S => Qf a S
  | i :: r, a, S => ∃ o, L[i]? = some o ∧ if Region.wanted o (yielded L a.tmps) then (if im.contains i then ISt P w0 X R o a S (DC P L w0 X R im Qf r) else RSt P w0 X R o a S fun a' => DC P L w0 X R im Qf r a' S) else DC P L w0 X R im Qf r (a.put o.dst undef) S

/-- In frame A, over the blocks S, the reader o yields v. -/
def RG (P : Program) (L : Array Oper) (w0 : World) (X : Fr) (R : List Win) (S : List OB) (A : Act) (o : Oper) (v : Value) : Prop :=
  (Region.wanted o (yielded L A.tmps) = true ∧ ∀ w, Rep w0 X R S w → (execOp A.eval o).run P w = .ok (.value v) w) ∨ (Region.wanted o (yielded L A.tmps) = false ∧ v = undef)

theorem RG.of_same {L : Array Oper} {S S' : List OB} {A A' : Act} {o : Oper} {v : Value} (h : RG P L w0 X R S A o v) (hag : Agrees L o A' A) (hs : ∀ cs bb, o.op ≠ .select cs bb) (hS : S.Sublist S') : RG P L w0 X R S' A' o v := by
  unfold RG at *
  rw [hag.wanted, hag.exec hs]
  rcases h with ⟨h1, h2⟩ | h
  · exact .inl ⟨h1, fun w hR => h2 w (hR.sub hS)⟩
  · exact .inr h

structure CInv (P : Program) (l : List Oper) (n : Nat) (ci im : List Nat) (w0 : World) (X : Fr) (R : List Win) (Qf : Act → List OB → Prop) (pre rest : List Nat) (A : Act) (S : List OB) (listed : Array Bool) (b : Act) (w : World) : Prop where
  hi : HeadInv .any l.toArray n listed
  eq : ci = pre ++ rest
  hd : ∀ i r, rest = i :: r → im.contains i = true
  dc : DC P l.toArray w0 X R im Qf rest A S
  done : ∀ k, k < n → listed.getD k false = true → k ∈ pre
  imp : ∀ k ∈ pre, im.contains k = true → listed.getD k false = true
  size : b.tmps.size = A.tmps.size
  defers : b.defers = A.defers
  rep : Rep w0 X R S w
  un : ∀ t, (∀ (k : Nat) (o : Oper), k < n → l[k]? = some o → o.dst ≠ some t) → b.tmps[t]? = A.tmps[t]?
  got : ∀ (k : Nat) (o : Oper), k ∈ pre → l[k]? = some o → listed.getD k false = true → ∀ d, o.dst = some d → b.tmps[d]? = A.tmps[d]?
  rd : ∀ (k : Nat) (o : Oper), k ∈ pre → l[k]? = some o → im.contains k = false → ∃ v, RG P l.toArray w0 X R S A o v ∧ ∀ d, o.dst = some d → A.tmps[d]? = if d < A.tmps.size then some v else none

structure OkF (l : List Oper) (n : Nat) (ci im : List Nat) : Prop where
  ns : Region.noSelect l.toArray = true
  mem : ∀ k, k < n → k ∈ ci
  lt : ∀ k ∈ ci, k < n
  nd : ci.Nodup
  ok : ∀ k, k < n → okOp l.toArray n ci im k = true

theorem okOp_spec {ops : Array Oper} {n k : Nat} {ci im : List Nat} (h : okOp ops n ci im k = true) : ∃ o, ops[k]? = some o ∧
    (∀ e ∈ o.after, Region.binds .any e = true → ci.idxOf e.on < ci.idxOf k) ∧
    (∀ j oj, j < n → ops[j]? = some oj → ∀ d, oj.dst = some d → (j ≠ k → o.dst ≠ some d) ∧ (d ∈ o.looksAt ops → ∃ e ∈ o.after, Region.binds .any e = true ∧ e.on = j)) ∧
    (∀ q, lastImp im k ci none = some q → ∃ e ∈ o.after, Region.binds .any e = true ∧ (e.on = q ∨ (im.contains e.on = false ∧ lastImp im e.on ci none = some q))) := by
  unfold okOp at h
  cases ho : ops[k]? with
  | none => simp [ho] at h
  | some o =>
    simp only [ho, Bool.and_eq_true] at h
    obtain ⟨⟨h1, h2⟩, h3⟩ := h
    refine ⟨o, rfl, fun e he hb => ?_, fun j oj hj hoj d hd => ?_, fun q hq => ?_⟩
    · have := Array.all_eq_true_iff_forall_mem.1 h1 e he
      simpa [hb] using this
    · have := List.all_eq_true.1 h2 j (List.mem_range.2 hj)
      simp only [hoj, hd, Bool.and_eq_true, Bool.or_eq_true, beq_iff_eq, bne_iff_ne, Bool.not_eq_true'] at this
      refine ⟨fun hne => this.1.resolve_left hne, fun hm => ?_⟩
      rcases this.2 with h | h
      · simp [hm] at h
      · obtain ⟨e, he, hb⟩ := Array.any_eq_true'.1 h
        simp only [Bool.and_eq_true, beq_iff_eq] at hb
        exact ⟨e, he, hb.1, hb.2⟩
    · simp only [hq] at h3
      obtain ⟨e, he, hb⟩ := Array.any_eq_true'.1 h3
      simp only [Bool.and_eq_true, Bool.or_eq_true, beq_iff_eq, Bool.not_eq_true'] at hb
      exact ⟨e, he, hb.1, hb.2⟩

/-- Whoever is done, the last maker ahead of it is done. -/
theorem last_done {l : List Oper} {n : Nat} {ci im : List Nat} (hk : OkF l n ci im) {listed : Array Bool} (hi : HeadInv .any l.toArray n listed) :
    ∀ (p k : Nat), ci.idxOf k = p → k < n → (∀ o, l[k]? = some o → ∀ e ∈ o.after, Region.binds .any e = true → listed.getD e.on false = true) → ∀ q, lastImp im k ci none = some q → listed.getD q false = true := by
  intro p
  induction p using Nat.strongRecOn with
  | _ p ih =>
    intro k hp hkn hdep q hq
    obtain ⟨o, ho, h1, h2, h3⟩ := okOp_spec (hk.ok k hkn)
    obtain ⟨e, he, hb, hor⟩ := h3 q hq
    have hl := hdep o (by simpa using ho) e he hb
    rcases hor with rfl | ⟨-, hq'⟩
    · exact hl
    · have hlt := h1 e he hb
      have hen : e.on < n := by
        have : e.on ∈ ci := by
          apply Classical.byContradiction
          intro hno
          have h5 : ci.idxOf e.on = ci.length := List.idxOf_eq_length hno
          have h6 := List.idxOf_lt_length_of_mem (hk.mem k hkn)
          omega
        exact hk.lt _ this
      refine ih (ci.idxOf e.on) (by omega) e.on rfl hen (fun o' ho' e' he' hb' => ?_) q hq'
      exact hi.closed e.on o' (by simpa using ho') hl e' he' hb'

theorem lastImp_mem {im : List Nat} {k : Nat} : ∀ (ci : List Nat) (q0 : Option Nat), k ∈ ci → ∀ (pre rest : List Nat), ci = pre ++ rest → k ∉ pre → (∀ i r, rest = i :: r → im.contains i = true) → (∀ i r, rest = i :: r → k ≠ i) → ∃ q, lastImp im k ci q0 = some q ∧ q ∈ rest := by
  intro ci
  induction ci with
  | nil => intro _ h; cases h
  | cons x ci ih =>
    intro q0 hk pre rest he hkp hh hne
    cases pre with
    | nil =>
      simp only [List.nil_append] at he
      subst he
      have hx := hne x ci rfl
      have hkc : k ∈ ci := by rcases List.mem_cons.1 hk with rfl | h; exact absurd rfl hx; exact h
      have hx' : (x == k) = false := by simpa using fun e => hx (Eq.symm e)
      have him := hh x ci rfl
      rw [lastImp, hx', him]
      simp only [Bool.false_eq_true, if_false, if_true]
      -- from here on: some maker of the rest
      have gen : ∀ (c : List Nat) (q : Nat), k ∈ c → ∃ q', lastImp im k c (some q) = some q' ∧ (q' = q ∨ q' ∈ c) := by
        intro c
        induction c with
        | nil => intro q h; cases h
        | cons y c ihc =>
          intro q h
          by_cases hyk : y = k
          · subst hyk; exact ⟨q, by simp [lastImp], .inl rfl⟩
          · have hkc' : k ∈ c := by rcases List.mem_cons.1 h with rfl | h; exact absurd rfl hyk; exact h
            have hy' : (y == k) = false := by simpa using hyk
            rw [lastImp, hy']
            simp only [Bool.false_eq_true, if_false]
            by_cases hy : im.contains y = true
            · rw [if_pos hy]
              obtain ⟨q', h1, h2⟩ := ihc y hkc'
              exact ⟨q', h1, by rcases h2 with rfl | h2; exact .inr List.mem_cons_self; exact .inr (List.mem_cons_of_mem _ h2)⟩
            · rw [if_neg hy]
              obtain ⟨q', h1, h2⟩ := ihc q hkc'
              exact ⟨q', h1, by rcases h2 with rfl | h2; exact .inl rfl; exact .inr (List.mem_cons_of_mem _ h2)⟩
      obtain ⟨q', h1, h2⟩ := gen ci x hkc
      exact ⟨q', h1, by rcases h2 with rfl | h2; exact List.mem_cons_self; exact List.mem_cons_of_mem _ h2⟩
    | cons y pre =>
      simp only [List.cons_append, List.cons.injEq] at he
      obtain ⟨rfl, rfl⟩ := he
      have hx : x ≠ k := fun e => hkp (e ▸ List.mem_cons_self)
      have hx' : (x == k) = false := by simpa using hx
      rw [lastImp, hx']
      simp only [Bool.false_eq_true, if_false]
      exact ih _ (by rcases List.mem_cons.1 hk with rfl | h; exact absurd rfl hx; exact h) pre rest rfl (fun h => hkp (List.mem_cons_of_mem _ h)) hh hne

/-- Readers up to the next maker. -/
theorem seg {l : List Oper} {n : Nat} {ci im : List Nat} {Qf : Act → List OB → Prop} (hk : OkF l n ci im) {S : List OB} :
    ∀ (r pre : List Nat) (A : Act), ci = pre ++ r → DC P l.toArray w0 X R im Qf r A S →
      (∀ (k : Nat) (o : Oper), k ∈ pre → l[k]? = some o → im.contains k = false → ∃ v, RG P l.toArray w0 X R S A o v ∧ ∀ d, o.dst = some d → A.tmps[d]? = if d < A.tmps.size then some v else none) →
      ∃ sg rest A', r = sg ++ rest ∧ (∀ k ∈ sg, im.contains k = false) ∧ (∀ i q, rest = i :: q → im.contains i = true) ∧ DC P l.toArray w0 X R im Qf rest A' S ∧ A'.tmps.size = A.tmps.size ∧ A'.defers = A.defers ∧
        (∀ t, (∀ (k : Nat) (o : Oper), k ∈ sg → l[k]? = some o → o.dst ≠ some t) → A'.tmps[t]? = A.tmps[t]?) ∧
        (∀ (k : Nat) (o : Oper), k ∈ pre ++ sg → l[k]? = some o → im.contains k = false → ∃ v, RG P l.toArray w0 X R S A' o v ∧ ∀ d, o.dst = some d → A'.tmps[d]? = if d < A'.tmps.size then some v else none)
  | [], pre, A, _, hd, hr => ⟨[], [], A, rfl, by simp, by simp, hd, rfl, rfl, fun _ _ => rfl, by simpa using hr⟩
  | i :: r, pre, A, he, hd, hr => by
    by_cases him : im.contains i = true
    · exact ⟨[], i :: r, A, rfl, by simp, by intro j q hj; simp only [List.cons.injEq] at hj; obtain ⟨rfl, -⟩ := hj; exact him, hd, rfl, rfl, fun _ _ => rfl, by simpa using hr⟩
    · have himf : im.contains i = false := by simpa using him
      obtain ⟨o, ho, hd⟩ := hd
      have hin : i < n := hk.lt i (by rw [he]; simp)
      obtain ⟨o', ho', h1, h2, -⟩ := okOp_spec (hk.ok i hin)
      obtain rfl : o = o' := Option.some.inj (ho.symm.trans ho')
      have hsel : ∀ cs bb, o.op ≠ .select cs bb := fun cs bb => Region.noSelect_spec hk.ns i o cs bb ho
      have hself : ∀ d, o.dst = some d → d ∉ o.looksAt l.toArray := fun d hd' hm => by
        obtain ⟨e, he', hb, hon⟩ := (h2 i o hin ho d hd').2 hm
        have := h1 e he' hb; rw [hon] at this; omega
      have hst : ∃ v, RG P l.toArray w0 X R S A o v ∧ DC P l.toArray w0 X R im Qf r (A.put o.dst v) S := by
        by_cases hw : Region.wanted o (yielded l.toArray A.tmps) = true
        · rw [if_pos hw, if_neg him] at hd
          obtain ⟨v, hv, hn⟩ := hd
          exact ⟨v, .inl ⟨hw, hv⟩, hn⟩
        · rw [if_neg hw] at hd
          exact ⟨undef, .inr ⟨by simpa using hw, rfl⟩, hd⟩
      obtain ⟨v, hg, hn⟩ := hst
      have hipre : i ∉ pre := by
        have := hk.nd; rw [he] at this
        exact fun hm => (List.nodup_append.1 this).2.2 i hm i List.mem_cons_self rfl
      -- what earlier readers look at is not written here
      have keep : ∀ (k : Nat) (ok : Oper), k ∈ pre → l[k]? = some ok → (∀ d, o.dst = some d → d ∉ ok.looksAt l.toArray) ∧ (∀ d, ok.dst = some d → o.dst ≠ some d) := by
        intro k ok hkp hok
        have hkn : k < n := hk.lt k (by rw [he]; simp [hkp])
        obtain ⟨ok', hok', g1, g2, -⟩ := okOp_spec (hk.ok k hkn)
        obtain rfl : ok = ok' := Option.some.inj ((by simpa using hok : l.toArray[k]? = some ok).symm.trans hok')
        refine ⟨fun d hd' hm => ?_, fun d hd' e => ?_⟩
        · obtain ⟨e, he', hb, hon⟩ := (g2 i o hin ho d hd').2 hm
          have := g1 e he' hb; rw [hon] at this
          -- i comes ahead of k, but k stands in pre
          have hk1 : ci.idxOf k < pre.length := by rw [he, List.idxOf_append, if_pos hkp]; exact List.idxOf_lt_length_of_mem hkp
          have hi1 : pre.length ≤ ci.idxOf i := by rw [he, List.idxOf_append, if_neg hipre]; omega
          omega
        · exact (g2 i o hin ho d e).1 (fun e2 => hipre (e2 ▸ hkp)) hd'
      have hag : ∀ (ok : Oper), (∀ d, o.dst = some d → d ∉ ok.looksAt l.toArray) → Agrees l.toArray ok (A.put o.dst v) A := fun ok hok t ht => put_getElem? A o.dst v t fun e => hok t e ht
      obtain ⟨sg, rest, A', rfl, e1, e2, e3, e4, e5, e6, e7⟩ := seg hk r (pre ++ [i]) (A.put o.dst v) (by simp [he]) hn (fun k ok hkp hok hki => by
        rcases List.mem_append.1 hkp with hkp | hkp
        · obtain ⟨u, hu, hud⟩ := hr k ok hkp hok hki
          have hkk := keep k ok hkp hok
          exact ⟨u, hu.of_same (hag ok hkk.1) (fun cs bb => Region.noSelect_spec hk.ns k ok cs bb (by simpa using hok)) (List.Sublist.refl _), fun d hd' => by
            rw [put_getElem? A o.dst v d (hkk.2 d hd'), put_size]; exact hud d hd'⟩
        · obtain rfl : k = i := by simpa using hkp
          obtain rfl : o = ok := Option.some.inj ((by simpa using ho : l[k]? = some o).symm.trans hok)
          exact ⟨v, hg.of_same (hag o hself) hsel (List.Sublist.refl _), fun d hd' => by rw [hd', put_same, Act.put]; simp⟩)
      refine ⟨i :: sg, rest, A', rfl, fun k hkm => ?_, e2, e3, by rw [e4, put_size], by rw [e5, put_defers], fun t ht => ?_, fun k ok hkm => ?_⟩
      · rcases List.mem_cons.1 hkm with rfl | hkm
        · exact himf
        · exact e1 k hkm
      · rw [e6 t fun k ok hkm => ht k ok (List.mem_cons_of_mem _ hkm)]
        exact put_getElem? A o.dst v t (ht i o List.mem_cons_self (by simpa using ho))
      · exact e7 k ok (by simpa using hkm)

section
variable {l : List Oper} {n : Nat} {ci im : List Nat} {Qf : Act → List OB → Prop} {Q : Exit → Act → World → Prop} {pre rest : List Nat} {A : Act} {S : List OB} {listed : Array Bool} {b : Act} {w : World}

theorem CInv.agrees (hk : OkF l n ci im) (inv : CInv P l n ci im w0 X R Qf pre rest A S listed b w) {i : Nat} {o : Oper} (hin : i < n) (ho : l[i]? = some o) (hdep : ∀ e ∈ o.after, Region.binds .any e = true → listed.getD e.on false = true) : Agrees l.toArray o b A := by
  intro t ht
  obtain ⟨o', ho', h1, h2, -⟩ := okOp_spec (hk.ok i hin)
  obtain rfl : o = o' := Option.some.inj ((by simpa using ho : l.toArray[i]? = some o).symm.trans ho')
  by_cases hex : ∃ (k : Nat) (o' : Oper), k < n ∧ l[k]? = some o' ∧ o'.dst = some t
  · obtain ⟨k, o', hkn, hko, hkd⟩ := hex
    obtain ⟨e, he, hb, hon⟩ := (h2 k o' hkn (by simpa using hko) t hkd).2 ht
    have hl := hdep e he hb
    rw [hon] at hl
    exact inv.got k o' (inv.done k hkn hl) hko hl t hkd
  · exact inv.un t fun k o' hkn hko hkd => hex ⟨k, o', hkn, hko, hkd⟩

theorem CInv.step (hk : OkF l n ci im) (inv : CInv P l n ci im w0 X R Qf pre rest A S listed b w) {i : Nat} (hi : i ∈ Region.ready .any l.toArray listed) (hin : i < n) :
    wpOp P l.toArray Q i (fun b' w' => ∃ pre rest A S, CInv P l n ci im w0 X R Qf pre rest A S (listed.setIfInBounds i true) b' w') b w := by
  obtain ⟨hun, o, ho, hdep⟩ := mem_ready.1 hi
  have ho' : l[i]? = some o := by simpa using ho
  have hag := inv.agrees hk hin ho' hdep
  have hsel : ∀ cs bb, o.op ≠ .select cs bb := fun cs bb => Region.noSelect_spec hk.ns i o cs bb ho
  have hil : i < listed.size := by rw [inv.hi.size]; exact (Array.getElem?_eq_some_iff.1 ho).1
  have hself : (listed.setIfInBounds i true).getD i false = true := by simp [Array.getD, hil]
  obtain ⟨o2, ho2, h1, h2, -⟩ := okOp_spec (hk.ok i hin)
  obtain rfl : o = o2 := Option.some.inj (ho.symm.trans ho2)
  have hne : ∀ (k : Nat) (ok : Oper), k < n → l[k]? = some ok → k ≠ i → ∀ d, ok.dst = some d → o.dst ≠ some d := fun k ok hkn hok hki d hd => (h2 k ok hkn (by simpa using hok) d hd).1 hki
  by_cases hip : i ∈ pre
  · -- a reader of what has been passed
    have himf : im.contains i = false := by
      cases e : im.contains i with
      | false => rfl
      | true => have := inv.imp i hip e; rw [getD_both hun] at this; cases this
    obtain ⟨v, hg, hA⟩ := inv.rd i o hip ho' himf
    have hg' := hg.of_same hag hsel (List.Sublist.refl _)
    have fin : ∃ pre rest A S, CInv P l n ci im w0 X R Qf pre rest A S (listed.setIfInBounds i true) (b.put o.dst v) w := by
      refine ⟨pre, rest, A, S, inv.hi.set hi hin, inv.eq, inv.hd, inv.dc, fun k hkn hkl => ?_, fun k hkp hki => getD_set_true (inv.imp k hkp hki), by rw [put_size]; exact inv.size, by rw [put_defers]; exact inv.defers, inv.rep, fun t ht => ?_, fun k ok hkp hok hkl d hd => ?_, inv.rd⟩
      · by_cases hki : k = i
        · subst hki; exact hip
        · exact inv.done k hkn (getD_set_self hkl (Ne.symm hki))
      · rw [put_getElem? b o.dst v t (ht i o hin ho')]; exact inv.un t ht
      · by_cases hki : k = i
        · subst hki
          obtain rfl : ok = o := Option.some.inj (hok.symm.trans ho')
          rw [hd, put_same, hA d hd, inv.size]
        · rw [put_getElem? b o.dst v d (hne k ok (hk.lt k (by rw [inv.eq]; simp [hkp])) hok hki d hd)]
          exact inv.got k ok hkp hok (getD_set_self hkl (Ne.symm hki)) d hd
    unfold wpOp
    simp only [ho]
    rcases hg' with ⟨hw, hv⟩ | ⟨hw, rfl⟩
    · simp only [hw, if_true]
      refine .inl ?_
      unfold Oper.wp
      rw [hv w inv.rep]
      exact fin
    · simp only [hw, Bool.false_eq_true, if_false]
      exact fin
  · -- the next maker
    have hirest : i ∈ rest := by
      have := hk.mem i hin; rw [inv.eq] at this
      exact (List.mem_append.1 this).resolve_left hip
    obtain ⟨i0, r, hr⟩ : ∃ i0 r, rest = i0 :: r := by cases rest with | nil => cases hirest | cons x y => exact ⟨x, y, rfl⟩
    subst hr
    have hi0 : i = i0 := by
      apply Classical.byContradiction
      intro hne0
      obtain ⟨q, hq, hqr⟩ := lastImp_mem ci none (hk.mem i hin) pre (i0 :: r) inv.eq hip inv.hd (fun j s hj => by simp only [List.cons.injEq] at hj; rw [← hj.1]; exact hne0)
      have hql := last_done hk inv.hi _ i rfl hin (fun o' hoo e he hb => by obtain rfl : o' = o := Option.some.inj (hoo.symm.trans ho'); exact hdep e he hb) q hq
      have hqp := inv.done q (hk.lt q (by rw [inv.eq]; exact List.mem_append_right _ hqr)) hql
      have := hk.nd; rw [inv.eq] at this
      exact (List.nodup_append.1 this).2.2 q hqp q hqr rfl
    subst hi0
    have him := inv.hd i r rfl
    obtain ⟨o3, ho3, hd⟩ := inv.dc
    obtain rfl : o = o3 := Option.some.inj (ho.symm.trans ho3)
    -- behind it
    have later : ∀ (v : Value) (N : List OB) (w' : World), Rep w0 X R (N ++ S) w' → DC P l.toArray w0 X R im Qf r (A.put o.dst v) (N ++ S) → ∃ pre rest A S, CInv P l n ci im w0 X R Qf pre rest A S (listed.setIfInBounds i true) (b.put o.dst v) w' := by
      intro v N w' hR hD
      have hci : ci = (pre ++ [i]) ++ r := by rw [inv.eq]; simp
      have keep : ∀ (k : Nat) (ok : Oper), k ∈ pre → l[k]? = some ok → (∀ d, o.dst = some d → d ∉ ok.looksAt l.toArray) ∧ (∀ d, ok.dst = some d → o.dst ≠ some d) := by
        intro k ok hkp hok
        have hkn : k < n := hk.lt k (by rw [inv.eq]; simp [hkp])
        obtain ⟨ok', hok', g1, g2, -⟩ := okOp_spec (hk.ok k hkn)
        obtain rfl : ok = ok' := Option.some.inj ((by simpa using hok : l.toArray[k]? = some ok).symm.trans hok')
        refine ⟨fun d hd' hm => ?_, fun d hd' e => ?_⟩
        · obtain ⟨e, he', hb, hon⟩ := (g2 i o hin ho d hd').2 hm
          have := g1 e he' hb; rw [hon] at this
          have hk1 : ci.idxOf k < pre.length := by rw [inv.eq, List.idxOf_append, if_pos hkp]; exact List.idxOf_lt_length_of_mem hkp
          have hi1 : pre.length ≤ ci.idxOf i := by rw [inv.eq, List.idxOf_append, if_neg hip]; omega
          omega
        · exact (g2 i o hin ho d e).1 (fun e2 => hip (e2 ▸ hkp)) hd'
      obtain ⟨sg, rest, A', rfl, e1, e2, e3, e4, e5, e6, e7⟩ := seg (Qf := Qf) hk r (pre ++ [i]) (A.put o.dst v) hci hD (fun k ok hkp hok hki => by
        rcases List.mem_append.1 hkp with hkp | hkp
        · obtain ⟨u, hu, hud⟩ := inv.rd k ok hkp hok hki
          have hkk := keep k ok hkp hok
          exact ⟨u, hu.of_same (fun t ht => put_getElem? A o.dst v t fun e => hkk.1 t e ht) (fun cs bb => Region.noSelect_spec hk.ns k ok cs bb (by simpa using hok)) (List.sublist_append_right _ _), fun d hd' => by
            rw [put_getElem? A o.dst v d (hkk.2 d hd'), put_size]; exact hud d hd'⟩
        · obtain rfl : k = i := by simpa using hkp
          rw [him] at hki; cases hki)
      have hnd := hk.nd
      have hsgn : ∀ k ∈ sg, k < n := fun k hkm => hk.lt k (by rw [hci]; simp [hkm])
      have hsgd : ∀ k ∈ sg, listed.getD k false = true → False := fun k hkm hl => by
        have h5 := inv.done k (hsgn k hkm) hl
        rw [hci] at hnd
        exact (List.nodup_append.1 hnd).2.2 k (by simp [h5]) k (by simp [hkm]) rfl
      have hisg : i ∉ sg := fun hm => by
        rw [hci] at hnd
        exact (List.nodup_append.1 hnd).2.2 i (by simp) i (by simp [hm]) rfl
      refine ⟨pre ++ [i] ++ sg, rest, A', N ++ S, inv.hi.set hi hin, by rw [hci]; simp, e2, e3, fun k hkn hkl => ?_, fun k hkp hki => ?_, by rw [put_size, e4, put_size]; exact inv.size, by rw [put_defers, e5, put_defers]; exact inv.defers, hR, fun t ht => ?_, fun k ok hkp hok hkl d hd' => ?_, e7⟩
      · by_cases hki : k = i
        · subst hki; simp
        · have := inv.done k hkn (getD_set_self hkl (Ne.symm hki)); simp [this]
      · rcases List.mem_append.1 hkp with hkp | hkp
        · rcases List.mem_append.1 hkp with hkp | hkp
          · exact getD_set_true (inv.imp k hkp hki)
          · obtain rfl : k = i := by simpa using hkp
            exact hself
        · rw [e1 k hkp] at hki; cases hki
      · rw [put_getElem? b o.dst v t (ht i o hin ho'), e6 t (fun k ok hkm hok => ht k ok (hsgn k hkm) hok), put_getElem? A o.dst v t (ht i o hin ho')]
        exact inv.un t ht
      · have hkn : k < n := hk.lt k (by rw [hci]; rcases List.mem_append.1 hkp with h5 | h5; exact List.mem_append_left _ h5; simp [h5])
        have hnsg : k ∉ sg := fun hm => by
          by_cases hki : k = i
          · subst hki; exact hisg hm
          · exact hsgd k hm (getD_set_self hkl (Ne.symm hki))
        rw [e6 d (fun k2 ok2 hkm2 hok2 e => by
          obtain ⟨ok', hok', g1, g2, -⟩ := okOp_spec (hk.ok k2 (hsgn k2 hkm2))
          obtain rfl : ok2 = ok' := Option.some.inj ((by simpa using hok2 : l.toArray[k2]? = some ok2).symm.trans hok')
          exact (g2 k ok hkn (by simpa using hok) d hd').1 (fun e2 => hnsg (e2 ▸ hkm2)) e)]
        by_cases hki : k = i
        · subst hki
          obtain rfl : ok = o := Option.some.inj (hok.symm.trans ho')
          rw [hd', put_same, put_same, inv.size]
        · have hkp' : k ∈ pre := by
            rcases List.mem_append.1 hkp with hkp | hkp
            · rcases List.mem_append.1 hkp with hkp | hkp
              · exact hkp
              · exact absurd (by simpa using hkp) hki
            · exact absurd hkp hnsg
          rw [put_getElem? b o.dst v d (hne k ok hkn hok hki d hd'), put_getElem? A o.dst v d (hne k ok hkn hok hki d hd')]
          exact inv.got k ok hkp' hok (getD_set_self hkl (Ne.symm hki)) d hd'
    unfold wpOp
    simp only [ho]
    rw [hag.wanted]
    by_cases hw : Region.wanted o (yielded l.toArray A.tmps) = true
    · rw [if_pos hw, if_pos him] at hd
      simp only [hw, if_true]
      refine .inl ?_
      have h5 := hd w inv.rep
      unfold Oper.wp
      rw [hag.exec hsel]
      generalize (execOp A.eval o).run P w = res at h5 ⊢
      cases res with
      | ok nx w' =>
        cases nx <;> simp only [IUp] at h5 <;> simp only [Oper.upon]
        case value v => obtain ⟨N, h6, h7⟩ := h5; exact later v N w' h6 h7
        case enter f args =>
          obtain ⟨rfl, hc⟩ := h5
          exact hc.mono fun e w'' ⟨v, N, he, h6, h7⟩ => by subst he; exact later v N w'' h6 h7
      | halt x w' => simp only [IUp] at h5
    · rw [if_neg hw] at hd
      simp only [hw, Bool.false_eq_true, if_false]
      exact later undef [] w inv.rep hd

theorem wpAny_C (hn : n < l.toArray.size) (hs : Region.sinkB .any l.toArray n = true) (hc : Region.chainB .any l.toArray n = true)
    (hq : Region.seqB .any l.toArray (l.toArray.size - n) n ((Array.range l.toArray.size).map fun i => decide (i < n)) = true) (hk : OkF l n ci im)
    (hQ : ∀ A S w, Qf A S → Rep w0 X R S w → wpList P l.toArray Q (l.drop n) A w) :
    ∀ (m : Nat) (listed : Array Bool) (b : Act) (w : World), leftOf n listed = m → (∃ pre rest A S, CInv P l n ci im w0 X R Qf pre rest A S listed b w) → wpAny P .any l.toArray Q (m + (l.toArray.size - n)) listed b w
  | 0, listed, b, w, hm, ⟨pre, rest, A, S, inv⟩ => by
    have hall := all_of_left hm
    have e := listed_eq inv.hi hm
    subst e
    have hrest : rest = [] := by
      cases rest with
      | nil => rfl
      | cons i r =>
        have hin : i < n := hk.lt i (by rw [inv.eq]; simp)
        have h5 := inv.done i hin (hall i hin)
        have := hk.nd; rw [inv.eq] at this
        exact absurd rfl ((List.nodup_append.1 this).2.2 i h5 i List.mem_cons_self)
    subst hrest
    have hb : b = A := act_ext inv.size inv.defers fun t => by
      by_cases hex : ∃ (k : Nat) (o' : Oper), k < n ∧ l[k]? = some o' ∧ o'.dst = some t
      · obtain ⟨k, o', hkn, hko, hkd⟩ := hex
        exact inv.got k o' (inv.done k hkn (hall k hkn)) hko (hall k hkn) t hkd
      · exact inv.un t fun k o' hkn hko hkd => hex ⟨k, o', hkn, hko, hkd⟩
    subst hb
    have hdl : (l.drop n).length = l.toArray.size - n := by simp
    have := wpAny_of_seq (md := .any) (Q' := Q) (l.drop n) n _ b w (fun j => by simp [List.getElem?_drop]) (by rw [hdl]; exact hq) (hQ b S w inv.dc inv.rep)
    rw [hdl] at this
    rw [Nat.zero_add]
    exact this
  | m + 1, listed, b, w, hm, ⟨pre, rest, A, S, inv⟩ => by
    -- some operation of the head is ready: the first of the order ci that is not done
    have hex : ∃ k, k < n ∧ listed.getD k false = false := by
      obtain ⟨k, hkn, hkf, -⟩ := least_left (n := n) (listed := listed) (by omega)
      exact ⟨k, hkn, hkf⟩
    obtain ⟨k, hkn, hkf, hkr⟩ : ∃ k, k < n ∧ listed.getD k false = false ∧ k ∈ Region.ready .any l.toArray listed := by
      obtain ⟨k, hkn, hkf⟩ := hex
      generalize hp : ci.idxOf k = p
      induction p using Nat.strongRecOn generalizing k with
      | _ p ih =>
        obtain ⟨o, ho, h1, -, -⟩ := okOp_spec (hk.ok k hkn)
        by_cases hall : ∀ e ∈ o.after, Region.binds .any e = true → listed.getD e.on false = true
        · exact ⟨k, hkn, hkf, mem_ready.2 ⟨getD_in (by rw [inv.hi.size]; omega) hkf, o, ho, hall⟩⟩
        · have : ∃ e, e ∈ o.after ∧ Region.binds .any e = true ∧ listed.getD e.on false = false := by
            apply Classical.byContradiction
            intro hno
            apply hall
            intro e he hb
            cases e' : listed.getD e.on false with
            | true => rfl
            | false => exact absurd ⟨e, he, hb, e'⟩ hno
          obtain ⟨e, he, hb, hef⟩ := this
          have hlt := h1 e he hb
          have hen : e.on < n := by
            have : e.on ∈ ci := by
              apply Classical.byContradiction
              intro hno
              have h5 : ci.idxOf e.on = ci.length := List.idxOf_eq_length hno
              have h6 := List.idxOf_lt_length_of_mem (hk.mem k hkn)
              omega
            exact hk.lt _ this
          exact ih (ci.idxOf e.on) (by omega) e.on hen hef rfl
    have hksz : k < listed.size := by rw [inv.hi.size]; omega
    rw [show m + 1 + (l.toArray.size - n) = (m + (l.toArray.size - n)) + 1 by omega]
    refine ⟨fun h0 => (by rw [h0] at hkr; cases hkr), fun i hi => ?_⟩
    have hin : i < n := by
      rcases Nat.lt_or_ge i n with h | h
      · exact h
      · exact absurd hi (tail_waits hs hc hn inv.hi _ k rfl hkn (getD_in hksz hkf) i h)
    have hun := (mem_ready.1 hi).1
    refine wpOp_mono (fun b' w' inv' => wpAny_C hn hs hc hq hk hQ m _ b' w' ?_ inv') (inv.step hk hi hin)
    have := leftOf_set (n := n) hin (by rw [inv.hi.size]; omega) (getD_both hun)
    omega

/-- **A region that draws its order and makes memory.** -/
theorem wp_region_C {id : Nat} {a : Act} (n : Nat) (ci im : List Nat) (hR : Rep w0 X R S w) (hm : P.follows .mixedOrders = true) (hchk : chkC l.toArray n ci im = true)
    (h : DC P l.toArray w0 X R im (fun A S => ∀ w, Rep w0 X R S w → wpList P l.toArray Q (l.drop n) A w) ci a S) : (Code.region id l.toArray true).wp P Q a w := by
  simp only [chkC, Bool.and_eq_true, decide_eq_true_eq] at hchk
  obtain ⟨⟨⟨⟨⟨⟨⟨⟨hns, hn⟩, hs⟩, hc⟩, hq⟩, h1⟩, h2⟩, h3⟩, h4⟩ := hchk
  have hk : OkF l n ci im := ⟨hns, fun k hkn => by simpa using List.all_eq_true.1 h1 k (List.mem_range.2 hkn), fun k hkm => by simpa using List.all_eq_true.1 h2 k hkm, h3, fun k hkn => List.all_eq_true.1 h4 k (List.mem_range.2 hkn)⟩
  refine wp_region_any hm ?_
  obtain ⟨sg, rest, A', e0, e1, e2, e3, e4, e5, e6, e7⟩ := seg hk ci [] a rfl h (fun k o hkm => by cases hkm)
  have hsgn : ∀ k ∈ sg, k < n := fun k hkm => hk.lt k (by rw [e0]; simp [hkm])
  have inv0 : CInv P l n ci im w0 X R (fun A S => ∀ w, Rep w0 X R S w → wpList P l.toArray Q (l.drop n) A w) sg rest A' S (Array.replicate l.toArray.size false) a { w with drawn := w.drawn + 1 } :=
    ⟨⟨by simp, fun j oj _ hl => (by rw [getD_replicate_false] at hl; cases hl), fun t _ ht => getD_in (by simpa using ht) (getD_replicate_false _ _)⟩,
      e0, e2, e3, fun k _ hl => (by rw [getD_replicate_false] at hl; cases hl), fun k hkm hki => (by rw [e1 k hkm] at hki; cases hki), e4.symm, e5.symm, hR.kp0 ((Kp.refl _ _).drew), fun t ht => (e6 t fun k o hkm hok => ht k o (hsgn k hkm) hok).symm,
      fun k o _ _ hl => (by rw [getD_replicate_false] at hl; cases hl), by simpa using e7⟩
  have hleft : leftOf n (Array.replicate l.toArray.size false) = n := by
    unfold leftOf
    rw [List.filter_eq_self.2 (fun k _ => by rw [getD_replicate_false]; rfl), List.length_range]
  have := wpAny_C hn hs hc hq hk (fun A S w hA hR => hA w hR) n _ a _ hleft ⟨sg, rest, A', S, inv0⟩
  rw [show n + (l.toArray.size - n) = l.toArray.size by omega] at this
  exact this

def chkC0 (ops : Array Oper) (ci im : List Nat) : Bool :=
  Region.noSelect ops && ((List.range ops.size).all fun k => ci.contains k) && (ci.all fun k => decide (k < ops.size)) && decide ci.Nodup &&
  (List.range ops.size).all fun k => okOp ops ops.size ci im k
theorem wpAny_C0 (hk : OkF l l.toArray.size ci im) (hQ : ∀ A S w, Qf A S → Rep w0 X R S w → Q .normal A w) :
    ∀ (m : Nat) (listed : Array Bool) (b : Act) (w : World), leftOf l.toArray.size listed = m → (∃ pre rest A S, CInv P l l.toArray.size ci im w0 X R Qf pre rest A S listed b w) → wpAny P .any l.toArray Q m listed b w
  | 0, listed, b, w, hm, ⟨pre, rest, A, S, inv⟩ => by
    have hall := all_of_left hm
    have hrest : rest = [] := by
      cases rest with
      | nil => rfl
      | cons i r =>
        have hin : i < l.toArray.size := hk.lt i (by rw [inv.eq]; simp)
        have h5 := inv.done i hin (hall i hin)
        have := hk.nd; rw [inv.eq] at this
        exact absurd rfl ((List.nodup_append.1 this).2.2 i h5 i List.mem_cons_self)
    subst hrest
    have hb : b = A := act_ext inv.size inv.defers fun t => by
      by_cases hex : ∃ (k : Nat) (o' : Oper), k < l.toArray.size ∧ l[k]? = some o' ∧ o'.dst = some t
      · obtain ⟨k, o', hkn, hko, hkd⟩ := hex
        exact inv.got k o' (inv.done k hkn (hall k hkn)) hko (hall k hkn) t hkd
      · exact inv.un t fun k o' hkn hko hkd => hex ⟨k, o', hkn, hko, hkd⟩
    subst hb
    refine ⟨?_, hQ b S w inv.dc inv.rep⟩
    apply List.eq_nil_iff_forall_not_mem.2
    intro k hkm
    obtain ⟨h1, o, ho, -⟩ := mem_ready.1 hkm
    have h2 := hall k (Array.getElem?_eq_some_iff.1 ho).1
    rw [getD_both h1] at h2; cases h2
  | m + 1, listed, b, w, hm, ⟨pre, rest, A, S, inv⟩ => by
    have hex : ∃ k, k < l.toArray.size ∧ listed.getD k false = false := by
      obtain ⟨k, hkn, hkf, -⟩ := least_left (n := l.toArray.size) (listed := listed) (by omega)
      exact ⟨k, hkn, hkf⟩
    obtain ⟨k, hkn, hkf, hkr⟩ : ∃ k, k < l.toArray.size ∧ listed.getD k false = false ∧ k ∈ Region.ready .any l.toArray listed := by
      obtain ⟨k, hkn, hkf⟩ := hex
      generalize hp : ci.idxOf k = p
      induction p using Nat.strongRecOn generalizing k with
      | _ p ih =>
        obtain ⟨o, ho, h1, -, -⟩ := okOp_spec (hk.ok k hkn)
        by_cases hall : ∀ e ∈ o.after, Region.binds .any e = true → listed.getD e.on false = true
        · exact ⟨k, hkn, hkf, mem_ready.2 ⟨getD_in (by rw [inv.hi.size]; omega) hkf, o, ho, hall⟩⟩
        · have : ∃ e, e ∈ o.after ∧ Region.binds .any e = true ∧ listed.getD e.on false = false := by
            apply Classical.byContradiction
            intro hno
            apply hall
            intro e he hb
            cases e' : listed.getD e.on false with
            | true => rfl
            | false => exact absurd ⟨e, he, hb, e'⟩ hno
          obtain ⟨e, he, hb, hef⟩ := this
          have hlt := h1 e he hb
          have hen : e.on < l.toArray.size := by
            have : e.on ∈ ci := by
              apply Classical.byContradiction
              intro hno
              have h5 : ci.idxOf e.on = ci.length := List.idxOf_eq_length hno
              have h6 := List.idxOf_lt_length_of_mem (hk.mem k hkn)
              omega
            exact hk.lt _ this
          exact ih (ci.idxOf e.on) (by omega) e.on hen hef rfl
    refine ⟨fun h0 => (by rw [h0] at hkr; cases hkr), fun i hi => ?_⟩
    have hin : i < l.toArray.size := by
      obtain ⟨-, o, ho, -⟩ := mem_ready.1 hi
      exact (Array.getElem?_eq_some_iff.1 ho).1
    have hun := (mem_ready.1 hi).1
    refine wpOp_mono (fun b' w' inv' => wpAny_C0 hk hQ m _ b' w' ?_ inv') (inv.step hk hi hin)
    have := leftOf_set (n := l.toArray.size) hin (by rw [inv.hi.size]; omega) (getD_both hun)
    omega
/-- .. where no operation stands apart at the end. -/
theorem wp_region_C0 {id : Nat} {a : Act} (ci im : List Nat) (hR : Rep w0 X R S w) (hm : P.follows .mixedOrders = true) (hchk : chkC0 l.toArray ci im = true)
    (h : DC P l.toArray w0 X R im (fun A S => ∀ w, Rep w0 X R S w → Q .normal A w) ci a S) : (Code.region id l.toArray true).wp P Q a w := by
  simp only [chkC0, Bool.and_eq_true, decide_eq_true_eq] at hchk
  obtain ⟨⟨⟨⟨hns, h1⟩, h2⟩, h3⟩, h4⟩ := hchk
  have hk : OkF l l.toArray.size ci im := ⟨hns, fun k hkn => by simpa using List.all_eq_true.1 h1 k (List.mem_range.2 hkn), fun k hkm => by simpa using List.all_eq_true.1 h2 k hkm, h3, fun k hkn => List.all_eq_true.1 h4 k (List.mem_range.2 hkn)⟩
  refine wp_region_any hm ?_
  obtain ⟨sg, rest, A', e0, e1, e2, e3, e4, e5, e6, e7⟩ := seg hk ci [] a rfl h (fun k o hkm => by cases hkm)
  have hsgn : ∀ k ∈ sg, k < l.toArray.size := fun k hkm => hk.lt k (by rw [e0]; simp [hkm])
  have inv0 : CInv P l l.toArray.size ci im w0 X R (fun A S => ∀ w, Rep w0 X R S w → Q .normal A w) sg rest A' S (Array.replicate l.toArray.size false) a { w with drawn := w.drawn + 1 } :=
    ⟨⟨by simp, fun j oj _ hl => (by rw [getD_replicate_false] at hl; cases hl), fun t ht ht' => by omega⟩,
      e0, e2, e3, fun k _ hl => (by rw [getD_replicate_false] at hl; cases hl), fun k hkm hki => (by rw [e1 k hkm] at hki; cases hki), e4.symm, e5.symm, hR.kp0 ((Kp.refl _ _).drew), fun t ht => (e6 t fun k o hkm hok => ht k o (hsgn k hkm) hok).symm,
      fun k o _ _ hl => (by rw [getD_replicate_false] at hl; cases hl), by simpa using e7⟩
  have hleft : leftOf l.toArray.size (Array.replicate l.toArray.size false) = l.toArray.size := by
    unfold leftOf
    rw [List.filter_eq_self.2 (fun k _ => by rw [getD_replicate_false]; rfl), List.length_range]
  exact wpAny_C0 hk (fun A S w hA hR => hA w hR) _ _ a _ hleft ⟨sg, rest, A', S, inv0⟩
end
end
attribute [irreducible] DC
end Go.Proofs.YtddjhemncniidaaDoor
