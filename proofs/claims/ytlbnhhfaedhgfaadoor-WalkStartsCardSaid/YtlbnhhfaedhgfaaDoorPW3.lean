/-
  Lemmas: A region that draws its order and makes memory on its way: the operations that make memory stand in one order by their edges; those that only read come up anywhere. One walk in one order ('ci') serves every order. / The steps of a walk through a region that draws its order ('DC'). / Appends to a slice without room (x[:n:n]); parts of slices; a store into an element of an own slice. / Lists in memory, whatever their elements: cells of elements one after the other; loads, stores, clear and copy at own slices, at any index. / A region that draws its order, whose makers and stores have no one order: a plan tells what may come next; the region's end is told once for all its ways. / The steps of a walk through a region by a plan ('DT'). / One rule for every operation of a walk that makes, writes or reads memory of the walk's own; one for every step of a region that draws its order that calls nothing. / Walks of keyspace and its reference: keys, bounds, ranges. / Walks of keyspace and its reference: keys in ranges, the lesser and greater of two bounds. / Walks of keyspace and its reference: two ranges. / Walks of keyspace and its reference: two ranges, the rest. / Plain words: differences of ranges. / Walks: Subtract, in keyspace and in its reference; Same. / Plain laws: which keys intersections, hulls and differences contain. / Plain words: the pieces into which a range is cut. / Plain words: the union of ranges: sorted, then merged; lists of ranges with gaps between them are told by their points. / Walks of the library's IndexFunc, DeleteFunc and Clone at lists of ranges. / Walks of the library's DeleteFunc at an own list of ranges. / Contracts of the library, laid at this program by the kit's tool. / Walks of the library's Clone and SortFunc at lists of ranges. / The walk of Union in keyspace. / The walk of Union in the reference. / The walk of keyspace.Prefix. / The walk of Prefix in the reference.
-/
import Derived.Test.YtlbnhhfaedhgfaaDoorPW1
import Derived.Test.YtlbnhhfaedhgfaaDoorPW2
import Derived.Test.YtlbnhhfaedhgfaaDoorChecked
import Derived.Handy
import Derived.Test.YtlbnhhfaedhgfaaDoorProg
import Derived.Shelf.SlLaysF0
import Derived.Shelf.SlSortCmp.WholeK
import Derived.Lib.SliceRun
import Derived.Shelf.SlSortCmp.NoneTotal
import Derived.Laws.IdiomStrings
import Derived.Laws.BytesArg
namespace Go.Proofs.YtlbnhhfaedhgfaaDoor
set_option linter.unusedSimpArgs false
set_option linter.unusedVariables false
open Go.RowKit

def lastImp (im : List Nat) (k : Nat) : List Nat → Option Nat → Option Nat
  | [], _ => none
  | i :: r, q => if i == k then q else lastImp im k r (if im.contains i then some i else q)
def okOp (ops : Array Oper) (n : Nat) (ci im : List Nat) (k : Nat) : Bool :=
  match ops[k]? with
  | none => false
  | some o =>
    (o.after.all fun e => !Region.binds .any e || decide (ci.idxOf e.on < ci.idxOf k)) &&
    ((List.range n).all fun j => match ops[j]? with
      | none => true
      | some oj => match oj.dst with
        | none => true
        | some d => (j == k || o.dst != some d) && (!(o.looksAt ops).contains d || o.after.any fun e => Region.binds .any e && e.on == j)) &&
    (match lastImp im k ci none with
      | none => true
      | some q => o.after.any fun e => Region.binds .any e && (e.on == q || (!im.contains e.on && lastImp im e.on ci none == some q)))
def chkC (ops : Array Oper) (n : Nat) (ci im : List Nat) : Bool :=
  Region.noSelect ops && decide (n < ops.size) && Region.sinkB .any ops n && Region.chainB .any ops n &&
  Region.seqB .any ops (ops.size - n) n ((Array.range ops.size).map fun i => decide (i < n)) &&
  ((List.range n).all fun k => ci.contains k) && (ci.all fun k => decide (k < n)) && decide ci.Nodup &&
  (List.range n).all fun k => okOp ops n ci im k

section
variable {P : Program} {w0 : World} {X : Fr} {R : List Win}

def IUp (P : Program) (w0 : World) (X : Fr) (R : List Win) (S : List OB) (next : Value → List OB → Prop) (w : World) : Result Next → Prop
  | .ok (.value v) w' => ∃ N, Rep w0 X R (N ++ S) w' ∧ next v (N ++ S)
  | .ok (.enter f args) w' => w' = w ∧ Calls P f args w (fun e w'' => ∃ v N, e = .returned v ∧ Rep w0 X R (N ++ S) w'' ∧ next v (N ++ S))
  | _ => False
def RSt (P : Program) (w0 : World) (X : Fr) (R : List Win) (o : Oper) (a : Act) (S : List OB) (next : Act → Prop) : Prop := ∃ v, (∀ w, Rep w0 X R S w → (execOp a.eval o).run P w = .ok (.value v) w) ∧ next (a.put o.dst v)
def ISt (P : Program) (w0 : World) (X : Fr) (R : List Win) (o : Oper) (a : Act) (S : List OB) (next : Act → List OB → Prop) : Prop := ∀ w, Rep w0 X R S w → IUp P w0 X R S (fun v S' => next (a.put o.dst v) S') w ((execOp a.eval o).run P w)
def DC (P : Program) (L : Array Oper) (w0 : World) (X : Fr) (R : List Win) (im : List Nat) (Qf : Act → List OB → Prop) : List Nat → Act → List OB → Prop
  | [], a, S => Qf a S
  | i :: r, a, S => ∃ o, L[i]? = some o ∧ if Region.wanted o (yielded L a.tmps) then (if im.contains i then ISt P w0 X R o a S (DC P L w0 X R im Qf r) else RSt P w0 X R o a S fun a' => DC P L w0 X R im Qf r a' S) else DC P L w0 X R im Qf r (a.put o.dst undef) S

def RG (P : Program) (L : Array Oper) (w0 : World) (X : Fr) (R : List Win) (S : List OB) (A : Act) (o : Oper) (v : Value) : Prop :=
  (Region.wanted o (yielded L A.tmps) = true ∧ ∀ w, Rep w0 X R S w → (execOp A.eval o).run P w = .ok (.value v) w) ∨ (Region.wanted o (yielded L A.tmps) = false ∧ v = undef)

theorem RG.of_same {L : Array Oper} {S S' : List OB} {A A' : Act} {o : Oper} {v : Value} (h : RG P L w0 X R S A o v) (hag : Agrees L o A' A) (hs : ∀ cs bb, o.op ≠ .select cs bb) (hS : S.Sublist S') : RG P L w0 X R S' A' o v := by
  unfold RG at *
  rw [hag.wanted, hag.exec hs]
  rcases h with ⟨h1, h2⟩ | h
  · exact .inl ⟨h1, fun w hR => h2 w (hR.sub hS)⟩
  · exact .inr h

structure CInv (P : Program) (l : List Oper) (n : Nat) (ci im : List Nat) (w0 : World) (X : Fr) (R : List Win) (Qf : Act → List OB → Prop) (pre rest : List Nat) (A : Act) (S : List OB) (listed : Array Bool) (b : Act) (w : World) : Prop where
  hi : HeadInv .any l.toArray n listed
  eq : ci = pre ++ rest
  hd : ∀ i r, rest = i :: r → im.contains i = true
  dc : DC P l.toArray w0 X R im Qf rest A S
  done : ∀ k, k < n → listed.getD k false = true → k ∈ pre
  imp : ∀ k ∈ pre, im.contains k = true → listed.getD k false = true
  size : b.tmps.size = A.tmps.size
  defers : b.defers = A.defers
  rep : Rep w0 X R S w
  un : ∀ t, (∀ (k : Nat) (o : Oper), k < n → l[k]? = some o → o.dst ≠ some t) → b.tmps[t]? = A.tmps[t]?
  got : ∀ (k : Nat) (o : Oper), k ∈ pre → l[k]? = some o → listed.getD k false = true → ∀ d, o.dst = some d → b.tmps[d]? = A.tmps[d]?
  rd : ∀ (k : Nat) (o : Oper), k ∈ pre → l[k]? = some o → im.contains k = false → ∃ v, RG P l.toArray w0 X R S A o v ∧ ∀ d, o.dst = some d → A.tmps[d]? = if d < A.tmps.size then some v else none

structure OkF (l : List Oper) (n : Nat) (ci im : List Nat) : Prop where
  ns : Region.noSelect l.toArray = true
  mem : ∀ k, k < n → k ∈ ci
  lt : ∀ k ∈ ci, k < n
  nd : ci.Nodup
  ok : ∀ k, k < n → okOp l.toArray n ci im k = true

theorem okOp_spec {ops : Array Oper} {n k : Nat} {ci im : List Nat} (h : okOp ops n ci im k = true) : ∃ o, ops[k]? = some o ∧
    (∀ e ∈ o.after, Region.binds .any e = true → ci.idxOf e.on < ci.idxOf k) ∧
    (∀ j oj, j < n → ops[j]? = some oj → ∀ d, oj.dst = some d → (j ≠ k → o.dst ≠ some d) ∧ (d ∈ o.looksAt ops → ∃ e ∈ o.after, Region.binds .any e = true ∧ e.on = j)) ∧
    (∀ q, lastImp im k ci none = some q → ∃ e ∈ o.after, Region.binds .any e = true ∧ (e.on = q ∨ (im.contains e.on = false ∧ lastImp im e.on ci none = some q))) := by
  unfold okOp at h
  cases ho : ops[k]? with
  | none => simp [ho] at h
  | some o =>
    simp only [ho, Bool.and_eq_true] at h
    obtain ⟨⟨h1, h2⟩, h3⟩ := h
    refine ⟨o, rfl, fun e he hb => ?_, fun j oj hj hoj d hd => ?_, fun q hq => ?_⟩
    · have := Array.all_eq_true_iff_forall_mem.1 h1 e he
      simpa [hb] using this
    · have := List.all_eq_true.1 h2 j (List.mem_range.2 hj)
      simp only [hoj, hd, Bool.and_eq_true, Bool.or_eq_true, beq_iff_eq, bne_iff_ne, Bool.not_eq_true'] at this
      refine ⟨fun hne => this.1.resolve_left hne, fun hm => ?_⟩
      rcases this.2 with h | h
      · simp [hm] at h
      · obtain ⟨e, he, hb⟩ := Array.any_eq_true'.1 h
        simp only [Bool.and_eq_true, beq_iff_eq] at hb
        exact ⟨e, he, hb.1, hb.2⟩
    · simp only [hq] at h3
      obtain ⟨e, he, hb⟩ := Array.any_eq_true'.1 h3
      simp only [Bool.and_eq_true, Bool.or_eq_true, beq_iff_eq, Bool.not_eq_true'] at hb
      exact ⟨e, he, hb.1, hb.2⟩

theorem last_done {l : List Oper} {n : Nat} {ci im : List Nat} (hk : OkF l n ci im) {listed : Array Bool} (hi : HeadInv .any l.toArray n listed) :
    ∀ (p k : Nat), ci.idxOf k = p → k < n → (∀ o, l[k]? = some o → ∀ e ∈ o.after, Region.binds .any e = true → listed.getD e.on false = true) → ∀ q, lastImp im k ci none = some q → listed.getD q false = true := by
  intro p
  induction p using Nat.strongRecOn with
  | _ p ih =>
    intro k hp hkn hdep q hq
    obtain ⟨o, ho, h1, h2, h3⟩ := okOp_spec (hk.ok k hkn)
    obtain ⟨e, he, hb, hor⟩ := h3 q hq
    have hl := hdep o (by simpa using ho) e he hb
    rcases hor with rfl | ⟨-, hq'⟩
    · exact hl
    · have hlt := h1 e he hb
      have hen : e.on < n := by
        have : e.on ∈ ci := by
          apply Classical.byContradiction
          intro hno
          have h5 : ci.idxOf e.on = ci.length := List.idxOf_eq_length hno
          have h6 := List.idxOf_lt_length_of_mem (hk.mem k hkn)
          omega
        exact hk.lt _ this
      refine ih (ci.idxOf e.on) (by omega) e.on rfl hen (fun o' ho' e' he' hb' => ?_) q hq'
      exact hi.closed e.on o' (by simpa using ho') hl e' he' hb'

theorem lastImp_mem {im : List Nat} {k : Nat} : ∀ (ci : List Nat) (q0 : Option Nat), k ∈ ci → ∀ (pre rest : List Nat), ci = pre ++ rest → k ∉ pre → (∀ i r, rest = i :: r → im.contains i = true) → (∀ i r, rest = i :: r → k ≠ i) → ∃ q, lastImp im k ci q0 = some q ∧ q ∈ rest := by
  intro ci
  induction ci with
  | nil => intro _ h; cases h
  | cons x ci ih =>
    intro q0 hk pre rest he hkp hh hne
    cases pre with
    | nil =>
      simp only [List.nil_append] at he
      subst he
      have hx := hne x ci rfl
      have hkc : k ∈ ci := by rcases List.mem_cons.1 hk with rfl | h; exact absurd rfl hx; exact h
      have hx' : (x == k) = false := by simpa using fun e => hx (Eq.symm e)
      have him := hh x ci rfl
      rw [lastImp, hx', him]
      simp only [Bool.false_eq_true, if_false, if_true]
      -- from here on: some maker of the rest
      have gen : ∀ (c : List Nat) (q : Nat), k ∈ c → ∃ q', lastImp im k c (some q) = some q' ∧ (q' = q ∨ q' ∈ c) := by
        intro c
        induction c with
        | nil => intro q h; cases h
        | cons y c ihc =>
          intro q h
          by_cases hyk : y = k
          · subst hyk; exact ⟨q, by simp [lastImp], .inl rfl⟩
          · have hkc' : k ∈ c := by rcases List.mem_cons.1 h with rfl | h; exact absurd rfl hyk; exact h
            have hy' : (y == k) = false := by simpa using hyk
            rw [lastImp, hy']
            simp only [Bool.false_eq_true, if_false]
            by_cases hy : im.contains y = true
            · rw [if_pos hy]
              obtain ⟨q', h1, h2⟩ := ihc y hkc'
              exact ⟨q', h1, by rcases h2 with rfl | h2; exact .inr List.mem_cons_self; exact .inr (List.mem_cons_of_mem _ h2)⟩
            · rw [if_neg hy]
              obtain ⟨q', h1, h2⟩ := ihc q hkc'
              exact ⟨q', h1, by rcases h2 with rfl | h2; exact .inl rfl; exact .inr (List.mem_cons_of_mem _ h2)⟩
      obtain ⟨q', h1, h2⟩ := gen ci x hkc
      exact ⟨q', h1, by rcases h2 with rfl | h2; exact List.mem_cons_self; exact List.mem_cons_of_mem _ h2⟩
    | cons y pre =>
      simp only [List.cons_append, List.cons.injEq] at he
      obtain ⟨rfl, rfl⟩ := he
      have hx : x ≠ k := fun e => hkp (e ▸ List.mem_cons_self)
      have hx' : (x == k) = false := by simpa using hx
      rw [lastImp, hx']
      simp only [Bool.false_eq_true, if_false]
      exact ih _ (by rcases List.mem_cons.1 hk with rfl | h; exact absurd rfl hx; exact h) pre rest rfl (fun h => hkp (List.mem_cons_of_mem _ h)) hh hne

theorem seg {l : List Oper} {n : Nat} {ci im : List Nat} {Qf : Act → List OB → Prop} (hk : OkF l n ci im) {S : List OB} :
    ∀ (r pre : List Nat) (A : Act), ci = pre ++ r → DC P l.toArray w0 X R im Qf r A S →
      (∀ (k : Nat) (o : Oper), k ∈ pre → l[k]? = some o → im.contains k = false → ∃ v, RG P l.toArray w0 X R S A o v ∧ ∀ d, o.dst = some d → A.tmps[d]? = if d < A.tmps.size then some v else none) →
      ∃ sg rest A', r = sg ++ rest ∧ (∀ k ∈ sg, im.contains k = false) ∧ (∀ i q, rest = i :: q → im.contains i = true) ∧ DC P l.toArray w0 X R im Qf rest A' S ∧ A'.tmps.size = A.tmps.size ∧ A'.defers = A.defers ∧
        (∀ t, (∀ (k : Nat) (o : Oper), k ∈ sg → l[k]? = some o → o.dst ≠ some t) → A'.tmps[t]? = A.tmps[t]?) ∧
        (∀ (k : Nat) (o : Oper), k ∈ pre ++ sg → l[k]? = some o → im.contains k = false → ∃ v, RG P l.toArray w0 X R S A' o v ∧ ∀ d, o.dst = some d → A'.tmps[d]? = if d < A'.tmps.size then some v else none)
  | [], pre, A, _, hd, hr => ⟨[], [], A, rfl, by simp, by simp, hd, rfl, rfl, fun _ _ => rfl, by simpa using hr⟩
  | i :: r, pre, A, he, hd, hr => by
    by_cases him : im.contains i = true
    · exact ⟨[], i :: r, A, rfl, by simp, by intro j q hj; simp only [List.cons.injEq] at hj; obtain ⟨rfl, -⟩ := hj; exact him, hd, rfl, rfl, fun _ _ => rfl, by simpa using hr⟩
    · have himf : im.contains i = false := by simpa using him
      obtain ⟨o, ho, hd⟩ := hd
      have hin : i < n := hk.lt i (by rw [he]; simp)
      obtain ⟨o', ho', h1, h2, -⟩ := okOp_spec (hk.ok i hin)
      obtain rfl : o = o' := Option.some.inj (ho.symm.trans ho')
      have hsel : ∀ cs bb, o.op ≠ .select cs bb := fun cs bb => Region.noSelect_spec hk.ns i o cs bb ho
      have hself : ∀ d, o.dst = some d → d ∉ o.looksAt l.toArray := fun d hd' hm => by
        obtain ⟨e, he', hb, hon⟩ := (h2 i o hin ho d hd').2 hm
        have := h1 e he' hb; rw [hon] at this; omega
      have hst : ∃ v, RG P l.toArray w0 X R S A o v ∧ DC P l.toArray w0 X R im Qf r (A.put o.dst v) S := by
        by_cases hw : Region.wanted o (yielded l.toArray A.tmps) = true
        · rw [if_pos hw, if_neg him] at hd
          obtain ⟨v, hv, hn⟩ := hd
          exact ⟨v, .inl ⟨hw, hv⟩, hn⟩
        · rw [if_neg hw] at hd
          exact ⟨undef, .inr ⟨by simpa using hw, rfl⟩, hd⟩
      obtain ⟨v, hg, hn⟩ := hst
      have hipre : i ∉ pre := by
        have := hk.nd; rw [he] at this
        exact fun hm => (List.nodup_append.1 this).2.2 i hm i List.mem_cons_self rfl
      -- what earlier readers look at is not written here
      have keep : ∀ (k : Nat) (ok : Oper), k ∈ pre → l[k]? = some ok → (∀ d, o.dst = some d → d ∉ ok.looksAt l.toArray) ∧ (∀ d, ok.dst = some d → o.dst ≠ some d) := by
        intro k ok hkp hok
        have hkn : k < n := hk.lt k (by rw [he]; simp [hkp])
        obtain ⟨ok', hok', g1, g2, -⟩ := okOp_spec (hk.ok k hkn)
        obtain rfl : ok = ok' := Option.some.inj ((by simpa using hok : l.toArray[k]? = some ok).symm.trans hok')
        refine ⟨fun d hd' hm => ?_, fun d hd' e => ?_⟩
        · obtain ⟨e, he', hb, hon⟩ := (g2 i o hin ho d hd').2 hm
          have := g1 e he' hb; rw [hon] at this
          -- i comes ahead of k, but k stands in pre
          have hk1 : ci.idxOf k < pre.length := by rw [he, List.idxOf_append, if_pos hkp]; exact List.idxOf_lt_length_of_mem hkp
          have hi1 : pre.length ≤ ci.idxOf i := by rw [he, List.idxOf_append, if_neg hipre]; omega
          omega
        · exact (g2 i o hin ho d e).1 (fun e2 => hipre (e2 ▸ hkp)) hd'
      have hag : ∀ (ok : Oper), (∀ d, o.dst = some d → d ∉ ok.looksAt l.toArray) → Agrees l.toArray ok (A.put o.dst v) A := fun ok hok t ht => put_getElem? A o.dst v t fun e => hok t e ht
      obtain ⟨sg, rest, A', rfl, e1, e2, e3, e4, e5, e6, e7⟩ := seg hk r (pre ++ [i]) (A.put o.dst v) (by simp [he]) hn (fun k ok hkp hok hki => by
        rcases List.mem_append.1 hkp with hkp | hkp
        · obtain ⟨u, hu, hud⟩ := hr k ok hkp hok hki
          have hkk := keep k ok hkp hok
          exact ⟨u, hu.of_same (hag ok hkk.1) (fun cs bb => Region.noSelect_spec hk.ns k ok cs bb (by simpa using hok)) (List.Sublist.refl _), fun d hd' => by
            rw [put_getElem? A o.dst v d (hkk.2 d hd'), put_size]; exact hud d hd'⟩
        · obtain rfl : k = i := by simpa using hkp
          obtain rfl : o = ok := Option.some.inj ((by simpa using ho : l[k]? = some o).symm.trans hok)
          exact ⟨v, hg.of_same (hag o hself) hsel (List.Sublist.refl _), fun d hd' => by rw [hd', put_same, Act.put]; simp⟩)
      refine ⟨i :: sg, rest, A', rfl, fun k hkm => ?_, e2, e3, by rw [e4, put_size], by rw [e5, put_defers], fun t ht => ?_, fun k ok hkm => ?_⟩
      · rcases List.mem_cons.1 hkm with rfl | hkm
        · exact himf
        · exact e1 k hkm
      · rw [e6 t fun k ok hkm => ht k ok (List.mem_cons_of_mem _ hkm)]
        exact put_getElem? A o.dst v t (ht i o List.mem_cons_self (by simpa using ho))
      · exact e7 k ok (by simpa using hkm)

section
variable {l : List Oper} {n : Nat} {ci im : List Nat} {Qf : Act → List OB → Prop} {Q : Exit → Act → World → Prop} {pre rest : List Nat} {A : Act} {S : List OB} {listed : Array Bool} {b : Act} {w : World}

theorem CInv.agrees (hk : OkF l n ci im) (inv : CInv P l n ci im w0 X R Qf pre rest A S listed b w) {i : Nat} {o : Oper} (hin : i < n) (ho : l[i]? = some o) (hdep : ∀ e ∈ o.after, Region.binds .any e = true → listed.getD e.on false = true) : Agrees l.toArray o b A := by
  intro t ht
  obtain ⟨o', ho', h1, h2, -⟩ := okOp_spec (hk.ok i hin)
  obtain rfl : o = o' := Option.some.inj ((by simpa using ho : l.toArray[i]? = some o).symm.trans ho')
  by_cases hex : ∃ (k : Nat) (o' : Oper), k < n ∧ l[k]? = some o' ∧ o'.dst = some t
  · obtain ⟨k, o', hkn, hko, hkd⟩ := hex
    obtain ⟨e, he, hb, hon⟩ := (h2 k o' hkn (by simpa using hko) t hkd).2 ht
    have hl := hdep e he hb
    rw [hon] at hl
    exact inv.got k o' (inv.done k hkn hl) hko hl t hkd
  · exact inv.un t fun k o' hkn hko hkd => hex ⟨k, o', hkn, hko, hkd⟩

theorem CInv.step (hk : OkF l n ci im) (inv : CInv P l n ci im w0 X R Qf pre rest A S listed b w) {i : Nat} (hi : i ∈ Region.ready .any l.toArray listed) (hin : i < n) :
    wpOp P l.toArray Q i (fun b' w' => ∃ pre rest A S, CInv P l n ci im w0 X R Qf pre rest A S (listed.setIfInBounds i true) b' w') b w := by
  obtain ⟨hun, o, ho, hdep⟩ := mem_ready.1 hi
  have ho' : l[i]? = some o := by simpa using ho
  have hag := inv.agrees hk hin ho' hdep
  have hsel : ∀ cs bb, o.op ≠ .select cs bb := fun cs bb => Region.noSelect_spec hk.ns i o cs bb ho
  have hil : i < listed.size := by rw [inv.hi.size]; exact (Array.getElem?_eq_some_iff.1 ho).1
  have hself : (listed.setIfInBounds i true).getD i false = true := by simp [Array.getD, hil]
  obtain ⟨o2, ho2, h1, h2, -⟩ := okOp_spec (hk.ok i hin)
  obtain rfl : o = o2 := Option.some.inj (ho.symm.trans ho2)
  have hne : ∀ (k : Nat) (ok : Oper), k < n → l[k]? = some ok → k ≠ i → ∀ d, ok.dst = some d → o.dst ≠ some d := fun k ok hkn hok hki d hd => (h2 k ok hkn (by simpa using hok) d hd).1 hki
  by_cases hip : i ∈ pre
  · -- a reader of what has been passed
    have himf : im.contains i = false := by
      cases e : im.contains i with
      | false => rfl
      | true => have := inv.imp i hip e; rw [getD_both hun] at this; cases this
    obtain ⟨v, hg, hA⟩ := inv.rd i o hip ho' himf
    have hg' := hg.of_same hag hsel (List.Sublist.refl _)
    have fin : ∃ pre rest A S, CInv P l n ci im w0 X R Qf pre rest A S (listed.setIfInBounds i true) (b.put o.dst v) w := by
      refine ⟨pre, rest, A, S, inv.hi.set hi hin, inv.eq, inv.hd, inv.dc, fun k hkn hkl => ?_, fun k hkp hki => getD_set_true (inv.imp k hkp hki), by rw [put_size]; exact inv.size, by rw [put_defers]; exact inv.defers, inv.rep, fun t ht => ?_, fun k ok hkp hok hkl d hd => ?_, inv.rd⟩
      · by_cases hki : k = i
        · subst hki; exact hip
        · exact inv.done k hkn (getD_set_self hkl (Ne.symm hki))
      · rw [put_getElem? b o.dst v t (ht i o hin ho')]; exact inv.un t ht
      · by_cases hki : k = i
        · subst hki
          obtain rfl : ok = o := Option.some.inj (hok.symm.trans ho')
          rw [hd, put_same, hA d hd, inv.size]
        · rw [put_getElem? b o.dst v d (hne k ok (hk.lt k (by rw [inv.eq]; simp [hkp])) hok hki d hd)]
          exact inv.got k ok hkp hok (getD_set_self hkl (Ne.symm hki)) d hd
    unfold wpOp
    simp only [ho]
    rcases hg' with ⟨hw, hv⟩ | ⟨hw, rfl⟩
    · simp only [hw, if_true]
      refine .inl ?_
      unfold Oper.wp
      rw [hv w inv.rep]
      exact fin
    · simp only [hw, Bool.false_eq_true, if_false]
      exact fin
  · -- the next maker
    have hirest : i ∈ rest := by
      have := hk.mem i hin; rw [inv.eq] at this
      exact (List.mem_append.1 this).resolve_left hip
    obtain ⟨i0, r, hr⟩ : ∃ i0 r, rest = i0 :: r := by cases rest with | nil => cases hirest | cons x y => exact ⟨x, y, rfl⟩
    subst hr
    have hi0 : i = i0 := by
      apply Classical.byContradiction
      intro hne0
      obtain ⟨q, hq, hqr⟩ := lastImp_mem ci none (hk.mem i hin) pre (i0 :: r) inv.eq hip inv.hd (fun j s hj => by simp only [List.cons.injEq] at hj; rw [← hj.1]; exact hne0)
      have hql := last_done hk inv.hi _ i rfl hin (fun o' hoo e he hb => by obtain rfl : o' = o := Option.some.inj (hoo.symm.trans ho'); exact hdep e he hb) q hq
      have hqp := inv.done q (hk.lt q (by rw [inv.eq]; exact List.mem_append_right _ hqr)) hql
      have := hk.nd; rw [inv.eq] at this
      exact (List.nodup_append.1 this).2.2 q hqp q hqr rfl
    subst hi0
    have him := inv.hd i r rfl
    obtain ⟨o3, ho3, hd⟩ := inv.dc
    obtain rfl : o = o3 := Option.some.inj (ho.symm.trans ho3)
    -- behind it
    have later : ∀ (v : Value) (N : List OB) (w' : World), Rep w0 X R (N ++ S) w' → DC P l.toArray w0 X R im Qf r (A.put o.dst v) (N ++ S) → ∃ pre rest A S, CInv P l n ci im w0 X R Qf pre rest A S (listed.setIfInBounds i true) (b.put o.dst v) w' := by
      intro v N w' hR hD
      have hci : ci = (pre ++ [i]) ++ r := by rw [inv.eq]; simp
      have keep : ∀ (k : Nat) (ok : Oper), k ∈ pre → l[k]? = some ok → (∀ d, o.dst = some d → d ∉ ok.looksAt l.toArray) ∧ (∀ d, ok.dst = some d → o.dst ≠ some d) := by
        intro k ok hkp hok
        have hkn : k < n := hk.lt k (by rw [inv.eq]; simp [hkp])
        obtain ⟨ok', hok', g1, g2, -⟩ := okOp_spec (hk.ok k hkn)
        obtain rfl : ok = ok' := Option.some.inj ((by simpa using hok : l.toArray[k]? = some ok).symm.trans hok')
        refine ⟨fun d hd' hm => ?_, fun d hd' e => ?_⟩
        · obtain ⟨e, he', hb, hon⟩ := (g2 i o hin ho d hd').2 hm
          have := g1 e he' hb; rw [hon] at this
          have hk1 : ci.idxOf k < pre.length := by rw [inv.eq, List.idxOf_append, if_pos hkp]; exact List.idxOf_lt_length_of_mem hkp
          have hi1 : pre.length ≤ ci.idxOf i := by rw [inv.eq, List.idxOf_append, if_neg hip]; omega
          omega
        · exact (g2 i o hin ho d e).1 (fun e2 => hip (e2 ▸ hkp)) hd'
      obtain ⟨sg, rest, A', rfl, e1, e2, e3, e4, e5, e6, e7⟩ := seg (Qf := Qf) hk r (pre ++ [i]) (A.put o.dst v) hci hD (fun k ok hkp hok hki => by
        rcases List.mem_append.1 hkp with hkp | hkp
        · obtain ⟨u, hu, hud⟩ := inv.rd k ok hkp hok hki
          have hkk := keep k ok hkp hok
          exact ⟨u, hu.of_same (fun t ht => put_getElem? A o.dst v t fun e => hkk.1 t e ht) (fun cs bb => Region.noSelect_spec hk.ns k ok cs bb (by simpa using hok)) (List.sublist_append_right _ _), fun d hd' => by
            rw [put_getElem? A o.dst v d (hkk.2 d hd'), put_size]; exact hud d hd'⟩
        · obtain rfl : k = i := by simpa using hkp
          rw [him] at hki; cases hki)
      have hnd := hk.nd
      have hsgn : ∀ k ∈ sg, k < n := fun k hkm => hk.lt k (by rw [hci]; simp [hkm])
      have hsgd : ∀ k ∈ sg, listed.getD k false = true → False := fun k hkm hl => by
        have h5 := inv.done k (hsgn k hkm) hl
        rw [hci] at hnd
        exact (List.nodup_append.1 hnd).2.2 k (by simp [h5]) k (by simp [hkm]) rfl
      have hisg : i ∉ sg := fun hm => by
        rw [hci] at hnd
        exact (List.nodup_append.1 hnd).2.2 i (by simp) i (by simp [hm]) rfl
      refine ⟨pre ++ [i] ++ sg, rest, A', N ++ S, inv.hi.set hi hin, by rw [hci]; simp, e2, e3, fun k hkn hkl => ?_, fun k hkp hki => ?_, by rw [put_size, e4, put_size]; exact inv.size, by rw [put_defers, e5, put_defers]; exact inv.defers, hR, fun t ht => ?_, fun k ok hkp hok hkl d hd' => ?_, e7⟩
      · by_cases hki : k = i
        · subst hki; simp
        · have := inv.done k hkn (getD_set_self hkl (Ne.symm hki)); simp [this]
      · rcases List.mem_append.1 hkp with hkp | hkp
        · rcases List.mem_append.1 hkp with hkp | hkp
          · exact getD_set_true (inv.imp k hkp hki)
          · obtain rfl : k = i := by simpa using hkp
            exact hself
        · rw [e1 k hkp] at hki; cases hki
      · rw [put_getElem? b o.dst v t (ht i o hin ho'), e6 t (fun k ok hkm hok => ht k ok (hsgn k hkm) hok), put_getElem? A o.dst v t (ht i o hin ho')]
        exact inv.un t ht
      · have hkn : k < n := hk.lt k (by rw [hci]; rcases List.mem_append.1 hkp with h5 | h5; exact List.mem_append_left _ h5; simp [h5])
        have hnsg : k ∉ sg := fun hm => by
          by_cases hki : k = i
          · subst hki; exact hisg hm
          · exact hsgd k hm (getD_set_self hkl (Ne.symm hki))
        rw [e6 d (fun k2 ok2 hkm2 hok2 e => by
          obtain ⟨ok', hok', g1, g2, -⟩ := okOp_spec (hk.ok k2 (hsgn k2 hkm2))
          obtain rfl : ok2 = ok' := Option.some.inj ((by simpa using hok2 : l.toArray[k2]? = some ok2).symm.trans hok')
          exact (g2 k ok hkn (by simpa using hok) d hd').1 (fun e2 => hnsg (e2 ▸ hkm2)) e)]
        by_cases hki : k = i
        · subst hki
          obtain rfl : ok = o := Option.some.inj (hok.symm.trans ho')
          rw [hd', put_same, put_same, inv.size]
        · have hkp' : k ∈ pre := by
            rcases List.mem_append.1 hkp with hkp | hkp
            · rcases List.mem_append.1 hkp with hkp | hkp
              · exact hkp
              · exact absurd (by simpa using hkp) hki
            · exact absurd hkp hnsg
          rw [put_getElem? b o.dst v d (hne k ok hkn hok hki d hd'), put_getElem? A o.dst v d (hne k ok hkn hok hki d hd')]
          exact inv.got k ok hkp' hok (getD_set_self hkl (Ne.symm hki)) d hd'
    unfold wpOp
    simp only [ho]
    rw [hag.wanted]
    by_cases hw : Region.wanted o (yielded l.toArray A.tmps) = true
    · rw [if_pos hw, if_pos him] at hd
      simp only [hw, if_true]
      refine .inl ?_
      have h5 := hd w inv.rep
      unfold Oper.wp
      rw [hag.exec hsel]
      generalize (execOp A.eval o).run P w = res at h5 ⊢
      cases res with
      | ok nx w' =>
        cases nx <;> simp only [IUp] at h5 <;> simp only [Oper.upon]
        case value v => obtain ⟨N, h6, h7⟩ := h5; exact later v N w' h6 h7
        case enter f args =>
          obtain ⟨rfl, hc⟩ := h5
          exact hc.mono fun e w'' ⟨v, N, he, h6, h7⟩ => by subst he; exact later v N w'' h6 h7
      | halt x w' => simp only [IUp] at h5
    · rw [if_neg hw] at hd
      simp only [hw, Bool.false_eq_true, if_false]
      exact later undef [] w inv.rep hd

theorem wpAny_C (hn : n < l.toArray.size) (hs : Region.sinkB .any l.toArray n = true) (hc : Region.chainB .any l.toArray n = true)
    (hq : Region.seqB .any l.toArray (l.toArray.size - n) n ((Array.range l.toArray.size).map fun i => decide (i < n)) = true) (hk : OkF l n ci im)
    (hQ : ∀ A S w, Qf A S → Rep w0 X R S w → wpList P l.toArray Q (l.drop n) A w) :
    ∀ (m : Nat) (listed : Array Bool) (b : Act) (w : World), leftOf n listed = m → (∃ pre rest A S, CInv P l n ci im w0 X R Qf pre rest A S listed b w) → wpAny P .any l.toArray Q (m + (l.toArray.size - n)) listed b w
  | 0, listed, b, w, hm, ⟨pre, rest, A, S, inv⟩ => by
    have hall := all_of_left hm
    have e := listed_eq inv.hi hm
    subst e
    have hrest : rest = [] := by
      cases rest with
      | nil => rfl
      | cons i r =>
        have hin : i < n := hk.lt i (by rw [inv.eq]; simp)
        have h5 := inv.done i hin (hall i hin)
        have := hk.nd; rw [inv.eq] at this
        exact absurd rfl ((List.nodup_append.1 this).2.2 i h5 i List.mem_cons_self)
    subst hrest
    have hb : b = A := act_ext inv.size inv.defers fun t => by
      by_cases hex : ∃ (k : Nat) (o' : Oper), k < n ∧ l[k]? = some o' ∧ o'.dst = some t
      · obtain ⟨k, o', hkn, hko, hkd⟩ := hex
        exact inv.got k o' (inv.done k hkn (hall k hkn)) hko (hall k hkn) t hkd
      · exact inv.un t fun k o' hkn hko hkd => hex ⟨k, o', hkn, hko, hkd⟩
    subst hb
    have hdl : (l.drop n).length = l.toArray.size - n := by simp
    have := wpAny_of_seq (md := .any) (Q' := Q) (l.drop n) n _ b w (fun j => by simp [List.getElem?_drop]) (by rw [hdl]; exact hq) (hQ b S w inv.dc inv.rep)
    rw [hdl] at this
    rw [Nat.zero_add]
    exact this
  | m + 1, listed, b, w, hm, ⟨pre, rest, A, S, inv⟩ => by
    -- some operation of the head is ready: the first of the order ci that is not done
    have hex : ∃ k, k < n ∧ listed.getD k false = false := by
      obtain ⟨k, hkn, hkf, -⟩ := least_left (n := n) (listed := listed) (by omega)
      exact ⟨k, hkn, hkf⟩
    obtain ⟨k, hkn, hkf, hkr⟩ : ∃ k, k < n ∧ listed.getD k false = false ∧ k ∈ Region.ready .any l.toArray listed := by
      obtain ⟨k, hkn, hkf⟩ := hex
      generalize hp : ci.idxOf k = p
      induction p using Nat.strongRecOn generalizing k with
      | _ p ih =>
        obtain ⟨o, ho, h1, -, -⟩ := okOp_spec (hk.ok k hkn)
        by_cases hall : ∀ e ∈ o.after, Region.binds .any e = true → listed.getD e.on false = true
        · exact ⟨k, hkn, hkf, mem_ready.2 ⟨getD_in (by rw [inv.hi.size]; omega) hkf, o, ho, hall⟩⟩
        · have : ∃ e, e ∈ o.after ∧ Region.binds .any e = true ∧ listed.getD e.on false = false := by
            apply Classical.byContradiction
            intro hno
            apply hall
            intro e he hb
            cases e' : listed.getD e.on false with
            | true => rfl
            | false => exact absurd ⟨e, he, hb, e'⟩ hno
          obtain ⟨e, he, hb, hef⟩ := this
          have hlt := h1 e he hb
          have hen : e.on < n := by
            have : e.on ∈ ci := by
              apply Classical.byContradiction
              intro hno
              have h5 : ci.idxOf e.on = ci.length := List.idxOf_eq_length hno
              have h6 := List.idxOf_lt_length_of_mem (hk.mem k hkn)
              omega
            exact hk.lt _ this
          exact ih (ci.idxOf e.on) (by omega) e.on hen hef rfl
    have hksz : k < listed.size := by rw [inv.hi.size]; omega
    rw [show m + 1 + (l.toArray.size - n) = (m + (l.toArray.size - n)) + 1 by omega]
    refine ⟨fun h0 => (by rw [h0] at hkr; cases hkr), fun i hi => ?_⟩
    have hin : i < n := by
      rcases Nat.lt_or_ge i n with h | h
      · exact h
      · exact absurd hi (tail_waits hs hc hn inv.hi _ k rfl hkn (getD_in hksz hkf) i h)
    have hun := (mem_ready.1 hi).1
    refine wpOp_mono (fun b' w' inv' => wpAny_C hn hs hc hq hk hQ m _ b' w' ?_ inv') (inv.step hk hi hin)
    have := leftOf_set (n := n) hin (by rw [inv.hi.size]; omega) (getD_both hun)
    omega

theorem wp_region_C {id : Nat} {a : Act} (n : Nat) (ci im : List Nat) (hR : Rep w0 X R S w) (hm : P.follows .mixedOrders = true) (hchk : chkC l.toArray n ci im = true)
    (h : DC P l.toArray w0 X R im (fun A S => ∀ w, Rep w0 X R S w → wpList P l.toArray Q (l.drop n) A w) ci a S) : (Code.region id l.toArray true).wp P Q a w := by
  simp only [chkC, Bool.and_eq_true, decide_eq_true_eq] at hchk
  obtain ⟨⟨⟨⟨⟨⟨⟨⟨hns, hn⟩, hs⟩, hc⟩, hq⟩, h1⟩, h2⟩, h3⟩, h4⟩ := hchk
  have hk : OkF l n ci im := ⟨hns, fun k hkn => by simpa using List.all_eq_true.1 h1 k (List.mem_range.2 hkn), fun k hkm => by simpa using List.all_eq_true.1 h2 k hkm, h3, fun k hkn => List.all_eq_true.1 h4 k (List.mem_range.2 hkn)⟩
  refine wp_region_any hm ?_
  obtain ⟨sg, rest, A', e0, e1, e2, e3, e4, e5, e6, e7⟩ := seg hk ci [] a rfl h (fun k o hkm => by cases hkm)
  have hsgn : ∀ k ∈ sg, k < n := fun k hkm => hk.lt k (by rw [e0]; simp [hkm])
  have inv0 : CInv P l n ci im w0 X R (fun A S => ∀ w, Rep w0 X R S w → wpList P l.toArray Q (l.drop n) A w) sg rest A' S (Array.replicate l.toArray.size false) a { w with drawn := w.drawn + 1 } :=
    ⟨⟨by simp, fun j oj _ hl => (by rw [getD_replicate_false] at hl; cases hl), fun t _ ht => getD_in (by simpa using ht) (getD_replicate_false _ _)⟩,
      e0, e2, e3, fun k _ hl => (by rw [getD_replicate_false] at hl; cases hl), fun k hkm hki => (by rw [e1 k hkm] at hki; cases hki), e4.symm, e5.symm, hR.kp0 ((Kp.refl _ _).drew), fun t ht => (e6 t fun k o hkm hok => ht k o (hsgn k hkm) hok).symm,
      fun k o _ _ hl => (by rw [getD_replicate_false] at hl; cases hl), by simpa using e7⟩
  have hleft : leftOf n (Array.replicate l.toArray.size false) = n := by
    unfold leftOf
    rw [List.filter_eq_self.2 (fun k _ => by rw [getD_replicate_false]; rfl), List.length_range]
  have := wpAny_C hn hs hc hq hk (fun A S w hA hR => hA w hR) n _ a _ hleft ⟨sg, rest, A', S, inv0⟩
  rw [show n + (l.toArray.size - n) = l.toArray.size by omega] at this
  exact this

end
end
attribute [irreducible] DC
end Go.Proofs.YtlbnhhfaedhgfaaDoor
namespace Go.Proofs.YtlbnhhfaedhgfaaDoor
set_option linter.unusedSimpArgs false
set_option linter.unusedVariables false
open Go.RowKit
attribute [local semireducible] DC
def nth : List Oper → Nat → Option Oper
  | [], _ => none
  | x :: _, 0 => some x
  | _ :: l, n + 1 => nth l n
theorem nth_get {o : Oper} : ∀ {l : List Oper} {i : Nat}, nth l i = some o → l.toArray[i]? = some o
  | x :: l, 0, h => by simpa [nth] using h
  | x :: l, i + 1, h => by have := nth_get (l := l) (i := i) (by simpa [nth] using h); simpa using this
section
variable {P : Program} {l : List Oper} {w0 : World} {X : Fr} {R : List Win} {im : List Nat} {Qf : Act → List OB → Prop} {i : Nat} {r : List Nat} {a a' : Act} {S : List OB} {o : Oper}

theorem dc_nil (h : Qf a S) : DC P l.toArray w0 X R im Qf [] a S := h
theorem dc_skip (ho : nth l i = some o) (hw : Region.wanted o (yielded l.toArray a.tmps) = false) (ha : a.put o.dst undef = a') (h : DC P l.toArray w0 X R im Qf r a' S) : DC P l.toArray w0 X R im Qf (i :: r) a S :=
  ⟨o, nth_get ho, by rw [hw]; subst ha; exact h⟩
theorem dc_read {v : Value} (ho : nth l i = some o) (hi : im.contains i = false) (hw : Region.wanted o (yielded l.toArray a.tmps) = true) (hv : ∀ w, Rep w0 X R S w → (execOp a.eval o).run P w = .ok (.value v) w) (ha : a.put o.dst v = a') (h : DC P l.toArray w0 X R im Qf r a' S) :
    DC P l.toArray w0 X R im Qf (i :: r) a S := ⟨o, nth_get ho, by rw [hw, if_pos rfl, hi]; subst ha; exact ⟨v, hv, h⟩⟩
theorem dc_pure {v : Value} (ho : nth l i = some o) (hi : im.contains i = false) (hw : Region.wanted o (yielded l.toArray a.tmps) = true) (hv : ∀ w, (execOp a.eval o).run P w = .ok (.value v) w) (ha : a.put o.dst v = a') (h : DC P l.toArray w0 X R im Qf r a' S) :
    DC P l.toArray w0 X R im Qf (i :: r) a S := dc_read ho hi hw (fun w _ => hv w) ha h
theorem dc_facts {v : Value} (ho : nth l i = some o) (hi : im.contains i = false) (hw : Region.wanted o (yielded l.toArray a.tmps) = true) (hv : ∀ w, Facts w R S → (execOp a.eval o).run P w = .ok (.value v) w) (ha : a.put o.dst v = a') (h : DC P l.toArray w0 X R im Qf r a' S) :
    DC P l.toArray w0 X R im Qf (i :: r) a S := dc_read ho hi hw (fun w hR => hv w hR.facts) ha h
theorem dc_move {x : Operand} (ho : nth l i = some o) (hi : im.contains i = false) (hw : Region.wanted o (yielded l.toArray a.tmps) = true) (hop : o.op = .move x) (ha : a.put o.dst (a.eval x) = a') (h : DC P l.toArray w0 X R im Qf r a' S) :
    DC P l.toArray w0 X R im Qf (i :: r) a S := dc_pure ho hi hw (fun w => by unfold execOp; rw [hop]; rfl) ha h
theorem dc_assign {x : Operand} (ho : nth l i = some o) (hi : im.contains i = false) (hw : Region.wanted o (yielded l.toArray a.tmps) = true) (hop : o.op = .assign x) (ha : a.put o.dst (a.eval x) = a') (h : DC P l.toArray w0 X R im Qf r a' S) :
    DC P l.toArray w0 X R im Qf (i :: r) a S := dc_pure ho hi hw (fun w => by unfold execOp; rw [hop]; rfl) ha h
theorem dc_ld {x : Operand} {T T' : TypeId} {b off n : Nat} {c : List Value} {ag : Bool} (ho : nth l i = some o) (hi : im.contains i = false) (hw : Region.wanted o (yielded l.toArray a.tmps) = true) (hop : o.op = .load T x) (hx : a.eval x = .pointer (some ⟨b, off, none⟩)) (hA : At S b T' c) (hT : Ty P T n ag)
    (hl : (decide (off + n ≤ c.length) && (ag || n == 1)) = true) (ha : a.put o.dst (ldV ag n off c) = a') (h : DC P l.toArray w0 X R im Qf r a' S) : DC P l.toArray w0 X R im Qf (i :: r) a S := by
  simp only [Bool.and_eq_true, decide_eq_true_eq, Bool.or_eq_true, beq_iff_eq] at hl
  refine dc_read ho hi hw (fun w hR => ?_) ha h
  have hr := run_ld (w := w) hT (hR.cells hA.mem) hl.1 (fun e => hl.2.resolve_left (by simp [e]))
  unfold execOp
  rw [hop]
  simp only [hx, Instr.loadAt, Instr.sureAddr, Sem.run_bind, Sem.run_pure, Result.andThen_ok, hr]
theorem dc_call {f : FuncId} {args : Array Value} (ho : nth l i = some o) (hi : im.contains i = true) (hw : Region.wanted o (yielded l.toArray a.tmps) = true) (hr : ∀ w, (execOp a.eval o).run P w = .ok (.enter f args) w)
    (h : ∀ w, Rep w0 X R S w → Calls P f args w fun e w' => ∃ v N, e = .returned v ∧ Rep w0 X R (N ++ S) w' ∧ ∃ a', a.put o.dst v = a' ∧ DC P l.toArray w0 X R im Qf r a' (N ++ S)) : DC P l.toArray w0 X R im Qf (i :: r) a S :=
  ⟨o, nth_get ho, by
    rw [hw, if_pos rfl, hi, if_pos rfl]
    intro w hR
    rw [hr w]
    exact ⟨rfl, (h w hR).mono fun e w' ⟨v, N, he, hN, a', ha, hd⟩ => ⟨v, N, he, hN, by subst ha; exact hd⟩⟩⟩
theorem dc_call0 {f : FuncId} {args : Array Value} (ho : nth l i = some o) (hi : im.contains i = true) (hw : Region.wanted o (yielded l.toArray a.tmps) = true) (hr : ∀ w, (execOp a.eval o).run P w = .ok (.enter f args) w)
    (h : ∀ w, Rep w0 X R S w → Calls P f args w fun e w' => ∃ v, e = .returned v ∧ Kp [] w w' ∧ ∃ a', a.put o.dst v = a' ∧ DC P l.toArray w0 X R im Qf r a' S) : DC P l.toArray w0 X R im Qf (i :: r) a S :=
  dc_call ho hi hw hr fun w hR => (h w hR).mono fun _ _ ⟨v, he, hk, a', ha, hd⟩ => ⟨v, [], he, hR.kp0 hk, a', ha, hd⟩
theorem dc_make (ho : nth l i = some o) (hi : im.contains i = true) (hw : Region.wanted o (yielded l.toArray a.tmps) = true)
    (h : ∀ w, Rep w0 X R S w → ∃ v N w', (execOp a.eval o).run P w = .ok (.value v) w' ∧ Rep w0 X R (N ++ S) w' ∧ ∃ a', a.put o.dst v = a' ∧ DC P l.toArray w0 X R im Qf r a' (N ++ S)) : DC P l.toArray w0 X R im Qf (i :: r) a S :=
  ⟨o, nth_get ho, by
    rw [hw, if_pos rfl, hi, if_pos rfl]
    intro w hR
    obtain ⟨v, N, w', h1, h2, a', h3, h4⟩ := h w hR
    rw [h1]
    exact ⟨N, h2, by subst h3; exact h4⟩⟩
theorem dc_box {x : Operand} {T : TypeId} {d : Tmp} {vs : List Value} (ho : nth l i = some o) (hi : im.contains i = true) (hw : Region.wanted o (yielded l.toArray a.tmps) = true) (hop : o.op = .box T x) (hd : o.dst = some d) (hv : (a.eval x).cells = vs.toArray)
    (h : ∀ B, ∃ a', a.put (some d) (.pointer (some ⟨B, 0, none⟩)) = a' ∧ DC P l.toArray w0 X R im Qf r a' (⟨B, T, vs⟩ :: S)) : DC P l.toArray w0 X R im Qf (i :: r) a S :=
  dc_make ho hi hw fun w hR => by
    obtain ⟨a', h1, h2⟩ := h w.heap.size
    refine ⟨_, [⟨w.heap.size, T, vs⟩], _, ?_, by simpa using hR.alloc T vs.toArray, a', by rw [hd]; exact h1, h2⟩
    unfold execOp; rw [hop]
    simp [Instr.box, newVar, newRow, newObj, hv, Sem.run]
theorem dc_alloc {T : TypeId} {d : Tmp} {vs : List Value} (ho : nth l i = some o) (hi : im.contains i = true) (hw : Region.wanted o (yielded l.toArray a.tmps) = true) (hop : o.op = .alloc T) (hd : o.dst = some d) (hz : ZeroIs P T vs)
    (h : ∀ B, ∃ a', a.put (some d) (.pointer (some ⟨B, 0, none⟩)) = a' ∧ DC P l.toArray w0 X R im Qf r a' (⟨B, T, vs⟩ :: S)) : DC P l.toArray w0 X R im Qf (i :: r) a S :=
  dc_make ho hi hw fun w hR => by
    obtain ⟨a', h1, h2⟩ := h w.heap.size
    exact ⟨_, [⟨w.heap.size, T, vs⟩], _, zero_run hz hop _ _, by simpa using hR.alloc T vs.toArray, a', by rw [hd]; exact h1, h2⟩
theorem dc_bs {t E : TypeId} {z bytes len : Nat} {parts : Array (Nat × Operand)} {d : Tmp} {vs : List Value} (ho : nth l i = some o) (hi : im.contains i = true) (hw : Region.wanted o (yielded l.toArray a.tmps) = true) (hop : o.op = .buildSlice t len parts) (hd : o.dst = some d) (hS : Sl P t E z bytes)
    (hp : (inRow z 0 (parts.toList.map fun p => (p.1, a.eval p.2)) && (parts.size == len) && decide (parts.size * z ≤ 16777216)) = true) (hl : flat (parts.toList.map fun p => (p.1, a.eval p.2)) = vs)
    (h : ∀ B, ∃ a', a.put (some d) (.slice (some ⟨B, 0, none⟩) len len) = a' ∧ DC P l.toArray w0 X R im Qf r a' (⟨B, E, vs⟩ :: S)) : DC P l.toArray w0 X R im Qf (i :: r) a S :=
  dc_make ho hi hw fun w hR => by
    simp only [Bool.and_eq_true, beq_iff_eq, decide_eq_true_eq] at hp
    obtain ⟨⟨hp, rfl⟩, hs⟩ := hp
    have hr := run_bs (P := P) (w := w) hS (parts.map fun p => (p.1, a.eval p.2)) (by simpa using hp) (by simpa using hs)
    simp only [Array.size_map] at hr
    have hl' : flat (parts.map fun p => (p.1, a.eval p.2)).toList = vs := by rw [← hl]; simp
    rw [hl'] at hr
    obtain ⟨a', h1, h2⟩ := h w.heap.size
    refine ⟨_, [⟨w.heap.size, E, vs⟩], _, ?_, by simpa using hR.alloc E vs.toArray, a', by rw [hd]; exact h1, h2⟩
    unfold execOp; rw [hop]
    simp only [Sem.run_bind, Sem.run_pure, Result.andThen_ok, hr]
end
end Go.Proofs.YtlbnhhfaedhgfaaDoor
namespace Go.Proofs.YtlbnhhfaedhgfaaDoor
set_option linter.unusedSimpArgs false
set_option linter.unusedVariables false
open Go.RowKit
section
variable {P : Program} {w : World}
theorem Rd.head {z k c n : Nat} {p : Option Addr} {xs : List Value} (h : Rd w z (.slice p k c) k xs) (hn : n ≤ k) (c' : Nat) (hc : n ≤ c') : Rd w z (.slice p n c') n (xs.take (n * z)) := by
  have hl := h.len
  have hle : n * z ≤ k * z := Nat.mul_le_mul_right _ hn
  refine ⟨by rw [List.length_take]; omega, p, c', rfl, hc, ?_⟩
  obtain ⟨p', c2, e, h1, h2⟩ := h.ex
  simp only [Value.slice.injEq, true_and] at e
  obtain ⟨rfl, rfl⟩ := e
  rcases h2 with h2 | ⟨b, o, rfl, hb, hx⟩
  · exact .inl (by omega)
  · refine .inr ⟨b, o, rfl, hb, fun j u hj => hx j u ?_⟩
    rw [List.getElem?_take] at hj
    split at hj
    · exact hj
    · cases hj
theorem Rd.tail {z k c n : Nat} {b o : Nat} {xs : List Value} (h : Rd w z (.slice (some ⟨b, o, none⟩) k c) k xs) (m : Nat) (hn : n + m = k) (c' : Nat) (hc : m ≤ c') : Rd w z (.slice (some ⟨b, o + n * z, none⟩) m c') m (xs.drop (n * z)) := by
  have hl := h.len
  subst hn
  rw [Nat.add_mul] at hl
  refine ⟨by rw [List.length_drop]; omega, _, c', rfl, hc, ?_⟩
  obtain ⟨p', c2, e, h1, h2⟩ := h.ex
  simp only [Value.slice.injEq, true_and] at e
  obtain ⟨rfl, rfl⟩ := e
  rcases h2 with h2 | ⟨b', o', e, hb, hx⟩
  · exact .inl (by omega)
  · simp only [Option.some.injEq, Addr.mk.injEq, and_true] at e
    obtain ⟨rfl, rfl⟩ := e
    refine .inr ⟨b, _, rfl, hb, fun j u hj => ?_⟩
    rw [List.getElem?_drop] at hj
    have := hx _ _ hj
    rwa [← Nat.add_assoc] at this
theorem rvals_one : ∀ l : List Rng, (rvals l).all Value.oneCell' = true
  | [] => rfl
  | r :: l => by rw [rvals_cons, List.all_append, rvals_one l]; rfl
theorem rvals_take (l : List Rng) : ∀ n, (rvals l).take (n * 4) = rvals (l.take n) := by
  induction l with
  | nil => intro n; simp [rvals]
  | cons r l ih =>
    intro n
    cases n with
    | zero => simp [rvals]
    | succ n =>
      rw [rvals_cons, List.take_succ_cons, rvals_cons, ← ih n, List.take_append, List.take_of_length_le (by simp [Rng.vals]; omega)]
      congr 2
      simp [Rng.vals]; omega
theorem rvals_drop (l : List Rng) : ∀ n, (rvals l).drop (n * 4) = rvals (l.drop n) := by
  induction l with
  | nil => intro n; simp [rvals]
  | cons r l ih =>
    intro n
    cases n with
    | zero => simp
    | succ n =>
      rw [rvals_cons, List.drop_succ_cons, ← ih n, List.drop_append, List.drop_of_length_le (by simp [Rng.vals]; omega), List.nil_append]
      congr 1
      simp [Rng.vals]; omega

theorem To.mid {pre post : List OB} {b : Nat} {T : TypeId} {c c' : List Value} : To (pre ++ ([⟨b, T, c⟩] ++ post)) b T c c' (pre ++ ([⟨b, T, c'⟩] ++ post)) := To.skip .here
theorem stL_length {o : Nat} {vs c : List Value} (h : o + vs.length ≤ c.length) : (stL o vs c).length = c.length := by
  rw [stL_eq _ _ _ h]; simp; omega
theorem stL_app {o : Nat} {vs c d : List Value} (h : o + vs.length ≤ c.length) : stL o vs (c ++ d) = stL o vs c ++ d := by
  rw [stL_eq _ _ _ (by simp; omega), stL_eq _ _ _ h, List.take_append_of_le_length (by omega), List.drop_append_of_le_length (by omega)]
  simp
theorem wpList_st_os {ops : Array Oper} {Q : Exit → Act → World → Prop} {a : Act} {rest : List Oper} {o : Oper} {w0 : World} {X : Fr} {R : List Win} {S sl pre post : List OB} {T E : TypeId} {z n m off g cap : Nat} {ag : Bool} {x y : Operand} {xs vs : List Value}
    (hR : Rep w0 X R S w) (hop : o.op = .store T x y) (hd : o.dst = none) (hg : o.guard = none) (hO : OS sl E z (.slice (some ⟨g, 0, none⟩) n cap) n xs) (hC : Ctx S sl pre post) (hx : a.eval x = .pointer (some ⟨g, off, none⟩)) (hv : (a.eval y).cells = vs.toArray) (hT : Ty P T m ag)
    (hl : off + m ≤ xs.length) (h1 : (vs.length == m && vs.all Value.oneCell') = true)
    (h : ∀ sl' w', OS sl' E z (.slice (some ⟨g, 0, none⟩) n cap) n (stL off vs xs) → Rep w0 X R (pre ++ (sl' ++ post)) w' → wpList P ops Q rest a w') : wpList P ops Q (o :: rest) a w := by
  simp only [Bool.and_eq_true, beq_iff_eq] at h1
  rcases hO.2 with ⟨-, e, -⟩ | ⟨g', cap', sp, rfl, e, h2, h3, h4⟩
  · simp at e
  · simp only [Value.slice.injEq, Option.some.injEq, Addr.mk.injEq, and_true, true_and] at e
    obtain ⟨rfl, rfl⟩ := e
    have e := hC.eq
    subst e
    have hst : stL off vs (xs ++ sp) = stL off vs xs ++ sp := stL_app (by omega)
    have hr := run_st (P := P) hT hR hv hst To.mid (by rw [List.length_append]; omega) h1.1 h1.2
    have hR' := hR.store (c' := stL off vs xs ++ sp) To.mid
    refine BigFrame.wpList_want (by simp [Region.wanted, hg]) fun K hK => ?_
    unfold Oper.wp execOp
    rw [hop]
    simp only [hx, Instr.storeAt, Instr.sureAddr, Sem.run_bind, Sem.run_pure, Result.andThen_ok, hr]
    simp only [Oper.upon, hd, Act.put]
    refine hK _ _ (h _ _ ⟨?_, .inr ⟨g, cap, sp, rfl, rfl, h2, h3, ?_⟩⟩ hR')
    · rw [stL_length (by omega)]; exact hO.1
    · rw [List.length_append, stL_length (by omega), ← List.length_append]; exact h4
theorem stL_cons (x : Value) (o : Nat) (vs c : List Value) (h : o + vs.length ≤ c.length) : stL (o + 1) vs (x :: c) = x :: stL o vs c := by
  rw [stL_eq _ _ _ (by simp; omega), stL_eq _ _ _ h]
  simp [show o + 1 + vs.length = o + vs.length + 1 by omega]
theorem stL_rvals (x : Rng) : ∀ (l : List Rng) (n : Nat), n < l.length → stL (n * 4) x.vals (rvals l) = rvals (l.set n x)
  | r :: l, 0, _ => by
    rw [stL_eq _ _ _ (by simp [rvals_length, Rng.vals]; omega)]; simp [rvals_cons, Rng.vals]
  | r :: l, n + 1, h => by
    have hn : n < l.length := by simpa using h
    have ih := stL_rvals x l n hn
    have hl : n * 4 + x.vals.length ≤ (rvals l).length := by rw [rvals_length]; simp [Rng.vals]; omega
    rw [List.set_cons_succ, rvals_cons, rvals_cons, ← ih]
    simp only [Rng.vals, List.cons_append, List.nil_append, show (n + 1) * 4 = n * 4 + 1 + 1 + 1 + 1 by omega] at hl ⊢
    rw [stL_cons _ _ _ _ (by simp at hl ⊢; omega), stL_cons _ _ _ _ (by simp at hl ⊢; omega), stL_cons _ _ _ _ (by simp at hl ⊢; omega), stL_cons _ _ _ _ hl]
theorem stL_rvals_hi (b : Bnd) : ∀ (l : List Rng) (n : Nat) (r : Rng), l[n]? = some r → stL (n * 4 + 2) [.string b.key, .bool b.top] (rvals l) = rvals (l.set n ⟨r.lo, b⟩)
  | r0 :: l, 0, r, h => by
    obtain rfl : r0 = r := by simpa using h
    rw [stL_eq _ _ _ (by simp [rvals_length]; omega)]; simp [rvals_cons, Rng.vals]
  | r0 :: l, n + 1, r, h => by
    have ih := stL_rvals_hi b l n r (by simpa using h)
    have hn : n < l.length := (List.getElem?_eq_some_iff.1 (by simpa using h : l[n]? = some r)).1
    have hl : n * 4 + 2 + 2 ≤ (rvals l).length := by rw [rvals_length]; omega
    rw [List.set_cons_succ, rvals_cons, rvals_cons, ← ih]
    simp only [Rng.vals, List.cons_append, List.nil_append, show (n + 1) * 4 + 2 = n * 4 + 2 + 1 + 1 + 1 + 1 by omega]
    rw [stL_cons _ _ _ _ (by simp; omega), stL_cons _ _ _ _ (by simp; omega), stL_cons _ _ _ _ (by simp; omega), stL_cons _ _ _ _ (by simpa using hl)]
end
end Go.Proofs.YtlbnhhfaedhgfaaDoor
namespace Go.Proofs.YtlbnhhfaedhgfaaDoor
set_option linter.unusedSimpArgs false
set_option linter.unusedVariables false
open Go.RowKit
section
variable {α : Type} {enc : α → List Value} {z : Nat}
def fl (enc : α → List Value) (l : List α) : List Value := l.flatMap enc
theorem fl_cons (x : α) (l : List α) : fl enc (x :: l) = enc x ++ fl enc l := rfl
theorem fl_length (hz : ∀ x, (enc x).length = z) : ∀ l : List α, (fl enc l).length = l.length * z
  | [] => by simp [fl]
  | x :: l => by rw [fl_cons, List.length_append, fl_length hz l, hz, List.length_cons, Nat.add_mul]; omega
theorem fl_drop (hz : ∀ x, (enc x).length = z) : ∀ (l : List α) (n : Nat), (fl enc l).drop (n * z) = fl enc (l.drop n)
  | [], n => by simp [fl]
  | x :: l, 0 => by simp
  | x :: l, n + 1 => by
    rw [fl_cons, List.drop_succ_cons, ← fl_drop hz l n, List.drop_append, hz, List.drop_eq_nil_of_le (by rw [hz, Nat.add_mul]; omega), List.nil_append]
    congr 1; rw [Nat.add_mul]; omega
theorem fl_part (hz : ∀ x, (enc x).length = z) {l : List α} {k : Nat} {r : α} (h : l[k]? = some r) (i m : Nat) (him : i + m ≤ z) : ((fl enc l).drop (k * z + i)).take m = ((enc r).drop i).take m := by
  obtain ⟨h1, h2⟩ := List.getElem?_eq_some_iff.1 h
  rw [← List.drop_drop, fl_drop hz, List.drop_eq_getElem_cons h1, h2, fl_cons, List.drop_append_of_le_length (by rw [hz]; omega), List.take_append_of_le_length (by rw [List.length_drop, hz]; omega)]
theorem fl_elem (hz : ∀ x, (enc x).length = z) {l : List α} {k : Nat} {r : α} (h : l[k]? = some r) : ((fl enc l).drop (k * z)).take z = enc r := by
  have := fl_part hz h 0 z (by omega)
  rw [Nat.add_zero, List.drop_zero, List.take_of_length_le (Nat.le_of_eq (hz r))] at this; exact this
theorem fl_get (hz : ∀ x, (enc x).length = z) {l : List α} {k : Nat} {r : α} (h : l[k]? = some r) {j : Nat} {u : Value} (hj : (enc r)[j]? = some u) : (fl enc l)[k * z + j]? = some u := by
  have hjz : j < z := by rw [← hz r]; exact (List.getElem?_eq_some_iff.1 hj).1
  have h1 := fl_elem hz h
  rw [← h1, List.getElem?_take_of_lt hjz, List.getElem?_drop] at hj; exact hj
theorem Rw.elem (hz : ∀ x, (enc x).length = z) {w0 w : World} {X : Fr} {R : List Win} {S : List OB} {p : Option Addr} {n c k : Nat} {l : List α} {r : α} (h : Rw w0 X z (.slice p n c) n (fl enc l)) (hz0 : 0 < z) (hk : l[k]? = some r) (hR : Rep w0 X R S w) :
    ∃ b o : Nat, p = some ⟨b, o, none⟩ ∧ Rep w0 X (⟨b, o + k * z, enc r⟩ :: R) S w := by
  obtain ⟨p', c', e, h1, h2⟩ := h.ex
  simp only [Value.slice.injEq] at e
  obtain ⟨rfl, -, rfl⟩ := e
  have hl := h.len
  rw [fl_length hz] at hl
  have hkl := (List.getElem?_eq_some_iff.1 hk).1
  have hln : l.length = n := Nat.eq_of_mul_eq_mul_right hz0 hl
  rcases h2 with rfl | ⟨b, o, rfl, hb, hx, hc⟩
  · omega
  · exact ⟨b, o, rfl, hR.addwin b (o + k * z) (enc r) hb hx fun j u hj => by rw [Nat.add_assoc]; exact hc _ _ (fl_get hz hk hj)⟩
theorem Rw.count (hz : ∀ x, (enc x).length = z) (hz0 : 0 < z) {w0 : World} {X : Fr} {v : Value} {n : Nat} {l : List α} (h : Rw w0 X z v n (fl enc l)) : l.length = n := by
  have := h.len; rw [fl_length hz] at this; exact Nat.eq_of_mul_eq_mul_right hz0 this
theorem Rd.count (hz : ∀ x, (enc x).length = z) (hz0 : 0 < z) {w0 : World} {v : Value} {n : Nat} {l : List α} (h : Rd w0 z v n (fl enc l)) : l.length = n := by
  have := h.len; rw [fl_length hz] at this; exact Nat.eq_of_mul_eq_mul_right hz0 this
end
theorem rvz (r : Rng) : r.vals.length = 4 := rfl
theorem rvals_fl (l : List Rng) : rvals l = fl Rng.vals l := rfl

theorem OS.head {sl : List OB} {E : TypeId} {z n i cap : Nat} {p : Option Addr} {xs : List Value} (h : OS sl E z (.slice p n cap) n xs) (hi : i ≤ n) : OS sl E z (.slice p i cap) i (xs.take (i * z)) := by
  have hl := h.1
  have hm := Nat.mul_le_mul_right z hi
  refine ⟨by rw [List.length_take]; omega, ?_⟩
  rcases h.2 with ⟨h1, h2, h3⟩ | ⟨g, cap', sp, h1, h2, h3, h4, h5⟩
  · simp only [Value.slice.injEq] at h2
    obtain ⟨rfl, h2, rfl⟩ := h2
    subst h3
    obtain rfl : i = 0 := by omega
    exact .inl ⟨h1, rfl, rfl⟩
  · simp only [Value.slice.injEq] at h2
    obtain ⟨rfl, h2, rfl⟩ := h2
    refine .inr ⟨g, cap, xs.drop (i * z) ++ sp, by rw [h1, ← List.append_assoc, List.take_append_drop], rfl, by omega, h4, by rw [← List.append_assoc, List.take_append_drop]; exact h5⟩

def ldW (ag : Bool) (vs : List Value) : Value := if ag then .agg vs.toArray else vs.headD undef
section
variable {P : Program} {w : World}
theorem run_ld_os {w0 : World} {X : Fr} {R : List Win} {S sl pre post : List OB} {T E : TypeId} {z n m off g cap : Nat} {ag : Bool} {xs vs : List Value} (hR : Rep w0 X R S w) (hO : OS sl E z (.slice (some ⟨g, 0, none⟩) n cap) n xs) (hC : Ctx S sl pre post)
    (hT : Ty P T m ag) (hag : (ag || m == 1) = true) (hl : off + m ≤ xs.length) (hv : (xs.drop off).take m = vs) : (loadVar T ⟨g, off, none⟩).run P w = .ok (ldW ag vs) w := by
  rcases hO.2 with ⟨-, e, -⟩ | ⟨g', cap', sp, rfl, e, h2, h3, h4⟩
  · simp at e
  · simp only [Value.slice.injEq, Option.some.injEq, Addr.mk.injEq, and_true, true_and] at e
    obtain ⟨rfl, rfl⟩ := e
    have hm : (⟨g, E, xs ++ sp⟩ : OB) ∈ S := (sub_ctx hC).subset List.mem_cons_self
    simp only [Bool.or_eq_true, beq_iff_eq] at hag
    have hr' := run_ld (w := w) hT (hR.cells hm) (off := off) (by simp only [List.length_append]; omega) (fun e => hag.resolve_left (by simp [e]))
    rw [hr']
    have hv' : ((xs ++ sp).drop off).take m = vs := by
      rw [List.drop_append_of_le_length (by omega), List.take_append_of_le_length (by rw [List.length_drop]; omega)]; exact hv
    congr 1
    cases ag with
    | true => simp only [ldV, ldW, if_true, hv']
    | false =>
      obtain rfl : m = 1 := hag.resolve_left (by simp)
      simp only [ldV, ldW, Bool.false_eq_true, if_false, ← hv']
      rw [List.headD_eq_head?_getD, List.head?_take, if_neg (by omega), List.head?_drop, List.getD_eq_getElem?_getD]
theorem wpList_ld_os {ops : Array Oper} {Q : Exit → Act → World → Prop} {a a' : Act} {rest : List Oper} {o : Oper} {w0 : World} {X : Fr} {R : List Win} {S sl pre post : List OB} {T E : TypeId} {z n m off g cap : Nat} {ag : Bool} {x : Operand} {xs vs : List Value}
    (hR : Rep w0 X R S w) (hop : o.op = .load T x) (hg : o.guard = none) (hO : OS sl E z (.slice (some ⟨g, 0, none⟩) n cap) n xs) (hC : Ctx S sl pre post) (hx : a.eval x = .pointer (some ⟨g, off, none⟩)) (hT : Ty P T m ag) (hag : (ag || m == 1) = true)
    (hl : off + m ≤ xs.length) (hv : (xs.drop off).take m = vs) (ha : a.put o.dst (ldW ag vs) = a') (h : wpList P ops Q rest a' w) : wpList P ops Q (o :: rest) a w := by
  have hr := run_ld_os hR hO hC hT hag hl hv
  refine BigFrame.wpList_want (by simp [Region.wanted, hg]) fun K hK => ?_
  unfold Oper.wp execOp
  rw [hop]
  simp only [hx, Instr.loadAt, Instr.sureAddr, Sem.run_bind, Sem.run_pure, Result.andThen_ok, hr, Oper.upon]
  subst ha
  exact hK _ _ h
theorem dc_ld_own {L : List Oper} {w0 : World} {X : Fr} {R : List Win} {im : List Nat} {Qf : Act → List OB → Prop} {i : Nat} {rr : List Nat} {a a' : Act} {S sl pre post : List OB} {o : Oper} {T E : TypeId} {x : Operand} {z n m off g cap : Nat} {ag : Bool} {xs vs : List Value}
    (ho : nth L i = some o) (hi : im.contains i = false) (hw : Region.wanted o (yielded L.toArray a.tmps) = true) (hop : o.op = .load T x) (hO : OS sl E z (.slice (some ⟨g, 0, none⟩) n cap) n xs) (hC : Ctx S sl pre post) (hx : a.eval x = .pointer (some ⟨g, off, none⟩)) (hT : Ty P T m ag) (hag : (ag || m == 1) = true)
    (hl : off + m ≤ xs.length) (hv : (xs.drop off).take m = vs) (ha : a.put o.dst (ldW ag vs) = a') (h : DC P L.toArray w0 X R im Qf rr a' S) : DC P L.toArray w0 X R im Qf (i :: rr) a S := by
  refine dc_read ho hi hw (fun w hR => ?_) ha h
  have hr := run_ld_os hR hO hC hT hag hl hv
  unfold execOp
  rw [hop]
  simp only [hx, Instr.loadAt, Instr.sureAddr, Sem.run_bind, Sem.run_pure, Result.andThen_ok, hr]

theorem zeroCells_mem {zc : Array Value} {n : Nat} {p : Value → Prop} (h : ∀ v ∈ zc, p v) : ∀ v ∈ (Builtin.zeroCells zc n).toList, p v := by
  intro v hv
  simp only [Builtin.zeroCells, Array.toList_map, List.mem_map] at hv
  obtain ⟨i, hi, rfl⟩ := hv
  have hi' : i < n * zc.size := by simpa using hi
  have hs : 0 < zc.size := Nat.pos_of_ne_zero fun h0 => by rw [h0] at hi'; omega
  have hlt := Nat.mod_lt i hs
  rw [getElem!_pos zc (i % zc.size) hlt]
  exact h _ (Array.getElem_mem hlt)
theorem run_clear_os {w0 : World} {X : Fr} {R : List Win} {S sl pre post : List OB} {t ty E : TypeId} {z bytes n i m c cap g : Nat} {xs zl : List Value} (hS : Sl P t E z bytes) (hZ : ZeroIs P E zl) (hz1 : zl.all Value.oneCell' = true) (hR : Rep w0 X R S w)
    (hO : OS sl E z (.slice (some ⟨g, 0, none⟩) n cap) n xs) (hC : Ctx S sl pre post) (him : i + m = n) (hm : 0 < m) :
    ∃ sl' w', (Builtin.clear_ #[t] ty #[.slice (some ⟨g, i * z, none⟩) m c]).run P w = .ok (.tuple #[]) w' ∧ OS sl' E z (.slice (some ⟨g, 0, none⟩) i cap) i (xs.take (i * z)) ∧ Rep w0 X R (pre ++ (sl' ++ post)) w' := by
  obtain ⟨inf, zv, hi, hz, rfl, rfl, hzs⟩ := hS.el
  have ht := hS.un
  simp only [ZeroIs, hi, Option.bind_some, hz, Option.map_some, Option.some.injEq] at hZ
  rcases hO.2 with ⟨-, e, -⟩ | ⟨g', cap', sp, rfl, e, h2, h3, h4⟩
  · simp at e
  · simp only [Value.slice.injEq, Option.some.injEq, Addr.mk.injEq, and_true, true_and] at e
    obtain ⟨rfl, rfl⟩ := e
    have e := hC.eq
    subst e
    have hmem : (⟨g, E, xs ++ sp⟩ : OB) ∈ pre ++ ([⟨g, E, xs ++ sp⟩] ++ post) := by simp
    have hzl : (Builtin.zeroCells zv.cells m).toList.length = m * inf.size := by rw [Array.length_toList, size_zeroCells, hzs]
    have hxl := hO.1
    have hnm : n * inf.size = i * inf.size + m * inf.size := by rw [← him, Nat.add_mul]
    have hst := run_storeCells_at P g (i * inf.size) E (Builtin.zeroCells zv.cells m).toList 0 (xs ++ sp).toArray w (hR.own _ hmem) (by rw [hzl]; simp; omega) (zeroCells_mem fun v hv => List.all_eq_true.1 hz1 v (by rw [← hZ]; exact Array.mem_toList_iff.2 hv))
    simp only [Nat.add_zero, hzl] at hst
    have hst2 : stL (i * inf.size) (Builtin.zeroCells zv.cells m).toList (xs ++ sp) = xs.take (i * inf.size) ++ ((Builtin.zeroCells zv.cells m).toList ++ sp) := by
      rw [stL_eq _ _ _ (by rw [hzl]; simp; omega), hzl, List.take_append_of_le_length (by omega), show i * inf.size + m * inf.size = xs.length by omega, List.drop_left, List.append_assoc]
    have hR' := hR.store (c' := stL (i * inf.size) (Builtin.zeroCells zv.cells m).toList (xs ++ sp)) To.mid
    refine ⟨[⟨g, E, xs.take (i * inf.size) ++ ((Builtin.zeroCells zv.cells m).toList ++ sp)⟩], w.setRow g (stL (i * inf.size) (Builtin.zeroCells zv.cells m).toList (xs ++ sp)).toArray, ?_, ⟨by rw [List.length_take]; omega, .inr ⟨g, cap, (Builtin.zeroCells zv.cells m).toList ++ sp, rfl, rfl, by omega, h3, ?_⟩⟩, ?_⟩
    · have hm0 : m ≠ 0 := by omega
      rw [stL_eq _ _ _ (by rw [hzl]; simp; omega), hzl]
      cases m with
      | zero => omega
      | succ m =>
        simp [Builtin.clear_, run_underlying ht, zeroValue, typeInfo, hi, hz, hst]
    · simp only [List.length_append, List.length_take, hzl] at h4 ⊢; omega
    · have e2 : ([⟨g, E, stL (i * inf.size) (Builtin.zeroCells zv.cells m).toList (xs ++ sp)⟩] : List OB) = [⟨g, E, xs.take (i * inf.size) ++ ((Builtin.zeroCells zv.cells m).toList ++ sp)⟩] := by rw [hst2]
      rw [e2] at hR'; exact hR'
theorem wpList_clear_os {ops : Array Oper} {Q : Exit → Act → World → Prop} {a : Act} {rest : List Oper} {o : Oper} {w0 : World} {X : Fr} {R : List Win} {S sl pre post : List OB} {t E : TypeId} {z bytes n i m c cap g : Nat} {xs zl : List Value} {s : Operand}
    (hR : Rep w0 X R S w) (hop : o.op = .call { callee := .builtin .clear, args := #[s], argTypes := #[t] }) (hd : o.dst = none) (hg : o.guard = none) (hs : a.eval s = .slice (some ⟨g, i * z, none⟩) m c) (hS : Sl P t E z bytes) (hZ : ZeroIs P E zl) (hz1 : zl.all Value.oneCell' = true)
    (hO : OS sl E z (.slice (some ⟨g, 0, none⟩) n cap) n xs) (hC : Ctx S sl pre post) (him : i + m = n) (hm : 0 < m)
    (h : ∀ sl' w', OS sl' E z (.slice (some ⟨g, 0, none⟩) i cap) i (xs.take (i * z)) → Rep w0 X R (pre ++ (sl' ++ post)) w' → wpList P ops Q rest a w') : wpList P ops Q (o :: rest) a w := by
  obtain ⟨sl', w', hr, h2, h3⟩ := run_clear_os (P := P) (ty := o.type) (c := c) hS hZ hz1 hR hO hC him hm
  refine BigFrame.wpList_want (by simp [Region.wanted, hg]) fun K hK => ?_
  unfold Oper.wp execOp
  simp only [hop, resolve, invoke, builtin, Sem.run_bind, Sem.run_pure, Result.andThen_ok, List.map_toArray, List.map_cons, List.map_nil, hs, hr, Oper.upon, hd, Act.put]
  exact hK _ _ (h _ _ h2 h3)
theorem run_copy_os {w0 : World} {X : Fr} {R : List Win} {S sl pre post : List OB} {t t2 ty E : TypeId} {z bytes n i m c c2 cap g : Nat} {xs : List Value} (hS : Sl P t E z bytes) (hx1 : xs.all Value.oneCell' = true) (hR : Rep w0 X R S w)
    (hO : OS sl E z (.slice (some ⟨g, 0, none⟩) n cap) n xs) (hC : Ctx S sl pre post) (him : i + 1 + m = n) :
    ∃ sl' w', (Builtin.copy_ #[t, t2] ty #[.slice (some ⟨g, (i + 1) * z, none⟩) m c, .slice (some ⟨g, i * z, none⟩) (m + 1) c2]).run P w = .ok (goInt m) w' ∧ OS sl' E z (.slice (some ⟨g, 0, none⟩) n cap) n (xs.take ((i + 1) * z) ++ (xs.drop (i * z)).take (m * z)) ∧ Rep w0 X R (pre ++ (sl' ++ post)) w' := by
  obtain ⟨inf, zv, hi, hz, rfl, rfl, hzs⟩ := hS.el
  have ht := hS.un
  rcases hO.2 with ⟨-, e, -⟩ | ⟨g', cap', sp, rfl, e, h2, h3, h4⟩
  · simp at e
  · simp only [Value.slice.injEq, Option.some.injEq, Addr.mk.injEq, and_true, true_and] at e
    obtain ⟨rfl, rfl⟩ := e
    have e := hC.eq
    subst e
    have hmem : (⟨g, E, xs ++ sp⟩ : OB) ∈ pre ++ ([⟨g, E, xs ++ sp⟩] ++ post) := by simp
    have hxl := hO.1
    have hnm : n * inf.size = (i + 1) * inf.size + m * inf.size := by rw [← him, Nat.add_mul]
    have hi1 : (i + 1) * inf.size = i * inf.size + inf.size := by rw [Nat.add_mul]; omega
    have hcl : ((xs.drop (i * inf.size)).take (m * inf.size)).length = m * inf.size := by rw [List.length_take, List.length_drop]; omega
    have hsrc : ∀ j v, ((xs.drop (i * inf.size)).take (m * inf.size))[j]? = some v → w.cell? ((⟨g, i * inf.size, none⟩ : Addr).add j) = some v := fun j v hj => by
      have hj' : j < m * inf.size := by rw [← hcl]; exact (List.getElem?_eq_some_iff.1 hj).1
      rw [List.getElem?_take_of_lt hj', List.getElem?_drop] at hj
      rw [addr_add, hR.cells hmem]
      simp only
      rw [List.getElem?_append_left (List.getElem?_eq_some_iff.1 hj).1]; exact hj
    have hl := run_loadCells_list (P := P) w ⟨g, i * inf.size, none⟩ _ hsrc
    have hall : ∀ v ∈ (xs.drop (i * inf.size)).take (m * inf.size), v.oneCell' = true := fun v hv => List.all_eq_true.1 hx1 v (List.mem_of_mem_drop (List.mem_of_mem_take hv))
    have hst := run_storeCells_at P g ((i + 1) * inf.size) E ((xs.drop (i * inf.size)).take (m * inf.size)) 0 (xs ++ sp).toArray w (hR.own _ hmem) (by rw [hcl]; simp; omega) hall
    simp only [Nat.add_zero, hcl] at hst
    have hst2 : stL ((i + 1) * inf.size) ((xs.drop (i * inf.size)).take (m * inf.size)) (xs ++ sp) = (xs.take ((i + 1) * inf.size) ++ (xs.drop (i * inf.size)).take (m * inf.size)) ++ sp := by
      rw [stL_eq _ _ _ (by rw [hcl]; simp; omega), hcl, List.take_append_of_le_length (by omega), show (i + 1) * inf.size + m * inf.size = xs.length by omega, List.drop_left]
    have hR' := hR.store (c' := stL ((i + 1) * inf.size) ((xs.drop (i * inf.size)).take (m * inf.size)) (xs ++ sp)) To.mid
    refine ⟨[⟨g, E, (xs.take ((i + 1) * inf.size) ++ (xs.drop (i * inf.size)).take (m * inf.size)) ++ sp⟩], w.setRow g (stL ((i + 1) * inf.size) ((xs.drop (i * inf.size)).take (m * inf.size)) (xs ++ sp)).toArray, ?_, ⟨by rw [List.length_append, hcl, List.length_take]; omega, .inr ⟨g, cap, sp, rfl, rfl, h2, h3, ?_⟩⟩, ?_⟩
    · rw [stL_eq _ _ _ (by rw [hcl]; simp; omega), hcl]
      have hmin : Nat.min (m + 1) m = m := by simp [Nat.min_def]
      rw [hcl] at hl
      simp [Builtin.copy_, run_underlying ht, Builtin.lenOf, Builtin.firstCells, sizeOf, typeInfo, hi, hmin, hl, hst]
    · simp only [List.length_append, List.length_take, hcl] at h4 ⊢; omega
    · have e2 : ([⟨g, E, stL ((i + 1) * inf.size) ((xs.drop (i * inf.size)).take (m * inf.size)) (xs ++ sp)⟩] : List OB) = [⟨g, E, (xs.take ((i + 1) * inf.size) ++ (xs.drop (i * inf.size)).take (m * inf.size)) ++ sp⟩] := by rw [hst2]
      rw [e2] at hR'; exact hR'
theorem run_copy_os' {w0 : World} {X : Fr} {R : List Win} {S sl pre post : List OB} {t t2 ty E : TypeId} {z bytes n i m o1 o2 c c2 cap g : Nat} {xs : List Value} (hS : Sl P t E z bytes) (hx1 : xs.all Value.oneCell' = true) (hR : Rep w0 X R S w)
    (hO : OS sl E z (.slice (some ⟨g, 0, none⟩) n cap) n xs) (hC : Ctx S sl pre post) (him : i + 1 + m = n) (h1 : 0 < m → o1 = (i + 1) * z) (h2 : 0 < m → o2 = i * z) :
    ∃ sl' w', (Builtin.copy_ #[t, t2] ty #[.slice (some ⟨g, o1, none⟩) m c, .slice (some ⟨g, o2, none⟩) (m + 1) c2]).run P w = .ok (goInt m) w' ∧ OS sl' E z (.slice (some ⟨g, 0, none⟩) n cap) n (xs.take ((i + 1) * z) ++ (xs.drop (i * z)).take (m * z)) ∧ Rep w0 X R (pre ++ (sl' ++ post)) w' := by
  rcases Nat.eq_zero_or_pos m with rfl | hm
  · obtain ⟨inf, zv, hi, hz, rfl, rfl, hzs⟩ := hS.el
    have ht := hS.un
    have hmin : Nat.min (0 + 1) 0 = 0 := rfl
    refine ⟨sl, w, ?_, ?_, by rw [← hC.eq]; exact hR⟩
    · simp [Builtin.copy_, run_underlying ht, Builtin.lenOf, Builtin.firstCells, sizeOf, typeInfo, hi, hmin, loadCells, loadCellsFrom, storeCells]
    · have : xs.take ((i + 1) * inf.size) ++ (xs.drop (i * inf.size)).take (0 * inf.size) = xs := by
        rw [List.take_of_length_le (by rw [hO.1, ← him]; simp)]; simp
      rw [this]; exact hO
  · rw [h1 hm, h2 hm]; exact run_copy_os hS hx1 hR hO hC him
theorem wpList_copy_os {ops : Array Oper} {Q : Exit → Act → World → Prop} {a : Act} {rest : List Oper} {o : Oper} {w0 : World} {X : Fr} {R : List Win} {S sl pre post : List OB} {t t2 E : TypeId} {z bytes n i m m2 o1 o2 c c2 cap g : Nat} {xs : List Value} {s y : Operand} {d : Tmp}
    (hR : Rep w0 X R S w) (hop : o.op = .call { callee := .builtin .copy, args := #[s, y], argTypes := #[t, t2] }) (hd : o.dst = some d) (hg : o.guard = none) (hs : a.eval s = .slice (some ⟨g, o1, none⟩) m c) (hy : a.eval y = .slice (some ⟨g, o2, none⟩) m2 c2) (hS : Sl P t E z bytes) (hx1 : xs.all Value.oneCell' = true)
    (hO : OS sl E z (.slice (some ⟨g, 0, none⟩) n cap) n xs) (hC : Ctx S sl pre post) (him : m2 = m + 1 ∧ i + 1 + m = n ∧ (0 < m → o1 = (i + 1) * z) ∧ (0 < m → o2 = i * z))
    (h : ∀ sl' w', OS sl' E z (.slice (some ⟨g, 0, none⟩) n cap) n (xs.take ((i + 1) * z) ++ (xs.drop (i * z)).take (m * z)) → Rep w0 X R (pre ++ (sl' ++ post)) w' → ∃ a', a.put (some d) (goInt m) = a' ∧ wpList P ops Q rest a' w') : wpList P ops Q (o :: rest) a w := by
  obtain ⟨rfl, him, ho1, ho2⟩ := him
  obtain ⟨sl', w', hr, h2, h3⟩ := run_copy_os' (P := P) (ty := o.type) (t2 := t2) (c := c) (c2 := c2) hS hx1 hR hO hC him ho1 ho2
  refine BigFrame.wpList_want (by simp [Region.wanted, hg]) fun K hK => ?_
  unfold Oper.wp execOp
  simp only [hop, resolve, invoke, builtin, Sem.run_bind, Sem.run_pure, Result.andThen_ok, List.map_toArray, List.map_cons, List.map_nil, hs, hy, hr, Oper.upon, hd]
  obtain ⟨a', e, h'⟩ := h sl' w' h2 h3
  rw [e]
  exact hK _ _ h'
theorem run_slice_end {t E : TypeId} {z bytes g o n cap lo : Nat} {i : Int} (hS : Sl P t E z bytes) (hi : i = (lo : Int)) (hl : lo ≤ n) : ∃ off, (lo < cap → off = o + lo * z) ∧ (Instr.sliceAt t (.slice (some ⟨g, o, none⟩) n cap) (some (.int .i64 i)) none none).run P w = .ok (.slice (some ⟨g, off, none⟩) (n - lo) (cap - lo)) w := by
  obtain ⟨inf, zv, hinf, hz, rfl, rfl, hzs⟩ := hS.el
  have ht := hS.un
  subst hi
  have h1 := run_sliceBound (P := P) (w := w) .i64 (lo : Int) n .sliceB (by omega) (by omega)
  by_cases hc : cap = lo
  · refine ⟨o, fun h => by omega, ?_⟩
    simp [Instr.sliceAt, Instr.slice, run_underlying ht, Instr.sliceBounds, h1, sizeOf, typeInfo, hinf, hc]
  · refine ⟨o + lo * inf.size, fun _ => rfl, ?_⟩
    simp [Instr.sliceAt, Instr.slice, run_underlying ht, Instr.sliceBounds, h1, sizeOf, typeInfo, hinf, hc, addr_add]
theorem dc_slice_end {L : List Oper} {w0 : World} {X : Fr} {R : List Win} {im : List Nat} {Qf : Act → List OB → Prop} {k : Nat} {rr : List Nat} {a : Act} {S : List OB} {op : Oper} {t E : TypeId} {z bytes g o n cap lo : Nat} {i : Int} {x y : Operand}
    (ho : nth L k = some op) (hi : im.contains k = false) (hw : Region.wanted op (yielded L.toArray a.tmps) = true) (hop : op.op = .slice t x (some y) none none) (hx : a.eval x = .slice (some ⟨g, o, none⟩) n cap) (hy : a.eval y = .int .i64 i) (hS : Sl P t E z bytes) (hlo : i = (lo : Int)) (hl : lo ≤ n)
    (h : ∀ off, Hid (lo < cap → off = o + lo * z) → ∃ a', a.put op.dst (.slice (some ⟨g, off, none⟩) (n - lo) (cap - lo)) = a' ∧ DC P L.toArray w0 X R im Qf rr a' S) : DC P L.toArray w0 X R im Qf (k :: rr) a S := by
  obtain ⟨off, h1⟩ : ∃ off, (lo < cap → off = o + lo * z) ∧ ∀ w, (Instr.sliceAt t (.slice (some ⟨g, o, none⟩) n cap) (some (.int .i64 i)) none none).run P w = .ok (.slice (some ⟨g, off, none⟩) (n - lo) (cap - lo)) w := by
    by_cases hc : lo < cap
    · refine ⟨o + lo * z, fun _ => rfl, fun w => ?_⟩
      obtain ⟨off, h1, h2⟩ := run_slice_end (P := P) (w := w) (g := g) (o := o) (cap := cap) hS hlo hl
      rw [h2, h1 hc]
    · by_cases hce : cap = lo
      · refine ⟨o, fun h => absurd h hc, fun w => ?_⟩
        obtain ⟨inf, zv, hinf, hz, rfl, rfl, hzs⟩ := hS.el
        have ht := hS.un
        subst hlo
        have h1 := run_sliceBound (P := P) (w := w) .i64 (lo : Int) n .sliceB (by omega) (by omega)
        simp [Instr.sliceAt, Instr.slice, run_underlying ht, Instr.sliceBounds, h1, sizeOf, typeInfo, hinf, hce]
      · refine ⟨o + lo * z, fun h => absurd h hc, fun w => ?_⟩
        obtain ⟨inf, zv, hinf, hz, rfl, rfl, hzs⟩ := hS.el
        have ht := hS.un
        subst hlo
        have h1 := run_sliceBound (P := P) (w := w) .i64 (lo : Int) n .sliceB (by omega) (by omega)
        simp [Instr.sliceAt, Instr.slice, run_underlying ht, Instr.sliceBounds, h1, sizeOf, typeInfo, hinf, hce, addr_add]
  obtain ⟨a', e, hd⟩ := h off (Lib.hid h1.1)
  refine dc_pure ho hi hw (fun w => ?_) e hd
  unfold execOp
  rw [hop]
  simp [hx, hy, h1.2 w]
end
end Go.Proofs.YtlbnhhfaedhgfaaDoor
namespace Go.Proofs.YtlbnhhfaedhgfaaDoor
set_option linter.unusedSimpArgs false
set_option linter.unusedVariables false
open Go.RowKit
inductive Plan
  | done
  | rd (i : Nat) (t : Plan)
  | m1 (i : Nat) (t : Plan)
  | m2 (i : Nat) (t : Plan) (j : Nat) (u : Plan)
def Plan.still : Plan → Bool
  | .rd _ _ => false
  | _ => true

def okS (ops : Array Oper) (k : Nat) : Bool :=
  match ops[k]? with
  | none => false
  | some o => (List.range ops.size).all fun j => match ops[j]? with
      | none => true
      | some oj => match oj.dst with
        | none => true
        | some d => (j == k || o.dst != some d) && (!(o.looksAt ops).contains d || o.after.any fun e => Region.binds .any e && e.on == j)
def depsIn (ops : Array Oper) (pre : List Nat) (k : Nat) : Bool :=
  match ops[k]? with
  | none => false
  | some o => o.after.all fun e => !Region.binds .any e || pre.contains e.on
def waitsP (ops : Array Oper) (pre c : List Nat) : Bool := (List.range ops.size).all fun k => pre.contains k || c.contains k || !depsIn ops pre k
def stepP (ops : Array Oper) (pre : List Nat) (i : Nat) : Bool := decide (i < ops.size) && !pre.contains i && depsIn ops pre i
def chkP (ops : Array Oper) : Plan → List Nat → Bool
  | .done, pre => (List.range ops.size).all fun k => pre.contains k
  | .rd i t, pre => stepP ops pre i && chkP ops t (pre ++ [i])
  | .m1 i t, pre => waitsP ops pre [i] && stepP ops pre i && chkP ops t (pre ++ [i])
  | .m2 i t j u, pre => waitsP ops pre [i, j] && stepP ops pre i && chkP ops t (pre ++ [i]) && stepP ops pre j && chkP ops u (pre ++ [j])
section
variable {P : Program} {w0 : World} {X : Fr} {R : List Win}
def MUp (P : Program) (w0 : World) (X : Fr) (R : List Win) (S : List OB) (next : Value → List OB → List OB → Prop) (w : World) : Result Next → Prop
  | .ok (.value v) w' => ∃ M' S', S.Sublist S' ∧ Rep w0 X R (M' ++ S') w' ∧ next v M' S'
  | .ok .skip w' => ∃ M' S', S.Sublist S' ∧ Rep w0 X R (M' ++ S') w' ∧ next undef M' S'
  | .ok (.enter f args) w' => w' = w ∧ Calls P f args w (fun e w'' => ∃ v M' S', e = .returned v ∧ S.Sublist S' ∧ Rep w0 X R (M' ++ S') w'' ∧ next v M' S')
  | _ => False
def MSt (P : Program) (L : Array Oper) (w0 : World) (X : Fr) (R : List Win) (i : Nat) (a : Act) (M S : List OB) (next : Act → List OB → List OB → Prop) : Prop :=
  ∃ o, L[i]? = some o ∧ if Region.wanted o (yielded L a.tmps) then ∀ w, Rep w0 X R (M ++ S) w → MUp P w0 X R S (fun v M' S' => next (a.put o.dst v) M' S') w ((execOp a.eval o).run P w) else next (a.put o.dst undef) M S
def DT (P : Program) (L : Array Oper) (w0 : World) (X : Fr) (R : List Win) (Qf : Act → List OB → Prop) : Plan → Act → List OB → List OB → Prop
  | .done, a, M, S => Qf a (M ++ S)
  | .rd i t, a, M, S => ∃ o, L[i]? = some o ∧ if Region.wanted o (yielded L a.tmps) then ∃ v, (∀ w, Rep w0 X R S w → (execOp a.eval o).run P w = .ok (.value v) w) ∧ DT P L w0 X R Qf t (a.put o.dst v) M S else DT P L w0 X R Qf t (a.put o.dst undef) M S
  | .m1 i t, a, M, S => MSt P L w0 X R i a M S (DT P L w0 X R Qf t)
  | .m2 i t j u, a, M, S => MSt P L w0 X R i a M S (DT P L w0 X R Qf t) ∧ MSt P L w0 X R j a M S (DT P L w0 X R Qf u)

theorem okS_spec {ops : Array Oper} {k : Nat} (h : okS ops k = true) : ∃ o, ops[k]? = some o ∧
    (∀ j oj, j < ops.size → ops[j]? = some oj → ∀ d, oj.dst = some d → (j ≠ k → o.dst ≠ some d) ∧ (d ∈ o.looksAt ops → ∃ e ∈ o.after, Region.binds .any e = true ∧ e.on = j)) := by
  unfold okS at h
  cases ho : ops[k]? with
  | none => simp [ho] at h
  | some o =>
    simp only [ho] at h
    refine ⟨o, rfl, fun j oj hj hoj d hd => ?_⟩
    have := List.all_eq_true.1 h j (List.mem_range.2 hj)
    simp only [hoj, hd, Bool.and_eq_true, Bool.or_eq_true, beq_iff_eq, bne_iff_ne, Bool.not_eq_true'] at this
    refine ⟨fun hne => this.1.resolve_left hne, fun hm => ?_⟩
    rcases this.2 with h | h
    · simp [hm] at h
    · obtain ⟨e, he, hb⟩ := Array.any_eq_true'.1 h
      simp only [Bool.and_eq_true, beq_iff_eq] at hb
      exact ⟨e, he, hb.1, hb.2⟩
theorem depsIn_spec {ops : Array Oper} {pre : List Nat} {k : Nat} {o : Oper} (h : depsIn ops pre k = true) (ho : ops[k]? = some o) : ∀ e ∈ o.after, Region.binds .any e = true → e.on ∈ pre := by
  unfold depsIn at h
  simp only [ho] at h
  intro e he hb
  have := Array.all_eq_true_iff_forall_mem.1 h e he
  simpa [hb] using this
theorem depsIn_of {ops : Array Oper} {pre : List Nat} {k : Nat} {o : Oper} (ho : ops[k]? = some o) (h : ∀ e ∈ o.after, Region.binds .any e = true → e.on ∈ pre) : depsIn ops pre k = true := by
  unfold depsIn
  simp only [ho]
  refine Array.all_eq_true_iff_forall_mem.2 fun e he => ?_
  cases hb : Region.binds .any e with
  | false => rfl
  | true => simpa using h e he hb

structure TOk (l : List Oper) : Prop where
  ns : Region.noSelect l.toArray = true
  ok : ∀ k, k < l.toArray.size → okS l.toArray k = true
def Ev (P : Program) (l : List Oper) (w0 : World) (X : Fr) (R : List Win) (pre mk : List Nat) (A : Act) (S : List OB) : Prop :=
  ∀ (k : Nat) (o : Oper), k ∈ pre → l[k]? = some o → k ∉ mk → ∃ v, RG P l.toArray w0 X R S A o v ∧ ∀ d, o.dst = some d → A.tmps[d]? = if d < A.tmps.size then some v else none
def Cl (l : List Oper) (pre : List Nat) : Prop := (∀ k ∈ pre, k < l.toArray.size) ∧ ∀ k ∈ pre, ∀ o, l[k]? = some o → ∀ e ∈ o.after, Region.binds .any e = true → pre.idxOf e.on < pre.idxOf k
theorem Cl.snoc {l : List Oper} {pre : List Nat} {i : Nat} (h : Cl l pre) (hs : stepP l.toArray pre i = true) : Cl l (pre ++ [i]) ∧ i ∉ pre ∧ i < l.toArray.size ∧ ∀ o, l[i]? = some o → ∀ e ∈ o.after, Region.binds .any e = true → e.on ∈ pre := by
  simp only [stepP, Bool.and_eq_true, decide_eq_true_eq, Bool.not_eq_true'] at hs
  obtain ⟨⟨h1, h2⟩, h3⟩ := hs
  have hip : i ∉ pre := by simpa using h2
  have hd : ∀ o, l[i]? = some o → ∀ e ∈ o.after, Region.binds .any e = true → e.on ∈ pre := fun o ho => depsIn_spec h3 (by simpa using ho)
  refine ⟨⟨fun k hk => ?_, fun k hk o ho e he hb => ?_⟩, hip, h1, hd⟩
  · rcases List.mem_append.1 hk with hk | hk
    · exact h.1 k hk
    · obtain rfl : k = i := by simpa using hk
      exact h1
  · rcases List.mem_append.1 hk with hk | hk
    · have h4 := h.2 k hk o ho e he hb
      have h5 : e.on ∈ pre := by
        apply Classical.byContradiction
        intro hno
        have h6 : pre.idxOf e.on = pre.length := List.idxOf_eq_length hno
        have h7 := List.idxOf_lt_length_of_mem hk
        omega
      rw [List.idxOf_append, if_pos h5, List.idxOf_append, if_pos hk]; exact h4
    · obtain rfl : k = i := by simpa using hk
      have h5 := hd o ho e he hb
      have h6 := List.idxOf_lt_length_of_mem h5
      rw [List.idxOf_append, if_pos h5, List.idxOf_append, if_neg hip]
      omega
theorem Cl.mem {l : List Oper} {pre : List Nat} (h : Cl l pre) {k : Nat} (hk : k ∈ pre) {o : Oper} (ho : l[k]? = some o) : ∀ {e}, e ∈ o.after → Region.binds .any e = true → e.on ∈ pre := by
  intro e he hb
  apply Classical.byContradiction
  intro hno
  have h4 := h.2 k hk o ho e he hb
  have h6 : pre.idxOf e.on = pre.length := List.idxOf_eq_length hno
  have h7 := List.idxOf_lt_length_of_mem hk
  omega
theorem keepP {l : List Oper} (hk : TOk l) {pre : List Nat} (hc : Cl l pre) {i : Nat} {o : Oper} (hi : i ∉ pre) (hin : i < l.toArray.size) (ho : l[i]? = some o) {k : Nat} {ok : Oper} (hkp : k ∈ pre) (hok : l[k]? = some ok) :
    (∀ d, o.dst = some d → d ∉ ok.looksAt l.toArray) ∧ (∀ d, ok.dst = some d → o.dst ≠ some d) := by
  obtain ⟨ok', hok', g2⟩ := okS_spec (hk.ok k (hc.1 k hkp))
  obtain rfl : ok = ok' := Option.some.inj ((by simpa using hok : l.toArray[k]? = some ok).symm.trans hok')
  have ho' : l.toArray[i]? = some o := by simpa using ho
  refine ⟨fun d hd hm => ?_, fun d hd e => ?_⟩
  · obtain ⟨e, he, hb, hon⟩ := (g2 i o hin ho' d hd).2 hm
    exact hi (hon ▸ hc.mem hkp hok he hb)
  · exact (g2 i o hin ho' d e).1 (fun e2 => hi (e2 ▸ hkp)) hd
theorem selfP {l : List Oper} (hk : TOk l) {i : Nat} {o : Oper} (hin : i < l.toArray.size) (ho : l[i]? = some o) {pre : List Nat} (hi : i ∉ pre) (hd : ∀ e ∈ o.after, Region.binds .any e = true → e.on ∈ pre) : ∀ d, o.dst = some d → d ∉ o.looksAt l.toArray := fun d hd' hm => by
  obtain ⟨o', ho', g2⟩ := okS_spec (hk.ok i hin)
  obtain rfl : o = o' := Option.some.inj ((by simpa using ho : l.toArray[i]? = some o).symm.trans ho')
  obtain ⟨e, he, hb, hon⟩ := (g2 i o hin ho' d hd').2 hm
  exact hi (hon ▸ hd e he hb)
theorem segP {l : List Oper} {Qf : Act → List OB → Prop} (hk : TOk l) {M S : List OB} {mk : List Nat} :
    ∀ (pl : Plan) (pre : List Nat) (A : Act), Cl l pre → chkP l.toArray pl pre = true → DT P l.toArray w0 X R Qf pl A M S → Ev P l w0 X R pre mk A S → (∀ k ∈ mk, k ∈ pre) →
      ∃ sg pl' A', pl'.still = true ∧ Cl l (pre ++ sg) ∧ chkP l.toArray pl' (pre ++ sg) = true ∧ DT P l.toArray w0 X R Qf pl' A' M S ∧ A'.tmps.size = A.tmps.size ∧ A'.defers = A.defers ∧ (∀ k ∈ sg, k ∉ pre ∧ k < l.toArray.size) ∧
        (∀ t, (∀ (k : Nat) (o : Oper), k ∈ sg → l[k]? = some o → o.dst ≠ some t) → A'.tmps[t]? = A.tmps[t]?) ∧ Ev P l w0 X R (pre ++ sg) mk A' S
  | .done, pre, A, hc, hp, hd, hr, _ => ⟨[], .done, A, rfl, by simpa using hc, by simpa using hp, hd, rfl, rfl, by simp, fun _ _ => rfl, by simpa using hr⟩
  | .m1 i t, pre, A, hc, hp, hd, hr, _ => ⟨[], .m1 i t, A, rfl, by simpa using hc, by simpa using hp, hd, rfl, rfl, by simp, fun _ _ => rfl, by simpa using hr⟩
  | .m2 i t j u, pre, A, hc, hp, hd, hr, _ => ⟨[], .m2 i t j u, A, rfl, by simpa using hc, by simpa using hp, hd, rfl, rfl, by simp, fun _ _ => rfl, by simpa using hr⟩
  | .rd i t, pre, A, hc, hp, hd, hr, hm => by
    simp only [chkP, Bool.and_eq_true] at hp
    obtain ⟨hs, hp⟩ := hp
    obtain ⟨hc', hip, hin, hdeps⟩ := hc.snoc hs
    obtain ⟨o, ho, hd⟩ := hd
    have ho' : l[i]? = some o := by simpa using ho
    have hsel : ∀ cs bb, o.op ≠ .select cs bb := fun cs bb => Region.noSelect_spec hk.ns i o cs bb ho
    have hself := selfP hk hin ho' hip (hdeps o ho')
    have hst : ∃ v, RG P l.toArray w0 X R S A o v ∧ DT P l.toArray w0 X R Qf t (A.put o.dst v) M S := by
      by_cases hw : Region.wanted o (yielded l.toArray A.tmps) = true
      · rw [if_pos hw] at hd
        obtain ⟨v, hv, hn⟩ := hd
        exact ⟨v, .inl ⟨hw, hv⟩, hn⟩
      · rw [if_neg hw] at hd
        exact ⟨undef, .inr ⟨by simpa using hw, rfl⟩, hd⟩
    obtain ⟨v, hg, hn⟩ := hst
    have hag : ∀ (ok : Oper), (∀ d, o.dst = some d → d ∉ ok.looksAt l.toArray) → Agrees l.toArray ok (A.put o.dst v) A := fun ok hok t ht => put_getElem? A o.dst v t fun e => hok t e ht
    obtain ⟨sg, pl', A', e1, e2, e3, e4, e5, e6, e7, e8, e9⟩ := segP hk t (pre ++ [i]) (A.put o.dst v) hc' hp hn (fun k ok hkp hok hkm => by
      rcases List.mem_append.1 hkp with hkp | hkp
      · obtain ⟨u, hu, hud⟩ := hr k ok hkp hok hkm
        have hkk := keepP hk hc hip hin ho' hkp hok
        exact ⟨u, hu.of_same (hag ok hkk.1) (fun cs bb => Region.noSelect_spec hk.ns k ok cs bb (by simpa using hok)) (List.Sublist.refl _), fun d hd' => by
          rw [put_getElem? A o.dst v d (hkk.2 d hd'), put_size]; exact hud d hd'⟩
      · obtain rfl : k = i := by simpa using hkp
        obtain rfl : o = ok := Option.some.inj (ho'.symm.trans hok)
        exact ⟨v, hg.of_same (hag o hself) hsel (List.Sublist.refl _), fun d hd' => by rw [hd', put_same, Act.put]; simp⟩) (fun k hkm => List.mem_append_left _ (hm k hkm))
    refine ⟨i :: sg, pl', A', e1, by simpa using e2, by simpa using e3, e4, by rw [e5, put_size], by rw [e6, put_defers], fun k hkm => ?_, fun t ht => ?_, by simpa using e9⟩
    · rcases List.mem_cons.1 hkm with rfl | hkm
      · exact ⟨hip, hin⟩
      · exact ⟨fun h => (e7 k hkm).1 (List.mem_append_left _ h), (e7 k hkm).2⟩
    · rw [e8 t fun k ok hkm => ht k ok (List.mem_cons_of_mem _ hkm)]
      exact put_getElem? A o.dst v t (ht i o List.mem_cons_self ho')

structure PInv (P : Program) (l : List Oper) (w0 : World) (X : Fr) (R : List Win) (Qf : Act → List OB → Prop) (pre mk : List Nat) (pl : Plan) (A : Act) (M S : List OB) (listed : Array Bool) (b : Act) (w : World) : Prop where
  hi : HeadInv .any l.toArray l.toArray.size listed
  still : pl.still = true
  cl : Cl l pre
  ck : chkP l.toArray pl pre = true
  dt : DT P l.toArray w0 X R Qf pl A M S
  sub : ∀ k ∈ mk, k ∈ pre
  imp : ∀ k ∈ mk, listed.getD k false = true
  done : ∀ k, k < l.toArray.size → listed.getD k false = true → k ∈ pre
  size : b.tmps.size = A.tmps.size
  defers : b.defers = A.defers
  rep : Rep w0 X R (M ++ S) w
  un : ∀ t, (∀ (k : Nat) (o : Oper), k < l.toArray.size → l[k]? = some o → o.dst ≠ some t) → b.tmps[t]? = A.tmps[t]?
  got : ∀ (k : Nat) (o : Oper), k ∈ pre → l[k]? = some o → listed.getD k false = true → ∀ d, o.dst = some d → b.tmps[d]? = A.tmps[d]?
  ev : Ev P l w0 X R pre mk A S

section
variable {l : List Oper} {Qf : Act → List OB → Prop} {Q : Exit → Act → World → Prop} {pre mk : List Nat} {pl : Plan} {A : Act} {M S : List OB} {listed : Array Bool} {b : Act} {w : World}
theorem PInv.agrees (hk : TOk l) (inv : PInv P l w0 X R Qf pre mk pl A M S listed b w) {i : Nat} {o : Oper} (hin : i < l.toArray.size) (ho : l[i]? = some o) (hdep : ∀ e ∈ o.after, Region.binds .any e = true → listed.getD e.on false = true) : Agrees l.toArray o b A := by
  intro t ht
  obtain ⟨o', ho', h2⟩ := okS_spec (hk.ok i hin)
  obtain rfl : o = o' := Option.some.inj ((by simpa using ho : l.toArray[i]? = some o).symm.trans ho')
  by_cases hex : ∃ (k : Nat) (o' : Oper), k < l.toArray.size ∧ l[k]? = some o' ∧ o'.dst = some t
  · obtain ⟨k, o', hkn, hko, hkd⟩ := hex
    obtain ⟨e, he, hb, hon⟩ := (h2 k o' hkn (by simpa using hko) t hkd).2 ht
    have hl := hdep e he hb
    rw [hon] at hl
    exact inv.got k o' (inv.done k hkn hl) hko hl t hkd
  · exact inv.un t fun k o' hkn hko hkd => hex ⟨k, o', hkn, hko, hkd⟩
theorem PInv.later (hk : TOk l) (inv : PInv P l w0 X R Qf pre mk pl A M S listed b w) {i : Nat} {o : Oper} {t : Plan} (hi : i ∈ Region.ready .any l.toArray listed) (ho : l[i]? = some o) (hs : stepP l.toArray pre i = true) (hp : chkP l.toArray t (pre ++ [i]) = true)
    {v : Value} {M' S' : List OB} {w' : World} (hS : S.Sublist S') (hR : Rep w0 X R (M' ++ S') w') (hD : DT P l.toArray w0 X R Qf t (A.put o.dst v) M' S') :
    ∃ pre mk pl A M S, PInv P l w0 X R Qf pre mk pl A M S (listed.setIfInBounds i true) (b.put o.dst v) w' := by
  obtain ⟨hc', hip, hin, hdeps⟩ := inv.cl.snoc hs
  have hil : i < listed.size := by rw [inv.hi.size]; exact hin
  have hself : (listed.setIfInBounds i true).getD i false = true := by simp [Array.getD, hil]
  obtain ⟨o2, ho2, h2⟩ := okS_spec (hk.ok i hin)
  obtain rfl : o = o2 := Option.some.inj ((by simpa using ho : l.toArray[i]? = some o).symm.trans ho2)
  have hne : ∀ (k : Nat) (ok : Oper), k < l.toArray.size → l[k]? = some ok → k ≠ i → ∀ d, ok.dst = some d → o.dst ≠ some d := fun k ok hkn hok hki d hd => (h2 k ok hkn (by simpa using hok) d hd).1 hki
  obtain ⟨sg, pl', A', e1, e2, e3, e4, e5, e6, e7, e8, e9⟩ := segP (mk := i :: mk) hk t (pre ++ [i]) (A.put o.dst v) hc' hp hD (fun k ok hkp hok hkm => by
    rcases List.mem_append.1 hkp with hkp | hkp
    · obtain ⟨u, hu, hud⟩ := inv.ev k ok hkp hok (fun h => hkm (List.mem_cons_of_mem _ h))
      have hkk := keepP hk inv.cl hip hin ho hkp hok
      exact ⟨u, hu.of_same (fun t ht => put_getElem? A o.dst v t fun e => hkk.1 t e ht) (fun cs bb => Region.noSelect_spec hk.ns k ok cs bb (by simpa using hok)) hS, fun d hd' => by
        rw [put_getElem? A o.dst v d (hkk.2 d hd'), put_size]; exact hud d hd'⟩
    · obtain rfl : k = i := by simpa using hkp
      exact absurd List.mem_cons_self hkm) (fun k hkm => by
    rcases List.mem_cons.1 hkm with rfl | hkm
    · simp
    · exact List.mem_append_left _ (inv.sub k hkm))
  have hsgd : ∀ k ∈ sg, listed.getD k false = true → False := fun k hkm hl => (e7 k hkm).1 (List.mem_append_left _ (inv.done k (e7 k hkm).2 hl))
  have hisg : i ∉ sg := fun hm => (e7 i hm).1 (by simp)
  refine ⟨pre ++ [i] ++ sg, i :: mk, pl', A', M', S', inv.hi.set hi hin, e1, e2, e3, e4, fun k hkm => ?_, fun k hkm => ?_, fun k hkn hkl => ?_, by rw [put_size, e5, put_size]; exact inv.size, by rw [put_defers, e6, put_defers]; exact inv.defers, hR, fun t ht => ?_, fun k ok hkp hok hkl d hd' => ?_, e9⟩
  · rcases List.mem_cons.1 hkm with rfl | hkm
    · simp
    · simp [inv.sub k hkm]
  · rcases List.mem_cons.1 hkm with rfl | hkm
    · exact hself
    · exact getD_set_true (inv.imp k hkm)
  · by_cases hki : k = i
    · subst hki; simp
    · have := inv.done k hkn (getD_set_self hkl (Ne.symm hki)); simp [this]
  · rw [put_getElem? b o.dst v t (ht i o hin ho), e8 t (fun k ok hkm hok => ht k ok (e7 k hkm).2 hok), put_getElem? A o.dst v t (ht i o hin ho)]
    exact inv.un t ht
  · have hkn : k < l.toArray.size := e2.1 k hkp
    have hnsg : k ∉ sg := fun hm => by
      by_cases hki : k = i
      · subst hki; exact hisg hm
      · exact hsgd k hm (getD_set_self hkl (Ne.symm hki))
    rw [e8 d (fun k2 ok2 hkm2 hok2 e => by
      obtain ⟨ok', hok', g2⟩ := okS_spec (hk.ok k2 (e7 k2 hkm2).2)
      obtain rfl : ok2 = ok' := Option.some.inj ((by simpa using hok2 : l.toArray[k2]? = some ok2).symm.trans hok')
      exact (g2 k ok hkn (by simpa using hok) d hd').1 (fun e2 => hnsg (e2 ▸ hkm2)) e)]
    by_cases hki : k = i
    · subst hki
      obtain rfl : ok = o := Option.some.inj (hok.symm.trans ho)
      rw [hd', put_same, put_same, inv.size]
    · have hkp' : k ∈ pre := by
        rcases List.mem_append.1 hkp with hkp | hkp
        · rcases List.mem_append.1 hkp with hkp | hkp
          · exact hkp
          · exact absurd (by simpa using hkp) hki
        · exact absurd hkp hnsg
      rw [put_getElem? b o.dst v d (hne k ok hkn hok hki d hd'), put_getElem? A o.dst v d (hne k ok hkn hok hki d hd')]
      exact inv.got k ok hkp' hok (getD_set_self hkl (Ne.symm hki)) d hd'
theorem PInv.maker (hk : TOk l) (inv : PInv P l w0 X R Qf pre mk pl A M S listed b w) {i : Nat} {t : Plan} (hi : i ∈ Region.ready .any l.toArray listed) (hs : stepP l.toArray pre i = true) (hp : chkP l.toArray t (pre ++ [i]) = true) (hd : MSt P l.toArray w0 X R i A M S (DT P l.toArray w0 X R Qf t)) :
    wpOp P l.toArray Q i (fun b' w' => ∃ pre mk pl A M S, PInv P l w0 X R Qf pre mk pl A M S (listed.setIfInBounds i true) b' w') b w := by
  obtain ⟨hun, o, ho, hdep⟩ := mem_ready.1 hi
  have ho' : l[i]? = some o := by simpa using ho
  have hin : i < l.toArray.size := (Array.getElem?_eq_some_iff.1 ho).1
  have hag := inv.agrees hk hin ho' hdep
  have hsel : ∀ cs bb, o.op ≠ .select cs bb := fun cs bb => Region.noSelect_spec hk.ns i o cs bb ho
  obtain ⟨o3, ho3, hd⟩ := hd
  obtain rfl : o = o3 := Option.some.inj (ho.symm.trans ho3)
  unfold wpOp
  simp only [ho]
  rw [hag.wanted]
  by_cases hw : Region.wanted o (yielded l.toArray A.tmps) = true
  · rw [if_pos hw] at hd
    simp only [hw, if_true]
    refine .inl ?_
    have h5 := hd w inv.rep
    unfold Oper.wp
    rw [hag.exec hsel]
    generalize (execOp A.eval o).run P w = res at h5 ⊢
    cases res with
    | ok nx w' =>
      cases nx <;> simp only [MUp] at h5 <;> simp only [Oper.upon]
      case value v => obtain ⟨M', S', h6, h7, h8⟩ := h5; exact inv.later hk hi ho' hs hp h6 h7 h8
      case skip => obtain ⟨M', S', h6, h7, h8⟩ := h5; exact inv.later hk hi ho' hs hp h6 h7 h8
      case enter f args =>
        obtain ⟨rfl, hc⟩ := h5
        exact hc.mono fun e w'' ⟨v, M', S', he, h6, h7, h8⟩ => by subst he; exact inv.later hk hi ho' hs hp h6 h7 h8
    | halt x w' => simp only [MUp] at h5
  · rw [if_neg hw] at hd
    simp only [hw, Bool.false_eq_true, if_false]
    exact inv.later hk hi ho' hs hp (List.Sublist.refl _) inv.rep hd
theorem PInv.step (hk : TOk l) (inv : PInv P l w0 X R Qf pre mk pl A M S listed b w) {i : Nat} (hi : i ∈ Region.ready .any l.toArray listed) :
    wpOp P l.toArray Q i (fun b' w' => ∃ pre mk pl A M S, PInv P l w0 X R Qf pre mk pl A M S (listed.setIfInBounds i true) b' w') b w := by
  obtain ⟨hun, o, ho, hdep⟩ := mem_ready.1 hi
  have ho' : l[i]? = some o := by simpa using ho
  have hin : i < l.toArray.size := (Array.getElem?_eq_some_iff.1 ho).1
  by_cases hip : i ∈ pre
  · have hag := inv.agrees hk hin ho' hdep
    have hsel : ∀ cs bb, o.op ≠ .select cs bb := fun cs bb => Region.noSelect_spec hk.ns i o cs bb ho
    have himf : i ∉ mk := fun hm => by have := inv.imp i hm; rw [getD_both hun] at this; cases this
    obtain ⟨o2, ho2, h2⟩ := okS_spec (hk.ok i hin)
    obtain rfl : o = o2 := Option.some.inj (ho.symm.trans ho2)
    have hne : ∀ (k : Nat) (ok : Oper), k < l.toArray.size → l[k]? = some ok → k ≠ i → ∀ d, ok.dst = some d → o.dst ≠ some d := fun k ok hkn hok hki d hd => (h2 k ok hkn (by simpa using hok) d hd).1 hki
    obtain ⟨v, hg, hA⟩ := inv.ev i o hip ho' himf
    have hg' := hg.of_same hag hsel (List.Sublist.refl _)
    have fin : ∃ pre mk pl A M S, PInv P l w0 X R Qf pre mk pl A M S (listed.setIfInBounds i true) (b.put o.dst v) w := by
      refine ⟨pre, mk, pl, A, M, S, inv.hi.set hi hin, inv.still, inv.cl, inv.ck, inv.dt, inv.sub, fun k hkm => getD_set_true (inv.imp k hkm), fun k hkn hkl => ?_, by rw [put_size]; exact inv.size, by rw [put_defers]; exact inv.defers, inv.rep, fun t ht => ?_, fun k ok hkp hok hkl d hd => ?_, inv.ev⟩
      · by_cases hki : k = i
        · subst hki; exact hip
        · exact inv.done k hkn (getD_set_self hkl (Ne.symm hki))
      · rw [put_getElem? b o.dst v t (ht i o hin ho')]; exact inv.un t ht
      · by_cases hki : k = i
        · subst hki
          obtain rfl : ok = o := Option.some.inj (hok.symm.trans ho')
          rw [hd, put_same, hA d hd, inv.size]
        · rw [put_getElem? b o.dst v d (hne k ok (inv.cl.1 k hkp) hok hki d hd)]
          exact inv.got k ok hkp hok (getD_set_self hkl (Ne.symm hki)) d hd
    unfold wpOp
    simp only [ho]
    rcases hg' with ⟨hw, hv⟩ | ⟨hw, rfl⟩
    · simp only [hw, if_true]
      refine .inl ?_
      unfold Oper.wp
      have hrep : Rep w0 X R S w := inv.rep.sub (List.sublist_append_right _ _)
      rw [hv w hrep]
      exact fin
    · simp only [hw, Bool.false_eq_true, if_false]
      exact fin
  · have hdi : depsIn l.toArray pre i = true := depsIn_of ho fun e he hb => by
      have hl := hdep e he hb
      have hlt : e.on < l.toArray.size := by
        rcases Nat.lt_or_ge e.on listed.size with h | h
        · rw [← inv.hi.size]; exact h
        · simp [Array.getD, Nat.not_lt.2 h] at hl
      exact inv.done e.on hlt hl
    have hwait : ∀ c, waitsP l.toArray pre c = true → i ∈ c := fun c hc => by
      have := List.all_eq_true.1 hc i (List.mem_range.2 hin)
      simpa [hip, hdi] using this
    have hck := inv.ck
    have hdt := inv.dt
    cases pl with
    | done =>
      have := List.all_eq_true.1 hck i (List.mem_range.2 hin)
      exact absurd (by simpa using this) hip
    | rd j t => exact absurd inv.still (by simp [Plan.still])
    | m1 j t =>
      simp only [chkP, Bool.and_eq_true] at hck
      obtain rfl : i = j := by simpa using hwait _ hck.1.1
      exact inv.maker hk hi hck.1.2 hck.2 hdt
    | m2 j t q u =>
      simp only [chkP, Bool.and_eq_true] at hck
      have hm := hwait _ hck.1.1.1.1
      rcases List.mem_cons.1 hm with rfl | hm
      · exact inv.maker hk hi hck.1.1.1.2 hck.1.1.2 hdt.1
      · obtain rfl : i = q := by simpa using hm
        exact inv.maker hk hi hck.1.2 hck.2 hdt.2
end
end
attribute [irreducible] DT MSt
end Go.Proofs.YtlbnhhfaedhgfaaDoor
namespace Go.Proofs.YtlbnhhfaedhgfaaDoor
set_option linter.unusedSimpArgs false
set_option linter.unusedVariables false
open Go.RowKit
attribute [local semireducible] DC DT MSt
section
variable {P : Program} {l : List Oper} {w0 : World} {X : Fr} {R : List Win} {Qf : Act → List OB → Prop} {i j : Nat} {t u : Plan} {a a' : Act} {S M : List OB} {o : Oper} {next : Act → List OB → List OB → Prop}
end
theorem DT.mono {P : Program} {l : List Oper} {w0 : World} {X : Fr} {R : List Win} {Q Q' : Act → List OB → Prop} (hQ : ∀ A S, Q A S → Q' A S) : ∀ (pl : Plan) (a : Act) (M S : List OB), DT P l.toArray w0 X R Q pl a M S → DT P l.toArray w0 X R Q' pl a M S := by
  have ms : ∀ (next next' : Act → List OB → List OB → Prop) (i : Nat) (a : Act) (M S : List OB), (∀ a M S, next a M S → next' a M S) → MSt P l.toArray w0 X R i a M S next → MSt P l.toArray w0 X R i a M S next' := by
    intro next next' i a M S hn ⟨o, ho, h⟩
    refine ⟨o, ho, ?_⟩
    split
    · rename_i hw
      rw [if_pos hw] at h
      intro w hR
      have h := h w hR
      revert h
      unfold MUp
      generalize (execOp a.eval o).run P w = r
      intro h
      cases r with
      | ok n w' =>
        cases n with
        | value v => obtain ⟨M', S', h1, h2, h3⟩ := h; exact ⟨M', S', h1, h2, hn _ _ _ h3⟩
        | skip => obtain ⟨M', S', h1, h2, h3⟩ := h; exact ⟨M', S', h1, h2, hn _ _ _ h3⟩
        | enter f args => exact ⟨h.1, h.2.mono fun e w'' ⟨v, M', S', he, h1, h2, h3⟩ => ⟨v, M', S', he, h1, h2, hn _ _ _ h3⟩⟩
        | _ => exact h
      | _ => exact h
    · rename_i hw
      rw [if_neg hw] at h
      exact hn _ _ _ h
  intro pl
  induction pl with
  | done => intro a M S h; exact hQ _ _ h
  | rd i t ih =>
    intro a M S ⟨o, ho, h⟩
    refine ⟨o, ho, ?_⟩
    split
    · rename_i hw
      rw [if_pos hw] at h
      obtain ⟨v, h1, h2⟩ := h
      exact ⟨v, h1, ih _ _ _ h2⟩
    · rename_i hw
      rw [if_neg hw] at h
      exact ih _ _ _ h
  | m1 i t ih => intro a M S h; exact ms _ _ _ _ _ _ ih h
  | m2 i t j u ih ih' => intro a M S h; exact ⟨ms _ _ _ _ _ _ ih h.1, ms _ _ _ _ _ _ ih' h.2⟩
section
variable {P : Program} {l : List Oper} {w0 w : World} {X : Fr} {R : List Win} {S : List OB} {Q : Exit → Act → World → Prop} {id : Nat} {a : Act}
end
end Go.Proofs.YtlbnhhfaedhgfaaDoor
namespace Go.Proofs.YtlbnhhfaedhgfaaDoor
set_option linter.unusedSimpArgs false
set_option linter.unusedVariables false
open Go.RowKit
section
variable {P : Program} {o : Oper} {w0 w : World} {X : Fr} {R : List Win} {S : List OB} {a : Act} {a0 : Act} {T T' : TypeId} {x y : Operand} {b off n : Nat} {c : List Value} {ag : Bool}
def MemS (P : Program) (w0 : World) (X : Fr) (R : List Win) (o : Oper) (a : Act) (S : List OB) (a' : Nat → Act) (S' : Nat → List OB) : Prop :=
  ∀ (ops : Array Oper) (Q : Exit → Act → World → Prop) (rest : List Oper) (w : World), Rep w0 X R S w → (∀ w' B, Rep w0 X R (S' B) w' → wpList P ops Q rest (a' B) w') → wpList P ops Q (o :: rest) a w
theorem mem_box {d : Tmp} {l : List Value} {a' : Nat → Act} (hop : o.op = .box T x) (hd : o.dst = some d) (hg : o.guard = none) (hv : (a.eval x).cells = l.toArray) (ha : ∀ B, a.put (some d) (.pointer (some ⟨B, 0, none⟩)) = a' B) : MemS P w0 X R o a S a' (fun B => ⟨B, T, l⟩ :: S) :=
  fun _ _ _ _ hR h => wpList_box hR hop hd hg hv fun w' B hR' => ⟨_, ha B, h w' B hR'⟩
theorem mem_alloc {d : Tmp} {l : List Value} {a' : Nat → Act} (hop : o.op = .alloc T) (hd : o.dst = some d) (hg : o.guard = none) (hz : ZeroIs P T l) (ha : ∀ B, a.put (some d) (.pointer (some ⟨B, 0, none⟩)) = a' B) : MemS P w0 X R o a S a' (fun B => ⟨B, T, l⟩ :: S) :=
  fun _ _ _ _ hR h => wpList_alloc hR hop hd hg hz fun w' B hR' => ⟨_, ha B, h w' B hR'⟩
theorem mem_bs {t E : TypeId} {z bytes len : Nat} {parts : Array (Nat × Operand)} {d : Tmp} {l : List Value} {a' : Nat → Act} (hop : o.op = .buildSlice t len parts) (hd : o.dst = some d) (hg : o.guard = none) (hS : Sl P t E z bytes)
    (hp : (inRow z 0 (parts.toList.map fun p => (p.1, a.eval p.2)) && (parts.size == len) && decide (parts.size * z ≤ 16777216)) = true) (hl : flat (parts.toList.map fun p => (p.1, a.eval p.2)) = l) (ha : ∀ B, a.put (some d) (.slice (some ⟨B, 0, none⟩) len len) = a' B) : MemS P w0 X R o a S a' (fun B => ⟨B, E, l⟩ :: S) :=
  fun _ _ _ _ hR h => wpList_bs hR hop hd hg hS hp hl fun w' B hR' => ⟨_, ha B, h w' B hR'⟩
theorem mem_st {vs c' : List Value} {F : List Value → List OB} (hop : o.op = .store T x y) (hd : o.dst = none) (hg : o.guard = none) (hx : a.eval x = .pointer (some ⟨b, off, none⟩)) (hv : (a.eval y).cells = vs.toArray) (hA : UpI S b T' c F) (hT : Ty P T n ag) (hc : stL off vs c = c')
    (hl : (decide (off + n ≤ c.length) && (vs.length == n) && vs.all Value.oneCell') = true) : MemS P w0 X R o a S (fun _ => a) (fun _ => F c') :=
  fun _ _ _ _ hR h => wpList_st hR hop hd hg hx hv hA.at hT hc (hA.out c') hl fun w' hR' => h w' 0 hR'
def LdS (P : Program) (w0 : World) (X : Fr) (R : List Win) (o : Oper) (a : Act) (S : List OB) (a0 : Act) : Prop :=
  ∀ (ops : Array Oper) (Q : Exit → Act → World → Prop) (rest : List Oper) (w : World), Rep w0 X R S w → wpList P ops Q rest a0 w → wpList P ops Q (o :: rest) a w
theorem lds_ld {F : List Value → List OB} (hop : o.op = .load T x) (hg : o.guard = none) (hx : a.eval x = .pointer (some ⟨b, off, none⟩)) (hA : UpI S b T' c F) (hT : Ty P T n ag) (hl : (decide (off + n ≤ c.length) && (ag || n == 1)) = true) (ha : a.put o.dst (ldV ag n off c) = a0) :
    LdS P w0 X R o a S a0 := fun _ _ _ _ hR h => wpList_ld hR hop hg hx hA.at hT hl ha h
class WinI (R : List Win) (b off : Nat) (j : outParam Nat) (vs : outParam (List Value)) : Prop where
  out : ∃ o, (⟨b, o, vs⟩ : Win) ∈ R ∧ off = o + j
instance (priority := low) WinI.there {x : Win} {R : List Win} {b off j : Nat} {vs : List Value} [h : WinI R b off j vs] : WinI (x :: R) b off j vs := by
  obtain ⟨o, h1, h2⟩ := h.out
  exact ⟨o, List.mem_cons_of_mem _ h1, h2⟩
instance (priority := low) WinI.skip {l R : List Win} {b off j : Nat} {vs : List Value} [h : WinI R b off j vs] : WinI (l ++ R) b off j vs := by
  obtain ⟨o, h1, h2⟩ := h.out
  exact ⟨o, List.mem_append_right _ h1, h2⟩
instance WinI.at {b o j : Nat} {vs : List Value} {R : List Win} : WinI (⟨b, o, vs⟩ :: R) b (o + j) j vs := ⟨o, List.mem_cons_self, rfl⟩
instance WinI.here {b o : Nat} {vs : List Value} {R : List Win} : WinI (⟨b, o, vs⟩ :: R) b o 0 vs := ⟨o, List.mem_cons_self, rfl⟩
theorem run_ldw {j : Nat} {vs : List Value} (hR : Rep w0 X R S w) (hT : Ty P T n ag) (hW : WinI R b off j vs) (hl : j + n ≤ vs.length) (h1 : ag = false → n = 1) : (loadVar T ⟨b, off, none⟩).run P w = .ok (ldV ag n j vs) w := by
  obtain ⟨o, hm, rfl⟩ := hW.out
  obtain ⟨g1, g2, g3⟩ := hR.win _ hm
  have hc : ∀ i v, vs[i]? = some v → w.cell? ⟨b, o + i, none⟩ = some v := fun i v hv => by rw [hR.kp.cell (p := ⟨b, o + i, none⟩) g1 g2]; exact g3 i v hv
  unfold loadVar
  rw [Sem.run_bind, run_agg hT]
  cases ag with
  | true =>
    have := run_loadCells_list (P := P) w ⟨b, o + j, none⟩ ((vs.drop j).take n) fun i v hv => by
      rw [addr_add, Nat.add_assoc]
      refine hc _ _ ?_
      rw [List.getElem?_take] at hv
      split at hv
      · simpa using hv
      · cases hv
    rw [List.length_take, List.length_drop, Nat.min_eq_left (by omega)] at this
    simp [run_size hT, this, ldV]
  | false =>
    have hn := h1 rfl
    have h := hc j (vs[j]'(by omega)) (List.getElem?_eq_getElem _)
    simp [ldV, load, Sem.run, h, List.getD, List.getElem?_eq_getElem (show j < vs.length by omega)]
theorem lds_win {j : Nat} {vs : List Value} (hop : o.op = .load T x) (hg : o.guard = none) (hx : a.eval x = .pointer (some ⟨b, off, none⟩)) (hW : WinI R b off j vs) (hT : Ty P T n ag) (hl : (decide (j + n ≤ vs.length) && (ag || n == 1)) = true) (ha : a.put o.dst (ldV ag n j vs) = a0) :
    LdS P w0 X R o a S a0 := fun ops Q rest w hR h => by
  simp only [Bool.and_eq_true, decide_eq_true_eq, Bool.or_eq_true, beq_iff_eq] at hl
  have hr := run_ldw (P := P) hR hT hW hl.1 (fun e => hl.2.resolve_left (by simp [e]))
  refine BigFrame.wpList_want (by simp [Region.wanted, hg]) fun K hK => ?_
  unfold Oper.wp execOp
  rw [hop]
  simp only [hx, Instr.loadAt, Instr.sureAddr, Sem.run_bind, Sem.run_pure, Result.andThen_ok, hr, Oper.upon]
  subst ha
  exact hK _ _ h
theorem wl_ld {ops : Array Oper} {Q : Exit → Act → World → Prop} {rest : List Oper} (hR : Rep w0 X R S w) (h : wpList P ops Q rest a0 w)
    (hm : LdS P w0 X R o a S a0 := by
      first
        | exact lds_ld rfl rfl rfl (by exact inferInstance) (by exact inferInstance) (by exact rfl) (by simp only [Act.put, List.setIfInBounds_toArray, List.set_cons_zero, List.set_cons_succ, ldV, List.drop_succ_cons, List.drop_zero, List.take_succ_cons, List.take_zero, List.getD_cons_zero, List.getD_cons_succ]; exact rfl)
        | exact lds_win rfl rfl rfl (by exact inferInstance) (by exact inferInstance) (by exact rfl) (by simp only [Act.put, List.setIfInBounds_toArray, List.set_cons_zero, List.set_cons_succ, ldV, List.drop_succ_cons, List.drop_zero, List.take_succ_cons, List.take_zero, List.getD_cons_zero, List.getD_cons_succ]; exact rfl)) : wpList P ops Q (o :: rest) a w := hm ops Q rest w hR h
theorem wl_st {ops : Array Oper} {Q : Exit → Act → World → Prop} {rest : List Oper} {S' : List OB} (hR : Rep w0 X R S w) (h : ∀ w', Rep w0 X R S' w' → wpList P ops Q rest a w')
    (hm : MemS P w0 X R o a S (fun _ => a) (fun _ => S') := by exact mem_st rfl rfl rfl rfl rfl (by exact inferInstance) (by exact inferInstance) (by simp only [stL]; exact rfl) (by exact rfl)) : wpList P ops Q (o :: rest) a w := hm ops Q rest w hR fun w' _ hR' => h w' hR'
theorem wl_mem {ops : Array Oper} {Q : Exit → Act → World → Prop} {rest : List Oper} {a' : Nat → Act} {S' : Nat → List OB} (hR : Rep w0 X R S w) (h : ∀ w' B, Rep w0 X R (S' B) w' → wpList P ops Q rest (a' B) w')
    (hm : MemS P w0 X R o a S a' S' := by
      first
        | exact mem_box rfl rfl rfl rfl (by intro B; simp only [Act.put, List.setIfInBounds_toArray, List.set_cons_zero, List.set_cons_succ]; exact rfl)
        | exact mem_alloc rfl rfl rfl (by exact ZeroI.out) (by intro B; simp only [Act.put, List.setIfInBounds_toArray, List.set_cons_zero, List.set_cons_succ]; exact rfl)
        | exact mem_bs rfl rfl rfl (by exact inferInstance) (by exact rfl) (by simp only [List.map_cons, List.map_nil, flat, eval_tmp, eval_con, List.getD_cons_succ, List.getD_cons_zero, cells_agg, cells_bool, cells_int, cells_str, cells_sl, cells_ptr, cells_map, cells_fn, List.cons_append, List.nil_append, List.append_nil]; exact rfl) (by intro B; simp only [Act.put, List.setIfInBounds_toArray, List.set_cons_zero, List.set_cons_succ]; exact rfl)) : wpList P ops Q (o :: rest) a w := hm ops Q rest w hR h
def DS (P : Program) (L : Array Oper) (w0 : World) (X : Fr) (R : List Win) (im : List Nat) (i : Nat) (a : Act) (S : List OB) (a' : Nat → Act) (S' : Nat → List OB) : Prop :=
  ∀ (Qf : Act → List OB → Prop) (r : List Nat), (∀ B, DC P L w0 X R im Qf r (a' B) (S' B)) → DC P L w0 X R im Qf (i :: r) a S
variable {l : List Oper} {im : List Nat} {i : Nat} {v : Value}
theorem ds_skip (ho : nth l i = some o) (hw : Region.wanted o (yielded l.toArray a.tmps) = false) (ha : a.put o.dst undef = a0) : DS P l.toArray w0 X R im i a S (fun _ => a0) (fun _ => S) := fun _ _ h => dc_skip ho hw ha (h 0)
theorem ds_move (ho : nth l i = some o) (hi : im.contains i = false) (hw : Region.wanted o (yielded l.toArray a.tmps) = true) (hop : o.op = .move x) (ha : a.put o.dst (a.eval x) = a0) : DS P l.toArray w0 X R im i a S (fun _ => a0) (fun _ => S) := fun _ _ h => dc_move ho hi hw hop ha (h 0)
theorem ds_assign (ho : nth l i = some o) (hi : im.contains i = false) (hw : Region.wanted o (yielded l.toArray a.tmps) = true) (hop : o.op = .assign x) (ha : a.put o.dst (a.eval x) = a0) : DS P l.toArray w0 X R im i a S (fun _ => a0) (fun _ => S) := fun _ _ h => dc_assign ho hi hw hop ha (h 0)
theorem ds_ld {F : List Value → List OB} (ho : nth l i = some o) (hi : im.contains i = false) (hw : Region.wanted o (yielded l.toArray a.tmps) = true) (hop : o.op = .load T x) (hx : a.eval x = .pointer (some ⟨b, off, none⟩)) (hA : UpI S b T' c F) (hT : Ty P T n ag)
    (hl : (decide (off + n ≤ c.length) && (ag || n == 1)) = true) (ha : a.put o.dst (ldV ag n off c) = a0) : DS P l.toArray w0 X R im i a S (fun _ => a0) (fun _ => S) := fun _ _ h => dc_ld ho hi hw hop hx hA.at hT hl ha (h 0)
theorem ds_ldw {j : Nat} {vs : List Value} (ho : nth l i = some o) (hi : im.contains i = false) (hw : Region.wanted o (yielded l.toArray a.tmps) = true) (hop : o.op = .load T x) (hx : a.eval x = .pointer (some ⟨b, off, none⟩)) (hW : WinI R b off j vs) (hT : Ty P T n ag)
    (hl : (decide (j + n ≤ vs.length) && (ag || n == 1)) = true) (ha : a.put o.dst (ldV ag n j vs) = a0) : DS P l.toArray w0 X R im i a S (fun _ => a0) (fun _ => S) := fun _ _ h => by
  simp only [Bool.and_eq_true, decide_eq_true_eq, Bool.or_eq_true, beq_iff_eq] at hl
  refine dc_read ho hi hw (fun w hR => ?_) ha (h 0)
  have hr := run_ldw (P := P) hR hT hW hl.1 (fun e => hl.2.resolve_left (by simp [e]))
  unfold execOp
  rw [hop]
  simp only [hx, Instr.loadAt, Instr.sureAddr, Sem.run_bind, Sem.run_pure, Result.andThen_ok, hr]
theorem ds_box {d : Tmp} {vs : List Value} {a' : Nat → Act} (ho : nth l i = some o) (hi : im.contains i = true) (hw : Region.wanted o (yielded l.toArray a.tmps) = true) (hop : o.op = .box T x) (hd : o.dst = some d) (hv : (a.eval x).cells = vs.toArray)
    (ha : ∀ B, a.put (some d) (.pointer (some ⟨B, 0, none⟩)) = a' B) : DS P l.toArray w0 X R im i a S a' (fun B => ⟨B, T, vs⟩ :: S) := fun _ _ h => dc_box ho hi hw hop hd hv fun B => ⟨_, ha B, h B⟩
theorem ds_alloc {d : Tmp} {vs : List Value} {a' : Nat → Act} (ho : nth l i = some o) (hi : im.contains i = true) (hw : Region.wanted o (yielded l.toArray a.tmps) = true) (hop : o.op = .alloc T) (hd : o.dst = some d) (hz : ZeroIs P T vs)
    (ha : ∀ B, a.put (some d) (.pointer (some ⟨B, 0, none⟩)) = a' B) : DS P l.toArray w0 X R im i a S a' (fun B => ⟨B, T, vs⟩ :: S) := fun _ _ h => dc_alloc ho hi hw hop hd hz fun B => ⟨_, ha B, h B⟩
theorem ds_bs {t E : TypeId} {z bytes len : Nat} {parts : Array (Nat × Operand)} {d : Tmp} {vs : List Value} {a' : Nat → Act} (ho : nth l i = some o) (hi : im.contains i = true) (hw : Region.wanted o (yielded l.toArray a.tmps) = true) (hop : o.op = .buildSlice t len parts) (hd : o.dst = some d) (hS : Sl P t E z bytes)
    (hp : (inRow z 0 (parts.toList.map fun p => (p.1, a.eval p.2)) && (parts.size == len) && decide (parts.size * z ≤ 16777216)) = true) (hl : flat (parts.toList.map fun p => (p.1, a.eval p.2)) = vs) (ha : ∀ B, a.put (some d) (.slice (some ⟨B, 0, none⟩) len len) = a' B) : DS P l.toArray w0 X R im i a S a' (fun B => ⟨B, E, vs⟩ :: S) :=
  fun _ _ h => dc_bs ho hi hw hop hd hS hp hl fun B => ⟨_, ha B, h B⟩
theorem ds_pure (ho : nth l i = some o) (hi : im.contains i = false) (hw : Region.wanted o (yielded l.toArray a.tmps) = true) (hv : ∀ w, (execOp a.eval o).run P w = .ok (.value v) w) (ha : a.put o.dst v = a0) : DS P l.toArray w0 X R im i a S (fun _ => a0) (fun _ => S) := fun _ _ h => dc_pure ho hi hw hv ha (h 0)
theorem ds_facts (ho : nth l i = some o) (hi : im.contains i = false) (hw : Region.wanted o (yielded l.toArray a.tmps) = true) (hv : ∀ w, Facts w R S → (execOp a.eval o).run P w = .ok (.value v) w) (ha : a.put o.dst v = a0) : DS P l.toArray w0 X R im i a S (fun _ => a0) (fun _ => S) := fun _ _ h => dc_facts ho hi hw hv ha (h 0)
theorem dk {Qf : Act → List OB → Prop} {r : List Nat} {a' : Nat → Act} {S' : Nat → List OB} (h : ∀ B, DC P l.toArray w0 X R im Qf r (a' B) (S' B))
    (hs : DS P l.toArray w0 X R im i a S a' S' := by
      first
        | exact ds_skip rfl rfl (by simp only [Act.put, List.setIfInBounds_toArray, List.set_cons_zero, List.set_cons_succ]; exact rfl)
        | exact ds_move rfl rfl rfl rfl (by simp only [Act.put, eval_tmp, eval_con, List.getD_cons_succ, List.getD_cons_zero, List.setIfInBounds_toArray, List.set_cons_zero, List.set_cons_succ]; exact rfl)
        | exact ds_assign rfl rfl rfl rfl (by simp only [Act.put, eval_tmp, eval_con, List.getD_cons_succ, List.getD_cons_zero, List.setIfInBounds_toArray, List.set_cons_zero, List.set_cons_succ]; exact rfl)
        | exact ds_ld rfl rfl rfl rfl rfl (by exact inferInstance) (by exact inferInstance) (by exact rfl) (by simp only [Act.put, List.setIfInBounds_toArray, List.set_cons_zero, List.set_cons_succ, ldV, List.drop_succ_cons, List.drop_zero, List.take_succ_cons, List.take_zero, List.getD_cons_zero, List.getD_cons_succ]; exact rfl)
        | exact ds_ldw rfl rfl rfl rfl rfl (by exact inferInstance) (by exact inferInstance) (by exact rfl) (by simp only [Act.put, List.setIfInBounds_toArray, List.set_cons_zero, List.set_cons_succ, ldV, List.drop_succ_cons, List.drop_zero, List.take_succ_cons, List.take_zero, List.getD_cons_zero, List.getD_cons_succ]; exact rfl)
        | exact ds_box rfl rfl rfl rfl rfl rfl (by intro B; simp only [Act.put, List.setIfInBounds_toArray, List.set_cons_zero, List.set_cons_succ]; exact rfl)
        | exact ds_alloc rfl rfl rfl rfl rfl (by exact ZeroI.out) (by intro B; simp only [Act.put, List.setIfInBounds_toArray, List.set_cons_zero, List.set_cons_succ]; exact rfl)
        | exact ds_bs rfl rfl rfl rfl rfl (by exact inferInstance) (by exact rfl) (by simp only [List.map_cons, List.map_nil, flat, eval_tmp, eval_con, List.getD_cons_succ, List.getD_cons_zero, cells_agg, cells_bool, cells_int, cells_str, cells_sl, cells_ptr, cells_map, cells_fn, List.cons_append, List.nil_append, List.append_nil]; exact rfl) (by intro B; simp only [Act.put, List.setIfInBounds_toArray, List.set_cons_zero, List.set_cons_succ]; exact rfl)
        | exact ds_pure (by exact rfl) (by exact rfl) (by exact rfl) (by intro w; first | (go_simp; exact rfl) | (go_simp; done)) (by simp only [Act.put, List.setIfInBounds_toArray, List.set_cons_zero, List.set_cons_succ]; exact rfl)
        | exact ds_facts (by exact rfl) (by exact rfl) (by exact rfl) (by intro w hF; simp only [Facts, WFacts, facts_app, and_true, Nat.reduceAdd] at hF; (first | (go_simp; done) | (go_simp; exact rfl))) (by simp only [Act.put, List.setIfInBounds_toArray, List.set_cons_zero, List.set_cons_succ]; exact rfl)) : DC P l.toArray w0 X R im Qf (i :: r) a S := hs Qf r h
theorem dn {q : Act → Prop} {d : Option Tmp} {a' : Act} (h : q a') (ha : a.put d v = a' := by simp only [Act.put, List.setIfInBounds_toArray, List.set_cons_zero, List.set_cons_succ]; exact rfl) : ∃ a', a.put d v = a' ∧ q a' := ⟨a', ha, h⟩
section
variable {Qf : Act → List OB → Prop} {r : List Nat} {f : FuncId} {args : Array Value}
theorem dk_call0 (h : ∀ w, Rep w0 X R S w → Calls P f args w fun e w' => ∃ v, e = .returned v ∧ Kp [] w w' ∧ ∃ a', a.put o.dst v = a' ∧ DC P l.toArray w0 X R im Qf r a' S)
    (ho : nth l i = some o := by exact rfl) (hi : im.contains i = true := by exact rfl) (hw : Region.wanted o (yielded l.toArray a.tmps) = true := by exact rfl) (hr : ∀ w, (execOp a.eval o).run P w = .ok (.enter f args) w := by intro w; go_simp; exact ⟨rfl, rfl⟩) : DC P l.toArray w0 X R im Qf (i :: r) a S := dc_call0 ho hi hw hr h
end
class SegI (S sl : List OB) (G : outParam (List OB → List OB)) : Prop where
  out : ∃ pre post, Ctx S sl pre post ∧ ∀ s, G s = pre ++ (s ++ post)
instance (priority := low) SegI.skip {l S sl : List OB} {G : List OB → List OB} [h : SegI S sl G] : SegI (l ++ S) sl (fun s => l ++ G s) := by
  obtain ⟨p, q, h1, h2⟩ := h.out
  exact ⟨l ++ p, q, .skip h1, fun s => by rw [h2]; simp⟩
instance (priority := low) SegI.there {x : OB} {S sl : List OB} {G : List OB → List OB} [h : SegI S sl G] : SegI (x :: S) sl (fun s => x :: G s) := by
  obtain ⟨p, q, h1, h2⟩ := h.out
  exact ⟨x :: p, q, .there h1, fun s => by rw [h2]; simp⟩
instance SegI.one {e : OB} {post : List OB} : SegI (e :: post) [e] (fun s => s ++ post) := ⟨[], post, .one, fun _ => by simp⟩
instance SegI.last {sl : List OB} : SegI sl sl (fun s => s) := ⟨[], [], .last, fun _ => by simp⟩
instance SegI.here {sl post : List OB} : SegI (sl ++ post) sl (fun s => s ++ post) := ⟨[], post, .here, fun _ => by simp⟩
instance SegI.empty {S : List OB} : SegI S [] (fun s => s ++ S) := ⟨[], S, .empty, fun _ => by simp⟩
theorem wl_append {ops : Array Oper} {Q : Exit → Act → World → Prop} {rest : List Oper} {t E : TypeId} {z bytes n m : Nat} {v x : Value} {xs news : List Value} {s y : Operand} {d : Tmp} {sl : List OB} {G : List OB → List OB} {a' : Value → Act}
    (hR : Rep w0 X R S w) (hop : o.op = .call { callee := .builtin .append, args := #[s, y], argTypes := #[t, t] }) (hd : o.dst = some d) (hg : o.guard = none) (hs : a.eval s = v) (hy : a.eval y = x) (ho : OS sl E z v n xs) (hx : Rd w z x m news) (h : ∀ v' sl' w', OS sl' E z v' (n + m) (xs ++ news) → Rep w0 X R (G sl') w' → wpList P ops Q rest (a' v') w')
    [hS : Sl P t E z bytes] [hC : SegI S sl G]
    (h1 : news.all Value.oneCell' = true := by exact rfl) (hb : (n + m) * bytes ≤ 140737488355328 := by omega) (hm : n + m ≤ 9223372036854775807 := by omega) (ha : ∀ v', a.put (some d) v' = a' v' := by intro v; simp only [Act.put, List.setIfInBounds_toArray, List.set_cons_zero, List.set_cons_succ]; exact rfl) : wpList P ops Q (o :: rest) a w := by
  obtain ⟨p, q, h2, h3⟩ := hC.out
  exact wpList_append hR hop hd hg hs hy hS ho h2 hx h1 hb hm fun v' sl' w' hO hR' => ⟨_, ha v', h v' sl' w' hO (by rw [h3]; exact hR')⟩
end
end Go.Proofs.YtlbnhhfaedhgfaaDoor
namespace Go.Proofs.YtlbnhhfaedhgfaaDoor
set_option linter.unusedSimpArgs false
set_option linter.unusedVariables false
open Go.RowKit

theorem bl_gt {a b : ByteArray} (h : Op.bytesLess a.toList b.toList = false) (k : (!a.toList == b.toList) = true) : Op.bytesLess b.toList a.toList = true := by
  cases e : Op.bytesLess b.toList a.toList with
  | true => rfl
  | false => have := bytesLess_total h e; simp [this] at k
theorem bl_ge {a b : ByteArray} (k : (!a.toList == b.toList) = false) : Op.bytesLess b.toList a.toList = false := by
  have : a.toList = b.toList := by simpa using k
  rw [this]; exact bytesLess_irrefl _
theorem bl_ge2 {a b : ByteArray} (h : (!Op.bytesLess a.toList b.toList) = false ∨ (!a.toList == b.toList) = false) (k : Op.bytesLess a.toList b.toList = false) : Op.bytesLess b.toList a.toList = false := by
  rcases h with h | h
  · simp [k] at h
  · exact bl_ge h

theorem vk_eq (s : ByteArray) : decide ((s.size : Int) ≤ 64) = vk s := by
  simp only [vk]; congr 1; simp; omega

theorem validKey_p {s : ByteArray} {w : World} :
    Calls Tryd.prog 55 #[.string s] w fun e w' => e = .returned (.bool (vk s)) ∧ w = w' := by
  go_enter Tryd.func55, Tryd.ntmps55
  go_wp2
  go_ret
  exact ⟨ret_bool (vk_eq s), rfl⟩

theorem compare_p {a b : ByteArray} {s t : Bool} {w : World} :
    Calls Tryd.prog 35 #[.agg #[.string a, .bool s], .agg #[.string b, .bool t]] w fun e w' => e = .returned (.int .i64 (cmp ⟨a, s⟩ ⟨b, t⟩)) ∧ Kp [] w w' := by
  go_enter Tryd.func35, Tryd.ntmps35
  go_wp2
  all_goals go_ret
  all_goals refine ⟨ret_int ?_, ((Kp.refl _ _).alloc _).alloc _⟩
  all_goals first | (simp [cmp, Bnd.lt, *]; done) | (rename_i h1 h2; simp [cmp, Bnd.lt, *, bl_gt h1 h2]; done) | (rename_i h1 h2; simp [cmp, Bnd.lt, *, bl_ge h2]; done) | (rename_i h1; simp [cmp, Bnd.lt, *, bl_gt (by simpa using h1.1) h1.2, show Op.bytesLess a.toList b.toList = false by simpa using h1.1]; done) | (rename_i h1 h2; simp [cmp, Bnd.lt, *, bl_ge2 h1 h2]; done)

theorem validBound_p {a : ByteArray} {s : Bool} {w : World} :
    Calls Tryd.prog 73 #[.agg #[.string a, .bool s]] w fun e w' => e = .returned (.bool (vb ⟨a, s⟩)) ∧ Kp [] w w' := by
  go_enter Tryd.func73, Tryd.ntmps73
  go_wp2_with (go_at_call 55; refine (validKey_p).mono ?_; rintro e w' ⟨rfl, rfl⟩)
  all_goals go_ret
  all_goals refine ⟨ret_bool ?_, ((Kp.refl _ _).alloc _)⟩
  all_goals simp [vb, *]

theorem valid_p {a b : ByteArray} {s t : Bool} {w : World} :
    Calls Tryd.prog 54 #[.agg #[.string a, .bool s, .string b, .bool t]] w fun e w' => e = .returned (.bool (vld ⟨⟨a, s⟩, ⟨b, t⟩⟩)) ∧ Kp [] w w' := by
  go_enter Tryd.func54, Tryd.ntmps54
  go_wp2_with (first | (go_at_call 73; refine (validBound_p).mono ?_; rintro e w' ⟨rfl, hb⟩; obtain ⟨hc, hf, hz⟩ := kcell hb) | (go_at_call 35; refine (compare_p).mono ?_; rintro e w' ⟨rfl, hb⟩; obtain ⟨hc, hf, hz⟩ := kcell hb))
  all_goals go_ret
  all_goals refine ⟨ret_bool ?_, ?_⟩
  all_goals first | (simp [vld, *]; done) | (repeat (first | exact Kp.refl _ _ | apply Kp.alloc | apply Kp.drew | apply Kp.drewN | (refine Kp.setCell ?_ (Or.inr (by dsimp only; omega)) _) | (refine Kp.trans ?_ (by assumption))))

theorem empty_p {a b : ByteArray} {s t : Bool} {w : World} :
    Calls Tryd.prog 34 #[.agg #[.string a, .bool s, .string b, .bool t]] w fun e w' => e = .returned (.bool (emp ⟨⟨a, s⟩, ⟨b, t⟩⟩)) ∧ Kp [] w w' := by
  go_enter Tryd.func34, Tryd.ntmps34
  go_wp2_with (first | (go_at_call 54; refine (valid_p).mono ?_; rintro e w' ⟨rfl, hb⟩; obtain ⟨hc, hf, hz⟩ := kcell hb) | (go_at_call 35; refine (compare_p).mono ?_; rintro e w' ⟨rfl, hb⟩; obtain ⟨hc, hf, hz⟩ := kcell hb))
  all_goals go_ret
  all_goals refine ⟨ret_bool ?_, ?_⟩
  all_goals first | (simp [emp, *]; done) | (repeat (first | exact Kp.refl _ _ | apply Kp.alloc | apply Kp.drew | apply Kp.drewN | (refine Kp.setCell ?_ (Or.inr (by dsimp only; omega)) _) | (refine Kp.trans ?_ (by assumption))))

theorem validKey_r {s : ByteArray} {w : World} :
    Calls Tryd.prog 51 #[.string s] w fun e w' => e = .returned (.bool (vk s)) ∧ w = w' := by
  go_enter Tryd.func51, Tryd.ntmps51
  go_wp2
  go_ret
  exact ⟨ret_bool (vk_eq s), rfl⟩

theorem compare_r {a b : ByteArray} {s t : Bool} {w : World} :
    Calls Tryd.prog 24 #[.agg #[.string a, .bool s], .agg #[.string b, .bool t]] w fun e w' => e = .returned (.int .i64 (cmp ⟨a, s⟩ ⟨b, t⟩)) ∧ Kp [] w w' := by
  go_enter Tryd.func24, Tryd.ntmps24
  go_wp2
  all_goals go_ret
  all_goals refine ⟨ret_int ?_, ((Kp.refl _ _).alloc _).alloc _⟩
  all_goals first | (simp [cmp, Bnd.lt, *]; done) | (rename_i h1 h2; simp [cmp, Bnd.lt, *, bl_gt h1 h2]; done) | (rename_i h1 h2; simp [cmp, Bnd.lt, *, bl_ge h2]; done) | (rename_i h1; simp [cmp, Bnd.lt, *, bl_gt (by simpa using h1.1) h1.2, show Op.bytesLess a.toList b.toList = false by simpa using h1.1]; done) | (rename_i h1 h2; simp [cmp, Bnd.lt, *, bl_ge2 h1 h2]; done)

theorem validBound_r {a : ByteArray} {s : Bool} {w : World} :
    Calls Tryd.prog 23 #[.agg #[.string a, .bool s]] w fun e w' => e = .returned (.bool (vb ⟨a, s⟩)) ∧ Kp [] w w' := by
  go_enter Tryd.func23, Tryd.ntmps23
  go_wp2_with (go_at_call 51; refine (validKey_r).mono ?_; rintro e w' ⟨rfl, rfl⟩)
  all_goals go_ret
  all_goals refine ⟨ret_bool ?_, ((Kp.refl _ _).alloc _)⟩
  all_goals simp [vb, *]

theorem valid_r {a b : ByteArray} {s t : Bool} {w : World} :
    Calls Tryd.prog 50 #[.agg #[.string a, .bool s, .string b, .bool t]] w fun e w' => e = .returned (.bool (vld ⟨⟨a, s⟩, ⟨b, t⟩⟩)) ∧ Kp [] w w' := by
  go_enter Tryd.func50, Tryd.ntmps50
  go_wp2_with (first | (go_at_call 23; refine (validBound_r).mono ?_; rintro e w' ⟨rfl, hb⟩; obtain ⟨hc, hf, hz⟩ := kcell hb) | (go_at_call 24; refine (compare_r).mono ?_; rintro e w' ⟨rfl, hb⟩; obtain ⟨hc, hf, hz⟩ := kcell hb))
  all_goals go_ret
  all_goals refine ⟨ret_bool ?_, ?_⟩
  all_goals first | (simp [vld, *]; done) | (repeat (first | exact Kp.refl _ _ | apply Kp.alloc | apply Kp.drew | apply Kp.drewN | (refine Kp.setCell ?_ (Or.inr (by dsimp only; omega)) _) | (refine Kp.trans ?_ (by assumption))))

theorem empty_r {a b : ByteArray} {s t : Bool} {w : World} :
    Calls Tryd.prog 22 #[.agg #[.string a, .bool s, .string b, .bool t]] w fun e w' => e = .returned (.bool (emp ⟨⟨a, s⟩, ⟨b, t⟩⟩)) ∧ Kp [] w w' := by
  go_enter Tryd.func22, Tryd.ntmps22
  go_wp2_with (first | (go_at_call 50; refine (valid_r).mono ?_; rintro e w' ⟨rfl, hb⟩; obtain ⟨hc, hf, hz⟩ := kcell hb) | (go_at_call 24; refine (compare_r).mono ?_; rintro e w' ⟨rfl, hb⟩; obtain ⟨hc, hf, hz⟩ := kcell hb))
  all_goals go_ret
  all_goals refine ⟨ret_bool ?_, ?_⟩
  all_goals first | (simp [emp, *]; done) | (repeat (first | exact Kp.refl _ _ | apply Kp.alloc | apply Kp.drew | apply Kp.drewN | (refine Kp.setCell ?_ (Or.inr (by dsimp only; omega)) _) | (refine Kp.trans ?_ (by assumption))))

end Go.Proofs.YtlbnhhfaedhgfaaDoor
namespace Go.Proofs.YtlbnhhfaedhgfaaDoor
set_option linter.unusedSimpArgs false
set_option linter.unusedVariables false
open Go.RowKit

theorem greater_p {a b : ByteArray} {s t : Bool} {w : World} :
    Calls Tryd.prog 62 #[.agg #[.string a, .bool s], .agg #[.string b, .bool t]] w fun e w' => ∃ m : Bnd, e = .returned (.agg #[.string m.key, .bool m.top]) ∧ Hid (m = greater ⟨a, s⟩ ⟨b, t⟩) ∧ Kp [] w w' := by
  go_enter Tryd.func62, Tryd.ntmps62
  go_wp2_with (first | (go_at_call 35; refine (compare_p).mono ?_; rintro e w' ⟨rfl, hb⟩; obtain ⟨hc, hf, hz⟩ := kcell hb))
  · exact bodyPost_ret (v := .agg #[.string b, .bool t]) (by simp [results, Tryd.results62, go_sem, *]) rfl ⟨⟨b, t⟩, rfl, by simp [Hid, greater, *], by (repeat (first | exact Kp.refl _ _ | apply Kp.alloc | apply Kp.drew | apply Kp.drewN | (refine Kp.setCell ?_ (Or.inr (by dsimp only; omega)) _) | (refine Kp.trans ?_ (by assumption))))⟩
  · exact bodyPost_ret (v := .agg #[.string a, .bool s]) (by simp [results, Tryd.results62, go_sem, *]) rfl ⟨⟨a, s⟩, rfl, by unfold Hid greater; rw [if_neg (by omega)], by (repeat (first | exact Kp.refl _ _ | apply Kp.alloc | apply Kp.drew | apply Kp.drewN | (refine Kp.setCell ?_ (Or.inr (by dsimp only; omega)) _) | (refine Kp.trans ?_ (by assumption))))⟩
theorem greatest_r {a b : ByteArray} {s t : Bool} {w : World} :
    Calls Tryd.prog 52 #[.agg #[.string a, .bool s], .agg #[.string b, .bool t]] w fun e w' => ∃ m : Bnd, e = .returned (.agg #[.string m.key, .bool m.top]) ∧ Hid (m = greatest ⟨a, s⟩ ⟨b, t⟩) ∧ Kp [] w w' := by
  go_enter Tryd.func52, Tryd.ntmps52
  go_wp2_with (first | (go_at_call 24; refine (compare_r).mono ?_; rintro e w' ⟨rfl, hb⟩; obtain ⟨hc, hf, hz⟩ := kcell hb))
  · exact bodyPost_ret (v := .agg #[.string a, .bool s]) (by simp [results, Tryd.results52, go_sem, *]) rfl ⟨⟨a, s⟩, rfl, by simp [Hid, greatest, *], by (repeat (first | exact Kp.refl _ _ | apply Kp.alloc | apply Kp.drew | apply Kp.drewN | (refine Kp.setCell ?_ (Or.inr (by dsimp only; omega)) _) | (refine Kp.trans ?_ (by assumption))))⟩
  · exact bodyPost_ret (v := .agg #[.string b, .bool t]) (by simp [results, Tryd.results52, go_sem, *]) rfl ⟨⟨b, t⟩, rfl, by unfold Hid greatest; rw [if_neg (by omega)], by (repeat (first | exact Kp.refl _ _ | apply Kp.alloc | apply Kp.drew | apply Kp.drewN | (refine Kp.setCell ?_ (Or.inr (by dsimp only; omega)) _) | (refine Kp.trans ?_ (by assumption))))⟩
end Go.Proofs.YtlbnhhfaedhgfaaDoor
namespace Go.Proofs.YtlbnhhfaedhgfaaDoor
set_option linter.unusedSimpArgs false
set_option linter.unusedVariables false
open Go.RowKit

end Go.Proofs.YtlbnhhfaedhgfaaDoor
namespace Go.Proofs.YtlbnhhfaedhgfaaDoor
set_option linter.unusedSimpArgs false
set_option linter.unusedVariables false
open Go.RowKit

end Go.Proofs.YtlbnhhfaedhgfaaDoor
namespace Go.Proofs.YtlbnhhfaedhgfaaDoor
set_option linter.unusedSimpArgs false
set_option linter.unusedVariables false
open Go.RowKit
end Go.Proofs.YtlbnhhfaedhgfaaDoor
namespace Go.Proofs.YtlbnhhfaedhgfaaDoor
set_option linter.unusedSimpArgs false
set_option linter.unusedVariables false
open Go.RowKit
end Go.Proofs.YtlbnhhfaedhgfaaDoor
namespace Go.Proofs.YtlbnhhfaedhgfaaDoor
set_option linter.unusedSimpArgs false
set_option linter.unusedVariables false
open Go.RowKit

end Go.Proofs.YtlbnhhfaedhgfaaDoor
namespace Go.Proofs.YtlbnhhfaedhgfaaDoor
set_option linter.unusedSimpArgs false
set_option linter.unusedVariables false
open Go.RowKit

inductive Cut (hi : Bnd) : Bnd → List Rng → Prop
  | last {lo : Bnd} : Cut hi lo [⟨lo, hi⟩]
  | cons {lo b : Bnd} {l : List Rng} : lo.lt b = true → b.lt hi = true → vb b = true → Cut hi b l → Cut hi lo (⟨lo, b⟩ :: l)
def CutTo (lo hi x : Bnd) (out : List Rng) : Prop := ∀ t, Cut hi x t → Cut hi lo (out ++ t)
theorem CutTo.nil {lo hi : Bnd} : CutTo lo hi lo [] := fun _ h => h
theorem CutTo.snoc {lo hi x b : Bnd} {out : List Rng} (h : CutTo lo hi x out) (h1 : x.lt b = true) (h2 : b.lt hi = true) (h3 : vb b = true) : CutTo lo hi b (out ++ [⟨x, b⟩]) := fun t ht => by
  rw [List.append_assoc]; exact h _ (.cons h1 h2 h3 ht)
theorem CutTo.done {lo hi x : Bnd} {out : List Rng} (h : CutTo lo hi x out) : Cut hi lo (out ++ [⟨x, hi⟩]) := h _ .last
end Go.Proofs.YtlbnhhfaedhgfaaDoor
namespace Go.Proofs.YtlbnhhfaedhgfaaDoor
set_option linter.unusedSimpArgs false
set_option linter.unusedVariables false
open Go.RowKit

def mrg : Rng → List Rng → List Rng
  | c, [] => [c]
  | c, r :: l => if cmp r.lo c.hi ≤ 0 then mrg ⟨c.lo, greater c.hi r.hi⟩ l else c :: mrg r l
def mrgAll : List Rng → List Rng
  | [] => []
  | r :: l => mrg r l
def ne (r : Rng) : Bool := !emp r
def leLo (x y : Rng) : Bool := !(y.lo.lt x.lo)
def union (l : List Rng) : List Rng := mrgAll ((l.filter ne).mergeSort leLo)

structure Nrm (l : List Rng) : Prop where
  ne : ∀ r ∈ l, emp r = false
  gap : l.Pairwise fun x y => x.hi.lt y.lo = true
def Pt (l : List Rng) (b : Bnd) : Prop := ∃ r ∈ l, b.lt r.lo = false ∧ b.lt r.hi = true
abbrev Srt (l : List Rng) : Prop := l.Pairwise fun x y => y.lo.lt x.lo = false

theorem pt_cons {x : Rng} {l : List Rng} {b : Bnd} : Pt (x :: l) b ↔ (b.lt x.lo = false ∧ b.lt x.hi = true) ∨ Pt l b := by simp [Pt]
theorem pt_nil {b : Bnd} : ¬ Pt [] b := by simp [Pt]
theorem pt_perm {l m : List Rng} (h : l.Perm m) {b : Bnd} : Pt l b ↔ Pt m b := by simp only [Pt, h.mem_iff]
theorem Nrm.tail {x : Rng} {l : List Rng} (h : Nrm (x :: l)) : Nrm l := ⟨fun r hr => h.ne r (List.mem_cons_of_mem _ hr), (List.pairwise_cons.1 h.gap).2⟩
theorem Nrm.far {x : Rng} {l : List Rng} (h : Nrm (x :: l)) {b : Bnd} (hb : vb b = true) (hp : Pt l b) : x.hi.lt b = true ∧ x.lo.lt b = true := by
  obtain ⟨r, hr, h1, h2⟩ := hp
  have g := (List.pairwise_cons.1 h.gap).1 r hr
  have a := (emp_iff x).1 (h.ne x List.mem_cons_self)
  have c := (emp_iff r).1 (h.ne r (List.mem_cons_of_mem _ hr))
  have k := lt_le c.1 hb g h1
  exact ⟨k, lt_trans a.2.2 k⟩
theorem nrm_ext : ∀ {l m : List Rng}, Nrm l → Nrm m → (∀ b, vb b = true → (Pt l b ↔ Pt m b)) → l = m
  | [], [], _, _, _ => rfl
  | [], y :: m, _, hm, h => by
    have c := (emp_iff y).1 (hm.ne y List.mem_cons_self)
    exact absurd ((h y.lo c.1).2 (pt_cons.2 (.inl ⟨lt_irrefl _, c.2.2⟩))) pt_nil
  | x :: l, [], hl, _, h => by
    have c := (emp_iff x).1 (hl.ne x List.mem_cons_self)
    exact absurd ((h x.lo c.1).1 (pt_cons.2 (.inl ⟨lt_irrefl _, c.2.2⟩))) pt_nil
  | x :: l, y :: m, hl, hm, h => by
    have a := (emp_iff x).1 (hl.ne x List.mem_cons_self)
    have c := (emp_iff y).1 (hm.ne y List.mem_cons_self)
    have hlo : x.lo = y.lo := by
      refine lt_total a.1 c.1 ?_ ?_
      · rcases pt_cons.1 ((h x.lo a.1).1 (pt_cons.2 (.inl ⟨lt_irrefl _, a.2.2⟩))) with h1 | h1
        · exact h1.1
        · exact lt_asymm (hm.far a.1 h1).2
      · rcases pt_cons.1 ((h y.lo c.1).2 (pt_cons.2 (.inl ⟨lt_irrefl _, c.2.2⟩))) with h1 | h1
        · exact h1.1
        · exact lt_asymm (hl.far c.1 h1).2
    have hhi : x.hi = y.hi := by
      refine lt_total a.2.1 c.2.1 ?_ ?_
      · cases hh : x.hi.lt y.hi
        · rfl
        · rcases pt_cons.1 ((h x.hi a.2.1).2 (pt_cons.2 (.inl ⟨by rw [← hlo]; exact lt_asymm a.2.2, hh⟩))) with h1 | h1
          · rw [lt_irrefl] at h1; exact absurd h1.2 (by simp)
          · have := (hl.far a.2.1 h1).1; rw [lt_irrefl] at this; exact this.symm
      · cases hh : y.hi.lt x.hi
        · rfl
        · rcases pt_cons.1 ((h y.hi c.2.1).1 (pt_cons.2 (.inl ⟨by rw [hlo]; exact lt_asymm c.2.2, hh⟩))) with h1 | h1
          · rw [lt_irrefl] at h1; exact absurd h1.2 (by simp)
          · have := (hm.far c.2.1 h1).1; rw [lt_irrefl] at this; exact this.symm
    obtain rfl : x = y := by cases x; cases y; simp only at hlo hhi; rw [hlo, hhi]
    congr 1
    refine nrm_ext hl.tail hm.tail fun b hb => ⟨fun hp => ?_, fun hp => ?_⟩
    · have f := (hl.far hb hp).1
      rcases pt_cons.1 ((h b hb).1 (pt_cons.2 (.inr hp))) with h1 | h1
      · rw [lt_asymm f] at h1; exact absurd h1.2 (by simp)
      · exact h1
    · have f := (hm.far hb hp).1
      rcases pt_cons.1 ((h b hb).2 (pt_cons.2 (.inr hp))) with h1 | h1
      · rw [lt_asymm f] at h1; exact absurd h1.2 (by simp)
      · exact h1

theorem mrg_lo : ∀ (l : List Rng) (c : Rng), (∀ r ∈ l, r.lo.lt c.lo = false) → Srt l → ∀ r ∈ mrg c l, r.lo.lt c.lo = false
  | [], c, _, _, r, hr => by simp [mrg] at hr; subst hr; exact lt_irrefl _
  | x :: l, c, hc, hs, r, hr => by
    have hs' := List.pairwise_cons.1 hs
    unfold mrg at hr
    split at hr
    · exact mrg_lo l ⟨c.lo, greater c.hi x.hi⟩ (fun r hr => hc r (List.mem_cons_of_mem _ hr)) hs'.2 r hr
    · rcases List.mem_cons.1 hr with rfl | hr
      · exact lt_irrefl _
      · have h1 := mrg_lo l x hs'.1 hs'.2 r hr
        have h2 := hc x List.mem_cons_self
        cases h3 : r.lo.lt c.lo
        · rfl
        · rename_i h4
          exfalso
          have h5 : c.hi.lt x.lo = true := (cmp_pos _ _).1 (by omega)
          simp only [Bnd.lt, Bool.and_eq_true, Bool.or_eq_true, Bool.not_eq_true', Bool.and_eq_false_iff, Bool.not_eq_false', Bool.or_eq_false_iff] at *
          grind [bytesLess_trans, bytesLess_total, bytesLess_asymm]
theorem mrg_nrm : ∀ (l : List Rng) (c : Rng), emp c = false → (∀ r ∈ l, emp r = false) → (∀ r ∈ l, r.lo.lt c.lo = false) → Srt l → Nrm (mrg c l) ∧ ∀ b, vb b = true → (Pt (mrg c l) b ↔ Pt (c :: l) b)
  | [], c, h, _, _, _ => ⟨⟨by simp [mrg, h], by simp [mrg]⟩, fun b _ => Iff.rfl⟩
  | x :: l, c, h, hn, hc, hs => by
    have hs' := List.pairwise_cons.1 hs
    have a := (emp_iff c).1 h
    have hx := (emp_iff x).1 (hn x List.mem_cons_self)
    have hlo := hc x List.mem_cons_self
    unfold mrg
    split
    · rename_i h1
      have h1' : c.hi.lt x.lo = false := by
        cases h2 : c.hi.lt x.lo
        · rfl
        · have := (cmp_pos x.lo c.hi).2 h2; omega
      have hg := greater_vb a.2.1 hx.2.1
      have hcg : emp ⟨c.lo, greater c.hi x.hi⟩ = false := by
        refine (emp_iff _).2 ⟨a.1, hg, ?_⟩
        simp only [greater_if]; split
        · rename_i h2; exact lt_trans a.2.2 h2
        · exact a.2.2
      obtain ⟨g1, g2⟩ := mrg_nrm l ⟨c.lo, greater c.hi x.hi⟩ hcg (fun r hr => hn r (List.mem_cons_of_mem _ hr)) (fun r hr => hc r (List.mem_cons_of_mem _ hr)) hs'.2
      refine ⟨g1, fun b hb => (g2 b hb).trans ?_⟩
      simp only [pt_cons]
      rw [← or_assoc]
      refine or_congr ?_ Iff.rfl
      have e1 := a.1; have e2 := a.2.1; have e3 := a.2.2; have e4 := hx.1; have e5 := hx.2.1; have e6 := hx.2.2
      simp only [greater_if]
      constructor
      · rintro ⟨k1, k2⟩
        split at k2
        · cases hbc : b.lt c.hi
          · right; refine ⟨?_, k2⟩
            cases hq : b.lt x.lo
            · rfl
            · exfalso; have := le_lt hb e2 hbc hq; rw [this] at h1'; cases h1'
          · left; exact ⟨k1, rfl⟩
        · left; exact ⟨k1, k2⟩
      · rintro (⟨k1, k2⟩ | ⟨k1, k2⟩)
        · refine ⟨k1, ?_⟩
          split
          · rename_i h2; exact lt_trans k2 h2
          · exact k2
        · refine ⟨?_, ?_⟩
          · cases hq : b.lt c.lo
            · rfl
            · exfalso; have := lt_le e1 e4 hq hlo; rw [this] at k1; cases k1
          · split
            · exact k2
            · rename_i h2; exact lt_le e5 e2 k2 (by simpa using h2)
    · rename_i h1
      have h1' : c.hi.lt x.lo = true := (cmp_pos _ _).1 (by omega)
      obtain ⟨g1, g2⟩ := mrg_nrm l x (hn x List.mem_cons_self) (fun r hr => hn r (List.mem_cons_of_mem _ hr)) hs'.1 hs'.2
      refine ⟨⟨fun r hr => ?_, List.pairwise_cons.2 ⟨fun r hr => ?_, g1.gap⟩⟩, fun b hb => ?_⟩
      · rcases List.mem_cons.1 hr with rfl | hr
        · exact h
        · exact g1.ne r hr
      · exact lt_le hx.1 ((emp_iff r).1 (g1.ne r hr)).1 h1' (mrg_lo l x hs'.1 hs'.2 r hr)
      · rw [pt_cons, pt_cons, g2 b hb]
theorem mrgAll_nrm {l : List Rng} (hn : ∀ r ∈ l, emp r = false) (hs : Srt l) : Nrm (mrgAll l) ∧ ∀ b, vb b = true → (Pt (mrgAll l) b ↔ Pt l b) := by
  cases l with
  | nil => exact ⟨⟨by simp [mrgAll], by simp [mrgAll]⟩, fun _ _ => Iff.rfl⟩
  | cons x l =>
    have hs' := List.pairwise_cons.1 hs
    exact mrg_nrm l x (hn x List.mem_cons_self) (fun r hr => hn r (List.mem_cons_of_mem _ hr)) hs'.1 hs'.2
theorem mem_ne {l : List Rng} {r : Rng} (h : r ∈ l.filter ne) : emp r = false := by simpa [ne] using (List.mem_filter.1 h).2
theorem leLo_total (l : List Rng) (a b : Rng) : (leLo a b || leLo b a) = true := by
  simp only [leLo, Bool.or_eq_true, Bool.not_eq_true']
  cases h : b.lo.lt a.lo
  · exact .inl rfl
  · exact .inr (lt_asymm h)
theorem leLo_trans (a b c : Rng) (h : leLo a b = true) (k : leLo b c = true) : leLo a c = true := by
  simp only [leLo, Bool.not_eq_true'] at *
  simp only [Bnd.lt, Bool.and_eq_false_iff, Bool.not_eq_false', Bool.or_eq_false_iff] at *
  grind [bytesLess_trans, bytesLess_total, bytesLess_asymm]
theorem union_of_sorted {l s : List Rng} (hp : s.Perm (l.filter ne)) (hs : Srt s) : mrgAll s = union l := by
  have hn : ∀ r ∈ s, emp r = false := fun r hr => mem_ne (hp.mem_iff.1 hr)
  have hp2 : ((l.filter ne).mergeSort leLo).Perm (l.filter ne) := List.mergeSort_perm _ _
  have hs2 : Srt ((l.filter ne).mergeSort leLo) := by
    have := List.pairwise_mergeSort (le := leLo) leLo_trans (leLo_total l) (l.filter ne)
    exact this.imp fun h => by simpa [leLo] using h
  have g1 := mrgAll_nrm hn hs
  have g2 := mrgAll_nrm (fun r hr => mem_ne (hp2.mem_iff.1 hr)) hs2
  exact nrm_ext g1.1 g2.1 fun b hb => (g1.2 b hb).trans ((pt_perm (hp.trans hp2.symm)).trans (g2.2 b hb).symm)
theorem filter_ne {l : List Rng} (h : ∀ r ∈ l, emp r = false) : l.filter ne = l := List.filter_eq_self.2 fun r hr => by simp [ne, h r hr]
end Go.Proofs.YtlbnhhfaedhgfaaDoor
namespace Go.Proofs.YtlbnhhfaedhgfaaDoor
set_option linter.unusedSimpArgs false
set_option linter.unusedVariables false
open Go.RowKit
attribute [local irreducible] contains emp vld vb vk adj isect hull proper greater lesser greatest least cmp Bnd.lt Op.bytesLess Calls Oper.wp wpList Code.wp Oper.upon
theorem empty_p_w (x : Rng) {w : World} : Calls Tryd.prog 34 #[.agg #[.string x.lo.key, .bool x.lo.top, .string x.hi.key, .bool x.hi.top]] w fun e w' => e = .returned (.bool (emp x)) ∧ Kp [] w w' := empty_p
def fidx (l : List Rng) : Int := if l.any emp then (l.findIdx emp : Int) else -1
set_option maxHeartbeats 1000000 in
theorem indexFunc_e {p : Option Addr} {n c : Nat} {l : List Rng} {w : World} (h1 : Rd w 4 (.slice p n c) n (rvals l)) (hn : n ≤ 1000000) :
    Calls Tryd.prog 82 #[.slice p n c, .func (.func 34) #[] #[]] w fun e w' => e = .returned (.int .i64 (fidx l)) ∧ Kp [] w w' := by
  have hl : l.length = n := h1.count rvz (by decide)
  have Hl := Lib.hid hl
  clear hl
  obtain ⟨tt, htt⟩ : ∃ tt, tt = fidx l := ⟨_, rfl⟩
  rw [← htt]
  have Ht := Lib.hid htt
  clear htt
  go_enter Tryd.func82, Tryd.ntmps82
  have hR := Rep.refl w
  generalize w = w0 at hR h1
  go_wp2_with (first | (refine wl_ld hR ?_) | (refine wl_st hR ?_; (try clear hF); clear hR; intro w hR; have hF := hR.fx) | (refine wl_mem hR ?_; (try clear hF); clear hR; intro w B hR; have hF := hR.fx))
  go_loopw [8] (fun i wr => ∃ k : Nat, i = .int .i64 k ∧ k ≤ n ∧ Hid (∀ j r, j < k → l[j]? = some r → emp r = false) ∧ Rep w0 nof [] [] wr) (fun i _ => n - (intOf i).toNat)
  case atStart => exact ⟨0, rfl, Nat.zero_le _, Lib.hid (fun j r hj => by omega), hR⟩
  case round =>
    obtain ⟨k, rfl, hk, hno, hR⟩ := hrel
    by_cases hlt : k < n
    · have hlt' : (k : Int) < (n : Int) := by omega
      obtain ⟨r, hr⟩ : ∃ r, l[k]? = some r := ⟨l[k]'(by rw [Hl.out]; exact hlt), List.getElem?_eq_getElem _⟩
      obtain ⟨b, o, rfl, hR⟩ := h1.rw.elem rvz (by decide) hr hR
      have Hr := Lib.hid hr
      clear hr
      simp only [Rng.vals] at hR
      have hF := hR.fx
      cases he : emp r
      · go_wp2_with (first | (refine wl_ld hR ?_) | (refine wl_st hR ?_; (try clear hF); clear hR; intro w hR; have hF := hR.fx) | (refine wl_mem hR ?_; (try clear hF); clear hR; intro w B hR; have hF := hR.fx) | (go_at_call 34; refine (empty_p_w r).mono ?_; rintro e w ⟨rfl, hb⟩; replace hR := hR.kp0 hb; (try clear hF); clear hb; have hF := hR.fx))
        go_roundw
        case rel => exact ⟨k + 1, by go_num, by omega, Lib.hid (fun j x hj hx => by
          by_cases hjk : j = k
          · subst hjk; rw [Hr.out] at hx; obtain rfl := Option.some.inj hx; exact he
          · exact hno.out j x (by omega) hx), hR.sub sub_any sub_any⟩
        case measure => simp [intOf]; omega
      · go_wp2_with (first | (refine wl_ld hR ?_) | (refine wl_st hR ?_; (try clear hF); clear hR; intro w hR; have hF := hR.fx) | (refine wl_mem hR ?_; (try clear hF); clear hR; intro w B hR; have hF := hR.fx) | (go_at_call 34; refine (empty_p_w r).mono ?_; rintro e w ⟨rfl, hb⟩; replace hR := hR.kp0 hb; (try clear hF); clear hb; have hF := hR.fx))
        go_ret
        refine ⟨?_, hR.kp_nof⟩
        have h1 : l.findIdx emp = k := by
          rw [List.findIdx_eq (by rw [Hl.out]; exact hlt)]
          refine ⟨?_, fun j hj => ?_⟩
          · rw [(List.getElem?_eq_some_iff.1 Hr.out).2]; exact he
          · simpa using hno.out j _ hj (List.getElem?_eq_getElem (by rw [Hl.out]; omega))
        have h2 : l.any emp = true := List.any_eq_true.2 ⟨r, List.mem_of_getElem? Hr.out, he⟩
        rw [Ht.out]; simp [fidx, h1, h2]
    · obtain rfl : k = n := by omega
      go_wp2
      go_ret
      refine ⟨?_, hR.kp_nof⟩
      have h2 : l.any emp = false := by
        rw [List.any_eq_false]; intro x hx
        obtain ⟨j, hj, rfl⟩ := List.mem_iff_getElem.1 hx
        simpa using hno.out j _ (by rw [← Hl.out]; exact hj) (List.getElem?_eq_getElem hj)
      rw [Ht.out]; simp [fidx, h2]
end Go.Proofs.YtlbnhhfaedhgfaaDoor
namespace Go.Proofs.YtlbnhhfaedhgfaaDoor
set_option linter.unusedSimpArgs false
set_option linter.unusedVariables false
open Go.RowKit
attribute [local irreducible] contains emp vld vb vk adj isect hull proper greater lesser greatest least cmp Bnd.lt Op.bytesLess Calls Oper.wp wpList Code.wp Oper.upon
theorem filter_all {l : List Rng} (h : l.any emp = false) : l.filter ne = l := filter_ne fun r hr => by
  have := List.any_eq_false.1 h r hr; simpa using this
theorem take_snoc {l : List Rng} {j : Nat} {r : Rng} (h : l[j]? = some r) : l.take (j + 1) = l.take j ++ [r] := by
  rw [List.take_add_one, h]; rfl
set_option maxRecDepth 100000 in
set_option maxHeartbeats 4000000 in
theorem deleteFunc_e {w0 w : World} {X : Fr} {R : List Win} {S sl pre post : List OB} {v : Value} {n : Nat} {l : List Rng} (hR : Rep w0 X R S w) (hO : OS sl 38 4 v n (rvals l)) (hC : Ctx S sl pre post) (hn : n ≤ 1000000) :
    Calls Tryd.prog 74 #[v, .func (.func 34) #[] #[]] w fun e w' => ∃ v' sl', e = .returned v' ∧ OS sl' 38 4 v' (l.filter ne).length (rvals (l.filter ne)) ∧ Rep w0 X R (pre ++ (sl' ++ post)) w' := by
  have hl : l.length = n := (hO.rdC hR hC).count rvz (by decide)
  have Hl := Lib.hid hl
  clear hl
  obtain ⟨g0, c0, hv⟩ : ∃ p c, v = .slice p n c := by obtain ⟨p, c, e, -⟩ := (hO.rdC hR hC).ex; exact ⟨p, c, e⟩
  have e := hC.eq
  subst e
  clear hC
  subst hv
  cases ha : l.any emp
  · have hf : fidx l = -1 := by simp [fidx, ha]
    have hff := filter_all ha
    have H2 := indexFunc_e (hO.rdC hR CtxI.out) hn
    rw [hf] at H2
    rw [hff, Hl.out]
    clear hf hff ha
    go_enter Tryd.func74, Tryd.ntmps74
    go_wp2_with (first | (refine wl_ld hR ?_) | (refine wl_st hR ?_; (try clear hF); clear hR; intro w hR; have hF := hR.fx) | (refine wl_mem hR ?_; (try clear hF); clear hR; intro w B hR; have hF := hR.fx) | (go_at_call 82; refine (H2).mono ?_; rintro e w ⟨rfl, hb⟩; replace hR := hR.kp0 hb; (try clear hF); clear hb; have hF := hR.fx))
    go_ret
    exact ⟨_, _, rfl, hO, hR⟩
  · obtain ⟨i0, hi0⟩ : ∃ i0, l.findIdx emp = i0 := ⟨_, rfl⟩
    have hi1 : i0 < l.length := by rw [← hi0, List.findIdx_lt_length]; simpa using ha
    have hf : fidx l = (i0 : Int) := by simp [fidx, ha, hi0]
    have hpre : (l.take (i0 + 1)).filter ne = l.take i0 := by
      have h1 : ne l[i0] = false := by
        have := List.findIdx_getElem (p := emp) (xs := l) (w := by rw [hi0]; exact hi1)
        simp only [hi0] at this; simp [ne, this]
      rw [take_snoc (List.getElem?_eq_getElem hi1), List.filter_append, List.filter_cons, h1]
      simp only [Bool.false_eq_true, if_false, List.filter_nil, List.append_nil]
      refine filter_ne fun r hr => ?_
      obtain ⟨j, hj, rfl⟩ := List.mem_iff_getElem.1 hr
      have hj' : j < i0 := by simp at hj; omega
      have := List.not_of_lt_findIdx (p := emp) (xs := l) (i := j) (by rw [hi0]; exact hj')
      simpa using this
    have hin : i0 < n := by rw [← Hl.out]; exact hi1
    obtain ⟨g, rfl⟩ : ∃ g, g0 = some ⟨g, 0, none⟩ := by
      rcases hO.2 with ⟨-, -, h0⟩ | ⟨g, cap, sp, -, e, -⟩
      · omega
      · simp only [Value.slice.injEq] at e; exact ⟨g, e.1⟩
    have hcap : n ≤ c0 := by
      rcases hO.2 with ⟨-, -, h0⟩ | ⟨g, cap, sp, -, e, h2, -⟩
      · omega
      · simp only [Value.slice.injEq] at e; rw [e.2.2]; exact h2
    have H2 := indexFunc_e (hO.rdC hR CtxI.out) hn
    rw [hf] at H2
    have hne : ¬ ((i0 : Int) = -1) := by omega
    have Hp := Lib.hid hpre
    clear hf hpre hi1 hi0 ha
    go_enter Tryd.func74, Tryd.ntmps74
    go_wp2_with (first | (refine wl_ld hR ?_) | (refine wl_st hR ?_; (try clear hF); clear hR; intro w hR; have hF := hR.fx) | (refine wl_mem hR ?_; (try clear hF); clear hR; intro w B hR; have hF := hR.fx) | (go_at_call 82; refine (H2).mono ?_; rintro e w ⟨rfl, hb⟩; replace hR := hR.kp0 hb; (try clear hF); clear hb; have hF := hR.fx))
    have hb0 : ((i0 : Int) == -1) = false := by simp
    simp only [hb0]
    clear hb0
    rename (((i0 : Int) == -1) = false) => hb1
    clear hb1
    go_loopw [5, 6] (fun i j wr => ∃ i' j' : Nat, ∃ cur sl, i = .int .i64 i' ∧ j = .int .i64 j' ∧ i' < j' ∧ j' ≤ n ∧ OS sl 38 4 (.slice (some ⟨g, 0, none⟩) n c0) n (rvals cur) ∧ Hid (cur.length = n) ∧ Hid (cur.take i' = (l.take j').filter ne) ∧ Hid (cur.drop j' = l.drop j') ∧ Rep w0 X R (pre ++ (sl ++ post)) wr) (fun _ j _ => n - (intOf j).toNat)
    case atStart => exact ⟨i0, i0 + 1, l, sl, rfl, by go_num, by omega, by omega, hO, Hl, Lib.hid Hp.out.symm, Lib.hid rfl, hR⟩
    case round =>
      obtain ⟨i, j, cur, sl, rfl, rfl, hij, hjn, hO, hcl, ht, hd, hR⟩ := hrel
      clear H2
      by_cases hlt : j < n
      · have hlt' : (j : Int) < (n : Int) := by omega
        obtain ⟨r, hr⟩ : ∃ r, l[j]? = some r := ⟨l[j]'(by rw [Hl.out]; exact hlt), List.getElem?_eq_getElem _⟩
        have hr2 : cur[j]? = some r := by
          have := congrArg (fun x => x[0]?) hd.out
          simpa [hr] using this
        have hv : ((rvals cur).drop (j * 4)).take 4 = [.string r.lo.key, .bool r.lo.top, .string r.hi.key, .bool r.hi.top] := fl_elem rvz hr2
        have hov : j * 4 + 4 ≤ (rvals cur).length := by rw [rvals_length, hcl.out]; omega
        have hoi : i * 4 + 4 ≤ (rvals cur).length := by rw [rvals_length, hcl.out]; omega
        have Hv := Lib.hid hv
        have Hov := Lib.hid hov
        have Hoi := Lib.hid hoi
        have Hr := Lib.hid hr
        clear hv hov hoi hr hr2
        have hi0 : (0 : Int) ≤ (i : Int) := by omega
        have hin' : (i : Int) < (n : Int) := by omega
        cases he : emp r
        · go_wp2_with (first | (refine wpList_ld_os hR rfl rfl hO CtxI.out rfl (by exact inferInstance) (by exact rfl) Hov.out Hv.out (by simp only [Act.put, List.setIfInBounds_toArray, List.set_cons_zero, List.set_cons_succ, ldW, if_true, Bool.false_eq_true, if_false, List.headD_cons]; exact rfl) ?_) | (refine wpList_st_os hR rfl rfl rfl hO CtxI.out rfl rfl (by exact inferInstance) Hoi.out (by exact rfl) ?_; (try clear hF); clear hR; intro sl w hO hR; (try simp only [List.cons_append, List.nil_append] at hR); have hF := hR.fx) | (refine wl_ld hR ?_) | (refine wl_st hR ?_; (try clear hF); clear hR; intro w hR; have hF := hR.fx) | (refine wl_mem hR ?_; (try clear hF); clear hR; intro w B hR; have hF := hR.fx) | (go_at_call 34; refine (empty_p_w r).mono ?_; rintro e w ⟨rfl, hb⟩; replace hR := hR.kp0 hb; (try clear hF); clear hb; have hF := hR.fx))
          have hst : stL (i * 4) [.string r.lo.key, .bool r.lo.top, .string r.hi.key, .bool r.hi.top] (rvals cur) = rvals (cur.set i r) := stL_rvals r cur i (by rw [hcl.out]; omega)
          rw [hst] at hO
          go_roundw
          case rel =>
            refine ⟨i + 1, j + 1, cur.set i r, sl, by go_num, by go_num, by omega, by omega, hO, Lib.hid (by rw [List.length_set]; exact hcl.out), Lib.hid ?_, Lib.hid ?_, by simpa only [List.append_nil] using hR.sub sub_any⟩
            · rw [take_snoc Hr.out, List.filter_append, List.filter_cons_of_pos (by simp [ne, he]), List.filter_nil, ← ht.out]
              rw [take_snoc (r := r) (by rw [List.getElem?_set_self (by rw [hcl.out]; omega)]), List.take_set_of_le (Nat.le_refl _)]
            · rw [List.drop_set_of_lt (by omega)]
              have := congrArg (fun x => x.drop 1) hd.out
              simpa [List.drop_drop, Nat.add_comm] using this
          case measure => simp [intOf]; omega
        · go_wp2_with (first | (refine wpList_ld_os hR rfl rfl hO CtxI.out rfl (by exact inferInstance) (by exact rfl) Hov.out Hv.out (by simp only [Act.put, List.setIfInBounds_toArray, List.set_cons_zero, List.set_cons_succ, ldW, if_true, Bool.false_eq_true, if_false, List.headD_cons]; exact rfl) ?_) | (refine wl_ld hR ?_) | (refine wl_st hR ?_; (try clear hF); clear hR; intro w hR; have hF := hR.fx) | (refine wl_mem hR ?_; (try clear hF); clear hR; intro w B hR; have hF := hR.fx) | (go_at_call 34; refine (empty_p_w r).mono ?_; rintro e w ⟨rfl, hb⟩; replace hR := hR.kp0 hb; (try clear hF); clear hb; have hF := hR.fx))
          go_roundw
          case rel =>
            refine ⟨i, j + 1, cur, sl, by go_num, by go_num, by omega, by omega, hO, hcl, Lib.hid ?_, Lib.hid ?_, hR.sub sub_any⟩
            · rw [take_snoc Hr.out, List.filter_append, List.filter_cons_of_neg (by simp [ne, he]), List.filter_nil, List.append_nil]; exact ht.out
            · have := congrArg (fun x => x.drop 1) hd.out
              simpa [List.drop_drop, Nat.add_comm] using this
          case measure => simp [intOf]; omega
      · obtain rfl : j = n := by omega
        go_wp2_with (first | (refine wl_ld hR ?_) | (refine wl_st hR ?_; (try clear hF); clear hR; intro w hR; have hF := hR.fx) | (refine wl_mem hR ?_; (try clear hF); clear hR; intro w B hR; have hF := hR.fx) | (refine wpList_clear_os hR rfl rfl rfl rfl (by exact inferInstance) ZeroI.out rfl hO CtxI.out (by omega) (by omega) ?_; (try clear hF); clear hR; intro sl w hO hR; have hF := hR.fx))
        have hst : (rvals cur).take (i * 4) = rvals (l.filter ne) := by
          rw [rvals_take, ht.out, List.take_of_length_le (by rw [Hl.out]; exact Nat.le_refl _)]
        rw [hst] at hO
        have hli : (l.filter ne).length = i := by
          have := hO.1; rw [rvals_length] at this; omega
        rw [hli]
        go_ret
        exact ⟨_, _, rfl, hO, by simpa only [List.append_nil] using hR⟩
end Go.Proofs.YtlbnhhfaedhgfaaDoor
namespace Go.Proofs
open Go.Shelf
def Tryd.sortR_ren : Go.Shelf.Ren := ⟨fun | 6 => 76 | 15 => 84 | 14 => 83 | 28 => 94 | 29 => 95 | 20 => 86 | 21 => 87 | 22 => 88 | 23 => 89 | 24 => 90 | 25 => 91 | 26 => 92 | 27 => 93 | 46 => 96 | 47 => 97 | 48 => 98 | 49 => 99 | 50 => 100 | 57 => 101 | n => n, fun | 22 => 23 | 24 => 38 | 25 => 103 | 3 => 3 | 39 => 110 | 0 => 0 | 53 => 121 | 55 => 123 | 4 => 4 | 46 => 114 | 45 => 113 | 50 => 118 | 5 => 5 | 9 => 9 | 66 => 124 | 70 => 128 | 76 => 130 | 77 => 131 | n => n, fun | n => n⟩
theorem Tryd.sortR : Go.Proofs.SlLaysF0.n6 Tryd.prog Tryd.sortR_ren := {
  mixed := by kernel_rfl
  f6 := ⟨Tryd.f76.name, by decide, Tryd.func76.trans (congrArg some (by kernel_rfl))⟩
  f14 := ⟨Tryd.f83.name, by decide, Tryd.func83.trans (congrArg some (by kernel_rfl))⟩
  f15 := Tryd.func84.trans (congrArg some (by kernel_rfl))
  f20 := ⟨Tryd.f86.name, by decide, Tryd.func86.trans (congrArg some (by kernel_rfl))⟩
  f21 := ⟨Tryd.f87.name, by decide, Tryd.func87.trans (congrArg some (by kernel_rfl))⟩
  f22 := ⟨Tryd.f88.name, by decide, Tryd.func88.trans (congrArg some (by kernel_rfl))⟩
  f23 := ⟨Tryd.f89.name, by decide, Tryd.func89.trans (congrArg some (by kernel_rfl))⟩
  f24 := ⟨Tryd.f90.name, by decide, Tryd.func90.trans (congrArg some (by kernel_rfl))⟩
  f25 := ⟨Tryd.f91.name, by decide, Tryd.func91.trans (congrArg some (by kernel_rfl))⟩
  f26 := ⟨Tryd.f92.name, by decide, Tryd.func92.trans (congrArg some (by kernel_rfl))⟩
  f27 := ⟨Tryd.f93.name, by decide, Tryd.func93.trans (congrArg some (by kernel_rfl))⟩
  f28 := Tryd.func94.trans (congrArg some (by kernel_rfl))
  f29 := Tryd.func95.trans (congrArg some (by kernel_rfl))
  f46 := ⟨Tryd.f96.name, by decide, Tryd.func96.trans (congrArg some (by kernel_rfl))⟩
  f47 := Tryd.func97.trans (congrArg some (by kernel_rfl))
  f48 := Tryd.func98.trans (congrArg some (by kernel_rfl))
  f49 := ⟨Tryd.f99.name, by decide, Tryd.func99.trans (congrArg some (by kernel_rfl))⟩
  f50 := ⟨Tryd.f100.name, by decide, Tryd.func100.trans (congrArg some (by kernel_rfl))⟩
  f57 := ⟨Tryd.f101.name, by decide, Tryd.func101.trans (congrArg some (by kernel_rfl))⟩
  t0 := Tryd.underlying0
  a0 := Tryd.isAgg0
  z0 := Tryd.sizeOf0
  v0 := Tryd.zeroValue0
  t3 := Tryd.underlying3
  a3 := Tryd.isAgg3
  z3 := Tryd.sizeOf3
  v3 := Tryd.zeroValue3
  t4 := Tryd.underlying4
  a4 := Tryd.isAgg4
  z4 := Tryd.sizeOf4
  v4 := Tryd.zeroValue4
  t5 := Tryd.underlying5
  a5 := Tryd.isAgg5
  z5 := Tryd.sizeOf5
  v5 := Tryd.zeroValue5
  t9 := Tryd.underlying9
  a9 := Tryd.isAgg9
  z9 := Tryd.sizeOf9
  v9 := Tryd.zeroValue9
  t22 := Tryd.underlying23
  a22 := Tryd.isAgg23
  z22 := Tryd.sizeOf23
  v22 := Tryd.zeroValue23
  t25 := Tryd.underlying103
  a25 := Tryd.isAgg103
  z25 := Tryd.sizeOf103
  v25 := Tryd.zeroValue103
  t39 := Tryd.underlying110
  a39 := Tryd.isAgg110
  z39 := Tryd.sizeOf110
  v39 := Tryd.zeroValue110
  t45 := Tryd.underlying113
  a45 := Tryd.isAgg113
  z45 := Tryd.sizeOf113
  v45 := Tryd.zeroValue113
  t46 := Tryd.underlying114
  a46 := Tryd.isAgg114
  z46 := Tryd.sizeOf114
  v46 := Tryd.zeroValue114
  t50 := Tryd.underlying118
  a50 := Tryd.isAgg118
  z50 := Tryd.sizeOf118
  v50 := Tryd.zeroValue118
  t53 := Tryd.underlying121
  a53 := Tryd.isAgg121
  z53 := Tryd.sizeOf121
  v53 := Tryd.zeroValue121
  t55 := Tryd.underlying123
  a55 := Tryd.isAgg123
  z55 := Tryd.sizeOf123
  v55 := Tryd.zeroValue123
  t66 := Tryd.underlying124
  a66 := Tryd.isAgg124
  z66 := Tryd.sizeOf124
  v66 := Tryd.zeroValue124
  t70 := Tryd.underlying128
  a70 := Tryd.isAgg128
  z70 := Tryd.sizeOf128
  v70 := Tryd.zeroValue128
  t76 := Tryd.underlying130
  a76 := Tryd.isAgg130
  z76 := Tryd.sizeOf130
  v76 := Tryd.zeroValue130
  t77 := Tryd.underlying131
  a77 := Tryd.isAgg131
  z77 := Tryd.sizeOf131
  v77 := Tryd.zeroValue131 }
end Go.Proofs
namespace Go.Proofs.YtlbnhhfaedhgfaaDoor
set_option linter.unusedSimpArgs false
set_option linter.unusedVariables false
open Go.RowKit Go.Shelf
attribute [local irreducible] contains emp vld vb vk adj isect hull proper greater lesser greatest least cmp Bnd.lt Op.bytesLess Calls Oper.wp wpList Code.wp Oper.upon
set_option maxRecDepth 100000 in
set_option maxHeartbeats 1000000 in
theorem clone_e {p : Option Addr} {n c : Nat} {l : List Rng} {w : World} (h1 : Rd w 4 (.slice p n c) n (rvals l)) (hn : n ≤ 1000000) :
    Calls Tryd.prog 75 #[.slice p n c] w fun e w' => ∃ v sl, e = .returned v ∧ OS sl 38 4 v n (rvals l) ∧ Rep w nof [] sl w' := by
  have q := fun w a n c n' c' => Lib.run_eql_slice_nil (P := Tryd.prog) w 23 _ a n c n' c' Tryd.underlying23
  cases p with
  | none =>
    obtain rfl : n = 0 := by
      obtain ⟨p, c', e, -, h⟩ := h1.ex
      rcases h with h | ⟨b, o, h, -⟩
      · exact h
      · simp only [Value.slice.injEq] at e; rw [h] at e; cases e.1
    obtain rfl : l = [] := by have := h1.count rvz (by decide); exact List.eq_nil_of_length_eq_zero this
    go_enter Tryd.func75, Tryd.ntmps75
    have hR := Rep.refl w
    generalize w = w0 at hR h1
    go_wp2_with (first | (refine wl_ld hR ?_) | (refine wl_st hR ?_; (try clear hF); clear hR; intro w hR; have hF := hR.fx) | (refine wl_mem hR ?_; (try clear hF); clear hR; intro w B hR; have hF := hR.fx))
    go_ret
    exact ⟨_, _, rfl, OS.nil _ _, hR⟩
  | some ad =>
    go_enter Tryd.func75, Tryd.ntmps75
    have hR := Rep.refl w
    generalize w = w0 at hR h1
    go_wp2_with (first | (refine wl_append (h1 := rvals_one l) hR rfl rfl rfl rfl rfl (OS.lit B 0 [] (by simp) (by decide)) (h1.kp hR.kp_nof) ?_; (try clear hF); clear hR; intro v sl w hO hR; have hF := hR.fx) | (refine wl_ld hR ?_) | (refine wl_st hR ?_; (try clear hF); clear hR; intro w hR; have hF := hR.fx) | (refine wl_mem hR ?_; (try clear hF); clear hR; intro w B hR; have hF := hR.fx))
    go_ret
    refine ⟨_, _, rfl, by simpa using hO, hR.sub sub_any⟩

/-! ### The sort -/
instance : Inhabited Rng := ⟨zr⟩
open Go.Sort in
theorem flatK_fl {α : Type} [Inhabited α] {enc : α → List Value} {k : Nat} (hz : ∀ x, (enc x).length = k) (l : List α) : flatK enc k l.toArray = (fl enc l).toArray := by
  apply Array.ext_getElem?
  intro t
  have hl := fl_length hz l
  by_cases ht : t < l.length * k
  · have hk : 0 < k := Nat.pos_of_ne_zero fun h => by rw [h] at ht; omega
    have hi : t / k < l.length := (Nat.div_lt_iff_lt_mul hk).2 ht
    have hj : t % k < k := Nat.mod_lt t hk
    have h1 := fl_get hz (List.getElem?_eq_getElem hi) (j := t % k) (List.getElem?_eq_getElem (by rw [hz]; exact hj))
    rw [show t / k * k + t % k = t by rw [Nat.mul_comm]; exact Nat.div_add_mod t k] at h1
    rw [List.getElem?_toArray (xs := fl enc l), h1]
    simp only [flatK, Array.getElem?_map, Array.getElem?_range, List.size_toArray, ht, if_true, Option.map_some]
    congr 1
    rw [getElem!_pos l.toArray (t / k) (by simpa using hi), getElem!_pos _ (t % k) (by simp [hz, hj])]
    simp
  · rw [List.getElem?_toArray (xs := fl enc l), List.getElem?_eq_none (by omega), Array.getElem?_eq_none (by simp; omega)]
open Go.Sort in
theorem sorted_rep {w0 w : World} {X : Fr} {R : List Win} {S sl pre post : List OB} {E : TypeId} {n cap g m : Nat} {l s : List Rng} {os : Array Obj} (hR : Rep w0 X R S w) (hO : OS sl E 4 (.slice (some ⟨g, 0, none⟩) n cap) n (rvals l)) (hC : Ctx S sl pre post) (hs : s.length = l.length) :
    ∃ sl', OS sl' E 4 (.slice (some ⟨g, 0, none⟩) n cap) n (rvals s) ∧ Rep w0 X R (pre ++ (sl' ++ post)) (sortWorldK Rng.vals 4 w g 0 m s.toArray os) := by
  rcases hO.2 with ⟨-, e, -⟩ | ⟨g', cap', sp, rfl, e, h2, h3, h4⟩
  · simp at e
  · simp only [Value.slice.injEq, Option.some.injEq, Addr.mk.injEq, and_true, true_and] at e
    obtain ⟨rfl, rfl⟩ := e
    have hmem : (⟨g, E, rvals l ++ sp⟩ : OB) ∈ S := (sub_ctx hC).subset List.mem_cons_self
    have hg : w.heap[g]? = some (.cells (rvals l ++ sp).toArray E (0, 0)) := hR.own _ hmem
    have hlt : g < w.heap.size := hR.lt hmem
    have hsl : (rvals s).length = (rvals l).length := by rw [rvals_length, rvals_length, hs]
    refine ⟨[⟨g, E, rvals s ++ sp⟩], ⟨by rw [hsl]; exact hO.1, .inr ⟨g, cap, sp, rfl, rfl, h2, h3, by rw [List.length_append, hsl, ← List.length_append]; exact h4⟩⟩, ?_⟩
    have hF : flatK Rng.vals 4 s.toArray = (rvals s).toArray := flatK_fl rvz s
    refine hR.replace hC (B := g) (fun k hk hne => ?_) rfl rfl rfl ?_ ?_ (.inl ⟨_, List.mem_cons_self, rfl⟩)
    · simp only [sortWorldK, putRowK, putRow, mapBlock, grow]
      rw [Array.getElem?_append_left (by simpa [ahead] using hk), Array.getElem?_modify, if_neg (Ne.symm hne)]; rfl
    · simp [sortWorldK, putRowK, putRow, mapBlock, grow, ahead]
    · simp only [sortWorldK, putRowK, putRow, mapBlock, grow]
      rw [Array.getElem?_append_left (by simpa [ahead] using hlt), Array.getElem?_modify, if_pos rfl]
      have ha : (Go.Sort.ahead w m).heap[g]? = some (.cells (rvals l ++ sp).toArray E (0, 0)) := hg
      rw [ha, hF]
      simp only [Option.map_some, onCells]
      congr 2
      apply Array.ext_getElem?
      intro k
      simp only [putCells, Array.getElem?_mapIdx, List.getElem?_toArray, List.size_toArray, Nat.zero_le, true_and, Nat.zero_add, Nat.sub_zero, id]
      by_cases hk : k < (rvals s).length
      · rw [List.getElem?_append_left hk, List.getElem?_append_left (by omega), List.getElem?_eq_getElem hk, List.getElem?_eq_getElem (by omega)]
        simp only [Option.map_some, hk, if_true]
        rw [getElem!_pos _ k (by simpa using hk)]; simp
      · rw [List.getElem?_append_right (by omega), List.getElem?_append_right (by omega), hsl]
        have hk' : ¬ k < (rvals l).length := by omega
        cases sp[k - (rvals l).length]? <;> simp [hk']
open Go.Sort in
theorem holds_os {w0 w : World} {X : Fr} {R : List Win} {S sl pre post : List OB} {E : TypeId} {n cap g : Nat} {l : List Rng} (hR : Rep w0 X R S w) (hO : OS sl E 4 (.slice (some ⟨g, 0, none⟩) n cap) n (rvals l)) (hC : Ctx S sl pre post) : HoldsK Rng.vals 4 w g 0 l.toArray := by
  rcases hO.2 with ⟨-, e, -⟩ | ⟨g', cap', sp, rfl, e, h2, h3, h4⟩
  · simp at e
  · simp only [Value.slice.injEq, Option.some.injEq, Addr.mk.injEq, and_true, true_and] at e
    obtain ⟨rfl, rfl⟩ := e
    have hmem : (⟨g, E, rvals l ++ sp⟩ : OB) ∈ S := (sub_ctx hC).subset List.mem_cons_self
    have hg : w.heap[g]? = some (.cells (rvals l ++ sp).toArray E (0, 0)) := hR.own _ hmem
    unfold HoldsK
    rw [flatK_fl rvz l]
    intro j hj
    have hj' : j < (rvals l).length := by rw [rvals_fl]; simpa using hj
    constructor
    · rw [Nat.zero_add, hR.cells hmem]
      simp only [id]
      rw [List.getElem?_append_left hj', List.getElem?_eq_getElem hj', getElem!_pos _ j hj]; rfl
    · simp [World.frozen?, hg]
def cmpLo (x y : Rng) : Int := cmp x.lo y.lo
theorem ltOf_lo (x y : Rng) : Go.Proofs.ltOf cmpLo x y = x.lo.lt y.lo := by
  have := cmp_neg x.lo y.lo
  unfold Go.Proofs.ltOf cmpLo
  cases h : x.lo.lt y.lo
  · rw [h] at this; simpa using this
  · rw [h] at this; simpa using this
theorem swo_lo : Go.Sort.SWO (Go.Proofs.ltOf cmpLo) := by
  refine ⟨fun x => ?_, fun x y z h k => ?_, fun x y z h k => ?_⟩
  · rw [ltOf_lo]; exact lt_irrefl _
  · rw [ltOf_lo] at *; exact lt_trans h k
  · rw [ltOf_lo] at *
    have h1 := leLo_trans z y x (by simp [leLo, k]) (by simp [leLo, h])
    simpa [leLo] using h1
theorem compare_gp {a b : ByteArray} {s t : Bool} {w : World} :
    Calls Tryd.prog 35 #[.agg #[.string a, .bool s], .agg #[.string b, .bool t]] w fun e w' => e = .returned (.int .i64 (cmp ⟨a, s⟩ ⟨b, t⟩)) ∧ ∃ o1 o2, w' = (w.alloc o1).alloc o2 := by
  go_enter Tryd.func35, Tryd.ntmps35
  go_wp2
  all_goals go_ret
  all_goals refine ⟨ret_int ?_, _, _, rfl⟩
  all_goals first | (simp [cmp, Bnd.lt, *]; done) | (rename_i h1 h2; simp [cmp, Bnd.lt, *, bl_gt h1 h2]; done) | (rename_i h1 h2; simp [cmp, Bnd.lt, *, bl_ge h2]; done) | (rename_i h1; simp [cmp, Bnd.lt, *, bl_gt (by simpa using h1.1) h1.2, show Op.bytesLess a.toList b.toList = false by simpa using h1.1]; done) | (rename_i h1 h2; simp [cmp, Bnd.lt, *, bl_ge2 h1 h2]; done)
set_option maxRecDepth 100000 in
set_option maxHeartbeats 1000000 in
theorem closure_lo (x y : Rng) (w : World) : Calls Tryd.prog 77 #[.agg x.vals.toArray, .agg y.vals.toArray] w fun e w' => e = .returned (.int .i64 (cmpLo x y)) ∧ ∃ q os', w' = Go.Sort.grow (w.drewN q) os' := by
  simp only [Rng.vals, cmpLo]
  go_enter Tryd.func77, Tryd.ntmps77
  go_wp2_with (go_at_call 35; refine (compare_gp).mono ?_; rintro e w' ⟨rfl, o1, o2, rfl⟩)
  go_ret
  exact ⟨rfl, 0, _, by rw [Go.Sort.alloc_eq_grow, Go.Sort.alloc_eq_grow, Go.Sort.alloc_eq_grow, Go.Sort.alloc_eq_grow, Go.Sort.grow_grow, Go.Sort.grow_grow, Go.Sort.grow_grow]; rfl⟩
theorem sortFunc_e {w0 w : World} {X : Fr} {R : List Win} {S sl pre post : List OB} {v : Value} {n : Nat} {l : List Rng} (hR : Rep w0 X R S w) (hO : OS sl 38 4 v n (rvals l)) (hC : Ctx S sl pre post) (hn : n ≤ 1000000) :
    Calls Tryd.prog 76 #[v, .func (.func 77) #[] #[]] w fun e w' => e = .returned (.tuple #[]) ∧ ∃ s sl', s.Perm l ∧ Srt s ∧ OS sl' 38 4 v n (rvals s) ∧ Rep w0 X R (pre ++ (sl' ++ post)) w' := by
  have hl : l.length = n := (hO.rdC hR hC).count rvz (by decide)
  rcases hO.2 with ⟨hsl, hv, hn0⟩ | ⟨g, cap, sp, hsl, hv, -⟩
  · have h0 : l = [] := List.eq_nil_of_length_eq_zero (hl.trans hn0)
    subst h0 hv hn0
    refine (AnyF.slices_SortFunc_none Tryd.sortR none 0 _ w).mono ?_
    rintro e w' ⟨rfl, rfl⟩
    exact ⟨rfl, [], sl, List.Perm.refl _, .nil, hO, by rw [hC.eq] at hR; exact hR⟩
  · subst hv hl
    have eg : ∀ args w, (callFunc 77 args).run Tryd.prog w = .ok (.enter 77 args) w := enters_of Tryd.func77 (by kernel_rfl) rfl
    refine (AnyQ.slices_SortFunc Tryd.sortR 4 Tryd.isAgg38 Tryd.sizeOf38 Rng.vals rvz (fun x v hv => by have := List.all_eq_true.1 (show x.vals.all Value.oneCell' = true from rfl) v hv; exact this) cmpLo swo_lo 77 #[] g 0 cap l.toArray w eg (fun m os dk _ x y => (closure_lo x y _).mono fun e w' ⟨he, hk⟩ => ⟨he, hk⟩) (holds_os hR hO hC) (hR.lt ((sub_ctx hC).subset (by rw [hsl]; exact List.mem_cons_self))) (by simp; omega)).mono ?_
    rintro e w' ⟨rfl, d', m, os, hp, hs, rfl⟩
    obtain ⟨s, rfl⟩ : ∃ s : List Rng, d' = s.toArray := ⟨d'.toList, by simp⟩
    have hsz : s.length = l.length := by simpa using hp.1
    obtain ⟨sl', h1, h2⟩ := sorted_rep (m := m) (os := os) hR hO hC hsz
    refine ⟨rfl, s, sl', ?_, ?_, h1, h2⟩
    · have := hp.2.2
      simpa [hsz, List.take_of_length_le (Nat.le_of_eq hsz)] using this
    · refine List.pairwise_iff_getElem.2 fun i j hi hj hij => ?_
      have := hs i j (Nat.zero_le _) hij (by simpa [← hsz] using hj)
      rw [ltOf_lo, getElem!_pos _ j (by simpa using hj), getElem!_pos _ i (by simpa using hi)] at this
      simpa using this
end Go.Proofs.YtlbnhhfaedhgfaaDoor
namespace Go.Proofs.YtlbnhhfaedhgfaaDoor
set_option linter.unusedSimpArgs false
set_option linter.unusedVariables false
open Go.RowKit
attribute [local irreducible] contains emp vld vb vk adj isect hull proper greater lesser greatest least cmp Bnd.lt Op.bytesLess Calls Oper.wp wpList Code.wp Oper.upon
theorem Rep.back {w0 w1 w : World} {S : List OB} (h : Rep w1 nof [] S w) (hk : Kp [] w0 w1) : Rep w0 nof [] S w :=
  ⟨hk.trans h.kp, h.own, h.ne, fun e he => Nat.le_trans hk.size (h.new e he), by simp, trivial, fun _ _ _ _ => trivial, by simp [nof]⟩
theorem Rep.rebase0 {w0 w : World} {X : Fr} {R : List Win} {S : List OB} (h : Rep w0 X R S w) : Rep w X [] [] w := h.rebaseS.sub (List.Sublist.refl _) (List.nil_sublist _)
theorem compare_p_v (a b : Bnd) {w : World} : Calls Tryd.prog 35 #[.agg #[.string a.key, .bool a.top], .agg #[.string b.key, .bool b.top]] w fun e w' => e = .returned (.int .i64 (cmp a b)) ∧ Kp [] w w' := compare_p
theorem greater_p_v (a b : Bnd) {w : World} : Calls Tryd.prog 62 #[.agg #[.string a.key, .bool a.top], .agg #[.string b.key, .bool b.top]] w fun e w' => e = .returned (.agg #[.string (greater a b).key, .bool (greater a b).top]) ∧ Kp [] w w' :=
  (greater_p (w := w)).mono fun e w' ⟨m, he, hm, hk⟩ => ⟨by rw [he, hm], hk⟩
theorem greatest_r_v (a b : Bnd) {w : World} : Calls Tryd.prog 52 #[.agg #[.string a.key, .bool a.top], .agg #[.string b.key, .bool b.top]] w fun e w' => e = .returned (.agg #[.string (greater a b).key, .bool (greater a b).top]) ∧ Kp [] w w' :=
  (greatest_r (w := w)).mono fun e w' ⟨m, he, hm, hk⟩ => ⟨by rw [he, hm, greatest_eq], hk⟩
theorem mrg_join {c r : Rng} {l : List Rng} (h : cmp r.lo c.hi ≤ 0) : mrg c (r :: l) = mrg ⟨c.lo, greater c.hi r.hi⟩ l := by rw [mrg, if_pos h]
theorem mrg_next {c r : Rng} {l : List Rng} (h : ¬ cmp r.lo c.hi ≤ 0) : mrg c (r :: l) = c :: mrg r l := by rw [mrg, if_neg h]
theorem last_hi {done : List Rng} {cur : Rng} {d : Nat} (hd : done.length = d) : ((rvals (done ++ [cur])).drop (d * 4 + 2)).take 2 = [.string cur.hi.key, .bool cur.hi.top] :=
  (fl_part rvz (l := done ++ [cur]) (k := d) (r := cur) (by rw [← hd]; simp) 2 2 (by decide)).trans rfl
def Mrg (out rest tot : List Rng) : Prop := (out = [] ∧ mrgAll rest = tot) ∨ ∃ done cur, out = done ++ [cur] ∧ done ++ mrg cur rest = tot
theorem OS.val {sl : List OB} {E : TypeId} {z n : Nat} {v : Value} {xs : List Value} (h : OS sl E z v n xs) : ∃ q c, v = .slice q n c := by
  rcases h.2 with ⟨-, rfl, rfl⟩ | ⟨g, cap, sp, -, rfl, -⟩
  · exact ⟨_, _, rfl⟩
  · exact ⟨_, _, rfl⟩
theorem OS.val1 {sl : List OB} {E : TypeId} {z n : Nat} {v : Value} {xs : List Value} (h : OS sl E z v n xs) (hn : 0 < n) : ∃ g c, v = .slice (some ⟨g, 0, none⟩) n c ∧ n ≤ c := by
  rcases h.2 with ⟨-, rfl, rfl⟩ | ⟨g, cap, sp, -, rfl, h1, -⟩
  · omega
  · exact ⟨_, _, rfl, h1⟩
set_option maxRecDepth 100000 in
set_option maxHeartbeats 4000000 in
theorem union_p {p : Option Addr} {n c : Nat} {l : List Rng} {w : World} (h1 : Rd w 4 (.slice p n c) n (rvals l)) (hn : n ≤ 1000000) :
    Calls Tryd.prog 57 #[.slice p n c] w fun e w' => ∃ r sl, e = .returned r ∧ OS sl 38 4 r (union l).length (rvals (union l)) ∧ Rep w nof [] sl w' := by
  have hl : l.length = n := h1.count rvz (by decide)
  have hm : (l.filter ne).length ≤ n := by rw [← hl]; exact List.length_filter_le _ _
  have Hu := Lib.hid (fun s hp hs => union_of_sorted (l := l) (s := s) hp hs)
  obtain ⟨tot, htot⟩ : ∃ tot, tot = union l := ⟨_, rfl⟩
  rw [← htot]
  rw [← htot] at Hu
  obtain ⟨fl0, hfl⟩ : ∃ f, f = l.filter ne := ⟨_, rfl⟩
  have Hf := Lib.hid hfl
  rw [← hfl] at hm
  have Hl := Lib.hid hl
  clear hfl hl htot
  go_enter Tryd.func57, Tryd.ntmps57
  have hR := Rep.refl w
  generalize w = w0 at hR h1
  go_wp2_with fail
  refine (clone_e h1 hn).mono ?_
  rintro e w ⟨v, sl, rfl, hO, hb⟩
  replace hR := hR.join hb
  clear hb
  go_wp2_with fail
  refine (deleteFunc_e hR hO CtxI.out hn).mono ?_
  clear hR hO
  rintro e w ⟨v, sl, rfl, hO, hR⟩
  rw [← Hf.out] at hO
  go_wp2_with fail
  refine (sortFunc_e hR hO CtxI.out (by omega)).mono ?_
  clear hR hO
  rintro e w ⟨rfl, s, sl, hp, hs, hO, hR⟩
  have hsl := hp.length_eq
  rw [← hsl] at hO hm
  have hrw := hO.rw hR CtxI.out
  have hk1 := hR.kp_nof
  replace hR := hR.rebase0
  have Ht := Lib.hid ((Hu.out) s (by rw [← Hf.out]; exact hp) hs)
  clear hO hp hs Hu
  obtain ⟨m, hmm⟩ : ∃ m, m = s.length := ⟨_, rfl⟩
  have Hm := Lib.hid hmm
  rw [← hmm] at hrw hm
  obtain ⟨q, cc, hv⟩ : ∃ q cc, v = .slice q m cc := by obtain ⟨q, cc, e, -⟩ := hrw.ex; exact ⟨q, cc, e⟩
  subst hv
  clear hmm hsl
  generalize w = w1 at hR hk1 hrw
  have hF := hR.fx
  go_wp2_with fail
  go_loopw [4, 15] (fun v i wr => ∃ k : Nat, ∃ out slo, i = .int .i64 k ∧ k ≤ m ∧ OS slo 38 4 v out.length (rvals out) ∧ Hid (Mrg out (s.drop k) tot) ∧ Hid (out.length ≤ k) ∧ Rep w1 nof [] slo wr) (fun _ i _ => m - (intOf i).toNat)
  case atStart => exact ⟨0, [], [], rfl, Nat.zero_le _, OS.nil _ _, Lib.hid (.inl ⟨rfl, by rw [List.drop_zero]; exact Ht.out⟩), Lib.hid (Nat.le_refl _), hR⟩
  case round =>
    obtain ⟨k, out, slo, rfl, hkm, hO, hM, hok, hR⟩ := hrel
    have hF := hR.fx
    by_cases hlt : k < m
    · have hlt' : (k : Int) < (m : Int) := by omega
      obtain ⟨r, hr⟩ : ∃ r, s[k]? = some r := ⟨s[k]'(by rw [← Hm.out]; exact hlt), List.getElem?_eq_getElem _⟩
      obtain ⟨b, o, rfl, hR⟩ := hrw.elem rvz (by decide) hr hR
      have hdr : s.drop k = r :: s.drop (k + 1) := by
        obtain ⟨g1, g2⟩ := List.getElem?_eq_some_iff.1 hr
        rw [List.drop_eq_getElem_cons g1, g2]
      have Hd := Lib.hid hdr
      clear hdr hr
      simp only [Rng.vals] at hR
      have hF := hR.fx
      rcases hM.out with ⟨hout, htot⟩ | ⟨done, cur, hout, htot⟩
      · subst hout
        have Hg : Hid (Mrg [r] (s.drop (k + 1)) tot) := Lib.hid (.inr ⟨[], r, rfl, by rw [← htot, Hd.out]; rfl⟩)
        clear hM htot Hd
        obtain ⟨q2, c2, rfl⟩ := hO.val
        simp only [List.length_nil] at hO ⊢
        go_upto_region 8 with (first | (refine wl_ld hR ?_) | (refine wl_st hR ?_; (try clear hF); clear hR; intro w hR; have hF := hR.fx) | (refine wl_mem hR ?_; (try clear hF); clear hR; intro w B6 hR; have hF := hR.fx))
        refine wp_region_C 13 (0 :: 1 :: 2 :: 3 :: 4 :: 5 :: 6 :: 7 :: 8 :: 9 :: 10 :: 11 :: 12 :: []) [11] hR mixed (by kernel_rfl) ?_; (try clear hF); clear hR; (repeat (first | (refine dk ?_; intro B) | (refine dk_call0 (fun w hR => ?_); first | (go_at_call 35; refine (compare_p_v r.lo r.hi).mono ?_; rintro e w' ⟨rfl, hb⟩; refine ⟨_, rfl, hb, dn ?_⟩; clear hR hb)))); refine dc_nil ?_; intro w hR; have hF := hR.fx; try simp only [List.drop_succ_cons, List.drop_zero]
        go_wp2_with (first | (refine wl_append hR rfl rfl rfl rfl rfl (hO) (At.rd hR UpI.at rfl) ?_; (try clear hF); clear hR; intro v sl w hO hR; have hF := hR.fx) | (refine wl_ld hR ?_) | (refine wl_st hR ?_; (try clear hF); clear hR; intro w hR; have hF := hR.fx) | (refine wl_mem hR ?_; (try clear hF); clear hR; intro w B hR; have hF := hR.fx))
        go_roundw
        case rel => exact ⟨k + 1, [r], sl, by go_num, by omega, by simpa [rvals, Rng.vals] using hO, Hg, Lib.hid (by simp), hR.sub sub_any sub_any⟩
        case measure => simp [intOf]; omega
      · subst hout
        obtain ⟨d, hd⟩ : ∃ d, done.length = d := ⟨_, rfl⟩
        obtain ⟨g, c2, rfl, hc2⟩ := hO.val1 (by simp)
        have hlen : (done ++ [cur]).length = d + 1 := by simp [hd]
        rw [hlen] at hO hc2 ⊢
        have hok' := hok.out
        rw [hlen] at hok'
        have Hv := Lib.hid (last_hi (cur := cur) hd)
        have Hl4 : Hid (d * 4 + 2 + 2 ≤ (rvals (done ++ [cur])).length) := Lib.hid (by rw [rvals_length, hlen]; omega)
        have hdp : (0 : Int) < (d : Int) + 1 := by omega
        have hdd : (d : Int) < (d : Int) + 1 := by omega
        have hd0 : (0 : Int) ≤ (d : Int) := by omega
        have hwr : IntKind.i64.wrap (d : Int) = d := IntWalk.i64_in _ (by omega)
        by_cases hj : cmp r.lo cur.hi ≤ 0
        · have Hg : Hid (Mrg (done ++ [⟨cur.lo, greater cur.hi r.hi⟩]) (s.drop (k + 1)) tot) := Lib.hid (.inr ⟨done, _, rfl, by rw [← htot, Hd.out, mrg_join hj]⟩)
          clear hM htot Hd
          go_upto_region 8 with (first | (refine wl_ld hR ?_) | (refine wl_st hR ?_; (try clear hF); clear hR; intro w hR; have hF := hR.fx) | (refine wl_mem hR ?_; (try clear hF); clear hR; intro w B6 hR; have hF := hR.fx))
          refine wp_region_C 13 (0 :: 1 :: 2 :: 3 :: 4 :: 5 :: 6 :: 7 :: 8 :: 9 :: 10 :: 11 :: 12 :: []) [11] hR mixed (by kernel_rfl) ?_; (try clear hF); clear hR; (repeat (first | (refine dc_ld_own rfl rfl rfl rfl hO CtxI.out rfl (by exact inferInstance) (by exact rfl) Hl4.out Hv.out (by simp only [Act.put, List.setIfInBounds_toArray, List.set_cons_zero, List.set_cons_succ, ldW, if_true, Bool.false_eq_true, if_false, List.headD_cons]; exact rfl) ?_) | (refine dk ?_; intro B) | (refine dk_call0 (fun w hR => ?_); first | (go_at_call 35; refine (compare_p_v r.lo cur.hi).mono ?_; rintro e w' ⟨rfl, hb⟩; refine ⟨_, rfl, hb, dn ?_⟩; clear hR hb)))); refine dc_nil ?_; intro w hR; have hF := hR.fx; try simp only [List.drop_succ_cons, List.drop_zero]
          go_upto_region 9 with (first | (refine wl_ld hR ?_) | (refine wl_st hR ?_; (try clear hF); clear hR; intro w hR; have hF := hR.fx) | (refine wl_mem hR ?_; (try clear hF); clear hR; intro w B hR; have hF := hR.fx))
          refine wp_region_C 14 (0 :: 1 :: 2 :: 3 :: 4 :: 5 :: 6 :: 7 :: 8 :: 9 :: 10 :: 11 :: 12 :: 13 :: []) [11] hR mixed (by kernel_rfl) ?_; (try clear hF); clear hR; (repeat (first | (refine dc_ld_own rfl rfl rfl rfl hO CtxI.out rfl (by exact inferInstance) (by exact rfl) Hl4.out Hv.out (by simp only [Act.put, List.setIfInBounds_toArray, List.set_cons_zero, List.set_cons_succ, ldW, if_true, Bool.false_eq_true, if_false, List.headD_cons]; exact rfl) ?_) | (refine dk ?_; intro B) | (refine dk_call0 (fun w hR => ?_); first | (go_at_call 62; refine (greater_p_v cur.hi r.hi).mono ?_; rintro e w' ⟨rfl, hb⟩; refine ⟨_, rfl, hb, dn ?_⟩; clear hR hb)))); refine dc_nil ?_; intro w hR; have hF := hR.fx; try simp only [List.drop_succ_cons, List.drop_zero]
          go_wp2_with (first | (refine wpList_st_os hR rfl rfl rfl hO CtxI.out rfl rfl (by exact inferInstance) Hl4.out (by exact rfl) ?_; (try clear hF); clear hR; intro sl w hO hR; (try simp only [List.cons_append, List.nil_append] at hR); have hF := hR.fx) | (refine wl_ld hR ?_) | (refine wl_st hR ?_; (try clear hF); clear hR; intro w hR; have hF := hR.fx) | (refine wl_mem hR ?_; (try clear hF); clear hR; intro w B hR; have hF := hR.fx))
          have hst : stL (d * 4 + 2) [.string (greater cur.hi r.hi).key, .bool (greater cur.hi r.hi).top] (rvals (done ++ [cur])) = rvals (done ++ [⟨cur.lo, greater cur.hi r.hi⟩]) := by
            rw [stL_rvals_hi _ _ _ cur (by rw [← hd]; simp), ← hd]; simp
          rw [hst] at hO
          go_roundw
          case rel => exact ⟨k + 1, _, sl, by go_num, by omega, by simpa [hd] using hO, Hg, Lib.hid (by simp [hd]; omega), by simpa only [List.append_nil] using hR.sub sub_any sub_any⟩
          case measure => simp [intOf]; omega
        · have Hg : Hid (Mrg ((done ++ [cur]) ++ [r]) (s.drop (k + 1)) tot) := Lib.hid (.inr ⟨done ++ [cur], r, rfl, by rw [← htot, Hd.out, mrg_next hj, List.append_assoc]; rfl⟩)
          clear hM htot Hd
          go_upto_region 8 with (first | (refine wl_ld hR ?_) | (refine wl_st hR ?_; (try clear hF); clear hR; intro w hR; have hF := hR.fx) | (refine wl_mem hR ?_; (try clear hF); clear hR; intro w B6 hR; have hF := hR.fx))
          refine wp_region_C 13 (0 :: 1 :: 2 :: 3 :: 4 :: 5 :: 6 :: 7 :: 8 :: 9 :: 10 :: 11 :: 12 :: []) [11] hR mixed (by kernel_rfl) ?_; (try clear hF); clear hR; (repeat (first | (refine dc_ld_own rfl rfl rfl rfl hO CtxI.out rfl (by exact inferInstance) (by exact rfl) Hl4.out Hv.out (by simp only [Act.put, List.setIfInBounds_toArray, List.set_cons_zero, List.set_cons_succ, ldW, if_true, Bool.false_eq_true, if_false, List.headD_cons]; exact rfl) ?_) | (refine dk ?_; intro B) | (refine dk_call0 (fun w hR => ?_); first | (go_at_call 35; refine (compare_p_v r.lo cur.hi).mono ?_; rintro e w' ⟨rfl, hb⟩; refine ⟨_, rfl, hb, dn ?_⟩; clear hR hb)))); refine dc_nil ?_; intro w hR; have hF := hR.fx; try simp only [List.drop_succ_cons, List.drop_zero]
          go_wp2_with (first | (refine wl_append hR rfl rfl rfl rfl rfl (hO) (At.rd hR UpI.at rfl) ?_; (try clear hF); clear hR; intro v sl w hO hR; have hF := hR.fx) | (refine wl_ld hR ?_) | (refine wl_st hR ?_; (try clear hF); clear hR; intro w hR; have hF := hR.fx) | (refine wl_mem hR ?_; (try clear hF); clear hR; intro w B hR; have hF := hR.fx))
          go_roundw
          case rel => exact ⟨k + 1, (done ++ [cur]) ++ [r], sl, by go_num, by omega, by simpa [hd, rvals, Rng.vals] using hO, Hg, Lib.hid (by simp [hd]; omega), hR.sub sub_any sub_any⟩
          case measure => simp [intOf]; omega
    · obtain rfl : k = m := by omega
      have hf : out = tot := by
        rcases hM.out with ⟨h1, h2⟩ | ⟨done, cur, h1, h2⟩
        · rw [h1, ← h2, List.drop_eq_nil_of_le (by rw [Hm.out]; exact Nat.le_refl _)]; rfl
        · rw [h1, ← h2, List.drop_eq_nil_of_le (by rw [Hm.out]; exact Nat.le_refl _)]; rfl
      subst hf
      go_wp2_with (first | (refine wl_ld hR ?_) | (refine wl_st hR ?_; (try clear hF); clear hR; intro w hR; have hF := hR.fx) | (refine wl_mem hR ?_; (try clear hF); clear hR; intro w B hR; have hF := hR.fx))
      go_ret
      exact ⟨_, _, rfl, hO, hR.back hk1⟩
end Go.Proofs.YtlbnhhfaedhgfaaDoor
namespace Go.Proofs.YtlbnhhfaedhgfaaDoor
set_option linter.unusedSimpArgs false
set_option linter.unusedVariables false
open Go.RowKit
attribute [local irreducible] contains emp vld vb vk adj isect hull proper greater lesser greatest least cmp Bnd.lt Op.bytesLess Calls Oper.wp wpList Code.wp Oper.upon
theorem empty_r_w (x : Rng) {w : World} : Calls Tryd.prog 22 #[.agg #[.string x.lo.key, .bool x.lo.top, .string x.hi.key, .bool x.hi.top]] w fun e w' => e = .returned (.bool (emp x)) ∧ Kp [] w w' := empty_r
theorem compare_r_w (a b : Bnd) {w : World} : Calls Tryd.prog 24 #[.agg #[.string a.key, .bool a.top], .agg #[.string b.key, .bool b.top]] w fun e w' => e = .returned (.int .i64 (cmp a b)) ∧ Kp [] w w' := compare_r
theorem ins_list {out : List Rng} {z r : Rng} {j m : Nat} (hm : out.length = m) (hj : j ≤ m) : ((out ++ [z]).take (j + 1) ++ ((out ++ [z]).drop j).take (m - j)).set j r = out.take j ++ r :: out.drop j := by
  subst hm
  have h2 : ((out ++ [z]).drop j).take (out.length - j) = out.drop j := by
    rw [List.drop_append_of_le_length hj]; exact List.take_left' (by simp)
  have h1 : ((out ++ [z]).take (j + 1)).set j r = out.take j ++ [r] := by
    have h2 : (out ++ [z]).take (j + 1) = out.take j ++ [(out ++ [z])[j]'(by simp; omega)] := by
      rw [List.take_add_one, List.getElem?_eq_getElem (by simp; omega), List.take_append_of_le_length hj]; rfl
    rw [h2, List.set_append_right _ _ (by simp; omega)]
    simp [Nat.min_eq_left hj]
  rw [h2, List.set_append_left _ _ (by simp; omega), h1, List.append_assoc]; rfl
theorem ins_perm {out : List Rng} {r : Rng} {j : Nat} : (out.take j ++ r :: out.drop j).Perm (out ++ [r]) := by
  refine List.perm_middle.trans ?_
  rw [List.take_append_drop]
  exact (List.perm_append_singleton r out).symm
theorem ins_srt {out : List Rng} {r : Rng} {j : Nat} (hs : Srt out) (h1 : ∀ i x, j ≤ i → out[i]? = some x → r.lo.lt x.lo = true) (h2 : ∀ x, 0 < j → out[j - 1]? = some x → r.lo.lt x.lo = false) (hj : j ≤ out.length) : Srt (out.take j ++ r :: out.drop j) := by
  refine List.pairwise_append.2 ⟨hs.sublist (List.take_sublist _ _), List.pairwise_cons.2 ⟨fun y hy => ?_, hs.sublist (List.drop_sublist _ _)⟩, fun x hx y hy => ?_⟩
  · obtain ⟨i, hi, rfl⟩ := List.mem_iff_getElem.1 hy
    rw [List.getElem_drop]
    exact lt_asymm (h1 (j + i) _ (by omega) (List.getElem?_eq_getElem _))
  · obtain ⟨i, hi, rfl⟩ := List.mem_iff_getElem.1 hx
    have hi' : i < j := by simp at hi; omega
    rw [List.getElem_take]
    have hr : r.lo.lt out[i].lo = false := by
      have h3 := h2 (out[j - 1]'(by omega)) (by omega) (List.getElem?_eq_getElem (by omega))
      by_cases hij : i = j - 1
      · subst hij; exact h3
      · have h4 : leLo out[i] (out[j - 1]'(by omega)) = true := by simp [leLo, List.pairwise_iff_getElem.1 hs i (j - 1) (by omega) (by omega) (by omega)]
        have h5 := leLo_trans _ _ r h4 (by simp [leLo, h3])
        simpa [leLo] using h5
    rcases List.mem_cons.1 hy with rfl | hy
    · exact hr
    · obtain ⟨q, hq, rfl⟩ := List.mem_iff_getElem.1 hy
      rw [List.getElem_drop]
      exact List.pairwise_iff_getElem.1 hs i (j + q) (by omega) (by simp at hq; omega) (by omega)
theorem elem_lo {out : List Rng} {x : Rng} {d : Nat} (hd : out[d]? = some x) : ((rvals out).drop (d * 4)).take 2 = [.string x.lo.key, .bool x.lo.top] :=
  (fl_part rvz (l := out) (k := d) (r := x) hd 0 2 (by decide)).trans rfl
set_option maxRecDepth 100000 in
set_option maxHeartbeats 8000000 in
theorem union_r {p : Option Addr} {n c : Nat} {l : List Rng} {w : World} (h1 : Rd w 4 (.slice p n c) n (rvals l)) (hn : n ≤ 1000000) :
    Calls Tryd.prog 27 #[.slice p n c] w fun e w' => ∃ r sl, e = .returned r ∧ OS sl 38 4 r (union l).length (rvals (union l)) ∧ Rep w nof [] sl w' := by
  have hl : l.length = n := h1.count rvz (by decide)
  have Hu := Lib.hid (fun s hp hs => union_of_sorted (l := l) (s := s) hp hs)
  obtain ⟨tot, htot⟩ : ∃ tot, tot = union l := ⟨_, rfl⟩
  rw [← htot]
  rw [← htot] at Hu
  have Hl := Lib.hid hl
  clear hl htot
  go_enter Tryd.func27, Tryd.ntmps27
  have hR := Rep.refl w
  generalize w = w0 at hR h1
  have hrl := h1.rw
  go_wp2_with fail
  go_loopw [3, 4] (fun v i wr => ∃ k : Nat, ∃ out slo, i = .int .i64 k ∧ k ≤ n ∧ OS slo 38 4 v out.length (rvals out) ∧ Hid (out.Perm ((l.take k).filter ne)) ∧ Hid (Srt out) ∧ Rep w0 nof [] slo wr) (fun _ i _ => n - (intOf i).toNat)
  case atStart => exact ⟨0, [], [], rfl, Nat.zero_le _, OS.nil _ _, Lib.hid (List.Perm.refl _), Lib.hid .nil, hR⟩
  case round =>
    obtain ⟨k, out, slo, rfl, hkn, hO, hP, hS, hR⟩ := hrel
    have hF := hR.fx
    by_cases hlt : k < n
    · have hlt' : (k : Int) < (n : Int) := by omega
      have hk0 : (0 : Int) ≤ (k : Int) := by omega
      obtain ⟨r, hr⟩ : ∃ r, l[k]? = some r := ⟨l[k]'(by rw [Hl.out]; exact hlt), List.getElem?_eq_getElem _⟩
      have hts := take_snoc hr
      obtain ⟨b, o, rfl, hR⟩ := hrl.elem rvz (by decide) hr hR
      have Hr := Lib.hid hts
      clear hts hr
      simp only [Rng.vals] at hR
      have hF := hR.fx
      cases he : emp r
      · have hpl := hP.out.length_eq
        have hml : out.length ≤ n := by rw [hpl]; exact Nat.le_trans (List.length_filter_le _ _) (by rw [List.length_take, Hl.out]; omega)
        obtain ⟨q2, c2, rfl⟩ := hO.val
        obtain ⟨m, hm⟩ : ∃ m, out.length = m := ⟨_, rfl⟩
        rw [hm] at hO hml ⊢
        have Hm := Lib.hid hm
        clear hm hpl
        go_wp2_with (first | (refine wl_ld hR ?_) | (refine wl_st hR ?_; (try clear hF); clear hR; intro w hR; have hF := hR.fx) | (refine wl_mem hR ?_; (try clear hF); clear hR; intro w B hR; have hF := hR.fx) | (go_at_call 22; refine (empty_r_w r).mono ?_; rintro e w ⟨rfl, hb⟩; replace hR := hR.kp0 hb; (try clear hF); clear hb; have hF := hR.fx))
        go_loopw [5] (fun a wr => ∃ j : Nat, a = .int .i64 j ∧ j ≤ m ∧ Hid (∀ i x, j ≤ i → out[i]? = some x → r.lo.lt x.lo = true) ∧ Rep w0 nof [⟨b, o + k * 4, [.string r.lo.key, .bool r.lo.top, .string r.hi.key, .bool r.hi.top]⟩] slo wr) (fun a _ => (intOf a).toNat)
        case atStart => exact ⟨m, rfl, Nat.le_refl _, Lib.hid (fun i x hi hx => by have := (List.getElem?_eq_some_iff.1 hx).1; rw [Hm.out] at this; omega), hR⟩
        case round =>
          obtain ⟨j, rfl, hjm, hA, hR⟩ := hrel
          have hF := hR.fx
          by_cases hj : 0 < j
          · obtain ⟨j, rfl⟩ : ∃ j', j = j' + 1 := ⟨j - 1, by omega⟩
            obtain ⟨x, hx⟩ : ∃ x, out[j]? = some x := ⟨out[j]'(by rw [Hm.out]; omega), List.getElem?_eq_getElem _⟩
            have Hv := Lib.hid (elem_lo hx)
            have Hl4 : Hid (j * 4 + 2 ≤ (rvals out).length) := Lib.hid (by rw [rvals_length, Hm.out]; omega)
            have Hx := Lib.hid hx
            clear hx
            obtain ⟨g, c2, hv2, hc2⟩ := hO.val1 (by omega)
            simp only [Value.slice.injEq, true_and] at hv2
            obtain ⟨rfl, rfl⟩ := hv2
            have hjp : (0 : Int) < (j : Int) + 1 := by omega
            have hj0 : (0 : Int) ≤ (j : Int) := by omega
            have hjm' : (j : Int) < (m : Int) := by omega
            have hwr : IntKind.i64.wrap (j : Int) = j := IntWalk.i64_in _ (by omega)
            by_cases hc : 0 < cmp x.lo r.lo
            · go_upto_region 7 with fail
              refine wp_region_C 16 (0 :: 1 :: 2 :: 3 :: 4 :: 5 :: 6 :: 7 :: 8 :: 9 :: 10 :: 11 :: 12 :: 13 :: 14 :: 15 :: []) [14] hR mixed (by kernel_rfl) ?_; (try clear hF); clear hR; (repeat (first | (refine dc_ld_own rfl rfl rfl rfl hO CtxI.out rfl (by exact inferInstance) (by exact rfl) Hl4.out Hv.out (by simp only [Act.put, List.setIfInBounds_toArray, List.set_cons_zero, List.set_cons_succ, ldW, if_true, Bool.false_eq_true, if_false, List.headD_cons]; exact rfl) ?_) | (refine dk ?_; intro B) | (refine dk_call0 (fun w hR => ?_); first | (go_at_call 24; refine (compare_r_w x.lo r.lo).mono ?_; rintro e w' ⟨rfl, hb⟩; refine ⟨_, rfl, hb, dn ?_⟩; clear hR hb)))); refine dc_nil ?_; intro w hR; have hF := hR.fx; try simp only [List.drop_succ_cons, List.drop_zero]
              go_wp2_with fail
              go_roundw
              case rel => exact ⟨j, rfl, by omega, Lib.hid (fun i y hi hy => by
                by_cases hij : i = j
                · subst hij; rw [Hx.out] at hy; obtain rfl := Option.some.inj hy; exact (cmp_pos _ _).1 hc
                · exact hA.out i y (by omega) hy), hR.sub sub_any sub_any⟩
              case measure => simp [intOf] <;> omega
            · have Hx0 : Hid (r.lo.lt x.lo = false) := Lib.hid (Bool.eq_false_iff.2 fun hq => hc ((cmp_pos _ _).2 hq))
              go_upto_region 7 with fail
              refine wp_region_C 16 (0 :: 1 :: 2 :: 3 :: 4 :: 5 :: 6 :: 7 :: 8 :: 9 :: 10 :: 11 :: 12 :: 13 :: 14 :: 15 :: []) [14] hR mixed (by kernel_rfl) ?_; (try clear hF); clear hR; (repeat (first | (refine dc_ld_own rfl rfl rfl rfl hO CtxI.out rfl (by exact inferInstance) (by exact rfl) Hl4.out Hv.out (by simp only [Act.put, List.setIfInBounds_toArray, List.set_cons_zero, List.set_cons_succ, ldW, if_true, Bool.false_eq_true, if_false, List.headD_cons]; exact rfl) ?_) | (refine dk ?_; intro B) | (refine dk_call0 (fun w hR => ?_); first | (go_at_call 24; refine (compare_r_w x.lo r.lo).mono ?_; rintro e w' ⟨rfl, hb⟩; refine ⟨_, rfl, hb, dn ?_⟩; clear hR hb)))); refine dc_nil ?_; intro w hR; have hF := hR.fx; try simp only [List.drop_succ_cons, List.drop_zero]
              have hwr1 : IntKind.i64.wrap (((j : Int) + 1) + 1) = ((j : Int) + 1) + 1 := IntWalk.i64_in _ (by omega)
              go_upto_region 10 with (first | (refine wl_append hR rfl rfl rfl rfl rfl (hO) (At.rd hR UpI.at rfl) ?_; (try clear hF); clear hR; intro v sl w hO hR; have hF := hR.fx) | (refine wl_ld hR ?_) | (refine wl_st hR ?_; (try clear hF); clear hR; intro w hR; have hF := hR.fx) | (refine wl_mem hR ?_; (try clear hF); clear hR; intro w B9 hR; have hF := hR.fx))
              have hz : rvals out ++ [.string ⟨#[]⟩, .bool false, .string ⟨#[]⟩, .bool false] = rvals (out ++ [zr]) := by simp [rvals, Rng.vals, zr, zb]
              rw [hz] at hO
              clear hz
              obtain ⟨g, c3, rfl, hc3⟩ := hO.val1 (by omega)
              have hi1 : (0 : Int) ≤ ((j : Int) + 1) + 1 := by omega
              have hi2 : ((j : Int) + 1) + 1 ≤ (m : Int) + 1 := by omega
              have hi3 : (0 : Int) ≤ ((j : Int) + 1) := by omega
              have hi4 : ((j : Int) + 1) ≤ (m : Int) + 1 := by omega
              have hi5 : ((j : Int) + 1) < (m : Int) + 1 := by omega
              refine wp_region_C 7 (0 :: 1 :: 2 :: 3 :: 4 :: 5 :: 6 :: []) [] hR mixed (by kernel_rfl) ?_; (try clear hF); clear hR; (repeat (first | (refine dc_slice_end (lo := (j + 1) + 1) rfl rfl rfl rfl rfl rfl (by exact inferInstance) (by omega) (by omega) ?_; intro o1 ho1; refine dn ?_) | (refine dc_slice_end (lo := (j + 1)) rfl rfl rfl rfl rfl rfl (by exact inferInstance) (by omega) (by omega) ?_; intro o2 ho2; refine dn ?_) | (refine dk ?_; intro B))); refine dc_nil ?_; intro w hR; have hF := hR.fx; try simp only [List.drop_succ_cons, List.drop_zero]
              go_wp2_with (first | (refine wpList_copy_os (i := (j + 1)) hR rfl rfl rfl rfl rfl (by exact inferInstance) (rvals_one _) hO CtxI.out ⟨by omega, by omega, fun hh => by have := ho1.out (by omega); omega, fun hh => by have := ho2.out (by omega); omega⟩ ?_; (try clear hF); clear hR; intro sl w hO hR; have hF := hR.fx; refine dn ?_) | (refine wpList_st_os hR rfl rfl rfl hO CtxI.out rfl rfl (by exact inferInstance) (by simp only [List.length_append, List.length_take, List.length_drop, rvals_length, List.length_singleton, Hm.out]; omega) (by exact rfl) ?_; (try clear hF); clear hR; intro sl w hO hR; (try simp only [List.cons_append, List.nil_append] at hR); have hF := hR.fx) | (refine wl_ld hR ?_) | (refine wl_st hR ?_; (try clear hF); clear hR; intro w hR; have hF := hR.fx) | (refine wl_mem hR ?_; (try clear hF); clear hR; intro w B hR; have hF := hR.fx))
              have hst : stL ((j + 1) * 4) [.string r.lo.key, .bool r.lo.top, .string r.hi.key, .bool r.hi.top] ((rvals (out ++ [zr])).take (((j + 1) + 1) * 4) ++ ((rvals (out ++ [zr])).drop ((j + 1) * 4)).take ((m + 1 - ((j + 1) + 1)) * 4)) = rvals (out.take (j + 1) ++ r :: out.drop (j + 1)) := by
                rw [rvals_take, rvals_drop, rvals_take, ← rvals_append, show m + 1 - ((j + 1) + 1) = m - (j + 1) by omega]
                exact (stL_rvals r _ (j + 1) (by simp [Hm.out]; omega)).trans (by rw [ins_list Hm.out (by omega)])
              rw [hst] at hO
              clear hst
              have hlen : (out.take (j + 1) ++ r :: out.drop (j + 1)).length = m + 1 := by simp [Hm.out]; omega
              go_roundw
              case rel =>
                refine ⟨k + 1, out.take (j + 1) ++ r :: out.drop (j + 1), sl, by go_num, by omega, by rw [hlen]; exact hO, Lib.hid ?_, Lib.hid ?_, hR.sub sub_any sub_any⟩
                · rw [Hr.out, List.filter_append, List.filter_cons_of_pos (by simp [ne, he]), List.filter_nil]
                  exact ins_perm.trans (hP.out.append_right [r])
                · exact ins_srt hS.out hA.out (fun y hy0 hy => by rw [show j + 1 - 1 = j by omega, Hx.out] at hy; obtain rfl := Option.some.inj hy; exact Hx0.out) (by rw [Hm.out]; omega)
              case measure => simp [intOf] <;> omega
          · have hnj : ¬ ((0 : Int) < (j : Int)) := by omega
            go_upto_region 7 with fail
            refine wp_region_C 16 (0 :: 1 :: 2 :: 3 :: 4 :: 5 :: 6 :: 7 :: 8 :: 9 :: 10 :: 11 :: 12 :: 13 :: 14 :: 15 :: []) [14] hR mixed (by kernel_rfl) ?_; (try clear hF); clear hR; (repeat (first | (refine dk ?_; intro B) | (refine dk_call0 (fun w hR => ?_); first | (go_at_call 24; refine (compare_r_w r.lo r.lo).mono ?_; rintro e w' ⟨rfl, hb⟩; refine ⟨_, rfl, hb, dn ?_⟩; clear hR hb)))); refine dc_nil ?_; intro w hR; have hF := hR.fx; try simp only [List.drop_succ_cons, List.drop_zero]
            have hwr1 : IntKind.i64.wrap ((j : Int) + 1) = (j : Int) + 1 := IntWalk.i64_in _ (by omega)
            go_upto_region 10 with (first | (refine wl_append hR rfl rfl rfl rfl rfl (hO) (At.rd hR UpI.at rfl) ?_; (try clear hF); clear hR; intro v sl w hO hR; have hF := hR.fx) | (refine wl_ld hR ?_) | (refine wl_st hR ?_; (try clear hF); clear hR; intro w hR; have hF := hR.fx) | (refine wl_mem hR ?_; (try clear hF); clear hR; intro w B9 hR; have hF := hR.fx))
            have hz : rvals out ++ [.string ⟨#[]⟩, .bool false, .string ⟨#[]⟩, .bool false] = rvals (out ++ [zr]) := by simp [rvals, Rng.vals, zr, zb]
            rw [hz] at hO
            clear hz
            obtain ⟨g, c3, rfl, hc3⟩ := hO.val1 (by omega)
            have hi1 : (0 : Int) ≤ (j : Int) + 1 := by omega
            have hi2 : (j : Int) + 1 ≤ (m : Int) + 1 := by omega
            have hi3 : (0 : Int) ≤ (j : Int) := by omega
            have hi4 : (j : Int) ≤ (m : Int) + 1 := by omega
            have hi5 : (j : Int) < (m : Int) + 1 := by omega
            refine wp_region_C 7 (0 :: 1 :: 2 :: 3 :: 4 :: 5 :: 6 :: []) [] hR mixed (by kernel_rfl) ?_; (try clear hF); clear hR; (repeat (first | (refine dc_slice_end (lo := j + 1) rfl rfl rfl rfl rfl rfl (by exact inferInstance) (by omega) (by omega) ?_; intro o1 ho1; refine dn ?_) | (refine dc_slice_end (lo := j) rfl rfl rfl rfl rfl rfl (by exact inferInstance) (by omega) (by omega) ?_; intro o2 ho2; refine dn ?_) | (refine dk ?_; intro B))); refine dc_nil ?_; intro w hR; have hF := hR.fx; try simp only [List.drop_succ_cons, List.drop_zero]
            go_wp2_with (first | (refine wpList_copy_os (i := j) hR rfl rfl rfl rfl rfl (by exact inferInstance) (rvals_one _) hO CtxI.out ⟨by omega, by omega, fun hh => by have := ho1.out (by omega); omega, fun hh => by have := ho2.out (by omega); omega⟩ ?_; (try clear hF); clear hR; intro sl w hO hR; have hF := hR.fx; refine dn ?_) | (refine wpList_st_os hR rfl rfl rfl hO CtxI.out rfl rfl (by exact inferInstance) (by simp only [List.length_append, List.length_take, List.length_drop, rvals_length, List.length_singleton, Hm.out]; omega) (by exact rfl) ?_; (try clear hF); clear hR; intro sl w hO hR; (try simp only [List.cons_append, List.nil_append] at hR); have hF := hR.fx) | (refine wl_ld hR ?_) | (refine wl_st hR ?_; (try clear hF); clear hR; intro w hR; have hF := hR.fx) | (refine wl_mem hR ?_; (try clear hF); clear hR; intro w B hR; have hF := hR.fx))
            have hst : stL (j * 4) [.string r.lo.key, .bool r.lo.top, .string r.hi.key, .bool r.hi.top] ((rvals (out ++ [zr])).take ((j + 1) * 4) ++ ((rvals (out ++ [zr])).drop (j * 4)).take ((m + 1 - (j + 1)) * 4)) = rvals (out.take j ++ r :: out.drop j) := by
              rw [rvals_take, rvals_drop, rvals_take, ← rvals_append, show m + 1 - (j + 1) = m - j by omega]
              exact (stL_rvals r _ j (by simp [Hm.out]; omega)).trans (by rw [ins_list Hm.out (by omega)])
            rw [hst] at hO
            clear hst
            have hlen : (out.take j ++ r :: out.drop j).length = m + 1 := by simp [Hm.out]; omega
            go_roundw
            case rel =>
              refine ⟨k + 1, out.take j ++ r :: out.drop j, sl, by go_num, by omega, by rw [hlen]; exact hO, Lib.hid ?_, Lib.hid ?_, hR.sub sub_any sub_any⟩
              · rw [Hr.out, List.filter_append, List.filter_cons_of_pos (by simp [ne, he]), List.filter_nil]
                exact ins_perm.trans (hP.out.append_right [r])
              · exact ins_srt hS.out hA.out (fun y hy0 hy => absurd hy0 hj) (by rw [Hm.out]; omega)
            case measure => simp [intOf] <;> omega
      · go_wp2_with (first | (refine wl_ld hR ?_) | (refine wl_st hR ?_; (try clear hF); clear hR; intro w hR; have hF := hR.fx) | (refine wl_mem hR ?_; (try clear hF); clear hR; intro w B hR; have hF := hR.fx) | (go_at_call 22; refine (empty_r_w r).mono ?_; rintro e w ⟨rfl, hb⟩; replace hR := hR.kp0 hb; (try clear hF); clear hb; have hF := hR.fx))
        go_roundw
        case rel => exact ⟨k + 1, out, slo, by go_num, by omega, hO, Lib.hid (by rw [Hr.out, List.filter_append, List.filter_cons_of_neg (by simp [ne, he]), List.filter_nil, List.append_nil]; exact hP.out), hS, hR.sub sub_any sub_any⟩
        case measure => simp [intOf] <;> omega
    · obtain rfl : k = n := by omega
      have hpl : out.Perm (l.filter ne) := by have := hP.out; rwa [List.take_of_length_le (by rw [Hl.out]; exact Nat.le_refl _)] at this
      have hm : out.length ≤ k := by rw [hpl.length_eq, ← Hl.out]; exact List.length_filter_le _ _
      have Ht := Lib.hid (Hu.out out hpl hS.out)
      have hrw := hO.rw hR CtxI.out
      have hk1 := hR.kp_nof
      replace hR := hR.rebase0
      clear hO hS hP Hu hpl hrl h1
      obtain ⟨m, hmm⟩ : ∃ m, m = out.length := ⟨_, rfl⟩
      have Hm := Lib.hid hmm
      rw [← hmm] at hrw hm
      obtain ⟨q, cc, hv⟩ : ∃ q cc, u3 = .slice q m cc := by obtain ⟨q, cc, e, -⟩ := hrw.ex; exact ⟨q, cc, e⟩
      subst hv
      clear hmm
      generalize wr = w1 at hR hk1 hrw
      clear hF
      have hF := hR.fx
      go_wp2_with fail
      go_loopw [6, 7] (fun v i wr => ∃ k : Nat, ∃ os slo, i = .int .i64 k ∧ k ≤ m ∧ OS slo 38 4 v os.length (rvals os) ∧ Hid (Mrg os (out.drop k) tot) ∧ Hid (os.length ≤ k) ∧ Rep w1 nof [] slo wr) (fun _ i _ => m - (intOf i).toNat)
      case atStart => exact ⟨0, [], [], rfl, Nat.zero_le _, OS.nil _ _, Lib.hid (.inl ⟨rfl, by rw [List.drop_zero]; exact Ht.out⟩), Lib.hid (Nat.le_refl _), hR⟩
      case round =>
        obtain ⟨k, os, slo, rfl, hkm, hO, hM, hok, hR⟩ := hrel
        have hF := hR.fx
        by_cases hlt : k < m
        · have hlt' : (k : Int) < (m : Int) := by omega
          have hk0 : (0 : Int) ≤ (k : Int) := by omega
          obtain ⟨r, hr⟩ : ∃ r, out[k]? = some r := ⟨out[k]'(by rw [← Hm.out]; exact hlt), List.getElem?_eq_getElem _⟩
          obtain ⟨b, o, rfl, hR⟩ := hrw.elem rvz (by decide) hr hR
          have hdr : out.drop k = r :: out.drop (k + 1) := by
            obtain ⟨g1, g2⟩ := List.getElem?_eq_some_iff.1 hr
            rw [List.drop_eq_getElem_cons g1, g2]
          have Hd := Lib.hid hdr
          clear hdr hr
          simp only [Rng.vals] at hR
          have hF := hR.fx
          rcases hM.out with ⟨hout, htot⟩ | ⟨done, cur, hout, htot⟩
          · subst hout
            have Hg : Hid (Mrg [r] (out.drop (k + 1)) tot) := Lib.hid (.inr ⟨[], r, rfl, by rw [← htot, Hd.out]; rfl⟩)
            clear hM htot Hd
            obtain ⟨q2, c2, rfl⟩ := hO.val
            simp only [List.length_nil] at hO ⊢
            go_upto_region 17 with (first | (refine wl_ld hR ?_) | (refine wl_st hR ?_; (try clear hF); clear hR; intro w hR; have hF := hR.fx) | (refine wl_mem hR ?_; (try clear hF); clear hR; intro w B hR; have hF := hR.fx))
            refine wp_region_C 16 (0 :: 1 :: 2 :: 3 :: 4 :: 5 :: 6 :: 7 :: 8 :: 9 :: 10 :: 11 :: 12 :: 13 :: 14 :: 15 :: []) [14] hR mixed (by kernel_rfl) ?_; (try clear hF); clear hR; (repeat (first | (refine dk ?_; intro B) | (refine dk_call0 (fun w hR => ?_); first | (go_at_call 24; refine (compare_r_w r.lo r.hi).mono ?_; rintro e w' ⟨rfl, hb⟩; refine ⟨_, rfl, hb, dn ?_⟩; clear hR hb)))); refine dc_nil ?_; intro w hR; have hF := hR.fx; try simp only [List.drop_succ_cons, List.drop_zero]
            go_wp2_with (first | (refine wl_append hR rfl rfl rfl rfl rfl (hO) (At.rd hR UpI.at rfl) ?_; (try clear hF); clear hR; intro v sl w hO hR; have hF := hR.fx) | (refine wl_ld hR ?_) | (refine wl_st hR ?_; (try clear hF); clear hR; intro w hR; have hF := hR.fx) | (refine wl_mem hR ?_; (try clear hF); clear hR; intro w B hR; have hF := hR.fx))
            go_roundw
            case rel => exact ⟨k + 1, [r], sl, by go_num, by omega, by simpa [rvals, Rng.vals] using hO, Hg, Lib.hid (by simp), hR.sub sub_any sub_any⟩
            case measure => simp [intOf] <;> omega
          · subst hout
            obtain ⟨d, hd⟩ : ∃ d, done.length = d := ⟨_, rfl⟩
            obtain ⟨g, c2, rfl, hc2⟩ := hO.val1 (by simp)
            have hlen : (done ++ [cur]).length = d + 1 := by simp [hd]
            rw [hlen] at hO hc2 ⊢
            have hok' := hok.out
            rw [hlen] at hok'
            have Hv := Lib.hid (last_hi (cur := cur) hd)
            have Hl4 : Hid (d * 4 + 2 + 2 ≤ (rvals (done ++ [cur])).length) := Lib.hid (by rw [rvals_length, hlen]; omega)
            have hdp : (0 : Int) < (d : Int) + 1 := by omega
            have hdd : (d : Int) < (d : Int) + 1 := by omega
            have hd0 : (0 : Int) ≤ (d : Int) := by omega
            have hwr : IntKind.i64.wrap (d : Int) = d := IntWalk.i64_in _ (by omega)
            by_cases hj : cmp r.lo cur.hi ≤ 0
            · have Hg : Hid (Mrg (done ++ [⟨cur.lo, greater cur.hi r.hi⟩]) (out.drop (k + 1)) tot) := Lib.hid (.inr ⟨done, _, rfl, by rw [← htot, Hd.out, mrg_join hj]⟩)
              clear hM htot Hd
              go_upto_region 17 with (first | (refine wl_ld hR ?_) | (refine wl_st hR ?_; (try clear hF); clear hR; intro w hR; have hF := hR.fx) | (refine wl_mem hR ?_; (try clear hF); clear hR; intro w B hR; have hF := hR.fx))
              refine wp_region_C 16 (0 :: 1 :: 2 :: 3 :: 4 :: 5 :: 6 :: 7 :: 8 :: 9 :: 10 :: 11 :: 12 :: 13 :: 14 :: 15 :: []) [14] hR mixed (by kernel_rfl) ?_; (try clear hF); clear hR; (repeat (first | (refine dc_ld_own rfl rfl rfl rfl hO CtxI.out rfl (by exact inferInstance) (by exact rfl) Hl4.out Hv.out (by simp only [Act.put, List.setIfInBounds_toArray, List.set_cons_zero, List.set_cons_succ, ldW, if_true, Bool.false_eq_true, if_false, List.headD_cons]; exact rfl) ?_) | (refine dk ?_; intro B) | (refine dk_call0 (fun w hR => ?_); first | (go_at_call 24; refine (compare_r_w r.lo cur.hi).mono ?_; rintro e w' ⟨rfl, hb⟩; refine ⟨_, rfl, hb, dn ?_⟩; clear hR hb)))); refine dc_nil ?_; intro w hR; have hF := hR.fx; try simp only [List.drop_succ_cons, List.drop_zero]
              go_upto_region 18 with (first | (refine wl_ld hR ?_) | (refine wl_st hR ?_; (try clear hF); clear hR; intro w hR; have hF := hR.fx) | (refine wl_mem hR ?_; (try clear hF); clear hR; intro w B hR; have hF := hR.fx))
              refine wp_region_C 17 (0 :: 1 :: 2 :: 3 :: 4 :: 5 :: 6 :: 7 :: 8 :: 9 :: 10 :: 11 :: 12 :: 13 :: 14 :: 15 :: 16 :: []) [14] hR mixed (by kernel_rfl) ?_; (try clear hF); clear hR; (repeat (first | (refine dc_ld_own rfl rfl rfl rfl hO CtxI.out rfl (by exact inferInstance) (by exact rfl) Hl4.out Hv.out (by simp only [Act.put, List.setIfInBounds_toArray, List.set_cons_zero, List.set_cons_succ, ldW, if_true, Bool.false_eq_true, if_false, List.headD_cons]; exact rfl) ?_) | (refine dk ?_; intro B) | (refine dk_call0 (fun w hR => ?_); first | (go_at_call 52; refine (greatest_r_v cur.hi r.hi).mono ?_; rintro e w' ⟨rfl, hb⟩; refine ⟨_, rfl, hb, dn ?_⟩; clear hR hb)))); refine dc_nil ?_; intro w hR; have hF := hR.fx; try simp only [List.drop_succ_cons, List.drop_zero]
              go_wp2_with (first | (refine wpList_st_os hR rfl rfl rfl hO CtxI.out rfl rfl (by exact inferInstance) Hl4.out (by exact rfl) ?_; (try clear hF); clear hR; intro sl w hO hR; (try simp only [List.cons_append, List.nil_append] at hR); have hF := hR.fx) | (refine wl_ld hR ?_) | (refine wl_st hR ?_; (try clear hF); clear hR; intro w hR; have hF := hR.fx) | (refine wl_mem hR ?_; (try clear hF); clear hR; intro w B hR; have hF := hR.fx))
              have hst : stL (d * 4 + 2) [.string (greater cur.hi r.hi).key, .bool (greater cur.hi r.hi).top] (rvals (done ++ [cur])) = rvals (done ++ [⟨cur.lo, greater cur.hi r.hi⟩]) := by
                rw [stL_rvals_hi _ _ _ cur (by rw [← hd]; simp), ← hd]; simp
              rw [hst] at hO
              go_roundw
              case rel => exact ⟨k + 1, _, sl, by go_num, by omega, by simpa [hd] using hO, Hg, Lib.hid (by simp [hd]; omega), by simpa only [List.append_nil] using hR.sub sub_any sub_any⟩
              case measure => simp [intOf] <;> omega
            · have Hg : Hid (Mrg ((done ++ [cur]) ++ [r]) (out.drop (k + 1)) tot) := Lib.hid (.inr ⟨done ++ [cur], r, rfl, by rw [← htot, Hd.out, mrg_next hj, List.append_assoc]; rfl⟩)
              clear hM htot Hd
              go_upto_region 17 with (first | (refine wl_ld hR ?_) | (refine wl_st hR ?_; (try clear hF); clear hR; intro w hR; have hF := hR.fx) | (refine wl_mem hR ?_; (try clear hF); clear hR; intro w B hR; have hF := hR.fx))
              refine wp_region_C 16 (0 :: 1 :: 2 :: 3 :: 4 :: 5 :: 6 :: 7 :: 8 :: 9 :: 10 :: 11 :: 12 :: 13 :: 14 :: 15 :: []) [14] hR mixed (by kernel_rfl) ?_; (try clear hF); clear hR; (repeat (first | (refine dc_ld_own rfl rfl rfl rfl hO CtxI.out rfl (by exact inferInstance) (by exact rfl) Hl4.out Hv.out (by simp only [Act.put, List.setIfInBounds_toArray, List.set_cons_zero, List.set_cons_succ, ldW, if_true, Bool.false_eq_true, if_false, List.headD_cons]; exact rfl) ?_) | (refine dk ?_; intro B) | (refine dk_call0 (fun w hR => ?_); first | (go_at_call 24; refine (compare_r_w r.lo cur.hi).mono ?_; rintro e w' ⟨rfl, hb⟩; refine ⟨_, rfl, hb, dn ?_⟩; clear hR hb)))); refine dc_nil ?_; intro w hR; have hF := hR.fx; try simp only [List.drop_succ_cons, List.drop_zero]
              go_wp2_with (first | (refine wl_append hR rfl rfl rfl rfl rfl (hO) (At.rd hR UpI.at rfl) ?_; (try clear hF); clear hR; intro v sl w hO hR; have hF := hR.fx) | (refine wl_ld hR ?_) | (refine wl_st hR ?_; (try clear hF); clear hR; intro w hR; have hF := hR.fx) | (refine wl_mem hR ?_; (try clear hF); clear hR; intro w B hR; have hF := hR.fx))
              go_roundw
              case rel => exact ⟨k + 1, (done ++ [cur]) ++ [r], sl, by go_num, by omega, by simpa [hd, rvals, Rng.vals] using hO, Hg, Lib.hid (by simp [hd]; omega), hR.sub sub_any sub_any⟩
              case measure => simp [intOf] <;> omega
        · obtain rfl : k = m := by omega
          have hf : os = tot := by
            rcases hM.out with ⟨h1, h2⟩ | ⟨done, cur, h1, h2⟩
            · rw [h1, ← h2, List.drop_eq_nil_of_le (by rw [Hm.out]; exact Nat.le_refl _)]; rfl
            · rw [h1, ← h2, List.drop_eq_nil_of_le (by rw [Hm.out]; exact Nat.le_refl _)]; rfl
          subst hf
          go_wp2_with (first | (refine wl_ld hR ?_) | (refine wl_st hR ?_; (try clear hF); clear hR; intro w hR; have hF := hR.fx) | (refine wl_mem hR ?_; (try clear hF); clear hR; intro w B hR; have hF := hR.fx))
          go_ret
          exact ⟨_, _, rfl, hO, hR.back hk1⟩
end Go.Proofs.YtlbnhhfaedhgfaaDoor
namespace Go.Proofs.YtlbnhhfaedhgfaaDoor
set_option linter.unusedSimpArgs false
set_option linter.unusedVariables false
open Go.RowKit
attribute [local irreducible] contains emp vld vb vk adj isect hull proper greater lesser greatest least cmp Bnd.lt Op.bytesLess Calls Oper.wp wpList Code.wp Oper.upon

theorem bytesRow_cell {p : ByteArray} {c i : Nat} (hi : i < p.toList.length) : (bytesRow p c)[i]? = some (.int .u8 (p.toList[i].toNat : Int)) := by
  have h : i < p.data.size := by have := hi; rwa [len_toList] at this
  have e : p.toList[i] = p.data[i] := by simp [ByteArray.toList_eq]
  rw [e, ← Array.getElem?_toList]
  simp only [bytesRow, Array.toList_append, Array.toList_map, Array.toList_replicate]
  rw [List.getElem?_append_left (by simpa using h), List.getElem?_map]
  simp only [Array.getElem?_toList, Array.getElem?_eq_getElem h, Option.map_some]
theorem cell_new (w : World) (C : Array Value) (T : TypeId) (f : Nat × Nat) (i : Nat) : (w.alloc (.cells C T f)).cell? ⟨w.heap.size, i, none⟩ = C[i]? := by
  unfold World.alloc World.cell?; simp only [Array.getElem?_push_size]; rfl
theorem frozen_new (w : World) (C : Array Value) (T : TypeId) (a b i : Nat) : (w.alloc (.cells C T (a, b))).frozen? ⟨w.heap.size, i, none⟩ = decide (a ≤ i ∧ i < b) := by
  unfold World.alloc World.frozen?; simp only [Array.getElem?_push_size]; simp

structure ByB (w : World) (b : Nat) (l : List UInt8) : Prop where
  lt : b < w.heap.size
  cell : ∀ i (h : i < l.length), w.cell? ⟨b, i, none⟩ = some (.int .u8 (l[i].toNat : Int))
  fz : ∀ i, i < l.length → w.frozen? ⟨b, i, none⟩ = false
theorem Rep.aside {w0 w : World} {X : Fr} {R : List Win} {S : List OB} (h : Rep w0 X R S w) {b o : Nat} (hb : w0.heap.size ≤ b) (hS : ∀ e ∈ S, e.b ≠ b) (v : Value) : Rep w0 X R S (w.setCell ⟨b, o, none⟩ v) := by
  have hk : ∀ k, k ≠ b → (w.setCell ⟨b, o, none⟩ v).heap[k]? = w.heap[k]? := fun k hk => Below.heap_setCell _ _ _ _ (by simpa using hk)
  refine ⟨⟨h.kp.os, h.kp.tape, h.kp.output, by simpa [World.setCell] using h.kp.size, fun i hi hx => ?_⟩, fun e he => ?_, h.ne, h.new, h.win, ?_, h.js, h.xl⟩
  · rw [hk i (by omega)]; exact h.kp.block i hi hx
  · rw [hk e.b (hS e he)]; exact h.own e he
  · exact h.js w _ h.j fun k hk' => hk k (by omega)

set_option maxRecDepth 100000 in
set_option maxHeartbeats 4000000 in
theorem prefix_p {p : ByteArray} {w : World} :
    Calls Tryd.prog 70 #[.string p] w fun e w' => ∃ m : Rng, e = .returned (.agg #[.string m.lo.key, .bool m.lo.top, .string m.hi.key, .bool m.hi.top]) ∧ Hid (m = pfx p) ∧ Kp [] w w' := by
  have kc := fun (w : World) => run_bytes_of_string (P := Tryd.prog) w 9 88 5 p Tryd.underlying9 Tryd.underlying88 Tryd.underlying5
  go_enter Tryd.func70, Tryd.ntmps70
  have hR := Rep.refl w
  generalize w = w0 at hR
  cases hv : vk p
  · go_wp2_with (first | (refine wl_ld hR ?_) | (refine wl_st hR ?_; (try clear hF); clear hR; intro w hR; have hF := hR.fx) | (refine wl_mem hR ?_; (try clear hF); clear hR; intro w B2 hR; have hF := hR.fx) | (go_at_call 55; refine (validKey_p).mono ?_; rintro e w ⟨rfl, rfl⟩))
    (exact ret_cell hR Tryd.results70 rfl UpI.at (by exact inferInstance) rfl ⟨zr, rfl, by simp [Hid, pfx, hv], hR.kp_nof⟩)
  · go_upto_region 3 with (first | (refine wl_ld hR ?_) | (refine wl_st hR ?_; (try clear hF); clear hR; intro w hR; have hF := hR.fx) | (refine wl_mem hR ?_; (try clear hF); clear hR; intro w B2 hR; have hF := hR.fx) | (go_at_call 55; refine (validKey_p).mono ?_; rintro e w ⟨rfl, rfl⟩))
    go_upto_region 5 with (first | (refine wl_ld hR ?_) | (refine wl_st hR ?_; (try clear hF); clear hR; intro w hR; have hF := hR.fx) | (refine wl_mem hR ?_; (try clear hF); clear hR; intro w B3 hR; have hF := hR.fx))
    have hW : ∀ n, (bytesRow p n).size = p.size + (n - p.size) := fun n => by simp only [bytesRow, Array.size_append, Array.size_map, Array.size_replicate]; rfl
    have hcap := grownCap_ge w p.size 0 5
    generalize grownCap w p.size 0 5 = c at hcap ⊢
    refine nameWorld (fun W1 => Rep w0 nof [] [⟨B3, 38, [.string p, .bool false, .string ⟨#[]⟩, .bool true]⟩, ⟨B2, 38, [.string ⟨#[]⟩, .bool false, .string ⟨#[]⟩, .bool false]⟩] W1 ∧ ByB W1 w.heap.size p.toList ∧ w0.heap.size ≤ w.heap.size ∧ B3 < w.heap.size ∧ B2 < w.heap.size) ?_ ?_
    · have hk2 : Kp [] w ((w.alloc (Obj.cells (bytesRow p c) 5 ((bytesRow p c).size, (bytesRow p c).size + 1))).drew) := by (repeat (first | exact Kp.refl _ _ | apply Kp.alloc | apply Kp.drew | apply Kp.drewN | (refine Kp.setCell ?_ (Or.inr (by dsimp only; omega)) _) | (refine Kp.trans ?_ (by assumption))))
      refine ⟨hR.kp0 hk2, ⟨by simp, fun i hi => (cell_new _ _ _ _ i).trans (bytesRow_cell hi), fun i hi => (frozen_new _ _ _ _ _ i).trans (decide_eq_false ?_)⟩, hR.kp.size, hR.lt (List.mem_cons_self), hR.lt (List.mem_cons_of_mem _ List.mem_cons_self)⟩
      rw [hW]; rw [len_toList] at hi; omega
    clear hR hF kc hW
    rintro W1 ⟨hR, hB, hs0, hs3, hs2⟩
    generalize w.heap.size = BB at hB hs0 hs3 hs2 ⊢
    have hpl := len_toList p
    have hps : p.size ≤ 64 := by simpa [vk] using hv
    have hF := hR.fx
    have hc0 : (0 : Int) ≤ (c : Int) := by omega
    go_loop [4] (fun v => ∃ n : Nat, v = .slice (some ⟨BB, 0, none⟩) n c ∧ n ≤ p.size ∧ Hid (upl (p.toList.take n) = upl p.toList)) (fun v => match v with | .slice _ n _ => n | _ => 0)
    case atStart => exact ⟨p.size, rfl, Nat.le_refl _, Lib.hid (by rw [List.take_of_length_le (by omega)])⟩
    case round =>
      obtain ⟨n, rfl, hn, hu⟩ := hrel
      cases n with
      | zero =>
        have hu' := hu.out
        go_wp2_with (first | (refine wl_ld hR ?_) | (refine wl_st hR ?_; (try clear hF); clear hR; intro w hR; have hF := hR.fx) | (refine wl_mem hR ?_; (try clear hF); clear hR; intro w B hR; have hF := hR.fx))
        have hup : pfx p = ⟨⟨p, false⟩, ⟨⟨#[]⟩, true⟩⟩ := by rw [pfx, if_pos hv, upb, ← hu']; rfl
        (exact ret_cell hR Tryd.results70 rfl UpI.at (by exact inferInstance) rfl ⟨pfx p, by rw [hup], rfl, hR.kp_nof⟩)
      | succ m =>
        have hml : m < p.toList.length := by omega
        have hx := hB.cell m hml
        have hz := hB.fz m hml
        have hm0 : (0 : Int) ≤ (m : Int) := by omega
        have hm1 : ((m : Int) + 1 ≤ (c : Int)) := by omega
        by_cases h255 : p.toList[m] = 255
        · rw [h255] at hx
          go_wp2_with (first | (refine wl_ld hR ?_) | (refine wl_st hR ?_; (try clear hF); clear hR; intro w hR; have hF := hR.fx) | (refine wl_mem hR ?_; (try clear hF); clear hR; intro w B hR; have hF := hR.fx))
          have e := List.take_append_getElem hml
          go_round
          case rel => exact ⟨m, rfl, by omega, Lib.hid (by rw [← hu.out, ← e, h255, upl_255])⟩
          case measure => simp
        · have hlast := upl_last (p.toList.take m) h255
          have e := List.take_append_getElem hml
          rw [e, hu.out] at hlast
          have hx2 : p.toList[m].toNat < 255 := by
            have := p.toList[m].toNat_lt
            have : p.toList[m].toNat ≠ 255 := fun e => h255 (UInt8.toNat_inj.1 (by simpa using e))
            omega
          have hbe : ((p.toList[m].toNat : Int) == 255) = false := beq_eq_false_iff_ne.2 (by omega)
          have hx3 : ((p.toList[m].toNat : Int) ≤ 254) := by omega
          have hx4 : (0 : Int) ≤ (p.toList[m].toNat : Int) := by omega
          have Hl := Lib.hid hlast
          clear hlast e hu
          generalize hxm : p.toList[m] = x at hx hx2 hbe hx3 hx4 Hl h255
          have Hxm := Lib.hid hxm
          clear hxm h255 hx2
          go_upto_region 10 with (first | (refine wl_ld hR ?_) | (refine wl_st hR ?_; (try clear hF); clear hR; intro w hR; have hF := hR.fx) | (refine wl_mem hR ?_; (try clear hF); clear hR; intro w B hR; have hF := hR.fx))
          have hlen : (p.toList.take m ++ [x + 1]).length = m + 1 := by simp; omega
          have hxn : (x + 1).toNat = x.toNat + 1 := by rw [UInt8.toNat_add]; have : (1 : UInt8).toNat = 1 := rfl; omega
          refine nameWorld (fun W2 => Rep w0 nof [] [⟨B3, 38, [.string p, .bool false, .string ⟨#[]⟩, .bool true]⟩, ⟨B2, 38, [.string ⟨#[]⟩, .bool false, .string ⟨#[]⟩, .bool false]⟩] W2 ∧ (∀ j (h : j < (p.toList.take m ++ [x + 1]).length), W2.cell? ⟨BB, j, none⟩ = some (.int .u8 ((p.toList.take m ++ [x + 1])[j].toNat : Int)))) ⟨hR.aside hs0 (by simp only [List.mem_cons, List.not_mem_nil, or_false, forall_eq_or_imp, forall_eq]; omega) _, ?_⟩ ?_
          · intro j h
            rw [hlen] at h
            by_cases hjm : j = m
            · subst hjm
              rw [World.cell?_setCell_same (h := hx)]
              rw [List.getElem_append_right (by simp; omega)]
              simp only [List.getElem_singleton, hxn]
              push_cast
              rfl
            · rw [World.cell?_setCell_other (w := W1) (a := ⟨BB, m, none⟩) (b := ⟨BB, j, none⟩) (h := by simp <;> omega), hB.cell j (by omega), List.getElem_append_left (by simp; omega), List.getElem_take]
          clear hR hF hB hx hz
          rintro W2 ⟨hR, hB⟩
          have kb := run_convert_bytes_back (P := Tryd.prog) W2 88 9 5 ⟨BB, 0, none⟩ c (p.toList.take m ++ [x + 1]) Tryd.underlying88 Tryd.underlying5 Tryd.underlying9 (fun j hj => by rw [addr_add, Nat.zero_add]; exact hB j hj)
          rw [hlen] at kb
          have hup : pfx p = ⟨⟨p, false⟩, ⟨⟨(p.toList.take m ++ [x + 1]).toArray⟩, false⟩⟩ := by rw [pfx, if_pos hv, upb, Hl.out]
          generalize p.toList.take m ++ [x + 1] = q at kb hup
          have Hup := Lib.hid hup
          clear hup hB Hl Hxm hbe hx3 hx4 hxn hlen
          have hF := hR.fx
          go_wp2_with (first | (refine wl_ld hR ?_) | (refine wl_st hR ?_; (try clear hF); clear hR; intro w hR; have hF := hR.fx) | (refine wl_mem hR ?_; (try clear hF); clear hR; intro w B hR; have hF := hR.fx))
          (exact ret_cell hR Tryd.results70 rfl UpI.at (by exact inferInstance) rfl ⟨pfx p, by rw [Hup.out], rfl, hR.kp_nof⟩)
end Go.Proofs.YtlbnhhfaedhgfaaDoor
namespace Go.Proofs.YtlbnhhfaedhgfaaDoor
set_option linter.unusedSimpArgs false
set_option linter.unusedVariables false
open Go.RowKit
attribute [local irreducible] contains emp vld vb vk adj isect hull proper greater lesser greatest least cmp Bnd.lt Op.bytesLess Calls Oper.wp wpList Code.wp Oper.upon
theorem dc_conv {P : Program} {L : List Oper} {w0 : World} {X : Fr} {R : List Win} {im : List Nat} {Qf : Act → List OB → Prop} {i : Nat} {r : List Nat} {a a' : Act} {S : List OB} {op : Oper} {s d : TypeId} {x : Operand} {v u : Value}
    (ho : nth L i = some op) (hi : im.contains i = false) (hw : Region.wanted op (yielded L.toArray a.tmps) = true) (hop : op.op = .convert s d x) (hx : a.eval x = v) (hr : ∀ w, Rep w0 X R S w → (convert s d v).run P w = .ok u w) (ha : a.put op.dst u = a')
    (h : DC P L.toArray w0 X R im Qf r a' S) : DC P L.toArray w0 X R im Qf (i :: r) a S := by
  refine dc_read ho hi hw (fun w hR => ?_) ha h
  unfold execOp
  rw [hop]
  simp [hx, hr w hR]
theorem dc_cat {P : Program} {L : List Oper} {w0 : World} {X : Fr} {R : List Win} {im : List Nat} {Qf : Act → List OB → Prop} {i : Nat} {r : List Nat} {a a' : Act} {S : List OB} {op : Oper} {s d : TypeId} {x y : Operand} {s1 s2 : ByteArray}
    (ho : nth L i = some op) (hi : im.contains i = false) (hw : Region.wanted op (yielded L.toArray a.tmps) = true) (hop : op.op = .binOp .add s x y d) (hx : a.eval x = .string s1) (hy : a.eval y = .string s2) (hs : s1.size + s2.size ≤ 9223372036854775807) (ha : a.put op.dst (.string (s1 ++ s2)) = a')
    (h : DC P L.toArray w0 X R im Qf r a' S) : DC P L.toArray w0 X R im Qf (i :: r) a S := by
  refine dc_pure ho hi hw (fun w => ?_) ha h
  unfold execOp
  rw [hop]
  simp [hx, hy, eqGuard, binOp, run_string_add_sum w s1 s2 hs]
theorem conv1 {w : World} {B : Nat} {x : UInt8} {v : Int} (hc : ∀ i, w.cell? ⟨B, i, none⟩ = ([.int .u8 v] : List Value)[i]?) (hv : v = (x.toNat : Int)) : (convert 88 9 (.slice (some ⟨B, 0, none⟩) 1 1)).run Tryd.prog w = .ok (.string ⟨#[x]⟩) w :=
  run_convert_bytes_back (P := Tryd.prog) w 88 9 5 ⟨B, 0, none⟩ 1 [x] Tryd.underlying88 Tryd.underlying5 Tryd.underlying9 fun j hj => by
    obtain rfl : j = 0 := by simp at hj; omega
    rw [addr_add, hc, hv]; rfl
set_option maxRecDepth 100000 in
set_option maxHeartbeats 4000000 in
theorem prefix_r {p : ByteArray} {w : World} :
    Calls Tryd.prog 26 #[.string p] w fun e w' => ∃ m : Rng, e = .returned (.agg #[.string m.lo.key, .bool m.lo.top, .string m.hi.key, .bool m.hi.top]) ∧ Hid (m = pfx p) ∧ Kp [] w w' := by
  go_enter Tryd.func26, Tryd.ntmps26
  have hR := Rep.refl w
  generalize w = w0 at hR
  cases hv : vk p
  · go_wp2_with (first | (refine wl_ld hR ?_) | (refine wl_st hR ?_; (try clear hF); clear hR; intro w hR; have hF := hR.fx) | (refine wl_mem hR ?_; (try clear hF); clear hR; intro w B2 hR; have hF := hR.fx) | (go_at_call 51; refine (validKey_r).mono ?_; rintro e w ⟨rfl, rfl⟩))
    (exact ret_cell hR Tryd.results26 rfl UpI.at (by exact inferInstance) rfl ⟨zr, rfl, by simp [Hid, pfx, hv], hR.kp_nof⟩)
  · go_wp2_with (first | (refine wl_ld hR ?_) | (refine wl_st hR ?_; (try clear hF); clear hR; intro w hR; have hF := hR.fx) | (refine wl_mem hR ?_; (try clear hF); clear hR; intro w B2 hR; have hF := hR.fx) | (go_at_call 51; refine (validKey_r).mono ?_; rintro e w ⟨rfl, rfl⟩))
    have hpl := len_toList p
    have hps : p.size ≤ 64 := by simpa [vk] using hv
    go_loopw [3] (fun v wr => ∃ n : Nat, v = .int .i64 n ∧ n ≤ p.size ∧ Hid (upl (p.toList.take n) = upl p.toList) ∧ Rep w0 nof [] [⟨B2, 38, [.string ⟨#[]⟩, .bool false, .string ⟨#[]⟩, .bool false]⟩] wr) (fun v _ => (intOf v).toNat)
    case atStart => exact ⟨p.size, rfl, Nat.le_refl _, Lib.hid (by rw [List.take_of_length_le (by omega)]), hR⟩
    case round =>
      obtain ⟨n, rfl, hn, hu, hR⟩ := hrel
      have hF := hR.fx
      cases n with
      | zero =>
        have hu' := hu.out
        go_wp2_with (first | (refine wl_ld hR ?_) | (refine wl_st hR ?_; (try clear hF); clear hR; intro w hR; have hF := hR.fx) | (refine wl_mem hR ?_; (try clear hF); clear hR; intro w B hR; have hF := hR.fx))
        have hup : pfx p = ⟨⟨p, false⟩, ⟨⟨#[]⟩, true⟩⟩ := by rw [pfx, if_pos hv, upb, ← hu']; rfl
        (exact ret_cell hR Tryd.results26 rfl UpI.at (by exact inferInstance) rfl ⟨pfx p, by rw [hup], rfl, hR.kp_nof⟩)
      | succ m =>
        have hml : m < p.toList.length := by omega
        have hm0 : (0 : Int) ≤ (m : Int) := by omega
        have hm1 : ((m : Int) < (p.size : Int)) := by omega
        have hm2 : m < p.size := by omega
        have hm3 : ((m : Int) ≤ (p.size : Int)) := by omega
        have hmp : (0 : Int) < (m : Int) + 1 := by omega
        have hwr : IntKind.i64.wrap (m : Int) = m := IntWalk.i64_in _ (by omega)
        have hpm : p[m] = p.toList[m] := by simp [ByteArray.toList_eq]; rfl
        have e := List.take_append_getElem hml
        by_cases h255 : p.toList[m] = 255
        · have hb : ((p[m].toNat : Int) == 255) = true := by rw [hpm, h255]; rfl
          clear hpm
          go_wp2_with (first | (refine wl_ld hR ?_) | (refine wl_st hR ?_; (try clear hF); clear hR; intro w hR; have hF := hR.fx) | (refine wl_mem hR ?_; (try clear hF); clear hR; intro w B hR; have hF := hR.fx))
          go_roundw
          case rel => exact ⟨m, rfl, by omega, Lib.hid (by rw [← hu.out, ← e, h255, upl_255]), hR⟩
          case measure => simp [intOf]
        · have hlast := upl_last (p.toList.take m) h255
          rw [e, hu.out] at hlast
          have hx2 : p[m].toNat < 255 := by
            rw [hpm]
            have := p.toList[m].toNat_lt
            have : p.toList[m].toNat ≠ 255 := fun e => h255 (UInt8.toNat_inj.1 (by simpa using e))
            omega
          have hb : ((p[m].toNat : Int) == 255) = false := beq_eq_false_iff_ne.2 (by omega)
          have hx1 : (p[m] + 1).toNat = p[m].toNat + 1 := by rw [UInt8.toNat_add]; have : (1 : UInt8).toNat = 1 := rfl; omega
          have H8 : Hid (((p[m].toNat : Int) + 1) % 256 = ((p[m] + 1).toNat : Int)) := Lib.hid (by rw [hx1]; omega)
          have hup : pfx p = ⟨⟨p, false⟩, ⟨⟨(p.toList.take m ++ [p[m] + 1]).toArray⟩, false⟩⟩ := by rw [pfx, if_pos hv, upb, hlast, hpm]
          have Hup := Lib.hid hup
          clear hup hlast e hu hx1 hpm
          have Hex : Hid ((p.extract 0 m).size + (⟨#[p[m] + 1]⟩ : ByteArray).size ≤ 9223372036854775807) := Lib.hid (by rw [ByteArray.size_extract]; show _ + 1 ≤ _; omega)
          go_upto_region 8 with (first | (refine wl_ld hR ?_) | (refine wl_st hR ?_; (try clear hF); clear hR; intro w hR; have hF := hR.fx) | (refine wl_mem hR ?_; (try clear hF); clear hR; intro w B hR; have hF := hR.fx))
          refine wp_region_C 16 (0 :: 1 :: 2 :: 3 :: 4 :: 5 :: 6 :: 7 :: 8 :: 9 :: 10 :: 11 :: 12 :: 13 :: 14 :: 15 :: []) [11] hR mixed (by kernel_rfl) ?_; (try clear hF); clear hR; (repeat (first | (refine dc_conv (v := .slice (some ⟨B, 0, none⟩) 1 1) rfl rfl rfl rfl rfl (fun w hR => conv1 (B := B) (x := p[m] + 1) (hR.cells List.mem_cons_self) H8.out) (by simp only [Act.put, List.setIfInBounds_toArray, List.set_cons_zero, List.set_cons_succ]; exact rfl) ?_) | (refine dc_cat rfl rfl rfl rfl rfl rfl Hex.out (by simp only [Act.put, List.setIfInBounds_toArray, List.set_cons_zero, List.set_cons_succ]; exact rfl) ?_) | (refine dk ?_; intro B))); refine dc_nil ?_; intro w hR; have hF := hR.fx; try simp only [List.drop_succ_cons, List.drop_zero]
          go_wp2_with (first | (refine wl_ld hR ?_) | (refine wl_st hR ?_; (try clear hF); clear hR; intro w hR; have hF := hR.fx) | (refine wl_mem hR ?_; (try clear hF); clear hR; intro w B hR; have hF := hR.fx))
          have hk : p.extract 0 m ++ (⟨#[p[m] + 1]⟩ : ByteArray) = ⟨(p.toList.take m ++ [p[m] + 1]).toArray⟩ := by
            apply ba_eq
            simp only [ByteArray.toList_eq, ByteArray.data_append, ByteArray.data_extract, Array.toList_append, Array.toList_extract, Nat.sub_zero, List.extract_eq_take_drop, List.drop_zero]
          (exact ret_cell hR Tryd.results26 rfl UpI.at (by exact inferInstance) rfl ⟨pfx p, by rw [Hup.out, ← hk], rfl, hR.kp_nof⟩)
end Go.Proofs.YtlbnhhfaedhgfaaDoor
