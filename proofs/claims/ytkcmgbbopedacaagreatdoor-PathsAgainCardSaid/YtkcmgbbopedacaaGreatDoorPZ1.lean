/-
  Lemmas: Values of a walk, worlds out of sight
-/
import Derived.WalkKit
import Derived.WalkSpells
import Derived.WalkLawsBesides
import Derived.Lib.Hide
import Derived.Deep.Draws
import Derived.StillTail
import Derived.Deep.Quiet
import Derived.Deep.QuietTactic
import Derived.BigQuiet
import Derived.Lib.QuietBelow
import Derived.Laws.Rows
import Derived.Laws.CopyRow
import Derived.Laws.AppendOwn
set_option linter.unusedSimpArgs false
set_option linter.unusedVariables false
namespace Go.Proofs.YtkcmgbbopedacaaGreatDoor
open Go.RowKit
structure Kp (X:List Nat) (w w':World):Prop where
 os:w'.os=w.os
 tape:w'.tape=w.tape
 output:w'.output=w.output
 size:w.heap.size≤w'.heap.size
 block:∀ k,k<w.heap.size→k ∉ X→w'.heap[k]?=w.heap[k]?
theorem Kp.refl (X:List Nat) (w:World):Kp X w w:=⟨rfl,rfl,rfl,Nat.le_refl _,fun _ _ _=>rfl⟩
theorem Kp.trans {X:List Nat} {a b c:World} (h:Kp X a b) (k:Kp X b c):Kp X a c :=
 ⟨k.os.trans h.os,k.tape.trans h.tape,k.output.trans h.output,Nat.le_trans h.size k.size,fun i hi hx=>(k.block i (Nat.lt_of_lt_of_le hi h.size) hx).trans (h.block i hi hx)⟩
theorem Kp.sub {X Y:List Nat} {a b:World} (h:Kp X a b) (hs:∀ k,k<a.heap.size→k ∈ X→k ∈ Y):Kp Y a b :=
 ⟨h.os,h.tape,h.output,h.size,fun k hk hy=>h.block k hk fun hx=>hy (hs k hk hx)⟩
theorem Kp.alloc {X:List Nat} {a w:World} (h:Kp X a w) (o:Obj):Kp X a (w.alloc o) :=
 h.trans ⟨rfl,rfl,rfl,by simp,fun k hk _=>Below.heap_alloc _ _ _ hk⟩
theorem Kp.drew {X:List Nat} {a w:World} (h:Kp X a w):Kp X a w.drew:=⟨h.os,h.tape,h.output,h.size,h.block⟩
theorem Kp.drewN {X:List Nat} {a w:World} (h:Kp X a w) (n:Nat):Kp X a (w.drewN n):=by
 exact h.trans ⟨rfl,rfl,rfl,Nat.le_refl _,fun k _ _=>rfl⟩
theorem Kp.setCell {X:List Nat} {a w:World} (h:Kp X a w) {p:Addr} (hp:p.block ∈ X∨a.heap.size≤p.block) (u:Value):Kp X a (w.setCell p u):=by
 refine ⟨h.os,h.tape,h.output,by simpa [World.setCell] using h.size,fun k hk hx=>?_⟩
 rw [Below.heap_setCell _ _ _ _ (by rcases hp with hp | hp; · intro e; subst e; exact hx hp
                                    ·omega)]
 exact h.block k hk hx
theorem Kp.cell {X:List Nat} {w w':World} (h:Kp X w w') {p:Addr} (hp:p.block<w.heap.size) (hx:p.block ∉ X):w'.cell? p=w.cell? p:=World.cell?_of_block (w:=w) (h.block p.block hp hx)
theorem Kp.frozen {X:List Nat} {w w':World} (h:Kp X w w') {p:Addr} (hp:p.block<w.heap.size) (hx:p.block ∉ X):w'.frozen? p=w.frozen? p:=World.frozen?_of_block (w:=w) (h.block p.block hp hx)
theorem Kp.below {w w':World} (h:Kp [] w w'):Below w.heap.size w w':=⟨h.os,h.tape,h.output,h.size,fun k hk=>h.block k hk (by simp)⟩
theorem Zhl {W w1:World} (hb:Kp [] W w1):(∀ b o,b<W.heap.size→w1.cell? ⟨b,o,none⟩=W.cell? ⟨b,o,none⟩)∧(∀ b o,b<W.heap.size→w1.frozen? ⟨b,o,none⟩=W.frozen? ⟨b,o,none⟩)∧(∀ b,b<W.heap.size→b<w1.heap.size) :=
 ⟨fun b o h=>hb.cell (p:=⟨b,o,none⟩) h (by simp),fun b o h=>hb.frozen (p:=⟨b,o,none⟩) h (by simp),fun _ h=>Nat.lt_of_lt_of_le h hb.size⟩
theorem Zjt {P:Program} {c:Code} {Q:Exit→Act→World→Prop} {a:Act} {W:World} (F:World→Prop) (hF:F W) (h:∀ W0,F W0→c.wp P Q a W0):c.wp P Q a W:=h W hF
@[simp, go_sem] theorem ZxQ (n : Nat) : (n < n + 1 + 1) = True := by simp; omega
@[simp, go_sem] theorem ZxF (n : Nat) : (n < n + 1 + 1 + 1) = True := by simp; omega
@[simp, go_sem] theorem ZxL (n : Nat) : (n < n + 1 + 1 + 1 + 1) = True := by simp; omega
@[simp, go_sem] theorem ZxC (n : Nat) : (n < n + 1 + 1 + 1 + 1 + 1) = True := by simp; omega
@[simp, go_sem] theorem ZxO (n : Nat) : (n < n + 1 + 1 + 1 + 1 + 1 + 1) = True := by simp; omega
@[simp, go_sem] theorem ZxG (n : Nat) : (n < n + 1 + 1 + 1 + 1 + 1 + 1 + 1) = True := by simp; omega
@[simp, go_sem] theorem ZxP (n : Nat) : (n < n + 1 + 1 + 1 + 1 + 1 + 1 + 1 + 1) = True := by simp; omega
theorem Zch {a b:Bool} (h:a=b):Ending.returned (.bool a)=.returned (.bool b):=by rw [h]
theorem ZkZ {k:IntKind} {a b:Int} (h:a=b):Ending.returned (.int k a)=.returned (.int k b):=by rw [h]
end Go.Proofs.YtkcmgbbopedacaaGreatDoor
namespace Go.Proofs.YtkcmgbbopedacaaGreatDoor
open Go.RowKit Go.Sort
def gr (W0:World) (p:Regrown):World:=grow (redrawn W0 p.d) p.os
theorem ZsI {W0 w:World} (h:Kp [] W0 w):∃ p:Regrown,w=gr W0 p:=regrown_of_below h.below
def ZfC (o:Oper):Oper:=match o.op with | .alloc _=>{ o with op:=.move (.const undef) } | _=>o
def QU (o:Oper):Option TypeId:=match o.op with | .alloc t=>some t | _=>none
def ZoP (ops:Array Oper) (n:Nat) (o:Oper) (k:Nat):Bool :=
 (o.after.all fun e=>!Region.binds .any e || decide (e.on<k)) &&
 ((QU o).isNone || (o.guard.isNone && o.dst.isSome)) &&
 ((List.range n).all fun j=>match ops[j]? with
   | none=>true
   | some oj=>match oj.dst with
    | none=>true
    | some d=>(j == k || o.dst != some d) && (!(o.looksAt ops).contains d || ((QU oj).isNone && o.after.any fun e=>Region.binds .any e && e.on == j)))
def Zek (ops:Array Oper) (o:Oper) (a b:Act):Prop:=∀ t ∈ o.looksAt ops,a.tmps[t]?=b.tmps[t]?
theorem Zek.exec {ops:Array Oper} {o:Oper} {a b:Act} (h:Zek ops o a b) (hs:∀ cs bb,o.op≠.select cs bb):execOp a.eval o=execOp b.eval o:=by
 refine execOp_congr o hs fun x hx=>?_
 cases x with
 | tmp t =>
  have:=h t (List.mem_append_left _ (List.mem_filterMap.2 ⟨.tmp t,by simpa using hx,rfl⟩))
  simp [Act.eval,this]
 | _=>rfl
theorem Zek.wanted {ops:Array Oper} {o:Oper} {a b:Act} (h:Zek ops o a b):Region.wanted o (yielded ops a.tmps)=Region.wanted o (yielded ops b.tmps):=by
 unfold Region.wanted
 cases hg:o.guard with
 | none=>rfl
 | some gw =>
  obtain ⟨g,want⟩:=gw
  have hy:yielded ops a.tmps g=yielded ops b.tmps g:=by
   unfold yielded
   cases ht:(ops[g]?).bind (·.dst) with
   | none=>rfl
   | some t =>
    have:=h t (List.mem_append_right _ (by simp [hg,ht]))
    simp [this]
  simp only [hy]
theorem Zz (a:Act) (o:Option Tmp) (v:Value) (t:Tmp) (h:o≠some t):(a.put o v).tmps[t]?=a.tmps[t]?:=by
 cases o with
 | none=>rfl
 | some d=>exact Array.getElem?_setIfInBounds_ne (fun e=>h (by rw [e]))
def ZlI (P:Program) (w:World) (v:Value):Result Next→Prop
 | .ok (.value u) w'=>w'=w∧u=v
 | .ok .skip w'=>w'=w∧v=undef
 | .ok (.enter f args) w'=>w'=w∧Calls P f args w (fun e w''=>e=.returned v∧Kp [] w w'')
 | _=>False
def Zxn (P:Program) (o:Oper) (a:Act) (W0:World) (v:Value):Prop:=∀ w,(∃ p:Regrown,w=gr W0 p)→ZlI P w v ((execOp a.eval o).run P w)
def qk (P:Program) (o:Oper) (a:Act) (W0:World) (next:Act→Prop):Prop:=∃ v,Zxn P o a W0 v∧next (a.put o.dst v)
def ZxU (P:Program) (ops:Array Oper) (W0:World) (Q:Act→Prop):List Oper→Act→Prop
 | [],a=>Q a
 | o::rest,a=>if Region.wanted o (yielded ops a.tmps) then qk P o a W0 (ZxU P ops W0 Q rest) else ZxU P ops W0 Q rest (a.put o.dst undef)
attribute [go_sem] qk Zxn ZlI
def Gives (P:Program) (ops:Array Oper) (W0:World) (o:Oper) (v:Value) (a:Act):Prop :=
 (Region.wanted o (yielded ops a.tmps)=true∧Zxn P o a W0 v)∨(Region.wanted o (yielded ops a.tmps)=false∧v=undef)
theorem Gives.of_same {P:Program} {ops:Array Oper} {W0:World} {o:Oper} {v:Value} {a a':Act} (hy:Gives P ops W0 o v a) (he:execOp a'.eval o=execOp a.eval o)
   (hw:Region.wanted o (yielded ops a'.tmps)=Region.wanted o (yielded ops a.tmps)):Gives P ops W0 o v a':=by
 unfold Gives Zxn at *
 rw [he,hw]
 exact hy
theorem Zlf (o:Oper):(ZfC o).dst=o.dst:=by unfold ZfC; split <;> rfl
theorem ZnG {o:Oper} {T:TypeId} (h:QU o=some T):o.op=.alloc T:=by
 unfold QU at h
 split at h
 ·rename_i t e; rw [e]; simpa using h
 ·cases h
theorem Zld (l:List Oper) (tmps:Array Value) (j:Nat):yielded (l.map ZfC).toArray tmps j=yielded l.toArray tmps j:=by
 unfold yielded
 simp only [List.getElem?_toArray,List.getElem?_map]
 cases l[j]? <;> simp [Zlf]
theorem Zeb (l:List Oper) (o:Oper) (tmps:Array Value):Region.wanted o (yielded (l.map ZfC).toArray tmps)=Region.wanted o (yielded l.toArray tmps):=by
 unfold Region.wanted
 cases o.guard with
 | none=>rfl
 | some gw=>obtain ⟨g,w⟩:=gw; simp [Zld]
theorem Zhc {ops:Array Oper} {n k:Nat} {o:Oper} (h:ZoP ops n o k=true) :
   (∀ e ∈ o.after,Region.binds .any e=true→e.on<k) ∧
   (∀ T,QU o=some T→o.guard=none∧∃ d,o.dst=some d) ∧
   (∀ j oj,j<n→ops[j]?=some oj→∀ d,oj.dst=some d→(j≠k→o.dst≠some d)∧(d ∈ o.looksAt ops→QU oj=none∧∃ e ∈ o.after,Region.binds .any e=true∧e.on=j)):=by
 simp only [ZoP,Bool.and_eq_true] at h
 obtain ⟨⟨h1,h2⟩,h3⟩:=h
 refine ⟨fun e he hb=>?_,fun T hT=>?_,fun j oj hj hoj d hd=>?_⟩
 ·have:=Array.all_eq_true_iff_forall_mem.1 h1 e he
  simpa [hb] using this
 ·simp only [hT,Option.isNone_some,Bool.false_or,Bool.and_eq_true,Option.isNone_iff_eq_none,Option.isSome_iff_exists] at h2
  exact h2
 ·have:=List.all_eq_true.1 h3 j (List.mem_range.2 hj)
  simp only [hoj,hd,Bool.and_eq_true,Bool.or_eq_true,beq_iff_eq,bne_iff_ne,Bool.not_eq_true',Option.isNone_iff_eq_none] at this
  refine ⟨fun hne=>this.1.resolve_left hne,fun hm=>?_⟩
  rcases this.2 with h | h
  ·simp [hm] at h
  ·obtain ⟨e,he,hb⟩:=Array.any_eq_true'.1 h.2
   simp only [Bool.and_eq_true,beq_iff_eq] at hb
   exact ⟨h.1,e,he,hb.1,hb.2⟩
def Boxed (zc:TypeId→Array Value) (W0:World) (b:Act) (w:World) (d:Tmp) (T:TypeId) (B:Nat):Prop :=
 (b.tmps[d]?=if d<b.tmps.size then some (.pointer (some ⟨B,0,none⟩)) else none)∧W0.heap.size≤B∧B<w.heap.size∧w.heap[B]?=some (.cells (zc T) T (0,0))
theorem Boxed.later {zc:TypeId→Array Value} {W0:World} {b b':Act} {w w':World} {d:Tmp} {T:TypeId} {B:Nat} (h:Boxed zc W0 b w d T B) (hs:b'.tmps.size=b.tmps.size) (hd:b'.tmps[d]?=b.tmps[d]?) (hk:Kp [] w w'):Boxed zc W0 b' w' d T B :=
 ⟨by rw [hd,hs]; exact h.1,h.2.1,Nat.lt_of_lt_of_le h.2.2.1 hk.size,by rw [hk.block B h.2.2.1 (by simp)]; exact h.2.2.2⟩
structure Inv (l:List Oper) (n:Nat) (zc:TypeId→Array Value) (W0:World) (A:Act) (listed:Array Bool) (b:Act) (w:World):Prop where
 hi:HeadInv .any l.toArray n listed
 size:b.tmps.size=A.tmps.size
 defers:b.defers=A.defers
 kp:Kp [] W0 w
 un:∀ t,(∀ (k:Nat) (o:Oper),k<n→l[k]?=some o→o.dst≠some t)→b.tmps[t]?=A.tmps[t]?
 got:∀ (k:Nat) (o:Oper),k<n→l[k]?=some o→QU o=none→listed.getD k false=true→∀ d,o.dst=some d→b.tmps[d]?=A.tmps[d]?
 al:∃ Bs:Nat→Nat,(∀ (k:Nat) (o:Oper) T d,k<n→l[k]?=some o→QU o=some T→o.dst=some d→listed.getD k false=true→Boxed zc W0 b w d T (Bs k)) ∧
  (∀ (k k':Nat) (o o':Oper),k<n→k' < n→l[k]?=some o→l[k']?=some o'→QU o≠none→QU o'≠none→listed.getD k false=true→listed.getD k' false=true→k≠k'→Bs k≠Bs k')
theorem XY (a:Act) (o:Option Tmp) (v:Value):(a.put o v).tmps.size=a.tmps.size:=by cases o <;> simp [Act.put]
theorem put_defers (a:Act) (o:Option Tmp) (v:Value):(a.put o v).defers=a.defers:=by cases o <;> rfl
theorem Zbl (a:Act) (d:Tmp) (v:Value):(a.put (some d) v).tmps[d]?=if d<a.tmps.size then some v else none:=by simp [Act.put,Array.getElem?_setIfInBounds]
theorem ZY {listed:Array Bool} {i j:Nat} (h:(listed.setIfInBounds i true).getD j false=true) (hne:i≠j):listed.getD j false=true:=by
 rwa [getD_set_ne false hne] at h
section
variable {P:Program} {l:List Oper} {n:Nat} {zc:TypeId→Array Value} {W0:World} {A:Act} {listed:Array Bool} {b:Act} {w:World} {Q:Exit→Act→World→Prop}
theorem Inv.step (hchk:∀ k o,k<n→l[k]?=some o→ZoP l.toArray n o k=true) (hns:Region.noSelect l.toArray=true)
   (hz:∀ o ∈ l,∀ T,o.op=.alloc T→∀ ρ w,(execOp ρ o).run P w=.ok (.value (.pointer (some ⟨w.heap.size,0,none⟩))) (w.alloc (.cells (zc T) T)))
   (hall:∀ (k:Nat) (o:Oper),k<n→l[k]?=some o→QU o=none→∃ v,Gives P (l.map ZfC).toArray W0 o v A∧∀ d,o.dst=some d→A.tmps[d]?=if d<A.tmps.size then some v else none)
   (inv:Inv l n zc W0 A listed b w) {i:Nat} (hi:i ∈ Region.ready .any l.toArray listed) (hin:i<n) :
   wpOp P l.toArray Q i (fun b' w'=>Inv l n zc W0 A (listed.setIfInBounds i true) b' w') b w:=by
 obtain ⟨hun,o,ho,hdep⟩:=mem_ready.1 hi
 have ho':l[i]?=some o:=by simpa using ho
 have hd:=Zhc (hchk i o hin ho')
 have later:∀ (v:Value) (w':World),Kp [] w w'→(∀ k o',k<n→l[k]?=some o'→k≠i→∀ d,o'.dst=some d→o.dst≠some d) →
    (QU o=none→∀ d,o.dst=some d→(b.put o.dst v).tmps[d]?=A.tmps[d]?) →
    (∀ T d,QU o=some T→o.dst=some d→Boxed zc W0 (b.put o.dst v) w' d T w.heap.size) →
    Inv l n zc W0 A (listed.setIfInBounds i true) (b.put o.dst v) w':=by
  intro v w' hk hne hgot hbox
  obtain ⟨Bs,hB,hBne⟩:=inv.al
  refine ⟨inv.hi.set hi hin,by rw [XY]; exact inv.size,by rw [put_defers]; exact inv.defers,inv.kp.trans hk,fun t ht=>?_,fun k o' hkn hko hka hkl d hd'=>?_,?_⟩
  ·rw [Zz b o.dst v t (ht i o hin ho')]; exact inv.un t ht
  ·by_cases hki:k=i
   ·subst hki
    obtain rfl:o'=o:=Option.some.inj (hko.symm.trans ho')
    exact hgot hka d hd'
   ·rw [Zz b o.dst v d (hne k o' hkn hko hki d hd')]
    exact inv.got k o' hkn hko hka (ZY hkl (Ne.symm hki)) d hd'
  ·refine ⟨fun k=>if k=i then w.heap.size else Bs k,fun k o' T d hkn hko hka hd' hkl=>?_,fun k k' o1 o2 hkn hkn' hko hko' ha ha' hkl hkl' hne'=>?_⟩
   ·by_cases hki:k=i
    ·subst hki
     obtain rfl:o'=o:=Option.some.inj (hko.symm.trans ho')
     simp only [if_true]
     exact hbox T d hka hd'
    ·simp only [if_neg hki]
     exact (hB k o' T d hkn hko hka hd' (ZY hkl (Ne.symm hki))).later (XY _ _ _) (Zz b o.dst v d (hne k o' hkn hko hki d hd')) hk
   ·have old:∀ k o1,k<n→l[k]?=some o1→QU o1≠none→k≠i→(listed.setIfInBounds i true).getD k false=true→Bs k<w.heap.size:=fun k o1 hkn hko ha hki hkl=>by
      cases hT:QU o1 with
      | none=>exact absurd hT ha
      | some T =>
       obtain ⟨-,d,hd'⟩:=(Zhc (hchk k o1 hkn hko)).2.1 T hT
       exact (hB k o1 T d hkn hko hT hd' (ZY hkl (Ne.symm hki))).2.2.1
    by_cases hki:k=i
    ·have hk'i:k'≠i:=fun e=>hne' (hki.trans e.symm)
     simp only [if_pos hki,if_neg hk'i]
     have:=old k' o2 hkn' hko' ha' hk'i hkl'
     omega
    ·by_cases hk'i:k'=i
     ·simp only [if_neg hki,if_pos hk'i]
      have:=old k o1 hkn hko ha hki hkl
      omega
     ·simp only [if_neg hki,if_neg hk'i]
      exact hBne k k' o1 o2 hkn hkn' hko hko' ha ha' (ZY hkl (Ne.symm hki)) (ZY hkl' (Ne.symm hk'i)) hne'
 have hne:∀ k o',k<n→l[k]?=some o'→k≠i→∀ d,o'.dst=some d→o.dst≠some d:=fun k o' hkn hko hki d hd'=>(hd.2.2 k o' hkn (by simpa using hko) d hd').1 hki
 unfold wpOp
 simp only [ho]
 cases hT:QU o with
 | some T =>
  obtain ⟨hg,d,hdst⟩:=hd.2.1 T hT
  have hw:Region.wanted o (yielded l.toArray b.tmps)=true:=by simp [Region.wanted,hg]
  simp only [hw,if_true]
  refine .inl ?_
  unfold Oper.wp
  rw [hz o (List.mem_of_getElem? ho') T (ZnG hT)]
  simp only [Oper.upon]
  refine later _ _ ((Kp.refl _ _).alloc _) hne (fun h=>by rw [hT] at h; cases h) (fun T' d' hT' hd'=>?_)
  obtain rfl:T=T':=Option.some.inj (hT.symm.trans hT')
  rw [hd']
  exact ⟨by rw [Zbl,XY],inv.kp.size,by simp,heap_alloc_new w _⟩
 | none =>
  obtain ⟨v,hy,hA⟩:=hall i o hin ho' hT
  have hag:Zek l.toArray o b A:=fun t ht=>by
   by_cases hex:∃ (k:Nat) (o':Oper),k<n∧l[k]?=some o'∧o'.dst=some t
   ·obtain ⟨k,o',hkn,hko,hkd⟩:=hex
    obtain ⟨hna,e,he,hb,hon⟩:=(hd.2.2 k o' hkn (by simpa using hko) t hkd).2 ht
    have:=hdep e he hb
    rw [hon] at this
    exact inv.got k o' hkn hko hna this t hkd
   ·exact inv.un t fun k o' hkn hko hkd=>hex ⟨k,o',hkn,hko,hkd⟩
  have hsel:∀ cs bb,o.op≠.select cs bb:=fun cs bb=>Region.noSelect_spec hns i o cs bb ho
  have hy':Gives P (l.map ZfC).toArray W0 o v b:=hy.of_same (hag.exec hsel) (by rw [Zeb,Zeb]; exact hag.wanted)
  have fin:∀ w',Kp [] w w'→Inv l n zc W0 A (listed.setIfInBounds i true) (b.put o.dst v) w':=fun w' hk =>
   later v w' hk hne (fun _ d hd'=>by rw [hd',Zbl,hA d hd',inv.size]) (fun T d h=>by rw [hT] at h; cases h)
  rcases hy' with ⟨hw,hv⟩ | ⟨hw,rfl⟩
  ·rw [Zeb] at hw
   simp only [hw,if_true]
   refine .inl ?_
   have h1:=hv w (ZsI inv.kp)
   unfold Oper.wp
   generalize (execOp b.eval o).run P w=r at *
   cases r with
   | ok nx w' =>
    cases nx <;> simp only [ZlI] at h1 <;> simp only [Oper.upon]
    case value u=>obtain ⟨rfl,rfl⟩:=h1; exact fin _ (Kp.refl _ _)
    case skip=>obtain ⟨rfl,rfl⟩:=h1; exact fin _ (Kp.refl _ _)
    case enter f args =>
     obtain ⟨rfl,hc⟩:=h1
     exact hc.mono fun e w'' ⟨he,hk⟩=>by subst he; exact fin _ hk
   | halt x w'=>simp only [ZlI] at h1
  ·rw [Zeb] at hw
   simp only [hw,Bool.false_eq_true,if_false]
   exact fin _ (Kp.refl _ _)
def leftOf (n:Nat) (listed:Array Bool):Nat:=((List.range n).filter fun k=>!listed.getD k false).length
theorem Znh {i:Nat} (hin:i<n) (hsz:i<listed.size) (hun:listed.getD i false=false):leftOf n (listed.setIfInBounds i true)+1=leftOf n listed:=by
 unfold leftOf
 have key:∀ m,m≤n→((List.range m).filter fun k=>!(listed.setIfInBounds i true).getD k false).length+(if i<m then 1 else 0)=((List.range m).filter fun k=>!listed.getD k false).length:=by
  intro m
  induction m with
  | zero=>intro _; simp
  | succ m ih =>
   intro hm
   have:=ih (by omega)
   rw [List.range_succ,List.filter_append,List.filter_append,List.length_append,List.length_append]
   by_cases him:i=m
   ·subst him
    have e1:(listed.setIfInBounds i true).getD i false=true:=by simp [Array.getD,hsz]
    simp only [List.filter_cons,List.filter_nil,e1,hun]
    simp at this ⊢
    omega
   ·have e1:(listed.setIfInBounds i true).getD m false=listed.getD m false:=getD_set_ne false him
    simp only [List.filter_cons,List.filter_nil,e1]
    by_cases h1:i<m
    ·rw [if_pos h1] at this; rw [if_pos (show i<m+1 by omega)]; omega
    ·rw [if_neg h1] at this; rw [if_neg (show ¬ i<m+1 by omega)]; omega
 have:=key n (Nat.le_refl _)
 rw [if_pos hin] at this
 exact this
theorem Zg9 (h:leftOf n listed=0):∀ k,k<n→listed.getD k false=true:=by
 intro k hk
 have h1:=List.eq_nil_of_length_eq_zero h
 have h2:=List.filter_eq_nil_iff.1 h1 k (List.mem_range.2 hk)
 simpa using h2
theorem Zny (h:leftOf n listed≠0):∃ k,k<n∧listed.getD k false=false∧∀ j,j<k→listed.getD j false=true:=by
 have hex:∃ k,k<n∧listed.getD k false=false:=by
  apply Classical.byContradiction
  intro hno
  apply h
  unfold leftOf
  rw [List.length_eq_zero_iff,List.filter_eq_nil_iff]
  intro k hk
  have:=List.mem_range.1 hk
  cases e:listed.getD k false with
  | true=>simp
  | false=>exact absurd ⟨k,this,e⟩ hno
 obtain ⟨k,hk,hf⟩:=hex
 induction k using Nat.strongRecOn with
 | _ k ih =>
  by_cases h':∃ j,j<k∧listed.getD j false=false
  ·obtain ⟨j,hj,hjf⟩:=h'
   exact ih j hj (by omega) hjf
  ·exact ⟨k,hk,hf,fun j hj=>by cases e:listed.getD j false with
    | true=>rfl
    | false=>exact absurd ⟨j,hj,e⟩ h'⟩
theorem Zqe (hh:HeadInv .any l.toArray n listed) (h:leftOf n listed=0):listed=(Array.range l.toArray.size).map fun i=>decide (i<n):=by
 apply Array.ext
 ·simp [hh.size]
 ·intro i h1 h2
  simp only [Array.getElem_map,Array.getElem_range]
  by_cases hi:i<n
  ·have:=Zg9 h i hi
   simp only [Array.getD,h1,dif_pos] at this
   simpa [hi] using this
  ·have:=hh.tail i (by omega) (by rw [← hh.size]; exact h1)
   simp only [Array.getD,h1,dif_pos] at this
   simpa [hi] using this
theorem ZuK {a b:Act} (h1:a.tmps.size=b.tmps.size) (h2:a.defers=b.defers) (h:∀ t:Nat,a.tmps[t]?=b.tmps[t]?):a=b:=by
 obtain ⟨t1,d1⟩:=a
 obtain ⟨t2,d2⟩:=b
 have:t1=t2:=Array.ext_getElem? h
 subst this; subst h2; rfl
end
attribute [irreducible] ZxU
end Go.Proofs.YtkcmgbbopedacaaGreatDoor
namespace Go.Proofs.YtkcmgbbopedacaaGreatDoor
open Go.RowKit
inductive D where
 | c (v:Value)
 | l (n:Nat) (xs:List D)
 | m (es:List (Value × Value))
 | fn (f:FuncId) (qs:List (List D))
structure AxE where
 pre:List D
 m:Nat
 inn:List D
 post:List D
inductive V where
 | d (x:D)
 | a (xs:List V)
 | t (xs:List V)
 | p (k o:Nat)
 | e (k o:Nat)
 | h (k:Nat)
 | s (k o n z:Nat)
 | sc (k o n z:Nat)
 | q (xs:List D)
 | mp (k:Nat)
 | hx (k:Nat)
 | ex (k o:Nat)
 | fc (f:FuncId) (xs:List V)
 | ifc (t:TypeId) (x:V)
 | un
inductive Blk where
 | box (T:TypeId) (cs:List V)
 | arr (E:TypeId) (z n:Nat) (cs:List V)
 | ob (o:Obj)
 | mt (ag:Bool) (es:List (Int × List D))
 | hd
 | ax (k E z E2 z2:Nat) (es:List AxE) (ho:Option (Nat × Nat))
def mvV (ag:Bool) (ds:List D):V:=bif ag then .a (ds.map .d) else match ds with | [d]=>.d d | _=>.un
inductive Loc where
 | box (b:Nat)
 | arr (v:Value)
 | tr (v:Value) (bs:List Nat)
def Loc.bl:Loc→Nat→Prop
 | .box b,x=>x=b
 | .arr (.slice (some a) _ _),x=>x=a.block
 | .arr _,_=>False
 | .tr _ bs,x=>x ∈ bs
abbrev Lc:=Nat→Option Loc
mutual
inductive RD (w:World) (ok:Nat→Prop):D→Value→Prop
 | c {v:Value}:v.oneCell'=true→RD w ok (.c v) v
 | nil (p:Option Addr) (c:Nat):RD w ok (.l 0 []) (.slice p 0 c)
 | l {n c b o:Nat} {xs:List D} {vs:List Value}:n≤c→n≤maxLen→ok b→RDs w ok xs vs→(∀ j v,vs[j]?=some v→w.cell? ⟨b,o+j,none⟩=some v)→RD w ok (.l n xs) (.slice (some ⟨b,o,none⟩) n c)
 | m {b clock:Nat} {es:List (Value × Value)} {em:Array MapEntry}:ok b→w.heap[b]?=some (.map em clock)→em.toList.map (fun e=>(e.key,e.val))=es→RD w ok (.m es) (.map (some b))
 | fn {f:FuncId} {qs:List (List D)} {vs:List Value}:RQs w ok qs vs→RD w ok (.fn f qs) (.func (.func f) #[] vs.toArray)
inductive RQs (w:World) (ok:Nat→Prop):List (List D)→List Value→Prop
 | nil:RQs w ok [] []
 | cons {b o:Nat} {xs:List D} {us:List Value} {qs:List (List D)} {vs:List Value}:ok b→RDs w ok xs us→(∀ j v,us[j]?=some v→w.cell? ⟨b,o+j,none⟩=some v)→RQs w ok qs vs→RQs w ok (xs::qs) (.pointer (some ⟨b,o,none⟩)::vs)
inductive RDs (w:World) (ok:Nat→Prop):List D→List Value→Prop
 | nil:RDs w ok [] []
 | cons {x:D} {v:Value} {xs:List D} {vs:List Value}:RD w ok x v→RDs w ok xs vs→RDs w ok (x::xs) (v::vs)
end
mutual
inductive RV (w:World) (ok:Nat→Prop) (ρ:Lc):V→Value→Prop
 | d {x:D} {v:Value}:RD w ok x v→RV w ok ρ (.d x) v
 | a {xs:List V} {vs:List Value}:RVs w ok ρ xs vs→RV w ok ρ (.a xs) (.agg vs.toArray)
 | t {xs:List V} {vs:List Value}:RVs w ok ρ xs vs→RV w ok ρ (.t xs) (.tuple vs.toArray)
 | p {k b o:Nat}:ρ k=some (.box b)→RV w ok ρ (.p k o) (.pointer (some ⟨b,o,none⟩))
 | e {k g o n c:Nat}:ρ k=some (.arr (.slice (some ⟨g,0,none⟩) n c))→RV w ok ρ (.e k o) (.pointer (some ⟨g,o,none⟩))
 | h {k n c:Nat} {p:Option Addr}:ρ k=some (.arr (.slice p n c))→RV w ok ρ (.h k) (.slice p n c)
 | s {k g o n z N c:Nat}:ρ k=some (.arr (.slice (some ⟨g,0,none⟩) N c))→o+n≤N→N≤c→RV w ok ρ (.s k o n z) (.slice (some ⟨g,o * z,none⟩) n (c - o))
 | s0 {k o z N c:Nat} {p q:Option Addr}:ρ k=some (.arr (.slice q N c))→c≤o→RV w ok ρ (.s k o 0 z) (.slice p 0 0)
 | sc {k g o n z N c:Nat}:ρ k=some (.arr (.slice (some ⟨g,0,none⟩) N c))→o+n≤N→N≤c→0<n→RV w ok ρ (.sc k o n z) (.slice (some ⟨g,o * z,none⟩) n n)
 | sc0 {k o z:Nat} {p:Option Addr}:RV w ok ρ (.sc k o 0 z) (.slice p 0 0)
 | q {b o:Nat} {xs:List D} {vs:List Value}:ok b→RDs w ok xs vs→(∀ j v,vs[j]?=some v→w.cell? ⟨b,o+j,none⟩=some v)→RV w ok ρ (.q xs) (.pointer (some ⟨b,o,none⟩))
 | mp {k b:Nat}:ρ k=some (.box b)→RV w ok ρ (.mp k) (.map (some b))
 | hx {k n c:Nat} {p:Option Addr} {bs:List Nat}:ρ k=some (.tr (.slice p n c) bs)→RV w ok ρ (.hx k) (.slice p n c)
 | ex {k g o n c:Nat} {bs:List Nat}:ρ k=some (.tr (.slice (some ⟨g,0,none⟩) n c) bs)→RV w ok ρ (.ex k o) (.pointer (some ⟨g,o,none⟩))
 | fc {f:FuncId} {xs:List V} {vs:List Value}:RVs w ok ρ xs vs→RV w ok ρ (.fc f xs) (.func (.func f) #[] vs.toArray)
 | ifc {t:TypeId} {x:V} {v:Value}:RV w ok ρ x v→RV w ok ρ (.ifc t x) (.iface t v)
 | un {v:Value}:RV w ok ρ .un v
inductive RVs (w:World) (ok:Nat→Prop) (ρ:Lc):List V→List Value→Prop
 | nil:RVs w ok ρ [] []
 | cons {x:V} {v:Value} {xs:List V} {vs:List Value}:RV w ok ρ x v→RVs w ok ρ xs vs→RVs w ok ρ (x::xs) (v::vs)
end
def Stl (w w':World) (ok ok':Nat→Prop):Prop:=∀ b,ok b→ok' b∧w'.heap[b]?=w.heap[b]?
theorem Stl.cell {w w':World} {ok ok':Nat→Prop} (h:Stl w w' ok ok') {b:Nat} (hb:ok b) (i:Nat):w'.cell? ⟨b,i,none⟩=w.cell? ⟨b,i,none⟩:=World.cell?_of_block (w:=w) (h b hb).2
mutual
theorem RD.mono {w w':World} {ok ok':Nat→Prop} (hs:Stl w w' ok ok'):∀ {x:D} {v:Value},RD w ok x v→RD w' ok' x v
 | _,_,.c h=>.c h
 | _,_,.nil p c=>.nil p c
 | _,_,.l h1 h0 h2 h3 h4=>.l h1 h0 (hs _ h2).1 (RDs.mono hs h3) fun j v hv=>by rw [hs.cell h2]; exact h4 j v hv
 | _,_,.m h1 h2 h3=>.m (hs _ h1).1 (by rw [(hs _ h1).2]; exact h2) h3
 | _,_,.fn h=>.fn (RQs.mono hs h)
theorem RQs.mono {w w':World} {ok ok':Nat→Prop} (hs:Stl w w' ok ok'):∀ {qs:List (List D)} {vs:List Value},RQs w ok qs vs→RQs w' ok' qs vs
 | _,_,.nil=>.nil
 | _,_,.cons h1 h2 h3 h4=>.cons (hs _ h1).1 (RDs.mono hs h2) (fun j v hv=>by rw [hs.cell h1]; exact h3 j v hv) (RQs.mono hs h4)
theorem RDs.mono {w w':World} {ok ok':Nat→Prop} (hs:Stl w w' ok ok'):∀ {xs:List D} {vs:List Value},RDs w ok xs vs→RDs w' ok' xs vs
 | _,_,.nil=>.nil
 | _,_,.cons h1 h2=>.cons (RD.mono hs h1) (RDs.mono hs h2)
end
def Ext (ρ ρ':Lc):Prop:=∀ k l,ρ k=some l→ρ' k=some l
mutual
theorem RV.mono {w w':World} {ok ok':Nat→Prop} {ρ ρ':Lc} (hs:Stl w w' ok ok') (he:Ext ρ ρ'):∀ {x:V} {v:Value},RV w ok ρ x v→RV w' ok' ρ' x v
 | _,_,.d h=>.d (h.mono hs)
 | _,_,.a h=>.a (RVs.mono hs he h)
 | _,_,.t h=>.t (RVs.mono hs he h)
 | _,_,.p h=>.p (he _ _ h)
 | _,_,.e h=>.e (he _ _ h)
 | _,_,.h h=>.h (he _ _ h)
 | _,_,.s h h2 h3=>.s (he _ _ h) h2 h3
 | _,_,.s0 h h2=>.s0 (he _ _ h) h2
 | _,_,.sc h h2 h3 h4=>.sc (he _ _ h) h2 h3 h4
 | _,_,.sc0=>.sc0
 | _,_,.q h1 h2 h3=>.q (hs _ h1).1 (h2.mono hs) fun j v hv=>by rw [hs.cell h1]; exact h3 j v hv
 | _,_,.mp h=>.mp (he _ _ h)
 | _,_,.hx h=>.hx (he _ _ h)
 | _,_,.ex h=>.ex (he _ _ h)
 | _,_,.fc h=>.fc (RVs.mono hs he h)
 | _,_,.ifc h=>.ifc (RV.mono hs he h)
 | _,_,.un=>.un
theorem RVs.mono {w w':World} {ok ok':Nat→Prop} {ρ ρ':Lc} (hs:Stl w w' ok ok') (he:Ext ρ ρ'):∀ {xs:List V} {vs:List Value},RVs w ok ρ xs vs→RVs w' ok' ρ' xs vs
 | _,_,.nil=>.nil
 | _,_,.cons h1 h2=>.cons (RV.mono hs he h1) (RVs.mono hs he h2)
end
section
variable {w:World} {ok:Nat→Prop} {ρ:Lc}
theorem RDs.length:∀ {xs:List D} {vs:List Value},RDs w ok xs vs→vs.length=xs.length
 | _,_,.nil=>rfl
 | _,_,.cons _ h=>by simp [RDs.length h]
theorem RVs.length:∀ {xs:List V} {vs:List Value},RVs w ok ρ xs vs→vs.length=xs.length
 | _,_,.nil=>rfl
 | _,_,.cons _ h=>by simp [RVs.length h]
theorem RDs.get:∀ {xs:List D} {vs:List Value},RDs w ok xs vs→∀ {j:Nat} {x:D},xs[j]?=some x→∃ v,vs[j]?=some v∧RD w ok x v
 | _,_,.nil,j,x,h=>by simp at h
 | _,_,.cons h1 h2,0,x,h=>by simp at h; subst h; exact ⟨_,rfl,h1⟩
 | _,_,.cons h1 h2,j+1,x,h=>by simpa using h2.get (by simpa using h)
theorem RVs.get:∀ {xs:List V} {vs:List Value},RVs w ok ρ xs vs→∀ {j:Nat} {x:V},xs[j]?=some x→∃ v,vs[j]?=some v∧RV w ok ρ x v
 | _,_,.nil,j,x,h=>by simp at h
 | _,_,.cons h1 h2,0,x,h=>by simp at h; subst h; exact ⟨_,rfl,h1⟩
 | _,_,.cons h1 h2,j+1,x,h=>by simpa using h2.get (by simpa using h)
theorem RDs.append:∀ {xs ys:List D} {vs us:List Value},RDs w ok xs vs→RDs w ok ys us→RDs w ok (xs++ys) (vs++us)
 | _,_,_,_,.nil,h=>h
 | _,_,_,_,.cons h1 h2,h=>.cons h1 (h2.append h)
theorem RVs.append:∀ {xs ys:List V} {vs us:List Value},RVs w ok ρ xs vs→RVs w ok ρ ys us→RVs w ok ρ (xs++ys) (vs++us)
 | _,_,_,_,.nil,h=>h
 | _,_,_,_,.cons h1 h2,h=>.cons h1 (h2.append h)
theorem RDs.take:∀ {xs:List D} {vs:List Value} (n:Nat),RDs w ok xs vs→RDs w ok (xs.take n) (vs.take n)
 | _,_,0,h=>by simpa using RDs.nil
 | _,_,n+1,.nil=>by simpa using RDs.nil
 | _,_,n+1,.cons h1 h2=>by simpa using RDs.cons h1 (h2.take n)
theorem RDs.drop:∀ {xs:List D} {vs:List Value} (n:Nat),RDs w ok xs vs→RDs w ok (xs.drop n) (vs.drop n)
 | _,_,0,h=>by simpa using h
 | _,_,n+1,.nil=>by simpa using RDs.nil
 | _,_,n+1,.cons h1 h2=>by simpa using h2.drop n
theorem RVs.take:∀ {xs:List V} {vs:List Value} (n:Nat),RVs w ok ρ xs vs→RVs w ok ρ (xs.take n) (vs.take n)
 | _,_,0,h=>by simpa using RVs.nil
 | _,_,n+1,.nil=>by simpa using RVs.nil
 | _,_,n+1,.cons h1 h2=>by simpa using RVs.cons h1 (h2.take n)
theorem RVs.drop:∀ {xs:List V} {vs:List Value} (n:Nat),RVs w ok ρ xs vs→RVs w ok ρ (xs.drop n) (vs.drop n)
 | _,_,0,h=>by simpa using h
 | _,_,n+1,.nil=>by simpa using RVs.nil
 | _,_,n+1,.cons h1 h2=>by simpa using h2.drop n
theorem RD.one:∀ {x:D} {v:Value},RD w ok x v→v.oneCell'=true
 | _,_,.c h=>h
 | _,_,.nil _ _=>rfl
 | _,_,.l _ _ _ _ _=>rfl
 | _,_,.m _ _ _=>rfl
 | _,_,.fn _=>rfl
theorem RDs.one:∀ {xs:List D} {vs:List Value},RDs w ok xs vs→vs.all Value.oneCell'=true
 | _,_,.nil=>rfl
 | _,_,.cons h1 h2=>by simp [h1.one,h2.one]
theorem RDs.toV:∀ {xs:List D} {vs:List Value},RDs w ok xs vs→RVs w ok ρ (xs.map .d) vs
 | _,_,.nil=>.nil
 | _,_,.cons h1 h2=>.cons (.d h1) h2.toV
theorem RVs.ofD:∀ {xs:List D} {vs:List Value},RVs w ok ρ (xs.map .d) vs→RDs w ok xs vs
 | [],_,.nil=>.nil
 | _::_,_,.cons (.d h1) h2=>.cons h1 h2.ofD
theorem RDs.pre {xs ys:List D} {vs:List Value} (h:RDs w ok xs vs) (k:Nat) (hy:∀ j y,ys[j]?=some y→xs[k+j]?=some y):∃ us,RDs w ok ys us∧∀ j u,us[j]?=some u→vs[k+j]?=some u:=by
 refine ⟨(vs.drop k).take ys.length,?_,fun j u hu=>?_⟩
 ·have h1:=(h.drop k).take ys.length
  have:(xs.drop k).take ys.length=ys:=by
   apply List.ext_getElem?
   intro j
   rw [List.getElem?_take]
   split
   ·rename_i hj
    rw [List.getElem?_drop,List.getElem?_eq_getElem hj]
    exact hy j _ (List.getElem?_eq_getElem hj)
   ·rename_i hj
    exact (List.getElem?_eq_none (by omega)).symm
  rwa [this] at h1
 ·rw [List.getElem?_take] at hu
  split at hu
  ·simpa using hu
  ·cases hu
end
def look {α:Type}:List (Nat × α)→Nat→Option α
 | [],_=>none
 | (k,v)::r,t=>bif Nat.beq k t then some v else look r t
theorem Zo {α:Type} (k t:Nat) (v:α) (r:List (Nat × α)):look ((k,v)::r) t=if k=t then some v else look r t:=by
 simp only [look]
 by_cases h:k=t
 ·subst h; simp
 ·have:Nat.beq k t=false:=by cases hb:Nat.beq k t; rfl; exact absurd (Nat.eq_of_beq_eq_true hb) h
  simp [h,this]
theorem Yg {α:Type} (t:Nat):∀ (l r:List (Nat × α)),look (l++r) t=(look l t).or (look r t)
 | [],r=>by simp [look]
 | (k,v)::l,r=>by
  rw [List.cons_append,Zo,Zo,Yg t l r]
  split <;> simp
abbrev Hp:=List (Nat × Option Blk)
structure St where
 sl:List (Nat × V)
 hp:Hp
def InR (w:World) (ok:Nat→Prop) (E2 z2 m:Nat) (inn:List D) (sv:Value) (l:List Nat):Prop :=
 (sv=.slice none 0 0∧m=0∧inn=[]∧l=[])∨∃ g cap us sp,sv=.slice (some ⟨g,0,none⟩) m cap∧m≤cap∧cap≤maxLen∧w.heap[g]?=some (.cells (us++sp:List Value).toArray E2 (0,0))∧(us++sp).length=cap * z2∧us.length=m * z2∧us.all Value.oneCell'=true∧RDs w ok inn us∧l=[g]
inductive AxR (w:World) (ok:Nat→Prop) (E2 z2:Nat) (ho:Option Nat):Nat→List AxE→List (List Value)→List Nat→Prop
 | nil (i:Nat):AxR w ok E2 z2 ho i [] [] []
 | cons {i:Nat} {e:AxE} {es:List AxE} {up uq:List Value} {sv:Value} {us:List (List Value)} {l ls:List Nat}:RDs w ok e.pre up→RDs w ok e.post uq→sv.oneCell'=true→(ho=some i→l=[])→(ho≠some i→InR w ok E2 z2 e.m e.inn sv l)→AxR w ok E2 z2 ho (i+1) es us ls→AxR w ok E2 z2 ho i (e::es) ((up++sv::uq)::us) (l++ls)
def HoR (ρ:Lc) (ho:Option (Nat × Nat)) (es:List AxE) (us:List (List Value)):Prop:=∀ m q e r,ho=some (m,q)→es[m]?=some e→us[m]?=some r→∃ sv,r[e.pre.length]?=some sv∧ρ q=some (.arr sv)
theorem HoR.none {ρ:Lc} {es:List AxE} {us:List (List Value)}:HoR ρ none es us:=fun _ _ _ _ h=>by cases h
theorem HoR.mono {ρ ρ':Lc} {ho:Option (Nat × Nat)} {es:List AxE} {us:List (List Value)} (he:Ext ρ ρ') (h:HoR ρ ho es us):HoR ρ' ho es us:=fun m q e r h1 h2 h3=>by
 obtain ⟨sv,h4,h5⟩:=h m q e r h1 h2 h3
 exact ⟨sv,h4,he _ _ h5⟩
def Blk.rel (w:World) (ok:Nat→Prop) (ρ:Lc):Blk→Loc→Prop
 | .box T cs,.box b=>∃ us,w.heap[b]?=some (.cells (List.toArray us) T (0,0))∧us.all Value.oneCell'=true∧RVs w ok ρ cs us
 | .arr E z n cs,.arr v=>(v=.slice none 0 0∧n=0∧cs=[])∨∃ g cap us sp,v=.slice (some ⟨g,0,none⟩) n cap∧n≤cap∧cap≤maxLen∧w.heap[g]?=some (.cells (us++sp:List Value).toArray E (0,0))∧(us++sp).length=cap * z∧us.length=n * z∧us.all Value.oneCell'=true∧RVs w ok ρ cs us
 | .ob o,.box b=>w.heap[b]?=some o
 | .mt ag es,.box b=>∃ em,w.heap[b]?=some (.map em es.length)∧em.toList.map (·.key)=es.map (fun e=>.int .i64 e.1)∧em.toList.map (·.born)=List.range es.length∧RVs w ok ρ (es.map fun e=>mvV ag e.2) (em.toList.map (·.val))
 | .hd,.tr _ bs=>bs=[]
 | .ax k E z E2 z2 es ho,.tr _ bs=>∃ v,ρ k=some (.tr v [])∧((v=.slice none 0 0∧es=[]∧bs=[])∨∃ g cap us sp ls,v=.slice (some ⟨g,0,none⟩) es.length cap∧es.length≤cap∧cap≤maxLen∧w.heap[g]?=some (.cells (us.flatten++sp:List Value).toArray E (0,0))∧(us.flatten++sp).length=cap * z∧(∀ r ∈ us,r.length=z)∧AxR w ok E2 z2 (ho.map Prod.fst) 0 es us ls∧bs=g::ls∧(g::ls).Nodup∧HoR ρ ho es us)
 | _,_=>False
def okb (B:Nat→Prop) (w:World) (ρ:Lc) (b:Nat):Prop:=b<w.heap.size∧B b∧∀ k l,ρ k=some l→¬ l.bl b
def GL:List (Nat × List Value):=[(0,[.string ⟨#[97]⟩,.string ⟨#[98]⟩,.string ⟨#[99]⟩,.string ⟨#[0]⟩,.string ⟨#[255]⟩,.string ⟨#[109]⟩])]
structure HR (B:Nat→Prop) (H:Hp) (ρ:Lc) (w:World):Prop where
 rel:∀ k blk,look H k=some (some blk)→∃ l,ρ k=some l∧blk.rel w (okb B w ρ) ρ l
 inj:∀ k k' blk blk' l l' b,look H k=some (some blk)→look H k'=some (some blk')→ρ k=some l→ρ k'=some l'→l.bl b→l'.bl b→k=k'
 lt:∀ k l b,ρ k=some l→l.bl b→b<w.heap.size
 gl:∀ e ∈ GL,okb B w ρ e.1∧∀ j v,e.2[j]?=some v→w.cell? ⟨e.1,j,none⟩=some v
structure Step (B:Nat→Prop) (H h:Hp) (ρ ρ':Lc) (w w':World):Prop where
 os:w'.os=w.os
 tape:w'.tape=w.tape
 output:w'.output=w.output
 size:w.heap.size≤w'.heap.size
 ext:Ext ρ ρ'
 new:∀ k l,ρ' k=some l→ρ k=some l∨(ρ k=none∧look h k≠none∧∀ b,l.bl b→(w.heap.size≤b∧b<w'.heap.size)∨∃ k0 l0,look h k0=some none∧ρ k0=some l0∧l0.bl b)
 keep:∀ b,b<w.heap.size→(∀ k l,look h k≠none→ρ k=some l→¬ l.bl b)→w'.heap[b]?=w.heap[b]?
 live:∀ k,look h k≠none→ρ k≠none→∃ blk,look H k=some (some blk)
 rel:∀ k blk,look h k=some (some blk)→∃ l,ρ' k=some l∧blk.rel w' (okb B w' ρ') ρ' l
 injh:∀ k k' blk blk' l l' b,look h k=some (some blk)→look h k'=some (some blk')→ρ' k=some l→ρ' k'=some l'→l.bl b→l'.bl b→k=k'
theorem InR.mono {w w':World} {ok ok':Nat→Prop} {E2 z2 m:Nat} {inn:List D} {sv:Value} {l:List Nat} (hs:Stl w w' ok ok') (hb:∀ b ∈ l,w'.heap[b]?=w.heap[b]?):InR w ok E2 z2 m inn sv l→InR w' ok' E2 z2 m inn sv l
 | .inl h=>.inl h
 | .inr ⟨g,cap,us,sp,h1,h2,h3,h4,h5,h6,h7,h8,h9⟩=>.inr ⟨g,cap,us,sp,h1,h2,h3,by rw [hb g (by rw [h9]; exact List.mem_cons_self)]; exact h4,h5,h6,h7,h8.mono hs,h9⟩
theorem AxR.mono {w w':World} {ok ok':Nat→Prop} {E2 z2:Nat} {ho:Option Nat} (hs:Stl w w' ok ok'):∀ {i:Nat} {es:List AxE} {us:List (List Value)} {ls:List Nat},(∀ b ∈ ls,w'.heap[b]?=w.heap[b]?)→AxR w ok E2 z2 ho i es us ls→AxR w' ok' E2 z2 ho i es us ls
 | _,_,_,_,_,.nil i=>.nil i
 | _,_,_,_,hb,.cons h1 h2 h3 h4 h5 h6=>.cons (h1.mono hs) (h2.mono hs) h3 h4 (fun h=>(h5 h).mono hs fun b h=>hb b (List.mem_append_left _ h)) (h6.mono hs fun b h=>hb b (List.mem_append_right _ h))
theorem Blk.rel_mono {w w':World} {ok ok':Nat→Prop} {ρ ρ':Lc} (hs:Stl w w' ok ok') (he:Ext ρ ρ'):∀ {blk:Blk} {l:Loc},(∀ b,l.bl b→w'.heap[b]?=w.heap[b]?)→blk.rel w ok ρ l→blk.rel w' ok' ρ' l
 | .hd,.tr v bs,_,h=>h
 | .ax k E z E2 z2 es ho,.tr _ bs,hb,⟨v,h1,h⟩=>⟨v,he _ _ h1,by
  rcases h with h | ⟨g,cap,us,sp,ls,h2,h3,h4,h5,h6,h7,h8,rfl,h9,h10⟩
  ·exact .inl h
  ·exact .inr ⟨g,cap,us,sp,ls,h2,h3,h4,by rw [hb g List.mem_cons_self]; exact h5,h6,h7,h8.mono hs fun b h=>hb b (List.mem_cons_of_mem _ h),rfl,h9,h10.mono he⟩⟩
 | .hd,.box _,_,h=>h.elim
 | .hd,.arr _,_,h=>h.elim
 | .ax _ _ _ _ _ _ _,.box _,_,h=>h.elim
 | .ax _ _ _ _ _ _ _,.arr _,_,h=>h.elim
 | .box _ _,.tr _ _,_,h=>h.elim
 | .arr _ _ _ _,.tr _ _,_,h=>h.elim
 | .ob _,.tr _ _,_,h=>h.elim
 | .mt _ _,.tr _ _,_,h=>h.elim
 | .box T cs,.box b,hb,⟨us,h1,h0,h2⟩=>⟨us,by rw [hb b rfl]; exact h1,h0,h2.mono hs he⟩
 | .arr E z n cs,.arr v,hb,h=>by
  rcases h with h | ⟨g,cap,us,sp,rfl,h1,h2,h3,h4,h5,h0,h6⟩
  ·exact .inl h
  ·exact .inr ⟨g,cap,us,sp,rfl,h1,h2,by rw [hb g rfl]; exact h3,h4,h5,h0,h6.mono hs he⟩
 | .ob o,.box b,hb,h=>(hb b rfl).trans h
 | .mt _ _,.box b,hb,⟨em,h1,h2,h3,h4⟩=>⟨em,(hb b rfl).trans h1,h2,h3,h4.mono hs he⟩
 | .mt _ _,.arr _,_,h=>h.elim
 | .box _ _,.arr _,_,h=>h.elim
 | .arr _ _ _ _,.box _,_,h=>h.elim
 | .ob _,.arr _,_,h=>h.elim
def Sub (H0 H:Hp):Prop:=∀ k blk,look H0 k=some (some blk)→look H k=some (some blk)
theorem Step.stl {B:Nat→Prop} {H h:Hp} {ρ ρ':Lc} {w w':World} (s:Step B H h ρ ρ' w w'):Stl w w' (okb B w ρ) (okb B w' ρ'):=fun b ⟨hb,hB,ho⟩=>by
 refine ⟨⟨Nat.lt_of_lt_of_le hb s.size,hB,fun k l hk e=>?_⟩,s.keep b hb fun k l _ hl=>ho k l hl⟩
 rcases s.new k l hk with h1 | ⟨-,-,h1⟩
 ·exact ho k l h1 e
 ·rcases h1 b e with h1 | ⟨k0,l0,-,h2,h3⟩
  ·omega
  ·exact ho k0 l0 h2 h3
theorem HR.step {B:Nat→Prop} {H0 H h:Hp} {ρ ρ':Lc} {w w':World} (hr:HR B H ρ w) (hsub:Sub H0 H) (s:Step B H0 h ρ ρ' w w'):HR B (h++H) ρ' w':=by
 have hlive:∀ k k' blk l l' b,look h k=none→look H k=some (some blk)→ρ k=some l→l.bl b→look h k'≠none→ρ k'=some l'→¬ l'.bl b:=by
  intro k k' blk l l' b h1 h2 h3 h4 h5 h6 h7
  obtain ⟨blk',h8⟩:=s.live k' h5 (by rw [h6]; simp)
  have:=hr.inj k k' blk blk' l l' b h2 (hsub _ _ h8) h3 h6 h4 h7
  subst this
  exact h5 h1
 have hcase:∀ k x,look (h++H) k=some x→look h k=some x∨(look h k=none∧look H k=some x):=by
  intro k x hk
  rw [Yg] at hk
  cases hh:look h k with
  | none=>rw [hh] at hk; exact .inr ⟨rfl,by simpa using hk⟩
  | some y=>rw [hh] at hk; exact .inl (by simpa using hk)
 refine ⟨fun k blk hk=>?_,?_,fun k l b hk hb=>?_,fun e he=>⟨(s.stl e.1 (hr.gl e he).1).1,fun j v hj=>by rw [s.stl.cell (hr.gl e he).1]; exact (hr.gl e he).2 j v hj⟩⟩
 ·rcases hcase k _ hk with hk | ⟨hn,hk⟩
  ·exact s.rel k blk hk
  ·obtain ⟨l,h1,h2⟩:=hr.rel k blk hk
   exact ⟨l,s.ext _ _ h1,Blk.rel_mono s.stl s.ext (fun b hb=>s.keep b (hr.lt k l b h1 hb) fun k' l' h5 h6=>hlive k k' blk l l' b hn hk h1 hb h5 h6) h2⟩
 ·have key:∀ k k' blk blk' l l' b,look h k=some (some blk)→look h k'=none→look H k'=some (some blk')→ρ' k=some l→ρ' k'=some l'→l.bl b→l'.bl b→False:=by
    intro k k' blk blk' l l' b h1 h2 h3 h4 h5 h6 h7
    obtain ⟨l2,h8,-⟩:=hr.rel k' blk' h3
    obtain rfl:l2=l':=Option.some.inj ((s.ext _ _ h8).symm.trans h5)
    rcases s.new k l h4 with h9 | ⟨-,-,h9⟩
    ·exact hlive k' k blk' l2 l b h2 h3 h8 h7 (by rw [h1]; simp) h9 h6
    ·rcases h9 b h6 with h9 | ⟨k0,l0,h10,h11,h12⟩
     ·have:=hr.lt k' l2 b h8 h7; omega
     ·exact hlive k' k0 blk' l2 l0 b h2 h3 h8 h7 (by rw [h10]; simp) h11 h12
  intro k k' blk blk' l l' b h1 h2 h3 h4 h5 h6
  rcases hcase k _ h1 with h1 | ⟨hn1,h1⟩
  ·rcases hcase k' _ h2 with h2 | ⟨hn2,h2⟩
   ·exact s.injh k k' blk blk' l l' b h1 h2 h3 h4 h5 h6
   ·exact (key k k' blk blk' l l' b h1 hn2 h2 h3 h4 h5 h6).elim
  ·rcases hcase k' _ h2 with h2 | ⟨hn2,h2⟩
   ·exact (key k' k blk' blk l' l b h2 hn1 h1 h4 h3 h6 h5).elim
   ·obtain ⟨l2,h7,-⟩:=hr.rel k blk h1
    obtain ⟨l3,h8,-⟩:=hr.rel k' blk' h2
    obtain rfl:l2=l:=Option.some.inj ((s.ext _ _ h7).symm.trans h3)
    obtain rfl:l3=l':=Option.some.inj ((s.ext _ _ h8).symm.trans h4)
    exact hr.inj k k' blk blk' l2 l3 b h1 h2 h7 h8 h5 h6
 ·rcases s.new k l hk with h1 | ⟨-,-,h1⟩
  ·exact Nat.lt_of_lt_of_le (hr.lt k l b h1 hb) s.size
  ·rcases h1 b hb with h1 | ⟨k0,l0,-,h2,h3⟩
   ·exact h1.2
   ·exact Nat.lt_of_lt_of_le (hr.lt k0 l0 b h2 h3) s.size
structure Cx where
 P:Program
 B:Nat→Prop
 w0:World
 ρ0:Lc
 ks:List Nat
 nt:Nat
def SR (B:Nat→Prop) (sl:List (Nat × V)) (ρ:Lc) (a:Act) (w:World):Prop:=∀ t u,look sl t=some u→∃ v,a.tmps[t]?=some v∧RV w (okb B w ρ) ρ u v
structure Kp0 (w0:World) (ρ0:Lc) (w:World):Prop where
 os:w.os=w0.os
 tape:w.tape=w0.tape
 output:w.output=w0.output
 size:w0.heap.size≤w.heap.size
 block:∀ b,b<w0.heap.size→(∀ k l,ρ0 k=some l→¬ l.bl b)→w.heap[b]?=w0.heap[b]?
structure ZfT (Γ:Cx) (st:St) (ρ:Lc) (a:Act) (w:World):Prop where
 defers:a.defers=[]
 size:a.tmps.size=Γ.nt
 kp:Kp0 Γ.w0 Γ.ρ0 w
 ext0:Ext Γ.ρ0 ρ
 own:∀ k l b,ρ k=some l→l.bl b→Γ.ρ0 k=some l∨Γ.w0.heap.size≤b∨∃ k0 l0,look st.hp k0=some none∧Γ.ρ0 k0=some l0∧l0.bl b
 dom:∀ k l,ρ k=some l→look st.hp k≠none
 dom0:∀ k l,Γ.ρ0 k=some l→k ∈ Γ.ks
 bup:∀ b,Γ.w0.heap.size≤b→Γ.B b
 hr:HR Γ.B st.hp ρ w
 sr:SR Γ.B st.sl ρ a w
def Rel (Γ:Cx) (st:St) (a:Act) (w:World):Prop:=∃ ρ,ZfT Γ st ρ a w
theorem Zeo {h H:Hp} {k:Nat} (hk:look H k≠none∨look h k≠none):look (h++H) k≠none:=by
 rw [Yg]
 cases e:look h k with
 | none=>rw [e] at hk; simpa using hk
 | some y=>simp
theorem ZfT.step {Γ:Cx} {st:St} {H0 h:Hp} {ρ ρ':Lc} {a:Act} {w w':World} {d:Option Tmp} {u:V} {v:Value} (hr:ZfT Γ st ρ a w) (hsub:Sub H0 st.hp) (s:Step Γ.B H0 h ρ ρ' w w') (hu:RV w' (okb Γ.B w' ρ') ρ' u v)
   (hd:∀ t,d=some t→t<Γ.nt):ZfT Γ ⟨(match d with | some t=>(t,u)::st.sl | none=>st.sl),h++st.hp⟩ ρ' (a.put d v) w':=by
 have hsl:∀ t x,look st.sl t=some x→∃ v',a.tmps[t]?=some v'∧RV w' (okb Γ.B w' ρ') ρ' x v':=fun t x hx=>by
  obtain ⟨v',h1,h2⟩:=hr.sr t x hx
  exact ⟨v',h1,h2.mono s.stl s.ext⟩
 have tomb:∀ k0 l0,look st.hp k0=some none→ρ k0=some l0→look (h++st.hp) k0=some none:=fun k0 l0 h1 h2=>by
  rw [Yg]
  cases e:look h k0 with
  | none=>simpa using h1
  | some y =>
   obtain ⟨blk,h3⟩:=s.live k0 (by rw [e]; simp) (by rw [h2]; simp)
   rw [hsub _ _ h3] at h1; cases h1
 have ownst:∀ k l b,ρ k=some l→l.bl b→Γ.ρ0 k=some l∨Γ.w0.heap.size≤b∨∃ k0 l0,look (h++st.hp) k0=some none∧Γ.ρ0 k0=some l0∧l0.bl b:=fun k l b h1 h2=>by
  rcases hr.own k l b h1 h2 with h3 | h3 | ⟨k0,l0,h3,h4,h5⟩
  ·exact .inl h3
  ·exact .inr (.inl h3)
  ·exact .inr (.inr ⟨k0,l0,tomb k0 l0 h3 (hr.ext0 _ _ h4),h4,h5⟩)
 refine ⟨?_,?_,⟨s.os.trans hr.kp.os,s.tape.trans hr.kp.tape,s.output.trans hr.kp.output,Nat.le_trans hr.kp.size s.size,fun b hb hx=>?_⟩,fun k l hk=>s.ext _ _ (hr.ext0 _ _ hk),fun k l b hk hb=>?_,fun k l hk=>?_,hr.dom0,hr.bup,hr.hr.step hsub s,?_⟩
 ·cases d <;> exact hr.defers
 ·cases d <;> simp [Act.put,hr.size]
 ·rw [s.keep b (Nat.lt_of_lt_of_le hb hr.kp.size) fun k l _ hl e=>?_]
  ·exact hr.kp.block b hb hx
  ·rcases hr.own k l b hl e with h1 | h1 | ⟨k0,l0,-,h1,h2⟩
   ·exact hx k l h1 e
   ·omega
   ·exact hx k0 l0 h1 h2
 ·rcases s.new k l hk with h1 | ⟨-,-,h1⟩
  ·exact ownst k l b h1 hb
  ·rcases h1 b hb with h1 | ⟨k0,l0,h2,h3,h4⟩
   ·exact .inr (.inl (Nat.le_trans hr.kp.size h1.1))
   ·rcases ownst k0 l0 b h3 h4 with h5 | h5 | h5
    ·exact .inr (.inr ⟨k0,l0,by rw [Yg,h2]; rfl,h5,h4⟩)
    ·exact .inr (.inl h5)
    ·exact .inr (.inr h5)
 ·rcases s.new k l hk with h1 | ⟨-,h1,-⟩
  ·exact Zeo (.inl (hr.dom k l h1))
  ·exact Zeo (.inr h1)
 ·cases d with
  | none=>exact hsl
  | some t0 =>
   intro t x hx
   simp only [Zo] at hx
   have ht0:t0<a.tmps.size:=by rw [hr.size]; exact hd t0 rfl
   by_cases e:t0=t
   ·subst e
    rw [if_pos rfl] at hx
    obtain rfl:=Option.some.inj hx
    exact ⟨v,by simp [Act.put,ht0],hu⟩
   ·rw [if_neg e] at hx
    obtain ⟨v',h1,h2⟩:=hsl t x hx
    exact ⟨v',by simp only [Act.put]; rw [Array.getElem?_setIfInBounds_ne e]; exact h1,h2⟩
theorem Step.same {B:Nat→Prop} (H:Hp) (ρ:Lc) {w w':World} (h:w'.heap=w.heap) (h1:w'.os=w.os) (h2:w'.tape=w.tape) (h3:w'.output=w.output):Step B H [] ρ ρ w w' :=
 ⟨h1,h2,h3,by rw [h]; exact Nat.le_refl _,fun _ _ h=>h,fun k l h=>.inl h,fun b _ _=>by rw [h],fun k hk=>by simp [look] at hk,fun k blk hk=>by simp [look] at hk,fun k k' blk blk' l l' b hk=>by simp [look] at hk⟩
theorem Step.refl {B:Nat→Prop} (H:Hp) (ρ:Lc) (w:World):Step B H [] ρ ρ w w:=Step.same H ρ rfl rfl rfl rfl
end Go.Proofs.YtkcmgbbopedacaaGreatDoor
