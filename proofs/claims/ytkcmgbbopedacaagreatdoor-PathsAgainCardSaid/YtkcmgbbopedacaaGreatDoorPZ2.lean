/-
  Lemmas: Operations over states
-/
import Derived.Test.YtkcmgbbopedacaaGreatDoorPZ1
import Derived.Laws.Rows
import Derived.Laws.CopyRow
import Derived.Laws.AppendOwn
set_option linter.unusedSimpArgs false
set_option linter.unusedVariables false
namespace Go.Proofs.YtkcmgbbopedacaaGreatDoor
open Go.RowKit
structure OB where
 b:Nat
 T:TypeId
 c:List Value
structure Win where
 b:Nat
 o:Nat
 vs:List Value
structure Fr where
 X:List Nat
 J:World→Prop
def nof:Fr:=⟨[],fun _=>True⟩
structure Rep (w0:World) (X:Fr) (R:List Win) (S:List OB) (w:World):Prop where
 kp:Kp X.X w0 w
 own:∀ e ∈ S,w.heap[e.b]?=some (.cells e.c.toArray e.T (0,0))
 ne:S.Pairwise fun x y=>x.b≠y.b
 new:∀ e ∈ S,w0.heap.size≤e.b
 win:∀ r ∈ R,r.b<w0.heap.size∧r.b ∉ X.X∧∀ j v,r.vs[j]?=some v→w0.cell? ⟨r.b,r.o+j,none⟩=some v
 j:X.J w
 js:∀ w w':World,X.J w→(∀ k,k<w0.heap.size→w'.heap[k]?=w.heap[k]?)→X.J w'
 xl:∀ x ∈ X.X,x<w0.heap.size
theorem Rep.refl (w:World):Rep w nof [] [] w:=⟨Kp.refl _ _,by simp,.nil,by simp,by simp,trivial,fun _ _ _ _=>trivial,by simp [nof]⟩
theorem Rep.kp_nof {w0 w:World} {R:List Win} {S:List OB} (h:Rep w0 nof R S w):Kp [] w0 w:=h.kp
theorem Rep.lt {w0 w:World} {X:Fr} {R:List Win} {S:List OB} (h:Rep w0 X R S w) {e:OB} (he:e ∈ S):e.b<w.heap.size:=(Array.getElem?_eq_some_iff.1 (h.own e he)).1
theorem Rep.kp0 {w0 w w':World} {X:Fr} {R:List Win} {S:List OB} (h:Rep w0 X R S w) (hk:Kp [] w w'):Rep w0 X R S w':=by
 refine ⟨⟨hk.os.trans h.kp.os,hk.tape.trans h.kp.tape,hk.output.trans h.kp.output,Nat.le_trans h.kp.size hk.size,fun i hi hx=>?_⟩,fun e he=>(hk.block e.b (h.lt he) (by simp)).trans (h.own e he),h.ne,h.new,h.win,?_,h.js,h.xl⟩
 ·exact (hk.block i (Nat.lt_of_lt_of_le hi h.kp.size) (by simp)).trans (h.kp.block i hi hx)
 ·exact h.js w w' h.j fun k hk'=>hk.block k (Nat.lt_of_lt_of_le hk' h.kp.size) (by simp)
theorem Rep.sub {w0 w:World} {X:Fr} {R R':List Win} {S S':List OB} (h:Rep w0 X R S w) (hs:S'.Sublist S) (hr:R'.Sublist R:=by exact List.Sublist.refl _):Rep w0 X R' S' w :=
 ⟨h.kp,fun e he=>h.own e (hs.subset he),h.ne.sublist hs,fun e he=>h.new e (hs.subset he),fun r hr'=>h.win r (hr.subset hr'),h.j,h.js,h.xl⟩
theorem Rep.addwin {w0 w:World} {X:Fr} {R:List Win} {S:List OB} (h:Rep w0 X R S w) (b o:Nat) (vs:List Value) (hb:b<w0.heap.size) (hx:b ∉ X.X) (hv:∀ j v,vs[j]?=some v→w0.cell? ⟨b,o+j,none⟩=some v) :
   Rep w0 X (⟨b,o,vs⟩::R) S w :=
 ⟨h.kp,h.own,h.ne,h.new,fun r hr=>by rcases List.mem_cons.1 hr with rfl | hr; · exact ⟨hb,hx,hv⟩
                                     ·exact h.win r hr,h.j,h.js,h.xl⟩
theorem Rep.push {w0 w w':World} {X:Fr} {R:List Win} {S:List OB} (h:Rep w0 X R S w) (hk:Kp [] w w') {B:Nat} {T:TypeId} {c:List Value} (hB:w.heap.size≤B) (hb:w'.heap[B]?=some (.cells c.toArray T (0,0))) :
   Rep w0 X R (⟨B,T,c⟩::S) w':=by
 have h':=h.kp0 hk
 refine ⟨h'.kp,fun e he=>?_,List.pairwise_cons.2 ⟨fun e he=>?_,h.ne⟩,fun e he=>?_,h.win,h'.j,h.js,h.xl⟩
 ·rcases List.mem_cons.1 he with rfl | he
  ·exact hb
  ·exact h'.own e he
 ·have:=h.lt he; simp only; omega
 ·rcases List.mem_cons.1 he with rfl | he
  ·exact Nat.le_trans h.kp.size hB
  ·exact h.new e he
theorem Rep.alloc {w0 w:World} {X:Fr} {R:List Win} {S:List OB} (h:Rep w0 X R S w) (T:TypeId) (c:Array Value):Rep w0 X R (⟨w.heap.size,T,c.toList⟩::S) (w.alloc (.cells c T)) :=
 h.push ((Kp.refl _ _).alloc _) (Nat.le_refl _) (by simpa using heap_alloc_new w _)
inductive At:List OB→Nat→TypeId→List Value→Prop
 | here {b:Nat} {T:TypeId} {c:List Value} {S:List OB}:At (⟨b,T,c⟩::S) b T c
 | there {x:OB} {S:List OB} {b:Nat} {T:TypeId} {c:List Value}:At S b T c→At (x::S) b T c
inductive To:List OB→Nat→TypeId→List Value→List Value→List OB→Prop
 | here {b:Nat} {T:TypeId} {c c':List Value} {S:List OB}:To (⟨b,T,c⟩::S) b T c c' (⟨b,T,c'⟩::S)
 | there {x:OB} {S S':List OB} {b:Nat} {T:TypeId} {c c':List Value}:To S b T c c' S'→To (x::S) b T c c' (x::S')
theorem At.mem {S:List OB} {b:Nat} {T:TypeId} {c:List Value} (h:At S b T c):(⟨b,T,c⟩:OB) ∈ S:=by
 induction h with
 | here=>exact List.mem_cons_self
 | there _ ih=>exact List.mem_cons_of_mem _ ih
theorem To.at {S S':List OB} {b:Nat} {T:TypeId} {c c':List Value} (h:To S b T c c' S'):At S b T c:=by
 induction h with
 | here=>exact .here
 | there _ ih=>exact .there ih
theorem To.mem {S S':List OB} {b:Nat} {T:TypeId} {c c':List Value} (h:To S b T c c' S'):∀ e ∈ S',e=⟨b,T,c'⟩∨(e ∈ S):=by
 induction h with
 | here =>
  intro e he
  rcases List.mem_cons.1 he with rfl | he
  ·exact .inl rfl
  ·exact .inr (List.mem_cons_of_mem _ he)
 | there _ ih =>
  intro e he
  rcases List.mem_cons.1 he with rfl | he
  ·exact .inr List.mem_cons_self
  ·rcases ih e he with h1 | h1
   ·exact .inl h1
   ·exact .inr (List.mem_cons_of_mem _ h1)
theorem To.blocks {S S':List OB} {b:Nat} {T:TypeId} {c c':List Value} (h:To S b T c c' S'):S'.map (·.b)=S.map (·.b):=by
 induction h with
 | here=>rfl
 | there _ ih=>simp [ih]
theorem To.other {S S':List OB} {b:Nat} {T:TypeId} {c c':List Value} (h:To S b T c c' S') (_:(S.map (·.b)).Pairwise (·≠·)):∀ e ∈ S',e.b≠b→e ∈ S:=by
 intro e he hb
 rcases h.mem e he with rfl | h1
 ·exact absurd rfl hb
 ·exact h1
theorem To.self {S S':List OB} {b:Nat} {T:TypeId} {c c':List Value} (h:To S b T c c' S') (hne:S.Pairwise fun x y=>x.b≠y.b):∀ e ∈ S',e.b=b→e=⟨b,T,c'⟩:=by
 induction h with
 | here =>
  intro e he hb
  rcases List.mem_cons.1 he with rfl | he
  ·rfl
  ·exact absurd hb.symm ((List.pairwise_cons.1 hne).1 e he)
 | there h0 ih =>
  intro e he hb
  rcases List.mem_cons.1 he with rfl | he
  ·have:=(List.pairwise_cons.1 hne).1 _ h0.at.mem
   exact absurd hb this
  ·exact ih (List.pairwise_cons.1 hne).2 e he hb
class UpI (S:List OB) (b:Nat) (T:outParam TypeId) (c:outParam (List Value)) (F:outParam (List Value→List OB)):Prop where
 out:∀ c',To S b T c c' (F c')
instance (priority:=low) UpI.there {x:OB} {S:List OB} {b:Nat} {T:TypeId} {c:List Value} {F:List Value→List OB} [h:UpI S b T c F]:UpI (x::S) b T c (fun c'=>x::F c'):=⟨fun c'=>.there (h.out c')⟩
instance UpI.here {b:Nat} {T:TypeId} {c:List Value} {S:List OB}:UpI (⟨b,T,c⟩::S) b T c (fun c'=>⟨b,T,c'⟩::S):=⟨fun _=>.here⟩
theorem UpI.to {S:List OB} {b:Nat} {T:TypeId} {c c':List Value} {F:List Value→List OB} [h:UpI S b T c F]:To S b T c c' (F c'):=h.out c'
theorem UpI.at {S:List OB} {b:Nat} {T:TypeId} {c:List Value} {F:List Value→List OB} [h:UpI S b T c F]:At S b T c:=(h.out c).at
theorem Rep.store {w0 w:World} {X:Fr} {R:List Win} {S S':List OB} {b:Nat} {T:TypeId} {c c':List Value} (h:Rep w0 X R S w) (ht:To S b T c c' S'):Rep w0 X R S' (w.setRow b c'.toArray):=by
 have hm:=ht.at.mem
 have hb:=h.own _ hm
 have hnw:=h.new _ hm
 simp only at hnw
 have hpw:(S.map (·.b)).Pairwise (·≠·):=List.pairwise_map.2 h.ne
 refine ⟨⟨h.kp.os,h.kp.tape,h.kp.output,by simpa using h.kp.size,fun i hi hx=>?_⟩,fun e he=>?_,?_,fun e he=>?_,h.win,?_,h.js,h.xl⟩
 ·rw [setRow_other w b i _ (by omega)]
  exact h.kp.block i hi hx
 ·by_cases e1:e.b=b
  ·obtain rfl:=ht.self h.ne e he e1
   exact setRow_heap w b _ _ _ _ hb
  ·rw [setRow_other w b e.b _ e1]
   exact h.own e (ht.other hpw e he e1)
 ·have:(S'.map (·.b)).Pairwise (·≠·):=by rw [ht.blocks]; exact hpw
  exact List.pairwise_map.1 this
 ·rcases ht.mem e he with rfl | h1
  ·exact hnw
  ·exact h.new e h1
 ·exact h.js w _ h.j fun k hk=>setRow_other w b k _ (by omega)
def ZgB (w:World) (b o:Nat):Nat→List Value→Prop
 | _,[]=>True
 | 0,v::r=>w.cell? ⟨b,o,none⟩=some v∧ZgB w b o 1 r
 | j+1,v::r=>w.cell? ⟨b,o+(j+1),none⟩=some v∧ZgB w b o (j+2) r
def Facts (w:World):List Win→List OB→Prop
 | [],[]=>True
 | [],e::S=>(∀ i,w.cell? ⟨e.b,i,none⟩=e.c[i]?)∧Facts w [] S
 | r::R,S=>ZgB w r.b r.o 0 r.vs∧Facts w R S
theorem ZgN {w:World}:∀ (l S:List OB),Facts w [] (l++S)=(Facts w [] l∧Facts w [] S)
 | [],S=>by simp [Facts]
 | e::l,S=>by simp only [List.cons_append,Facts]; rw [ZgN l S,and_assoc]
theorem ZoA {w:World} {b o:Nat}:∀ (vs:List Value) (j:Nat),(∀ i v,vs[i]?=some v→w.cell? ⟨b,o+(j+i),none⟩=some v)→ZgB w b o j vs
 | [],_,_=>by unfold ZgB; trivial
 | v::r,0,h=>⟨by simpa using h 0 v rfl,ZoA r 1 fun i u hu=>by have:=h (i+1) u (by simpa using hu); rwa [show 0+(i+1)=1+i by omega] at this⟩
 | v::r,j+1,h=>⟨by simpa using h 0 v rfl,ZoA r (j+2) fun i u hu=>by have:=h (i+1) u (by simpa using hu); rwa [show j+1+(i+1)=j+2+i by omega] at this⟩
theorem Rep.cells {w0 w:World} {X:Fr} {R:List Win} {S:List OB} (h:Rep w0 X R S w) {e:OB} (he:e ∈ S):∀ i,w.cell? ⟨e.b,i,none⟩=e.c[i]?:=fun i=>by
 simp [World.cell?,h.own e he]
theorem Rep.facts {w0 w:World} {X:Fr}:∀ {R:List Win} {S:List OB},Rep w0 X R S w→Facts w R S
 | [],[],_=>by unfold Facts; trivial
 | [],e::S,h=>by unfold Facts; exact ⟨h.cells List.mem_cons_self,(h.sub (List.sublist_cons_self _ _)).facts⟩
 | r::R,S,h=>by
  unfold Facts
  refine ⟨?_,(h.sub (List.Sublist.refl _) (List.sublist_cons_self _ _)).facts⟩
  obtain ⟨h1,h2,h3⟩:=h.win r List.mem_cons_self
  exact ZoA _ 0 fun i v hv=>by rw [Nat.zero_add,h.kp.cell (p:=⟨r.b,r.o+i,none⟩) h1 h2]; exact h3 i v hv
theorem Rep.fx {w0 w:World} {X:Fr} {R:List Win} {S:List OB} {F:Prop} (hR:Rep w0 X R S w) (h:Facts w R S=F:=by (try simp only [Facts,ZgB,ZgN,and_true,Nat.reduceAdd,Nat.zero_add]); exact rfl):F:=h ▸ hR.facts
class Ty (P:Program) (T:TypeId) (n:outParam Nat) (ag:outParam Bool):Prop where
 size:(P.info? T).map (·.size)=some n
 agg:(P.underlying T).map (fun | .struct _ | .array _ _=>true | _=>false)=some ag
def ldV:Bool→Nat→Nat→List Value→Value
 | true,n,o,c=>.agg ((c.drop o).take n).toArray
 | false,_,o,c=>c.getD o undef
def stL:Nat→List Value→List Value→List Value
 | _,[],c=>c
 | 0,v::vs,_::c=>v::stL 0 vs c
 | _,_::_,[]=>[]
 | o+1,v::vs,x::c=>x::stL o (v::vs) c
theorem Zax:∀ (o:Nat) (vs c:List Value),o+vs.length≤c.length→stL o vs c=c.take o++vs++c.drop (o+vs.length)
 | _,[],c,_=>by simp [stL]
 | 0,v::vs,[],h=>by simp at h
 | 0,v::vs,x::c,h=>by
  rw [stL,Zax 0 vs c (by simp at h ⊢; omega)]; simp
 | o+1,v::vs,[],h=>by simp at h
 | o+1,v::vs,x::c,h=>by
  rw [stL,Zax o (v::vs) c (by simp at h ⊢; omega)]
  simp [show o+1+(vs.length+1)=o+(vs.length+1)+1 by omega]
section
variable {P:Program} {ops:Array Oper} {Q:Exit→Act→World→Prop} {a a':Act} {w w0:World} {rest:List Oper} {o:Oper} {X:Fr} {R:List Win} {S S':List OB} {T T':TypeId} {x y:Operand} {b off n:Nat} {c:List Value} {ag:Bool}
theorem XX (h:Ty P T n ag):(sizeOf T).run P w=.ok n w:=by
 have:=h.size
 cases hi:P.info? T with
 | none=>simp [hi] at this
 | some i=>simp [hi] at this; simp [sizeOf,typeInfo,hi,this]
theorem ZbG (h:Ty P T n ag):(isAgg T).run P w=.ok ag w:=by
 have:=h.agg
 cases hi:P.underlying T with
 | none=>simp [hi] at this
 | some d =>
  rw [hi] at this
  unfold isAgg
  rw [Sem.run_bind,run_underlying hi w]
  cases d <;> simp_all
theorem addr_add (b o i:Nat):(⟨b,o,none⟩:Addr).add i=⟨b,o+i,none⟩:=by unfold Addr.add; split <;> simp_all
theorem Zlz (hT:Ty P T n ag) (hc:∀ i,w.cell? ⟨b,i,none⟩=c[i]?) (hl:off+n≤c.length) (h1:ag=false→n=1):(loadVar T ⟨b,off,none⟩).run P w=.ok (ldV ag n off c) w:=by
 unfold loadVar
 rw [Sem.run_bind,ZbG hT]
 cases ag with
 | true =>
  have:=run_loadCells_list (P:=P) w ⟨b,off,none⟩ ((c.drop off).take n) fun j v hv=>by
   rw [addr_add,hc]
   rw [List.getElem?_take] at hv
   split at hv
   ·simpa using hv
   ·cases hv
  rw [List.length_take,List.length_drop,Nat.min_eq_left (by omega)] at this
  simp [XX hT,this,ldV]
 | false =>
  have h:=hc off
  rw [List.getElem?_eq_getElem (by have:=h1 rfl; omega)] at h
  simp [ldV,load,Sem.run,h,List.getD,List.getElem?_eq_getElem (show off<c.length by have:=h1 rfl; omega)]
theorem Zp9 (hR:Rep w0 X R S w) (hop:o.op=.load T x) (hg:o.guard=none) (hx:a.eval x=.pointer (some ⟨b,off,none⟩)) (hA:At S b T' c) (hT:Ty P T n ag)
   (hl:(decide (off+n≤c.length) && (ag || n == 1))=true) (ha:a.put o.dst (ldV ag n off c)=a') (h:wpList P ops Q rest a' w):wpList P ops Q (o::rest) a w:=by
 simp only [Bool.and_eq_true,decide_eq_true_eq,Bool.or_eq_true,beq_iff_eq] at hl
 have hr:=Zlz (w:=w) hT (hR.cells hA.mem) hl.1 (fun e=>hl.2.resolve_left (by simp [e]))
 refine BigFrame.wpList_want (by simp [Region.wanted,hg]) fun K hK=>?_
 unfold Oper.wp execOp
 rw [hop]
 simp only [hx,Instr.loadAt,Instr.sureAddr,Sem.run_bind,Sem.run_pure,Result.andThen_ok,hr,Oper.upon]
 subst ha
 exact hK _ _ h
theorem Ztj (hT:Ty P T n ag) (hR:Rep w0 X R S w) {v:Value} {vs c':List Value} (hv:v.cells=vs.toArray) (hc:stL off vs c=c') (ht:To S b T' c c' S') (hl:off+n≤c.length) (hn:vs.length=n) (h1:vs.all Value.oneCell'=true) :
   (storeVar T ⟨b,off,none⟩ v).run P w=.ok () (w.setRow b c'.toArray):=by
 subst hc
 have hs:=run_storeCells_at P b off T' vs 0 c.toArray w (hR.own _ ht.at.mem) (by simp; omega) (List.all_eq_true.1 h1)
 simp only [Nat.add_zero] at hs
 unfold storeVar
 rw [Sem.run_bind,XX hT]
 simp only [Result.andThen_ok,hv,List.size_toArray,hn,ne_eq,not_true,if_false]
 rw [Zax _ _ _ (by omega)]
 simpa using hs
theorem Zqu (hR:Rep w0 X R S w) {vs c':List Value} (hop:o.op=.store T x y) (hd:o.dst=none) (hg:o.guard=none) (hx:a.eval x=.pointer (some ⟨b,off,none⟩)) (hv:(a.eval y).cells=vs.toArray) (hA:At S b T' c) (hT:Ty P T n ag) (hc:stL off vs c=c') (ht:To S b T' c c' S')
   (hl:(decide (off+n≤c.length) && (vs.length == n) && vs.all Value.oneCell')=true) (h:∀ w',Rep w0 X R S' w'→wpList P ops Q rest a w'):wpList P ops Q (o::rest) a w:=by
 clear hA
 simp only [Bool.and_eq_true,decide_eq_true_eq,beq_iff_eq] at hl
 have hr:=Ztj (P:=P) hT hR hv hc ht hl.1.1 hl.1.2 hl.2
 refine BigFrame.wpList_want (by simp [Region.wanted,hg]) fun K hK=>?_
 unfold Oper.wp execOp
 rw [hop]
 simp only [hx,Instr.storeAt,Instr.sureAddr,Sem.run_bind,Sem.run_pure,Result.andThen_ok,hr]
 simp only [Oper.upon,hd,Act.put]
 exact hK _ _ (h _ (hR.store ht))
theorem Znp (hR:Rep w0 X R S w) {d:Tmp} {l:List Value} (hop:o.op=.box T x) (hd:o.dst=some d) (hg:o.guard=none) (hv:(a.eval x).cells=l.toArray)
   (h:∀ w' B,Rep w0 X R (⟨B,T,l⟩::S) w'→∃ a',a.put (some d) (.pointer (some ⟨B,0,none⟩))=a'∧wpList P ops Q rest a' w'):wpList P ops Q (o::rest) a w:=by
 refine BigFrame.wpList_want (by simp [Region.wanted,hg]) fun K hK=>?_
 unfold Oper.wp execOp
 rw [hop]
 simp only [Instr.box,newVar,newRow,newObj,hv,Sem.run_bind,Sem.run,Sem.run_pure,Result.andThen_ok,Oper.upon,hd]
 obtain ⟨a',e,h'⟩:=h _ w.heap.size (by simpa using hR.alloc T l.toArray)
 rw [e]
 exact hK _ _ h'
def Zu (P:Program) (T:TypeId) (z:List Value):Prop:=(P.info? T).bind (fun i=>i.zero.map fun v=>v.cells.toList)=some z
class Yh (P:Program) (T:TypeId) (z:outParam (List Value)):Prop where
 out:Zu P T z
theorem Zj9 (hR:Rep w0 X R S w) {d:Tmp} {l:List Value} (hop:o.op=.alloc T) (hd:o.dst=some d) (hg:o.guard=none) (hz:Zu P T l)
   (h:∀ w' B,Rep w0 X R (⟨B,T,l⟩::S) w'→∃ a',a.put (some d) (.pointer (some ⟨B,0,none⟩))=a'∧wpList P ops Q rest a' w'):wpList P ops Q (o::rest) a w:=by
 unfold Zu at hz
 cases hi:P.info? T with
 | none=>simp [hi] at hz
 | some i =>
  cases hzv:i.zero with
  | none=>simp [hi,hzv] at hz
  | some z =>
   simp [hi,hzv] at hz
   refine BigFrame.wpList_want (by simp [Region.wanted,hg]) fun K hK=>?_
   unfold Oper.wp execOp
   rw [hop]
   simp only [Instr.alloc,zeroValue,typeInfo,program,hi,hzv,newVar,newRow,newObj,Sem.run_bind,Sem.run,Sem.run_pure,Result.andThen_ok,Oper.upon,hd]
   subst hz
   obtain ⟨a',e,h'⟩:=h _ w.heap.size (hR.alloc T z.cells)
   rw [e]
   exact hK _ _ h'
theorem Zd5 {fn:Func} {RR:Ending→World→Prop} {t:Tmp} {tmps:Array Value} (hR:Rep w0 X R S w) (hres:fn.results=#[.cell t T]) (ht:tmps.getD t undef=.pointer (some ⟨b,0,none⟩)) (hA:At S b T' c) (hT:Ty P T n true) (hl:c.length=n)
   (h:RR (.returned (.agg c.toArray)) w):bodyPost P fn RR .ret ⟨tmps,[]⟩ w:=by
 refine bodyPost_ret (v:=.agg c.toArray) ?_ rfl h
 have hld:=Zlz (off:=0) hT (hR.cells hA.mem) (by simp only [Nat.zero_add]; omega) (by simp)
 simp only [ldV,List.drop_zero,← hl,List.take_length] at hld
 simp only [Array.getD_eq_getD_getElem?] at ht
 simp [results,hres,ht,asAddr,hld]
end
end Go.Proofs.YtkcmgbbopedacaaGreatDoor
namespace Go.Proofs.YtkcmgbbopedacaaGreatDoor
open Go.RowKit
structure Rd (w:World) (z:Nat) (v:Value) (n:Nat) (xs:List Value):Prop where
 len:xs.length=n * z
 ex:∃ p c,v=.slice p n c∧n≤c∧(n=0∨∃ b o:Nat,p=some ⟨b,o,none⟩∧b<w.heap.size∧∀ j u,xs[j]?=some u→w.cell? ⟨b,o+j,none⟩=some u)
def OS (sl:List OB) (E:TypeId) (z:Nat) (v:Value) (n:Nat) (xs:List Value):Prop :=
 xs.length=n * z∧((sl=[]∧v=.slice none 0 0∧n=0)∨∃ g cap sp,sl=[⟨g,E,xs++sp⟩]∧v=.slice (some ⟨g,0,none⟩) n cap∧n≤cap∧cap≤maxLen∧(xs++sp).length=cap * z)
theorem OS.nil (E:TypeId) (z:Nat):OS [] E z (.slice none 0 0) 0 []:=⟨by simp,.inl ⟨rfl,rfl,rfl⟩⟩
theorem OS.lit {E:TypeId} {z:Nat} (g n:Nat) (xs:List Value) (h:xs.length=n * z) (hn:n≤maxLen):OS [⟨g,E,xs⟩] E z (.slice (some ⟨g,0,none⟩) n n) n xs :=
 ⟨h,.inr ⟨g,n,[],by simp,rfl,Nat.le_refl _,hn,by simpa using h⟩⟩
inductive Ctx:List OB→List OB→List OB→List OB→Prop
 | here {sl post:List OB}:Ctx (sl++post) sl [] post
 | last {sl:List OB}:Ctx sl sl [] []
 | empty {S:List OB}:Ctx S [] [] S
 | one {e:OB} {post:List OB}:Ctx (e::post) [e] [] post
 | there {x:OB} {S sl pre post:List OB}:Ctx S sl pre post→Ctx (x::S) sl (x::pre) post
 | skip {l S sl pre post:List OB}:Ctx S sl pre post→Ctx (l++S) sl (l++pre) post
theorem Ctx.eq {S sl pre post:List OB} (h:Ctx S sl pre post):S=pre++(sl++post):=by
 induction h with
 | here=>simp
 | last=>simp
 | empty=>simp
 | one=>simp
 | there _ ih=>simp [ih]
 | skip _ ih=>simp [ih]
theorem At.skip {S l:List OB} {b:Nat} {T:TypeId} {c:List Value} (h:At S b T c):At (l++S) b T c:=by
 induction l with
 | nil=>exact h
 | cons x l ih=>exact .there ih
theorem To.skip {S S' l:List OB} {b:Nat} {T:TypeId} {c c':List Value} (h:To S b T c c' S'):To (l++S) b T c c' (l++S'):=by
 induction l with
 | nil=>exact h
 | cons x l ih=>exact .there ih
instance (priority:=low) UpI.skip {l S:List OB} {b:Nat} {T:TypeId} {c:List Value} {F:List Value→List OB} [h:UpI S b T c F]:UpI (l++S) b T c (fun c'=>l++F c'):=⟨fun c'=>(h.out c').skip⟩
class ZdA (S sl:List OB) (pre post:outParam (List OB)):Prop where
 out:Ctx S sl pre post
instance (priority:=low) ZdA.skip {l S sl pre post:List OB} [h:ZdA S sl pre post]:ZdA (l++S) sl (l++pre) post:=⟨.skip h.out⟩
instance (priority:=low) ZdA.there {x:OB} {S sl pre post:List OB} [h:ZdA S sl pre post]:ZdA (x::S) sl (x::pre) post:=⟨.there h.out⟩
instance ZdA.one {e:OB} {post:List OB}:ZdA (e::post) [e] [] post:=⟨.one⟩
instance ZdA.last {sl:List OB}:ZdA sl sl [] []:=⟨.last⟩
instance ZdA.here {sl post:List OB}:ZdA (sl++post) sl [] post:=⟨.here⟩
class Zh3 {α:Type} (S' S:List α):Prop where
 out:S'.Sublist S
instance (priority:=10) Zh3.drop {α:Type} {x:α} {S' S:List α} [h:Zh3 S' S]:Zh3 S' (x::S):=⟨.cons _ h.out⟩
instance (priority:=20) Zh3.dropl {α:Type} {l S' S:List α} [h:Zh3 S' S]:Zh3 S' (l++S):=⟨h.out.trans (List.sublist_append_right _ _)⟩
instance (priority:=30) Zh3.keep {α:Type} {x:α} {S' S:List α} [h:Zh3 S' S]:Zh3 (x::S') (x::S):=⟨.cons_cons _ h.out⟩
instance (priority:=30) Zh3.keepl {α:Type} {l S' S:List α} [h:Zh3 S' S]:Zh3 (l++S') (l++S):=⟨List.Sublist.append_left h.out l⟩
instance (priority:=40) Zh3.head {α:Type} {l S:List α}:Zh3 l (l++S):=⟨List.sublist_append_left _ _⟩
instance Zh3.nil {α:Type} {S:List α}:Zh3 [] S:=⟨List.nil_sublist _⟩
instance Zh3.refl {α:Type} {S:List α}:Zh3 S S:=⟨List.Sublist.refl _⟩
theorem Y1 {α:Type} {S' S:List α} (h:S'.Sublist S:=by first | exact Zh3.out | (repeat (first | exact List.Sublist.refl _ | exact List.nil_sublist _ | exact List.sublist_append_left _ _ | apply List.Sublist.cons_cons | apply List.Sublist.cons | (apply List.Sublist.append_right) | (apply List.sublist_append_of_sublist_right)))):S'.Sublist S:=h
theorem ZdJ {S sl pre post:List OB} (h:Ctx S sl pre post):sl.Sublist S:=by
 rw [h.eq]
 exact (List.sublist_append_left _ _).trans (List.sublist_append_right _ _)
class Sl (P:Program) (t:TypeId) (E:outParam TypeId) (z bytes:outParam Nat):Prop where
 un:P.underlying t=some (.slice E)
 el:∃ i zv,P.info? E=some i∧i.zero=some zv∧i.size=z∧i.bytes=bytes∧zv.cells.size=z
theorem Sl.mk' {P:Program} {t E:TypeId} {z bytes:Nat} (h:P.underlying t=some (.slice E)) (h':(P.info? E).bind (fun i=>i.zero.map fun v=>(v.cells.size,i.size,i.bytes))=some (z,z,bytes)):Sl P t E z bytes:=by
 refine ⟨h,?_⟩
 cases hi:P.info? E with
 | none=>simp [hi] at h'
 | some i =>
  cases hz:i.zero with
  | none=>simp [hi,hz] at h'
  | some zv=>simp [hi,hz] at h'; exact ⟨i,zv,rfl,hz,h'.2.1,h'.2.2,h'.1⟩
theorem Rep.replace {w0 w w':World} {X:Fr} {R:List Win} {S sl pre post:List OB} (h:Rep w0 X R S w) (hC:Ctx S sl pre post) {B:Nat} {T:TypeId} {c:List Value} (hK:∀ k,k<w.heap.size→k≠B→w'.heap[k]?=w.heap[k]?)
   (h1:w'.os=w.os) (h2:w'.tape=w.tape) (h3:w'.output=w.output) (h4:w.heap.size≤w'.heap.size) (hB:w'.heap[B]?=some (.cells c.toArray T (0,0))) (hn:(∃ e ∈ sl,e.b=B)∨w.heap.size≤B):Rep w0 X R (pre++(⟨B,T,c⟩::post)) w':=by
 have e:=hC.eq
 subst e
 have hne:=h.ne
 have hx:∀ x ∈ pre++post,x.b≠B:=by
  intro x hx hxe
  have hx':x ∈ pre++(sl++post):=by rcases List.mem_append.1 hx with h5 | h5 <;> simp [h5]
  rcases hn with ⟨y,hy,rfl⟩ | hn
  ·rw [List.pairwise_append] at hne
   rcases List.mem_append.1 hx with h5 | h5
   ·exact hne.2.2 x h5 y (by simp [hy]) hxe
   ·exact (List.pairwise_append.1 hne.2.1).2.2 y hy x h5 hxe.symm
  ·have:=h.lt hx'; omega
 have hnew:w0.heap.size≤B:=by
  rcases hn with ⟨y,hy,rfl⟩ | hn
  ·exact h.new y (by simp [hy])
  ·exact Nat.le_trans h.kp.size hn
 have hmem:∀ e ∈ pre++(⟨B,T,c⟩::post),e=⟨B,T,c⟩∨e ∈ pre++post:=by
  intro e he
  rcases List.mem_append.1 he with h5 | h5
  ·exact .inr (by simp [h5])
  ·rcases List.mem_cons.1 h5 with h5 | h5
   ·exact .inl h5
   ·exact .inr (by simp [h5])
 have hold:∀ e ∈ pre++post,e ∈ pre++(sl++post):=by
  intro e he
  rcases List.mem_append.1 he with h5 | h5 <;> simp [h5]
 refine ⟨⟨h1.trans h.kp.os,h2.trans h.kp.tape,h3.trans h.kp.output,Nat.le_trans h.kp.size h4,fun i hi hX=>?_⟩,fun e he=>?_,?_,fun e he=>?_,h.win,?_,h.js,h.xl⟩
 ·rw [hK i (Nat.lt_of_lt_of_le hi h.kp.size) (by omega)]
  exact h.kp.block i hi hX
 ·rcases hmem e he with rfl | h5
  ·exact hB
  ·rw [hK e.b (h.lt (hold e h5)) (hx e h5)]; exact h.own e (hold e h5)
 ·rw [List.pairwise_append] at hne ⊢
  refine ⟨hne.1,List.pairwise_cons.2 ⟨fun y hy=>?_,(List.pairwise_append.1 hne.2.1).2.1⟩,fun x hx' y hy=>?_⟩
  ·exact fun e=>hx y (by simp [hy]) e.symm
  ·rcases List.mem_cons.1 hy with rfl | hy
   ·exact hx x (by simp [hx'])
   ·exact hne.2.2 x hx' y (by simp [hy])
 ·rcases hmem e he with rfl | h5
  ·exact hnew
  ·exact h.new e (hold e h5)
 ·exact h.js w w' h.j fun k hk=>hK k (Nat.lt_of_lt_of_le hk h.kp.size) (by omega)
theorem Rd.kp {w w':World} {z n:Nat} {v:Value} {xs:List Value} (h:Rd w z v n xs) (hk:Kp [] w w'):Rd w' z v n xs:=by
 obtain ⟨p,c,rfl,h1,h2⟩:=h.ex
 refine ⟨h.len,p,c,rfl,h1,?_⟩
 rcases h2 with h2 | ⟨b,o,rfl,hb,hc⟩
 ·exact .inl h2
 ·exact .inr ⟨b,o,rfl,Nat.lt_of_lt_of_le hb hk.size,fun j u hj=>by rw [hk.cell (p:=⟨b,o+j,none⟩) hb (by simp)]; exact hc j u hj⟩
theorem OS.rd {w0 w:World} {X:Fr} {R:List Win} {S sl:List OB} {E:TypeId} {z n:Nat} {v:Value} {xs:List Value} (h:OS sl E z v n xs) (hR:Rep w0 X R S w) (hs:∀ e ∈ sl,e ∈ S):Rd w z v n xs:=by
 refine ⟨h.1,?_⟩
 rcases h.2 with ⟨-,rfl,rfl⟩ | ⟨g,cap,sp,rfl,rfl,h2,h3,h4⟩
 ·exact ⟨none,0,rfl,Nat.le_refl _,.inl rfl⟩
 ·have hm:=hs _ List.mem_cons_self
  refine ⟨_,cap,rfl,h2,.inr ⟨g,0,rfl,hR.lt hm,fun j u hj=>?_⟩⟩
  rw [Nat.zero_add,hR.cells hm]
  simp only
  rw [List.getElem?_append_left (List.getElem?_eq_some_iff.1 hj).1]; exact hj
structure Rw (w:World) (X:Fr) (z:Nat) (v:Value) (n:Nat) (xs:List Value):Prop where
 len:xs.length=n * z
 ex:∃ p c,v=.slice p n c∧n≤c∧(n=0∨∃ b o:Nat,p=some ⟨b,o,none⟩∧b<w.heap.size∧b ∉ X.X∧∀ j u,xs[j]?=some u→w.cell? ⟨b,o+j,none⟩=some u)
theorem Rw.rd {w:World} {X:Fr} {z n:Nat} {v:Value} {xs:List Value} (h:Rw w X z v n xs):Rd w z v n xs:=by
 obtain ⟨p,c,rfl,h1,h2⟩:=h.ex
 exact ⟨h.len,p,c,rfl,h1,h2.imp id fun ⟨b,o,e,hb,_,hc⟩=>⟨b,o,e,hb,hc⟩⟩
theorem Rd.rw {w:World} {z n:Nat} {v:Value} {xs:List Value} (h:Rd w z v n xs):Rw w nof z v n xs:=by
 obtain ⟨p,c,rfl,h1,h2⟩:=h.ex
 exact ⟨h.len,p,c,rfl,h1,h2.imp id fun ⟨b,o,e,hb,hc⟩=>⟨b,o,e,hb,by simp [nof],hc⟩⟩
theorem OS.rw {w0 w:World} {X:Fr} {R:List Win} {S sl pre post:List OB} {E:TypeId} {z n:Nat} {v:Value} {xs:List Value} (h:OS sl E z v n xs) (hR:Rep w0 X R S w) (hC:Ctx S sl pre post):Rw w X z v n xs:=by
 refine ⟨h.1,?_⟩
 rcases h.2 with ⟨-,rfl,rfl⟩ | ⟨g,cap,sp,rfl,rfl,h2,h3,h4⟩
 ·exact ⟨none,0,rfl,Nat.le_refl _,.inl rfl⟩
 ·have hm:=(ZdJ hC).subset List.mem_cons_self
  refine ⟨_,cap,rfl,h2,.inr ⟨g,0,rfl,hR.lt hm,fun hx=>?_,fun j u hj=>?_⟩⟩
  ·have h5:=hR.xl _ hx; have h6:=hR.new _ hm; simp only at h6; omega
  ·rw [Nat.zero_add,hR.cells hm]
   simp only
   rw [List.getElem?_append_left (List.getElem?_eq_some_iff.1 hj).1]; exact hj
theorem OS.rdC {w0 w:World} {X:Fr} {R:List Win} {S sl pre post:List OB} {E:TypeId} {z n:Nat} {v:Value} {xs:List Value} (h:OS sl E z v n xs) (hR:Rep w0 X R S w) (hC:Ctx S sl pre post):Rd w z v n xs:=h.rd hR fun _ he=>(ZdJ hC).subset he
theorem At.rd {w0 w:World} {X:Fr} {R:List Win} {S:List OB} {g:Nat} {T:TypeId} {c:List Value} {z n:Nat} (hR:Rep w0 X R S w) (h:At S g T c) (hl:c.length=n * z):Rd w z (.slice (some ⟨g,0,none⟩) n n) n c :=
 ⟨hl,_,n,rfl,Nat.le_refl _,.inr ⟨g,0,rfl,hR.lt h.mem,fun j u hj=>by rw [Nat.zero_add,hR.cells h.mem]; exact hj⟩⟩
theorem ta (a:List Value) (Z:Array Value):a.toArray++Z=(a++Z.toList).toArray:=by apply Array.ext'; simp
section
variable {P:Program} {w:World}
theorem XI (t ty e:TypeId) (i:TypeInfo) (ht:P.underlying t=some (.slice e)) (hi:P.info? e=some i) (base p:Option Addr) (n cap c:Nat) (h:n≤cap) :
   (Builtin.append_ #[t,t] ty #[.slice base n cap,.slice p 0 c]).run P w=.ok (.slice base n cap) w:=by
 cases p <;> cases base <;> simp [Builtin.append_,run_underlying ht,sizeOf,typeInfo,hi,Builtin.lenOf,h,Builtin.firstCells,loadCells,loadCellsFrom,storeCells]
theorem ZiR {w0:World} {X:Fr} {R:List Win} {S sl pre post:List OB} {t ty E:TypeId} {z bytes n m:Nat} {v x:Value} {xs news:List Value} (hS:Sl P t E z bytes) (hR:Rep w0 X R S w) (ho:OS sl E z v n xs) (hC:Ctx S sl pre post) (hx:Rd w z x m news)
   (h1:news.all Value.oneCell'=true) (hb:(n+m) * bytes≤140737488355328) (hm:n+m≤9223372036854775807) :
   ∃ v' sl' w',(Builtin.append_ #[t,t] ty #[v,x]).run P w=.ok v' w'∧OS sl' E z v' (n+m) (xs++news)∧Rep w0 X R (pre++(sl'++post)) w':=by
 obtain ⟨i,zv,hi,hz,rfl,rfl,hzs⟩:=hS.el
 have ht:=hS.un
 obtain ⟨px,cx,rfl,hmc,hxx⟩:=hx.ex
 have hlen:(xs++news).length=(n+m) * i.size:=by rw [List.length_append,ho.1,hx.len,Nat.add_mul]
 by_cases hm0:m=0
 ·subst hm0
  obtain rfl:news=[]:=List.eq_nil_of_length_eq_zero (by simpa using hx.len)
  rcases ho.2 with ⟨rfl,rfl,rfl⟩ | ⟨g,cap,sp,rfl,rfl,h2,h3,h4⟩
  ·exact ⟨_,[],w,XI t ty E i ht hi _ _ _ _ _ (Nat.le_refl _),⟨by simpa using hlen,.inl ⟨rfl,rfl,rfl⟩⟩,by rw [hC.eq] at hR; exact hR⟩
  ·exact ⟨_,[⟨g,E,xs++sp⟩],w,XI t ty E i ht hi _ _ _ _ _ h2,⟨hlen,.inr ⟨g,cap,sp,by simp,rfl,h2,h3,by simpa using h4⟩⟩,by rw [hC.eq] at hR; exact hR⟩
 ·obtain ⟨b,o,rfl,hbw,hcell⟩:=hxx.resolve_left hm0
  have hnews:∀ j u,news[j]?=some u→w.cell? ((⟨b,o,none⟩:Addr).add j)=some u:=fun j u hj=>by rw [addr_add]; exact hcell j u hj
  have fresh:∀ (need old:Nat) (c:List Value),Rep w0 X R (pre++(⟨w.heap.size,E,c⟩::post)) (w.drew.alloc (.cells c.toArray E)):=fun _ _ c =>
   hR.replace hC (fun k hk _=>Below.heap_alloc w.drew _ _ hk) rfl rfl rfl (by simp) (heap_alloc_new w.drew _) (.inr (Nat.le_refl _))
  rcases ho.2 with ⟨rfl,rfl,rfl⟩ | ⟨g,cap,sp,rfl,rfl,h2,h3,h4⟩
  ·obtain rfl:xs=[]:=List.eq_nil_of_length_eq_zero (by simpa using ho.1)
   have hr:=run_append_nil (P:=P) w t ty E i zv ht hi hz ⟨b,o,none⟩ m cx news hx.len hnews (by omega) (by omega) (by simp only [Nat.zero_add] at hb; omega)
   rw [ta] at hr
   have hge:=grownCap_ge w m 0 E
   have hle:=grownCap_le_maxLen w m 0 E (by unfold maxLen; omega)
   refine ⟨_,[⟨w.heap.size,E,news++(Builtin.zeroCells zv.cells (grownCap w m 0 E - m)).toList⟩],_,hr,⟨hlen,.inr ⟨w.heap.size,grownCap w m 0 E,(Builtin.zeroCells zv.cells (grownCap w m 0 E - m)).toList,by simp,by simp,by omega,hle,?_⟩⟩,?_⟩
   ·simp only [List.nil_append,List.length_append,hx.len,Array.length_toList,size_zeroCells,hzs,← Nat.add_mul]
    congr 1; omega
   ·have:=fresh m 0 (news++(Builtin.zeroCells zv.cells (grownCap w m 0 E - m)).toList)
    exact this
  ·have holds:∀ j u,xs[j]?=some u→w.cell? ((⟨g,0,none⟩:Addr).add j)=some u:=fun j u hj=>by
     have hmem:(⟨g,E,xs++sp⟩:OB) ∈ S:=(ZdJ hC).subset List.mem_cons_self
     rw [addr_add,Nat.zero_add,hR.cells hmem]
     simp only
     rw [List.getElem?_append_left (List.getElem?_eq_some_iff.1 hj).1]; exact hj
   have hmem:(⟨g,E,xs++sp⟩:OB) ∈ S:=(ZdJ hC).subset List.mem_cons_self
   by_cases hroom:n+m≤cap
   ·have hg:=hR.own _ hmem
    have hfit:n * i.size+news.length≤(xs++sp).toArray.size:=by
     rw [List.size_toArray,h4,hx.len,← Nat.add_mul]; exact Nat.mul_le_mul_right _ hroom
    have hr:=run_append_room (P:=P) w t ty E i ht hi g n cap (xs++sp).toArray hg ⟨b,o,none⟩ m cx news hx.len hnews (List.all_eq_true.1 h1) hroom hfit
    have htake:(xs++sp).take (n * i.size)=xs:=by rw [← ho.1]; exact List.take_left
    simp only [htake] at hr
    refine ⟨_,[⟨g,E,(xs++news)++(xs++sp).drop (n * i.size+news.length)⟩],_,hr,⟨hlen,.inr ⟨g,cap,_,rfl,rfl,hroom,h3,?_⟩⟩,?_⟩
    ·simp only [List.length_append,List.length_drop] at h4 ⊢
     have:=hx.len; have h5:=ho.1
     have h6:(n+m) * i.size≤cap * i.size:=Nat.mul_le_mul_right _ hroom
     rw [Nat.add_mul] at h6
     omega
    ·exact hR.replace hC (fun k hk hne=>setRow_other w g k _ hne) rfl rfl rfl (by simp) (setRow_heap w g _ _ _ _ hg) (.inl ⟨_,List.mem_cons_self,rfl⟩)
   ·have hr:=run_append_grow (P:=P) w t ty E i zv ht hi hz ⟨g,0,none⟩ n cap xs ho.1 holds ⟨b,o,none⟩ m cx news hx.len hnews (by omega) (by omega) (growslice_fits (by omega) hb)
    rw [List.append_toArray,ta] at hr
    have hge:=grownCap_ge w (n+m) cap E
    have hle:=grownCap_le_maxLen w (n+m) cap E (by unfold maxLen; omega)
    refine ⟨_,[⟨w.heap.size,E,(xs++news)++(Builtin.zeroCells zv.cells (grownCap w (n+m) cap E - (n+m))).toList⟩],_,hr,⟨hlen,.inr ⟨w.heap.size,grownCap w (n+m) cap E,(Builtin.zeroCells zv.cells (grownCap w (n+m) cap E - (n+m))).toList,rfl,rfl,hge,hle,?_⟩⟩,?_⟩
    ·rw [List.length_append,hlen,Array.length_toList,size_zeroCells,hzs,← Nat.add_mul]
     congr 1; omega
    ·exact fresh (n+m) cap ((xs++news)++(Builtin.zeroCells zv.cells (grownCap w (n+m) cap E - (n+m))).toList)
theorem Zi1 {ops:Array Oper} {Q:Exit→Act→World→Prop} {a:Act} {rest:List Oper} {o:Oper} {w0:World} {X:Fr} {R:List Win} {S sl pre post:List OB} {t E:TypeId} {z bytes n m:Nat} {v x:Value} {xs news:List Value} {s y:Operand} {d:Tmp}
   (hR:Rep w0 X R S w) (hop:o.op=.call { callee:=.builtin .append,args:=#[s,y],argTypes:=#[t,t] }) (hd:o.dst=some d) (hg:o.guard=none) (hs:a.eval s=v) (hy:a.eval y=x) (hS:Sl P t E z bytes) (ho:OS sl E z v n xs) (hC:Ctx S sl pre post) (hx:Rd w z x m news)
   (h1:news.all Value.oneCell'=true) (hb:(n+m) * bytes≤140737488355328) (hm:n+m≤9223372036854775807)
   (h:∀ v' sl' w',OS sl' E z v' (n+m) (xs++news)→Rep w0 X R (pre++(sl'++post)) w'→∃ a',a.put (some d) v'=a'∧wpList P ops Q rest a' w'):wpList P ops Q (o::rest) a w:=by
 obtain ⟨v',sl',w',hr,h2,h3⟩:=ZiR (P:=P) (ty:=o.type) hS hR ho hC hx h1 hb hm
 refine BigFrame.wpList_want (by simp [Region.wanted,hg]) fun K hK=>?_
 unfold Oper.wp execOp
 simp only [hop,resolve,invoke,builtin,Sem.run_bind,Sem.run_pure,Result.andThen_ok,List.map_toArray,List.map_cons,List.map_nil,hs,hy,hr,Oper.upon,hd]
 obtain ⟨a',e,h'⟩:=h v' sl' w' h2 h3
 rw [e]
 exact hK _ _ h'
end
theorem Rep.join {w0 w w':World} {X:Fr} {R:List Win} {S sl:List OB} (h:Rep w0 X R S w) (hk:Rep w nof [] sl w'):Rep w0 X R (sl++S) w':=by
 have h':=h.kp0 hk.kp
 refine ⟨h'.kp,fun e he=>?_,List.pairwise_append.2 ⟨hk.ne,h.ne,fun x hx y hy=>?_⟩,fun e he=>?_,h.win,h'.j,h.js,h.xl⟩
 ·rcases List.mem_append.1 he with he | he
  ·exact hk.own e he
  ·exact h'.own e he
 ·have h1:=h.lt hy; have h2:=hk.new x hx; omega
 ·rcases List.mem_append.1 he with he | he
  ·exact Nat.le_trans h.kp.size (hk.new e he)
  ·exact h.new e he
theorem Rep.rebaseS {w0 w:World} {X:Fr} {R:List Win} {S:List OB} (h:Rep w0 X R S w):Rep w X (R++S.map fun e=>⟨e.b,0,e.c⟩) [] w:=by
 refine ⟨Kp.refl _ _,by simp,.nil,by simp,fun r hr=>?_,h.j,fun w1 w2 hj hk=>h.js w1 w2 hj fun k hk'=>hk k (Nat.lt_of_lt_of_le hk' h.kp.size),fun x hx=>Nat.lt_of_lt_of_le (h.xl x hx) h.kp.size⟩
 rcases List.mem_append.1 hr with hr | hr
 ·obtain ⟨h1,h2,h3⟩:=h.win r hr
  exact ⟨Nat.lt_of_lt_of_le h1 h.kp.size,h2,fun j v hj=>by rw [h.kp.cell (p:=⟨r.b,r.o+j,none⟩) h1 h2]; exact h3 j v hj⟩
 ·obtain ⟨e,he,rfl⟩:=List.mem_map.1 hr
  refine ⟨h.lt he,fun hm=>?_,fun j v hj=>?_⟩
  ·have:=h.xl _ hm; have:=h.new e he; simp only at *; omega
  ·rw [Nat.zero_add,h.cells he]; exact hj
end Go.Proofs.YtkcmgbbopedacaaGreatDoor
namespace Go.Proofs.YtkcmgbbopedacaaGreatDoor
open Go.RowKit
theorem ZiK:∀ (vs:List Value) (k off:Nat) (cells:Array Value),off+k+vs.length≤cells.size →
   (vs.zipIdx k).foldl (fun cs (x:Value × Nat)=>cs.setIfInBounds (off+x.2) x.1) cells=(cells.toList.take (off+k)++vs++cells.toList.drop (off+k+vs.length)).toArray
 | [],k,off,cells,_=>by simp
 | v::vs,k,off,cells,h=>by
  simp only [List.zipIdx_cons,List.foldl_cons]
  simp only [List.length_cons] at h
  rw [ZiK vs (k+1) off _ (by simp; omega)]
  have h2:=list_seg_step cells.toList (off+k) v vs (by simp; omega)
  rw [show off+(k+1)=off+k+1 by omega]
  have h3:(cells.setIfInBounds (off+k) v).toList=cells.toList.set (off+k) v:=by simp
  rw [h3]
  exact congrArg List.toArray h2
def flat:List (Nat × Value)→List Value
 | []=>[]
 | p::r=>p.2.cells.toList++flat r
def Zho (z:Nat):Nat→List (Nat × Value)→Bool
 | _,[]=>true
 | k,p::r=>p.1 == k && p.2.cells.size == z && Zho z (k+1) r
theorem Zmg (z:Nat):∀ (l:List (Nat × Value)) (k:Nat) (cells:Array Value),Zho z k l=true→cells.size=(k+l.length) * z →
   Instr.fill (fun i=>some (i * z,z)) cells l=some (cells.toList.take (k * z)++flat l).toArray
 | [],k,cells,_,h=>by
  simp only [Instr.fill,flat,List.append_nil]
  rw [List.take_of_length_le (by simp [h])]
 | p::r,k,cells,h,hc=>by
  obtain ⟨i,v⟩:=p
  simp only [Zho,Bool.and_eq_true,beq_iff_eq] at h
  obtain ⟨⟨rfl,hz⟩,hr⟩:=h
  simp only [List.length_cons] at hc
  have hb:¬ (v.cells.size≠z∨i * z+v.cells.size > cells.size):=by
   rw [hz,hc]; simp only [ne_eq,not_true,false_or]
   have:(i+(r.length+1)) * z=i * z+z+r.length * z:=by rw [Nat.add_mul,Nat.add_mul]; omega
   omega
  simp only [Instr.fill]
  rw [if_neg (by simpa using hb)]
  have hf:=ZiK v.cells.toList 0 (i * z) cells (by
   have:(i+(r.length+1)) * z=i * z+z+r.length * z:=by rw [Nat.add_mul,Nat.add_mul]; omega
   simp [hz,hc]; omega)
  have he:(v.cells.zipIdx.foldl (fun cs (x:Value × Nat)=>cs.setIfInBounds (i * z+x.2) x.1) cells)=(cells.toList.take (i * z+0)++v.cells.toList++cells.toList.drop (i * z+0+v.cells.toList.length)).toArray:=by
   rw [← hf,← Array.foldl_toList,Array.toList_zipIdx]
  rw [he,Zmg z r (i+1) _ hr (by
   have:(i+(r.length+1)) * z=i * z+z+r.length * z:=by rw [Nat.add_mul,Nat.add_mul]; omega
   have h2:(i+1+r.length) * z=i * z+z+r.length * z:=by rw [Nat.add_mul,Nat.add_mul]; omega
   simp [hz,hc]; omega)]
  congr 2
  have h2:(i+1) * z=i * z+z:=by rw [Nat.add_mul]; omega
  have h3:(i+(r.length+1)) * z=i * z+z+r.length * z:=by rw [Nat.add_mul,Nat.add_mul]; omega
  simp only [Nat.add_zero,h2,flat]
  rw [List.take_append_of_le_length (by simp [hz,hc]),List.take_of_length_le (by simp [hz,hc])]
  simp
theorem Zgj (l:List Value) (d:List Deferred) (t:Nat):(Act.mk l.toArray d).eval (.tmp t)=l.getD t undef:=by simp [Act.eval,List.getD]
theorem Zgr (a:Act) (v:Value):a.eval (.const v)=v:=rfl
theorem ZjC (c:Array Value):(Value.agg c).cells=c:=rfl
theorem ZhO (x:Bool):(Value.bool x).cells=#[.bool x]:=rfl
theorem Zjs (k:IntKind) (x:Int):(Value.int k x).cells=#[.int k x]:=rfl
theorem ZjY (x:ByteArray):(Value.string x).cells=#[.string x]:=rfl
theorem Zmt (p:Option Addr) (n c:Nat):(Value.slice p n c).cells=#[.slice p n c]:=rfl
theorem ZjS (p:Option Addr):(Value.pointer p).cells=#[.pointer p]:=rfl
theorem Zjv (p:Option Nat):(Value.map p).cells=#[.map p]:=rfl
theorem ZmD (f:Fn) (x y:Array Value):(Value.func f x y).cells=#[.func f x y]:=rfl
section
variable {P:Program} {ops:Array Oper} {Q:Exit→Act→World→Prop} {a:Act} {w w0:World} {rest:List Oper} {o:Oper} {X:Fr} {R:List Win} {S:List OB}
theorem ZoJ {t E:TypeId} {z bytes:Nat} (hS:Sl P t E z bytes) (parts:Array (Nat × Value)) (h:Zho z 0 parts.toList=true) (hl:parts.size * z≤16777216) :
   (Instr.buildSlice t parts.size parts).run P w=.ok (.slice (some ⟨w.heap.size,0,none⟩) parts.size parts.size) (w.alloc (.cells (flat parts.toList).toArray E)):=by
 obtain ⟨i,zv,hi,hz,rfl,rfl,hzs⟩:=hS.el
 have hf:=fun (c:Array Value) (hc:c.size=parts.size * i.size)=>Zmg i.size parts.toList 0 c h (by simpa using hc)
 simp only [Nat.zero_mul,List.take_zero,List.nil_append] at hf
 unfold Instr.buildSlice
 have hu:(underlying t).run P w=.ok (.slice E) w:=run_underlying hS.un w
 simp only [Sem.run_bind,hu,Result.andThen_ok,sizeOf,typeInfo,program,Sem.run,hi,Sem.run_pure]
 rw [if_neg (by omega)]
 by_cases h0:parts.size * i.size=0
 ·rw [if_pos h0]
  simp [hf #[] (by simp [h0]),hf,h0,newRow]
 ·rw [if_neg h0]
  simp [hf,zeroValue,typeInfo,hi,hz,newRow]
theorem Zqd (hR:Rep w0 X R S w) {t E:TypeId} {z bytes len:Nat} {parts:Array (Nat × Operand)} {d:Tmp} {l:List Value} (hop:o.op=.buildSlice t len parts) (hd:o.dst=some d) (hg:o.guard=none) (hS:Sl P t E z bytes)
   (hp:(Zho z 0 (parts.toList.map fun p=>(p.1,a.eval p.2)) && (parts.size == len) && decide (parts.size * z≤16777216))=true) (hl:flat (parts.toList.map fun p=>(p.1,a.eval p.2))=l)
   (h:∀ w' B,Rep w0 X R (⟨B,E,l⟩::S) w'→∃ a',a.put (some d) (.slice (some ⟨B,0,none⟩) len len)=a'∧wpList P ops Q rest a' w'):wpList P ops Q (o::rest) a w:=by
 simp only [Bool.and_eq_true,beq_iff_eq,decide_eq_true_eq] at hp
 obtain ⟨⟨hp,rfl⟩,hs⟩:=hp
 have hr:=ZoJ (P:=P) (w:=w) hS (parts.map fun p=>(p.1,a.eval p.2)) (by simpa using hp) (by simpa using hs)
 simp only [Array.size_map] at hr
 have hl':flat (parts.map fun p=>(p.1,a.eval p.2)).toList=l:=by rw [← hl]; simp
 rw [hl'] at hr
 refine BigFrame.wpList_want (by simp [Region.wanted,hg]) fun K hK=>?_
 unfold Oper.wp execOp
 rw [hop]
 simp only [Sem.run_bind,Sem.run_pure,Result.andThen_ok,hr,Oper.upon,hd]
 obtain ⟨a',e,h'⟩:=h _ w.heap.size (by simpa using hR.alloc E l.toArray)
 rw [e]
 exact hK _ _ h'
theorem ZmF {T:TypeId} {z:List Value} (hz:Zu P T z) {o:Oper} (ho:o.op=.alloc T) (ρ:Operand→Value) (w:World):(execOp ρ o).run P w=.ok (.value (.pointer (some ⟨w.heap.size,0,none⟩))) (w.alloc (.cells z.toArray T)):=by
 unfold Zu at hz
 cases hi:P.info? T with
 | none=>simp [hi] at hz
 | some i =>
  cases hzv:i.zero with
  | none=>simp [hi,hzv] at hz
  | some zv =>
   simp [hi,hzv] at hz
   unfold execOp; rw [ho]
   simp [Instr.alloc,zeroValue,typeInfo,hi,hzv,newVar,newRow,← hz]
end
end Go.Proofs.YtkcmgbbopedacaaGreatDoor
namespace Go.Proofs.YtkcmgbbopedacaaGreatDoor
open Go.RowKit
abbrev vI (n:Int):V:=.d (.c (.int .i64 n))
abbrev vB (b:Bool):V:=.d (.c (.bool b))
abbrev vS (s:ByteArray):V:=.d (.c (.string s))
abbrev dI (n:Int):D:=.c (.int .i64 n)
abbrev dB (b:Bool):D:=.c (.bool b)
abbrev dS (s:ByteArray):D:=.c (.string s)
def ev (sl:List (Nat × V)):Operand→Option V
 | .tmp t=>look sl t
 | .const (.agg cs)=>bif cs.all Value.oneCell' then some (.a (cs.toList.map fun v=>.d (.c v))) else none
 | .const v=>bif v.oneCell' then some (.d (.c v)) else none
 | .global _=>none
 | .func f=>some (.d (.c (.func (.func f) #[] #[])))
theorem Zot {w:World} {ok:Nat→Prop} {ρ:Lc}:∀ {l:List Value},(∀ v ∈ l,v.oneCell'=true)→RVs w ok ρ (l.map fun v=>.d (.c v)) l
 | [],_=>.nil
 | v::l,h=>.cons (.d (.c (h v List.mem_cons_self))) (Zot fun u hu=>h u (List.mem_cons_of_mem _ hu))
theorem Zp {B:Nat→Prop} {sl:List (Nat × V)} {ρ:Lc} {a:Act} {w:World} (hs:SR B sl ρ a w):∀ {x:Operand} {u:V},ev sl x=some u→RV w (okb B w ρ) ρ u (a.eval x)
 | .tmp t,u,h=>by
  obtain ⟨v,h1,h2⟩:=hs t u h
  simp only [Act.eval,Array.getD_eq_getD_getElem?,h1,Option.getD_some]; exact h2
 | .const v,u,h=>by
  simp only [Act.eval]
  cases v with
  | agg cs =>
   simp only [ev] at h
   cases hb:cs.all Value.oneCell' with
   | false=>rw [hb] at h; cases h
   | true =>
    rw [hb] at h
    obtain rfl:=Option.some.inj h
    have:Value.agg cs=.agg cs.toList.toArray:=by simp
    rw [this]
    exact .a (Zot fun v hv=>by rw [Array.all_eq_true_iff_forall_mem] at hb; exact hb v (by simpa using hv))
  | tuple vs=>simp [ev,Value.oneCell'] at h
  | _=>simp [ev,Value.oneCell'] at h; subst h; exact .d (.c rfl)
 | .global g,u,h=>by simp [ev] at h
 | .func f,u,h=>by
  simp only [ev,Option.some.injEq] at h; subst h
  exact .d (.c rfl)
theorem ZbM {w:World} {ok:Nat→Prop} {ρ:Lc} {v u:Value} (h:RV w ok ρ (.d (.c v)) u):u=v:=by
 cases h with | d h=>cases h; rfl
theorem Zrr {w:World} {ok:Nat→Prop} {ρ:Lc} {xs:List V} {u:Value} (h:RV w ok ρ (.a xs) u):∃ vs,u=.agg (List.toArray vs)∧RVs w ok ρ xs vs:=by
 cases h with | a h=>exact ⟨_,rfl,h⟩
theorem Zxq {w:World} {ok:Nat→Prop} {ρ:Lc} {xs:List V} {u:Value} (h:RV w ok ρ (.t xs) u):∃ vs,u=.tuple (List.toArray vs)∧RVs w ok ρ xs vs:=by
 cases h with | t h=>exact ⟨_,rfl,h⟩
def Zq:V→List V
 | .a xs=>xs
 | u=>[u]
def cellV:V→Bool
 | .a _=>false
 | .t _=>false
 | .un=>false
 | _=>true
section
variable {w:World} {ok:Nat→Prop} {ρ:Lc}
theorem RV.one {u:V} {v:Value} (h:RV w ok ρ u v) (hc:cellV u=true):v.oneCell'=true:=by
 cases h <;> first | rfl | (simp [cellV] at hc; done) | skip
 rename_i h; exact h.one
theorem RVs.one:∀ {us:List V} {vs:List Value},RVs w ok ρ us vs→us.all cellV=true→vs.all Value.oneCell'=true
 | _,_,.nil,_=>rfl
 | _,_,.cons h1 h2,hc=>by
  simp only [List.all_cons,Bool.and_eq_true] at hc
  simp [h1.one hc.1,h2.one hc.2]
theorem cells_one {v:Value} (h:v.oneCell'=true):v.cells=#[v]:=by
 cases v <;> first | rfl | simp [Value.oneCell'] at h
theorem RV.cells {u:V} {v:Value} (h:RV w ok ρ u v) (hc:(Zq u).all cellV=true):RVs w ok ρ (Zq u) v.cells.toList∧v.cells.toList.all Value.oneCell'=true:=by
 have gen:∀ {u:V},Zq u=[u]→RV w ok ρ u v→(Zq u).all cellV=true→RVs w ok ρ (Zq u) v.cells.toList∧v.cells.toList.all Value.oneCell'=true:=by
  intro u e h hc
  rw [e] at hc ⊢
  have h1:=h.one (by simpa using hc)
  rw [cells_one h1]
  exact ⟨.cons h .nil,by simp [h1]⟩
 cases u with
 | a xs =>
  obtain ⟨vs,rfl,h1⟩:=Zrr h
  simp only [Zq] at hc ⊢
  exact ⟨by simpa [Value.cells] using h1,by simpa [Value.cells] using h1.one hc⟩
 | _=>exact gen rfl h hc
end
def upd (ρ:Lc) (k:Nat) (l:Loc):Lc:=fun j=>if j=k then some l else ρ j
theorem Y0 (ρ:Lc) (k:Nat) (l:Loc):upd ρ k l k=some l:=by simp [upd]
theorem ZbZ {ρ:Lc} {k:Nat} {l:Loc} (hk:ρ k=none):Ext ρ (upd ρ k l):=fun j l' hj=>by
 unfold upd
 split
 ·subst_vars; rw [hk] at hj; cases hj
 ·exact hj
theorem ZeY {α:Type} {k j:Nat} {x:α} (h:look [(k,x)] j≠none):j=k:=by
 rw [Zo] at h
 split at h
 ·exact Eq.symm (by assumption)
 ·simp [look] at h
theorem ZaL {α:Type} {k j:Nat} {x y:α} (h:look [(k,x)] j=some y):j=k∧y=x:=by
 rw [Zo] at h
 split at h
 ·exact ⟨Eq.symm (by assumption),(Option.some.inj h).symm⟩
 ·simp [look] at h
theorem Zad {ρ:Lc} {k j:Nat} {l l':Loc} (h:upd ρ k l j=some l'):(j=k∧l'=l)∨ρ j=some l':=by
 unfold upd at h
 split at h
 ·exact .inl ⟨by assumption,(Option.some.inj h).symm⟩
 ·exact .inr h
theorem Step.new1 {B:Nat→Prop} {H:Hp} {ρ:Lc} {w w':World} {k:Nat} {l:Loc} {blk:Blk} {ob:Obj} (hk:ρ k=none) (hl:∀ b,l.bl b→b=w.heap.size) (hw:w'=w.alloc ob∨w'=w.drew.alloc ob)
   (hrel:∀ ok' ρ',Stl w w' (okb B w ρ) ok'→Ext ρ ρ'→w'.heap[w.heap.size]?=some ob→blk.rel w' ok' ρ' l):Step B H [(k,some blk)] ρ (upd ρ k l) w w':=by
 have hsz:w'.heap.size=w.heap.size+1:=by rcases hw with rfl | rfl <;> simp
 have hold:∀ b,b<w.heap.size→w'.heap[b]?=w.heap[b]?:=fun b hb=>by rcases hw with rfl | rfl <;> exact Below.heap_alloc _ _ _ hb
 have hnew:w'.heap[w.heap.size]?=some ob:=by
  rcases hw with rfl | rfl
  ·exact heap_alloc_new w _
  ·exact heap_alloc_new w.drew _
 have hst:Stl w w' (okb B w ρ) (okb B w' (upd ρ k l)):=fun b ⟨hb,hB,ho⟩=>⟨⟨by omega,hB,fun j l' hj e=>by
  rcases Zad hj with ⟨-,rfl⟩ | hj
  ·have:=hl _ e; omega
  ·exact ho j l' hj e⟩,hold b hb⟩
 refine ⟨by rcases hw with rfl | rfl <;> rfl,by rcases hw with rfl | rfl <;> rfl,by rcases hw with rfl | rfl <;> rfl,by omega,ZbZ hk,fun j l' hj=>?_,fun b hb _=>hold b hb,fun j hj hn=>?_,fun j blk' hj=>?_,fun j j' _ _ _ _ _ hj hj' _ _ _ _=>?_⟩
 ·rcases Zad hj with ⟨rfl,rfl⟩ | hj
  ·exact .inr ⟨hk,by simp [look],fun b e=>.inl (by have:=hl _ e; omega)⟩
  ·exact .inl hj
 ·obtain rfl:=ZeY hj
  exact absurd hk hn
 ·obtain ⟨rfl,e⟩:=ZaL hj
  obtain rfl:=Option.some.inj e
  exact ⟨l,Y0 _ _ _,hrel _ _ hst (ZbZ hk) hnew⟩
 ·exact (ZaL hj).1.trans (ZaL hj').1.symm
theorem Step.set1 {B:Nat→Prop} {H:Hp} {ρ:Lc} {w w':World} {k b:Nat} {l:Loc} {blk blk0:Blk} (hk:ρ k=some l) (hH:look H k=some (some blk0)) (hl:l.bl b) (hh:w'.heap.size=w.heap.size) (h1:w'.os=w.os) (h2:w'.tape=w.tape) (h3:w'.output=w.output)
   (hoth:∀ j,j≠b→w'.heap[j]?=w.heap[j]?) (hrel:∀ ok',Stl w w' (okb B w ρ) ok'→blk.rel w' ok' ρ l):Step B H [(k,some blk)] ρ ρ w w':=by
 have hst:Stl w w' (okb B w ρ) (okb B w' ρ):=fun c ⟨hb,hB,ho⟩=>⟨⟨by omega,hB,ho⟩,hoth c fun e=>ho k l hk (by rw [e]; exact hl)⟩
 refine ⟨h1,h2,h3,by omega,fun _ _ h=>h,fun j l' hj=>.inl hj,fun c hc hn=>hoth c fun e=>hn k l (by simp [look]) hk (by rw [e]; exact hl),fun j hj _=>?_,fun j blk' hj=>?_,fun j j' _ _ _ _ _ hj hj' _ _ _ _=>?_⟩
 ·obtain rfl:=ZeY hj; exact ⟨_,hH⟩
 ·obtain ⟨rfl,e⟩:=ZaL hj
  obtain rfl:=Option.some.inj e
  exact ⟨l,hk,hrel _ hst⟩
 ·exact (ZaL hj).1.trans (ZaL hj').1.symm
def OpV (P:Program) (o:Oper) (H:Hp) (sl:List (Nat × V)) (lo nn:Nat) (ψ:V→Hp→Prop):Prop :=
 ∀ (B:Nat→Prop) (a:Act) (w:World) (ρ:Lc),(∀ b,w.heap.size≤b→B b)→a.defers=[]→SR B sl ρ a w→HR B H ρ w→(∀ k,lo≤k→k<lo+nn→ρ k=none) →
  o.wp P a w (fun a' w'=>∃ v u h ρ',a'=a.put o.dst v∧ψ u h∧Step B H h ρ ρ' w w'∧RV w' (okb B w' ρ') ρ' u v) (fun _ _ _=>False)
def OpD (P:Program) (o:Oper) (H:Hp) (sl:List (Nat × V)) (lo nn:Nat) (u:V) (h:Hp):Prop :=
 ∀ (B:Nat→Prop) (a:Act) (w:World) (ρ:Lc),SR B sl ρ a w→HR B H ρ w→(∀ k,lo≤k→k<lo+nn→ρ k=none) →
  ∃ n v w' ρ',(execOp a.eval o).run P w=.ok n w'∧(n=.value v∨n=.skip∧v=undef)∧Step B H h ρ ρ' w w'∧RV w' (okb B w' ρ') ρ' u v
theorem OpD.v {P:Program} {o:Oper} {H:Hp} {sl:List (Nat × V)} {lo nn:Nat} {u:V} {h:Hp} (hd:OpD P o H sl lo nn u h):OpV P o H sl lo nn fun u' h'=>u'=u∧h'=h:=by
 intro B a w ρ _ _ h1 h2 h3
 obtain ⟨n,v,w',ρ',hr,hn,hs,hv⟩:=hd B a w ρ h1 h2 h3
 unfold Oper.wp
 rw [hr]
 rcases hn with rfl | ⟨rfl,rfl⟩
 ·exact ⟨v,u,h,ρ',rfl,⟨rfl,rfl⟩,hs,hv⟩
 ·exact ⟨undef,u,h,ρ',rfl,⟨rfl,rfl⟩,hs,hv⟩
section
variable {P:Program} {o:Oper} {H:Hp} {sl:List (Nat × V)} {lo nn:Nat} {u ux uy:V} {h:Hp} {x y z:Operand} {T U:TypeId} {n k:Nat} {ag:Bool} {cs cs':List V}
theorem OpD.read (hv:∀ (B:Nat→Prop) (a:Act) (w:World) (ρ:Lc),SR B sl ρ a w→HR B H ρ w→∃ v,(execOp a.eval o).run P w=.ok (.value v) w∧RV w (okb B w ρ) ρ u v):OpD P o H sl 0 0 u []:=fun B a w ρ h1 h2 _=>by
 obtain ⟨v,h3,h4⟩:=hv B a w ρ h1 h2
 exact ⟨_,v,w,ρ,h3,.inl rfl,Step.refl _ _ _,h4⟩
theorem ZlL (hop:o.op=.move x) (hx:ev sl x=some u):OpD P o H sl 0 0 u []:=.read fun B a w ρ h1 _=>⟨_,by unfold execOp; rw [hop]; rfl,Zp h1 hx⟩
theorem Zgq (hop:o.op=.assign x) (hx:ev sl x=some u):OpD P o H sl 0 0 u []:=.read fun B a w ρ h1 _=>⟨_,by unfold execOp; rw [hop]; rfl,Zp h1 hx⟩
theorem ZlD {b:Bool} (hop:o.op=.pick z x y) (hc:ev sl z=some (vB b)) (hx:ev sl (bif b then x else y)=some u):OpD P o H sl 0 0 u []:=.read fun B a w ρ h1 _=>by
 have hz:=ZbM (Zp h1 hc)
 refine ⟨_,?_,Zp h1 hx⟩
 unfold execOp; rw [hop]
 simp only [hz,asBool,Sem.run_bind,Sem.run_pure,Result.andThen_ok]
 cases b <;> rfl
def Zy6:Value→Bool
 | .nilIface=>false
 | .agg _=>false
 | _=>true
theorem Zcv {op:BinOp} {vx vy r:Value} (hop:o.op=.binOp op T x y U) (hx:ev sl x=some (.d (.c vx))) (hy:ev sl y=some (.d (.c vy))) (hr:∀ w,(binOp op T vx vy).run P w=.ok r w) (hn:Zy6 vx=true) (h1:r.oneCell'=true):OpD P o H sl 0 0 (.d (.c r)) []:=.read fun B a w ρ hs _=>by
 have e1:=ZbM (Zp hs hx)
 have e2:=ZbM (Zp hs hy)
 refine ⟨r,?_,.d (.c h1)⟩
 unfold execOp; rw [hop]
 have hg:(eqGuard op T x y vx vy).run P w=.ok () w:=by
  unfold eqGuard
  cases vx <;> first | (simp [Zy6] at hn; done) | (cases op <;> rfl)
 simp only [e1,e2,Sem.run_bind,hg,Result.andThen_ok,hr,Sem.run_pure]
end
end Go.Proofs.YtkcmgbbopedacaaGreatDoor
