/-
  Lemmas: Regions that draw their order, over states
-/
import Derived.Test.YtkcmgbbopedacaaGreatDoorPZ4
import Derived.IntWalk
import Derived.Laws.StructEq
set_option linter.unusedSimpArgs false
set_option linter.unusedVariables false
namespace Go.Proofs.YtkcmgbbopedacaaGreatDoor
open Go.RowKit
attribute [local simp] Sem.run_bind Sem.run_pure Result.andThen_ok
section
variable {P:Program} {o:Oper} {H:Hp} {sl:List (Nat × V)} {x y:Operand} {T U:TypeId} {k:IntKind} {a b z:Int} {s t:ByteArray}
theorem YZ (hop:o.op=.binOp .add T x y U) (hx:ev sl x=some (.d (.c (.int k a)))) (hy:ev sl y=some (.d (.c (.int k b)))) (hz:k.wrap (a+b)=z):OpD P o H sl 0 0 (.d (.c (.int k z))) []:=Zcv hop hx hy (fun w=>by subst hz; simp [binOp,Op.intArith]) rfl rfl
theorem Zjd (hop:o.op=.binOp .sub T x y U) (hx:ev sl x=some (.d (.c (.int k a)))) (hy:ev sl y=some (.d (.c (.int k b)))) (hz:k.wrap (a - b)=z):OpD P o H sl 0 0 (.d (.c (.int k z))) []:=Zcv hop hx hy (fun w=>by subst hz; simp [binOp,Op.intArith]) rfl rfl
theorem Zr1 (hop:o.op=.binOp .mul T x y U) (hx:ev sl x=some (.d (.c (.int k a)))) (hy:ev sl y=some (.d (.c (.int k b)))) (hz:k.wrap (a * b)=z):OpD P o H sl 0 0 (.d (.c (.int k z))) []:=Zcv hop hx hy (fun w=>by subst hz; simp [binOp,Op.intArith]) rfl rfl
theorem Zrw (hop:o.op=.binOp .lss T x y U) (hx:ev sl x=some (.d (.c (.int k a)))) (hy:ev sl y=some (.d (.c (.int k b)))):OpD P o H sl 0 0 (vB (decide (a<b))) []:=Zcv hop hx hy (fun w=>by simp [binOp,Op.intCmp]) rfl rfl
theorem ZrV (hop:o.op=.binOp .leq T x y U) (hx:ev sl x=some (.d (.c (.int k a)))) (hy:ev sl y=some (.d (.c (.int k b)))):OpD P o H sl 0 0 (vB (decide (a≤b))) []:=Zcv hop hx hy (fun w=>by simp [binOp,Op.intCmp]) rfl rfl
theorem ZrW (hop:o.op=.binOp .gtr T x y U) (hx:ev sl x=some (.d (.c (.int k a)))) (hy:ev sl y=some (.d (.c (.int k b)))):OpD P o H sl 0 0 (vB (decide (b<a))) []:=Zcv hop hx hy (fun w=>by simp [binOp,Op.intCmp]) rfl rfl
theorem ZrJ (hop:o.op=.binOp .geq T x y U) (hx:ev sl x=some (.d (.c (.int k a)))) (hy:ev sl y=some (.d (.c (.int k b)))):OpD P o H sl 0 0 (vB (decide (b≤a))) []:=Zcv hop hx hy (fun w=>by simp [binOp,Op.intCmp]) rfl rfl
theorem ZrP (hop:o.op=.binOp .eql T x y U) (hx:ev sl x=some (.d (.c (.int k a)))) (hy:ev sl y=some (.d (.c (.int k b)))):OpD P o H sl 0 0 (vB (decide (a=b))) []:=Zcv hop hx hy (fun w=>by simp [binOp,Op.intCmp]; rfl) rfl rfl
theorem Zry (hop:o.op=.binOp .neq T x y U) (hx:ev sl x=some (.d (.c (.int k a)))) (hy:ev sl y=some (.d (.c (.int k b)))):OpD P o H sl 0 0 (vB (!decide (a=b))) []:=Zcv hop hx hy (fun w=>by simp [binOp,Op.intCmp]; rfl) rfl rfl
theorem ZeQ (s t:ByteArray):(s.toList == t.toList)=decide (s=t):=by
 by_cases h:s=t
 ·subst h; simp
 ·have:¬ s.toList=t.toList:=fun e=>h (by
    rw [ByteArray.toList_eq,ByteArray.toList_eq] at e
    cases s; cases t; simp only at e; congr; exact Array.ext' e)
  simp [h,this]
theorem Zti (s t:ByteArray):(!(bl s t || (s.toList == t.toList)))=bl t s:=by
 cases h1:bl s t
 ·cases h2:bl t s
  ·have:=YW h1 h2
   simp [this]
  ·cases h3:(s.toList == t.toList)
   ·rfl
   ·simp only [beq_iff_eq] at h3
    rw [bl,h3,YA] at h2; cases h2
 ·simp only [Bool.true_or,Bool.not_true]
  exact (Xd h1).symm
theorem Zrx (hop:o.op=.binOp .lss T x y U) (hx:ev sl x=some (vS s)) (hy:ev sl y=some (vS t)):OpD P o H sl 0 0 (vB (bl s t)) []:=Zcv hop hx hy (fun w=>by simp [binOp,Op.stringOp]) rfl rfl
theorem ZrA (hop:o.op=.binOp .gtr T x y U) (hx:ev sl x=some (vS s)) (hy:ev sl y=some (vS t)):OpD P o H sl 0 0 (vB (bl t s)) []:=Zcv hop hx hy (fun w=>by rw [← Zti]; simp [binOp,Op.stringOp]) rfl rfl
theorem ZrX (hop:o.op=.binOp .leq T x y U) (hx:ev sl x=some (vS s)) (hy:ev sl y=some (vS t)):OpD P o H sl 0 0 (vB (!bl t s)) []:=Zcv hop hx hy (fun w=>by rw [← Zti]; simp [binOp,Op.stringOp]) rfl rfl
theorem Zrv (hop:o.op=.binOp .geq T x y U) (hx:ev sl x=some (vS s)) (hy:ev sl y=some (vS t)):OpD P o H sl 0 0 (vB (!bl s t)) []:=Zcv hop hx hy (fun w=>by simp [binOp,Op.stringOp]) rfl rfl
theorem ZrL (hop:o.op=.binOp .eql T x y U) (hx:ev sl x=some (vS s)) (hy:ev sl y=some (vS t)):OpD P o H sl 0 0 (vB (decide (s=t))) []:=Zcv hop hx hy (fun w=>by rw [← ZeQ]; simp [binOp,Op.stringOp]) rfl rfl
theorem ZrU (hop:o.op=.binOp .neq T x y U) (hx:ev sl x=some (vS s)) (hy:ev sl y=some (vS t)):OpD P o H sl 0 0 (vB (!decide (s=t))) []:=Zcv hop hx hy (fun w=>by rw [← ZeQ]; simp [binOp,Op.stringOp]) rfl rfl
theorem ZoI (hop:o.op=.binOp .add T x y U) (hx:ev sl x=some (vS s)) (hy:ev sl y=some (vS t)) (hl:s.size+t.size≤9223372036854775807):OpD P o H sl 0 0 (vS (s++t)) []:=Zcv hop hx hy (fun w=>by
 have h1:¬ (IntKind.i64.max<((s.size+t.size:Nat):Int)):=by have:IntKind.i64.max=9223372036854775807:=by decide
                                                           rw [this]; omega
 simp only [binOp,Op.stringOp]
 rw [if_neg (by simpa using h1)]; simp) rfl rfl
theorem ZrF {p q:Bool} (hop:o.op=.binOp .eql T x y U) (hx:ev sl x=some (vB p)) (hy:ev sl y=some (vB q)) (hT:P.underlying T=some .bool):OpD P o H sl 0 0 (vB (p == q)) []:=Zcv hop hx hy (fun w=>by
 have:=run_equalIn_bool' (P:=P) w 9999 T p q hT
 simp only [Nat.reduceAdd] at this
 simp only [binOp,Op.equal,Op.maxDepth,Sem.run_bind,this,Result.andThen_ok,Sem.run_pure]) rfl rfl
theorem ZrR {p q:Bool} (hop:o.op=.binOp .neq T x y U) (hx:ev sl x=some (vB p)) (hy:ev sl y=some (vB q)) (hT:P.underlying T=some .bool):OpD P o H sl 0 0 (vB (!(p == q))) []:=Zcv hop hx hy (fun w=>by
 have:=run_equalIn_bool' (P:=P) w 9999 T p q hT
 simp only [Nat.reduceAdd] at this
 simp only [binOp,Op.equal,Op.maxDepth,Sem.run_bind,this,Result.andThen_ok,Sem.run_pure]) rfl rfl
end
theorem w64 {a:Int} (h1 : -9223372036854775808≤a) (h2:a≤9223372036854775807):IntKind.i64.wrap a=a:=IntWalk.i64_in _ (by omega)
section
variable {Γ:Cx} {k:Zcc} {sl:List (Nat × V)} {hp:Hp} {o:Oper} {rest:List Oper} {ops:Array Oper}
theorem Zwc {j t:Nat} {oj:Oper} {b c:Bool} (hg:o.guard=some (j,b)) (hj:ops[j]?=some oj) (ht:oj.dst=some t) (hb:look sl t=some (vB c)) (h1:c=true→WL Γ ops (o::rest) k ⟨(t,vB true)::sl,hp⟩) (h2:c=false→WL Γ ops (o::rest) k ⟨(t,vB false)::sl,hp⟩):WL Γ ops (o::rest) k ⟨sl,hp⟩:=by
 clear hg hj ht
 exact Zr7 t hb h1 h2
end
end Go.Proofs.YtkcmgbbopedacaaGreatDoor
namespace Go.Proofs.YtkcmgbbopedacaaGreatDoor
open Go.RowKit
def Zgy (t:Nat):List Nat→Bool
 | []=>false
 | s::r=>bif Nat.beq s t then true else Zgy t r
theorem Ze4 {t:Nat}:∀ {l:List Nat},Zgy t l=true↔t ∈ l
 | []=>by simp [Zgy]
 | s::r=>by
  rw [Zgy]
  by_cases h:s=t
  ·subst h; simp
  ·have:Nat.beq s t=false:=by cases hb:Nat.beq s t; rfl; exact absurd (Nat.eq_of_beq_eq_true hb) h
   rw [this,cond_false,Ze4,List.mem_cons]
   constructor
   ·exact .inr
   ·rintro (rfl | h2)
    ·exact absurd rfl h
    ·exact h2
def keep {α:Type} (ts:List Nat):List (Nat × α)→List (Nat × α)
 | []=>[]
 | (k,v)::r=>bif Zgy k ts then (k,v)::keep ts r else keep ts r
theorem Zb0 {α:Type} (ts:List Nat) (t:Nat):∀ l:List (Nat × α),look (keep ts l) t=bif Zgy t ts then look l t else none
 | []=>by simp [keep,look]
 | (k,v)::r=>by
  rw [keep]
  cases hk:Zgy k ts with
  | true =>
   rw [cond_true,Zo,Zo,Zb0 ts t r]
   split
   ·subst_vars; rw [hk]; rfl
   ·rfl
  | false =>
   rw [cond_false,Zo,Zb0 ts t r]
   split
   ·subst_vars; rw [hk]; rfl
   ·rfl
structure PI where
 i:Nat
 an:Nat
 ts:List Nat
structure Ft where
 p:PI
 ks:List Nat
 ws:List Nat
 lo:Nat
 nn:Nat
def Zdu (m j:Nat):Bool:=Nat.testBit m j
def Zm9 (xs ys:List Nat):Bool:=xs.all fun x=>!Zgy x ys
def Zvp (xs:List Nat) (lo nn:Nat):Bool:=xs.all fun x=>Nat.blt x lo || Nat.ble (lo+nn) x
def okF (x:Ft):List Ft→Bool
 | []=>true
 | y::r=>(Zdu x.p.an y.p.i || (Zm9 x.ws y.ks && Zm9 x.ws y.ws && Zm9 y.ws x.ks && Zvp x.ws y.lo y.nn)) && okF x r
theorem Zh8 {x:Ft}:∀ {F:List Ft},okF x F=true→∀ {y:Ft},y ∈ F→Zdu x.p.an y.p.i=true∨(Zm9 x.ws y.ks=true∧Zm9 x.ws y.ws=true∧Zm9 y.ws x.ks=true∧Zvp x.ws y.lo y.nn=true)
 | [],_,y,hy=>by cases hy
 | z::r,h,y,hy=>by
  simp only [okF,Bool.and_eq_true,Bool.or_eq_true] at h
  rcases List.mem_cons.1 hy with rfl | hy
  ·rcases h.1 with h1 | ⟨⟨⟨h1,h2⟩,h3⟩,h4⟩
   ·exact .inl h1
   ·exact .inr ⟨h1,h2,h3,h4⟩
  ·exact Zh8 h.2 hy
theorem ZkY {xs ys:List Nat} (h:Zm9 xs ys=true) {t:Nat} (h1:Zgy t xs=true) (h2:Zgy t ys=true):False:=by
 have:=List.all_eq_true.1 h t (Ze4.1 h1)
 rw [h2] at this; cases this
inductive Wt (ops:Array Oper) (o:Oper) (sl:List (Nat × V)):Bool→Prop
 | no:o.guard=none→Wt ops o sl true
 | y {j t:Nat} {b:Bool} {oj:Oper}:o.guard=some (j,b)→ops[j]?=some oj→oj.dst=some t→look sl t=some (vB b)→Wt ops o sl true
 | n {j t:Nat} {b c:Bool} {oj:Oper}:o.guard=some (j,b)→ops[j]?=some oj→oj.dst=some t→look sl t=some (vB c)→(b != c)=true→Wt ops o sl false
 | u {j t:Nat} {b:Bool} {oj:Oper}:o.guard=some (j,b)→ops[j]?=some oj→oj.dst=some t→look sl t=some (.t [])→Wt ops o sl false
theorem Zmh {ops:Array Oper} {B:Nat→Prop} {j t:Nat} {oj:Oper} {sl:List (Nat × V)} {ρ:Lc} {a:Act} {w:World} (hs:SR B sl ρ a w) (hj:ops[j]?=some oj) (ht:oj.dst=some t) (hb:look sl t=some (.t [])):yielded ops a.tmps j=none:=by
 obtain ⟨v,h1,h2⟩:=hs t _ hb
 obtain ⟨vs,rfl,h3⟩:=Zxq h2
 simp [yielded,hj,ht,h1]
theorem Wt.spec {ops:Array Oper} {o:Oper} {B:Nat→Prop} {sl:List (Nat × V)} {ρ:Lc} {a:Act} {w:World} {b:Bool} (hs:SR B sl ρ a w) (h:Wt ops o sl b):Region.wanted o (yielded ops a.tmps)=b:=by
 cases h with
 | no h=>simp [Region.wanted,h]
 | y h1 h2 h3 h4=>simp [Region.wanted,h1,yields hs h2 h3 h4]
 | n h1 h2 h3 h4 h5 =>
  rename_i j t c d oj
  have hne:c≠d:=by simpa using h5
  simp [Region.wanted,h1,yields hs h2 h3 h4]; exact fun e=>hne e.symm
 | u h1 h2 h3 h4=>simp [Region.wanted,h1,Zmh hs h2 h3 h4]
def Dv (P:Program) (ops:Array Oper) (o:Oper) (hp:Hp) (sl:List (Nat × V)) (lo nn:Nat) (ψ:V→Hp→Prop):Prop:=(Wt ops o sl true∧OpV P o hp sl lo nn ψ)∨(Wt ops o sl false∧ψ (.t []) [])
def Zoq (d:Option Tmp) (u:V) (sl:List (Nat × V)):List (Nat × V):=match d with
 | some t=>(t,u)::sl
 | none=>sl
def inW (h:Hp) (ws:List Nat):Bool:=h.all fun e=>Zgy e.1 ws
def WD (Γ:Cx) (ops:Array Oper) (k:Zcc):List PI→List Ft→St→Prop
 | [],_,st=>WK Γ k .normal st
 | p::r,F,st=>∃ (o:Oper) (ks ws:List Nat) (lo nn:Nat) (ψ:V→Hp→Prop),ops[p.i]?=some o∧(∀ d,o.dst=some d→d<Γ.nt)∧ZZ st.hp lo nn=true∧okF ⟨p,ks,ws,lo,nn⟩ F=true ∧
  Dv Γ.P ops o (keep ks st.hp) (keep p.ts st.sl) lo nn ψ∧(∀ u h,ψ u h→inW h ws=true)∧((∃ u h,ψ u h∧∀ u' h',ψ u' h'→u'=u∧h'=h)∨(r.all fun q=>Zdu q.an p.i)=true)∧∀ u h,ψ u h→WD Γ ops k r (⟨p,ks,ws,lo,nn⟩::F) ⟨Zoq o.dst u st.sl,h++st.hp⟩
def Zkx (acc:List (Nat × Nat)):List Edge→Nat
 | []=>0
 | e::r=>bif Region.binds .any e then Nat.lor (Nat.lor (Nat.pow 2 e.on) ((look acc e.on).getD 0)) (Zkx acc r) else Zkx acc r
def Zwg (pl:List PI) (n i:Nat):Bool:=pl.any fun q=>Nat.beq q.i n && Zdu q.an i
def Zxy (ops:List Oper) (pl:List PI) (i an:Nat) (ts:List Nat):Nat→Bool
 | 0=>true
 | n+1=>(match ops[n]? with
  | some o=>match o.dst with
   | some d=>Zdu an n || !Zgy d ts || Zwg pl n i
   | none=>true
  | none=>true) && Zxy ops pl i an ts n
def Zvq (ops:List Oper) (pl:List PI) (n:Nat):List PI→List (Nat × Nat)→Bool
 | [],acc=>Nat.beq acc.length n
 | p::r,acc=>(match ops[p.i]? with
  | some o=>Nat.blt p.i n && (look acc p.i).isNone && (o.after.toList.all fun e=>!Region.binds .any e || (look acc e.on).isSome) && Nat.beq p.an (Zkx acc o.after.toList) && Zxy ops pl p.i p.an p.ts n
  | none=>false) && Zvq ops pl n r ((p.i,p.an)::acc)
def ZlA:List Oper→Bool
 | []=>true
 | o::r=>(match o.dst with
  | some d=>r.all fun x=>match x.dst with
   | some d'=>!Nat.beq d d'
   | none=>true
  | none=>true) && ZlA r
def Zt4 (ops:List Oper) (pl:List PI):Bool:=Zvq ops pl ops.length pl [] && ZlA ops
structure ZdH (ops:Array Oper) (pl:List PI):Prop where
 lt:∀ p ∈ pl,p.i<ops.size
 nd:(pl.map (·.i)).Nodup
 all:∀ i,i<ops.size→i ∈ pl.map (·.i)
 edge:∀ a p b o e,pl=a++p::b→ops[p.i]?=some o→e ∈ o.after→Region.binds .any e=true→e.on ∈ a.map (·.i)
 anc:∀ a p b o j,pl=a++p::b→ops[p.i]?=some o→Zdu p.an j=true→∃ e ∈ o.after,Region.binds .any e=true∧(e.on=j∨∃ q ∈ a,q.i=e.on∧Zdu q.an j=true)
 ts:∀ p ∈ pl,∀ i o d,ops[i]?=some o→o.dst=some d→Zgy d p.ts=true→Zdu p.an i=true∨∃ q ∈ pl,q.i=i∧Zdu q.an p.i=true
 dst:∀ (i j:Nat) (oi oj:Oper) (d:Tmp),ops[i]?=some oi→ops[j]?=some oj→oi.dst=some d→oj.dst=some d→i=j
theorem ZgS {acc:List (Nat × Nat)} {j:Nat}:∀ {es:List Edge},Zdu (Zkx acc es) j=true→∃ e ∈ es,Region.binds .any e=true∧(e.on=j∨∃ m,look acc e.on=some m∧Zdu m j=true)
 | [],h=>by simp [Zkx,Zdu] at h
 | e::r,h=>by
  rw [Zkx] at h
  cases hb:Region.binds .any e with
  | false =>
   rw [hb,cond_false] at h
   obtain ⟨e',h1,h2⟩:=ZgS h
   exact ⟨e',List.mem_cons_of_mem _ h1,h2⟩
  | true =>
   rw [hb,cond_true] at h
   have h:Nat.testBit ((2 ^ e.on ||| (look acc e.on).getD 0) ||| Zkx acc r) j=true:=h
   simp only [Nat.testBit_or,Bool.or_eq_true] at h
   rcases h with (h | h) | h
   ·rw [Nat.testBit_two_pow] at h
    exact ⟨e,List.mem_cons_self,hb,.inl (by simpa using h)⟩
   ·cases hl:look acc e.on with
    | none=>simp [hl] at h
    | some m=>exact ⟨e,List.mem_cons_self,hb,.inr ⟨m,hl,by simpa [hl,Zdu] using h⟩⟩
   ·obtain ⟨e',h1,h2⟩:=ZgS h
    exact ⟨e',List.mem_cons_of_mem _ h1,h2⟩
theorem Znr {pl:List PI} {n i:Nat} (h:Zwg pl n i=true):∃ q ∈ pl,q.i=n∧Zdu q.an i=true:=by
 obtain ⟨q,hq,h1⟩:=List.any_eq_true.1 h
 simp only [Bool.and_eq_true] at h1
 exact ⟨q,hq,Nat.eq_of_beq_eq_true h1.1,h1.2⟩
theorem Zjk {ops:List Oper} {pl:List PI} {k an:Nat} {ts:List Nat}:∀ {n:Nat},Zxy ops pl k an ts n=true→∀ i o d,i<n→ops[i]?=some o→o.dst=some d→Zgy d ts=true→Zdu an i=true∨∃ q ∈ pl,q.i=i∧Zdu q.an k=true
 | 0,_,i,_,_,hi,_,_,_=>by omega
 | n+1,h,i,o,d,hi,h1,h2,h3=>by
  simp only [Zxy,Bool.and_eq_true] at h
  by_cases e:i=n
  ·subst e
   have:=h.1
   rw [h1] at this; simp only [h2,h3,Bool.not_true,Bool.or_false,Bool.or_eq_true] at this
   exact this.imp_right Znr
  ·exact Zjk h.2 i o d (by omega) h1 h2 h3
theorem Zg7:∀ {ops:List Oper},ZlA ops=true→∀ (i j:Nat) (oi oj:Oper) (d:Tmp),ops[i]?=some oi→ops[j]?=some oj→oi.dst=some d→oj.dst=some d→i=j
 | [],_,i,j,oi,oj,d,h1,_,_,_=>by simp at h1
 | o::r,h,i,j,oi,oj,d,h1,h2,h3,h4=>by
  simp only [ZlA,Bool.and_eq_true] at h
  have key:∀ (j:Nat) (oj:Oper),r[j]?=some oj→oj.dst=some d→o.dst=some d→False:=fun j oj hj hd ho=>by
   have h5:=h.1
   rw [ho] at h5
   have h6:=List.all_eq_true.1 h5 oj (List.mem_of_getElem? hj)
   simp only [hd] at h6
   simp at h6
  cases i with
  | zero =>
   cases j with
   | zero=>rfl
   | succ j =>
    simp only [List.getElem?_cons_zero,Option.some.injEq] at h1; subst h1
    exact (key j oj (by simpa using h2) h4 h3).elim
  | succ i =>
   cases j with
   | zero =>
    simp only [List.getElem?_cons_zero,Option.some.injEq] at h2; subst h2
    exact (key i oi (by simpa using h1) h3 h4).elim
   | succ j=>rw [Zg7 h.2 i j oi oj d (by simpa using h1) (by simpa using h2) h3 h4]
structure ZvY (ops:Array Oper) (a:List PI) (acc:List (Nat × Nat)):Prop where
 mem:∀ i,(look acc i).isSome=true→i ∈ a.map (·.i)
 inv:∀ i m,look acc i=some m→∃ q ∈ a,q.i=i∧q.an=m
 has:∀ q ∈ a,(look acc q.i).isSome=true
 len:acc.length=a.length
theorem ZjR {l:List Oper} {pl0:List PI} {n:Nat} (hn:n=l.length):∀ {r a:List PI} {acc:List (Nat × Nat)},Zvq l pl0 n r acc=true→ZvY l.toArray a acc→(a.map (·.i)).Nodup→(∀ p ∈ a,p.i<n) →
   ((a++r).map (·.i)).Nodup∧(∀ p ∈ r,p.i<n)∧(a++r).length=n ∧
   (∀ x p b o e,r=x++p::b→l[p.i]?=some o→e ∈ o.after→Region.binds .any e=true→e.on ∈ (a++x).map (·.i)) ∧
   (∀ x p b o j,r=x++p::b→l[p.i]?=some o→Zdu p.an j=true→∃ e ∈ o.after,Region.binds .any e=true∧(e.on=j∨∃ q ∈ a++x,q.i=e.on∧Zdu q.an j=true)) ∧
   (∀ p ∈ r,∀ i o d,l[i]?=some o→o.dst=some d→Zgy d p.ts=true→Zdu p.an i=true∨∃ q ∈ pl0,q.i=i∧Zdu q.an p.i=true)
 | [],a,acc,h,hacc,hnd,hlt=>by
  simp only [Zvq] at h
  have:=Nat.eq_of_beq_eq_true h
  refine ⟨by simpa using hnd,by simp,by simp [← hacc.len,this],?_,?_,by simp⟩
  ·intro x p b o e h1; simp at h1
  ·intro x p b o j h1; simp at h1
 | p::r,a,acc,h,hacc,hnd,hlt=>by
  simp only [Zvq,Bool.and_eq_true] at h
  obtain ⟨h1,h2⟩:=h
  cases ho:l[p.i]? with
  | none=>rw [ho] at h1; cases h1
  | some o =>
   simp only [ho,Bool.and_eq_true] at h1
   obtain ⟨⟨⟨⟨h3,h4⟩,h5⟩,h6⟩,h7⟩:=h1
   have h3:=Zdv h3
   have h6:=Nat.eq_of_beq_eq_true h6
   have hnot:p.i ∉ a.map (·.i):=fun hm=>by
    obtain ⟨q,hq,e⟩:=List.mem_map.1 hm
    have:=hacc.has q hq
    rw [e] at this
    cases hl:look acc p.i <;> simp [hl] at this h4
   have hacc':ZvY l.toArray (a++[p]) ((p.i,p.an)::acc):=by
    refine ⟨fun i hi=>?_,fun i m hi=>?_,fun q hq=>?_,by simp [hacc.len]⟩
    ·rw [Zo] at hi
     split at hi
     ·subst_vars; simp
     ·have:=hacc.mem i hi
      rw [List.map_append]; exact List.mem_append_left _ this
    ·rw [Zo] at hi
     split at hi
     ·subst_vars; obtain rfl:=Option.some.inj hi; exact ⟨p,by simp,rfl,rfl⟩
     ·obtain ⟨q,hq,h8⟩:=hacc.inv i m hi
      exact ⟨q,List.mem_append_left _ hq,h8⟩
    ·rw [Zo]
     split
     ·rfl
     ·rcases List.mem_append.1 hq with hq | hq
      ·exact hacc.has q hq
      ·simp only [List.mem_singleton] at hq; subst hq; contradiction
   have hnd':((a++[p]).map (·.i)).Nodup:=by
    rw [List.map_append,List.nodup_append]
    refine ⟨hnd,by simp,fun x hx y hy=>?_⟩
    simp only [List.map_cons,List.map_nil,List.mem_singleton] at hy
    subst hy
    intro e; subst e; exact hnot hx
   have ih:=ZjR hn h2 hacc' hnd' (fun q hq=>by
    rcases List.mem_append.1 hq with hq | hq
    ·exact hlt q hq
    ·simp only [List.mem_singleton] at hq; subst hq; exact h3)
   simp only [List.append_assoc,List.singleton_append] at ih
   obtain ⟨i1,i2,i3,i4,i5,i6⟩:=ih
   refine ⟨i1,?_,i3,?_,?_,?_⟩
   ·intro q hq
    rcases List.mem_cons.1 hq with rfl | hq
    ·exact h3
    ·exact i2 q hq
   ·intro x q b o' e hx ho' he hb
    cases x with
    | nil =>
     simp only [List.nil_append,List.cons.injEq] at hx
     obtain ⟨rfl,rfl⟩:=hx
     rw [ho] at ho'; obtain rfl:=Option.some.inj ho'
     have:=List.all_eq_true.1 h5 e (by simpa using he)
     simp only [hb,Bool.not_true,Bool.false_or] at this
     simpa using hacc.mem _ this
    | cons y x =>
     simp only [List.cons_append,List.cons.injEq] at hx
     obtain ⟨rfl,rfl⟩:=hx
     exact i4 x q b o' e rfl ho' he hb
   ·intro x q b o' j hx ho' hj
    cases x with
    | nil =>
     simp only [List.nil_append,List.cons.injEq] at hx
     obtain ⟨rfl,rfl⟩:=hx
     rw [ho] at ho'; obtain rfl:=Option.some.inj ho'
     rw [h6] at hj
     obtain ⟨e,he,hb,h8⟩:=ZgS hj
     refine ⟨e,by simpa using he,hb,?_⟩
     rcases h8 with h8 | ⟨m,h8,h9⟩
     ·exact .inl h8
     ·obtain ⟨q,hq,h10,rfl⟩:=hacc.inv _ _ h8
      exact .inr ⟨q,by simpa using hq,h10,h9⟩
    | cons y x =>
     simp only [List.cons_append,List.cons.injEq] at hx
     obtain ⟨rfl,rfl⟩:=hx
     exact i5 x q b o' j rfl ho' hj
   ·intro q hq i o' d h8 h9 h10
    rcases List.mem_cons.1 hq with rfl | hq
    ·exact Zjk h7 i o' d (by subst hn; exact (List.getElem?_eq_some_iff.1 h8).1) h8 h9 h10
    ·exact i6 q hq i o' d h8 h9 h10
theorem ZoL:∀ (n:Nat) (l:List Nat),l.Nodup→(∀ x ∈ l,x<n)→l.length≤n
 | 0,[],_,_=>Nat.le_refl _
 | 0,x::_,_,h=>absurd (h x List.mem_cons_self) (by omega)
 | n+1,l,h1,h2=>by
  by_cases hn:n ∈ l
  ·have:=ZoL n (l.erase n) (h1.erase n) (fun x hx=>by
     have h7:=h2 x (List.mem_of_mem_erase hx)
     by_cases e:x=n
     ·subst e; exact absurd hx (h1.not_mem_erase)
     ·omega)
   rw [List.length_erase_of_mem hn] at this; omega
  ·have:=ZoL n l h1 (fun x hx=>by
     have h7:=h2 x hx
     by_cases e:x=n
     ·subst e; exact absurd hx hn
     ·omega)
   omega
theorem ZgK:∀ (n:Nat) (l:List Nat),l.Nodup→(∀ x ∈ l,x<n)→l.length=n→∀ i,i<n→i ∈ l
 | 0,_,_,_,_,i,hi=>by omega
 | n+1,l,h1,h2,h3,i,hi=>by
  have hmem:n ∈ l:=by
   apply Classical.byContradiction
   intro hn
   have h4:∀ x ∈ l,x<n:=fun x hx=>by
    have:=h2 x hx
    by_cases e:x=n
    ·subst e; exact absurd hx hn
    ·omega
   have h5:=ZoL n l h1 h4
   omega
  by_cases e:i=n
  ·subst e; exact hmem
  ·have h5:=ZgK n (l.erase n) (h1.erase n) (fun x hx=>by
     have h6:=List.mem_of_mem_erase hx
     have h7:=h2 x h6
     by_cases e:x=n
     ·subst e; exact absurd hx (h1.not_mem_erase)
     ·omega) (by rw [List.length_erase_of_mem hmem,h3]; rfl) i (by omega)
   exact List.mem_of_mem_erase h5
theorem ZdH.of {l:List Oper} {pl:List PI} (h:Zt4 l pl=true):ZdH l.toArray pl:=by
 simp only [Zt4,Bool.and_eq_true] at h
 obtain ⟨h1,h2,h3,h4,h5,h6⟩:=ZjR rfl h.1 (a:=[]) ⟨by simp [look],by simp [look],by simp,rfl⟩ (by simp) (by simp)
 simp only [List.nil_append] at *
 refine ⟨by simpa using h2,h1,fun i hi=>ZgK _ _ h1 (fun x hx=>?_) (by simpa using h3) i (by simpa using hi),fun a p b o e h7 h8=>h4 a p b o e h7 (by simpa using h8),fun a p b o j h7 h8=>h5 a p b o j h7 (by simpa using h8),fun p hp i o d h7=>h6 p hp i o d (by simpa using h7),fun i j oi oj d h7 h8=>Zg7 h.2 i j oi oj d (by simpa using h7) (by simpa using h8)⟩
 obtain ⟨p,hp,rfl⟩:=List.mem_map.1 hx
 exact h2 p hp
end Go.Proofs.YtkcmgbbopedacaaGreatDoor
namespace Go.Proofs.YtkcmgbbopedacaaGreatDoor
open Go.RowKit
theorem ZfT.look {Γ:Cx} {st st':St} {ρ:Lc} {a:Act} {w:World} (hr:ZfT Γ st ρ a w) (h1:∀ t,look st'.sl t=look st.sl t) (h2:∀ k,look st'.hp k=look st.hp k):ZfT Γ st' ρ a w:=by
 refine ⟨hr.defers,hr.size,hr.kp,hr.ext0,fun k l b hk hb=>?_,fun k l hk=>by rw [h2]; exact hr.dom k l hk,hr.dom0,hr.bup,⟨fun k blk hk=>hr.hr.rel k blk (by rw [← h2]; exact hk),fun k k' blk blk' l l' b g1 g2=>hr.hr.inj k k' blk blk' l l' b (by rw [← h2]; exact g1) (by rw [← h2]; exact g2),hr.hr.lt,hr.hr.gl⟩,fun t u hu=>hr.sr t u (by rw [← h1]; exact hu)⟩
 rcases hr.own k l b hk hb with h | h | ⟨k0,l0,h3,h4⟩
 ·exact .inl h
 ·exact .inr (.inl h)
 ·exact .inr (.inr ⟨k0,l0,by rw [h2]; exact h3,h4⟩)
theorem ZfT.put {Γ:Cx} {st:St} {H0 h:Hp} {ρ ρ':Lc} {a:Act} {w w':World} {d:Option Tmp} {u:V} {v:Value} (hr:ZfT Γ st ρ a w) (hsub:Sub H0 st.hp) (s:Step Γ.B H0 h ρ ρ' w w') (hu:RV w' (okb Γ.B w' ρ') ρ' u v)
   (hd:∀ t,d=some t→t<Γ.nt):ZfT Γ ⟨Zoq d u st.sl,h++st.hp⟩ ρ' (a.put d v) w':=by
 cases d with
 | none=>exact hr.step (d:=none) hsub s hu hd
 | some t=>exact hr.step (d:=some t) hsub s hu hd
structure En where
 f:Ft
 o:Oper
 u:V
 h:Hp
abbrev En.i (e:En):Nat:=e.f.p.i
def slE:List En→List (Nat × V)
 | []=>[]
 | e::r=>Zoq e.o.dst e.u (slE r)
def hpE:List En→Hp
 | []=>[]
 | e::r=>e.h++hpE r
theorem Zgs (d:Option Tmp) (u:V) (a b:List (Nat × V)):Zoq d u a++b=Zoq d u (a++b):=by cases d <;> rfl
theorem ZgQ (d:Option Tmp) (u:V) (a:List (Nat × V)) (t:Nat):look (Zoq d u a) t=if d=some t then some u else look a t:=by
 cases d with
 | none=>simp [Zoq]
 | some s=>simp [Zoq,Zo]
theorem Zd4 {t:Nat}:∀ {L:List En},(∀ e ∈ L,e.o.dst≠some t)→look (slE L) t=none
 | [],_=>rfl
 | e::r,h=>by
  rw [slE,ZgQ,if_neg (h e List.mem_cons_self)]
  exact Zd4 fun x hx=>h x (List.mem_cons_of_mem _ hx)
theorem ZeZ {t:Nat} {e:En} (hd:e.o.dst=some t):∀ {L:List En},(∀ x ∈ L,x.o.dst=some t→x=e)→e ∈ L→look (slE L) t=some e.u
 | [],_,h=>by cases h
 | x::r,hu,h=>by
  rw [slE,ZgQ]
  split
  ·rw [hu x List.mem_cons_self (by assumption)]
  ·refine ZeZ hd (fun y hy=>hu y (List.mem_cons_of_mem _ hy)) ?_
   rcases List.mem_cons.1 h with rfl | h
   ·contradiction
   ·exact h
def anc (x y:En):Prop:=Zdu x.f.p.an y.f.p.i=true
def Zvg (L:List En):Prop:=L.Pairwise fun x y=>¬ anc y x
def Cm (L:List En) (k:Nat):Prop:=∀ x ∈ L,∀ y ∈ L,look x.h k≠none→look y.h k≠none→x=y∨anc x y∨anc y x
theorem Zl5 {k:Nat}:∀ {L:List En},(∀ x ∈ L,look x.h k=none)→look (hpE L) k=none
 | [],_=>rfl
 | e::r,h=>by
  rw [hpE,Yg,h e List.mem_cons_self]
  simpa using Zl5 fun x hx=>h x (List.mem_cons_of_mem _ hx)
theorem ZjN {k:Nat}:∀ {L:List En},look (hpE L) k=none→∀ x ∈ L,look x.h k=none
 | [],_,x,hx=>by cases hx
 | e::r,h,x,hx=>by
  rw [hpE,Yg] at h
  have h1:=Option.or_eq_none_iff.1 h
  rcases List.mem_cons.1 hx with rfl | hx
  ·exact h1.1
  ·exact ZjN h1.2 x hx
theorem ZkW {k:Nat} {b:Option Blk}:∀ {L:List En},Zvg L→Cm L k→(look (hpE L) k=some b↔∃ x ∈ L,look x.h k=some b∧∀ y ∈ L,look y.h k≠none→y=x∨anc x y)
 | [],_,_=>by simp [hpE,look]
 | e::r,hs,hc=>by
  have hs':=List.pairwise_cons.1 hs
  have ih:=ZkW (k:=k) (b:=b) hs'.2 fun x hx y hy=>hc x (List.mem_cons_of_mem _ hx) y (List.mem_cons_of_mem _ hy)
  rw [hpE,Yg]
  cases he:look e.h k with
  | none =>
   rw [Option.none_or,ih]
   constructor
   ·rintro ⟨x,hx,h1,h2⟩
    refine ⟨x,List.mem_cons_of_mem _ hx,h1,fun y hy hk=>?_⟩
    rcases List.mem_cons.1 hy with rfl | hy
    ·exact absurd he hk
    ·exact h2 y hy hk
   ·rintro ⟨x,hx,h1,h2⟩
    rcases List.mem_cons.1 hx with rfl | hx
    ·rw [he] at h1; cases h1
    ·exact ⟨x,hx,h1,fun y hy hk=>h2 y (List.mem_cons_of_mem _ hy) hk⟩
  | some c =>
   have hek:look e.h k≠none:=by rw [he]; simp
   rw [Option.some_or]
   constructor
   ·intro h
    refine ⟨e,List.mem_cons_self,by rw [he]; exact h,fun y hy hk=>?_⟩
    rcases List.mem_cons.1 hy with rfl | hy'
    ·exact .inl rfl
    ·rcases hc e List.mem_cons_self y hy hek hk with h1 | h1 | h1
     ·exact .inl h1.symm
     ·exact .inr h1
     ·exact absurd h1 (hs'.1 y hy')
   ·rintro ⟨x,hx,h1,h2⟩
    rcases List.mem_cons.1 hx with rfl | hx
    ·rw [← he]; exact h1
    ·rcases h2 e List.mem_cons_self hek with rfl | h3
     ·rw [← he]; exact h1
     ·exact absurd h3 (hs'.1 x hx)
theorem ZtJ {k:Nat} {L M:List En} (h1:Zvg L) (h2:Zvg M) (h3:Cm L k) (h4:Cm M k) (hm:∀ x,look x.h k≠none→(x ∈ L↔x ∈ M)):look (hpE L) k=look (hpE M) k:=by
 apply Option.ext
 intro b
 rw [ZkW h1 h3,ZkW h2 h4]
 constructor
 ·rintro ⟨x,hx,h5,h6⟩
  exact ⟨x,(hm x (by rw [h5]; simp)).1 hx,h5,fun y hy hk=>h6 y ((hm y hk).2 hy) hk⟩
 ·rintro ⟨x,hx,h5,h6⟩
  exact ⟨x,(hm x (by rw [h5]; simp)).2 hx,h5,fun y hy hk=>h6 y ((hm y hk).1 hy) hk⟩
theorem Ze1 {h:Hp} {ws:List Nat} (hi:inW h ws=true) {k:Nat} (hk:look h k≠none):Zgy k ws=true:=by
 cases e:look h k with
 | none=>exact absurd e hk
 | some x=>exact List.all_eq_true.1 hi _ (ZaJ e)
theorem Zqm {ws:List Nat} {lo nn k:Nat} (h:Zvp ws lo nn=true) (hk:Zgy k ws=true) (h1:lo≤k) (h2:k<lo+nn):False:=by
 have:=List.all_eq_true.1 h k (Ze4.1 hk)
 simp only [Bool.or_eq_true] at this
 rcases this with h3 | h3
 ·have:=Zdv h3; omega
 ·have:=Nat.le_of_ble_eq_true h3; omega
inductive Good (Γ:Cx) (ops:Array Oper) (hp0:Hp):List En→Prop
 | nil:Good Γ ops hp0 []
 | cons {e:En} {E:List En}:Good Γ ops hp0 E→ops[e.i]?=some e.o→(∀ d,e.o.dst=some d→d<Γ.nt)→ZZ (hpE E++hp0) e.f.lo e.f.nn=true→okF e.f (E.map (·.f))=true→inW e.h e.f.ws=true→Good Γ ops hp0 (e::E)
section
variable {Γ:Cx} {ops:Array Oper} {pl:List PI} {hp0:Hp} {sl0:List (Nat × V)}
theorem Good.cm {E:List En} (h:Good Γ ops hp0 E) (k:Nat):Cm E k:=by
 induction h with
 | nil=>intro x hx; cases hx
 | @cons e E hg h1 h2 h3 h4 h5 ih =>
  have hin:∀ {E:List En},Good Γ ops hp0 E→∀ x ∈ E,inW x.h x.f.ws=true:=by
   intro E h
   induction h with
   | nil=>intro x hx; cases hx
   | cons hg _ _ _ _ h5 ih=>intro x hx; rcases List.mem_cons.1 hx with rfl | hx; exact h5; exact ih x hx
  have key:∀ y ∈ E,look e.h k≠none→look y.h k≠none→anc e y:=by
   intro y hy hk1 hk2
   rcases Zh8 h4 (List.mem_map.2 ⟨y,hy,rfl⟩) with h6 | ⟨-,h6,-,-⟩
   ·exact h6
   ·exact (ZkY h6 (Ze1 h5 hk1) (Ze1 (hin hg y hy) hk2)).elim
  intro x hx y hy hk1 hk2
  rcases List.mem_cons.1 hx with hx | hx <;> rcases List.mem_cons.1 hy with hy | hy
  ·rw [hx,hy]; exact .inl rfl
  ·rw [hx] at hk1 ⊢; exact .inr (.inl (key y hy hk1 hk2))
  ·rw [hy] at hk2 ⊢; exact .inr (.inr (key x hx hk2 hk1))
  ·exact ih x hx y hy hk1 hk2
theorem Good.at {E:List En} (h:Good Γ ops hp0 E):∀ {X Y:List En} {e:En},E=X++e::Y→Good Γ ops hp0 Y∧ops[e.i]?=some e.o∧(∀ d,e.o.dst=some d→d<Γ.nt)∧ZZ (hpE Y++hp0) e.f.lo e.f.nn=true∧okF e.f (Y.map (·.f))=true∧inW e.h e.f.ws=true ∧
   ∀ x ∈ X,Zdu x.f.p.an e.f.p.i=true∨(Zm9 x.f.ws e.f.ks=true∧Zm9 x.f.ws e.f.ws=true∧Zm9 e.f.ws x.f.ks=true∧Zvp x.f.ws e.f.lo e.f.nn=true):=by
 induction h with
 | nil=>intro X Y e he; simp at he
 | @cons e0 E hg h1 h2 h3 h4 h5 ih =>
  intro X Y e he
  cases X with
  | nil =>
   simp only [List.nil_append,List.cons.injEq] at he
   obtain ⟨rfl,rfl⟩:=he
   exact ⟨hg,h1,h2,h3,h4,h5,by simp⟩
  | cons x X =>
   simp only [List.cons_append,List.cons.injEq] at he
   obtain ⟨rfl,rfl⟩:=he
   obtain ⟨i1,i2,i3,i4,i5,i6,i7⟩:=ih rfl
   refine ⟨i1,i2,i3,i4,i5,i6,fun x hx=>?_⟩
   rcases List.mem_cons.1 hx with rfl | hx
   ·exact Zh8 h4 (List.mem_map.2 ⟨e,by simp,rfl⟩)
   ·exact i7 x hx
theorem Good.mem {E:List En} (h:Good Γ ops hp0 E) {x:En} (hx:x ∈ E):ops[x.i]?=some x.o∧inW x.h x.f.ws=true:=by
 obtain ⟨X,Y,rfl⟩:=List.append_of_mem hx
 obtain ⟨-,h1,-,-,-,h2,-⟩:=h.at rfl
 exact ⟨h1,h2⟩
theorem ZdH.anc_mem (hp:ZdH ops pl):∀ (n:Nat) {a b:List PI} {p:PI} {j:Nat},a.length=n→pl=a++p::b→Zdu p.an j=true→j ∈ a.map (·.i):=by
 intro n
 induction n using Nat.strongRecOn with
 | _ n ih =>
  intro a b p j hn he hj
  have hlt:=hp.lt p (by rw [he]; simp)
  have ho:ops[p.i]?=some ops[p.i]:=Array.getElem?_eq_getElem hlt
  obtain ⟨e,h1,h2,h3⟩:=hp.anc a p b _ j he ho hj
  rcases h3 with rfl | ⟨q,hq,h4,h5⟩
  ·exact hp.edge a p b _ e he ho h1 h2
  ·obtain ⟨a1,a2,rfl⟩:=List.append_of_mem hq
   have:=ih a1.length (by simp at hn; omega) (a:=a1) (b:=a2++p::b) (p:=q) rfl (by rw [he]; simp) h5
   rw [List.map_append]; exact List.mem_append_left _ this
theorem Zly (hp:ZdH ops pl):∀ {E:List En} {rest:List PI},pl=(E.map (·.f.p)).reverse++rest→Zvg E
 | [],_,_=>.nil
 | e::E,rest,he=>by
  simp only [List.map_cons,List.reverse_cons,List.append_assoc,List.singleton_append] at he
  refine List.pairwise_cons.2 ⟨fun y hy hb=>?_,Zly hp he⟩
  have hy':y.f.p ∈ (E.map (·.f.p)).reverse:=by simpa using ⟨y,hy,rfl⟩
  obtain ⟨a1,a2,h1⟩:=List.append_of_mem hy'
  rw [h1] at he
  have h2:=hp.anc_mem a1.length (a:=a1) (b:=a2++e.f.p::rest) (p:=y.f.p) rfl (by rw [he]; simp) hb
  have h3:=hp.nd
  rw [he,List.map_append,List.nodup_append] at h3
  exact h3.2.2 e.f.p.i (by rw [List.map_append]; exact List.mem_append_left _ h2) e.f.p.i (by simp) rfl
theorem Zky (hp:ZdH ops pl) {E:List En} {rest:List PI} (he:pl=(E.map (·.f.p)).reverse++rest) {x y:En} (hx:x ∈ E) (hy:y ∈ E) (h:x.i=y.i):x=y:=by
 have h1:(E.map (·.i)).Nodup:=by
  have h2:=hp.nd
  rw [he,List.map_append,List.nodup_append] at h2
  have h3:=h2.1
  rw [List.map_reverse,List.map_map] at h3
  have h4:∀ {l:List Nat},l.reverse.Nodup→l.Nodup:=fun h=>by
   have:=List.pairwise_reverse.1 h
   exact this.imp fun h=>h.symm
  exact h4 h3
 clear he
 induction E with
 | nil=>cases hx
 | cons e E ih =>
  simp only [List.map_cons,List.nodup_cons] at h1
  rcases List.mem_cons.1 hx with hx | hx <;> rcases List.mem_cons.1 hy with hy | hy
  ·rw [hx,hy]
  ·rw [hx] at h; exact absurd (List.mem_map.2 ⟨y,hy,h.symm⟩) h1.1
  ·rw [hy] at h; exact absurd (List.mem_map.2 ⟨x,hx,h⟩) h1.1
  ·exact ih hx hy h1.2
theorem Zv5 (hp:ZdH ops pl) {p q:PI} (h1:p ∈ pl) (h2:q ∈ pl) (h:p.i=q.i):p=q:=by
 have hn:=hp.nd
 clear hp
 induction pl with
 | nil=>cases h1
 | cons x r ih =>
  simp only [List.map_cons,List.nodup_cons] at hn
  rcases List.mem_cons.1 h1 with h1 | h1 <;> rcases List.mem_cons.1 h2 with h2 | h2
  ·rw [h1,h2]
  ·rw [h1] at h; exact absurd (List.mem_map.2 ⟨q,h2,h.symm⟩) hn.1
  ·rw [h2] at h; exact absurd (List.mem_map.2 ⟨p,h1,h⟩) hn.1
  ·exact ih h1 h2 hn.2
structure Sim (Γ:Cx) (ops:Array Oper) (pl:List PI) (hp0:Hp) (E T:List En) (rest:List PI):Prop where
 ok:ZdH ops pl
 eq:pl=(E.map (·.f.p)).reverse++rest
 good:Good Γ ops hp0 E
 sub:∀ x ∈ T,x ∈ E
 cl:∀ x ∈ T,∀ j,Zdu x.f.p.an j=true→∃ y ∈ T,y.i=j
 srt:Zvg T
theorem ZdH.noY (hp:ZdH ops pl) {Y:List En} {p:PI} {b:List PI} (h:pl=(Y.map (·.f.p)).reverse++p::b) {x:En} (hx:x ∈ Y) (hb:Zdu x.f.p.an p.i=true):False:=by
 obtain ⟨A,C,rfl⟩:=List.append_of_mem hx
 have e:pl=(C.map (·.f.p)).reverse++x.f.p::((A.map (·.f.p)).reverse++p::b):=by rw [h]; simp
 obtain ⟨q,hq,h1⟩:=List.mem_map.1 (hp.anc_mem _ rfl e hb)
 have hn:=hp.nd
 rw [e,List.map_append,List.nodup_append] at hn
 exact hn.2.2 q.i (List.mem_map.2 ⟨q,hq,rfl⟩) p.i (List.mem_map.2 ⟨p,by simp,rfl⟩) h1
structure At8 (Γ:Cx) (ops:Array Oper) (pl:List PI) (hp0:Hp) (E T Y:List En) (f:Ft):Prop where
 sub:∀ x ∈ Y,x ∈ E
 okf:okF f (Y.map (·.f))=true
 fr:ZZ (hpE Y++hp0) f.lo f.nn=true
 new:∀ x ∈ E,x ∈ Y∨x.i=f.p.i∨Zdu x.f.p.an f.p.i=true∨(Zm9 x.f.ws f.ks=true∧Zm9 x.f.ws f.ws=true∧Zm9 f.ws x.f.ks=true∧Zvp x.f.ws f.lo f.nn=true)
 anT:∀ j,Zdu f.p.an j=true→∃ y ∈ T,y.i=j
 anY:∀ j,Zdu f.p.an j=true→∃ y ∈ Y,y.i=j
 no:∀ x ∈ T,x.i≠f.p.i
 srt:Zvg Y
 mem:f.p ∈ pl
 bef:∀ x ∈ Y,Zdu x.f.p.an f.p.i=true→False
variable {E T Y:List En} {rest:List PI} {f:Ft}
theorem Sim.inpl (s:Sim Γ ops pl hp0 E T rest) {x:En} (hx:x ∈ E):x.f.p ∈ pl:=by
 rw [s.eq]; exact List.mem_append_left _ (by simpa using ⟨x,hx,rfl⟩)
theorem At8.sl (h:At8 Γ ops pl hp0 E T Y f) (s:Sim Γ ops pl hp0 E T rest) {t:Nat} (ht:Zgy t f.p.ts=true):look (slE T++sl0) t=look (slE Y++sl0) t:=by
 have huq:∀ {L:List En},(∀ x ∈ L,x ∈ E)→∀ {y:En},y ∈ L→y.o.dst=some t→∀ x ∈ L,x.o.dst=some t→x=y:=fun hL y hy hd x hx hxd=>Zky s.ok s.eq (hL x hx) (hL y hy) (s.ok.dst _ _ _ _ t (s.good.mem (hL x hx)).1 (s.good.mem (hL y hy)).1 hxd hd)
 rw [Yg,Yg]
 by_cases hex:∃ e ∈ E,e.o.dst=some t
 ·obtain ⟨e,he,hd⟩:=hex
  rcases s.ok.ts f.p h.mem _ _ t (s.good.mem he).1 hd ht with hb | ⟨q,hq,hqi,hqb⟩
  rotate_left
  ·obtain rfl:=Zv5 s.ok hq (s.inpl he) hqi
   have no:∀ (L:List En),(∀ x ∈ L,x ∈ E)→¬ e ∈ L→look (slE L) t=none:=fun L hL hne=>Zd4 fun x hx hxd=>hne (by rw [← Zky s.ok s.eq (hL x hx) he (s.ok.dst _ _ _ _ t (s.good.mem (hL x hx)).1 (s.good.mem he).1 hxd hd)]; exact hx)
   rw [no T s.sub fun hx=>(by obtain ⟨y,hy,h2⟩:=s.cl _ hx _ hqb; exact h.no y hy h2),no Y h.sub fun hx=>h.bef _ hx hqb]
  obtain ⟨y,hy,h1⟩:=h.anT _ hb
  obtain rfl:=Zky s.ok s.eq (s.sub y hy) he h1
  obtain ⟨z,hz,h2⟩:=h.anY _ hb
  obtain rfl:=Zky s.ok s.eq (h.sub z hz) (s.sub y hy) h2
  rw [ZeZ hd (huq s.sub hy hd) hy,ZeZ hd (huq h.sub hz hd) hz]
 ·rw [Zd4 fun e he hd=>hex ⟨e,s.sub e he,hd⟩,Zd4 fun e he hd=>hex ⟨e,h.sub e he,hd⟩]
theorem At8.hp (h:At8 Γ ops pl hp0 E T Y f) (s:Sim Γ ops pl hp0 E T rest) {k:Nat} (hk:Zgy k f.ks=true):look (hpE T++hp0) k=look (hpE Y++hp0) k:=by
 have hcm:=s.good.cm k
 have:look (hpE T) k=look (hpE Y) k:=by
  refine ZtJ s.srt h.srt (fun x hx y hy=>hcm x (s.sub x hx) y (s.sub y hy)) (fun x hx y hy=>hcm x (h.sub x hx) y (h.sub y hy)) fun x hxk=>⟨fun hx=>?_,fun hx=>?_⟩
  ·have hE:=s.sub x hx
   have hw:=Ze1 (s.good.mem hE).2 hxk
   rcases h.new x hE with h1 | h1 | h1 | ⟨h1,-⟩
   ·exact h1
   ·exact absurd h1 (h.no x hx)
   ·obtain ⟨y,hy,h2⟩:=s.cl x hx _ h1
    exact absurd h2 (h.no y hy)
   ·exact (ZkY h1 hw hk).elim
  ·have hE:=h.sub x hx
   have hw:=Ze1 (s.good.mem hE).2 hxk
   rcases Zh8 h.okf (List.mem_map.2 ⟨x,hx,rfl⟩) with h1 | ⟨-,-,h1,-⟩
   ·obtain ⟨y,hy,h2⟩:=h.anT _ h1
    obtain rfl:=Zky s.ok s.eq (s.sub y hy) hE h2
    exact hy
   ·exact (ZkY h1 hw hk).elim
 rw [Yg,Yg,this]
theorem At8.fresh (h:At8 Γ ops pl hp0 E T Y f) (s:Sim Γ ops pl hp0 E T rest) {k:Nat} (h1:f.lo≤k) (h2:k<f.lo+f.nn):look (hpE T++hp0) k=none:=by
 have h3:=Zav h.fr h1 h2
 rw [Yg] at h3 ⊢
 have h4:=Option.or_eq_none_iff.1 h3
 refine Option.or_eq_none_iff.2 ⟨Zl5 fun x hx=>?_,h4.2⟩
 apply Classical.byContradiction
 intro hk
 have hE:=s.sub x hx
 have hw:=Ze1 (s.good.mem hE).2 hk
 rcases h.new x hE with h5 | h5 | h5 | ⟨-,-,-,h5⟩
 ·exact hk (ZjN h4.1 x h5)
 ·exact h.no x hx h5
 ·obtain ⟨y,hy,h6⟩:=s.cl x hx _ h5
  exact h.no y hy h6
 ·exact Zqm h5 hw h1 h2
theorem At8.run {Q:Exit→Act→World→Prop} {K:Act→World→Prop} {a:Act} {w:World} {o:Oper} {ψ:V→Hp→Prop} (h:At8 Γ ops pl hp0 E T Y f) (s:Sim Γ ops pl hp0 E T rest) (hr:Rel Γ ⟨slE T++sl0,hpE T++hp0⟩ a w) (ho:ops[f.p.i]?=some o) (hd:∀ d,o.dst=some d→d<Γ.nt)
   (hv:Dv Γ.P ops o (keep f.ks (hpE Y++hp0)) (keep f.p.ts (slE Y++sl0)) f.lo f.nn ψ) (hK:∀ u h a' w',ψ u h→Rel Γ ⟨Zoq o.dst u (slE T++sl0),h++(hpE T++hp0)⟩ a' w'→K a' w'):wpOp Γ.P ops Q f.p.i K a w:=by
 obtain ⟨ρ,hr⟩:=hr
 have hsr:SR Γ.B (keep f.p.ts (slE Y++sl0)) ρ a w:=fun t u hu=>by
  rw [Zb0] at hu
  cases ht:Zgy t f.p.ts with
  | false=>rw [ht] at hu; cases hu
  | true =>
   rw [ht,cond_true] at hu
   exact hr.sr t u (by simp only; rw [h.sl s ht]; exact hu)
 have hsub:Sub (keep f.ks (hpE Y++hp0)) (hpE T++hp0):=fun k blk hk=>by
  rw [Zb0] at hk
  cases ht:Zgy k f.ks with
  | false=>rw [ht] at hk; cases hk
  | true =>
   rw [ht,cond_true] at hk
   rw [h.hp s ht]; exact hk
 have hHR:HR Γ.B (keep f.ks (hpE Y++hp0)) ρ w:=⟨fun k blk hk=>hr.hr.rel k blk (hsub _ _ hk),fun k k' blk blk' l l' b g1 g2=>hr.hr.inj k k' blk blk' l l' b (hsub _ _ g1) (hsub _ _ g2),hr.hr.lt,hr.hr.gl⟩
 have hfr:∀ k,f.lo≤k→k<f.lo+f.nn→ρ k=none:=fun k h1 h2=>by
  cases e:ρ k with
  | none=>rfl
  | some l=>exact absurd (h.fresh s h1 h2) (hr.dom k l e)
 unfold wpOp
 simp only [ho]
 rcases hv with ⟨hw,hop⟩ | ⟨hw,hψ⟩
 ·rw [if_pos (hw.spec hsr)]
  refine .inl (Oper.wp_mono' (hop Γ.B a w ρ hr.up hr.defers hsr hHR hfr) ?_ fun _ _ _ h=>h.elim)
  rintro a' w' ⟨v,u,h',ρ',rfl,hψ,hs,hv⟩
  exact hK u h' _ _ hψ ⟨ρ',hr.put hsub hs hv hd⟩
 ·rw [if_neg (by rw [hw.spec hsr]; simp)]
  exact hK _ _ _ _ hψ ⟨ρ,hr.put (u:=.t []) (v:=undef) (fun _ _ h=>h) (Step.refl _ ρ w) (RV.t RVs.nil) hd⟩
end
end Go.Proofs.YtkcmgbbopedacaaGreatDoor
