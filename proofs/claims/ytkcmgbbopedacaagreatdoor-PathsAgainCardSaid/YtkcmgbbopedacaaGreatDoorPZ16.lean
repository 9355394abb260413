/-
  Lemmas: Operations over own slices whose elements have a list of the
-/
import Derived.Test.YtkcmgbbopedacaaGreatDoorPZ14
import Derived.Test.YtkcmgbbopedacaaGreatDoorPZ15
import Derived.Deep.Slices
import Derived.Scope
import Derived.Test.YtkcmgbbopedacaaGreatDoorPZ8
set_option linter.unusedSimpArgs false
set_option linter.unusedVariables false
namespace Go.Proofs.YtkcmgbbopedacaaGreatDoor
open Go.ChangeShapes Go.WideShapes Go.ChangeAt Go.RowKit Go.Joins
set_option maxRecDepth 100000
class Opn (P:Program) (T:TypeId) {α:outParam Type} (f:outParam (α→List D)) (I:outParam (α→Prop)):Prop where
 out:∀ {H:Type} {enc:TypeId × Value→H} {W:World} {fuel:Nat} {cs:List Value} {x:DataW H × List MemPlace},DataW.trod enc P W 0 (fun _=>true) true fuel T cs=some x→∃ a:α,I a∧RDs W (fun b=>b<W.heap.size) (f a) cs
def inK (k:IntKind) (n:Int):Prop:=k.min≤n∧n≤k.max
def ZxS {α:Type} (I:α→Prop) (l:List α):Prop:=l.length≤9223372036854775807∧∀ a ∈ l,I a
section
variable {P:Program} {T E:TypeId} {W:World}
theorem Zuh (h:P.underlying T=some (.int .i64)):Opn P T dsI (inK .i64):=⟨fun hx=>by
 obtain ⟨n,rfl,-,hw⟩:=DataW.trod_int h hx
 simp only [Lit.wf,Bool.and_eq_true,decide_eq_true_eq] at hw
 exact ⟨n,hw,.cons (.c rfl) .nil⟩⟩
theorem ZmB {ok:Nat→Prop} {α:Type} {f:α→List D}:∀ {l:List α} {vs:List (List Value)},l.length=vs.length→(∀ (i:Nat) a v,l[i]?=some a→vs[i]?=some v→RDs W ok (f a) v)→RDs W ok (l.flatMap f) vs.flatten
 | [],[],_,_=>.nil
 | a::l,v::vs,hl,h=>by
  rw [List.flatMap_cons,List.flatten_cons]
  exact (h 0 a v rfl rfl).append (ZmB (by simpa using hl) fun i b u hb hu=>h (i+1) b u (by simpa using hb) (by simpa using hu))
theorem Zhe {z:Nat}:∀ {vs:List (List Value)} {j:Nat} {v:Value},(∀ u ∈ vs,u.length=z)→vs.flatten[j]?=some v→∃ u,vs[j / z]?=some u∧u[j % z]?=some v
 | [],j,v,_,h=>by simp at h
 | u::vs,j,v,hz,h=>by
  have hu:=hz u List.mem_cons_self
  rw [List.flatten_cons] at h
  by_cases hj:j<z
  ·rw [List.getElem?_append_left (by omega)] at h
   exact ⟨u,by rw [Nat.div_eq_of_lt hj]; rfl,by rw [Nat.mod_eq_of_lt hj]; exact h⟩
  ·rw [List.getElem?_append_right (by omega),hu] at h
   obtain ⟨q,h1,h2⟩:=Zhe (fun x hx=>hz x (List.mem_cons_of_mem _ hx)) h
   have hz0:0<z:=by
    apply Classical.byContradiction; intro h0
    have:z=0:=by omega
    subst this
    have:q=[]:=by
     rcases List.getElem?_eq_some_iff.1 h1 with ⟨h3,rfl⟩
     exact List.eq_nil_of_length_eq_zero (hz _ (List.mem_cons_of_mem _ (List.getElem_mem h3)))
    rw [this] at h2; simp at h2
   refine ⟨q,?_,?_⟩
   ·rw [show j / z=(j - z) / z+1 by rw [← Nat.add_div_right _ hz0]; congr 1; omega]; simpa using h1
   ·rw [show j % z=(j - z) % z by rw [Nat.mod_eq_sub_mod (by omega)]]; exact h2
theorem Zp6 {α:Type} {f:α→List D} {I:α→Prop} {z:Nat} (h:P.underlying T=some (.slice E)) (hc:P.cellsOf E=z) (hz:0<z) [hE:Opn P E f I] [hL:Len f z]:Opn P T (dsL f) (ZxS I):=⟨fun {H enc W fuel cs x} hxx=>by
 rcases Go.Deep.open_slice h hxx with ⟨rfl,-⟩ | ⟨a,len,cap,m,k,D',Pl,rfl,-,hl,hml,hm,-,hx⟩
 ·exact ⟨[],⟨by simp,by simp⟩,.cons (.nil _ _) .nil⟩
 ·obtain rfl:m=cap:=by simpa using hm
  rw [hc] at hx
  by_cases hm0:m=0
  ·obtain rfl:len=0:=by omega
   exact ⟨[],⟨by simp,by simp⟩,.cons (.nil _ _) .nil⟩
  have each:∀ i:Nat,∃ p:α × List Value,i<m→I p.1∧RDs W (fun b=>b<W.heap.size) (f p.1) p.2∧p.2.length=z∧∀ j u,p.2[j]?=some u→W.cell? (a.add (i * z+j))=some u:=by
   intro i
   by_cases hi:i<m
   ·obtain ⟨cs,h1,h2⟩:=hx i hi
    obtain ⟨b,g1,g2⟩:=hE.out h2
    obtain ⟨-,hlen,hcell⟩:=World.cells?_some h1
    refine ⟨(b,cs),fun _=>⟨g1,g2,by rw [g2.length,hL.len],fun j u hj=>?_⟩⟩
    have hjz:j<z:=by
     have:=(List.getElem?_eq_some_iff.1 hj).1
     simp only at this
     rw [g2.length,hL.len] at this; exact this
    rw [← Go.Deep.add_add,hcell j hjz,hj]
   ·obtain ⟨cs,h1,h2⟩:=hx 0 (by omega)
    obtain ⟨b,-,-⟩:=hE.out h2
    exact ⟨(b,[]),fun h=>absurd h hi⟩
  let p:Nat→α × List Value:=fun i=>Classical.choose (each i)
  have hp:∀ i,i<m→I (p i).1∧RDs W (fun b=>b<W.heap.size) (f (p i).1) (p i).2∧(p i).2.length=z∧∀ j u,(p i).2[j]?=some u→W.cell? (a.add (i * z+j))=some u:=fun i=>Classical.choose_spec (each i)
  refine ⟨(List.range len).map fun i=>(p i).1,⟨by simp; unfold maxLen at hml; omega,fun b hb=>?_⟩,?_⟩
  ·obtain ⟨i,hi,rfl⟩:=List.mem_map.1 hb
   exact (hp i (by have:=List.mem_range.1 hi; omega)).1
  ·by_cases h0:len=0
   ·subst h0; exact .cons (.nil _ _) .nil
   obtain ⟨b,off,spot⟩:=a
   have hv0:∃ u,(p 0).2[0]?=some u:=⟨_,List.getElem?_eq_getElem (by rw [(hp 0 (by omega)).2.2.1]; exact hz)⟩
   obtain ⟨u0,hu0⟩:=hv0
   have hc0:=(hp 0 (by omega)).2.2.2 0 u0 hu0
   have hspot:spot=none:=by simpa [Addr.add] using World.cell?_spot hc0
   subst hspot
   have hb:b<W.heap.size:=World.block_lt_of_cell? W ⟨b,off+(0 * z+0),none⟩ (by rw [← Go.WideShapes.add_plain]; exact hc0)
   have hlen:((List.range len).map fun i=>(p i).1).length=len:=by simp
   refine .cons ?_ .nil
   rw [show lst f ((List.range len).map fun i=>(p i).1)=.l len (((List.range len).map fun i=>(p i).1).flatMap f) by unfold lst; rw [hlen]]
   refine RD.l hl (by omega) hb (ZmB (vs:=(List.range len).map fun i=>(p i).2) (by simp) fun i x v hx hv=>?_) fun j v hj=>?_
   ·rw [List.getElem?_map] at hx hv
    cases hr:(List.range len)[i]? with
    | none=>rw [hr] at hx; cases hx
    | some q =>
     rw [hr] at hx hv
     obtain rfl:=Option.some.inj hx
     obtain rfl:=Option.some.inj hv
     have:=List.mem_range.1 (List.mem_of_getElem? hr)
     exact (hp q (by omega)).2.1
   ·obtain ⟨u,h1,h2⟩:=Zhe (z:=z) (fun u hu=>by
      obtain ⟨i,hi,rfl⟩:=List.mem_map.1 hu
      exact (hp i (by have:=List.mem_range.1 hi; omega)).2.2.1) hj
    rw [List.getElem?_map] at h1
    cases hr:(List.range len)[j / z]? with
    | none=>rw [hr] at h1; cases h1
    | some q =>
     rw [hr] at h1
     obtain rfl:=Option.some.inj h1
     obtain ⟨hq1,hq2⟩:=List.getElem?_eq_some_iff.1 hr
     rw [List.getElem_range] at hq2
     rw [List.length_range] at hq1
     subst hq2
     have:=(hp _ (show j / z<m by omega)).2.2.2 _ v h2
     rw [Go.WideShapes.add_plain] at this
     rwa [Nat.mul_comm,Nat.div_add_mod] at this⟩
variable {H:Type} {enc:TypeId × Value→H}
theorem Zw6 {ok:Nat→Prop} {ρ:Lc} {x:D} {v:Value} (h:RDs W ok [x] [v]):RV W ok ρ (.d x) v:=by
 cases h with | cons h _=>exact .d h
theorem Zu7 {α:Type} {f:α→List D} {I:α→Prop} [hO:Opn P T f I] {v:Value} {d:DataW H} {ps:List MemPlace} (hc:v.cells.toList=[v]) (h:DataW.Trod enc P W 0 (fun _=>true) true T v d ps):∃ a:α,I a∧RDs W (fun b=>b<W.heap.size) (f a) [v]:=by
 obtain ⟨fuel,h⟩:=h
 rw [hc] at h
 exact hO.out h
end
end Go.Proofs.YtkcmgbbopedacaaGreatDoor
namespace Go.Proofs.YtkcmgbbopedacaaGreatDoor
open Go.RowKit
theorem RQs.rvs {w:World} {ok:Nat→Prop} {ρ:Lc}:∀ {qs:List (List D)} {vs:List Value},RQs w ok qs vs→RVs w ok ρ (qs.map V.q) vs
 | _,_,.nil=>.nil
 | _,_,.cons h1 h2 h3 h4=>.cons (.q h1 h2 h3) h4.rvs
section
variable {P:Program} {o:Oper} {H:Hp} {sl:List (Nat × V)} {x y z:Operand} {f:FuncId} {T U t K E:TypeId} {k d n m bytes:Nat} {u u':V} {qs:List (List D)} {us uc cs ws:List V} {ats:Array TypeId} {xs:Array Operand}
end
section
variable {α:Type}
def mlk (z:α) (i:Int):List (Int × α)→α
 | []=>z
 | (a,v)::r=>if i=a then v else mlk z i r
def ZtT (z:α) (i:Int):List (Int × α)→List (Int × α)
 | []=>[(i,z)]
 | (a,v)::r=>if i=a then (a,v)::r else (a,v)::ZtT z i r
def Zvw (v:α):Nat→List (Int × α)→List (Int × α)
 | _,[]=>[]
 | 0,(a,_)::r=>(a,v)::r
 | n+1,e::r=>e::Zvw v n r
def Zve (es:List (Int × α)) (s:Int) (v:α):Option (List (Int × α)):=if 0≤s∧s<es.length then some (Zvw v s.toNat es) else none
def ZtS (i:Int) (v:α):List (Int × α)→List (Int × α)
 | []=>[(i,v)]
 | (a,u)::r=>if i=a then (a,v)::r else (a,u)::ZtS i v r
end
section
variable {P:Program} {o:Oper} {H:Hp} {sl:List (Nat × V)} {x y z s v:Operand} {t K E:TypeId} {k d:Nat} {u uv:V} {α:Type} {f:α→List D} {ag:Bool} {es es':List (Int × α)} {zz w0:α} {zv:Value} {i:Int}
theorem RVs.set {w:World} {ok:Nat→Prop} {ρ:Lc}:∀ {us:List V} {vs:List Value} (j:Nat) {u:V} {v:Value},RVs w ok ρ us vs→RV w ok ρ u v→RVs w ok ρ (us.set j u) (vs.set j v)
 | _,_,_,_,_,.nil,_=>.nil
 | _,_,0,_,_,.cons _ h2,h=>.cons h h2
 | _,_,j+1,_,_,.cons h1 h2,h=>.cons h1 (h2.set j h)
end
def cpy {α:Type} (xs:List α) (a b n:Nat):List α:=xs.take a++((xs.drop b).take n++xs.drop (a+n))
section
variable {P:Program} {o:Oper} {H:Hp} {sl:List (Nat × V)} {x y z s v:Operand} {t T U K E:TypeId} {k d:Nat} {u uv:V} {α:Type} {f:α→List D} {ag:Bool} {es es':List (Int × α)} {zz w0:α} {zv:Value} {i:Int}
end
section
variable {P:Program} {o:Oper} {H:Hp} {sl:List (Nat × V)} {x y:Operand} {t T U E:TypeId} {k d zs bytes:Nat} {α:Type} {f:α→List D} {xs l1 l2 r:List α}
end
section
variable {Γ:Cx} {P:Program} {k:Zcc} {sl:List (Nat × V)} {hp H0 h h':Hp} {o:Oper} {ops:Array Oper} {i an d:Nat} {ts:List Nat} {r:List PI} {F:List Ft} {f:FuncId} {us uc:List V} {y:Operand} {xs:Array Operand} {ats:Array TypeId} {u u':V} {qs:List (List D)} {rest:List Oper} {rs:List ResultVar} {st:St} {ks:List Nat} {Ψ:V→Hp→Prop}
end
end Go.Proofs.YtkcmgbbopedacaaGreatDoor
namespace Go.Proofs.YtkcmgbbopedacaaGreatDoor
open Go.RowKit
attribute [local simp] Sem.run_bind Sem.run_pure Result.andThen_ok
def ZdD (ts:List Nat) (r:Hp):Hp:=ts.map (fun t=>(t,none))++r
theorem ZcL {ts:List Nat} {r:Hp} {k:Nat}:look (ZdD ts r) k=if k ∈ ts then some none else look r k:=by
 induction ts with
 | nil=>simp [ZdD]
 | cons t ts ih =>
  have:ZdD (t::ts) r=(t,none)::ZdD ts r:=rfl
  rw [this,Zo,ih]
  by_cases h:t=k
  ·simp [h]
  ·have:k≠t:=fun e=>h e.symm
   simp [h,this]
theorem Step.two {B:Nat→Prop} {H:Hp} {ρ:Lc} {w w':World} {k1 k2:Nat} {l1 l2:Loc} {b1 b2:Blk} (ts:List Nat) (hr:HR B H ρ w) (hk1:ρ k1=none) (hk2:ρ k2=none) (hne:k1≠k2) (h1:w'.os=w.os) (h2:w'.tape=w.tape) (h3:w'.output=w.output) (hs:w.heap.size≤w'.heap.size)
   (hT:∀ t ∈ ts,∃ blk,look H t=some (some blk)) (hkeep:∀ b,b<w.heap.size→(∀ t ∈ ts,∀ l0,ρ t=some l0→¬ l0.bl b)→w'.heap[b]?=w.heap[b]?)
   (hb:∀ b,(l1.bl b∨l2.bl b)→(w.heap.size≤b∧b<w'.heap.size)∨∃ t ∈ ts,∃ l0,ρ t=some l0∧l0.bl b) (hdis:∀ b,l1.bl b→l2.bl b→False)
   (hrel:∀ ok' ρ',Stl w w' (okb B w ρ) ok'→Ext ρ ρ'→ρ' k1=some l1→ρ' k2=some l2→b1.rel w' ok' ρ' l1∧b2.rel w' ok' ρ' l2) :
   Step B H (ZdD ts [(k1,some b1),(k2,some b2)]) ρ (upd (upd ρ k1 l1) k2 l2) w w':=by
 have hTn:∀ t ∈ ts,ρ t≠none:=fun t ht=>by
  obtain ⟨blk,e⟩:=hT t ht
  obtain ⟨l,e2,-⟩:=hr.rel _ _ e
  rw [e2]; simp
 have n1:k1 ∉ ts:=fun h=>hTn _ h hk1
 have n2:k2 ∉ ts:=fun h=>hTn _ h hk2
 have hk2':upd ρ k1 l1 k2=none:=by simp [upd,Ne.symm hne,hk2]
 have e1:upd (upd ρ k1 l1) k2 l2 k1=some l1:=by simp [upd,hne]
 have e2:upd (upd ρ k1 l1) k2 l2 k2=some l2:=Y0 _ _ _
 have hext:Ext ρ (upd (upd ρ k1 l1) k2 l2):=fun j l hj=>ZbZ hk2' j l (ZbZ hk1 j l hj)
 have hcase:∀ {j l},upd (upd ρ k1 l1) k2 l2 j=some l→(j=k1∧l=l1)∨(j=k2∧l=l2)∨ρ j=some l:=fun {j l} h=>by
  rcases Zad h with h | h
  ·exact .inr (.inl h)
  ·rcases Zad h with h | h
   ·exact .inl h
   ·exact .inr (.inr h)
 have hlk1:look (ZdD ts [(k1,some b1),(k2,some b2)]) k1=some (some b1):=by rw [ZcL,if_neg n1]; simp [Zo]
 have hlk2:look (ZdD ts [(k1,some b1),(k2,some b2)]) k2=some (some b2):=by rw [ZcL,if_neg n2]; simp [Zo,hne]
 have hlk:∀ {j x},look (ZdD ts [(k1,some b1),(k2,some b2)]) j=some (some x)→(j=k1∧x=b1)∨(j=k2∧x=b2):=fun {j x} h=>by
  rw [ZcL] at h
  split at h
  ·cases h
  ·rw [Zo] at h
   split at h
   ·subst_vars; simp only [Option.some.injEq] at h; exact .inl ⟨rfl,h.symm⟩
   ·obtain ⟨g1,g2⟩:=ZaL h
    exact .inr ⟨g1,Option.some.inj g2⟩
 have hlt:∀ {t},t ∈ ts→look (ZdD ts [(k1,some b1),(k2,some b2)]) t=some none:=fun {t} ht=>by rw [ZcL,if_pos ht]
 have hst:Stl w w' (okb B w ρ) (okb B w' (upd (upd ρ k1 l1) k2 l2)):=fun b ⟨g1,gB,g2⟩=>by
  have own:∀ t ∈ ts,∀ l0,ρ t=some l0→¬ l0.bl b:=fun t _ l0 e=>g2 t l0 e
  refine ⟨⟨Nat.lt_of_lt_of_le g1 hs,gB,fun j l hj e=>?_⟩,hkeep b g1 own⟩
  have key:(l1.bl b∨l2.bl b)→False:=fun h=>by
   rcases hb b h with h | ⟨t,ht,l0,h4,h5⟩
   ·omega
   ·exact own t ht l0 h4 h5
  rcases hcase hj with ⟨-,rfl⟩ | ⟨-,rfl⟩ | hj
  ·exact key (.inl e)
  ·exact key (.inr e)
  ·exact g2 j l hj e
 have hR:=hrel _ _ hst hext e1 e2
 have hnew:∀ b,(l1.bl b∨l2.bl b)→(w.heap.size≤b∧b<w'.heap.size)∨∃ k0 l0,look (ZdD ts [(k1,some b1),(k2,some b2)]) k0=some none∧ρ k0=some l0∧l0.bl b:=fun b h=>by
  rcases hb b h with h | ⟨t,ht,l0,h4,h5⟩
  ·exact .inl h
  ·exact .inr ⟨t,l0,hlt ht,h4,h5⟩
 refine ⟨h1,h2,h3,hs,hext,fun j l hj=>?_,fun b hbb hn=>hkeep b hbb fun t ht l0 e=>hn t l0 (by rw [hlt ht]; simp) e,fun j hj hn=>?_,fun j x hj=>?_,fun j j' x x' l l' b g1 g2 g3 g4 g5 g6=>?_⟩
 ·rcases hcase hj with ⟨rfl,rfl⟩ | ⟨rfl,rfl⟩ | hj
  ·exact .inr ⟨hk1,by rw [hlk1]; simp,fun b h=>hnew b (.inl h)⟩
  ·exact .inr ⟨hk2,by rw [hlk2]; simp,fun b h=>hnew b (.inr h)⟩
  ·exact .inl hj
 ·by_cases ht:j ∈ ts
  ·exact hT j ht
  ·rw [ZcL,if_neg ht,Zo] at hj
   split at hj
   ·subst_vars; exact absurd hk1 hn
   ·obtain rfl:=ZeY hj; exact absurd hk2 hn
 ·rcases hlk hj with ⟨rfl,rfl⟩ | ⟨rfl,rfl⟩
  ·exact ⟨l1,e1,hR.1⟩
  ·exact ⟨l2,e2,hR.2⟩
 ·rcases hlk g1 with ⟨rfl,-⟩ | ⟨rfl,-⟩ <;> rcases hlk g2 with ⟨rfl,-⟩ | ⟨rfl,-⟩
  ·rfl
  ·rw [e1] at g3; rw [e2] at g4
   obtain rfl:=Option.some.inj g3
   obtain rfl:=Option.some.inj g4
   exact (hdis b g5 g6).elim
  ·rw [e2] at g3; rw [e1] at g4
   obtain rfl:=Option.some.inj g3
   obtain rfl:=Option.some.inj g4
   exact (hdis b g6 g5).elim
  ·rfl
section
variable {w w':World} {ok ok':Nat→Prop} {E2 z2:Nat} {ho ho':Option Nat}
theorem InR.block {m:Nat} {inn:List D} {sv:Value} {l:List Nat}:InR w ok E2 z2 m inn sv l→∀ b,b ∈ l↔(Loc.arr sv).bl b
 | .inl ⟨h1,_,_,h4⟩=>by subst h1 h4; intro b; simp [Loc.bl]
 | .inr ⟨g,cap,us,sp,h1,_,_,_,_,_,_,_,h9⟩=>by subst h1 h9; intro b; simp [Loc.bl]
theorem InR.arr {ρ:Lc} {m:Nat} {inn:List D} {sv:Value} {l:List Nat}:InR w ok E2 z2 m inn sv l→Blk.rel w ok ρ (.arr E2 z2 m (inn.map .d)) (.arr sv)
 | .inl ⟨h1,h2,h3,_⟩=>.inl ⟨h1,h2,by rw [h3]; rfl⟩
 | .inr ⟨g,cap,us,sp,h1,h2,h3,h4,h5,h6,h7,h8,_⟩=>.inr ⟨g,cap,us,sp,h1,h2,h3,h4,h5,h6,h7,h8.toV⟩
theorem InR.of {ρ:Lc} {m:Nat} {inn:List D} {sv:Value} (h:Blk.rel w ok ρ (.arr E2 z2 m (inn.map .d)) (.arr sv)):∃ l,InR w ok E2 z2 m inn sv l:=by
 rcases h with ⟨h1,h2,h3⟩ | ⟨g,cap,us,sp,h1,h2,h3,h4,h5,h6,h7,h8⟩
 ·exact ⟨[],.inl ⟨h1,h2,by simpa using h3,rfl⟩⟩
 ·exact ⟨[g],.inr ⟨g,cap,us,sp,h1,h2,h3,h4,h5,h6,h7,h8.ofD,rfl⟩⟩
theorem InR.nodup {m:Nat} {inn:List D} {sv:Value} {l:List Nat}:InR w ok E2 z2 m inn sv l→l.Nodup
 | .inl ⟨_,_,_,h4⟩=>by rw [h4]; exact List.nodup_nil
 | .inr ⟨g,cap,us,sp,_,_,_,_,_,_,_,_,h9⟩=>by rw [h9]; simp
theorem InR.one {m:Nat} {inn:List D} {sv:Value} {l:List Nat}:InR w ok E2 z2 m inn sv l→sv.oneCell'=true
 | .inl ⟨h1,_⟩=>by rw [h1]; rfl
 | .inr ⟨g,cap,us,sp,h1,_⟩=>by rw [h1]; rfl
theorem AxR.move (hs:Stl w w' ok ok'):∀ {i:Nat} {es:List AxE} {us:List (List Value)} {ls:List Nat},(∀ b ∈ ls,w'.heap[b]?=w.heap[b]?)→(∀ j,i≤j→ho≠some j∧ho'≠some j)→AxR w ok E2 z2 ho i es us ls→AxR w' ok' E2 z2 ho' i es us ls
 | _,_,_,_,_,_,.nil i=>.nil i
 | i,_,_,_,hb,hj,.cons h1 h2 h3 h4 h5 h6=>.cons (h1.mono hs) (h2.mono hs) h3 (fun h=>absurd h (hj i (Nat.le_refl _)).2) (fun _=>(h5 (hj i (Nat.le_refl _)).1).mono hs fun b h=>hb b (List.mem_append_left _ h)) (h6.move hs (fun b h=>hb b (List.mem_append_right _ h)) fun j h=>hj j (by omega))
theorem AxR.len:∀ {i:Nat} {es:List AxE} {us:List (List Value)} {ls:List Nat},AxR w ok E2 z2 ho i es us ls→us.length=es.length
 | _,_,_,_,.nil i=>rfl
 | _,_,_,_,.cons _ _ _ _ _ h6=>by simp [h6.len]
theorem AxR.at {n:Nat}:∀ {i0:Nat} {es:List AxE} {us:List (List Value)} {ls:List Nat},AxR w ok E2 z2 ho i0 es us ls→∀ {i:Nat} {e:AxE},n=i0+i→es[i]?=some e→∃ up sv uq l us1 us2 ls1 ls2,us=us1++(up++sv::uq)::us2∧us1.length=i∧ls=ls1++(l++ls2)∧RDs w ok e.pre up∧RDs w ok e.post uq∧sv.oneCell'=true∧(ho=some n→l=[])∧(ho≠some n→InR w ok E2 z2 e.m e.inn sv l) ∧
   ∀ (w':World) (ok':Nat→Prop) (ho':Option Nat),Stl w w' ok ok'→(∀ b ∈ ls1++ls2,w'.heap[b]?=w.heap[b]?)→(∀ j,j≠n→ho≠some j∧ho'≠some j)→∀ (e':AxE) (sv':Value) (l':List Nat),e'.pre=e.pre→e'.post=e.post→sv'.oneCell'=true→(ho'=some n→l'=[])→(ho'≠some n→InR w' ok' E2 z2 e'.m e'.inn sv' l')→AxR w' ok' E2 z2 ho' i0 (es.set i e') (us1++(up++sv'::uq)::us2) (ls1++(l'++ls2))
 | _,_,_,_,.nil _,i,e,_,he=>by simp at he
 | i0,_,_,_,.cons (e:=e0) (up:=up) (uq:=uq) (sv:=sv) (us:=us) (l:=l) (ls:=ls) h1 h2 h3 h4 h5 h6,0,e,hn,he=>by
  simp only [List.getElem?_cons_zero,Option.some.injEq] at he
  subst he
  have hn':i0=n:=by omega
  subst hn'
  refine ⟨up,sv,uq,l,[],us,[],ls,rfl,rfl,rfl,h1,h2,h3,h4,h5,fun w' ok' ho' hs hb hj e' sv' l' p1 p2 p3 p4 p5=>?_⟩
  exact AxR.cons (l:=l') (ls:=ls) (us:=us) (by rw [p1]; exact h1.mono hs) (by rw [p2]; exact h2.mono hs) p3 p4 p5 (h6.move hs (fun b h=>hb b (by simpa using h)) fun j h=>hj j (by omega))
 | i0,_,_,_,.cons (e:=e0) (up:=up0) (uq:=uq0) (sv:=sv0) (us:=us) (l:=l0) (ls:=ls) h1 h2 h3 h4 h5 h6,i+1,e,hn,he=>by
  simp only [List.getElem?_cons_succ] at he
  obtain ⟨up,sv,uq,l,us1,us2,ls1,ls2,rfl,g2,rfl,g4,g5,g6,g7,g8,g9⟩:=h6.at (n:=n) (by omega) he
  refine ⟨up,sv,uq,l,(up0++sv0::uq0)::us1,us2,l0++ls1,ls2,rfl,by simp [g2],by simp,g4,g5,g6,g7,g8,fun w' ok' ho' hs hb hj e' sv' l' p1 p2 p3 p4 p5=>?_⟩
  rw [List.set_cons_succ,List.cons_append,List.append_assoc]
  refine .cons (h1.mono hs) (h2.mono hs) h3 (fun h=>absurd h (hj i0 (by omega)).2) (fun _=>(h5 (hj i0 (by omega)).1).mono hs fun b h=>hb b (by simp [h])) (g9 w' ok' ho' hs (fun b h=>hb b (by simp at h ⊢; rcases h with h | h <;> simp [h])) hj e' sv' l' p1 p2 p3 p4 p5)
theorem Zpq {us1 us2:List (List Value)} {r:List Value} {z:Nat} (hz:∀ q ∈ us1,q.length=z) {j:Nat} (hj:j<r.length) (sp:List Value):((us1++r::us2).flatten++sp)[us1.length * z+j]?=r[j]?:=by
 have h1:us1.flatten.length=us1.length * z:=by
  clear hj
  induction us1 with
  | nil=>simp
  | cons q us1 ih =>
   simp only [List.flatten_cons,List.length_append,List.length_cons,Nat.succ_mul]
   rw [hz q List.mem_cons_self,ih fun q h=>hz q (List.mem_cons_of_mem _ h)]; omega
 rw [List.flatten_append,List.flatten_cons,List.append_assoc,List.append_assoc,← h1,List.getElem?_append_right (by omega),Nat.add_sub_cancel_left,List.getElem?_append_left hj]
theorem Ztq {β:Type}:∀ {l:List β} {j:Nat} {x:β},l[j]?=some x→l.set j x=l
 | [],_,_,h=>by simp at h
 | a::l,0,x,h=>by simp at h; simp [h]
 | a::l,j+1,x,h=>by simp at h; simp [Ztq h]
theorem Zmr {us1:List (List Value)} {z:Nat} (hz:∀ q ∈ us1,q.length=z):us1.flatten.length=us1.length * z:=by
 induction us1 with
 | nil=>simp
 | cons q us1 ih =>
  simp only [List.flatten_cons,List.length_append,List.length_cons,Nat.succ_mul]
  rw [hz q List.mem_cons_self,ih fun q h=>hz q (List.mem_cons_of_mem _ h)]; omega
theorem AxR.snoc:∀ {i:Nat} {es:List AxE} {us:List (List Value)} {ls:List Nat},(∀ j,i≤j→ho≠some j)→AxR w ok E2 z2 ho i es us ls→∀ {e:AxE} {up uq:List Value} {sv:Value} {l:List Nat},RDs w ok e.pre up→RDs w ok e.post uq→InR w ok E2 z2 e.m e.inn sv l→AxR w ok E2 z2 ho i (es++[e]) (us++[up++sv::uq]) (ls++l)
 | i,_,_,_,hj,.nil _,e,up,uq,sv,l,p1,p2,p3=>by
  have:=AxR.cons (i:=i) (ho:=ho) (e:=e) (es:=[]) (us:=[]) (ls:=[]) p1 p2 p3.one (fun h=>absurd h (hj i (Nat.le_refl _))) (fun _=>p3) (.nil (i+1))
  simpa using this
 | i,_,_,_,hj,.cons h1 h2 h3 h4 h5 h6,e,up,uq,sv,l,p1,p2,p3=>by
  rw [List.cons_append,List.cons_append,List.append_assoc]
  exact .cons h1 h2 h3 h4 h5 (h6.snoc (fun j h=>hj j (by omega)) p1 p2 p3)
end
section
variable {P:Program} {o:Oper} {H:Hp} {sl:List (Nat × V)} {u:V} {x y:Operand} {T E E2 t:TypeId} {n k k2 z z2 off bytes m:Nat} {i:Int} {ag:Bool} {es:List AxE} {e:AxE} {ho:Option (Nat × Nat)}
theorem Zjh {B:Nat→Prop} {ρ:Lc} {w:World} (hr:HR B H ρ w) (hH:look H k2=some (some (.ax k E z E2 z2 es ho))):∃ v0 bs v,ρ k2=some (.tr v0 bs)∧ρ k=some (.tr v [])∧((v=.slice none 0 0∧es=[]∧bs=[])∨∃ g cap us sp ls,v=.slice (some ⟨g,0,none⟩) es.length cap∧es.length≤cap∧cap≤maxLen∧w.heap[g]?=some (.cells (us.flatten++sp:List Value).toArray E (0,0))∧(us.flatten++sp).length=cap * z∧(∀ r ∈ us,r.length=z)∧AxR w (okb B w ρ) E2 z2 (ho.map Prod.fst) 0 es us ls∧bs=g::ls∧(g::ls).Nodup∧HoR ρ ho es us):=by
 obtain ⟨l,h1,h2⟩:=hr.rel _ _ hH
 cases l with
 | box b=>exact h2.elim
 | arr v=>exact h2.elim
 | tr v0 bs =>
  obtain ⟨v,h3,h4⟩:=h2
  exact ⟨v0,bs,v,h1,h3,h4⟩
theorem ZwL {z' bytes' E':Nat} [hS:Sl P t E' z' bytes'] (hop:o.op=.call { callee:=.builtin .len,args:=#[x],argTypes:=#[t] }) (hx:ev sl x=some (.hx k)) (hH:look H k2=some (some (.ax k E z E2 z2 es ho))):OpD P o H sl 0 0 (vI es.length) []:=.read fun B a w ρ hs hr=>by
 obtain ⟨v0,bs,v,g0,g1,g2⟩:=Zjh hr hH
 have hx':=Zp hs hx
 refine ⟨_,?_,.d (.c rfl)⟩
 unfold execOp; rw [hop]
 generalize e:a.eval x=vx at hx'
 cases hx' with
 | hx hp =>
  rw [g1] at hp
  simp only [Option.some.injEq,Loc.tr.injEq] at hp
  obtain ⟨rfl,-⟩:=hp
  rcases g2 with ⟨h1,rfl,rfl⟩ | ⟨g,cap,us,sp,ls,h1,-⟩
  ·cases h1; simp [resolve,invoke,builtin,e,Zev hS]
  ·cases h1; simp [resolve,invoke,builtin,e,Zev hS]
theorem Zyy [hS:Sl P t E z bytes] (hop:o.op=.indexAddr t x y) (hx:ev sl x=some (.hx k)) (hy:ev sl y=some (vI i)) (hH:look H k2=some (some (.ax k E z E2 z2 es ho))) (hm:i=(m:Int)) (hl:m<es.length):OpD P o H sl 0 0 (.ex k (m * z)) []:=.read fun B a w ρ hs hr=>by
 obtain ⟨v0,bs,v,g0,g1,g2⟩:=Zjh hr hH
 have hx':=Zp hs hx
 have hy':=ZbM (Zp hs hy)
 unfold execOp; rw [hop]
 generalize e:a.eval x=vx at hx'
 cases hx' with
 | hx hp =>
  have hp':=hp
  rw [g1] at hp
  simp only [Option.some.injEq,Loc.tr.injEq] at hp
  obtain ⟨rfl,-⟩:=hp
  rcases g2 with ⟨h1,rfl,rfl⟩ | ⟨g,cap,us,sp,ls,h1,-⟩
  ·simp at hl
  ·cases h1
   exact ⟨_,by simp [e,hy',ZoF hS hm hl,addr_add],.ex hp'⟩
theorem ZvN [hf:Fo P T n off] {o0:Nat} (hop:o.op=.fieldAddr T x n) (hx:ev sl x=some (.ex k o0)):OpD P o H sl 0 0 (.ex k (o0+off)) []:=.read fun B a w ρ hs _=>by
 have hx':=Zp hs hx
 unfold execOp; rw [hop]
 generalize e:a.eval x=vx at hx'
 cases hx' with
 | ex hp=>exact ⟨_,by simp [e,ZlO hf],.ex hp⟩
theorem Zpp (hop:o.op=.nilCheck x) (hx:ev sl x=some (.ex k off)):OpD P o H sl 0 0 (.ex k off) []:=.read fun B a w ρ hs _=>by
 have hx':=Zp hs hx
 unfold execOp; rw [hop]
 generalize e:a.eval x=vx at hx'
 cases hx' with
 | ex hp=>exact ⟨_,by simp [e],.ex hp⟩
theorem ZtZ {B:Nat→Prop} {ρ:Lc} {w:World} {a:Act} (hr:HR B H ρ w) (hs:SR B sl ρ a w) (hH:look H k2=some (some (.ax k E z E2 z2 es ho))) (hx:ev sl x=some (.ex k off)) (he:es[m]?=some e):∃ v0 g cap us sp ls,ρ k2=some (.tr v0 (g::ls))∧ρ k=some (.tr (.slice (some ⟨g,0,none⟩) es.length cap) [])∧a.eval x=.pointer (some ⟨g,off,none⟩)∧es.length≤cap∧cap≤maxLen∧w.heap[g]?=some (.cells (us.flatten++sp:List Value).toArray E (0,0))∧(us.flatten++sp).length=cap * z∧(∀ r ∈ us,r.length=z)∧AxR w (okb B w ρ) E2 z2 (ho.map Prod.fst) 0 es us ls∧(g::ls).Nodup∧HoR ρ ho es us:=by
 obtain ⟨v0,bs,v,g0,g1,g2⟩:=Zjh hr hH
 rcases g2 with ⟨h1,rfl,rfl⟩ | ⟨g,cap,us,sp,ls,rfl,h2,h3,h4,h5,h6,h7,rfl,h8,hho⟩
 ·simp at he
 ·refine ⟨v0,g,cap,us,sp,ls,g0,g1,?_,h2,h3,h4,h5,h6,h7,h8,hho⟩
  have hx':=Zp hs hx
  generalize a.eval x=vx at hx'
  cases hx' with
  | ex hp =>
   rw [g1] at hp
   simp only [Option.some.injEq,Loc.tr.injEq,Value.slice.injEq,Addr.mk.injEq,and_true] at hp
   rw [hp.1.1]
theorem ZjD {B:Nat→Prop} {ρ:Lc} {w:World} {a:Act} {q off2:Nat} (hr:HR B H ρ w) (hs:SR B sl ρ a w) (hx:ev sl x=some (.ex k off2)) (hH:look H k2=some (some (.ax k E z E2 z2 es none))) (he:es[m]?=some e) (hf1:ρ q=none) (hf2:ρ (q+1)=none) :
   ∃ g sv v0 bs',a.eval x=.pointer (some ⟨g,off2,none⟩)∧w.cell? ⟨g,m * z+e.pre.length,none⟩=some sv∧(∃ n' c' p',sv=.slice p' n' c')∧Step B H (ZdD [k2] [(q,some (.arr E2 z2 e.m (e.inn.map .d))),(q+1,some (.ax k E z E2 z2 es (some (m,q))))]) ρ (upd (upd ρ q (.arr sv)) (q+1) (.tr v0 bs')) w w:=by
 obtain ⟨v0,g,cap,us,sp,ls,g0,g1,ha,h2,h3,h4,h5,h6,h7,h8,-⟩:=ZtZ hr hs hH hx he
 obtain ⟨up,sv,uq,l,us1,us2,ls1,ls2,rfl,p2,rfl,p4,p5,p6,-,p8,p9⟩:=h7.at (n:=m) (by omega) he
 have hin:=p8 (by simp)
 have hlen:=p4.length
 have hcell:w.cell? ⟨g,m * z+e.pre.length,none⟩=some sv:=by
  rw [World.cell?,h4]
  have:=Zpq (us1:=us1) (us2:=us2) (r:=up++sv::uq) (z:=z) (fun q h=>h6 q (by simp [h])) (j:=e.pre.length) (by simp; omega) sp
  rw [p2] at this
  simp only [List.getElem?_toArray,this]
  rw [List.getElem?_append_right (by omega),show e.pre.length - up.length=0 by omega]; rfl
 obtain ⟨n',c',p',rfl⟩:∃ n' c' p',sv=.slice p' n' c':=by
  rcases hin with ⟨h,-⟩ | ⟨_,_,_,_,h,-⟩
  ·exact ⟨_,_,_,h⟩
  ·exact ⟨_,_,_,h⟩
 refine ⟨g,_,v0,g::(ls1++ls2),ha,hcell,⟨_,_,_,rfl⟩,Step.two (l1:=.arr (.slice p' n' c')) (l2:=.tr v0 (g::(ls1++ls2))) [k2] hr hf1 hf2 (by omega) rfl rfl rfl (Nat.le_refl _) (fun t ht=>by simp at ht; subst ht; exact ⟨_,hH⟩) (fun _ _ _=>rfl) (fun b hb=>.inr ⟨k2,by simp,_,g0,?_⟩) (fun b hb1 hb2=>?_) fun ok' ρ' hst hex e1 e2=>⟨(Blk.rel_mono hst hex (fun _ _=>rfl) (hin.arr (ρ:=ρ))),_,hex _ _ g1,.inr ⟨g,cap,us1++(up++.slice p' n' c'::uq)::us2,sp,ls1++ls2,rfl,h2,h3,h4,h5,h6,?_,rfl,?_,?_⟩⟩⟩
 ·rcases hb with hb | hb
  ·have:=(hin.block b).2 hb
   simp [Loc.bl,this]
  ·simp only [Loc.bl,List.mem_cons,List.mem_append] at hb ⊢
   rcases hb with hb | hb | hb <;> simp [hb]
 ·have h:=(hin.block b).2 hb1
  simp only [Loc.bl,List.mem_cons,List.mem_append] at hb2
  simp only [List.nodup_cons,List.nodup_append,List.mem_append,not_or] at h8
  obtain ⟨⟨q1,q2,q3⟩,-,⟨-,-,q5⟩,q6⟩:=h8
  rcases hb2 with rfl | hb2 | hb2
  ·exact q2 h
  ·exact q6 b hb2 b (.inl h) rfl
  ·exact q5 b h b hb2 rfl
 ·have:=p9 w ok' (some m) hst (fun _ _=>rfl) (fun j hj=>⟨by simp,by simp; omega⟩) e (.slice p' n' c') [] rfl rfl rfl (fun _=>rfl) (fun h=>absurd rfl h)
  have e3:es.set m e=es:=Ztq he
  rw [e3] at this
  simpa using this
 ·simp only [List.nodup_cons,List.nodup_append,List.mem_append,not_or] at h8 ⊢
  obtain ⟨⟨q1,q2,q3⟩,q4,⟨-,q4',q5⟩,q6⟩:=h8
  exact ⟨⟨q1,q3⟩,q4,q4',fun a ha b hb=>q6 a ha b (.inr hb)⟩
 ·intro m' q' e' r h1 h2' h3'
  simp only [Option.some.injEq,Prod.mk.injEq] at h1
  obtain ⟨rfl,rfl⟩:=h1
  rw [he] at h2'
  obtain rfl:=Option.some.inj h2'
  rw [List.getElem?_append_right (by omega),show m - us1.length=0 by omega] at h3'
  simp only [List.getElem?_cons_zero,Option.some.injEq] at h3'
  subst h3'
  refine ⟨.slice p' n' c',?_,e1⟩
  rw [List.getElem?_append_right (by omega),show e.pre.length - up.length=0 by omega]; rfl
theorem Zwu {q:Nat} (hop:o.op=.load T x) (hx:ev sl x=some (.ex k (m * z+off))) (hH:look H k2=some (some (.ax k E z E2 z2 es none))) (he:es[m]?=some e) (ho0:off=e.pre.length) (hT:Ty P T 1 false) :
   OpD P o H sl q 2 (.h q) (ZdD [k2] [(q,some (.arr E2 z2 e.m (e.inn.map .d))),(q+1,some (.ax k E z E2 z2 es (some (m,q))))]):=fun B a w ρ hs hr hfr=>by
 obtain ⟨g,sv,v0,bs',ha,hcell,⟨n',c',p',rfl⟩,hst⟩:=ZjD hr hs hx hH he (hfr q (Nat.le_refl _) (by omega)) (hfr (q+1) (by omega) (by omega))
 have hld:(loadVar T ⟨g,m * z+off,none⟩).run P w=.ok (.slice p' n' c') w:=by
  have:=Zew (P:=P) (w:=w) (b:=g) (off:=m * z+off) (c:=[.slice p' n' c']) hT (fun j v hv=>by
   cases j with
   | zero=>simp at hv; subst hv; rw [ho0]; exact hcell
   | succ j=>simp at hv) rfl (fun _=>rfl)
  simpa using this
 refine ⟨_,.slice p' n' c',w,_,?_,.inl rfl,hst,.h ?_⟩
 ·unfold execOp; rw [hop]
  simp [ha,Instr.loadAt,Instr.sureAddr,hld]
 ·simp [upd]
theorem Zwy {q:Nat} (hop:o.op=.load T x) (hx:ev sl x=some (.ex k (m * z+off))) (hH:look H k2=some (some (.ax k E z E2 z2 es (some (m,q))))) (hq:∃ b,look H q=some (some (.arr E2 z2 n b))) (he:es[m]?=some e) (ho0:off=e.pre.length) (hT:Ty P T 1 false):OpD P o H sl 0 0 (.h q) []:=.read fun B a w ρ hs hr=>by
 obtain ⟨v0,g,cap,us,sp,ls,-,-,ha,-,-,h4,-,h6,h7,-,h8⟩:=ZtZ hr hs hH hx he
 obtain ⟨up,sv,uq,l,us1,us2,ls1,ls2,rfl,p2,rfl,p4,p5,p6,-,-,-⟩:=h7.at (n:=m) (by omega) he
 have hlen:=p4.length
 obtain ⟨sv',h9,h10⟩:=h8 m q e (up++sv::uq) rfl he (by rw [List.getElem?_append_right (by omega),show m - us1.length=0 by omega]; rfl)
 rw [List.getElem?_append_right (by omega),show e.pre.length - up.length=0 by omega] at h9
 simp only [List.getElem?_cons_zero,Option.some.injEq] at h9
 subst h9
 have hcell:w.cell? ⟨g,m * z+off,none⟩=some sv:=by
  rw [World.cell?,h4]
  have:=Zpq (us1:=us1) (us2:=us2) (r:=up++sv::uq) (z:=z) (fun q h=>h6 q (by simp [h])) (j:=off) (by simp; omega) sp
  rw [p2] at this
  simp only [List.getElem?_toArray,this]
  rw [List.getElem?_append_right (by omega),show off - up.length=0 by omega]; rfl
 have hld:(loadVar T ⟨g,m * z+off,none⟩).run P w=.ok sv w:=by
  have:=Zew (P:=P) (w:=w) (b:=g) (off:=m * z+off) (c:=[sv]) hT (fun j v hv=>by
   cases j with
   | zero=>simp at hv; subst hv; exact hcell
   | succ j=>simp at hv) rfl (fun _=>rfl)
  simpa using this
 refine ⟨sv,?_,?_⟩
 ·unfold execOp; rw [hop]
  simp [ha,Instr.loadAt,Instr.sureAddr,hld]
 ·obtain ⟨b,hb⟩:=hq
  obtain ⟨l,q1,q2⟩:=hr.rel _ _ hb
  rw [h10] at q1
  obtain rfl:=Option.some.inj q1
  rcases q2 with ⟨rfl,-⟩ | ⟨_,_,_,_,rfl,-⟩ <;> exact .h h10
theorem Zyj {q j n2 q0:Nat} {inn:List D} {es':List AxE} (hop:o.op=.store T x y) (hx:ev sl x=some (.ex k (m * z+off))) (hy:ev sl y=some (.h q)) (hH:look H k2=some (some (.ax k E z E2 z2 es (some (m,q0))))) (hq:look H q=some (some (.arr E2 z2 n2 (inn.map .d)))) (he:es[m]?=some e) (ho0:off=e.pre.length) (hT:Ty P T 1 false) (he':es.set m ⟨e.pre,n2,inn,e.post⟩=es') :
   OpD P o H sl j 2 .un (ZdD [k2,q] [(j,some .hd),(j+1,some (.ax k E z E2 z2 es' none))]):=fun B a w ρ hs hr hfr=>by
 subst he'
 obtain ⟨v0,g,cap,us,sp,ls,g0,g1,ha,h2,h3,h4,h5,h6,h7,h8,-⟩:=ZtZ hr hs hH hx he
 obtain ⟨up,sv,uq,l,us1,us2,ls1,ls2,rfl,p2,rfl,p4,p5,p6,p7,-,p9⟩:=h7.at (n:=m) (by omega) he
 obtain rfl:=p7 rfl
 have hlen:=p4.length
 have hl1:=Zmr (us1:=us1) (z:=z) fun r h=>h6 r (by simp [h])
 obtain ⟨lq,hq1,hq2⟩:=hr.rel _ _ hq
 have hne:k2≠q:=fun e=>by subst e; rw [hq] at hH; cases hH
 have hy':=Zp hs hy
 obtain ⟨vq,hvq⟩:∃ vq,a.eval y=vq:=⟨_,rfl⟩
 rw [hvq] at hy'
 cases hy' with
 | h hp =>
  rename_i n' c' p'
  rw [hq1] at hp
  obtain rfl:=Option.some.inj hp
  obtain ⟨l,hin⟩:=InR.of hq2
  have hblk:=hin.block
  have hdj:∀ b,b ∈ l→b ∈ g::(ls1++([]++ls2))→False:=fun b hb hb2=>hne (hr.inj k2 q _ _ _ _ b hH hq g0 hq1 hb2 ((hblk b).1 hb))
  have hcell:∀ (c:Value),(us1++(up++c::uq)::us2).flatten++sp=(us1.flatten++up)++c::(uq++us2.flatten++sp):=fun c=>by simp
  have hst0:=ZkT (P:=P) (w:=w) (b:=g) (off:=m * z+off) (c:=(us1++(up++sv::uq)::us2).flatten++sp) (vs:=[.slice p' n' c']) (v:=.slice p' n' c') hT h4 rfl (by rw [hcell]; simp [hl1,p2]; omega) rfl rfl
  have hstl:stL (m * z+off) [.slice p' n' c'] ((us1++(up++sv::uq)::us2).flatten++sp)=(us1++(up++.slice p' n' c'::uq)::us2).flatten++sp:=by
   have hidx:m * z+off=(us1.flatten++up).length:=by rw [List.length_append,hl1,p2,hlen]; omega
   rw [hcell,hcell,Zax _ _ _ (by rw [hidx]; simp only [List.length_append,List.length_cons,List.length_nil]; omega),hidx,List.take_left]
   have:(us1.flatten++up++sv::(uq++us2.flatten++sp)).drop ((us1.flatten++up).length+1)=uq++us2.flatten++sp:=by
    rw [← List.drop_drop,List.drop_left]; rfl
   simp only [List.length_cons,List.length_nil,Nat.zero_add,this]
   simp
  rw [hstl] at hst0
  have hoth:∀ b,b≠g→(w.setRow g ((us1++(up++.slice p' n' c'::uq)::us2).flatten++sp).toArray).heap[b]?=w.heap[b]?:=fun b hb=>setRow_other w g b _ hb
  have hnd:=h8
  simp only [List.nodup_cons,List.nodup_append,List.mem_append,not_or,List.nil_append] at hnd
  obtain ⟨⟨q1,q3⟩,q4,q4',q6⟩:=hnd
  refine ⟨.skip,undef,w.setRow g ((us1++(up++.slice p' n' c'::uq)::us2).flatten++sp).toArray,_,?_,.inr ⟨rfl,rfl⟩,Step.two (l1:=.tr undef []) (l2:=.tr v0 (g::(ls1++(l++ls2)))) [k2,q] hr (hfr j (Nat.le_refl _) (by omega)) (hfr (j+1) (by omega) (by omega)) (by omega) rfl rfl rfl (by simp) (fun t ht=>?_) (fun b hb hn=>?_) (fun b hb=>.inr ?_) (fun b hb1 _=>by cases hb1) fun ok' ρ' hst hex e1 e2=>⟨rfl,_,hex _ _ g1,.inr ⟨g,cap,us1++(up++.slice p' n' c'::uq)::us2,sp,ls1++(l++ls2),by rw [List.length_set],by rw [List.length_set]; exact h2,h3,setRow_heap w g _ _ _ _ h4,?_,?_,?_,rfl,?_,HoR.none⟩⟩,.un⟩
  ·unfold execOp; rw [hop]
   simp [ha,hvq,Instr.storeAt,Instr.sureAddr,hst0]
  ·simp only [List.mem_cons,List.not_mem_nil,or_false] at ht
   rcases ht with rfl | rfl
   ·exact ⟨_,hH⟩
   ·exact ⟨_,hq⟩
  ·exact hoth b fun e=>hn k2 (by simp) _ g0 (by rw [e]; exact List.mem_cons_self)
  ·rcases hb with hb | hb
   ·cases hb
   ·simp only [Loc.bl,List.mem_cons,List.mem_append] at hb
    rcases hb with hb | hb | hb | hb
    ·exact ⟨k2,by simp,_,g0,by simp [Loc.bl,hb]⟩
    ·exact ⟨k2,by simp,_,g0,by simp [Loc.bl,hb]⟩
    ·exact ⟨q,by simp,_,hq1,(hblk b).1 hb⟩
    ·exact ⟨k2,by simp,_,g0,by simp [Loc.bl,hb]⟩
  ·rw [← h5,hcell,hcell]; simp
  ·intro r hr'
   simp only [List.mem_append,List.mem_cons] at hr'
   rcases hr' with h | h | h
   ·exact h6 r (by simp [h])
   ·have:=h6 (up++sv::uq) (by simp)
    rw [h]; simpa using this
   ·exact h6 r (by simp [h])
  ·refine p9 _ ok' none hst (fun b hb=>hoth b fun e=>?_) (fun i hi=>⟨by simp; omega,by simp⟩) _ (.slice p' n' c') l rfl rfl rfl (fun h=>by cases h) fun _=>hin.mono hst fun b hb=>hoth b fun e=>hdj b hb (by rw [e]; exact List.mem_cons_self)
   rcases List.mem_append.1 hb with h | h
   ·rw [e] at h; exact q1 h
   ·rw [e] at h; exact q3 h
  ·simp only [List.nodup_cons,List.nodup_append,List.mem_append,not_or]
   refine ⟨⟨q1,fun h=>hdj g h List.mem_cons_self,q3⟩,q4,⟨hin.nodup,q4',fun a ha b hb e=>hdj a ha (by rw [e]; simp [hb])⟩,fun a ha b hb e=>?_⟩
   rcases hb with hb | hb
   ·exact hdj b hb (by rw [← e]; simp [ha])
   ·exact q6 a ha b hb e
set_option maxHeartbeats 2000000 in
theorem Zwz (j:Nat) {uy ci:V} (ts0:List Nat) [hS:Sl P t E z bytes] (hop:o.op=.call { callee:=.builtin .append,args:=#[x,y],argTypes:=#[t,t] }) (hx:ev sl x=some (.hx k)) (hy:ev sl y=some uy) (hK:look H k=some (some .hd)) (hH:look H k2=some (some (.ax k E z E2 z2 es none)))
   (hsrc:Zki H uy=some (1,e.pre.map .d++ci::e.post.map .d)) (hz:e.pre.length+1+e.post.length=z) (hci:(ci=.d (.c (.slice none 0 0))∧e.m=0∧e.inn=[]∧ts0=[])∨∃ r,ci=.h r∧look H r=some (some (.arr E2 z2 e.m (e.inn.map .d)))∧ts0=[r])
   (hb:(es.length+1) * bytes≤140737488355328) (hm:es.length+1≤9223372036854775807):OpD P o H sl j 2 (.hx j) (ZdD (k::k2::ts0) [(j,some .hd),(j+1,some (.ax j E z E2 z2 (es++[e]) none))]):=fun B a w ρ hs hr hfr=>by
 obtain ⟨i,zv,hi,hzi,rfl,rfl,hzs⟩:=hS.el
 have ht:=hS.un
 obtain ⟨px,cx,hv,hmc,hxx⟩:=Zfe hr hsrc (Zp hs hy)
 obtain ⟨b,o0,vs,rfl,hbw,hvs,hone,hcell⟩:=hxx.resolve_left (by omega)
 obtain ⟨v0,bs,v,g0,g1,g2⟩:=Zjh hr hH
 have hx':=Zp hs hx
 have hvl:vs.length=i.size:=by rw [hvs.length]; simp; omega
 -- the element's cells
 obtain ⟨up,sv,uq,l,rfl,hup,huq,hin,hlb⟩:∃ up sv uq l,vs=up++sv::uq∧RDs w (okb B w ρ) e.pre up∧RDs w (okb B w ρ) e.post uq∧InR w (okb B w ρ) E2 z2 e.m e.inn sv l∧∀ b ∈ l,b<w.heap.size∧b ∉ bs∧∃ t ∈ ts0,∃ l0,ρ t=some l0∧l0.bl b:=by
  have hsp:=hvs
  have h1:=(hsp.take e.pre.length)
  have h2:=(hsp.drop e.pre.length)
  have e1:(e.pre.map V.d++ci::e.post.map .d).take e.pre.length=e.pre.map .d:=List.take_left' (by simp)
  have e2:(e.pre.map V.d++ci::e.post.map .d).drop e.pre.length=ci::e.post.map .d:=List.drop_left' (by simp)
  rw [e1] at h1
  rw [e2] at h2
  generalize hd:vs.drop e.pre.length=vd at h2
  cases h2 with
  | cons h3 h4 =>
   rename_i sv uq
   have hvs':vs=vs.take e.pre.length++sv::uq:=by rw [← hd,List.take_append_drop]
   rcases hci with ⟨rfl,hm0,hi0,rfl⟩ | ⟨r,rfl,hr1,rfl⟩
   ·exact ⟨_,sv,uq,[],hvs',h1.ofD,h4.ofD,.inl ⟨ZbM h3,hm0,hi0,rfl⟩,by simp⟩
   ·obtain ⟨lr,k3,k4⟩:=hr.rel _ _ hr1
    cases h3 with
    | h hp =>
     rw [k3] at hp
     obtain rfl:=Option.some.inj hp
     obtain ⟨l,hin⟩:=InR.of k4
     refine ⟨_,_,uq,l,hvs',h1.ofD,h4.ofD,hin,fun b hb=>?_⟩
     have hb':=(hin.block b).1 hb
     refine ⟨hr.lt _ _ _ k3 hb',fun hb2=>?_,r,by simp,_,k3,hb'⟩
     have:=hr.inj k2 r _ _ _ _ b hH hr1 g0 k3 hb2 hb'
     subst this
     rw [hr1] at hH; cases hH
 have fin:∀ (v v':Value) (w':World),a.eval x=v→(Builtin.append_ #[t,t] o.type #[v,.slice (some ⟨b,o0,none⟩) 1 cx]).run P w=.ok v' w'→(execOp a.eval o).run P w=.ok (.value v') w':=fun v v' w' e hrun=>by
  unfold execOp; rw [hop]
  simp [resolve,invoke,builtin,e,hv,hrun]
 have close:∀ (us:List (List Value)) (ls:List Nat) (w':World) (g' cap':Nat) (sp':List Value),AxR w (okb B w ρ) E2 z2 none 0 es us ls→(∀ r ∈ us,r.length=i.size)→(∀ b ∈ ls,b ∈ bs)→ls.Nodup→w'.os=w.os→w'.tape=w.tape→w'.output=w.output→w.heap.size≤w'.heap.size→((g' ∈ bs∧g' ∉ ls)∨(w.heap.size≤g'∧g' < w'.heap.size))→(∀ c,c<w.heap.size→c≠g'→w'.heap[c]?=w.heap[c]?)→es.length+1≤cap'→cap'≤maxLen→w'.heap[g']?=some (.cells (us.flatten++(up++sv::uq)++sp').toArray E (0,0))→(us.flatten++(up++sv::uq)++sp').length=cap' * i.size →
    Step B H (ZdD (k::k2::ts0) [(j,some .hd),(j+1,some (.ax j E i.size E2 z2 (es++[e]) none))]) ρ (upd (upd ρ j (.tr (.slice (some ⟨g',0,none⟩) (es.length+1) cap') [])) (j+1) (.tr v0 (g'::(ls++l)))) w w'∧RV w' (okb B w' (upd (upd ρ j (.tr (.slice (some ⟨g',0,none⟩) (es.length+1) cap') [])) (j+1) (.tr v0 (g'::(ls++l))))) (upd (upd ρ j (.tr (.slice (some ⟨g',0,none⟩) (es.length+1) cap') [])) (j+1) (.tr v0 (g'::(ls++l)))) (.hx j) (.slice (some ⟨g',0,none⟩) (es.length+1) cap'):=by
  intro us ls w' g' cap' sp' hax hrows hls hnd c1 c2 c3 c4 c5 c6 c7 c8 c9 c10
  have hg'l:g' ∉ l:=fun h=>by
   obtain ⟨d1,d2,-⟩:=hlb g' h
   rcases c5 with ⟨d,-⟩ | ⟨d,-⟩
   ·exact d2 d
   ·omega
  have hlslt:∀ b ∈ ls,b<w.heap.size:=fun b hb=>hr.lt k2 _ b g0 (hls b hb)
  have hg'ls:g' ∉ ls:=fun h=>by
   rcases c5 with ⟨-,d⟩ | ⟨d,-⟩
   ·exact d h
   ·have:=hlslt g' h; omega
  refine ⟨Step.two (k::k2::ts0) hr (hfr j (Nat.le_refl _) (by omega)) (hfr (j+1) (by omega) (by omega)) (by omega) c1 c2 c3 c4 (fun t ht=>?_) (fun c hc hn=>?_) (fun c hc=>?_) (fun c hc _=>by cases hc) fun ok' ρ' hst hex e1 e2=>⟨rfl,_,e1,.inr ⟨g',cap',us++[up++sv::uq],sp',ls++l,by simp,by simpa using c7,c8,by simpa using c9,by simpa using c10,?_,?_,rfl,?_,HoR.none⟩⟩,.hx (bs:=[]) ?_⟩
  ·simp only [List.mem_cons] at ht
   rcases ht with rfl | rfl | ht
   ·exact ⟨_,hK⟩
   ·exact ⟨_,hH⟩
   ·rcases hci with ⟨-,-,-,rfl⟩ | ⟨r,-,hr1,rfl⟩
    ·cases ht
    ·simp at ht; subst ht; exact ⟨_,hr1⟩
  ·by_cases e:c=g'
   ·subst e
    rcases c5 with ⟨d,-⟩ | ⟨d,-⟩
    ·exact absurd d (hn k2 (by simp) _ g0)
    ·omega
   ·exact c6 c hc e
  ·rcases hc with hc | hc
   ·cases hc
   ·simp only [Loc.bl,List.mem_cons,List.mem_append] at hc
    rcases hc with rfl | hc | hc
    ·rcases c5 with ⟨d,-⟩ | d
     ·exact .inr ⟨k2,by simp,_,g0,d⟩
     ·exact .inl d
    ·exact .inr ⟨k2,by simp,_,g0,hls c hc⟩
    ·obtain ⟨-,-,t,ht,l0,q1,q2⟩:=hlb c hc
     exact .inr ⟨t,by simp [ht],l0,q1,q2⟩
  ·intro r hr'
   rcases List.mem_append.1 hr' with h | h
   ·exact hrows r h
   ·simp at h; rw [h]; exact hvl
  ·refine AxR.snoc (fun _ _=>by simp) (hax.mono hst fun c hc=>c6 c (hlslt c hc) fun e=>hg'ls (e ▸ hc)) (hup.mono hst) (huq.mono hst) (hin.mono hst fun c hc=>c6 c (hlb c hc).1 fun e=>hg'l (e ▸ hc))
  ·simp only [List.nodup_cons,List.nodup_append,List.mem_append,not_or]
   exact ⟨⟨hg'ls,hg'l⟩,hnd,hin.nodup,fun a ha c hc e=>(hlb c hc).2.1 (e ▸ hls a ha)⟩
  ·simp [upd]
 generalize e:a.eval x=vx at hx'
 cases hx' with
 | hx hp =>
  rename_i n0 cap p0 bs0
  rw [g1] at hp
  simp only [Option.some.injEq,Loc.tr.injEq] at hp
  obtain ⟨rfl,-⟩:=hp
  rcases g2 with ⟨h1,rfl,rfl⟩ | ⟨g,cap1,us,sp,ls,h1,h2,h3,h4,h5,h6,h7,rfl,h8,-⟩
  ·cases h1
   have hr0:=run_append_nil (P:=P) w t o.type E i zv ht hi hzi ⟨b,o0,none⟩ 1 cx (up++sv::uq) (by omega) (fun j u hj=>by rw [addr_add]; exact hcell j u hj) (by omega) (by omega) (by simp at hb; omega)
   rw [ta] at hr0
   have hge:=grownCap_ge w 1 0 E
   have hle:=grownCap_le_maxLen w 1 0 E (by unfold maxLen; omega)
   obtain ⟨k5,k6⟩:=close [] [] (w.drew.alloc (.cells (up++sv::uq++(Builtin.zeroCells zv.cells (grownCap w 1 0 E - 1)).toList).toArray E)) w.heap.size (grownCap w 1 0 E) (Builtin.zeroCells zv.cells (grownCap w 1 0 E - 1)).toList (.nil 0) (by simp) (by simp) List.nodup_nil rfl rfl rfl (by simp) (.inr ⟨Nat.le_refl _,by simp⟩) (fun c hc _=>Below.heap_alloc w.drew _ _ hc) hge hle (heap_alloc_new w.drew _) (by
    simp only [List.flatten_nil,List.nil_append,List.length_append,List.size_toArray,Array.length_toList,size_zeroCells,hzs] at hvl ⊢
    rw [hvl]
    have:grownCap w 1 0 E=1+(grownCap w 1 0 E - 1):=by omega
    conv=>rhs; rw [this]
    rw [Nat.add_mul,Nat.one_mul])
   exact ⟨_,_,_,_,fin _ _ _ e hr0,.inl rfl,k5,k6⟩
  ·cases h1
   have hul:=h7.len
   have hfl:us.flatten.length=es.length * i.size:=by rw [Zmr h6,hul]
   have holds:∀ j u,us.flatten[j]?=some u→w.cell? ((⟨g,0,none⟩:Addr).add j)=some u:=fun j u hj=>by
    rw [addr_add,Nat.zero_add,World.cell?,h4]
    simp [List.getElem?_append_left (List.getElem?_eq_some_iff.1 hj).1,hj]
   have hnews:∀ j u,(up++sv::uq)[j]?=some u→w.cell? ((⟨b,o0,none⟩:Addr).add j)=some u:=fun j u hj=>by rw [addr_add]; exact hcell j u hj
   have hnd:=List.nodup_cons.1 h8
   by_cases hroom:es.length+1≤cap
   ·have hfit:es.length * i.size+(up++sv::uq).length≤(us.flatten++sp).toArray.size:=by
      rw [List.size_toArray,h5,hvl,← Nat.succ_mul]; exact Nat.mul_le_mul_right _ hroom
    have hr0:=run_append_room (P:=P) w t o.type E i ht hi g es.length cap (us.flatten++sp).toArray h4 ⟨b,o0,none⟩ 1 cx (up++sv::uq) (by omega) hnews (List.all_eq_true.1 hone) hroom hfit
    have htake:(us.flatten++sp).take (es.length * i.size)=us.flatten:=by rw [← hfl]; exact List.take_left
    simp only [htake] at hr0
    obtain ⟨k5,k6⟩:=close us ls (w.setRow g _) g cap ((us.flatten++sp).drop (es.length * i.size+(up++sv::uq).length)) h7 h6 (fun b hb=>List.mem_cons_of_mem _ hb) hnd.2 rfl rfl rfl (by simp) (.inl ⟨List.mem_cons_self,hnd.1⟩) (fun c _ hc=>setRow_other w g c _ hc) hroom h3 (setRow_heap w g _ _ _ _ h4) (by
     rw [List.length_append,List.length_append,hfl,List.length_drop,h5,hvl]
     have:=Nat.mul_le_mul_right i.size hroom
     rw [Nat.succ_mul] at this
     omega)
    exact ⟨_,_,_,_,fin _ _ _ e hr0,.inl rfl,k5,k6⟩
   ·have hr0:=run_append_grow (P:=P) w t o.type E i zv ht hi hzi ⟨g,0,none⟩ es.length cap us.flatten hfl holds ⟨b,o0,none⟩ 1 cx (up++sv::uq) (by omega) hnews (by omega) (by omega) (growslice_fits (by omega) hb)
    rw [List.append_toArray,ta] at hr0
    have hge:=grownCap_ge w (es.length+1) cap E
    have hle:=grownCap_le_maxLen w (es.length+1) cap E (by unfold maxLen; omega)
    obtain ⟨k5,k6⟩:=close us ls (w.drew.alloc _) w.heap.size (grownCap w (es.length+1) cap E) (Builtin.zeroCells zv.cells (grownCap w (es.length+1) cap E - (es.length+1))).toList h7 h6 (fun b hb=>List.mem_cons_of_mem _ hb) hnd.2 rfl rfl rfl (by simp) (.inr ⟨Nat.le_refl _,by simp⟩) (fun c hc _=>Below.heap_alloc w.drew _ _ hc) hge hle (heap_alloc_new w.drew _) (by
     simp only [List.length_append,List.size_toArray,Array.length_toList,size_zeroCells,hzs] at hvl hfl ⊢
     rw [hfl]
     have h9:grownCap w (es.length+1) cap E=(es.length+1)+(grownCap w (es.length+1) cap E - (es.length+1)):=by omega
     conv=>rhs; rw [h9]
     rw [Nat.add_mul,Nat.succ_mul]
     omega)
    exact ⟨_,_,_,_,fin _ _ _ e hr0,.inl rfl,k5,k6⟩
end
theorem Zjz {Γ:Cx} {sl:List (Nat × V)} {hp:Hp} {ρ:Lc} {a:Act} {w:World} (hr:ZfT Γ ⟨sl,hp⟩ ρ a w) (k E z E2 z2:Nat) (hf:ZZ hp k 2=true):ZfT Γ ⟨sl,(k,some .hd)::(k+1,some (.ax k E z E2 z2 [] none))::hp⟩ (upd (upd ρ k (.tr (.slice none 0 0) [])) (k+1) (.tr undef [])) a w:=by
 have f1:ρ k=none:=Zc7 hr hf k (Nat.le_refl _) (by omega)
 have f2:ρ (k+1)=none:=Zc7 hr hf (k+1) (by omega) (by omega)
 have s:=Step.two (B:=Γ.B) (H:=hp) (w:=w) (w':=w) (k1:=k) (k2:=k+1) (l1:=.tr (.slice none 0 0) []) (l2:=.tr undef []) (b1:=.hd) (b2:=.ax k E z E2 z2 [] none) [] hr.hr f1 f2 (by omega) rfl rfl rfl (Nat.le_refl _) (fun t ht=>by cases ht) (fun _ _ _=>rfl) (fun b hb=>by rcases hb with hb | hb <;> cases hb) (fun b hb _=>by cases hb) fun ok' ρ' _ _ e1 e2=>⟨rfl,_,e1,.inl ⟨rfl,rfl,rfl⟩⟩
 exact hr.step (d:=none) (u:=.un) (v:=undef) (fun _ _ h=>h) s .un (fun t e=>by cases e)
theorem ZuV {Γ:Cx} {sl:List (Nat × V)} {hp:Hp} (t k E z E2 z2:Nat) (ht:look sl t=some (.d (.c (.slice none 0 0)))) (hf:ZZ hp k 2=true):Wk Γ ⟨sl,hp⟩ ⟨(t,.hx k)::sl,(k,some .hd)::(k+1,some (.ax k E z E2 z2 [] none))::hp⟩:=fun a w ⟨ρ,hr⟩=>by
 have h1:=Zjz hr k E z E2 z2 hf
 refine ⟨_,h1.defers,h1.size,h1.kp,h1.ext0,h1.own,h1.dom,h1.dom0,h1.bup,h1.hr,fun t' u hu=>?_⟩
 simp only [Zo] at hu
 split at hu
 ·subst_vars
  simp only [Option.some.injEq] at hu; subst hu
  obtain ⟨v,h2,h3⟩:=hr.sr t' _ ht
  exact ⟨v,h2,by rw [ZbM h3]; exact .hx (bs:=[]) (by simp [upd])⟩
 ·exact h1.sr t' u hu
theorem Zsk {Γ:Cx} {sl:List (Nat × V)} {hp:Hp} {ρ:Lc} {a:Act} {w:World} {T:TypeId} {cs:List V} (b o:Nat) (x:V) (h1:ZfT Γ ⟨sl,hp⟩ ρ a w) (hb1:look hp b=some (some (.box T cs))) (hc:cs[o]?=some (.d (.c (.slice none 0 0)))) (hx:RV w (okb Γ.B w ρ) ρ x (.slice none 0 0)):ZfT Γ ⟨sl,(b,some (.box T (cs.set o x)))::hp⟩ ρ a w:=by
 have hne:∀ j x',look hp j=some x'→x'=none→look ((b,some (.box T (cs.set o x)))::hp) j=some x':=fun j x' hj e=>by
  rw [Zo]; split
  ·subst_vars; rw [hb1] at hj; cases hj
  ·exact hj
 refine ⟨h1.defers,h1.size,h1.kp,h1.ext0,fun j l c hj hc=>?_,fun j l hj=>?_,h1.dom0,h1.bup,⟨fun j blk hj=>?_,fun j j' blk blk' l l' c g1 g2=>?_,h1.hr.lt,h1.hr.gl⟩,h1.sr⟩
 ·rcases h1.own j l c hj hc with h | h | ⟨k0,l0,h3,h4,h5⟩
  ·exact .inl h
  ·exact .inr (.inl h)
  ·exact .inr (.inr ⟨k0,l0,hne k0 _ h3 rfl,h4,h5⟩)
 ·have:=h1.dom j l hj
  simp only [Zo b]
  split
  ·simp
  ·exact this
 ·simp only [Zo b] at hj
  split at hj
  ·subst_vars
   simp only [Option.some.injEq] at hj; subst hj
   obtain ⟨l,h2,h3⟩:=h1.hr.rel _ _ hb1
   refine ⟨l,h2,?_⟩
   cases l with
   | tr _ _=>exact h3.elim
   | arr v=>exact h3.elim
   | box g =>
    obtain ⟨us,h4,h5,h6⟩:=h3
    obtain ⟨v,h7,h8⟩:=h6.get hc
    refine ⟨us,h4,h5,Ziy ?_ o h6 h7⟩
    rw [ZbM h8]; exact hx
  ·exact h1.hr.rel j blk hj
 ·have key:∀ j x',look ((b,some (.box T (cs.set o x)))::hp) j=some (some x')→∃ y,look hp j=some (some y):=fun j x' hj=>by
    rw [Zo] at hj; split at hj
    ·subst_vars; exact ⟨_,hb1⟩
    ·exact ⟨_,hj⟩
  obtain ⟨y,g3⟩:=key j _ g1
  obtain ⟨y',g4⟩:=key j' _ g2
  exact h1.hr.inj j j' y y' l l' c g3 g4
theorem Zst {Γ:Cx} {sl:List (Nat × V)} {hp:Hp} {T:TypeId} {cs cs':List V} (b o k E z E2 z2:Nat) (hb:look hp b=some (some (.box T cs))) (hc:cs[o]?=some (.d (.c (.slice none 0 0)))) (hf:ZZ hp k 2=true) (hs:cs.set o (.hx k)=cs'):Wk Γ ⟨sl,hp⟩ ⟨sl,(b,some (.box T cs'))::(k,some .hd)::(k+1,some (.ax k E z E2 z2 [] none))::hp⟩:=fun a w ⟨ρ,hr⟩=>by
 subst hs
 have h1:=Zjz hr k E z E2 z2 hf
 have n1:k≠b:=fun e=>by subst e; rw [Zav hf (Nat.le_refl _) (by omega)] at hb; cases hb
 have n2:k+1≠b:=fun e=>by subst e; rw [Zav hf (by omega) (by omega)] at hb; cases hb
 exact ⟨_,Zsk b o (.hx k) h1 (by rw [Zo,if_neg n1,Zo,if_neg n2]; exact hb) hc (.hx (bs:=[]) (by simp [upd]))⟩
def ZlB:Hp→Nat→Nat
 | [],_=>0
 | (k2,b)::r,h=>match b with
  | some (.ax k _ _ _ _ _ _)=>bif Nat.beq k h then k2 else ZlB r h
  | _=>ZlB r h
end Go.Proofs.YtkcmgbbopedacaaGreatDoor
