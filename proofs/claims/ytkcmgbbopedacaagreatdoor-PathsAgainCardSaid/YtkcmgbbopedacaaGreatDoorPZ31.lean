/-
  Lemmas: sort.SliceStable in this program, at slices of bounds.
-/
import Derived.Test.YtkcmgbbopedacaaGreatDoorPZ16
import Derived.Test.YtkcmgbbopedacaaGreatDoorPZ17
import Derived.Test.YtkcmgbbopedacaaGreatDoorPZ30
import Derived.Test.YtkcmgbbopedacaaGreatDoorProg
import Derived.Shelf.GgSortMore.Stable
set_option linter.unusedSimpArgs false
set_option linter.unusedVariables false
namespace Go.Proofs.YtkcmgbbopedacaaGreatDoor
open Go.RowKit
structure SSt (P:Program) (fid t k:Nat):Prop where
 fn : ∃ fn, P.funcs[fid]? = some fn ∧ (fn.name == "runtime.NumGoroutine") = false ∧ fn.body.isNone = false
 run:∀ {α:Type} {fv:α→List Value} {lt:α→α→Bool} {gc:Nat} {lb:Array Value} {w:World} {g E:Nat} {sp:List Value} (c:Nat) {d:List α},(∀ x,(fv x).length=k)→(∀ x,∀ v ∈ fv x,v.oneCell'=true)→(∀ args w,(callFunc gc args).run P w=.ok (.enter gc args) w) →
  d.length<4611686018427387904→g<w.heap.size→w.heap[g]?=some (.cells (d.flatMap fv++sp).toArray E (0,0)) →
  (∀ {d' W},SM.Row w g E fv sp d.length d' W→∀ i j:Nat,i<d.length→j<d.length→Calls P gc (#[.int .i64 i,.int .i64 j]++lb) W fun e w'=>e=.returned (.bool (SM.lsi lt d' i j))∧SM.Row w g E fv sp d.length d' w'∧SM.Kpb g W w') →
  Calls P fid #[.iface t (.slice (some ⟨g,0,none⟩) d.length c),.func (.func gc) #[] lb] w fun e w'=>e=.returned (.tuple #[])∧SM.Row w g E fv sp d.length (SM.stab lt d) w'
 nil:∀ (p:Option Addr) (c:Nat) (lf:Fn) (la lb:Array Value) (w:World),Calls P fid #[.iface t (.slice p 0 c),.func lf la lb] w fun e w'=>e=.returned (.tuple #[])∧∃ os,w'=Sort.grow w os
def Zc2 {α:Type} (lt:α→α→Bool) (xs:List α):Option (List α):=if xs.length≤4294967296 then some (SM.stab lt xs) else none
theorem ZvJ {w:World} {ok:Nat→Prop}:∀ {vs us:List Value},RDs w ok (vs.map D.c) us→us=vs
 | [],_,.nil=>rfl
 | v::vs,_,.cons h1 h2=>by
  cases h1
  rw [ZvJ h2]
theorem ZoG {w:World} {ok:Nat→Prop}:∀ {vs:List Value},(∀ v ∈ vs,v.oneCell'=true)→RDs w ok (vs.map D.c) vs
 | [],_=>.nil
 | v::vs,h=>.cons (.c (h v List.mem_cons_self)) (ZoG fun v hv=>h v (List.mem_cons_of_mem _ hv))
section
variable {α:Type} {f:α→List D} {fv:α→List Value}
theorem Zxz (hfv:∀ x,f x=(fv x).map D.c):∀ xs:List α,xs.flatMap f=(xs.flatMap fv).map D.c
 | []=>rfl
 | x::xs=>by rw [List.flatMap_cons,List.flatMap_cons,List.map_append,hfv,Zxz hfv xs]
theorem ZoO (h1:∀ x,∀ v ∈ fv x,v.oneCell'=true) (xs:List α):∀ v ∈ xs.flatMap fv,v.oneCell'=true:=fun v hv=>by
 obtain ⟨x,-,h⟩:=List.mem_flatMap.1 hv
 exact h1 x v h
end
section
variable {P:Program} {o:Oper} {H:Hp} {sl:List (Nat × V)} {x y z:Operand} {α:Type} {f:α→List D} {fv:α→List Value} {xs:List α} {lt:α→α→Bool} {fid t E zz gc kk kb T:Nat} {ats:Array TypeId}
theorem ZuQ {x:Operand} {U:TypeDesc} (hop:o.op=.makeInterface T x) (hx:ev sl x=some (.h kk)) (hU:P.underlying T=some U) (hn:(match U with | .interface _=>false | _=>true)=true):OpD P o H sl 0 0 (.ifc T (.h kk)) []:=.read fun B a w ρ hs _=>by
 refine ⟨.iface T (a.eval x),?_,.ifc (Zp hs hx)⟩
 unfold execOp; rw [hop]
 cases U <;> simp_all [Instr.makeInterface,run_underlying hU]
theorem ZwI {cs:Array Operand} {us:List V} (hop:o.op=.makeFunc (.func gc) #[] cs) (hx:evl sl cs.toList=some us):OpD P o H sl 0 0 (.fc gc us) []:=.read fun B a w ρ hs _=>by
 have e:cs.map a.eval=(cs.toList.map a.eval).toArray:=by apply Array.ext'; simp
 refine ⟨.func (.func gc) #[] (cs.toList.map a.eval).toArray,?_,.fc (ZeW hs hx)⟩
 unfold execOp; rw [hop]
 simp [Instr.makeFunc,e]
theorem Zys {zs:List α} (hg:Zc2 lt xs=some zs) (hS:SSt P fid t zz) (hfv:∀ x,f x=(fv x).map D.c) (hlen:∀ x,(fv x).length=zz) (h1:∀ x,∀ v ∈ fv x,v.oneCell'=true)
   (hc:∀ (ys:List α) (i j:Nat) (a b:α),ys[i]?=some a→ys[j]?=some b→Spec P gc [vI i,vI j,.q [lst f ys]] [] fun u h=>u=vB (lt a b)∧h=[])
   (hop:o.op=.call { callee:=.value x,args:=#[y,z],argTypes:=ats }) (hx:ev sl x=some (.d (.c (.func (.func fid) #[] #[])))) (hy:ev sl y=some (.ifc t (.h kk))) (hz:ev sl z=some (.fc gc [.p kb 0])) (hH:look H kk=some (some (YY E zz f xs))) (hB:look H kb=some (some (.box T [.h kk]))) :
   OpV P o H sl 0 0 fun u h=>u=.t []∧h=[(kk,some (YY E zz f zs))]:=fun B a w ρ hup hd hsr hr hfr=>by
 unfold Zc2 at hg
 split at hg
 case isFalse=>cases hg
 rename_i hlen4
 obtain rfl:=Option.some.inj hg
 obtain ⟨l,e1,e2⟩:=hr.rel _ _ hH
 obtain ⟨lb,b1,b2⟩:=hr.rel _ _ hB
 cases lb with
 | arr _=>exact b2.elim
 | tr _ _=>exact b2.elim
 | box bb =>
 obtain ⟨ub,c1,c2,c3⟩:=b2
 cases l with
 | box _=>exact e2.elim
 | tr _ _=>exact e2.elim
 | arr v =>
 have hy':=Zp hsr hy
 have hz':=Zp hsr hz
 obtain ⟨vy,ey⟩:∃ v,a.eval y=v:=⟨_,rfl⟩
 obtain ⟨vz,ez⟩:∃ v,a.eval z=v:=⟨_,rfl⟩
 rw [ey] at hy'; rw [ez] at hz'
 have ex:=ZbM (Zp hsr hx)
 obtain ⟨fn,hf1,hf2,hf3⟩:=hS.fn
 have hrun:(execOp a.eval o).run P w=.ok (.enter fid #[vy,vz]) w:=by
  unfold execOp; rw [hop]
  have h1 : ¬ fn.name = "runtime.NumGoroutine" := by simpa using hf2
  have h2:¬ fn.body=none:=fun e=>by rw [e] at hf3; cases hf3
  simp [resolve,ex,Deferred.ofValue,invoke,callFunc,program,Sem.run,hf1,h1,h2,ey,ez]
 unfold Oper.wp
 rw [hrun,Oper.upon_enter]
 cases hy' with
 | ifc hy' =>
 cases hy' with
 | h hy' =>
 rw [e1] at hy'
 obtain rfl:=Loc.arr.inj (Option.some.inj hy')
 cases hz' with
 | fc hz' =>
 cases hz' with
 | cons hz' hz2 =>
 cases hz2
 cases hz' with
 | p hz' =>
 rw [b1] at hz'
 obtain rfl:=Loc.box.inj (Option.some.inj hz')
 cases c3 with
 | cons c3 c4 =>
 cases c4
 cases c3 with
 | h c3 =>
 rw [e1] at c3
 cases c3
 have hkeep:∀ (w':World),w'.heap.size ≥ w.heap.size→w'.os=w.os→w'.tape=w.tape→w'.output=w.output→(∀ b,b<w.heap.size→¬ (Loc.arr _).bl b→w'.heap[b]?=w.heap[b]?)→(YY E zz f (SM.stab lt xs)).rel w' (okb B w' ρ) ρ (.arr _) →
    ∃ v u h ρ',(a.put o.dst (.tuple #[]))=a.put o.dst v∧(u=.t []∧h=[(kk,some (YY E zz f (SM.stab lt xs)))])∧Step B H h ρ ρ' w w'∧RV w' (okb B w' ρ') ρ' u v:=fun w' q1 q2 q3 q4 q5 q6 =>
  ⟨_,_,_,ρ,rfl,⟨rfl,rfl⟩,⟨q2,q3,q4,q1,fun _ _ h=>h,fun k l h=>.inl h,fun b hb hn=>q5 b hb (hn kk _ (by simp [look]) e1),fun k hk _=>by
   have:k=kk:=by
    simp only [Zo] at hk
    split at hk
    ·rename_i h; exact h.symm
    ·simp [look] at hk
   rw [this]; exact ⟨_,hH⟩,fun k blk hk=>by
   simp only [Zo] at hk
   split at hk
   ·rename_i h
    subst h
    obtain rfl:=Option.some.inj (Option.some.inj hk)
    exact ⟨_,e1,q6⟩
   ·simp [look] at hk,fun k k' blk blk' l l' b hk hk'=>by
   simp only [Zo] at hk hk'
   split at hk
   ·split at hk'
    ·intros; rename_i h h' _ _ _ _; exact h.symm.trans h'
    ·simp [look] at hk'
   ·simp [look] at hk⟩,.t .nil⟩
 rcases e2 with ⟨h2,h3,h4⟩ | ⟨g,cap,us,sp,h2,h3,h4,h5,h6,h7,h8,h9⟩
 ·cases h2
  have hx0:xs=[]:=List.eq_nil_of_length_eq_zero h3
  subst hx0
  refine (hS.nil none 0 _ _ _ w).mono ?_
  rintro e w' ⟨rfl,os,rfl⟩
  refine hkeep _ (by rw [Sort.size_grow]; omega) rfl rfl rfl (fun b hb _=>by simp only [Sort.grow]; rw [Array.getElem?_append_left hb]) (.inl ⟨rfl,rfl,rfl⟩)
 ·injection h2 with u1 u2 u3
  subst u1
  subst u2
  obtain rfl:=u3.symm
  have hgw:=(Array.getElem?_eq_some_iff.1 h5).1
  rw [Zxz hfv] at h9
  have hus:=ZvJ h9.ofD
  subst hus
  cases hxs:xs with
  | nil =>
   subst hxs
   refine (hS.nil _ _ _ _ _ w).mono ?_
   rintro e w' ⟨rfl,os,rfl⟩
   exact hkeep _ (by rw [Sort.size_grow]; omega) rfl rfl rfl (fun b hb _=>by simp only [Sort.grow]; rw [Array.getElem?_append_left hb]) (.inr ⟨g,cap,[],sp,rfl,h3,h4,by simp only [Sort.grow]; rw [Array.getElem?_append_left hgw]; exact h5,h6,by simp [SM.stab_tiny (show ([]:List α).length≤1 by simp)],rfl,.nil⟩)
  | cons x0 xr =>
  rw [← hxs]
  have hne:bb≠g:=fun e=>by
   subst e
   have:=hr.inj kb kk _ _ _ _ bb hB hH b1 e1 rfl rfl
   subst this
   rw [hH] at hB
   cases hB
  have hbb:=(Array.getElem?_eq_some_iff.1 c1).1
  obtain ⟨fn2,hg1,hg2,hg3⟩:=(hc xs 0 0 x0 x0 (by rw [hxs]; rfl) (by rw [hxs]; rfl)).fn
  have eg:∀ args w,(callFunc gc args).run P w=.ok (.enter gc args) w:=fun args w=>by
   have h1 : ¬ fn2.name = "runtime.NumGoroutine" := by simpa using hg2
   have h2:¬ fn2.body=none:=fun e=>by rw [e] at hg3; cases hg3
   simp [callFunc,program,Sem.run,hg1,h1,h2]
  refine (hS.run (lt:=lt) (gc:=gc) (lb:=#[.pointer (some ⟨bb,0,none⟩)]) (sp:=sp) cap (d:=xs) hlen h1 eg (by omega) hgw h5 ?_).mono ?_
  ·intro d' W hR i j hi hj
   have hi':i<d'.length:=by rw [hR.sz]; exact hi
   have hj':j<d'.length:=by rw [hR.sz]; exact hj
   have ea:=List.getElem?_eq_getElem hi'
   have eb:=List.getElem?_eq_getElem hj'
   have hgW:=(Array.getElem?_eq_some_iff.1 hR.row).1
   have hbW:W.heap[bb]?=some (.cells [Value.slice (some ⟨g,0,none⟩) xs.length cap].toArray T (0,0)):=by rw [hR.keep bb hbb hne]; exact c1
   have hok:∀ b,b<W.heap.size→okb (fun _=>True) W (fun _=>none) b:=fun b hb=>⟨hb,trivial,fun k l h=>by cases h⟩
   have hrd:RD W (okb (fun _=>True) W (fun _=>none)) (lst f d') (.slice (some ⟨g,0,none⟩) xs.length cap):=by
    have:RD W (okb (fun _=>True) W (fun _=>none)) (.l d'.length (d'.flatMap f)) (.slice (some ⟨g,0,none⟩) d'.length cap):=.l (by rw [hR.sz]; exact h3) (by rw [hR.sz]; exact Nat.le_trans h3 h4) (hok g hgW) (by rw [Zxz hfv]; exact ZoG (ZoO h1 d')) fun j v hv=>by
     rw [SM.cell_of hR.row,Nat.zero_add,List.getElem?_append_left (List.getElem?_eq_some_iff.1 hv).1]; exact hv
    rw [← hR.sz]
    exact this
   refine ((hc d' i j _ _ ea eb).run (fun _=>True) W (fun _=>none) [.int .i64 i,.int .i64 j,.pointer (some ⟨bb,0,none⟩)] (fun _ _=>trivial) (.cons (.d (.c rfl)) (.cons (.d (.c rfl)) (.cons (.q (hok bb (Nat.lt_of_lt_of_le hbb hR.size)) (.cons hrd .nil) fun j v hv=>?_) .nil))) ⟨(fun k blk h=>by simp [look] at h),(fun k k' blk blk' l l' b h=>by simp [look] at h),(fun k l b h=>by cases h),fun e he=>?_⟩ (fun k l h=>by cases h)).mono ?_
   ·rw [SM.cell_of hbW,Nat.zero_add]; exact hv
   ·obtain ⟨⟨p1,-,p3⟩,p4⟩:=hr.gl e he
    have hne2:e.1≠g:=fun h=>p3 kk _ e1 h
    exact ⟨hok _ (Nat.lt_of_lt_of_le p1 hR.size),fun j v hv=>by rw [World.cell?_of_block (hR.keep _ p1 hne2)]; exact p4 j v hv⟩
   ·rintro e w' ⟨r,u,h,ρ1,rfl,⟨rfl,rfl⟩,hst,hrv,-⟩
    have hr':=ZbM hrv
    subst hr'
    have hk:∀ b,b<W.heap.size→w'.heap[b]?=W.heap[b]?:=fun b hb=>hst.keep b hb fun k l h=>by simp [look] at h
    refine ⟨by unfold SM.lsi; rw [ea,eb],⟨hR.sz,by rw [hk g hgW]; exact hR.row,hst.os.trans hR.os,hst.tape.trans hR.tape,hst.output.trans hR.output,Nat.le_trans hR.size hst.size,fun b hb hn=>by rw [hk b (Nat.lt_of_lt_of_le hb hR.size)]; exact hR.keep b hb hn⟩,hst.size,fun b k hb _=>World.cell?_of_block (hk b hb)⟩
  ·rintro e w' ⟨rfl,hR⟩
   refine hkeep w' hR.size hR.os hR.tape hR.output (fun b hb hn=>hR.keep b hb fun e=>hn e) (.inr ⟨g,cap,(SM.stab lt xs).flatMap fv,sp,by rw [hR.sz],by rw [hR.sz]; exact h3,h4,hR.row,?_,?_,List.all_eq_true.2 (ZoO h1 _),?_⟩)
   ·rw [List.length_append,SM.fm_len hlen,hR.sz,← SM.fm_len hlen xs,← List.length_append]; exact h6
   ·rw [SM.fm_len hlen,hR.sz]
   ·rw [Zxz hfv]; exact (ZoG (ZoO h1 _)).toV
end
theorem Zr8 {Γ:Cx} {sl:List (Nat × V)} {hp:Hp} {k k2 E z E2 z2 m:Nat} {es:List AxE} {e:AxE} (q:Nat) (hH:look hp k2=some (some (.ax k E z E2 z2 es none))) (he:es[m]?=some e) (hf:ZZ hp q 2=true):Wk Γ ⟨sl,hp⟩ ⟨sl,ZdD [k2] [(q,some (.arr E2 z2 e.m (e.inn.map .d))),(q+1,some (.ax k E z E2 z2 es (some (m,q))))]++hp⟩:=fun a w ⟨ρ,hr⟩=>by
 have f1:ρ q=none:=Zc7 hr hf q (Nat.le_refl _) (by omega)
 have f2:ρ (q+1)=none:=Zc7 hr hf (q+1) (by omega) (by omega)
 obtain ⟨v0,bs,v,g0,g1,g2⟩:=Zjh hr.hr hH
 rcases g2 with ⟨h1,rfl,rfl⟩ | ⟨g,cap,us,sp,ls,rfl,h2⟩
 ·simp at he
 ·have hs:SR Γ.B [(0,.ex k 0)] ρ { tmps:=#[.pointer (some ⟨g,0,none⟩)],defers:=[] } w:=fun t u hu=>by
    simp only [Zo] at hu
    split at hu
    ·rename_i h
     subst h
     obtain rfl:=Option.some.inj hu
     exact ⟨_,rfl,.ex g1⟩
    ·simp [look] at hu
  obtain ⟨g',sv,v0',bs',-,-,-,s⟩:=ZjD (x:=.tmp 0) hr.hr hs rfl hH he f1 f2
  exact ⟨_,hr.step (d:=none) (u:=.un) (v:=undef) (fun _ _ h=>h) s .un (fun t e=>by cases e)⟩
theorem Zp5 {α β:Type} {Γ:Cx} {sl:List (Nat × V)} {hp:Hp} {k E z E2 z2:Nat} {i:Int} {pre post:α→List D} {g:α→List β} {f2:β→List D} {xs:List α} {a:α} (k2 q:Nat) (hg:YD xs i=some a) (hH:look hp k2=some (some (axT k E z E2 z2 pre g f2 post xs none))) (hf:ZZ hp q 2=true):Wk Γ ⟨sl,hp⟩ ⟨sl,(k2,none)::(q,some (YY E2 z2 f2 (g a)))::(q+1,some (axT k E z E2 z2 pre g f2 post xs (some (i.toNat,q))))::hp⟩:=Zr8 q hH (ZlM hg) hf
inductive Zru:List D→List D→Prop
 | nil:Zru [] []
 | z {a b:List D}:Zru a b→Zru (.c (.slice none 0 0)::a) (.l 0 []::b)
 | cons {x:D} {a b:List D}:Zru a b→Zru (x::a) (x::b)
theorem Zru.rds {w:World} {ok:Nat→Prop}:∀ {a b:List D} {vs:List Value},Zru a b→RDs w ok a vs→RDs w ok b vs
 | _,_,_,.nil,.nil=>.nil
 | _,_,_,.z h,.cons h1 h2=>by
  cases h1
  exact .cons (.nil none 0) (h.rds h2)
 | _,_,_,.cons h,.cons h1 h2=>.cons h1 (h.rds h2)
theorem Zru.rd {w:World} {ok:Nat→Prop} {n:Nat} {a b:List D} {v:Value} (h:Zru a b) (h1:RD w ok (.l n a) v):RD w ok (.l n b) v:=by
 cases h1 with
 | nil p c=>cases h; exact .nil p c
 | l g1 g2 g3 g4 g5=>exact .l g1 g2 g3 (h.rds g4) g5
theorem ZtG {α:Type} {xs:List α} {n:Nat} {a:α} (h:xs[n]?=some a):YD xs (n:Int)=some a:=by
 unfold YD; rw [if_pos (by omega)]; exact h
section
variable {Γ:Cx} {k:Zcc} {hp:Hp} {o:Oper} {ops:Array Oper} {rest:List Oper} {sl:List (Nat × V)} {x y z:Operand} {α:Type} {f:α→List D} {fv:α→List Value} {xs zs:List α} {lt:α→α→Bool} {fid t E zz gc kk kb T d i an:Nat} {ats:Array TypeId} {ts:List Nat} {r:List PI} {F:List Ft}
theorem Zxb (hg:Zc2 lt xs=some zs) (hS:SSt Γ.P fid t zz) (hfv:∀ x,f x=(fv x).map D.c) (hlen:∀ x,(fv x).length=zz) (h1:∀ x,∀ v ∈ fv x,v.oneCell'=true)
   (hc:∀ (ys:List α) (i j:Nat) (a b:α),ys[i]?=some a→ys[j]?=some b→Spec Γ.P gc [vI i,vI j,.q [lst f ys]] [] fun u h=>u=vB (lt a b)∧h=[])
   (hop:o.op=.call { callee:=.value x,args:=#[y,z],argTypes:=ats }) (hx:ev sl x=some (.d (.c (.func (.func fid) #[] #[])))) (hy:ev sl y=some (.ifc t (.h kk))) (hz:ev sl z=some (.fc gc [.p kb 0])) (hH:look hp kk=some (some (YY E zz f xs))) (hB:look hp kb=some (some (.box T [.h kk])))
   (hgd:o.guard=none) (hd:o.dst=some d) (hdl:Nat.blt d Γ.nt=true) (hk:WL Γ ops rest k ⟨(d,.t [])::sl,(kk,some (YY E zz f zs))::hp⟩):WL Γ ops (o::rest) k ⟨sl,hp⟩ :=
 ZtW (Zys hg hS hfv hlen h1 hc hop hx hy hz hH hB) hgd hd hdl (QX _ _) (by rintro _ _ ⟨rfl,rfl⟩; exact hk)
end
end Go.Proofs.YtkcmgbbopedacaaGreatDoor
namespace Go.Proofs
open Go.Shelf
def Tryz.stableR_ren:Go.Shelf.Ren:=⟨fun | 8=>66 | 13=>129 | 14=>130 | 16=>132 | 15=>131 | 29=>188 | 30=>189 | 42=>216 | 49=>234 | n=>n,fun | 20=>20 | 26=>132 | 36=>199 | 0=>0 | 38=>201 | 42=>205 | 3=>3 | 4=>4 | 47=>260 | 17=>17 | 33=>196 | 34=>197 | 89=>306 | 12=>12 | 56=>282 | 82=>299 | 5=>5 | 83=>300 | 84=>301 | 85=>302 | 86=>303 | 87=>304 | n=>n,fun | n=>n⟩
theorem Tryz.stableR:Go.Proofs.LaysGt.n8 Tryz.prog Tryz.stableR_ren:={
 mixed:=by kernel_rfl
 f8:=Tryz.func66.trans (congrArg some (by kernel_rfl))
 f13:=Tryz.func129.trans (congrArg some (by kernel_rfl))
 f14:=Tryz.func130.trans (congrArg some (by kernel_rfl))
 f15:=Tryz.func131.trans (congrArg some (by kernel_rfl))
 f16:=Tryz.func132.trans (congrArg some (by kernel_rfl))
 f29:=Tryz.func188.trans (congrArg some (by kernel_rfl))
 f30:=Tryz.func189.trans (congrArg some (by kernel_rfl))
 f42:=Tryz.func216.trans (congrArg some (by kernel_rfl))
 f49:=Tryz.func234.trans (congrArg some (by kernel_rfl))
 t0:=Tryz.underlying0
 a0:=Tryz.isAgg0
 z0:=Tryz.sizeOf0
 v0:=Tryz.zeroValue0
 i0:=by kernel_rfl
 t3:=Tryz.underlying3
 a3:=Tryz.isAgg3
 z3:=Tryz.sizeOf3
 v3:=Tryz.zeroValue3
 i3:=by kernel_rfl
 t4:=Tryz.underlying4
 a4:=Tryz.isAgg4
 z4:=Tryz.sizeOf4
 v4:=Tryz.zeroValue4
 i4:=by kernel_rfl
 t5:=Tryz.underlying5
 a5:=Tryz.isAgg5
 z5:=Tryz.sizeOf5
 v5:=Tryz.zeroValue5
 i5:=by kernel_rfl
 t12:=Tryz.underlying12
 a12:=Tryz.isAgg12
 z12:=Tryz.sizeOf12
 v12:=Tryz.zeroValue12
 i12:=by kernel_rfl
 t17:=Tryz.underlying17
 a17:=Tryz.isAgg17
 z17:=Tryz.sizeOf17
 v17:=Tryz.zeroValue17
 i17:=by kernel_rfl
 t20:=Tryz.underlying20
 a20:=Tryz.isAgg20
 z20:=Tryz.sizeOf20
 v20:=Tryz.zeroValue20
 i20:=by kernel_rfl
 t26:=Tryz.underlying132
 a26:=Tryz.isAgg132
 z26:=Tryz.sizeOf132
 v26:=Tryz.zeroValue132
 i26:=by kernel_rfl
 t33:=Tryz.underlying196
 a33:=Tryz.isAgg196
 z33:=Tryz.sizeOf196
 v33:=Tryz.zeroValue196
 i33:=by kernel_rfl
 t34:=Tryz.underlying197
 a34:=Tryz.isAgg197
 z34:=Tryz.sizeOf197
 v34:=Tryz.zeroValue197
 i34:=by kernel_rfl
 t36:=Tryz.underlying199
 a36:=Tryz.isAgg199
 z36:=Tryz.sizeOf199
 v36:=Tryz.zeroValue199
 i36:=by kernel_rfl
 t38:=Tryz.underlying201
 a38:=Tryz.isAgg201
 z38:=Tryz.sizeOf201
 v38:=Tryz.zeroValue201
 i38:=by kernel_rfl
 t42:=Tryz.underlying205
 a42:=Tryz.isAgg205
 z42:=Tryz.sizeOf205
 v42:=Tryz.zeroValue205
 i42:=by kernel_rfl
 t47:=Tryz.underlying260
 a47:=Tryz.isAgg260
 z47:=Tryz.sizeOf260
 v47:=Tryz.zeroValue260
 i47:=by kernel_rfl
 t56:=Tryz.underlying282
 a56:=Tryz.isAgg282
 z56:=Tryz.sizeOf282
 v56:=Tryz.zeroValue282
 i56:=by kernel_rfl
 t82:=Tryz.underlying299
 a82:=Tryz.isAgg299
 z82:=Tryz.sizeOf299
 v82:=Tryz.zeroValue299
 i82:=by kernel_rfl
 t83:=Tryz.underlying300
 a83:=Tryz.isAgg300
 z83:=Tryz.sizeOf300
 v83:=Tryz.zeroValue300
 i83:=by kernel_rfl
 t84:=Tryz.underlying301
 a84:=Tryz.isAgg301
 z84:=Tryz.sizeOf301
 v84:=Tryz.zeroValue301
 i84:=by kernel_rfl
 t85:=Tryz.underlying302
 a85:=Tryz.isAgg302
 z85:=Tryz.sizeOf302
 v85:=Tryz.zeroValue302
 i85:=by kernel_rfl
 t86:=Tryz.underlying303
 a86:=Tryz.isAgg303
 z86:=Tryz.sizeOf303
 v86:=Tryz.zeroValue303
 i86:=by kernel_rfl
 t87:=Tryz.underlying304
 a87:=Tryz.isAgg304
 z87:=Tryz.sizeOf304
 v87:=Tryz.zeroValue304
 i87:=by kernel_rfl
 t89:=Tryz.underlying306
 a89:=Tryz.isAgg306
 z89:=Tryz.sizeOf306
 v89:=Tryz.zeroValue306
 i89:=by kernel_rfl }
end Go.Proofs
namespace Go.Proofs.YtkcmgbbopedacaaGreatDoor
open Go.RowKit Go.Shelf
noncomputable def bsT:TypeInfo:=(Tryz.prog.info? 24).get (by kernel_rfl)
noncomputable def bsE:TypeInfo:=(Tryz.prog.info? 32).get (by kernel_rfl)
theorem Zym:SSt Tryz.prog 66 24 2 where
 fn:=⟨_,Tryz.func66,rfl,rfl⟩
 run {α fv lt gc lb w g E sp} c {d} hk h1 eg ht hg hrow less:=by
  have h:=SM.sliceStable_row (lt:=lt) Tryz.stableR 24 32 bsT bsE (by kernel_rfl) (by kernel_rfl) (by kernel_rfl) (by kernel_rfl) 25 (fun _=>by kernel_rfl) hk (by kernel_rfl) (fun _=>by kernel_rfl) h1 eg
   179 180 187 (by kernel_rfl) (by kernel_rfl) (by kernel_rfl) false
   (fun args W=>run_callFunc_extern Tryz.func187 (by kernel_rfl) (by kernel_rfl) (by kernel_rfl) (e:=Extern.ReflectliteSwapper.swap false) (by kernel_rfl) args W) c d ht hg hrow less
  exact h
 nil p c lf la lb w:=by
  have h:=Any.sort_SliceStable_tiny Tryz.stableR 24 32 bsT bsE (by kernel_rfl) (by kernel_rfl) (by kernel_rfl) (by kernel_rfl) 25 (fun _=>by kernel_rfl) p 0 c (by omega) 179 (by kernel_rfl) lf la lb w
  exact h
end Go.Proofs.YtkcmgbbopedacaaGreatDoor
