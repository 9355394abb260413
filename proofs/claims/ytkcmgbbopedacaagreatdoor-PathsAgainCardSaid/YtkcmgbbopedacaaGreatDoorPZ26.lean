/-
  Lemmas: Plain laws of the models
-/
import Derived.Test.YtkcmgbbopedacaaGreatDoorPZ22
import Derived.Test.YtkcmgbbopedacaaGreatDoorPZ24
import Derived.Test.YtkcmgbbopedacaaGreatDoorPZ25
set_option linter.unusedSimpArgs false
set_option linter.unusedVariables false
namespace Go.Proofs.YtkcmgbbopedacaaGreatDoor
open Go.RowKit
theorem Zpd (out:List Bnd) (hout:out.length≤1000) (y:Bnd × ZC):∀ (fuel:Nat) (l:List Int) (a:Int) (k:Nat),okT ⟨l,a⟩→k≤out.length→k<fuel→Tot (QN out y fuel l a (k:Int)) fun z=>okT ⟨z.1,z.2.1⟩∧0≤z.2.2∧z.2.2≤out.length
 | 0,_,_,_,_,_,h=>absurd h (by omega)
 | fuel+1,l,a,k,h,hk,hf=>by
  rw [QN.eq_2]
  have stay:okT ⟨l,a⟩∧0≤(k:Int)∧(k:Int)≤out.length:=⟨h,by omega,by omega⟩
  refine Ye (fun h1=>?_) fun _=>ZX stay
  have h1:0<(k:Int):=of_decide_eq_true h1
  rw [Zii]
  refine ZN (ZiA (Q:=fun _=>True) (by omega) (by omega) fun _=>trivial) fun e _=>ZaH (Ye (fun _=>ZN (Ze3 h (by omega)) fun z hz=>Ye (fun _=>?_) fun _=>ZX ⟨hz,by simp only; omega,by simp only; omega⟩) fun _=>ZX stay)
  rw [show (k:Int) - 1=((k - 1:Nat):Int) by omega]
  exact Zpd out hout y fuel _ _ (k - 1) hz (by omega) (by omega)
theorem Zpe:∀ (fuel:Nat) (l:List Int) (a:Int) (out:List Bnd) (i:Int),okT ⟨l,a⟩→i.toNat<fuel→i≤100→(out.length:Int)+max i 0≤900→Tot (QM fuel l a out i) fun z=>okT ⟨z.2.1,z.2.2⟩∧(z.1.length:Int)≤out.length+max i 0
 | 0,_,_,_,_,_,h,_,_=>absurd h (by omega)
 | fuel+1,l,a,out,i,h,hf,hi,ho=>by
  rw [QM.eq_2]
  refine ZeX (R:=fun _=>0<i) (Ye (fun h1=>ZX (show 0<i from of_decide_eq_true h1)) fun _=>ZX ⟨h,by simp only; omega⟩) fun _ h1=>?_
  refine ZN (R:=fun z=>okT ⟨z.1,z.2.1⟩∧z.2.2.length≤out.length+1) ?_ ?_
  ·refine ZN (Zp1 h) fun y hy=>ZN (Zpd out (by omega) y FU y.2.l y.2.at_ out.length hy.1 (Nat.le_refl _) (by unfold FU; omega)) ?_
   rintro ⟨l1,a1,k1⟩ ⟨g1,g2,g3⟩
   simp only at g1 g2 g3 ⊢
   refine ZN (R:=fun z=>okT ⟨z.1,z.2.1⟩) ?_ ?_
   ·have tl:∀ (τ:ZC),okT τ→∀ b:Bool,Tot (sel b (Ze (ZF τ 20) fun y22=>some (y22.2.l,y22.2.at_,!y22.1)) (some (τ.l,τ.at_,false))) fun z=>okT ⟨z.1,z.2.1⟩:=fun τ hτ b=>Ye (fun _=>ZN (Ze3 hτ (by omega)) fun z hz=>ZX hz) fun _=>ZX hτ
    refine Ye (fun h2=>?_) fun _=>ZaH (tl ⟨l1,a1⟩ g1 _)
    have h2:0<k1:=of_decide_eq_true h2
    rw [Zii]
    refine ZN (ZiA (Q:=fun _=>True) (by omega) (by omega) fun _=>trivial) fun e _=>ZaH (Ye (fun _=>?_) fun _=>ZaH (tl ⟨l1,a1⟩ g1 _))
    exact ZN (Ze3 g1 (by omega)) fun z hz=>Ye (fun _=>ZX hz) fun _=>ZaH (tl z.2 hz _)
   ·rintro ⟨l2,a2,b2⟩ g4
    simp only at g4 ⊢
    refine ZeX (R:=fun _=>True) (Ye (fun _=>ZX ⟨g4,by simp only; omega⟩) fun _=>ZX trivial) fun _ _=>?_
    refine ZN (Zpl (Q:=fun l=>(l.length:Int)=k1) (by omega) (by simp; omega)) fun l30 e30=>?_
    refine ZN (ZkO (Q:=fun l=>(l.length:Int)=k1) (by simp; omega) (by simp; omega)) fun l31 e31=>?_
    refine ZN (ZkO (Q:=fun l=>(l.length:Int)=k1+1) (by simp; omega) (by simp; omega)) fun l32 e32=>?_
    refine ZN (Zpl (Q:=fun l=>(l.length:Int)=out.length - k1) (by omega) (by simp; omega)) fun l33 e33=>?_
    refine ZN (ZkO (Q:=fun l=>(l.length:Int)=out.length+1) (by omega) (by simp; omega)) fun l34 e34=>?_
    exact ZX ⟨g4,by simp only; omega⟩
  ·rintro ⟨l2,a2,o2⟩ ⟨g1,g2⟩
   simp only at g1 g2 ⊢
   rw [Zii]
   exact ZmH (Zpe fuel l2 a2 o2 (i - 1) g1 (by omega) (by omega) (by omega)) fun z hz=>⟨hz.1,by have:=hz.2; omega⟩
theorem ZlT {τ:ZC} (h:okT τ) {n:Int} (h0:0≤n) (hn:n≤50):Tot (Zab τ n) fun y=>okT y.2∧(y.1.length:Int)≤n:=by
 unfold Zab
 rw [Zii]
 refine ZN (Zd7 h (by omega)) fun y hy=>?_
 obtain ⟨h1,h2⟩:=hy
 unfold Cho at h2
 refine ZN (Zpe FU y.2.l y.2.at_ [] y.1 h1 (by unfold FU; omega) (by omega) (by simp; omega)) ?_
 rintro ⟨o,l,a⟩ ⟨g1,g2⟩
 simp only [List.length_nil] at g1 g2
 exact ZX ⟨g1,by simp only; omega⟩
end Go.Proofs.YtkcmgbbopedacaaGreatDoor
namespace Go.Proofs.YtkcmgbbopedacaaGreatDoor
open Go.RowKit
attribute [local irreducible] Tot sel bnd Ze Yz app YD lsl
def inC (lo hi c:Bnd):Bool:=vb c && decide (0<cmp c lo) && decide (cmp c hi<0)
def spl (hi:Bnd):List Bnd→Bnd→List Rng
 | [],lo=>[⟨lo,hi⟩]
 | c::cs,lo=>if inC lo hi c=true then ⟨lo,c⟩::spl hi cs c else spl hi cs lo
theorem ZdK {lo hi c:Bnd}:inC lo hi c=true↔vb c=true∧lo.lt c=true∧c.lt hi=true:=by
 unfold inC
 simp only [Bool.and_eq_true,decide_eq_true_eq,Xw,XW,and_assoc]
theorem Zgt (lo:Bnd):∀ (cs:List Bnd) (x:Bnd),∃ b:Bnd,YX lo.key lo.top cs x.key x.top=some (b.key,b.top)∧(b=x∨(b ∈ cs∧vb b=true∧lo.lt b=true∧b.lt x=true))∧(∀ c ∈ cs,vb c=true→lo.lt c=true→c.lt b=false)
 | [],x=>⟨x,rfl,.inl rfl,fun c h=>by cases h⟩
 | c::cs,x=>by
  rw [YX,Qn,ZG,ZG]
  simp only [Zn]
  have keep:(vb c=true→lo.lt c=true→c.lt x=false)→∃ b:Bnd,YX lo.key lo.top cs x.key x.top=some (b.key,b.top)∧(b=x∨(b ∈ c::cs∧vb b=true∧lo.lt b=true∧b.lt x=true))∧(∀ d ∈ c::cs,vb d=true→lo.lt d=true→d.lt b=false):=fun hc=>by
   obtain ⟨b,e,h1,h2⟩:=Zgt lo cs x
   refine ⟨b,e,h1.imp id fun h=>⟨List.mem_cons_of_mem _ h.1,h.2⟩,fun d hd g1 g2=>?_⟩
   rcases List.mem_cons.1 hd with rfl | hd
   ·rcases h1 with rfl | ⟨-,-,-,h1⟩
    ·exact hc g1 g2
    ·cases hdb:d.lt b with
     | false=>rfl
     | true=>have:=hc g1 g2; rw [lt_trans hdb h1] at this; cases this
   ·exact h2 d hd g1 g2
  have e0:(⟨lo.key,lo.top⟩:Bnd)=lo:=rfl
  have e1:(⟨x.key,x.top⟩:Bnd)=x:=rfl
  rw [e0,e1]
  cases hv:vb c with
  | false=>rw [Zb]; exact keep fun h=>by rw [hv] at h; cases h
  | true =>
   rw [Zd]
   by_cases h1:0<cmp c lo
   ·rw [decide_eq_true h1,Zd]
    by_cases h2:cmp c x<0
    ·rw [decide_eq_true h2,Zd]
     obtain ⟨b,e,g1,g2⟩:=Zgt lo cs c
     refine ⟨b,e,.inr ?_,fun d hd p1 p2=>?_⟩
     ·rcases g1 with rfl | ⟨q1,q2,q3,q4⟩
      ·exact ⟨List.mem_cons_self,hv,(Xw _ _).1 h1,(XW _ _).1 h2⟩
      ·exact ⟨List.mem_cons_of_mem _ q1,q2,q3,lt_trans q4 ((XW _ _).1 h2)⟩
     ·rcases List.mem_cons.1 hd with rfl | hd
      ·rcases g1 with rfl | ⟨-,-,-,q4⟩
       ·exact lt_irrefl _
       ·exact Yd q4
      ·exact g2 d hd p1 p2
    ·rw [decide_eq_false h2,Zb]
     exact keep fun _ _=>by
      cases hcx:c.lt x with
      | false=>rfl
      | true=>exact absurd ((XW _ _).2 hcx) h2
   ·rw [decide_eq_false h1,Zb]
    exact keep fun _ hl=>absurd ((Xw _ _).2 hl) h1
def Asc:List Bnd→Prop
 | []=>True
 | c::cs=>(∀ d ∈ cs,d.lt c=false)∧Asc cs
theorem Zgw {lo hi:Bnd} (h1:vb lo=true) (h2:vb hi=true):emp ⟨lo,hi⟩=false↔lo.lt hi=true:=by
 unfold emp vld
 rw [h1,h2]
 rcases Zet lo hi with h | h | h <;> rw [h]
 ·simp; exact (XW _ _).1 (by omega)
 ·simp; exact ((ZkH _ _).1 h).1
 ·simp; exact Yd ((Xw _ _).1 (by omega))
theorem ZoQ {r:Rng} (h:emp r=false):vb r.lo=true∧vb r.hi=true∧r.lo.lt r.hi=true:=by
 have h0:=h
 unfold emp vld at h
 simp only [Bool.or_eq_false_iff,Bool.not_eq_false',Bool.and_eq_true] at h
 have h1:vb r.lo=true∧vb r.hi=true:=by grind
 exact ⟨h1.1,h1.2,(Zgw h1.1 h1.2).1 h0⟩
theorem Zij (hi:Bnd):∀ (cs:List Bnd) (lo:Bnd),(spl hi cs lo).length≤cs.length+1
 | [],_=>by simp [spl]
 | c::cs,lo=>by
  rw [spl]
  have:=Zij hi cs c
  have:=Zij hi cs lo
  split <;> simp <;> omega
theorem ZoS (cuts:List Bnd) (r:Rng) (hh:vb r.hi=true):∀ (cs:List Bnd) (lo:Bnd) (o:List Rng) (fuel:Nat),Asc cs→(∀ c ∈ cs,c ∈ cuts)→(∀ c ∈ cuts,inC lo r.hi c=true→c ∈ cs)→vb lo=true→lo.lt r.hi=true→cs.length+2≤fuel→o.length+cs.length+2≤1000000 →
   YV cuts r fuel o lo.key lo.top=some (o++spl r.hi cs lo)
 | [],lo,o,fuel,_,_,H,hl,hlt,hf,ho=>by
  obtain ⟨fuel,rfl⟩:∃ f,fuel=f+2:=⟨fuel - 2,by simp at hf; omega⟩
  have he:emp (Rng.mk (Bnd.mk lo.key lo.top) r.hi)=false:=(Zgw hl hh).2 hlt
  have he2:emp (Rng.mk (Bnd.mk r.hi.key r.hi.top) r.hi)=true:=by
   cases h:emp (Rng.mk (Bnd.mk r.hi.key r.hi.top) r.hi) with
   | true=>rfl
   | false=>have:=(Zgw hh hh).1 h; rw [lt_irrefl] at this; cases this
  obtain ⟨b,e,h1,-⟩:=Zgt lo cuts r.hi
  have hb:b=r.hi:=by
   rcases h1 with h1 | ⟨q1,q2,q3,q4⟩
   ·exact h1
   ·exact absurd (H b q1 (ZdK.2 ⟨q2,q3,q4⟩)) (by simp)
  subst hb
  have ea:app o [Rng.mk (Bnd.mk lo.key lo.top) (Bnd.mk r.hi.key r.hi.top)]=some (o++[⟨lo,r.hi⟩]):=ZW (by simp at ho ⊢; omega)
  rw [YV,ZT,he]
  simp only [Zn,Bool.not_false,Zd,Za,ZB,e,ea,spl]
  rw [YV,ZT,he2]
  simp only [Zn,Bool.not_true,Zb,Za,Yo]
 | c::cs,lo,o,fuel,hA,hS,H,hl,hlt,hf,ho=>by
  rw [spl]
  simp only [List.length_cons] at hf ho
  cases hi:inC lo r.hi c with
  | false =>
   rw [if_neg (by simp)]
   refine ZoS cuts r hh cs lo o fuel hA.2 (fun d hd=>hS d (List.mem_cons_of_mem _ hd)) (fun d hd h=>?_) hl hlt (by omega) (by omega)
   rcases List.mem_cons.1 (H d hd h) with rfl | h2
   ·rw [hi] at h; cases h
   ·exact h2
  | true =>
   rw [if_pos rfl]
   obtain ⟨p1,p2,p3⟩:=ZdK.1 hi
   obtain ⟨fuel,rfl⟩:∃ f,fuel=f+1:=⟨fuel - 1,by omega⟩
   have he:emp (Rng.mk (Bnd.mk lo.key lo.top) r.hi)=false:=(Zgw hl hh).2 hlt
   obtain ⟨b,e,h1,h2⟩:=Zgt lo cuts r.hi
   have hcb:=h2 c (hS c List.mem_cons_self) p1 p2
   have hb:b=c:=by
    rcases h1 with rfl | ⟨q1,q2,q3,q4⟩
    ·rw [p3] at hcb; cases hcb
    ·rcases List.mem_cons.1 (H b q1 (ZdK.2 ⟨q2,q3,q4⟩)) with h | h
     ·exact h
     ·exact QH q2 p1 (hA.1 b h) hcb
   subst hb
   have ea:app o [Rng.mk (Bnd.mk lo.key lo.top) (Bnd.mk b.key b.top)]=some (o++[⟨lo,b⟩]):=ZW (by simp; omega)
   rw [YV,ZT,he]
   simp only [Zn,Bool.not_false,Zd,Za,ZB,e,ea]
   have key:=ZoS cuts r hh cs b (o++[⟨lo,b⟩]) fuel hA.2 (fun d hd=>hS d (List.mem_cons_of_mem _ hd)) (fun d hd h=>?_) p1 p3 (by omega) (by simp; omega)
   ·rw [List.append_assoc] at key; exact key
   ·obtain ⟨g1,g2,g3⟩:=ZdK.1 h
    rcases List.mem_cons.1 (H d hd (ZdK.2 ⟨g1,lt_trans p2 g2,g3⟩)) with rfl | h3
    ·rw [lt_irrefl] at g2; cases g2
    ·exact h3
def Zeg (cs:List Bnd):List Rng→List Rng
 | []=>[]
 | r::l=>(if emp r=true then [] else spl r.hi cs r.lo)++Zeg cs l
theorem ZoH (cuts cs:List Bnd) (hA:Asc cs) (hp:∀ c,c ∈ cs↔c ∈ cuts) (hc:cs.length≤200):∀ (l o:List Rng),o.length+l.length * (cs.length+1)≤900000→QE cuts l o=some (o++Zeg cs l)
 | [],o,_=>by rw [QE,Zeg,List.append_nil]
 | r::l,o,h=>by
  rw [List.length_cons,Nat.add_mul,Nat.one_mul] at h
  rw [QE,Zeg]
  cases he:emp r with
  | true =>
   rw [show YV cuts r FU o r.lo.key r.lo.top=some o by
    rw [show FU=4294967295+1 from rfl,YV,ZT,show (Rng.mk (Bnd.mk r.lo.key r.lo.top) r.hi)=r from rfl,he]
    simp only [Zn,Bool.not_true,Zb,Za,Yo]]
   rw [Za,Za,ZoH cuts cs hA hp hc l o (by omega),if_pos rfl,List.nil_append]
  | false =>
   obtain ⟨v1,v2,v3⟩:=ZoQ he
   rw [ZoS cuts r v2 cs r.lo o FU hA (fun c=>(hp c).1) (fun c h _=>(hp c).2 h) v1 v3 (by simp only [FU]; omega) (by omega)]
   have:=Zij r.hi cs r.lo
   rw [Za,Za,ZoH cuts cs hA hp hc l _ (by rw [List.length_append]; omega),if_neg (by simp),List.append_assoc]
theorem Zqi (cuts cs:List Bnd) (l:List Rng) (hA:Asc cs) (hp:∀ c,c ∈ cs↔c ∈ cuts) (hc:cs.length≤200) (hl:l.length≤200):ZaB l cuts=some (Zeg cs l):=by
 have:l.length * (cs.length+1)≤200 * 201:=Nat.mul_le_mul hl (by omega)
 rw [ZaB,ZoH cuts cs hA hp hc l [] (by simp; omega),Za,List.nil_append]
end Go.Proofs.YtkcmgbbopedacaaGreatDoor
namespace Go.Proofs.YtkcmgbbopedacaaGreatDoor
open Go.RowKit
theorem ZcV:∀ l:List Rng,Za5 l=sel (l.all vld) (.nxt ()) (.ret 1)
 | []=>rfl
 | r::l=>by
  rw [Za5.eq_2,Zn,ZbR,ZcV l,List.all_cons]
  cases vld r <;> rfl
theorem Zcz (q:Zf):XT q=ZcE q.Kind q.Ranges q.Key q.Count:=by
 obtain ⟨k,l,key,c⟩:=q
 unfold XT ZcE
 simp only [Zn,ZcV,Zan,ZM,decide_eq_true_eq,Bool.not_eq_true',decide_eq_false_iff_not]
 by_cases a1:k<1∨4<k
 ·rcases a1 with a1 | a1
  ·simp [a1]
  ·have:¬ k<1:=by omega
   simp [a1,this]
 have b1:¬ k<1:=by omega
 have b2:¬ 4<k:=by omega
 by_cases a2:64<l.length
 ·have:64<(l.length:Int):=by omega
  simp [b1,b2,a2,this]
 have b3:¬ 64<(l.length:Int):=by omega
 cases hv:l.all vld with
 | false=>simp [b1,b2,a2,b3,hv,Zsa]
 | true =>
  simp only [b1,b2,a2,b3,hv,if_true,if_false,Zd6,Bool.false_eq_true,or_self,decide_false]
  have hl:(0<(l.length:Int))↔0<l.length:=by omega
  by_cases h1:vk key=false
  ·simp [h1]
  ·have h1':vk key=true:=by simpa using h1
   by_cases h2:0<l.length <;> by_cases h3:k=1 <;> by_cases h4:key=⟨#[]⟩ <;> by_cases h5:k=3 <;> by_cases h6:k=4 <;> first
    | (exfalso; omega)
    | (simp [h1',h2,h3,h4,h5,h6] <;> (repeat' split) <;> first | rfl | omega | (simp_all; done) | (simp_all; omega))
theorem Zqa (q:Zf) (h:q.Ranges.length<1000000):YK q=some (Yi q.Kind q.Ranges q.Key q.Count)∧Xp q=some (Yi q.Kind q.Ranges q.Key q.Count):=⟨if_pos h,if_pos h⟩
theorem ZfP (r:Kv):Za3 r=ZhB r:=by
 unfold Za3
 rw [Zn,QV,ZbF,ZhB]
 congr 1
 simp; omega
theorem ZcW (t:List Kv) (ht:t.length≤1024):∀ (xs:List Kv) (m:Nat),t.drop m=xs→m≤t.length→XF t xs (m:Int)=some (sel ((List.range' m (t.length - m)).all (ZqX t)) (.nxt ()) (.ret false))
 | [],m,h,hm=>by
  have:t.length - m=0:=by have:=congrArg List.length h; simpa using this
  simp [XF,this,Zd]
 | r::xs,m,h,hm=>by
  obtain ⟨h1,h2⟩:=Zci h
  have h3:=(List.getElem?_eq_some_iff.1 h1).1
  have ih:=ZcW t ht xs (m+1) h2 h3
  rw [XF.eq_2,Zn,Zjo _ _ _ h3,ZjM t m r h1,ZfP,show (m:Int)+1=((m+1:Nat):Int) by omega,ih]
  cases ZhB r with
  | false=>rfl
  | true =>
   cases m with
   | zero=>rfl
   | succ m =>
    have e1:ZJ (((m+1:Nat):Int) - 1)=(m:Int):=by rw [ZA (by omega) (by omega)]; omega
    have e2:decide ((0:Int)<((m+1:Nat):Int))=true:=decide_eq_true (by omega)
    have e3:t[m+1 - 1]?=some t[m]:=List.getElem?_eq_getElem (by omega)
    rw [e1,e2,e3,Yc,List.getElem?_eq_getElem (show m<t.length by omega),Za]
    have e4:(m+1 == 0)=false:=rfl
    rw [e4]
    simp only
    cases bl t[m].key r.key <;> rfl
theorem Zhr (t:List Kv):Zcr t=some (Yu t):=by
 unfold Zcr
 rw [ZM]
 by_cases h:t.length≤1024
 ·rw [if_neg (by simp; omega)]
  have:=ZcW t h t 0 rfl (Nat.zero_le _)
  rw [show ((0:Nat):Int)=0 from rfl] at this
  rw [this,Za,Yu,List.range_eq_range']
  simp only [Nat.sub_zero,h,decide_true,Bool.true_and]
  cases (List.range' 0 t.length).all (ZqX t) <;> rfl
 ·rw [if_pos (by simp; omega)]
  simp [Yu,h]
end Go.Proofs.YtkcmgbbopedacaaGreatDoor
namespace Go.Proofs.YtkcmgbbopedacaaGreatDoor
open Go.RowKit
theorem ZeK (a b:Bnd):QO a b=greater a b:=by
 unfold QO greater
 rw [Zn,Zw,ZM]
 by_cases h:0<cmp b a
 ·rw [if_pos (by simpa using h),if_pos h]
 ·rw [if_neg (by simpa using h),if_neg h]
theorem Zft (a b:Bnd):Zah a b=lesser a b:=by
 unfold Zah lesser
 rw [Zn,Zw,ZM]
 by_cases h:cmp b a<0
 ·rw [if_pos (by simpa using h),if_pos h]
 ·rw [if_neg (by simpa using h),if_neg h]
theorem ZbE (a b:Rng):X5 a b=Yt a b:=by
 unfold X5 Yt
 simp only [Zn,ZeK,Zft,Yl]
 cases emp a <;> cases emp b <;> cases emp ⟨greater a.lo b.lo,lesser a.hi b.hi⟩ <;> rfl
theorem Zgf (a b:Bnd):Zbn a b=greater a b:=by
 rw [← Zg2]
 unfold Zbn greatest
 rw [Zn,ZG,ZM]
 by_cases h:0≤cmp a b
 ·rw [if_pos (by simpa using h),if_pos h]
 ·rw [if_neg (by simpa using h),if_neg h]
theorem Zi0 (a b:Bnd):Zda a b=lesser a b:=by
 rw [← Zr2]
 unfold Zda least
 rw [Zn,ZG,ZM]
 by_cases h:cmp a b≤0
 ·rw [if_pos (by simpa using h),if_pos h]
 ·rw [if_neg (by simpa using h),if_neg h]
theorem Zht (r:Rng):Zcs r=proper r:=by
 unfold Zcs proper
 rw [Zn,ZT]
 cases emp r <;> rfl
theorem ZfR (a b:Rng):XH a b=Yt a b:=by
 unfold XH Yt
 simp only [Zn,Zgf,Zi0,ZT,Zht,proper]
 cases emp a <;> cases emp b <;> cases emp ⟨greater a.lo b.lo,lesser a.hi b.hi⟩ <;> rfl
theorem Zb9 (l:List Rng) (h:l.length≤4294967296):Yb l=some l:=by
 unfold Yb
 rw [ZW (by simpa using h),Za,List.nil_append]
theorem ZiW (l:List Kv) (h:l.length≤4294967296):Z9 l=some l:=by
 unfold Z9
 rw [ZW (by simpa using h),Za,List.nil_append]
theorem Ql (q:Zf) (h:q.Ranges.length≤4294967296):XU q=some q:=by
 unfold XU
 rw [Zb9 _ h,Za]
theorem ZiX (v:Zr) (h:v.Rows.length≤4294967296):Zdl v=some v:=by
 unfold Zdl
 rw [ZiW _ h,Za]
theorem ZdX (y l:List Zi) (hl:l.length=y.length) (hy:y.length≤1000000) (hr:∀ v ∈ l,v.View.Rows.length≤4294967296):∀ (k fuel m:Nat),m+k=y.length→k<fuel→Qd y fuel l (m:Int)=some l
 | _,0,_,_,h=>absurd h (by omega)
 | 0,fuel+1,m,h1,_=>by
  rw [Qd.eq_2,decide_eq_false (by omega),Zb,Za,Yo]
 | k+1,fuel+1,m,h1,h2=>by
  have hm:m<l.length:=by omega
  rw [Qd.eq_2,decide_eq_true (by omega),Zd,Za,ZB,Yc,List.getElem?_eq_getElem hm,Za,ZiX _ (hr _ (List.getElem_mem hm)),Za,Za,Zn,Zn,ZA (by omega) (by omega),show (m:Int)+1=((m+1:Nat):Int) by omega]
  have e:l.set (Int.toNat (m:Int)) (Zi.mk l[m].View l[m].Part)=l:=by
   rw [Int.toNat_natCast]; exact List.set_getElem_self hm
  rw [e]
  exact ZdX y l hl hy hr k fuel (m+1) (by omega) (by omega)
theorem Zcb (l:List Zi) (h:l.length≤1000000) (hr:∀ v ∈ l,v.View.Rows.length≤4294967296):QK l=some l:=by
 unfold QK Xe
 rw [ZW (by simp; omega),Za,List.nil_append,Za,show (0:Int)=((0:Nat):Int) from rfl,ZdX l l rfl h hr l.length FU 0 (by omega) (by unfold FU; omega),Za]
structure okW (w:Zc):Prop where
 q:w.Query.Ranges.length≤1000
 todo:w.Todo.length≤1000
 vis:w.Visits.length≤1000
 rows:∀ v ∈ w.Visits,v.View.Rows.length≤10000
theorem Zfp (w:Zc) (h:okW w):Zbe w=some w:=by
 have h1:=h.q
 have h2:=h.todo
 have h3:=h.vis
 unfold Zbe
 rw [Ql _ (by omega),Za,Zb9 _ (by omega),Za,Zcb _ (by omega) (fun v hv=>by have:=h.rows v hv; omega),Za]
def inside (o i:Rng):Bool:=!emp o && decide (cmp o.lo i.lo≤0) && decide (cmp i.hi o.hi≤0)
theorem Zen (o i:Rng):ZbD o i=inside o i:=by
 unfold ZbD inside
 simp only [Zn,Yl,Zw,ZbF,Bool.and_assoc]
theorem Zhf (a r:Rng):ZbN a r=inside r a:=by
 unfold ZbN inside
 simp only [Zn,ZT,ZG,ZbF]
 cases emp r <;> cases decide (cmp r.lo a.lo≤0) <;> cases decide (cmp a.hi r.hi≤0) <;> rfl
def Zvd (p:Option Rng) (r:Rng):Bool:=match p with | some x=>decide (cmp r.lo x.hi<0) | none=>false
def Zgz (all:List Rng):Option Rng→List Rng→Int
 | _,[]=>0
 | p,r::l=>if emp r=true then 1 else if Zvd p r=true then 8 else if (all.any fun x=>inside x r)=true then Zgz all (some r) l else 2
def W0:Zc:=⟨⟨0,[],⟨#[]⟩,0⟩,[],[]⟩
def qch (q:Zf):Int:=ZcE q.Kind q.Ranges q.Key q.Count
def qrg (q:Zf):List Rng:=Yi q.Kind q.Ranges q.Key q.Count
def ZlG (q:Zf) (l:List Rng):Zc × Int:=if qch q≠0 then (W0,qch q) else if 128<l.length then (W0,3) else if Zgz (qrg q) none l=0 then (⟨q,l,[]⟩,0) else (W0,Zgz (qrg q) none l)
theorem Zdt (r:Rng):∀ (l:List Rng) (b:Bool),Qi r l b=some (b || l.any fun x=>inside x r)
 | [],b=>by simp [Qi]
 | x::l,b=>by
  rw [Qi.eq_2,Zn,Zen,Zdt r l,Zdt r l]
  cases b <;> simp [Zd,Zb]
def Zou (rs:List Rng):Nat→Option Rng
 | 0=>none
 | m+1=>rs[m]?
def stC (e:Int):Ctl (Zc × Int) Unit:=if e=0 then .nxt () else .ret (W0,e)
theorem Zfm (rs all:List Rng) (hrs:rs.length≤1000):∀ (xs:List Rng) (m:Nat),rs.drop m=xs→m≤rs.length→Zbq rs all xs (m:Int)=some (stC (Zgz all (Zou rs m) xs))
 | [],m,_,_=>rfl
 | r::xs,m,h,hm=>by
  obtain ⟨h1,h2⟩:=Zci h
  obtain ⟨h3,h4⟩:=List.getElem?_eq_some_iff.1 h1
  have ih:=Zfm rs all hrs xs (m+1) h2 h3
  rw [Zbq.eq_2,Zn,Yl,show (m:Int)+1=((m+1:Nat):Int) by omega,ih,Zgz.eq_2]
  have hp:(sel (decide ((0:Int)<(m:Int))) (Ze (YD rs (ZJ ((m:Int) - 1))) fun e9=>bnd (Zl r.lo e9.hi) fun y10=>some (decide (y10<0))) (some false))=some (Zvd (Zou rs m) r):=by
   cases m with
   | zero=>rfl
   | succ m =>
    rw [decide_eq_true (by omega),Zd,ZA (by omega) (by omega),show ((m+1:Nat):Int) - 1=(m:Int) by omega,Yc,List.getElem?_eq_getElem (by omega),Za,Zn,Zw]
    simp only [Zou,Zvd]
    rw [List.getElem?_eq_getElem (by omega)]
  cases emp r with
  | true=>rfl
  | false =>
   simp only [Bool.false_eq_true,if_false]
   rw [Zb,hp,Za]
   generalize (Zvd (Zou rs m) r)=b
   cases b with
   | true=>rfl
   | false =>
    simp only [Bool.false_eq_true,if_false]
    rw [Zb,Zdt,Za,Bool.false_or]
    have e:Zou rs (m+1)=some r:=h1
    rw [e]
    cases (all.any fun x=>inside x r) <;> rfl
theorem Zfq (q:Zf) (l:List Rng) (hq:q.Ranges.length<1000000):Zat q l=some (ZlG q l):=by
 have e1:Y8 q=some (qch q):=if_pos hq
 have e2:YK q=some (qrg q):=if_pos hq
 unfold Zat ZlG
 rw [e1,Za,e2,Za]
 by_cases h1:qch q=0
 ·rw [decide_eq_true h1,Bool.not_true,Zb,if_neg (by simpa using h1)]
  by_cases h2:128<l.length
  ·rw [decide_eq_true (by omega),Zd,if_pos h2]; rfl
  ·have hl:l.length≤128:=by omega
   have:=Zfm l (qrg q) (by omega) l 0 rfl (Nat.zero_le _)
   rw [show ((0:Nat):Int)=0 from rfl] at this
   rw [decide_eq_false (by omega),Zb,if_neg h2,this,Za]
   show Yz (stC (Zgz (qrg q) none l)) _=_
   unfold stC
   by_cases h3:Zgz (qrg q) none l=0
   ·rw [if_pos h3,if_pos h3,ZB,Ql _ (by omega),Za,Zb9 _ (by omega),Za]
   ·rw [if_neg h3,if_neg h3,Yo]
 ·rw [decide_eq_false h1,Bool.not_false,Zd,if_pos h1]; rfl
theorem Zhu (r:Rng):ZQ r r=true:=by
 unfold ZQ
 simp only [Zn,ZG,ZmE]; rfl
end Go.Proofs.YtkcmgbbopedacaaGreatDoor
-- LEFT eq_ref28_Start ref28_Start_l1 ref28_Start_l2
namespace Go.Proofs.YtkcmgbbopedacaaGreatDoor
open Go.RowKit
def enough (q:Zf) (n:Int):Bool:=(decide (q.Kind=3) || decide (q.Kind=4)) && decide (q.Count≤n)
theorem ZdV (q:Zf) (n:Int):ZaQ q n=enough q n:=by
 unfold ZaQ ZcD enough
 rw [Zn]
 cases decide (q.Kind=3) <;> cases decide (q.Kind=4) <;> cases decide (q.Count≤n) <;> rfl
theorem ZdY (q:Zf) (n:Int):ZaU q n=enough q n:=by
 unfold ZaU enough
 cases decide (q.Kind=3) <;> cases decide (q.Kind=4) <;> cases decide (q.Count≤n) <;> rfl
def YH (l:List Zi):List Kv:=l.flatMap fun v=>v.View.Rows
theorem Zju:∀ {l:List Zi},(∀ v ∈ l,v.View.Rows.length≤10000)→(YH l).length≤l.length * 10000
 | [],_=>by simp [YH]
 | v::l,h=>by
  have h1:=h v List.mem_cons_self
  have h2:=Zju (l:=l) fun x hx=>h x (List.mem_cons_of_mem _ hx)
  unfold YH at h2 ⊢
  rw [List.flatMap_cons,List.length_append,List.length_cons]
  omega
theorem Zf9:∀ (l:List Zi) (out:List Kv),out.length+(YH l).length≤4294967296→ZaS l out=some (out++YH l)
 | [],out,_=>by rw [ZaS.eq_1]; simp [YH]
 | v::l,out,h=>by
  unfold YH at h ⊢
  rw [List.flatMap_cons,List.length_append] at h
  have ih:=Zf9 l (out++v.View.Rows) (by unfold YH; rw [List.length_append]; omega)
  unfold YH at ih
  rw [ZaS.eq_2,ZW (by omega),Za,ih,List.flatMap_cons,List.append_assoc]
theorem Zfr:∀ (l:List Zi) (out:List Kv),out.length+(YH l).length≤4294967296→Q0 l out=some (out++YH l)
 | [],out,_=>by rw [Q0.eq_1]; simp [YH]
 | v::l,out,h=>by
  unfold YH at h ⊢
  rw [List.flatMap_cons,List.length_append] at h
  have ih:=Zfr l (out++v.View.Rows) (by unfold YH; rw [List.length_append]; omega)
  unfold YH at ih
  rw [Q0.eq_2,ZW (by omega),Za,ih,List.flatMap_cons,List.append_assoc]
theorem okW.rlen {w:Zc} (h:okW w):(YH w.Visits).length≤10000000:=by
 have h1:=Zju h.rows
 have h2:=h.vis
 omega
theorem ZdP {w:Zc} (h:okW w):ZcS w=some (YH w.Visits):=by
 have:=h.rlen
 unfold ZcS
 rw [Zf9 _ _ (by simp; omega),Za,List.nil_append]
theorem Zdn {w:Zc} (h:okW w):Qu w.Visits=some (YH w.Visits):=by
 have:=h.rlen
 unfold Qu
 rw [Zfr _ _ (by simp; omega),Za,List.nil_append]
def Yy (w:Zc):Bool:=w.Todo.isEmpty || enough w.Query ((YH w.Visits).length:Int)
theorem Zzf {α:Type} (l:List α):decide ((l.length:Int)=0)=l.isEmpty:=by
 cases l with
 | nil=>rfl
 | cons a l=>exact decide_eq_false (by simp; omega)
theorem Zf3 {w:Zc} (h:okW w):ZcR w=some (Yy w):=by
 unfold ZcR Yy
 rw [ZdP h,Zzf,Za,Zn,ZdV]
 cases w.Todo.isEmpty <;> rfl
theorem Zfk {w:Zc} (h:okW w):Zb7 w=some (Yy w):=by
 unfold Zb7 Yy
 rw [Zdn h,Zzf,Za,Zn,ZdY]
 cases w.Todo.isEmpty <;> rfl
def Xf (q:Zf):Bool:=decide (q.Kind=4)
def Zcw (d:Bool) (l:List Rng):Rng:=if d=true then l.getLast?.getD zr else l.head?.getD zr
def XP (w:Zc):Rng × Bool:=if Yy w=true then (zr,false) else (Zcw (Xf w.Query) w.Todo,true)
theorem ZcT (x:Rng) (t:List Rng):YD (x::t) 0=some x:=by
 have:=Yc (x::t) 0
 rw [show ((0:Nat):Int)=0 from rfl] at this
 rw [this]; rfl
theorem ZrZ {i:List Rng} {x:Rng} (h:(i++[x]).length≤100000):ZJ (((i++[x]).length:Int) - 1)=(i.length:Int):=by
 rw [List.length_append,List.length_singleton] at h ⊢
 rw [ZA (by omega) (by omega)]; omega
theorem Zff (i:List Rng) (x:Rng):YD (i++[x]) (i.length:Int)=some x:=by rw [Yc]; simp
theorem Zex {l:List Rng} (h:l.isEmpty=false):∃ i x,l=i++[x]:=by
 rcases List.eq_nil_or_concat l with rfl | ⟨i,x,h1⟩
 ·cases h
 ·exact ⟨i,x,by simpa using h1⟩
theorem Zeu {l:List Rng} (h:l.isEmpty=false):∃ x t,l=x::t:=by
 cases l with
 | nil=>cases h
 | cons x t=>exact ⟨x,t,rfl⟩
theorem Zc5 {w:Zc} (h:Yy w=false):w.Todo.isEmpty=false:=by
 unfold Yy at h
 cases hh:w.Todo.isEmpty with
 | false=>rfl
 | true=>rw [hh] at h; cases h
theorem Zf0 {w:Zc} (h:okW w):ZcQ w=some (XP w):=by
 unfold ZcQ XP
 rw [Zf3 h,Za]
 cases hd:Yy w with
 | true=>rfl
 | false =>
  have ht:=Zc5 hd
  have hl:=h.todo
  have e:Qt w.Query=Xf w.Query:=rfl
  rw [Zb,Zn,e,if_neg (by simp)]
  unfold Zcw
  cases Xf w.Query with
  | true =>
   obtain ⟨i,x,e2⟩:=Zex ht
   rw [e2] at hl ⊢
   rw [Zd,ZrZ (by omega),Zff,Za,if_pos rfl,List.getLast?_concat]; rfl
  | false =>
   obtain ⟨x,t,e2⟩:=Zeu ht
   rw [e2,Zb,ZcT,Za,if_neg (by simp)]; rfl
theorem Zfo {w:Zc} (h:okW w):Zb3 w=some (XP w):=by
 unfold Zb3 XP
 rw [Zfk h,Za]
 cases hd:Yy w with
 | true=>rfl
 | false =>
  have ht:=Zc5 hd
  have hl:=h.todo
  have e:X0 w.Query=Xf w.Query:=rfl
  rw [Zb,Zn,e,if_neg (by simp)]
  unfold Zcw
  cases Xf w.Query with
  | true =>
   obtain ⟨i,x,e2⟩:=Zex ht
   rw [e2] at hl ⊢
   rw [Zd,ZrZ (by omega),Zff,Za,if_pos rfl,List.getLast?_concat]; rfl
  | false =>
   obtain ⟨x,t,e2⟩:=Zeu ht
   rw [e2,Zb,ZcT,Za,if_neg (by simp)]; rfl
def Zn3 (s:YU):Bool:=decide (0≤s.Epoch) && decide (s.Epoch≤1099511627776) && decide (0≤s.Version) && decide (s.Version≤1099511627776)
def Zfy (n:Int):Bool:=decide (1≤n) && decide (n≤2147483647)
def X7 (v:Zr):Bool:=Zfy v.Owner && !emp v.Interval && Zn3 v.Stamp && Yu v.Rows && v.Rows.all fun x=>contains v.Interval x.key
theorem Zhv (s:YU):Zcn s=Zn3 s:=by
 unfold Zcn Zn3
 simp only [ZbF,Bool.and_assoc]
theorem ZcB (s:YU):Qv s=Zn3 s:=by
 unfold Qv Zn3
 simp only [ZbF,Bool.and_assoc]
theorem Zca (n:Int):Y6 n=Zfy n:=by
 unfold Y6 Zfy
 rw [ZbF]
theorem Za4 (r:Rng) (t:List Kv):Xo t r=t.all fun x=>contains r x.key:=by
 unfold Xo
 have:∀ t:List Kv,Zam r t=sel (t.all fun x=>contains r x.key) (.nxt ()) (.ret false):=by
  intro t
  induction t with
  | nil=>rfl
  | cons x t ih =>
   rw [Zam.eq_2,Zn,Zal,ih,List.all_cons]
   cases contains r x.key <;> rfl
 rw [this,Zn]
 cases (t.all fun x=>contains r x.key) <;> rfl
theorem ZpH (r:Rng) (t:List Kv):decide (((t.filter fun x=>contains r x.key).length:Int)=(t.length:Int))=t.all fun x=>contains r x.key:=by
 cases h:t.all fun x=>contains r x.key with
 | true =>
  have:t.filter (fun x=>contains r x.key)=t:=List.filter_eq_self.2 fun x hx=>List.all_eq_true.1 h x hx
  rw [this]; exact decide_eq_true rfl
 | false =>
  refine decide_eq_false fun he=>?_
  have he:(t.filter fun x=>contains r x.key).length=t.length:=by omega
  have:t.all (fun x=>contains r x.key)=true:=List.all_eq_true.2 fun x hx=>by
   have:=List.length_filter_eq_length_iff.1 he x hx
   exact this
  rw [h] at this; cases this
theorem Zc0 (v:Zr) (h:v.Rows.length≤10000):QA v=some (X7 v):=by
 unfold QA X7 Zfy
 rw [Zn,Zn,Yl,Zhv,Zhr,Za,Zbo _ _ (by omega),Za,ZpH]
 cases decide (1≤v.Owner) <;> cases decide (v.Owner≤2147483647) <;> cases emp v.Interval <;> cases Zn3 v.Stamp <;> cases Yu v.Rows <;> rfl
theorem Zcu (v:Zr):Qg v=some (X7 v):=by
 unfold Qg X7
 rw [Zn,Zn,Zn,Zn,Zca,ZT,ZcB,Zaa,Za,Za4]
 cases Zfy v.Owner <;> cases emp v.Interval <;> cases Zn3 v.Stamp <;> cases Yu v.Rows <;> rfl
def ZbX (v:Zr) (part:Rng):Zi:=⟨⟨v.Owner,v.Interval,v.Stamp,v.Rows.filter fun x=>contains part x.key⟩,part⟩
def Zm7 (r:Rng):List Rng:=if emp r=true then [] else [r]
def ZbV (d:Bool) (want i:Rng):Bool:=if d=true then decide (cmp i.hi want.hi<0) || decide (0≤cmp i.lo want.hi) else decide (0<cmp i.lo want.lo) || decide (cmp i.hi want.lo≤0)
def stepW (w:Zc) (v:Zr) (want part:Rng):Zc :=
 if Xf w.Query=true then ⟨w.Query,w.Todo.dropLast++Zm7 ⟨want.lo,part.lo⟩,ZbX v part::w.Visits⟩
 else ⟨w.Query,Zm7 ⟨part.hi,want.hi⟩++w.Todo.tail,w.Visits++[ZbX v part]⟩
def Xg (w:Zc) (v:Zr):Zc × Int :=
 if (XP w).2=false then (W0,7) else if X7 v=false then (W0,1) else if ZbV (Xf w.Query) (XP w).1 v.Interval=true then (W0,12) else (stepW w v (XP w).1 (Yt v.Interval (XP w).1),0)
theorem ZfB {w:Zc} (h:(XP w).2=true):Yy w=false:=by
 unfold XP at h
 cases hd:Yy w with
 | false=>rfl
 | true=>rw [hd,if_pos rfl] at h; cases h
theorem ZlN {w:Zc} (h:(XP w).2=true):(XP w).1=Zcw (Xf w.Query) w.Todo:=by
 have:=ZfB h
 unfold XP
 rw [this]; rfl
theorem ZiU {w:Zc} (h:okW w) (v:Zr) (hv:v.Rows.length≤10000):Zdm w v=some (Xg w v):=by
 unfold Zdm Xg
 rw [Zfo h,Za]
 cases hw:(XP w).2 with
 | false=>rfl
 | true =>
  rw [Bool.not_true,Zb,if_neg (by simp),Zcu,Za]
  cases hvv:X7 v with
  | false=>rfl
  | true =>
   have ed:X0 w.Query=Xf w.Query:=rfl
   rw [Bool.not_true,Zb,if_neg (by simp),Zn,ed]
   have hm:∀ want:Rng,(sel (!Xf w.Query) (
      bnd (Zk v.Interval.lo want.lo) fun y6 =>
      sel (decide (0<y6)) (
       some true) (
       bnd (Zk v.Interval.hi want.lo) fun y7 =>
       sel (decide (y7≤0)) (
        some true) (
        sel (Xf w.Query) (
         bnd (Zk v.Interval.hi want.hi) fun y8 =>
         sel (decide (y8<0)) (
          some true) (
          bnd (Zk v.Interval.lo want.hi) fun y9 =>
          some (decide (0≤y9)))) (
         some false)))) (
      sel (Xf w.Query) (
       bnd (Zk v.Interval.hi want.hi) fun y10 =>
       sel (decide (y10<0)) (
        some true) (
        bnd (Zk v.Interval.lo want.hi) fun y11 =>
        some (decide (0≤y11)))) (
       some false)):Option Bool)=some (ZbV (Xf w.Query) want v.Interval):=by
    intro want
    unfold ZbV
    simp only [Zn,ZG]
    cases Xf w.Query with
    | true =>
     rw [Bool.not_true,Zb,Zd,if_pos rfl]
     cases decide (cmp v.Interval.hi want.hi<0) <;> rfl
    | false =>
     rw [Bool.not_false,Zd,if_neg (by simp)]
     cases decide (0<cmp v.Interval.lo want.lo) <;> cases decide (cmp v.Interval.hi want.lo≤0) <;> rfl
   rw [hm,Za]
   cases hms:ZbV (Xf w.Query) (XP w).1 v.Interval with
   | true=>rfl
   | false =>
    rw [Zb,if_neg (by simp),Zn,ZfR,Zbp _ _ (by omega),Za]
    have ht:=Zc5 (ZfB hw)
    have hl:=h.todo
    have hvis:=h.vis
    have e1:=ZlN hw
    generalize Yt v.Interval (XP w).1=part
    unfold stepW ZbX Zm7
    cases hd:Xf w.Query with
    | true =>
     obtain ⟨i,x,e2⟩:=Zex ht
     have ew:(XP w).1=x:=by rw [e1,hd,Zcw,if_pos rfl,e2,List.getLast?_concat]; rfl
     have hl2:i.length≤999:=by rw [e2] at hl; simp at hl; omega
     rw [ew,e2]
     rw [Zd,if_pos rfl,ZW (by simp; omega),Za,ZrZ (by simp; omega),Zeh (by simp; omega),Za]
     rw [List.dropLast_concat]
     have e3:((i++[x]).drop (0:Int).toNat).take ((i.length:Int).toNat - (0:Int).toNat)=i:=by simp
     rw [e3,ZW (by simp; omega),Za,List.nil_append,Zn,ZT]
     cases emp ⟨x.lo,part.lo⟩ with
     | true=>simp [Zb]
     | false =>
      rw [Bool.not_false,Zd,ZW (by simp; omega),Za]
      simp
    | false =>
     obtain ⟨x,t,e2⟩:=Zeu ht
     have ew:(XP w).1=x:=by rw [e1,hd,Zcw,if_neg (by simp),e2]; rfl
     have hl2:t.length≤1000:=by rw [e2] at hl; simp at hl; omega
     rw [ew,e2]
     rw [Zb,if_neg (by simp),ZW (by simp; omega),Za,List.nil_append,ZW (by simp; omega),Za,Zn,ZT]
     have e3:lsl (x::t) 1 ((x::t).length:Int)=some t:=by
      rw [Zeh (by simp; omega)]; simp
     cases emp ⟨part.hi,x.hi⟩ with
     | true =>
      rw [Bool.not_true,Zb,Za,e3,Za,ZW (by simp; omega),Za]
      simp
     | false =>
      rw [Bool.not_false,Zd,ZW (by simp),Za,Za,e3,Za,ZW (by simp; omega),Za]
      simp
theorem Zf8 {w:Zc} (h:okW w) (v:Zr) (hv:v.Rows.length≤10000):ZcM w v=some (Xg w v):=by
 unfold ZcM Xg
 rw [Zf0 h,Za]
 cases hw:(XP w).2 with
 | false=>rfl
 | true =>
  rw [Bool.not_true,Zb,if_neg (by simp),Zc0 v hv,Za]
  cases hvv:X7 v with
  | false=>rfl
  | true =>
   have ed:Qt w.Query=Xf w.Query:=rfl
   rw [Bool.not_true,Zb,if_neg (by simp),Zn,ed]
   have ht:=Zc5 (ZfB hw)
   have hl:=h.todo
   have hvis:=h.vis
   have e1:=ZlN hw
   rw [Zfp w h]
   cases hd:Xf w.Query with
   | true =>
    obtain ⟨i,x,e2⟩:=Zex ht
    have ew:(XP w).1=x:=by rw [e1,hd,Zcw,if_pos rfl,e2,List.getLast?_concat]; rfl
    rw [ew]
    simp only [Bool.not_true,Zd,Zb,Za,Zn,Zw]
    have hm:(sel (decide (cmp v.Interval.hi x.hi<0)) (some true) (some (decide (0≤cmp v.Interval.lo x.hi))))=some (ZbV true x v.Interval):=by
     unfold ZbV
     rw [if_pos rfl]
     cases decide (cmp v.Interval.hi x.hi<0) <;> rfl
    rw [hm,Za]
    cases ZbV true x v.Interval with
    | true=>rfl
    | false =>
     simp only [Zb,Bool.false_eq_true,if_false,ZbE]
     generalize Yt v.Interval x=part
     rw [Zbo _ _ (by omega),Za]
     unfold stepW ZbX Zm7
     rw [hd,if_pos rfl]
     rw [e2] at hl
     rw [ZW (by simp; omega),Za,e2,ZrZ (by omega),Zff,Za,Int.toNat_natCast]
     have e4:∀ y:Rng,(i++[x]).set i.length y=i++[y]:=fun y=>by simp
     rw [e4,Za]
     simp only
     rw [Zff,Za,Yl,List.dropLast_concat]
     cases emp ⟨x.lo,part.lo⟩ with
     | false=>rfl
     | true =>
      have e5:∀ y:Rng,lsl (i++[y]) 0 (i.length:Int)=some i:=fun y=>by rw [Zeh (by simp; omega)]; simp
      have hl2:i.length≤1000:=by simp at hl; omega
      have e6:∀ y:Rng,lsl (i++[y]) (ZJ ((i.length:Int)+1)) ((i++[y]).length:Int)=some []:=fun y=>by
       rw [ZA (by omega) (by omega),Zeh (by simp; omega)]; simp
      rw [Zd,e5,Za,e6,Za,apd,if_pos (by simp),Za]
      simp
   | false =>
    obtain ⟨x,t,e2⟩:=Zeu ht
    have ew:(XP w).1=x:=by rw [e1,hd,Zcw,if_neg (by simp),e2]; rfl
    rw [ew]
    simp only [Bool.not_false,Zd,Zb,Za,Zn,Zw]
    have hm:(sel (decide (0<cmp v.Interval.lo x.lo)) (some true) (sel (decide (cmp v.Interval.hi x.lo≤0)) (some true) (some false)))=some (ZbV false x v.Interval):=by
     unfold ZbV
     rw [if_neg (by simp)]
     cases decide (0<cmp v.Interval.lo x.lo) <;> cases decide (cmp v.Interval.hi x.lo≤0) <;> rfl
    rw [hm,Za]
    cases ZbV false x v.Interval with
    | true=>rfl
    | false =>
     simp only [Zb,Bool.false_eq_true,if_false,ZbE]
     generalize Yt v.Interval x=part
     rw [Zbo _ _ (by omega),Za]
     unfold stepW ZbX Zm7
     rw [hd,if_neg (by simp)]
     rw [e2] at hl
     rw [ZW (by simp; omega),Za,e2,ZcT,Za]
     have e4:∀ y:Rng,(x::t).set (Int.toNat 0) y=y::t:=fun y=>rfl
     rw [e4,Za]
     simp only
     rw [ZcT,Za,Yl,List.tail_cons]
     cases emp ⟨part.hi,x.hi⟩ with
     | false=>rfl
     | true =>
      have e5:∀ y:Rng,lsl (y::t) 0 0=some []:=fun y=>by rw [Zeh (by simp; omega)]; simp
      have hl2:t.length≤1000:=by simp at hl; omega
      have e6:∀ y:Rng,lsl (y::t) (ZJ (0+1)) ((y::t).length:Int)=some t:=fun y=>by
       rw [ZA (by omega) (by omega),Zeh (by simp; omega)]; simp
      rw [Zd,e5,Za,e6,Za,apd,if_pos (by simp),Za]
      simp
end Go.Proofs.YtkcmgbbopedacaaGreatDoor
