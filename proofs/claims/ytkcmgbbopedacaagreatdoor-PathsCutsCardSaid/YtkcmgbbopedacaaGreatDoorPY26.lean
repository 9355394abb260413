/-
  Lemmas: Plain laws of the models
-/
import Derived.Test.YtkcmgbbopedacaaGreatDoorPY22
import Derived.Test.YtkcmgbbopedacaaGreatDoorPY24
import Derived.Test.YtkcmgbbopedacaaGreatDoorPY25
set_option linter.unusedSimpArgs false
set_option linter.unusedVariables false
namespace Go.Proofs.YtkcmgbbopedacaaGreatDoor
open Go.RowKit
theorem Zo6 (out:List Bnd) (hout:out.length≤1000) (y:Bnd × ZI):∀ (fuel:Nat) (l:List Int) (a:Int) (k:Nat),okT ⟨l,a⟩→k≤out.length→k<fuel→Tot (QF out y fuel l a (k:Int)) fun z=>okT ⟨z.1,z.2.1⟩∧0≤z.2.2∧z.2.2≤out.length
 | 0,_,_,_,_,_,h=>absurd h (by omega)
 | fuel+1,l,a,k,h,hk,hf=>by
  rw [QF.eq_2]
  have stay:okT ⟨l,a⟩∧0≤(k:Int)∧(k:Int)≤out.length:=⟨h,by omega,by omega⟩
  refine QL (fun h1=>?_) fun _=>YK stay
  have h1:0<(k:Int):=of_decide_eq_true h1
  rw [Zh0]
  refine Z9 (Zmn (Q:=fun _=>True) (by omega) (by omega) fun _=>trivial) fun e _=>Zgl (QL (fun _=>Z9 (Zis h (by omega)) fun z hz=>QL (fun _=>?_) fun _=>YK ⟨hz,by simp only; omega,by simp only; omega⟩) fun _=>YK stay)
  rw [show (k:Int) - 1=((k - 1:Nat):Int) by omega]
  exact Zo6 out hout y fuel _ _ (k - 1) hz (by omega) (by omega)
theorem ZoH:∀ (fuel:Nat) (l:List Int) (a:Int) (out:List Bnd) (i:Int),okT ⟨l,a⟩→i.toNat<fuel→i≤100→(out.length:Int)+max i 0≤900→Tot (QD fuel l a out i) fun z=>okT ⟨z.2.1,z.2.2⟩∧(z.1.length:Int)≤out.length+max i 0
 | 0,_,_,_,_,_,h,_,_=>absurd h (by omega)
 | fuel+1,l,a,out,i,h,hf,hi,ho=>by
  rw [QD.eq_2]
  refine Zih (R:=fun _=>0<i) (QL (fun h1=>YK (show 0<i from of_decide_eq_true h1)) fun _=>YK ⟨h,by simp only; omega⟩) fun _ h1=>?_
  refine Z9 (R:=fun z=>okT ⟨z.1,z.2.1⟩∧z.2.2.length≤out.length+1) ?_ ?_
  ·refine Z9 (ZpU h) fun y hy=>Z9 (Zo6 out (by omega) y FU y.2.l y.2.at_ out.length hy.1 (Nat.le_refl _) (by unfold FU; omega)) ?_
   rintro ⟨l1,a1,k1⟩ ⟨g1,g2,g3⟩
   simp only at g1 g2 g3 ⊢
   refine Z9 (R:=fun z=>okT ⟨z.1,z.2.1⟩) ?_ ?_
   ·have tl:∀ (τ:ZI),okT τ→∀ b:Bool,Tot (sel b (Ze (Z4 τ 20) fun y22=>some (y22.2.l,y22.2.at_,!y22.1)) (some (τ.l,τ.at_,false))) fun z=>okT ⟨z.1,z.2.1⟩:=fun τ hτ b=>QL (fun _=>Z9 (Zis hτ (by omega)) fun z hz=>YK hz) fun _=>YK hτ
    refine QL (fun h2=>?_) fun _=>Zgl (tl ⟨l1,a1⟩ g1 _)
    have h2:0<k1:=of_decide_eq_true h2
    rw [Zh0]
    refine Z9 (Zmn (Q:=fun _=>True) (by omega) (by omega) fun _=>trivial) fun e _=>Zgl (QL (fun _=>?_) fun _=>Zgl (tl ⟨l1,a1⟩ g1 _))
    exact Z9 (Zis g1 (by omega)) fun z hz=>QL (fun _=>YK hz) fun _=>Zgl (tl z.2 hz _)
   ·rintro ⟨l2,a2,b2⟩ g4
    simp only at g4 ⊢
    refine Zih (R:=fun _=>True) (QL (fun _=>YK ⟨g4,by simp only; omega⟩) fun _=>YK trivial) fun _ _=>?_
    refine Z9 (ZoQ (Q:=fun l=>(l.length:Int)=k1) (by omega) (by simp; omega)) fun l30 e30=>?_
    refine Z9 (Zkv (Q:=fun l=>(l.length:Int)=k1) (by simp; omega) (by simp; omega)) fun l31 e31=>?_
    refine Z9 (Zkv (Q:=fun l=>(l.length:Int)=k1+1) (by simp; omega) (by simp; omega)) fun l32 e32=>?_
    refine Z9 (ZoQ (Q:=fun l=>(l.length:Int)=out.length - k1) (by omega) (by simp; omega)) fun l33 e33=>?_
    refine Z9 (Zkv (Q:=fun l=>(l.length:Int)=out.length+1) (by omega) (by simp; omega)) fun l34 e34=>?_
    exact YK ⟨g4,by simp only; omega⟩
  ·rintro ⟨l2,a2,o2⟩ ⟨g1,g2⟩
   simp only at g1 g2 ⊢
   rw [Zh0]
   exact Zsj (ZoH fuel l2 a2 o2 (i - 1) g1 (by omega) (by omega) (by omega)) fun z hz=>⟨hz.1,by have:=hz.2; omega⟩
theorem Zij {τ:ZI} (h:okT τ) {n:Int} (h0:0≤n) (hn:n≤50):Tot (X7 τ n) fun y=>okT y.2∧(y.1.length:Int)≤n:=by
 unfold X7
 rw [Zh0]
 refine Z9 (Zf5 h (by omega)) fun y hy=>?_
 obtain ⟨h1,h2⟩:=hy
 unfold Cho at h2
 refine Z9 (ZoH FU y.2.l y.2.at_ [] y.1 h1 (by unfold FU; omega) (by omega) (by simp; omega)) ?_
 rintro ⟨o,l,a⟩ ⟨g1,g2⟩
 simp only [List.length_nil] at g1 g2
 exact YK ⟨g1,by simp only; omega⟩
end Go.Proofs.YtkcmgbbopedacaaGreatDoor
namespace Go.Proofs.YtkcmgbbopedacaaGreatDoor
open Go.RowKit
attribute [local irreducible] Tot sel bnd Ze Yv app Yx lsl
def inC (lo hi c:Bnd):Bool:=vb c && decide (0<cmp c lo) && decide (cmp c hi<0)
def spl (hi:Bnd):List Bnd→Bnd→List Rng
 | [],lo=>[⟨lo,hi⟩]
 | c::cs,lo=>if inC lo hi c=true then ⟨lo,c⟩::spl hi cs c else spl hi cs lo
theorem ZdB {lo hi c:Bnd}:inC lo hi c=true↔vb c=true∧lo.lt c=true∧c.lt hi=true:=by
 unfold inC
 simp only [Bool.and_eq_true,decide_eq_true_eq,Xt,X9,and_assoc]
theorem Zf3 (lo:Bnd):∀ (cs:List Bnd) (x:Bnd),∃ b:Bnd,YP lo.key lo.top cs x.key x.top=some (b.key,b.top)∧(b=x∨(b ∈ cs∧vb b=true∧lo.lt b=true∧b.lt x=true))∧(∀ c ∈ cs,vb c=true→lo.lt c=true→c.lt b=false)
 | [],x=>⟨x,rfl,.inl rfl,fun c h=>by cases h⟩
 | c::cs,x=>by
  rw [YP,Qg,ZC,ZC]
  simp only [Zm]
  have keep:(vb c=true→lo.lt c=true→c.lt x=false)→∃ b:Bnd,YP lo.key lo.top cs x.key x.top=some (b.key,b.top)∧(b=x∨(b ∈ c::cs∧vb b=true∧lo.lt b=true∧b.lt x=true))∧(∀ d ∈ c::cs,vb d=true→lo.lt d=true→d.lt b=false):=fun hc=>by
   obtain ⟨b,e,h1,h2⟩:=Zf3 lo cs x
   refine ⟨b,e,h1.imp id fun h=>⟨List.mem_cons_of_mem _ h.1,h.2⟩,fun d hd g1 g2=>?_⟩
   rcases List.mem_cons.1 hd with rfl | hd
   ·rcases h1 with rfl | ⟨-,-,-,h1⟩
    ·exact hc g1 g2
    ·cases hdb:d.lt b with
     | false=>rfl
     | true=>have:=hc g1 g2; rw [lt_trans hdb h1] at this; cases this
   ·exact h2 d hd g1 g2
  have e0:(⟨lo.key,lo.top⟩:Bnd)=lo:=rfl
  have e1:(⟨x.key,x.top⟩:Bnd)=x:=rfl
  rw [e0,e1]
  cases hv:vb c with
  | false=>rw [Zb]; exact keep fun h=>by rw [hv] at h; cases h
  | true =>
   rw [Zd]
   by_cases h1:0<cmp c lo
   ·rw [decide_eq_true h1,Zd]
    by_cases h2:cmp c x<0
    ·rw [decide_eq_true h2,Zd]
     obtain ⟨b,e,g1,g2⟩:=Zf3 lo cs c
     refine ⟨b,e,.inr ?_,fun d hd p1 p2=>?_⟩
     ·rcases g1 with rfl | ⟨q1,q2,q3,q4⟩
      ·exact ⟨List.mem_cons_self,hv,(Xt _ _).1 h1,(X9 _ _).1 h2⟩
      ·exact ⟨List.mem_cons_of_mem _ q1,q2,q3,lt_trans q4 ((X9 _ _).1 h2)⟩
     ·rcases List.mem_cons.1 hd with rfl | hd
      ·rcases g1 with rfl | ⟨-,-,-,q4⟩
       ·exact lt_irrefl _
       ·exact Yb q4
      ·exact g2 d hd p1 p2
    ·rw [decide_eq_false h2,Zb]
     exact keep fun _ _=>by
      cases hcx:c.lt x with
      | false=>rfl
      | true=>exact absurd ((X9 _ _).2 hcx) h2
   ·rw [decide_eq_false h1,Zb]
    exact keep fun _ hl=>absurd ((Xt _ _).2 hl) h1
def Asc:List Bnd→Prop
 | []=>True
 | c::cs=>(∀ d ∈ cs,d.lt c=false)∧Asc cs
theorem Zf2 {lo hi:Bnd} (h1:vb lo=true) (h2:vb hi=true):emp ⟨lo,hi⟩=false↔lo.lt hi=true:=by
 unfold emp vld
 rw [h1,h2]
 rcases Zej lo hi with h | h | h <;> rw [h]
 ·simp; exact (X9 _ _).1 (by omega)
 ·simp; exact ((ZkA _ _).1 h).1
 ·simp; exact Yb ((Xt _ _).1 (by omega))
theorem Zov {r:Rng} (h:emp r=false):vb r.lo=true∧vb r.hi=true∧r.lo.lt r.hi=true:=by
 have h0:=h
 unfold emp vld at h
 simp only [Bool.or_eq_false_iff,Bool.not_eq_false',Bool.and_eq_true] at h
 have h1:vb r.lo=true∧vb r.hi=true:=by grind
 exact ⟨h1.1,h1.2,(Zf2 h1.1 h1.2).1 h0⟩
theorem Zib (hi:Bnd):∀ (cs:List Bnd) (lo:Bnd),(spl hi cs lo).length≤cs.length+1
 | [],_=>by simp [spl]
 | c::cs,lo=>by
  rw [spl]
  have:=Zib hi cs c
  have:=Zib hi cs lo
  split <;> simp <;> omega
theorem Zom (cuts:List Bnd) (r:Rng) (hh:vb r.hi=true):∀ (cs:List Bnd) (lo:Bnd) (o:List Rng) (fuel:Nat),Asc cs→(∀ c ∈ cs,c ∈ cuts)→(∀ c ∈ cuts,inC lo r.hi c=true→c ∈ cs)→vb lo=true→lo.lt r.hi=true→cs.length+2≤fuel→o.length+cs.length+2≤1000000 →
   YO cuts r fuel o lo.key lo.top=some (o++spl r.hi cs lo)
 | [],lo,o,fuel,_,_,H,hl,hlt,hf,ho=>by
  obtain ⟨fuel,rfl⟩:∃ f,fuel=f+2:=⟨fuel - 2,by simp at hf; omega⟩
  have he:emp (Rng.mk (Bnd.mk lo.key lo.top) r.hi)=false:=(Zf2 hl hh).2 hlt
  have he2:emp (Rng.mk (Bnd.mk r.hi.key r.hi.top) r.hi)=true:=by
   cases h:emp (Rng.mk (Bnd.mk r.hi.key r.hi.top) r.hi) with
   | true=>rfl
   | false=>have:=(Zf2 hh hh).1 h; rw [lt_irrefl] at this; cases this
  obtain ⟨b,e,h1,-⟩:=Zf3 lo cuts r.hi
  have hb:b=r.hi:=by
   rcases h1 with h1 | ⟨q1,q2,q3,q4⟩
   ·exact h1
   ·exact absurd (H b q1 (ZdB.2 ⟨q2,q3,q4⟩)) (by simp)
  subst hb
  have ea:app o [Rng.mk (Bnd.mk lo.key lo.top) (Bnd.mk r.hi.key r.hi.top)]=some (o++[⟨lo,r.hi⟩]):=ZT (by simp at ho ⊢; omega)
  rw [YO,ZP,he]
  simp only [Zm,Bool.not_false,Zd,Za,Zy,e,ea,spl]
  rw [YO,ZP,he2]
  simp only [Zm,Bool.not_true,Zb,Za,Yl]
 | c::cs,lo,o,fuel,hA,hS,H,hl,hlt,hf,ho=>by
  rw [spl]
  simp only [List.length_cons] at hf ho
  cases hi:inC lo r.hi c with
  | false =>
   rw [if_neg (by simp)]
   refine Zom cuts r hh cs lo o fuel hA.2 (fun d hd=>hS d (List.mem_cons_of_mem _ hd)) (fun d hd h=>?_) hl hlt (by omega) (by omega)
   rcases List.mem_cons.1 (H d hd h) with rfl | h2
   ·rw [hi] at h; cases h
   ·exact h2
  | true =>
   rw [if_pos rfl]
   obtain ⟨p1,p2,p3⟩:=ZdB.1 hi
   obtain ⟨fuel,rfl⟩:∃ f,fuel=f+1:=⟨fuel - 1,by omega⟩
   have he:emp (Rng.mk (Bnd.mk lo.key lo.top) r.hi)=false:=(Zf2 hl hh).2 hlt
   obtain ⟨b,e,h1,h2⟩:=Zf3 lo cuts r.hi
   have hcb:=h2 c (hS c List.mem_cons_self) p1 p2
   have hb:b=c:=by
    rcases h1 with rfl | ⟨q1,q2,q3,q4⟩
    ·rw [p3] at hcb; cases hcb
    ·rcases List.mem_cons.1 (H b q1 (ZdB.2 ⟨q2,q3,q4⟩)) with h | h
     ·exact h
     ·exact Qx q2 p1 (hA.1 b h) hcb
   subst hb
   have ea:app o [Rng.mk (Bnd.mk lo.key lo.top) (Bnd.mk b.key b.top)]=some (o++[⟨lo,b⟩]):=ZT (by simp; omega)
   rw [YO,ZP,he]
   simp only [Zm,Bool.not_false,Zd,Za,Zy,e,ea]
   have key:=Zom cuts r hh cs b (o++[⟨lo,b⟩]) fuel hA.2 (fun d hd=>hS d (List.mem_cons_of_mem _ hd)) (fun d hd h=>?_) p1 p3 (by omega) (by simp; omega)
   ·rw [List.append_assoc] at key; exact key
   ·obtain ⟨g1,g2,g3⟩:=ZdB.1 h
    rcases List.mem_cons.1 (H d hd (ZdB.2 ⟨g1,lt_trans p2 g2,g3⟩)) with rfl | h3
    ·rw [lt_irrefl] at g2; cases g2
    ·exact h3
def Zd3 (cs:List Bnd):List Rng→List Rng
 | []=>[]
 | r::l=>(if emp r=true then [] else spl r.hi cs r.lo)++Zd3 cs l
theorem Zou (cuts cs:List Bnd) (hA:Asc cs) (hp:∀ c,c ∈ cs↔c ∈ cuts) (hc:cs.length≤200):∀ (l o:List Rng),o.length+l.length * (cs.length+1)≤900000→Qu cuts l o=some (o++Zd3 cs l)
 | [],o,_=>by rw [Qu,Zd3,List.append_nil]
 | r::l,o,h=>by
  rw [List.length_cons,Nat.add_mul,Nat.one_mul] at h
  rw [Qu,Zd3]
  cases he:emp r with
  | true =>
   rw [show YO cuts r FU o r.lo.key r.lo.top=some o by
    rw [show FU=4294967295+1 from rfl,YO,ZP,show (Rng.mk (Bnd.mk r.lo.key r.lo.top) r.hi)=r from rfl,he]
    simp only [Zm,Bool.not_true,Zb,Za,Yl]]
   rw [Za,Za,Zou cuts cs hA hp hc l o (by omega),if_pos rfl,List.nil_append]
  | false =>
   obtain ⟨v1,v2,v3⟩:=Zov he
   rw [Zom cuts r v2 cs r.lo o FU hA (fun c=>(hp c).1) (fun c h _=>(hp c).2 h) v1 v3 (by simp only [FU]; omega) (by omega)]
   have:=Zib r.hi cs r.lo
   rw [Za,Za,Zou cuts cs hA hp hc l _ (by rw [List.length_append]; omega),if_neg (by simp),List.append_assoc]
theorem ZpN (cuts cs:List Bnd) (l:List Rng) (hA:Asc cs) (hp:∀ c,c ∈ cs↔c ∈ cuts) (hc:cs.length≤200) (hl:l.length≤200):Zaq l cuts=some (Zd3 cs l):=by
 have:l.length * (cs.length+1)≤200 * 201:=Nat.mul_le_mul hl (by omega)
 rw [Zaq,Zou cuts cs hA hp hc l [] (by simp; omega),Za,List.nil_append]
end Go.Proofs.YtkcmgbbopedacaaGreatDoor
namespace Go.Proofs.YtkcmgbbopedacaaGreatDoor
open Go.RowKit
theorem ZcP:∀ l:List Rng,ZaQ l=sel (l.all vld) (.nxt ()) (.ret 1)
 | []=>rfl
 | r::l=>by
  rw [ZaQ.eq_2,Zm,ZbF,ZcP l,List.all_cons]
  cases vld r <;> rfl
theorem Zco (q:Zg):XH q=Zcv q.Kind q.Ranges q.Key q.Count:=by
 obtain ⟨k,l,key,c⟩:=q
 unfold XH Zcv
 simp only [Zm,ZcP,Zac,ZJ,decide_eq_true_eq,Bool.not_eq_true',decide_eq_false_iff_not]
 by_cases a1:k<1∨4<k
 ·rcases a1 with a1 | a1
  ·simp [a1]
  ·have:¬ k<1:=by omega
   simp [a1,this]
 have b1:¬ k<1:=by omega
 have b2:¬ 4<k:=by omega
 by_cases a2:64<l.length
 ·have:64<(l.length:Int):=by omega
  simp [b1,b2,a2,this]
 have b3:¬ 64<(l.length:Int):=by omega
 cases hv:l.all vld with
 | false=>simp [b1,b2,a2,b3,hv,ZrH]
 | true =>
  simp only [b1,b2,a2,b3,hv,if_true,if_false,ZdP,Bool.false_eq_true,or_self,decide_false]
  have hl:(0<(l.length:Int))↔0<l.length:=by omega
  by_cases h1:vk key=false
  ·simp [h1]
  ·have h1':vk key=true:=by simpa using h1
   by_cases h2:0<l.length <;> by_cases h3:k=1 <;> by_cases h4:key=⟨#[]⟩ <;> by_cases h5:k=3 <;> by_cases h6:k=4 <;> first
    | (exfalso; omega)
    | (simp [h1',h2,h3,h4,h5,h6] <;> (repeat' split) <;> first | rfl | omega | (simp_all; done) | (simp_all; omega))
theorem Zp2 (q:Zg) (h:q.Ranges.length<1000000):YA q=some (Yg q.Kind q.Ranges q.Key q.Count)∧Xk q=some (Yg q.Kind q.Ranges q.Key q.Count):=⟨if_pos h,if_pos h⟩
theorem Zfv (r:Kv):ZaS r=ZhN r:=by
 unfold ZaS
 rw [Zm,QN,Zbv,ZhN]
 congr 1
 simp; omega
theorem ZcM (t:List Kv) (ht:t.length≤1024):∀ (xs:List Kv) (m:Nat),t.drop m=xs→m≤t.length→XB t xs (m:Int)=some (sel ((List.range' m (t.length - m)).all (Zqz t)) (.nxt ()) (.ret false))
 | [],m,h,hm=>by
  have:t.length - m=0:=by have:=congrArg List.length h; simpa using this
  simp [XB,this,Zd]
 | r::xs,m,h,hm=>by
  obtain ⟨h1,h2⟩:=Zca h
  have h3:=(List.getElem?_eq_some_iff.1 h1).1
  have ih:=ZcM t ht xs (m+1) h2 h3
  rw [XB.eq_2,Zm,ZjF _ _ _ h3,Zi2 t m r h1,Zfv,show (m:Int)+1=((m+1:Nat):Int) by omega,ih]
  cases ZhN r with
  | false=>rfl
  | true =>
   cases m with
   | zero=>rfl
   | succ m =>
    have e1:ZH (((m+1:Nat):Int) - 1)=(m:Int):=by rw [ZA (by omega) (by omega)]; omega
    have e2:decide ((0:Int)<((m+1:Nat):Int))=true:=decide_eq_true (by omega)
    have e3:t[m+1 - 1]?=some t[m]:=List.getElem?_eq_getElem (by omega)
    rw [e1,e2,e3,Ya,List.getElem?_eq_getElem (show m<t.length by omega),Za]
    have e4:(m+1 == 0)=false:=rfl
    rw [e4]
    simp only
    cases bl t[m].key r.key <;> rfl
theorem Zhd (t:List Kv):Zcc t=some (Yq t):=by
 unfold Zcc
 rw [ZJ]
 by_cases h:t.length≤1024
 ·rw [if_neg (by simp; omega)]
  have:=ZcM t h t 0 rfl (Nat.zero_le _)
  rw [show ((0:Nat):Int)=0 from rfl] at this
  rw [this,Za,Yq,List.range_eq_range']
  simp only [Nat.sub_zero,h,decide_true,Bool.true_and]
  cases (List.range' 0 t.length).all (Zqz t) <;> rfl
 ·rw [if_pos (by simp; omega)]
  simp [Yq,h]
end Go.Proofs.YtkcmgbbopedacaaGreatDoor
namespace Go.Proofs.YtkcmgbbopedacaaGreatDoor
open Go.RowKit
theorem Zev (a b:Bnd):QI a b=greater a b:=by
 unfold QI greater
 rw [Zm,Zw,ZJ]
 by_cases h:0<cmp b a
 ·rw [if_pos (by simpa using h),if_pos h]
 ·rw [if_neg (by simpa using h),if_neg h]
theorem Zfa (a b:Bnd):Q7 a b=lesser a b:=by
 unfold Q7 lesser
 rw [Zm,Zw,ZJ]
 by_cases h:cmp b a<0
 ·rw [if_pos (by simpa using h),if_pos h]
 ·rw [if_neg (by simpa using h),if_neg h]
theorem Zbt (a b:Rng):XT a b=Yo a b:=by
 unfold XT Yo
 simp only [Zm,Zev,Zfa,Yi]
 cases emp a <;> cases emp b <;> cases emp ⟨greater a.lo b.lo,lesser a.hi b.hi⟩ <;> rfl
theorem ZfV (a b:Bnd):Zbc a b=greater a b:=by
 rw [← ZgR]
 unfold Zbc greatest
 rw [Zm,ZC,ZJ]
 by_cases h:0≤cmp a b
 ·rw [if_pos (by simpa using h),if_pos h]
 ·rw [if_neg (by simpa using h),if_neg h]
theorem ZiA (a b:Bnd):Zc0 a b=lesser a b:=by
 rw [← Zsf]
 unfold Zc0 least
 rw [Zm,ZC,ZJ]
 by_cases h:cmp a b≤0
 ·rw [if_pos (by simpa using h),if_pos h]
 ·rw [if_neg (by simpa using h),if_neg h]
theorem Zha (r:Rng):Zcb r=proper r:=by
 unfold Zcb proper
 rw [Zm,ZP]
 cases emp r <;> rfl
theorem Zfy (a b:Rng):Xx a b=Yo a b:=by
 unfold Xx Yo
 simp only [Zm,ZfV,ZiA,ZP,Zha,proper]
 cases emp a <;> cases emp b <;> cases emp ⟨greater a.lo b.lo,lesser a.hi b.hi⟩ <;> rfl
theorem Zb0 (l:List Rng) (h:l.length≤4294967296):Z8 l=some l:=by
 unfold Z8
 rw [ZT (by simpa using h),Za,List.nil_append]
theorem ZiH (l:List Kv) (h:l.length≤4294967296):Z6 l=some l:=by
 unfold Z6
 rw [ZT (by simpa using h),Za,List.nil_append]
theorem X8 (q:Zg) (h:q.Ranges.length≤4294967296):XK q=some q:=by
 unfold XK
 rw [Zb0 _ h,Za]
theorem ZiG (v:Zt) (h:v.Rows.length≤4294967296):Zc2 v=some v:=by
 unfold Zc2
 rw [ZiH _ h,Za]
theorem ZdN (y l:List Zf) (hl:l.length=y.length) (hy:y.length≤1000000) (hr:∀ v ∈ l,v.View.Rows.length≤4294967296):∀ (k fuel m:Nat),m+k=y.length→k<fuel→XY y fuel l (m:Int)=some l
 | _,0,_,_,h=>absurd h (by omega)
 | 0,fuel+1,m,h1,_=>by
  rw [XY.eq_2,decide_eq_false (by omega),Zb,Za,Yl]
 | k+1,fuel+1,m,h1,h2=>by
  have hm:m<l.length:=by omega
  rw [XY.eq_2,decide_eq_true (by omega),Zd,Za,Zy,Ya,List.getElem?_eq_getElem hm,Za,ZiG _ (hr _ (List.getElem_mem hm)),Za,Za,Zm,Zm,ZA (by omega) (by omega),show (m:Int)+1=((m+1:Nat):Int) by omega]
  have e:l.set (Int.toNat (m:Int)) (Zf.mk l[m].View l[m].Part)=l:=by
   rw [Int.toNat_natCast]; exact List.set_getElem_self hm
  rw [e]
  exact ZdN y l hl hy hr k fuel (m+1) (by omega) (by omega)
theorem Zb3 (l:List Zf) (h:l.length≤1000000) (hr:∀ v ∈ l,v.View.Rows.length≤4294967296):QC l=some l:=by
 unfold QC Xa
 rw [ZT (by simp; omega),Za,List.nil_append,Za,show (0:Int)=((0:Nat):Int) from rfl,ZdN l l rfl h hr l.length FU 0 (by omega) (by unfold FU; omega),Za]
structure okW (w:Zc):Prop where
 q:w.Query.Ranges.length≤1000
 todo:w.Todo.length≤1000
 vis:w.Visits.length≤1000
 rows:∀ v ∈ w.Visits,v.View.Rows.length≤10000
theorem Ze9 (w:Zc) (h:okW w):ZaZ w=some w:=by
 have h1:=h.q
 have h2:=h.todo
 have h3:=h.vis
 unfold ZaZ
 rw [X8 _ (by omega),Za,Zb0 _ (by omega),Za,Zb3 _ (by omega) (fun v hv=>by have:=h.rows v hv; omega),Za]
def inside (o i:Rng):Bool:=!emp o && decide (cmp o.lo i.lo≤0) && decide (cmp i.hi o.hi≤0)
theorem Zd8 (o i:Rng):Zbm o i=inside o i:=by
 unfold Zbm inside
 simp only [Zm,Yi,Zw,Zbv,Bool.and_assoc]
theorem ZgY (a r:Rng):ZbG a r=inside r a:=by
 unfold ZbG inside
 simp only [Zm,ZP,ZC,Zbv]
 cases emp r <;> cases decide (cmp r.lo a.lo≤0) <;> cases decide (cmp a.hi r.hi≤0) <;> rfl
def ZuO (p:Option Rng) (r:Rng):Bool:=match p with | some x=>decide (cmp r.lo x.hi<0) | none=>false
def Zgg (all:List Rng):Option Rng→List Rng→Int
 | _,[]=>0
 | p,r::l=>if emp r=true then 1 else if ZuO p r=true then 8 else if (all.any fun x=>inside x r)=true then Zgg all (some r) l else 2
def W0:Zc:=⟨⟨0,[],⟨#[]⟩,0⟩,[],[]⟩
def qch (q:Zg):Int:=Zcv q.Kind q.Ranges q.Key q.Count
def qrg (q:Zg):List Rng:=Yg q.Kind q.Ranges q.Key q.Count
def Zlu (q:Zg) (l:List Rng):Zc × Int:=if qch q≠0 then (W0,qch q) else if 128<l.length then (W0,3) else if Zgg (qrg q) none l=0 then (⟨q,l,[]⟩,0) else (W0,Zgg (qrg q) none l)
theorem Zdi (r:Rng):∀ (l:List Rng) (b:Bool),X6 r l b=some (b || l.any fun x=>inside x r)
 | [],b=>by simp [X6]
 | x::l,b=>by
  rw [X6.eq_2,Zm,Zd8,Zdi r l,Zdi r l]
  cases b <;> simp [Zd,Zb]
def Zoa (rs:List Rng):Nat→Option Rng
 | 0=>none
 | m+1=>rs[m]?
def stC (e:Int):Ctl (Zc × Int) Unit:=if e=0 then .nxt () else .ret (W0,e)
theorem Ze3 (rs all:List Rng) (hrs:rs.length≤1000):∀ (xs:List Rng) (m:Nat),rs.drop m=xs→m≤rs.length→Za6 rs all xs (m:Int)=some (stC (Zgg all (Zoa rs m) xs))
 | [],m,_,_=>rfl
 | r::xs,m,h,hm=>by
  obtain ⟨h1,h2⟩:=Zca h
  obtain ⟨h3,h4⟩:=List.getElem?_eq_some_iff.1 h1
  have ih:=Ze3 rs all hrs xs (m+1) h2 h3
  rw [Za6.eq_2,Zm,Yi,show (m:Int)+1=((m+1:Nat):Int) by omega,ih,Zgg.eq_2]
  have hp:(sel (decide ((0:Int)<(m:Int))) (Ze (Yx rs (ZH ((m:Int) - 1))) fun e9=>bnd (Zj r.lo e9.hi) fun y10=>some (decide (y10<0))) (some false))=some (ZuO (Zoa rs m) r):=by
   cases m with
   | zero=>rfl
   | succ m =>
    rw [decide_eq_true (by omega),Zd,ZA (by omega) (by omega),show ((m+1:Nat):Int) - 1=(m:Int) by omega,Ya,List.getElem?_eq_getElem (by omega),Za,Zm,Zw]
    simp only [Zoa,ZuO]
    rw [List.getElem?_eq_getElem (by omega)]
  cases emp r with
  | true=>rfl
  | false =>
   simp only [Bool.false_eq_true,if_false]
   rw [Zb,hp,Za]
   generalize (ZuO (Zoa rs m) r)=b
   cases b with
   | true=>rfl
   | false =>
    simp only [Bool.false_eq_true,if_false]
    rw [Zb,Zdi,Za,Bool.false_or]
    have e:Zoa rs (m+1)=some r:=h1
    rw [e]
    cases (all.any fun x=>inside x r) <;> rfl
theorem Ze6 (q:Zg) (l:List Rng) (hq:q.Ranges.length<1000000):Zal q l=some (Zlu q l):=by
 have e1:Y3 q=some (qch q):=if_pos hq
 have e2:YA q=some (qrg q):=if_pos hq
 unfold Zal Zlu
 rw [e1,Za,e2,Za]
 by_cases h1:qch q=0
 ·rw [decide_eq_true h1,Bool.not_true,Zb,if_neg (by simpa using h1)]
  by_cases h2:128<l.length
  ·rw [decide_eq_true (by omega),Zd,if_pos h2]; rfl
  ·have hl:l.length≤128:=by omega
   have:=Ze3 l (qrg q) (by omega) l 0 rfl (Nat.zero_le _)
   rw [show ((0:Nat):Int)=0 from rfl] at this
   rw [decide_eq_false (by omega),Zb,if_neg h2,this,Za]
   show Yv (stC (Zgg (qrg q) none l)) _=_
   unfold stC
   by_cases h3:Zgg (qrg q) none l=0
   ·rw [if_pos h3,if_pos h3,Zy,X8 _ (by omega),Za,Zb0 _ (by omega),Za]
   ·rw [if_neg h3,if_neg h3,Yl]
 ·rw [decide_eq_false h1,Bool.not_false,Zd,if_pos h1]; rfl
theorem Zhe (r:Rng):ZN r r=true:=by
 unfold ZN
 simp only [Zm,ZC,ZlB]; rfl
end Go.Proofs.YtkcmgbbopedacaaGreatDoor
-- LEFT eq_ref28_Start ref28_Start_l1 ref28_Start_l2
namespace Go.Proofs.YtkcmgbbopedacaaGreatDoor
open Go.RowKit
def enough (q:Zg) (n:Int):Bool:=(decide (q.Kind=3) || decide (q.Kind=4)) && decide (q.Count≤n)
theorem ZdO (q:Zg) (n:Int):ZaF q n=enough q n:=by
 unfold ZaF Zct enough
 rw [Zm]
 cases decide (q.Kind=3) <;> cases decide (q.Kind=4) <;> cases decide (q.Count≤n) <;> rfl
theorem ZdL (q:Zg) (n:Int):ZaL q n=enough q n:=by
 unfold ZaL enough
 cases decide (q.Kind=3) <;> cases decide (q.Kind=4) <;> cases decide (q.Count≤n) <;> rfl
def YH (l:List Zf):List Kv:=l.flatMap fun v=>v.View.Rows
theorem Zjq:∀ {l:List Zf},(∀ v ∈ l,v.View.Rows.length≤10000)→(YH l).length≤l.length * 10000
 | [],_=>by simp [YH]
 | v::l,h=>by
  have h1:=h v List.mem_cons_self
  have h2:=Zjq (l:=l) fun x hx=>h x (List.mem_cons_of_mem _ hx)
  unfold YH at h2 ⊢
  rw [List.flatMap_cons,List.length_append,List.length_cons]
  omega
theorem ZfM:∀ (l:List Zf) (out:List Kv),out.length+(YH l).length≤4294967296→ZaG l out=some (out++YH l)
 | [],out,_=>by rw [ZaG.eq_1]; simp [YH]
 | v::l,out,h=>by
  unfold YH at h ⊢
  rw [List.flatMap_cons,List.length_append] at h
  have ih:=ZfM l (out++v.View.Rows) (by unfold YH; rw [List.length_append]; omega)
  unfold YH at ih
  rw [ZaG.eq_2,ZT (by omega),Za,ih,List.flatMap_cons,List.append_assoc]
theorem Ze7:∀ (l:List Zf) (out:List Kv),out.length+(YH l).length≤4294967296→QS l out=some (out++YH l)
 | [],out,_=>by rw [QS.eq_1]; simp [YH]
 | v::l,out,h=>by
  unfold YH at h ⊢
  rw [List.flatMap_cons,List.length_append] at h
  have ih:=Ze7 l (out++v.View.Rows) (by unfold YH; rw [List.length_append]; omega)
  unfold YH at ih
  rw [QS.eq_2,ZT (by omega),Za,ih,List.flatMap_cons,List.append_assoc]
theorem okW.rlen {w:Zc} (h:okW w):(YH w.Visits).length≤10000000:=by
 have h1:=Zjq h.rows
 have h2:=h.vis
 omega
theorem ZdF {w:Zc} (h:okW w):ZcD w=some (YH w.Visits):=by
 have:=h.rlen
 unfold ZcD
 rw [ZfM _ _ (by simp; omega),Za,List.nil_append]
theorem Zde {w:Zc} (h:okW w):Ql w.Visits=some (YH w.Visits):=by
 have:=h.rlen
 unfold Ql
 rw [Ze7 _ _ (by simp; omega),Za,List.nil_append]
def Yy (w:Zc):Bool:=w.Todo.isEmpty || enough w.Query ((YH w.Visits).length:Int)
theorem ZyT {α:Type} (l:List α):decide ((l.length:Int)=0)=l.isEmpty:=by
 cases l with
 | nil=>rfl
 | cons a l=>exact decide_eq_false (by simp; omega)
theorem ZfQ {w:Zc} (h:okW w):ZcE w=some (Yy w):=by
 unfold ZcE Yy
 rw [ZdF h,ZyT,Za,Zm,ZdO]
 cases w.Todo.isEmpty <;> rfl
theorem Ze4 {w:Zc} (h:okW w):ZbW w=some (Yy w):=by
 unfold ZbW Yy
 rw [Zde h,ZyT,Za,Zm,ZdL]
 cases w.Todo.isEmpty <;> rfl
def Xb (q:Zg):Bool:=decide (q.Kind=4)
def Zcm (d:Bool) (l:List Rng):Rng:=if d=true then l.getLast?.getD zr else l.head?.getD zr
def XL (w:Zc):Rng × Bool:=if Yy w=true then (zr,false) else (Zcm (Xb w.Query) w.Todo,true)
theorem ZcG (x:Rng) (t:List Rng):Yx (x::t) 0=some x:=by
 have:=Ya (x::t) 0
 rw [show ((0:Nat):Int)=0 from rfl] at this
 rw [this]; rfl
theorem Zrs {i:List Rng} {x:Rng} (h:(i++[x]).length≤100000):ZH (((i++[x]).length:Int) - 1)=(i.length:Int):=by
 rw [List.length_append,List.length_singleton] at h ⊢
 rw [ZA (by omega) (by omega)]; omega
theorem Ze0 (i:List Rng) (x:Rng):Yx (i++[x]) (i.length:Int)=some x:=by rw [Ya]; simp
theorem Zei {l:List Rng} (h:l.isEmpty=false):∃ i x,l=i++[x]:=by
 rcases List.eq_nil_or_concat l with rfl | ⟨i,x,h1⟩
 ·cases h
 ·exact ⟨i,x,by simpa using h1⟩
theorem Zek {l:List Rng} (h:l.isEmpty=false):∃ x t,l=x::t:=by
 cases l with
 | nil=>cases h
 | cons x t=>exact ⟨x,t,rfl⟩
theorem ZcV {w:Zc} (h:Yy w=false):w.Todo.isEmpty=false:=by
 unfold Yy at h
 cases hh:w.Todo.isEmpty with
 | false=>rfl
 | true=>rw [hh] at h; cases h
theorem ZjM {w:Zc} (h:okW w):Zd0 w=some (XL w):=by
 unfold Zd0 XL
 rw [ZfQ h,Za]
 cases hd:Yy w with
 | true=>rfl
 | false =>
  have ht:=ZcV hd
  have hl:=h.todo
  have e:Qk w.Query=Xb w.Query:=rfl
  rw [Zb,Zm,e,if_neg (by simp)]
  unfold Zcm
  cases Xb w.Query with
  | true =>
   obtain ⟨i,x,e2⟩:=Zei ht
   rw [e2] at hl ⊢
   rw [Zd,Zrs (by omega),Ze0,Za,if_pos rfl,List.getLast?_concat]; rfl
  | false =>
   obtain ⟨x,t,e2⟩:=Zek ht
   rw [e2,Zb,ZcG,Za,if_neg (by simp)]; rfl
theorem Ziz {w:Zc} (h:okW w):Zc5 w=some (XL w):=by
 unfold Zc5 XL
 rw [Ze4 h,Za]
 cases hd:Yy w with
 | true=>rfl
 | false =>
  have ht:=ZcV hd
  have hl:=h.todo
  have e:Qm w.Query=Xb w.Query:=rfl
  rw [Zb,Zm,e,if_neg (by simp)]
  unfold Zcm
  cases Xb w.Query with
  | true =>
   obtain ⟨i,x,e2⟩:=Zei ht
   rw [e2] at hl ⊢
   rw [Zd,Zrs (by omega),Ze0,Za,if_pos rfl,List.getLast?_concat]; rfl
  | false =>
   obtain ⟨x,t,e2⟩:=Zek ht
   rw [e2,Zb,ZcG,Za,if_neg (by simp)]; rfl
def ZnJ (s:YS):Bool:=decide (0≤s.Epoch) && decide (s.Epoch≤1099511627776) && decide (0≤s.Version) && decide (s.Version≤1099511627776)
def Zff (n:Int):Bool:=decide (1≤n) && decide (n≤2147483647)
def XU (v:Zt):Bool:=Zff v.Owner && !emp v.Interval && ZnJ v.Stamp && Yq v.Rows && v.Rows.all fun x=>contains v.Interval x.key
theorem Zhb (s:YS):Zch s=ZnJ s:=by
 unfold Zch ZnJ
 simp only [Zbv,Bool.and_assoc]
theorem Zcp (s:YS):Qn s=ZnJ s:=by
 unfold Qn ZnJ
 simp only [Zbv,Bool.and_assoc]
theorem ZbZ (n:Int):Y1 n=Zff n:=by
 unfold Y1 Zff
 rw [Zbv]
theorem ZaT (r:Rng) (t:List Kv):Xj t r=t.all fun x=>contains r x.key:=by
 unfold Xj
 have:∀ t:List Kv,Q4 r t=sel (t.all fun x=>contains r x.key) (.nxt ()) (.ret false):=by
  intro t
  induction t with
  | nil=>rfl
  | cons x t ih =>
   rw [Q4.eq_2,Zm,Q8,ih,List.all_cons]
   cases contains r x.key <;> rfl
 rw [this,Zm]
 cases (t.all fun x=>contains r x.key) <;> rfl
theorem ZoJ (r:Rng) (t:List Kv):decide (((t.filter fun x=>contains r x.key).length:Int)=(t.length:Int))=t.all fun x=>contains r x.key:=by
 cases h:t.all fun x=>contains r x.key with
 | true =>
  have:t.filter (fun x=>contains r x.key)=t:=List.filter_eq_self.2 fun x hx=>List.all_eq_true.1 h x hx
  rw [this]; exact decide_eq_true rfl
 | false =>
  refine decide_eq_false fun he=>?_
  have he:(t.filter fun x=>contains r x.key).length=t.length:=by omega
  have:t.all (fun x=>contains r x.key)=true:=List.all_eq_true.2 fun x hx=>by
   have:=List.length_filter_eq_length_iff.1 he x hx
   exact this
  rw [h] at this; cases this
theorem ZcQ (v:Zt) (h:v.Rows.length≤10000):Qt v=some (XU v):=by
 unfold Qt XU Zff
 rw [Zm,Zm,Yi,Zhb,Zhd,Za,Zba _ _ (by omega),Za,ZoJ]
 cases decide (1≤v.Owner) <;> cases decide (v.Owner≤2147483647) <;> cases emp v.Interval <;> cases ZnJ v.Stamp <;> cases Yq v.Rows <;> rfl
theorem Zcl (v:Zt):XW v=some (XU v):=by
 unfold XW XU
 rw [Zm,Zm,Zm,Zm,ZbZ,ZP,Zcp,QT,Za,ZaT]
 cases Zff v.Owner <;> cases emp v.Interval <;> cases ZnJ v.Stamp <;> cases Yq v.Rows <;> rfl
def ZbO (v:Zt) (part:Rng):Zf:=⟨⟨v.Owner,v.Interval,v.Stamp,v.Rows.filter fun x=>contains part x.key⟩,part⟩
def ZmN (r:Rng):List Rng:=if emp r=true then [] else [r]
def ZbN (d:Bool) (want i:Rng):Bool:=if d=true then decide (cmp i.hi want.hi<0) || decide (0≤cmp i.lo want.hi) else decide (0<cmp i.lo want.lo) || decide (cmp i.hi want.lo≤0)
def stepW (w:Zc) (v:Zt) (want part:Rng):Zc :=
 if Xb w.Query=true then ⟨w.Query,w.Todo.dropLast++ZmN ⟨want.lo,part.lo⟩,ZbO v part::w.Visits⟩
 else ⟨w.Query,ZmN ⟨part.hi,want.hi⟩++w.Todo.tail,w.Visits++[ZbO v part]⟩
def Xr (w:Zc) (v:Zt):Zc × Int :=
 if (XL w).2=false then (W0,7) else if XU v=false then (W0,1) else if ZbN (Xb w.Query) (XL w).1 v.Interval=true then (W0,12) else (stepW w v (XL w).1 (Yo v.Interval (XL w).1),0)
theorem Zfi {w:Zc} (h:(XL w).2=true):Yy w=false:=by
 unfold XL at h
 cases hd:Yy w with
 | false=>rfl
 | true=>rw [hd,if_pos rfl] at h; cases h
theorem Zls {w:Zc} (h:(XL w).2=true):(XL w).1=Zcm (Xb w.Query) w.Todo:=by
 have:=Zfi h
 unfold XL
 rw [this]; rfl
theorem ZiC {w:Zc} (h:okW w) (v:Zt) (hv:v.Rows.length≤10000):ZcZ w v=some (Xr w v):=by
 unfold ZcZ Xr
 rw [Ziz h,Za]
 cases hw:(XL w).2 with
 | false=>rfl
 | true =>
  rw [Bool.not_true,Zb,if_neg (by simp),Zcl,Za]
  cases hvv:XU v with
  | false=>rfl
  | true =>
   have ed:Qm w.Query=Xb w.Query:=rfl
   rw [Bool.not_true,Zb,if_neg (by simp),Zm,ed]
   have hm:∀ want:Rng,(sel (!Xb w.Query) (
      bnd (Zn v.Interval.lo want.lo) fun y6 =>
      sel (decide (0<y6)) (
       some true) (
       bnd (Zn v.Interval.hi want.lo) fun y7 =>
       sel (decide (y7≤0)) (
        some true) (
        sel (Xb w.Query) (
         bnd (Zn v.Interval.hi want.hi) fun y8 =>
         sel (decide (y8<0)) (
          some true) (
          bnd (Zn v.Interval.lo want.hi) fun y9 =>
          some (decide (0≤y9)))) (
         some false)))) (
      sel (Xb w.Query) (
       bnd (Zn v.Interval.hi want.hi) fun y10 =>
       sel (decide (y10<0)) (
        some true) (
        bnd (Zn v.Interval.lo want.hi) fun y11 =>
        some (decide (0≤y11)))) (
       some false)):Option Bool)=some (ZbN (Xb w.Query) want v.Interval):=by
    intro want
    unfold ZbN
    simp only [Zm,ZC]
    cases Xb w.Query with
    | true =>
     rw [Bool.not_true,Zb,Zd,if_pos rfl]
     cases decide (cmp v.Interval.hi want.hi<0) <;> rfl
    | false =>
     rw [Bool.not_false,Zd,if_neg (by simp)]
     cases decide (0<cmp v.Interval.lo want.lo) <;> cases decide (cmp v.Interval.hi want.lo≤0) <;> rfl
   rw [hm,Za]
   cases hms:ZbN (Xb w.Query) (XL w).1 v.Interval with
   | true=>rfl
   | false =>
    rw [Zb,if_neg (by simp),Zm,Zfy,Zcs _ _ (by omega),Za]
    have ht:=ZcV (Zfi hw)
    have hl:=h.todo
    have hvis:=h.vis
    have e1:=Zls hw
    generalize Yo v.Interval (XL w).1=part
    unfold stepW ZbO ZmN
    cases hd:Xb w.Query with
    | true =>
     obtain ⟨i,x,e2⟩:=Zei ht
     have ew:(XL w).1=x:=by rw [e1,hd,Zcm,if_pos rfl,e2,List.getLast?_concat]; rfl
     have hl2:i.length≤999:=by rw [e2] at hl; simp at hl; omega
     rw [ew,e2]
     rw [Zd,if_pos rfl,ZT (by simp; omega),Za,Zrs (by simp; omega),Zd5 (by simp; omega),Za]
     rw [List.dropLast_concat]
     have e3:((i++[x]).drop (0:Int).toNat).take ((i.length:Int).toNat - (0:Int).toNat)=i:=by simp
     rw [e3,ZT (by simp; omega),Za,List.nil_append,Zm,ZP]
     cases emp ⟨x.lo,part.lo⟩ with
     | true=>simp [Zb]
     | false =>
      rw [Bool.not_false,Zd,ZT (by simp; omega),Za]
      simp
    | false =>
     obtain ⟨x,t,e2⟩:=Zek ht
     have ew:(XL w).1=x:=by rw [e1,hd,Zcm,if_neg (by simp),e2]; rfl
     have hl2:t.length≤1000:=by rw [e2] at hl; simp at hl; omega
     rw [ew,e2]
     rw [Zb,if_neg (by simp),ZT (by simp; omega),Za,List.nil_append,ZT (by simp; omega),Za,Zm,ZP]
     have e3:lsl (x::t) 1 ((x::t).length:Int)=some t:=by
      rw [Zd5 (by simp; omega)]; simp
     cases emp ⟨part.hi,x.hi⟩ with
     | true =>
      rw [Bool.not_true,Zb,Za,e3,Za,ZT (by simp; omega),Za]
      simp
     | false =>
      rw [Bool.not_false,Zd,ZT (by simp),Za,Za,e3,Za,ZT (by simp; omega),Za]
      simp
theorem ZfL {w:Zc} (h:okW w) (v:Zt) (hv:v.Rows.length≤10000):ZcJ w v=some (Xr w v):=by
 unfold ZcJ Xr
 rw [ZjM h,Za]
 cases hw:(XL w).2 with
 | false=>rfl
 | true =>
  rw [Bool.not_true,Zb,if_neg (by simp),ZcQ v hv,Za]
  cases hvv:XU v with
  | false=>rfl
  | true =>
   have ed:Qk w.Query=Xb w.Query:=rfl
   rw [Bool.not_true,Zb,if_neg (by simp),Zm,ed]
   have ht:=ZcV (Zfi hw)
   have hl:=h.todo
   have hvis:=h.vis
   have e1:=Zls hw
   rw [Ze9 w h]
   cases hd:Xb w.Query with
   | true =>
    obtain ⟨i,x,e2⟩:=Zei ht
    have ew:(XL w).1=x:=by rw [e1,hd,Zcm,if_pos rfl,e2,List.getLast?_concat]; rfl
    rw [ew]
    simp only [Bool.not_true,Zd,Zb,Za,Zm,Zw]
    have hm:(sel (decide (cmp v.Interval.hi x.hi<0)) (some true) (some (decide (0≤cmp v.Interval.lo x.hi))))=some (ZbN true x v.Interval):=by
     unfold ZbN
     rw [if_pos rfl]
     cases decide (cmp v.Interval.hi x.hi<0) <;> rfl
    rw [hm,Za]
    cases ZbN true x v.Interval with
    | true=>rfl
    | false =>
     simp only [Zb,Bool.false_eq_true,if_false,Zbt]
     generalize Yo v.Interval x=part
     rw [Zba _ _ (by omega),Za]
     unfold stepW ZbO ZmN
     rw [hd,if_pos rfl]
     rw [e2] at hl
     rw [ZT (by simp; omega),Za,e2,Zrs (by omega),Ze0,Za,Int.toNat_natCast]
     have e4:∀ y:Rng,(i++[x]).set i.length y=i++[y]:=fun y=>by simp
     rw [e4,Za]
     simp only
     rw [Ze0,Za,Yi,List.dropLast_concat]
     cases emp ⟨x.lo,part.lo⟩ with
     | false=>rfl
     | true =>
      have e5:∀ y:Rng,lsl (i++[y]) 0 (i.length:Int)=some i:=fun y=>by rw [Zd5 (by simp; omega)]; simp
      have hl2:i.length≤1000:=by simp at hl; omega
      have e6:∀ y:Rng,lsl (i++[y]) (ZH ((i.length:Int)+1)) ((i++[y]).length:Int)=some []:=fun y=>by
       rw [ZA (by omega) (by omega),Zd5 (by simp; omega)]; simp
      rw [Zd,e5,Za,e6,Za,apd,if_pos (by simp),Za]
      simp
   | false =>
    obtain ⟨x,t,e2⟩:=Zek ht
    have ew:(XL w).1=x:=by rw [e1,hd,Zcm,if_neg (by simp),e2]; rfl
    rw [ew]
    simp only [Bool.not_false,Zd,Zb,Za,Zm,Zw]
    have hm:(sel (decide (0<cmp v.Interval.lo x.lo)) (some true) (sel (decide (cmp v.Interval.hi x.lo≤0)) (some true) (some false)))=some (ZbN false x v.Interval):=by
     unfold ZbN
     rw [if_neg (by simp)]
     cases decide (0<cmp v.Interval.lo x.lo) <;> cases decide (cmp v.Interval.hi x.lo≤0) <;> rfl
    rw [hm,Za]
    cases ZbN false x v.Interval with
    | true=>rfl
    | false =>
     simp only [Zb,Bool.false_eq_true,if_false,Zbt]
     generalize Yo v.Interval x=part
     rw [Zba _ _ (by omega),Za]
     unfold stepW ZbO ZmN
     rw [hd,if_neg (by simp)]
     rw [e2] at hl
     rw [ZT (by simp; omega),Za,e2,ZcG,Za]
     have e4:∀ y:Rng,(x::t).set (Int.toNat 0) y=y::t:=fun y=>rfl
     rw [e4,Za]
     simp only
     rw [ZcG,Za,Yi,List.tail_cons]
     cases emp ⟨part.hi,x.hi⟩ with
     | false=>rfl
     | true =>
      have e5:∀ y:Rng,lsl (y::t) 0 0=some []:=fun y=>by rw [Zd5 (by simp; omega)]; simp
      have hl2:t.length≤1000:=by simp at hl; omega
      have e6:∀ y:Rng,lsl (y::t) (ZH (0+1)) ((y::t).length:Int)=some t:=fun y=>by
       rw [ZA (by omega) (by omega),Zd5 (by simp; omega)]; simp
      rw [Zd,e5,Za,e6,Za,apd,if_pos (by simp),Za]
      simp
end Go.Proofs.YtkcmgbbopedacaaGreatDoor
