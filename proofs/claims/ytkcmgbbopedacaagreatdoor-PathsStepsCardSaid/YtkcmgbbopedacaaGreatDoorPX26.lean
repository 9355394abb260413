/-
  Lemmas: Plain laws of the models
-/
import Derived.Test.YtkcmgbbopedacaaGreatDoorPX22
import Derived.Test.YtkcmgbbopedacaaGreatDoorPX24
import Derived.Test.YtkcmgbbopedacaaGreatDoorPX25
set_option linter.unusedSimpArgs false
set_option linter.unusedVariables false
namespace Go.Proofs.YtkcmgbbopedacaaGreatDoor
open Go.RowKit
theorem Znh (out:List Bnd) (hout:out.length≤1000) (y:Bnd × Zy):∀ (fuel:Nat) (l:List Int) (a:Int) (k:Nat),okT ⟨l,a⟩→k≤out.length→k<fuel→Tot (Qp out y fuel l a (k:Int)) fun z=>okT ⟨z.1,z.2.1⟩∧0≤z.2.2∧z.2.2≤out.length
 | 0,_,_,_,_,_,h=>absurd h (by omega)
 | fuel+1,l,a,k,h,hk,hf=>by
  rw [Qp.eq_2]
  have stay:okT ⟨l,a⟩∧0≤(k:Int)∧(k:Int)≤out.length:=⟨h,by omega,by omega⟩
  refine ZG (fun h1=>?_) fun _=>ZA stay
  have h1:0<(k:Int):=of_decide_eq_true h1
  rw [Zg6]
  refine Zt (Zfa (Q:=fun _=>True) (by omega) (by omega) fun _=>trivial) fun e _=>QW (ZG (fun _=>Zt (Zcg h (by omega)) fun z hz=>ZG (fun _=>?_) fun _=>ZA ⟨hz,by simp only; omega,by simp only; omega⟩) fun _=>ZA stay)
  rw [show (k:Int) - 1=((k - 1:Nat):Int) by omega]
  exact Znh out hout y fuel _ _ (k - 1) hz (by omega) (by omega)
theorem Znw:∀ (fuel:Nat) (l:List Int) (a:Int) (out:List Bnd) (i:Int),okT ⟨l,a⟩→i.toNat<fuel→i≤100→(out.length:Int)+max i 0≤900→Tot (Qn fuel l a out i) fun z=>okT ⟨z.2.1,z.2.2⟩∧(z.1.length:Int)≤out.length+max i 0
 | 0,_,_,_,_,_,h,_,_=>absurd h (by omega)
 | fuel+1,l,a,out,i,h,hf,hi,ho=>by
  rw [Qn.eq_2]
  refine Zce (R:=fun _=>0<i) (ZG (fun h1=>ZA (show 0<i from of_decide_eq_true h1)) fun _=>ZA ⟨h,by simp only; omega⟩) fun _ h1=>?_
  refine Zt (R:=fun z=>okT ⟨z.1,z.2.1⟩∧z.2.2.length≤out.length+1) ?_ ?_
  ·refine Zt (ZnY h) fun y hy=>Zt (Znh out (by omega) y FU y.2.l y.2.at_ out.length hy.1 (Nat.le_refl _) (by unfold FU; omega)) ?_
   rintro ⟨l1,a1,k1⟩ ⟨g1,g2,g3⟩
   simp only at g1 g2 g3 ⊢
   refine Zt (R:=fun z=>okT ⟨z.1,z.2.1⟩) ?_ ?_
   ·have tl:∀ (τ:Zy),okT τ→∀ b:Bool,Tot (sel b (Zc (Zw τ 20) fun y22=>some (y22.2.l,y22.2.at_,!y22.1)) (some (τ.l,τ.at_,false))) fun z=>okT ⟨z.1,z.2.1⟩:=fun τ hτ b=>ZG (fun _=>Zt (Zcg hτ (by omega)) fun z hz=>ZA hz) fun _=>ZA hτ
    refine ZG (fun h2=>?_) fun _=>QW (tl ⟨l1,a1⟩ g1 _)
    have h2:0<k1:=of_decide_eq_true h2
    rw [Zg6]
    refine Zt (Zfa (Q:=fun _=>True) (by omega) (by omega) fun _=>trivial) fun e _=>QW (ZG (fun _=>?_) fun _=>QW (tl ⟨l1,a1⟩ g1 _))
    exact Zt (Zcg g1 (by omega)) fun z hz=>ZG (fun _=>ZA hz) fun _=>QW (tl z.2 hz _)
   ·rintro ⟨l2,a2,b2⟩ g4
    simp only at g4 ⊢
    refine Zce (R:=fun _=>True) (ZG (fun _=>ZA ⟨g4,by simp only; omega⟩) fun _=>ZA trivial) fun _ _=>?_
    refine Zt (ZnA (Q:=fun l=>(l.length:Int)=k1) (by omega) (by simp; omega)) fun l30 e30=>?_
    refine Zt (Zja (Q:=fun l=>(l.length:Int)=k1) (by simp; omega) (by simp; omega)) fun l31 e31=>?_
    refine Zt (Zja (Q:=fun l=>(l.length:Int)=k1+1) (by simp; omega) (by simp; omega)) fun l32 e32=>?_
    refine Zt (ZnA (Q:=fun l=>(l.length:Int)=out.length - k1) (by omega) (by simp; omega)) fun l33 e33=>?_
    refine Zt (Zja (Q:=fun l=>(l.length:Int)=out.length+1) (by omega) (by simp; omega)) fun l34 e34=>?_
    exact ZA ⟨g4,by simp only; omega⟩
  ·rintro ⟨l2,a2,o2⟩ ⟨g1,g2⟩
   simp only at g1 g2 ⊢
   rw [Zg6]
   exact ZkI (Znw fuel l2 a2 o2 (i - 1) g1 (by omega) (by omega) (by omega)) fun z hz=>⟨hz.1,by have:=hz.2; omega⟩
theorem ZkN {τ:Zy} (h:okT τ) {n:Int} (h0:0≤n) (hn:n≤50):Tot (QD τ n) fun y=>okT y.2∧(y.1.length:Int)≤n:=by
 unfold QD
 rw [Zg6]
 refine Zt (Zad h (by omega)) fun y hy=>?_
 obtain ⟨h1,h2⟩:=hy
 unfold Cho at h2
 refine Zt (Znw FU y.2.l y.2.at_ [] y.1 h1 (by unfold FU; omega) (by omega) (by simp; omega)) ?_
 rintro ⟨o,l,a⟩ ⟨g1,g2⟩
 simp only [List.length_nil] at g1 g2
 exact ZA ⟨g1,by simp only; omega⟩
end Go.Proofs.YtkcmgbbopedacaaGreatDoor
namespace Go.Proofs.YtkcmgbbopedacaaGreatDoor
open Go.RowKit
attribute [local irreducible] Tot sel bnd Zc YB app Yn lsl
def inC (lo hi c:Bnd):Bool:=vb c && decide (0<cmp c lo) && decide (cmp c hi<0)
def spl (hi:Bnd):List Bnd→Bnd→List Rng
 | [],lo=>[⟨lo,hi⟩]
 | c::cs,lo=>if inC lo hi c=true then ⟨lo,c⟩::spl hi cs c else spl hi cs lo
theorem ZcJ {lo hi c:Bnd}:inC lo hi c=true↔vb c=true∧lo.lt c=true∧c.lt hi=true:=by
 unfold inC
 simp only [Bool.and_eq_true,decide_eq_true_eq,Za4,Zbh,and_assoc]
theorem Ze8 (lo:Bnd):∀ (cs:List Bnd) (x:Bnd),∃ b:Bnd,YF lo.key lo.top cs x.key x.top=some (b.key,b.top)∧(b=x∨(b ∈ cs∧vb b=true∧lo.lt b=true∧b.lt x=true))∧(∀ c ∈ cs,vb c=true→lo.lt c=true→c.lt b=false)
 | [],x=>⟨x,rfl,.inl rfl,fun c h=>by cases h⟩
 | c::cs,x=>by
  rw [YF,XP,ZP,ZP]
  simp only [Zr]
  have keep:(vb c=true→lo.lt c=true→c.lt x=false)→∃ b:Bnd,YF lo.key lo.top cs x.key x.top=some (b.key,b.top)∧(b=x∨(b ∈ c::cs∧vb b=true∧lo.lt b=true∧b.lt x=true))∧(∀ d ∈ c::cs,vb d=true→lo.lt d=true→d.lt b=false):=fun hc=>by
   obtain ⟨b,e,h1,h2⟩:=Ze8 lo cs x
   refine ⟨b,e,h1.imp id fun h=>⟨List.mem_cons_of_mem _ h.1,h.2⟩,fun d hd g1 g2=>?_⟩
   rcases List.mem_cons.1 hd with rfl | hd
   ·rcases h1 with rfl | ⟨-,-,-,h1⟩
    ·exact hc g1 g2
    ·cases hdb:d.lt b with
     | false=>rfl
     | true=>have:=hc g1 g2; rw [lt_trans hdb h1] at this; cases this
   ·exact h2 d hd g1 g2
  have e0:(⟨lo.key,lo.top⟩:Bnd)=lo:=rfl
  have e1:(⟨x.key,x.top⟩:Bnd)=x:=rfl
  rw [e0,e1]
  cases hv:vb c with
  | false=>rw [Zb]; exact keep fun h=>by rw [hv] at h; cases h
  | true =>
   rw [Zl]
   by_cases h1:0<cmp c lo
   ·rw [decide_eq_true h1,Zl]
    by_cases h2:cmp c x<0
    ·rw [decide_eq_true h2,Zl]
     obtain ⟨b,e,g1,g2⟩:=Ze8 lo cs c
     refine ⟨b,e,.inr ?_,fun d hd p1 p2=>?_⟩
     ·rcases g1 with rfl | ⟨q1,q2,q3,q4⟩
      ·exact ⟨List.mem_cons_self,hv,(Za4 _ _).1 h1,(Zbh _ _).1 h2⟩
      ·exact ⟨List.mem_cons_of_mem _ q1,q2,q3,lt_trans q4 ((Zbh _ _).1 h2)⟩
     ·rcases List.mem_cons.1 hd with rfl | hd
      ·rcases g1 with rfl | ⟨-,-,-,q4⟩
       ·exact lt_irrefl _
       ·exact Y5 q4
      ·exact g2 d hd p1 p2
    ·rw [decide_eq_false h2,Zb]
     exact keep fun _ _=>by
      cases hcx:c.lt x with
      | false=>rfl
      | true=>exact absurd ((Zbh _ _).2 hcx) h2
   ·rw [decide_eq_false h1,Zb]
    exact keep fun _ hl=>absurd ((Za4 _ _).2 hl) h1
def Asc:List Bnd→Prop
 | []=>True
 | c::cs=>(∀ d ∈ cs,d.lt c=false)∧Asc cs
theorem Zfc {lo hi:Bnd} (h1:vb lo=true) (h2:vb hi=true):emp ⟨lo,hi⟩=false↔lo.lt hi=true:=by
 unfold emp vld
 rw [h1,h2]
 rcases Zng lo hi with h | h | h <;> rw [h]
 ·simp; exact (Zbh _ _).1 (by omega)
 ·simp; exact ((Zru _ _).1 h).1
 ·simp; exact Y5 ((Za4 _ _).1 (by omega))
theorem ZmF {r:Rng} (h:emp r=false):vb r.lo=true∧vb r.hi=true∧r.lo.lt r.hi=true:=by
 have h0:=h
 unfold emp vld at h
 simp only [Bool.or_eq_false_iff,Bool.not_eq_false',Bool.and_eq_true] at h
 have h1:vb r.lo=true∧vb r.hi=true:=by grind
 exact ⟨h1.1,h1.2,(Zfc h1.1 h1.2).1 h0⟩
theorem ZgY (hi:Bnd):∀ (cs:List Bnd) (lo:Bnd),(spl hi cs lo).length≤cs.length+1
 | [],_=>by simp [spl]
 | c::cs,lo=>by
  rw [spl]
  have:=ZgY hi cs c
  have:=ZgY hi cs lo
  split <;> simp <;> omega
theorem ZmL (cuts:List Bnd) (r:Rng) (hh:vb r.hi=true):∀ (cs:List Bnd) (lo:Bnd) (o:List Rng) (fuel:Nat),Asc cs→(∀ c ∈ cs,c ∈ cuts)→(∀ c ∈ cuts,inC lo r.hi c=true→c ∈ cs)→vb lo=true→lo.lt r.hi=true→cs.length+2≤fuel→o.length+cs.length+2≤1000000 →
   YE cuts r fuel o lo.key lo.top=some (o++spl r.hi cs lo)
 | [],lo,o,fuel,_,_,H,hl,hlt,hf,ho=>by
  obtain ⟨fuel,rfl⟩:∃ f,fuel=f+2:=⟨fuel - 2,by simp at hf; omega⟩
  have he:emp (Rng.mk (Bnd.mk lo.key lo.top) r.hi)=false:=(Zfc hl hh).2 hlt
  have he2:emp (Rng.mk (Bnd.mk r.hi.key r.hi.top) r.hi)=true:=by
   cases h:emp (Rng.mk (Bnd.mk r.hi.key r.hi.top) r.hi) with
   | true=>rfl
   | false=>have:=(Zfc hh hh).1 h; rw [lt_irrefl] at this; cases this
  obtain ⟨b,e,h1,-⟩:=Ze8 lo cuts r.hi
  have hb:b=r.hi:=by
   rcases h1 with h1 | ⟨q1,q2,q3,q4⟩
   ·exact h1
   ·exact absurd (H b q1 (ZcJ.2 ⟨q2,q3,q4⟩)) (by simp)
  subst hb
  have ea:app o [Rng.mk (Bnd.mk lo.key lo.top) (Bnd.mk r.hi.key r.hi.top)]=some (o++[⟨lo,r.hi⟩]):=Z4 (by simp at ho ⊢; omega)
  rw [YE,Z5,he]
  simp only [Zr,Bool.not_false,Zl,Za,ZN,e,ea,spl]
  rw [YE,Z5,he2]
  simp only [Zr,Bool.not_true,Zb,Za,Y6]
 | c::cs,lo,o,fuel,hA,hS,H,hl,hlt,hf,ho=>by
  rw [spl]
  simp only [List.length_cons] at hf ho
  cases hi:inC lo r.hi c with
  | false =>
   rw [if_neg (by simp)]
   refine ZmL cuts r hh cs lo o fuel hA.2 (fun d hd=>hS d (List.mem_cons_of_mem _ hd)) (fun d hd h=>?_) hl hlt (by omega) (by omega)
   rcases List.mem_cons.1 (H d hd h) with rfl | h2
   ·rw [hi] at h; cases h
   ·exact h2
  | true =>
   rw [if_pos rfl]
   obtain ⟨p1,p2,p3⟩:=ZcJ.1 hi
   obtain ⟨fuel,rfl⟩:∃ f,fuel=f+1:=⟨fuel - 1,by omega⟩
   have he:emp (Rng.mk (Bnd.mk lo.key lo.top) r.hi)=false:=(Zfc hl hh).2 hlt
   obtain ⟨b,e,h1,h2⟩:=Ze8 lo cuts r.hi
   have hcb:=h2 c (hS c List.mem_cons_self) p1 p2
   have hb:b=c:=by
    rcases h1 with rfl | ⟨q1,q2,q3,q4⟩
    ·rw [p3] at hcb; cases hcb
    ·rcases List.mem_cons.1 (H b q1 (ZcJ.2 ⟨q2,q3,q4⟩)) with h | h
     ·exact h
     ·exact ZdF q2 p1 (hA.1 b h) hcb
   subst hb
   have ea:app o [Rng.mk (Bnd.mk lo.key lo.top) (Bnd.mk b.key b.top)]=some (o++[⟨lo,b⟩]):=Z4 (by simp; omega)
   rw [YE,Z5,he]
   simp only [Zr,Bool.not_false,Zl,Za,ZN,e,ea]
   have key:=ZmL cuts r hh cs b (o++[⟨lo,b⟩]) fuel hA.2 (fun d hd=>hS d (List.mem_cons_of_mem _ hd)) (fun d hd h=>?_) p1 p3 (by omega) (by simp; omega)
   ·rw [List.append_assoc] at key; exact key
   ·obtain ⟨g1,g2,g3⟩:=ZcJ.1 h
    rcases List.mem_cons.1 (H d hd (ZcJ.2 ⟨g1,lt_trans p2 g2,g3⟩)) with rfl | h3
    ·rw [lt_irrefl] at g2; cases g2
    ·exact h3
def Zdh (cs:List Bnd):List Rng→List Rng
 | []=>[]
 | r::l=>(if emp r=true then [] else spl r.hi cs r.lo)++Zdh cs l
theorem ZmI (cuts cs:List Bnd) (hA:Asc cs) (hp:∀ c,c ∈ cs↔c ∈ cuts) (hc:cs.length≤200):∀ (l o:List Rng),o.length+l.length * (cs.length+1)≤900000→Qc cuts l o=some (o++Zdh cs l)
 | [],o,_=>by rw [Qc,Zdh,List.append_nil]
 | r::l,o,h=>by
  rw [List.length_cons,Nat.add_mul,Nat.one_mul] at h
  rw [Qc,Zdh]
  cases he:emp r with
  | true =>
   rw [show YE cuts r FU o r.lo.key r.lo.top=some o by
    rw [show FU=4294967295+1 from rfl,YE,Z5,show (Rng.mk (Bnd.mk r.lo.key r.lo.top) r.hi)=r from rfl,he]
    simp only [Zr,Bool.not_true,Zb,Za,Y6]]
   rw [Za,Za,ZmI cuts cs hA hp hc l o (by omega),if_pos rfl,List.nil_append]
  | false =>
   obtain ⟨v1,v2,v3⟩:=ZmF he
   rw [ZmL cuts r v2 cs r.lo o FU hA (fun c=>(hp c).1) (fun c h _=>(hp c).2 h) v1 v3 (by simp only [FU]; omega) (by omega)]
   have:=ZgY r.hi cs r.lo
   rw [Za,Za,ZmI cuts cs hA hp hc l _ (by rw [List.length_append]; omega),if_neg (by simp),List.append_assoc]
theorem ZnO (cuts cs:List Bnd) (l:List Rng) (hA:Asc cs) (hp:∀ c,c ∈ cs↔c ∈ cuts) (hc:cs.length≤200) (hl:l.length≤200):Q8 l cuts=some (Zdh cs l):=by
 have:l.length * (cs.length+1)≤200 * 201:=Nat.mul_le_mul hl (by omega)
 rw [Q8,ZmI cuts cs hA hp hc l [] (by simp; omega),Za,List.nil_append]
end Go.Proofs.YtkcmgbbopedacaaGreatDoor
namespace Go.Proofs.YtkcmgbbopedacaaGreatDoor
open Go.RowKit
theorem Zb7:∀ l:List Rng,Zap l=sel (l.all vld) (.nxt ()) (.ret 1)
 | []=>rfl
 | r::l=>by
  rw [Zap.eq_2,Zr,Zbb,Zb7 l,List.all_cons]
  cases vld r <;> rfl
theorem Zf6 (q:Zj):ZaU q=Zcb q.Kind q.Ranges q.Key q.Count:=by
 obtain ⟨k,l,key,c⟩:=q
 unfold ZaU Zcb
 simp only [Zr,Zb7,QN,ZL,decide_eq_true_eq,Bool.not_eq_true',decide_eq_false_iff_not]
 by_cases a1:k<1∨4<k
 ·rcases a1 with a1 | a1
  ·simp [a1]
  ·have:¬ k<1:=by omega
   simp [a1,this]
 have b1:¬ k<1:=by omega
 have b2:¬ 4<k:=by omega
 by_cases a2:64<l.length
 ·have:64<(l.length:Int):=by omega
  simp [b1,b2,a2,this]
 have b3:¬ 64<(l.length:Int):=by omega
 cases hv:l.all vld with
 | false=>simp [b1,b2,a2,b3,hv,Zp2]
 | true =>
  simp only [b1,b2,a2,b3,hv,if_true,if_false,ZcY,Bool.false_eq_true,or_self,decide_false]
  have hl:(0<(l.length:Int))↔0<l.length:=by omega
  by_cases h1:vk key=false
  ·simp [h1]
  ·have h1':vk key=true:=by simpa using h1
   by_cases h2:0<l.length <;> by_cases h3:k=1 <;> by_cases h4:key=⟨#[]⟩ <;> by_cases h5:k=3 <;> by_cases h6:k=4 <;> first
    | (exfalso; omega)
    | (simp [h1',h2,h3,h4,h5,h6] <;> (repeat' split) <;> first | rfl | omega | (simp_all; done) | (simp_all; omega))
theorem Zet (r:Kv):Zao r=ZjZ r:=by
 unfold Zao
 rw [Zr,Qv,Zbj,ZjZ]
 congr 1
 simp; omega
theorem Zb6 (t:List Kv) (ht:t.length≤1024):∀ (xs:List Kv) (m:Nat),t.drop m=xs→m≤t.length→Xm t xs (m:Int)=some (sel ((List.range' m (t.length - m)).all (ZoA t)) (.nxt ()) (.ret false))
 | [],m,h,hm=>by
  have:t.length - m=0:=by have:=congrArg List.length h; simpa using this
  simp [Xm,this,Zl]
 | r::xs,m,h,hm=>by
  obtain ⟨h1,h2⟩:=Zac h
  have h3:=(List.getElem?_eq_some_iff.1 h1).1
  have ih:=Zb6 t ht xs (m+1) h2 h3
  rw [Xm.eq_2,Zr,Zh9 _ _ _ h3,ZhX t m r h1,Zet,show (m:Int)+1=((m+1:Nat):Int) by omega,ih]
  cases ZjZ r with
  | false=>rfl
  | true =>
   cases m with
   | zero=>rfl
   | succ m =>
    have e1:Z6 (((m+1:Nat):Int) - 1)=(m:Int):=by rw [ZT (by omega) (by omega)]; omega
    have e2:decide ((0:Int)<((m+1:Nat):Int))=true:=decide_eq_true (by omega)
    have e3:t[m+1 - 1]?=some t[m]:=List.getElem?_eq_getElem (by omega)
    rw [e1,e2,e3,Z9,List.getElem?_eq_getElem (show m<t.length by omega),Za]
    have e4:(m+1 == 0)=false:=rfl
    rw [e4]
    simp only
    cases bl t[m].key r.key <;> rfl
theorem Zf8 (t:List Kv):ZbJ t=some (Yx t):=by
 unfold ZbJ
 rw [ZL]
 by_cases h:t.length≤1024
 ·rw [if_neg (by simp; omega)]
  have:=Zb6 t h t 0 rfl (Nat.zero_le _)
  rw [show ((0:Nat):Int)=0 from rfl] at this
  rw [this,Za,Yx,List.range_eq_range']
  simp only [Nat.sub_zero,h,decide_true,Bool.true_and]
  cases (List.range' 0 t.length).all (ZoA t) <;> rfl
 ·rw [if_pos (by simp; omega)]
  simp [Yx,h]
end Go.Proofs.YtkcmgbbopedacaaGreatDoor
namespace Go.Proofs.YtkcmgbbopedacaaGreatDoor
open Go.RowKit
theorem Zds (a b:Bnd):Qo a b=greater a b:=by
 unfold Qo greater
 rw [Zr,Zz,ZL]
 by_cases h:0<cmp b a
 ·rw [if_pos (by simpa using h),if_pos h]
 ·rw [if_neg (by simpa using h),if_neg h]
theorem Zd9 (a b:Bnd):QT a b=lesser a b:=by
 unfold QT lesser
 rw [Zr,Zz,ZL]
 by_cases h:cmp b a<0
 ·rw [if_pos (by simpa using h),if_pos h]
 ·rw [if_neg (by simpa using h),if_neg h]
theorem Za1 (a b:Rng):XF a b=Zc5 a b:=by
 unfold XF Zc5
 simp only [Zr,Zds,Zd9,Yk]
 cases emp a <;> cases emp b <;> cases emp ⟨greater a.lo b.lo,lesser a.hi b.hi⟩ <;> rfl
theorem ZeY (a b:Bnd):ZaH a b=greater a b:=by
 rw [← ZfP]
 unfold ZaH greatest
 rw [Zr,ZP,ZL]
 by_cases h:0≤cmp a b
 ·rw [if_pos (by simpa using h),if_pos h]
 ·rw [if_neg (by simpa using h),if_neg h]
theorem Zhp (a b:Bnd):Zcj a b=lesser a b:=by
 rw [← Zqe]
 unfold Zcj least
 rw [Zr,ZP,ZL]
 by_cases h:cmp a b≤0
 ·rw [if_pos (by simpa using h),if_pos h]
 ·rw [if_neg (by simpa using h),if_neg h]
theorem Zgc (r:Rng):ZbG r=proper r:=by
 unfold ZbG proper
 rw [Zr,Z5]
 cases emp r <;> rfl
theorem Zex (a b:Rng):Xl a b=Zc5 a b:=by
 unfold Xl Zc5
 simp only [Zr,ZeY,Zhp,Z5,Zgc,proper]
 cases emp a <;> cases emp b <;> cases emp ⟨greater a.lo b.lo,lesser a.hi b.hi⟩ <;> rfl
theorem Zbv (l:List Rng) (h:l.length≤4294967296):Z0 l=some l:=by
 unfold Z0
 rw [Z4 (by simpa using h),Za,List.nil_append]
theorem Zhx (l:List Kv) (h:l.length≤4294967296):Xh l=some l:=by
 unfold Xh
 rw [Z4 (by simpa using h),Za,List.nil_append]
theorem QA (q:Zj) (h:q.Ranges.length≤4294967296):Xx q=some q:=by
 unfold Xx
 rw [Zbv _ h,Za]
theorem Zhn (v:ZE) (h:v.Rows.length≤4294967296):Zcn v=some v:=by
 unfold Zcn
 rw [Zhx _ h,Za]
theorem ZcU (y l:List Zk) (hl:l.length=y.length) (hy:y.length≤1000000) (hr:∀ v ∈ l,v.View.Rows.length≤4294967296):∀ (k fuel m:Nat),m+k=y.length→k<fuel→XI y fuel l (m:Int)=some l
 | _,0,_,_,h=>absurd h (by omega)
 | 0,fuel+1,m,h1,_=>by
  rw [XI.eq_2,decide_eq_false (by omega),Zb,Za,Y6]
 | k+1,fuel+1,m,h1,h2=>by
  have hm:m<l.length:=by omega
  rw [XI.eq_2,decide_eq_true (by omega),Zl,Za,ZN,Z9,List.getElem?_eq_getElem hm,Za,Zhn _ (hr _ (List.getElem_mem hm)),Za,Za,Zr,Zr,ZT (by omega) (by omega),show (m:Int)+1=((m+1:Nat):Int) by omega]
  have e:l.set (Int.toNat (m:Int)) (Zk.mk l[m].View l[m].Part)=l:=by
   rw [Int.toNat_natCast]; exact List.set_getElem_self hm
  rw [e]
  exact ZcU y l hl hy hr k fuel (m+1) (by omega) (by omega)
theorem Zbr (l:List Zk) (h:l.length≤1000000) (hr:∀ v ∈ l,v.View.Rows.length≤4294967296):Qk l=some l:=by
 unfold Qk YV
 rw [Z4 (by simp; omega),Za,List.nil_append,Za,show (0:Int)=((0:Nat):Int) from rfl,ZcU l l rfl h hr l.length FU 0 (by omega) (by unfold FU; omega),Za]
structure okW (w:Zf):Prop where
 q:w.Query.Ranges.length≤1000
 todo:w.Todo.length≤1000
 vis:w.Visits.length≤1000
 rows:∀ v ∈ w.Visits,v.View.Rows.length≤10000
theorem Zd0 (w:Zf) (h:okW w):Zav w=some w:=by
 have h1:=h.q
 have h2:=h.todo
 have h3:=h.vis
 unfold Zav
 rw [QA _ (by omega),Za,Zbv _ (by omega),Za,Zbr _ (by omega) (fun v hv=>by have:=h.rows v hv; omega),Za]
def inside (o i:Rng):Bool:=!emp o && decide (cmp o.lo i.lo≤0) && decide (cmp i.hi o.hi≤0)
theorem Zgb (o i:Rng):ZbN o i=inside o i:=by
 unfold ZbN inside
 simp only [Zr,Yk,Zz,Zbj,Bool.and_assoc]
def Zsm (p:Option Rng) (r:Rng):Bool:=match p with | some x=>decide (cmp r.lo x.hi<0) | none=>false
def Zfh (all:List Rng):Option Rng→List Rng→Int
 | _,[]=>0
 | p,r::l=>if emp r=true then 1 else if Zsm p r=true then 8 else if (all.any fun x=>inside x r)=true then Zfh all (some r) l else 2
def W0:Zf:=⟨⟨0,[],⟨#[]⟩,0⟩,[],[]⟩
def qch (q:Zj):Int:=Zcb q.Kind q.Ranges q.Key q.Count
def qrg (q:Zj):List Rng:=YC q.Kind q.Ranges q.Key q.Count
def Zj0 (q:Zj) (l:List Rng):Zf × Int:=if qch q≠0 then (W0,qch q) else if 128<l.length then (W0,3) else if Zfh (qrg q) none l=0 then (⟨q,l,[]⟩,0) else (W0,Zfh (qrg q) none l)
theorem Zcu (r:Rng):∀ (l:List Rng) (b:Bool),XK r l b=some (b || l.any fun x=>inside x r)
 | [],b=>by simp [XK]
 | x::l,b=>by
  rw [XK.eq_2,Zr,Zgb,Zcu r l,Zcu r l]
  cases b <;> simp [Zl,Zb]
def ZmA (rs:List Rng):Nat→Option Rng
 | 0=>none
 | m+1=>rs[m]?
def stC (e:Int):Ctl (Zf × Int) Unit:=if e=0 then .nxt () else .ret (W0,e)
theorem Zd4 (rs all:List Rng) (hrs:rs.length≤1000):∀ (xs:List Rng) (m:Nat),rs.drop m=xs→m≤rs.length→ZaO rs all xs (m:Int)=some (stC (Zfh all (ZmA rs m) xs))
 | [],m,_,_=>rfl
 | r::xs,m,h,hm=>by
  obtain ⟨h1,h2⟩:=Zac h
  obtain ⟨h3,h4⟩:=List.getElem?_eq_some_iff.1 h1
  have ih:=Zd4 rs all hrs xs (m+1) h2 h3
  rw [ZaO.eq_2,Zr,Yk,show (m:Int)+1=((m+1:Nat):Int) by omega,ih,Zfh.eq_2]
  have hp:(sel (decide ((0:Int)<(m:Int))) (Zc (Yn rs (Z6 ((m:Int) - 1))) fun e9=>bnd (Zm r.lo e9.hi) fun y10=>some (decide (y10<0))) (some false))=some (Zsm (ZmA rs m) r):=by
   cases m with
   | zero=>rfl
   | succ m =>
    rw [decide_eq_true (by omega),Zl,ZT (by omega) (by omega),show ((m+1:Nat):Int) - 1=(m:Int) by omega,Z9,List.getElem?_eq_getElem (by omega),Za,Zr,Zz]
    simp only [ZmA,Zsm]
    rw [List.getElem?_eq_getElem (by omega)]
  cases emp r with
  | true=>rfl
  | false =>
   simp only [Bool.false_eq_true,if_false]
   rw [Zb,hp,Za]
   generalize (Zsm (ZmA rs m) r)=b
   cases b with
   | true=>rfl
   | false =>
    simp only [Bool.false_eq_true,if_false]
    rw [Zb,Zcu,Za,Bool.false_or]
    have e:ZmA rs (m+1)=some r:=h1
    rw [e]
    cases (all.any fun x=>inside x r) <;> rfl
theorem Zd1 (q:Zj) (l:List Rng) (hq:q.Ranges.length<1000000):QZ q l=some (Zj0 q l):=by
 have e1:Xw q=some (qch q):=if_pos hq
 have e2:Y9 q=some (qrg q):=if_pos hq
 unfold QZ Zj0
 rw [e1,Za,e2,Za]
 by_cases h1:qch q=0
 ·rw [decide_eq_true h1,Bool.not_true,Zb,if_neg (by simpa using h1)]
  by_cases h2:128<l.length
  ·rw [decide_eq_true (by omega),Zl,if_pos h2]; rfl
  ·have hl:l.length≤128:=by omega
   have:=Zd4 l (qrg q) (by omega) l 0 rfl (Nat.zero_le _)
   rw [show ((0:Nat):Int)=0 from rfl] at this
   rw [decide_eq_false (by omega),Zb,if_neg h2,this,Za]
   show YB (stC (Zfh (qrg q) none l)) _=_
   unfold stC
   by_cases h3:Zfh (qrg q) none l=0
   ·rw [if_pos h3,if_pos h3,ZN,QA _ (by omega),Za,Zbv _ (by omega),Za]
   ·rw [if_neg h3,if_neg h3,Y6]
 ·rw [decide_eq_false h1,Bool.not_false,Zl,if_pos h1]; rfl
theorem Zdd (r:Rng):Y1 r r=true:=by
 unfold Y1
 simp only [Zr,ZP,ZkL]; rfl
theorem ZeF (a:Zj):∀ (xs:List Rng) (m:Nat),a.Ranges.drop m=xs→ZaG a a xs (m:Int)=some (.nxt ())
 | [],_,_=>rfl
 | r::xs,m,h=>by
  obtain ⟨h1,h2⟩:=Zac h
  rw [ZaG.eq_2]
  simp only [Z9,h1,Za,decide_true,Bool.and_self,Bool.not_true,Zb]
  exact ZeF a xs (m+1) h2
theorem ZbR (a:Zj):Zaz a a=some true:=by
 unfold Zaz
 have:=ZeF a a.Ranges 0 rfl
 rw [show ((0:Nat):Int)=0 from rfl] at this
 simp only [decide_true,Bool.not_true,Zb,Za,this,ZN]
theorem ZfO (a:List Kv):∀ (xs:List Kv) (m:Nat),a.drop m=xs→ZaN a a xs (m:Int)=some (.nxt ())
 | [],_,_=>rfl
 | r::xs,m,h=>by
  obtain ⟨h1,h2⟩:=Zac h
  rw [ZaN.eq_2]
  simp only [Z9,h1,Za,decide_true,Bool.and_self,Bool.not_true,Zb]
  exact ZfO a xs (m+1) h2
theorem Zhz (a:List Kv):Zck a a=some true:=by
 unfold Zck
 have:=ZfO a a 0 rfl
 rw [show ((0:Nat):Int)=0 from rfl] at this
 simp only [decide_true,Bool.not_true,Zb,Za,this,ZN]
theorem Zf5 (v:Zk):QO v v=some true:=by
 unfold QO
 simp only [decide_true,Bool.and_self,Zl,Zr,Zdd,Zhz,Za]
theorem Zd7 (a:List Zk):∀ (xs:List Zk) (m:Nat),a.drop m=xs→Xg a a xs (m:Int)=some (.nxt ())
 | [],_,_=>rfl
 | r::xs,m,h=>by
  obtain ⟨h1,h2⟩:=Zac h
  rw [Xg.eq_2]
  simp only [Z9,h1,Za,Zf5,Bool.not_true,Zb]
  exact Zd7 a xs (m+1) h2
theorem ZcQ (a:List Zk):YN a a=some true:=by
 unfold YN
 have:=Zd7 a a 0 rfl
 rw [show ((0:Nat):Int)=0 from rfl] at this
 simp only [decide_true,Bool.not_true,Zb,Za,this,ZN]
theorem Zd3 (a:List Rng):∀ (xs:List Rng) (m:Nat),a.drop m=xs→Xf a a xs (m:Int)=some (.nxt ())
 | [],_,_=>rfl
 | r::xs,m,h=>by
  obtain ⟨h1,h2⟩:=Zac h
  rw [Xf.eq_2]
  simp only [Z9,h1,Za,Zr,Zdd,Bool.not_true,Zb]
  exact Zd3 a xs (m+1) h2
theorem ZfU (a:List Rng):Qq a a=some true:=by
 unfold Qq
 have:=Zd3 a a 0 rfl
 rw [show ((0:Nat):Int)=0 from rfl] at this
 simp only [decide_true,Bool.not_true,Zb,Za,this,ZN]
theorem Zd5 (w:Zf):X4 w w=some true:=by
 unfold X4
 simp only [ZbR,ZfU,ZcQ,Za,Zl]
end Go.Proofs.YtkcmgbbopedacaaGreatDoor
-- LEFT eq_ref28_Start ref28_Start_l1 ref28_Start_l2
namespace Go.Proofs.YtkcmgbbopedacaaGreatDoor
open Go.RowKit
def enough (q:Zj) (n:Int):Bool:=(decide (q.Kind=3) || decide (q.Kind=4)) && decide (q.Count≤n)
theorem ZfV (q:Zj) (n:Int):Za9 q n=enough q n:=by
 unfold Za9 ZbU enough
 rw [Zr]
 cases decide (q.Kind=3) <;> cases decide (q.Kind=4) <;> cases decide (q.Count≤n) <;> rfl
theorem ZfW (q:Zj) (n:Int):Zba q n=enough q n:=by
 unfold Zba enough
 cases decide (q.Kind=3) <;> cases decide (q.Kind=4) <;> cases decide (q.Count≤n) <;> rfl
def Zcc (l:List Zk):List Kv:=l.flatMap fun v=>v.View.Rows
theorem Zim:∀ {l:List Zk},(∀ v ∈ l,v.View.Rows.length≤10000)→(Zcc l).length≤l.length * 10000
 | [],_=>by simp [Zcc]
 | v::l,h=>by
  have h1:=h v List.mem_cons_self
  have h2:=Zim (l:=l) fun x hx=>h x (List.mem_cons_of_mem _ hx)
  unfold Zcc at h2 ⊢
  rw [List.flatMap_cons,List.length_append,List.length_cons]
  omega
theorem ZeR:∀ (l:List Zk) (out:List Kv),out.length+(Zcc l).length≤4294967296→Zak l out=some (out++Zcc l)
 | [],out,_=>by rw [Zak.eq_1]; simp [Zcc]
 | v::l,out,h=>by
  unfold Zcc at h ⊢
  rw [List.flatMap_cons,List.length_append] at h
  have ih:=ZeR l (out++v.View.Rows) (by unfold Zcc; rw [List.length_append]; omega)
  unfold Zcc at ih
  rw [Zak.eq_2,Z4 (by omega),Za,ih,List.flatMap_cons,List.append_assoc]
theorem Zd8:∀ (l:List Zk) (out:List Kv),out.length+(Zcc l).length≤4294967296→QE l out=some (out++Zcc l)
 | [],out,_=>by rw [QE.eq_1]; simp [Zcc]
 | v::l,out,h=>by
  unfold Zcc at h ⊢
  rw [List.flatMap_cons,List.length_append] at h
  have ih:=Zd8 l (out++v.View.Rows) (by unfold Zcc; rw [List.length_append]; omega)
  unfold Zcc at ih
  rw [QE.eq_2,Z4 (by omega),Za,ih,List.flatMap_cons,List.append_assoc]
theorem okW.rlen {w:Zf} (h:okW w):(Zcc w.Visits).length≤10000000:=by
 have h1:=Zim h.rows
 have h2:=h.vis
 omega
theorem ZiE {w:Zf} (h:okW w):Zc3 w=some (Zcc w.Visits):=by
 have:=h.rlen
 unfold Zc3
 rw [ZeR _ _ (by simp; omega),Za,List.nil_append]
theorem Zhq {w:Zf} (h:okW w):Zcq w.Visits=some (Zcc w.Visits):=by
 have:=h.rlen
 unfold Zcq
 rw [Zd8 _ _ (by simp; omega),Za,List.nil_append]
def Zbx (w:Zf):Bool:=w.Todo.isEmpty || enough w.Query ((Zcc w.Visits).length:Int)
theorem Zv8 {α:Type} (l:List α):decide ((l.length:Int)=0)=l.isEmpty:=by
 cases l with
 | nil=>rfl
 | cons a l=>exact decide_eq_false (by simp; omega)
theorem ZeH {w:Zf} (h:okW w):Zb1 w=some (Zbx w):=by
 unfold Zb1 Zbx
 rw [ZiE h,Zv8,Za,Zr,ZfV]
 cases w.Todo.isEmpty <;> rfl
theorem Zd6 {w:Zf} (h:okW w):Zbp w=some (Zbx w):=by
 unfold Zbp Zbx
 rw [Zhq h,Zv8,Za,Zr,ZfW]
 cases w.Todo.isEmpty <;> rfl
def ZcC (q:Zj):Bool:=decide (q.Kind=4)
def ZhN (d:Bool) (l:List Rng):Rng:=if d=true then l.getLast?.getD zr else l.head?.getD zr
def Za8 (w:Zf):Rng × Bool:=if Zbx w=true then (zr,false) else (ZhN (ZcC w.Query) w.Todo,true)
theorem Zc4 (x:Rng) (t:List Rng):Yn (x::t) 0=some x:=by
 have:=Z9 (x::t) 0
 rw [show ((0:Nat):Int)=0 from rfl] at this
 rw [this]; rfl
theorem Zpj {i:List Rng} {x:Rng} (h:(i++[x]).length≤100000):Z6 (((i++[x]).length:Int) - 1)=(i.length:Int):=by
 rw [List.length_append,List.length_singleton] at h ⊢
 rw [ZT (by omega) (by omega)]; omega
theorem ZdX (i:List Rng) (x:Rng):Yn (i++[x]) (i.length:Int)=some x:=by rw [Z9]; simp
theorem ZgO {l:List Rng} (h:l.isEmpty=false):∃ i x,l=i++[x]:=by
 rcases List.eq_nil_or_concat l with rfl | ⟨i,x,h1⟩
 ·cases h
 ·exact ⟨i,x,by simpa using h1⟩
theorem ZgU {l:List Rng} (h:l.isEmpty=false):∃ x t,l=x::t:=by
 cases l with
 | nil=>cases h
 | cons x t=>exact ⟨x,t,rfl⟩
theorem Zfn {w:Zf} (h:Zbx w=false):w.Todo.isEmpty=false:=by
 unfold Zbx at h
 cases hh:w.Todo.isEmpty with
 | false=>rfl
 | true=>rw [hh] at h; cases h
theorem ZeK {w:Zf} (h:okW w):Zb0 w=some (Za8 w):=by
 unfold Zb0 Za8
 rw [ZeH h,Za]
 cases hd:Zbx w with
 | true=>rfl
 | false =>
  have ht:=Zfn hd
  have hl:=h.todo
  have e:ZaB w.Query=ZcC w.Query:=rfl
  rw [Zb,Zr,e,if_neg (by simp)]
  unfold ZhN
  cases ZcC w.Query with
  | true =>
   obtain ⟨i,x,e2⟩:=ZgO ht
   rw [e2] at hl ⊢
   rw [Zl,Zpj (by omega),ZdX,Za,if_pos rfl,List.getLast?_concat]; rfl
  | false =>
   obtain ⟨x,t,e2⟩:=ZgU ht
   rw [e2,Zb,Zc4,Za,if_neg (by simp)]; rfl
theorem Zd2 {w:Zf} (h:okW w):Zbn w=some (Za8 w):=by
 unfold Zbn Za8
 rw [Zd6 h,Za]
 cases hd:Zbx w with
 | true=>rfl
 | false =>
  have ht:=Zfn hd
  have hl:=h.todo
  have e:QX w.Query=ZcC w.Query:=rfl
  rw [Zb,Zr,e,if_neg (by simp)]
  unfold ZhN
  cases ZcC w.Query with
  | true =>
   obtain ⟨i,x,e2⟩:=ZgO ht
   rw [e2] at hl ⊢
   rw [Zl,Zpj (by omega),ZdX,Za,if_pos rfl,List.getLast?_concat]; rfl
  | false =>
   obtain ⟨x,t,e2⟩:=ZgU ht
   rw [e2,Zb,Zc4,Za,if_neg (by simp)]; rfl
def Zmj (s:Yh):Bool:=decide (0≤s.Epoch) && decide (s.Epoch≤1099511627776) && decide (0≤s.Version) && decide (s.Version≤1099511627776)
def Zed (n:Int):Bool:=decide (1≤n) && decide (n≤2147483647)
def ZcG (v:ZE):Bool:=Zed v.Owner && !emp v.Interval && Zmj v.Stamp && Yx v.Rows && v.Rows.all fun x=>contains v.Interval x.key
theorem Zf9 (s:Yh):ZbL s=Zmj s:=by
 unfold ZbL Zmj
 simp only [Zbj,Bool.and_assoc]
theorem ZbT (s:Yh):XZ s=Zmj s:=by
 unfold XZ Zmj
 simp only [Zbj,Bool.and_assoc]
theorem Zbs (n:Int):YK n=Zed n:=by
 unfold YK Zed
 rw [Zbj]
theorem Zbt (r:Rng) (t:List Kv):XE t r=t.all fun x=>contains r x.key:=by
 unfold XE
 have:∀ t:List Kv,QM r t=sel (t.all fun x=>contains r x.key) (.nxt ()) (.ret false):=by
  intro t
  induction t with
  | nil=>rfl
  | cons x t ih =>
   rw [QM.eq_2,Zr,QS,ih,List.all_cons]
   cases contains r x.key <;> rfl
 rw [this,Zr]
 cases (t.all fun x=>contains r x.key) <;> rfl
theorem ZrK (r:Rng) (t:List Kv):decide (((t.filter fun x=>contains r x.key).length:Int)=(t.length:Int))=t.all fun x=>contains r x.key:=by
 cases h:t.all fun x=>contains r x.key with
 | true =>
  have:t.filter (fun x=>contains r x.key)=t:=List.filter_eq_self.2 fun x hx=>List.all_eq_true.1 h x hx
  rw [this]; exact decide_eq_true rfl
 | false =>
  refine decide_eq_false fun he=>?_
  have he:(t.filter fun x=>contains r x.key).length=t.length:=by omega
  have:t.all (fun x=>contains r x.key)=true:=List.all_eq_true.2 fun x hx=>by
   have:=List.length_filter_eq_length_iff.1 he x hx
   exact this
  rw [h] at this; cases this
theorem Zeu (v:ZE) (h:v.Rows.length≤10000):Zas v=some (ZcG v):=by
 unfold Zas ZcG Zed
 rw [Zr,Zr,Yk,Zf9,Zf8,Za,ZbS _ _ (by omega),Za,ZrK]
 cases decide (1≤v.Owner) <;> cases decide (v.Owner≤2147483647) <;> cases emp v.Interval <;> cases Zmj v.Stamp <;> cases Yx v.Rows <;> rfl
theorem Zeb (v:ZE):QL v=some (ZcG v):=by
 unfold QL ZcG
 rw [Zr,Zr,Zr,Zr,Zbs,Z5,ZbT,ZaM,Za,Zbt]
 cases Zed v.Owner <;> cases emp v.Interval <;> cases Zmj v.Stamp <;> cases Yx v.Rows <;> rfl
def Zgg (v:ZE) (part:Rng):Zk:=⟨⟨v.Owner,v.Interval,v.Stamp,v.Rows.filter fun x=>contains part x.key⟩,part⟩
def Zra (r:Rng):List Rng:=if emp r=true then [] else [r]
def Zf0 (d:Bool) (want i:Rng):Bool:=if d=true then decide (cmp i.hi want.hi<0) || decide (0≤cmp i.lo want.hi) else decide (0<cmp i.lo want.lo) || decide (cmp i.hi want.lo≤0)
def stepW (w:Zf) (v:ZE) (want part:Rng):Zf :=
 if ZcC w.Query=true then ⟨w.Query,w.Todo.dropLast++Zra ⟨want.lo,part.lo⟩,Zgg v part::w.Visits⟩
 else ⟨w.Query,Zra ⟨part.hi,want.hi⟩++w.Todo.tail,w.Visits++[Zgg v part]⟩
def Zee (w:Zf) (v:ZE):Zf × Int :=
 if (Za8 w).2=false then (W0,7) else if ZcG v=false then (W0,1) else if Zf0 (ZcC w.Query) (Za8 w).1 v.Interval=true then (W0,12) else (stepW w v (Za8 w).1 (Zc5 v.Interval (Za8 w).1),0)
theorem ZgX {w:Zf} (h:(Za8 w).2=true):Zbx w=false:=by
 unfold Za8 at h
 cases hd:Zbx w with
 | false=>rfl
 | true=>rw [hd,if_pos rfl] at h; cases h
theorem ZqO {w:Zf} (h:(Za8 w).2=true):(Za8 w).1=ZhN (ZcC w.Query) w.Todo:=by
 have:=ZgX h
 unfold Za8
 rw [this]; rfl
theorem Zhw {w:Zf} (h:okW w) (v:ZE) (hv:v.Rows.length≤10000):Zcl w v=some (Zee w v):=by
 unfold Zcl Zee
 rw [Zd2 h,Za]
 cases hw:(Za8 w).2 with
 | false=>rfl
 | true =>
  rw [Bool.not_true,Zb,if_neg (by simp),Zeb,Za]
  cases hvv:ZcG v with
  | false=>rfl
  | true =>
   have ed:QX w.Query=ZcC w.Query:=rfl
   rw [Bool.not_true,Zb,if_neg (by simp),Zr,ed]
   have hm:∀ want:Rng,(sel (!ZcC w.Query) (
      bnd (Zi v.Interval.lo want.lo) fun y6 =>
      sel (decide (0<y6)) (
       some true) (
       bnd (Zi v.Interval.hi want.lo) fun y7 =>
       sel (decide (y7≤0)) (
        some true) (
        sel (ZcC w.Query) (
         bnd (Zi v.Interval.hi want.hi) fun y8 =>
         sel (decide (y8<0)) (
          some true) (
          bnd (Zi v.Interval.lo want.hi) fun y9 =>
          some (decide (0≤y9)))) (
         some false)))) (
      sel (ZcC w.Query) (
       bnd (Zi v.Interval.hi want.hi) fun y10 =>
       sel (decide (y10<0)) (
        some true) (
        bnd (Zi v.Interval.lo want.hi) fun y11 =>
        some (decide (0≤y11)))) (
       some false)):Option Bool)=some (Zf0 (ZcC w.Query) want v.Interval):=by
    intro want
    unfold Zf0
    simp only [Zr,ZP]
    cases ZcC w.Query with
    | true =>
     rw [Bool.not_true,Zb,Zl,if_pos rfl]
     cases decide (cmp v.Interval.hi want.hi<0) <;> rfl
    | false =>
     rw [Bool.not_false,Zl,if_neg (by simp)]
     cases decide (0<cmp v.Interval.lo want.lo) <;> cases decide (cmp v.Interval.hi want.lo≤0) <;> rfl
   rw [hm,Za]
   cases hms:Zf0 (ZcC w.Query) (Za8 w).1 v.Interval with
   | true=>rfl
   | false =>
    rw [Zb,if_neg (by simp),Zr,Zex,Zdg _ _ (by omega),Za]
    have ht:=Zfn (ZgX hw)
    have hl:=h.todo
    have hvis:=h.vis
    have e1:=ZqO hw
    generalize Zc5 v.Interval (Za8 w).1=part
    unfold stepW Zgg Zra
    cases hd:ZcC w.Query with
    | true =>
     obtain ⟨i,x,e2⟩:=ZgO ht
     have ew:(Za8 w).1=x:=by rw [e1,hd,ZhN,if_pos rfl,e2,List.getLast?_concat]; rfl
     have hl2:i.length≤999:=by rw [e2] at hl; simp at hl; omega
     rw [ew,e2]
     rw [Zl,if_pos rfl,Z4 (by simp; omega),Za,Zpj (by simp; omega),ZeD (by simp; omega),Za]
     rw [List.dropLast_concat]
     have e3:((i++[x]).drop (0:Int).toNat).take ((i.length:Int).toNat - (0:Int).toNat)=i:=by simp
     rw [e3,Z4 (by simp; omega),Za,List.nil_append,Zr,Z5]
     cases emp ⟨x.lo,part.lo⟩ with
     | true=>simp [Zb]
     | false =>
      rw [Bool.not_false,Zl,Z4 (by simp; omega),Za]
      simp
    | false =>
     obtain ⟨x,t,e2⟩:=ZgU ht
     have ew:(Za8 w).1=x:=by rw [e1,hd,ZhN,if_neg (by simp),e2]; rfl
     have hl2:t.length≤1000:=by rw [e2] at hl; simp at hl; omega
     rw [ew,e2]
     rw [Zb,if_neg (by simp),Z4 (by simp; omega),Za,List.nil_append,Z4 (by simp; omega),Za,Zr,Z5]
     have e3:lsl (x::t) 1 ((x::t).length:Int)=some t:=by
      rw [ZeD (by simp; omega)]; simp
     cases emp ⟨part.hi,x.hi⟩ with
     | true =>
      rw [Bool.not_true,Zb,Za,e3,Za,Z4 (by simp; omega),Za]
      simp
     | false =>
      rw [Bool.not_false,Zl,Z4 (by simp),Za,Za,e3,Za,Z4 (by simp; omega),Za]
      simp
theorem ZeI {w:Zf} (h:okW w) (v:ZE) (hv:v.Rows.length≤10000):Zb4 w v=some (Zee w v):=by
 unfold Zb4 Zee
 rw [ZeK h,Za]
 cases hw:(Za8 w).2 with
 | false=>rfl
 | true =>
  rw [Bool.not_true,Zb,if_neg (by simp),Zeu v hv,Za]
  cases hvv:ZcG v with
  | false=>rfl
  | true =>
   have ed:ZaB w.Query=ZcC w.Query:=rfl
   rw [Bool.not_true,Zb,if_neg (by simp),Zr,ed]
   have ht:=Zfn (ZgX hw)
   have hl:=h.todo
   have hvis:=h.vis
   have e1:=ZqO hw
   rw [Zd0 w h]
   cases hd:ZcC w.Query with
   | true =>
    obtain ⟨i,x,e2⟩:=ZgO ht
    have ew:(Za8 w).1=x:=by rw [e1,hd,ZhN,if_pos rfl,e2,List.getLast?_concat]; rfl
    rw [ew]
    simp only [Bool.not_true,Zl,Zb,Za,Zr,Zz]
    have hm:(sel (decide (cmp v.Interval.hi x.hi<0)) (some true) (some (decide (0≤cmp v.Interval.lo x.hi))))=some (Zf0 true x v.Interval):=by
     unfold Zf0
     rw [if_pos rfl]
     cases decide (cmp v.Interval.hi x.hi<0) <;> rfl
    rw [hm,Za]
    cases Zf0 true x v.Interval with
    | true=>rfl
    | false =>
     simp only [Zb,Bool.false_eq_true,if_false,Za1]
     generalize Zc5 v.Interval x=part
     rw [ZbS _ _ (by omega),Za]
     unfold stepW Zgg Zra
     rw [hd,if_pos rfl]
     rw [e2] at hl
     rw [Z4 (by simp; omega),Za,e2,Zpj (by omega),ZdX,Za,Int.toNat_natCast]
     have e4:∀ y:Rng,(i++[x]).set i.length y=i++[y]:=fun y=>by simp
     rw [e4,Za]
     simp only
     rw [ZdX,Za,Yk,List.dropLast_concat]
     cases emp ⟨x.lo,part.lo⟩ with
     | false=>rfl
     | true =>
      have e5:∀ y:Rng,lsl (i++[y]) 0 (i.length:Int)=some i:=fun y=>by rw [ZeD (by simp; omega)]; simp
      have hl2:i.length≤1000:=by simp at hl; omega
      have e6:∀ y:Rng,lsl (i++[y]) (Z6 ((i.length:Int)+1)) ((i++[y]).length:Int)=some []:=fun y=>by
       rw [ZT (by omega) (by omega),ZeD (by simp; omega)]; simp
      rw [Zl,e5,Za,e6,Za,apd,if_pos (by simp),Za]
      simp
   | false =>
    obtain ⟨x,t,e2⟩:=ZgU ht
    have ew:(Za8 w).1=x:=by rw [e1,hd,ZhN,if_neg (by simp),e2]; rfl
    rw [ew]
    simp only [Bool.not_false,Zl,Zb,Za,Zr,Zz]
    have hm:(sel (decide (0<cmp v.Interval.lo x.lo)) (some true) (sel (decide (cmp v.Interval.hi x.lo≤0)) (some true) (some false)))=some (Zf0 false x v.Interval):=by
     unfold Zf0
     rw [if_neg (by simp)]
     cases decide (0<cmp v.Interval.lo x.lo) <;> cases decide (cmp v.Interval.hi x.lo≤0) <;> rfl
    rw [hm,Za]
    cases Zf0 false x v.Interval with
    | true=>rfl
    | false =>
     simp only [Zb,Bool.false_eq_true,if_false,Za1]
     generalize Zc5 v.Interval x=part
     rw [ZbS _ _ (by omega),Za]
     unfold stepW Zgg Zra
     rw [hd,if_neg (by simp)]
     rw [e2] at hl
     rw [Z4 (by simp; omega),Za,e2,Zc4,Za]
     have e4:∀ y:Rng,(x::t).set (Int.toNat 0) y=y::t:=fun y=>rfl
     rw [e4,Za]
     simp only
     rw [Zc4,Za,Yk,List.tail_cons]
     cases emp ⟨part.hi,x.hi⟩ with
     | false=>rfl
     | true =>
      have e5:∀ y:Rng,lsl (y::t) 0 0=some []:=fun y=>by rw [ZeD (by simp; omega)]; simp
      have hl2:t.length≤1000:=by simp at hl; omega
      have e6:∀ y:Rng,lsl (y::t) (Z6 (0+1)) ((y::t).length:Int)=some t:=fun y=>by
       rw [ZT (by omega) (by omega),ZeD (by simp; omega)]; simp
      rw [Zl,e5,Za,e6,Za,apd,if_pos (by simp),Za]
      simp
end Go.Proofs.YtkcmgbbopedacaaGreatDoor
