/-
  Lemmas: The law PathsAgain holds of its model.
-/
import Derived.Test.YtkcmgbbopedacaaGreatDoorPZ41
set_option linter.unusedSimpArgs false
set_option linter.unusedVariables false
namespace Go.Proofs.YtkcmgbbopedacaaGreatDoor
open Go.RowKit
attribute [local irreducible] Tot sel bnd Ze Yz app YD lsl Zc2
theorem Zjl:∀ (l:List Zr) (out:List Kv),out.length+(l.flatMap (·.Rows)).length≤1000000→Y3 l out=some (out++l.flatMap (·.Rows))
 | [],out,_=>by rw [Y3]; simp
 | v::l,out,h=>by
  rw [List.flatMap_cons,List.length_append] at h
  rw [Y3,ZW (by omega),Za,Zjl l _ (by rw [List.length_append]; omega)]
  simp
structure PaI (q:Zf) (b:List Bnd) (N k:Nat) (p:Zh):Prop where
 ok:okP k p
 pq:p.Query=q
 pc:p.Cuts=b
 fl:p.First.length=N
 sl:p.Second.length=N
 fi:CI q k p.First
 se:CI q k p.Second
theorem PaI.mono {q:Zf} {b:List Bnd} {N k k':Nat} {p:Zh} (h:PaI q b N k p) (hk:k≤k'):PaI q b N k' p:=⟨h.ok.mono hk,h.pq,h.pc,h.fl,h.sl,h.fi.mono hk,h.se.mono hk⟩
theorem CI.at {q:Zf} {n:Nat} {ws:List Zc} (h:CI q n ws) (hn:n≤998) {m:Nat} {w:Zc} (hw:ws[m]?=some w) {v:Zr} (hr:v.Rows.length≤10000) (h0:(Xg w v).2=0):CI q (n+1) (ws.set m (Xg w v).1):=by
 obtain ⟨hm,rfl⟩:=List.getElem?_eq_some_iff.1 hw
 have e:ws=ws.take m++ws[m]::ws.drop (m+1):=by simp
 rw [List.set_eq_take_append_cons_drop,if_pos hm]
 rw [e] at h
 exact h.one hn hr h0
theorem PaI.take {q:Zf} {b:List Bnd} {N k:Nat} (hk:k≤998) {p:Zh} (h:PaI q b N k p) {i:Int} {v:Zr} (hv:v.Rows.length≤10000) (h0:(Zer p i v).2=0):PaI q b N (k+1) (Zer p i v).1:=by
 have hok:=Zsj (by omega) h.ok hv h0
 unfold Zer at h0 hok ⊢
 cases ha:atP p i with
 | none=>rw [ha] at h0; exact absurd (show (2:Int)=0 from h0) (by decide)
 | some w =>
  rw [ha] at h0 hok
  simp only at h0 hok ⊢
  by_cases ht:(Xg w v).2=0
  ·rw [if_pos ht] at hok ⊢
   have hm:(prs p)[i.toNat]?=some w:=by
    unfold atP at ha
    split at ha
    ·cases ha
    ·exact ha
   obtain ⟨q0,c,F,S,T⟩:=p
   cases T with
   | true=>exact ⟨hok,h.pq,h.pc,h.fl,(by show (List.set _ _ _).length=N; rw [List.length_set]; exact h.sl),h.fi.mono (by omega),h.se.at hk hm hv ht⟩
   | false=>exact ⟨hok,h.pq,h.pc,(by show (List.set _ _ _).length=N; rw [List.length_set]; exact h.fl),h.sl,h.fi.at hk hm hv ht,h.se.mono (by omega)⟩
  ·rw [if_neg ht] at h0
   exact absurd h0 ht
theorem PaI.turn {q:Zf} {b:List Bnd} {N k:Nat} {p:Zh} (h:PaI q b N k p) (h0:(Zbb p).2=0):PaI q b N k (Zbb p).1:=by
 obtain ⟨e,-,-,hok⟩:=ZsQ h.ok h0
 rw [e] at hok ⊢
 exact ⟨hok,h.pq,h.pc,h.fl,h.sl,h.fi,h.se⟩
theorem Zg3:∀ {a b:List Zi},X8 a b=true→YH a=YH b
 | [],[],_=>rfl
 | [],_::_,h=>by rw [X8] at h; cases h; all_goals simp
 | _::_,[],h=>by rw [X8] at h; cases h; all_goals simp
 | x::a,y::b,h=>by
  rw [X8,Bool.and_eq_true] at h
  have h1:=h.1
  unfold Zhm at h1
  simp only [Bool.and_eq_true,decide_eq_true_eq] at h1
  have ih:=Zg3 h.2
  unfold YH at ih ⊢
  rw [List.flatMap_cons,List.flatMap_cons,ih,h1.2]
theorem all_in {t:List Kv} (ht:Yu t=true):t.filter (fun x=>contains YE x.key)=t:=List.filter_eq_self.2 fun x hx=>by
 have hv:=((XC t).1 ht).2.1 x hx
 simp only [ZhB,Bool.and_eq_true] at hv
 have e1:emp YE=false:=by kernel_rfl
 unfold contains
 rw [e1,hv.1]
 have h1:cmp YE.lo ⟨x.key,false⟩≤0:=by
  have:=Zwh x.key
  apply Classical.byContradiction
  intro hh
  have h2:=(Xw YE.lo ⟨x.key,false⟩).1 (by omega)
  rw [show YE.lo=zb from rfl,this] at h2
  cases h2
 have h2:cmp ⟨x.key,false⟩ YE.hi<0:=(XW _ _).2 (ZtB _)
 rw [decide_eq_true h1,decide_eq_true h2]; rfl
theorem ZjU {q:Zf} (hq:qok q) {b:List Bnd} {l:List Zc} (hcol:Yv q b=some (l,0)) (hb:b.length≤3) {t:List Kv} {vs:List Zr} (htl:Tl t zb vs ZdB) (ht8:t.length≤8) (hvl:vs.length≤5) (s1:CI q 110 l) (hvol:vol vs l≤110) (hl:l.length≤200) {S:List Zc} (hS:CI q 110 S) (hSl:S.length=l.length) (hd:∀ w ∈ S,Yy w=true) (F:List Zc) (hF:∀ w ∈ F,okW w∧w.Visits.length≤999) (hFl:F.length=l.length) :
   Zaz ⟨q,b,F,S,true⟩=some (⟨q,b,S,l,true⟩,0)∧Xr ⟨q,b,S,l,true⟩ vs=some (⟨q,b,S,l.map (ZdC vs 110),true⟩,true)∧okP 999 ⟨q,b,S,l.map (ZdC vs 110),true⟩ ∧
   Qk ⟨q,b,S,l.map (ZdC vs 110),true⟩=some (⟨q,QW S,QW (l.map (ZdC vs 110))⟩,0):=by
 have hq4:=hq.2.1
 have hgood:Zkt vs:=htl.good ht8 (by omega)
 have hv:∀ v ∈ vs,v.Rows.length≤10000:=fun v hv=>by have:=hgood.2.2 v hv; omega
 have hlen:∀ X:List Zc,X.length=l.length→X.length≤200:=fun X h=>by omega
 have h1:okP 999 ⟨q,b,F,S,true⟩:=⟨by show q.Ranges.length≤1000; omega,by show b.length≤1000; omega,hlen F hFl,hlen S hSl,hF,hS.ok999 (by omega)⟩
 have h2:okP 999 ⟨q,b,S,l,true⟩:=⟨h1.q,h1.c,h1.s,hl,h1.sw,s1.ok999 (by omega)⟩
 obtain ⟨r1,r2,r3,-⟩:=s1.run htl hv (by omega) 110 hvol (CI.near (q:=q) hvol)
 have h3:okP 999 ⟨q,b,S,l.map (ZdC vs 110),true⟩:=⟨h1.q,h1.c,h1.s,hlen _ (by rw [List.length_map]),h1.sw,r1.ok999 (by omega)⟩
 have hdp:∀ (X L:List Zc),(∀ w ∈ L,Yy w=true)→Zgc ⟨q,b,X,L,true⟩=true:=fun X L h=>by unfold Zgc; simp only; rw [List.all_eq_true.2 h]; rfl
 obtain ⟨X,e,a1,-,a3,a4⟩:=Zlc h1
 obtain rfl:=a4 (hdp _ _ hd) l hcol
 obtain ⟨-,l',c1,rfl,-⟩:=a3 rfl
 have el:l'=l:=by
  have c1:Yv q b=some (l',0):=c1
  rw [hcol] at c1
  exact (congrArg Prod.fst (Option.some.inj c1)).symm
 subst el
 refine ⟨a1,Ziw (x:=⟨q,b,S,l',true⟩) h3 rfl r3 (Zxr htl hv (n:=110) (by omega) 110 FU 0 q b S l' h2 hSl s1 hvol (CI.near (q:=q) hvol) (by omega) (by unfold FU; omega)),h3,?_⟩
 rw [(Zi3 (by omega) h3).1]
 have:Ze5 ⟨q,b,S,l'.map (ZdC vs 110),true⟩=(⟨q,QW S,QW (l'.map (ZdC vs 110))⟩,0):=by unfold Ze5; rw [hdp _ _ r3]; rfl
 rw [this]
theorem ZiV (l:List Int):QP l=some true:=by
 suffices h:Tot (QP l) fun b=>b=true by
  obtain ⟨b,e,rfl⟩:=Zw0 h
  exact e
 have aw:Tot (Ze XV fun y5=>some y5) fun b=>b=true:=Zz5 Zp4 (ZX rfl)
 unfold QP
 refine ZN (Zuo l) fun τ hτ=>ZN (Zqn hτ) fun y3 h3=>ZmI h3.1 (by omega) (by omega) fun y4 t1 vs1 j1 j2 j3 j4 j5=>ZmI j1 (by omega) (by omega) fun y6 t vs k1 k2 k3 k4 k5=>ZN (ZlT k1 (by omega) (by omega)) fun y8 h8=>?_
 have hq:=h3.2
 have hq4:=hq.2.1
 have hb:=h8.2
 have hgood1:Zkt vs1:=j5.good j3 (by omega)
 have hgood:Zkt vs:=k5.good k3 (by omega)
 have hv1:∀ v ∈ vs1,v.Rows.length≤10000:=fun v hv=>by have:=hgood1.2.2 v hv; omega
 have hv:∀ v ∈ vs,v.Rows.length≤10000:=fun v hv=>by have:=hgood.2.2 v hv; omega
 obtain ⟨l,e,c1,-,c3⟩:=Zga y3.1 y8.1 (by omega) (by omega)
 rw [ZaC,c1,Za]
 by_cases hne:¬ e=0
 ·have he:=hne
  rw [decide_eq_false he,Bool.not_false,Zd,Za,decide_eq_false he,Bool.not_false,Zd]
  exact aw
 have he:e=0:=Classical.not_not.1 hne
 obtain ⟨-,-,zs,cs,g1,g2,g3,g4,g5,g6⟩:=c3 he
 subst he
 obtain ⟨s1,s2,s3⟩:=ZsN hq (by omega) g3 g5
 rw [← g6] at s1 s2 s3
 have hl:l.length≤200:=by rw [g6]; simpa using g2
 have hk:(y3.1.Kind=1∨y3.1.Kind=2)∨l.length≤1:=by
  by_cases hk:y3.1.Kind=1∨y3.1.Kind=2
  ·exact .inl hk
  ·right; rw [g6,List.length_map]; exact g4 hk
 rw [decide_eq_true rfl,Bool.not_true,Zb,Ql _ (by omega),Za,ZaY _ (by omega),Za,Zcy l (by omega) (fun w hw=>(s1.wi w hw).ok),Za,Za,decide_eq_true rfl,Bool.not_true,Zb]
 have hok0:∀ w ∈ l,okW w∧w.Visits.length≤0:=fun w hw=>⟨(s1.wi w hw).ok,by have:=Ze2 hw; have:=s1.vis; omega⟩
 have hI0:PaI y3.1 y8.1 l.length 0 ⟨y3.1,y8.1,l,l,false⟩:=⟨⟨by show y3.1.Ranges.length≤1000; omega,by show y8.1.length≤1000; omega,hl,hl,hok0,hok0⟩,rfl,rfl,rfl,rfl,s1,s1⟩
 have hpl:=ZsR hgood1 6 (by omega) (PaI y3.1 y8.1 l.length) (fun _ _ h=>h.ok) (fun n p i v hn h hm h0=>h.take (by omega) (hv1 v hm) h0) (fun n p h h0=>h.turn h0) (fun n p h=>h.mono (by omega)) h8.1 hI0 (by omega)
 rw [show ((6:Nat):Int)=6 from rfl] at hpl
 refine ZN hpl fun y11 h11=>?_
 obtain ⟨-,hI⟩:=h11
 -- the collects so far, finished
 have vol110:∀ {n:Nat} {ws:List Zc},CI y3.1 n ws→n≤10→CI y3.1 110 ws∧vol vs ws≤110:=fun {n ws} h hn=>by
  have h1:=ZtC vs ws
  have h2:ZhC ws * vs.length≤20 * 5:=Nat.mul_le_mul h.tod (by omega)
  have h3:=h.vis
  exact ⟨h.mono (by omega),by omega⟩
 have hfin:∃ F S,Xr y11.1 vs=some (⟨y3.1,y8.1,F,S,true⟩,true)∧CI y3.1 110 S∧S.length=l.length∧(∀ w ∈ S,Yy w=true)∧(∀ w ∈ F,okW w∧w.Visits.length≤999)∧F.length=l.length:=by
  obtain ⟨i1,i2,i3,i4,i5,i6,i7⟩:=hI
  generalize y11.1=p at i1 i2 i3 i4 i5 i6 i7
  obtain ⟨q0,c0,F,S,T⟩:=p
  simp only at i2 i3 i4 i5 i6 i7
  subst i2 i3
  obtain ⟨f1,f2⟩:=vol110 i6 (by omega)
  obtain ⟨b1,b2⟩:=vol110 i7 (by omega)
  obtain ⟨u1,-,u3,-⟩:=b1.run k5 hv (by omega) 110 b2 (CI.near (q:=y3.1) b2)
  obtain ⟨o1,-,o3,-⟩:=f1.run k5 hv (by omega) 110 f2 (CI.near (q:=y3.1) f2)
  have i1:=i1.mono (k':=999) (by omega)
  have hSl:(S.map (ZdC vs 110)).length=l.length:=by rw [List.length_map]; exact i5
  have hFl:(F.map (ZdC vs 110)).length=l.length:=by rw [List.length_map]; exact i4
  cases T with
  | true =>
   refine ⟨F,S.map (ZdC vs 110),Ziw (p:=⟨y3.1,y8.1,F,S.map (ZdC vs 110),true⟩) (x:=⟨y3.1,y8.1,F,S,true⟩) ⟨i1.q,i1.c,i1.f,by show (S.map _).length≤200; omega,i1.fw,u1.ok999 (by omega)⟩ rfl u3 ?_,u1,hSl,u3,i1.fw,i4⟩
   exact Zxr k5 hv (n:=110) (by omega) 110 FU 0 y3.1 y8.1 F S i1 (by omega) b1 b2 (CI.near (q:=y3.1) b2) (by omega) (by unfold FU; omega)
  | false =>
   refine ⟨F.map (ZdC vs 110),S.map (ZdC vs 110),Ziw (p:=⟨y3.1,y8.1,F.map (ZdC vs 110),S.map (ZdC vs 110),true⟩) (x:=⟨y3.1,y8.1,F,S,false⟩) ⟨i1.q,i1.c,by show (F.map _).length≤200; omega,by show (S.map _).length≤200; omega,o1.ok999 (by omega),u1.ok999 (by omega)⟩ rfl u3 ?_,u1,hSl,u3,o1.ok999 (by omega),hFl⟩
   exact Zzq k5 hv (n:=110) (n2:=110) (by omega) (by omega) 110 y3.1 y8.1 S b1 b2 (CI.near (q:=y3.1) b2) 110 FU 0 F i1 (by omega) f1 f2 (CI.near (q:=y3.1) f2) (by omega) (by unfold FU; omega)
 obtain ⟨F,S,e1,hS,hSl,hSd,hF,hFl⟩:=hfin
 obtain ⟨s4,s5⟩:=vol110 s1 (by omega)
 obtain ⟨r1,r2,r3,r4⟩:=s4.run k5 hv (by omega) 110 s5 (CI.near (q:=y3.1) s5)
 have hLl:(l.map (ZdC vs 110)).length=l.length:=List.length_map ..
 obtain ⟨m1,m2,m3,m4⟩:=ZjU hq c1 (by omega) k5 k3 (by omega) s4 s5 hl hS hSl hSd F hF hFl
 obtain ⟨n1,n2,n3,n4⟩:=ZjU hq c1 (by omega) k5 k3 (by omega) s4 s5 hl r1 hLl r3 S (hS.ok999 (by omega)) hSl
 obtain ⟨a,a1,a2⟩:=Zh0 hq (n:=110) (n2:=110) (by omega) (by omega) hS r1 (hk.imp_right fun h=>by omega) (by omega) hSd r3
 obtain ⟨d,d1,d2⟩:=Zh0 hq (n:=110) (n2:=110) (by omega) (by omega) r1 r1 (hk.imp_right fun h=>by omega) rfl r3 r3
 rw [ZeE,if_pos rfl] at d1
 obtain ⟨d3,d4⟩:=d2 (ZeE _)
 obtain ⟨b',e6,e7,-,e8⟩:=ZnA t y3.1 (by omega) hq.1 k2
 obtain ⟨-,hrows⟩:=r1.tiled hq.1 (hk.imp_right fun h=>by omega) r3
 have e9:qtk y3.1.Kind y3.1.Count (YH (QW (l.map (ZdC vs 110))))=qtk y3.1.Kind y3.1.Count (Yj t (Yi y3.1.Kind y3.1.Ranges y3.1.Key y3.1.Count)):=hrows t k2 (r4 (s3 t))
 have ans:∀ x:Yq,x.Rows=qtk y3.1.Kind y3.1.Count (YH (QW (l.map (ZdC vs 110))))→ZaM x.Rows=some x.Fold→x=b':=fun x h1 h2=>by
  have hr:x.Rows=b'.Rows:=by rw [h1,e7]; exact e9
  have hf:x.Fold=b'.Fold:=by
   rw [hr,e8] at h2
   exact (Option.some.inj h2).symm
  cases x; cases b'
  simp only at hr hf
  rw [hr,hf]
 obtain rfl:=ans d d3 d4
 have hrow:=k5.rows k2
 have hsl:YO t YE=some t:=by rw [Zbp _ _ (by omega),all_in k2]
 rw [e1,Za,Bool.not_true,Zb,m1,Za,m2,Za,m4,Za,a1,Za,Zjl vs [] (by rw [hrow]; simp; omega),Za,List.nil_append,hrow,e6,Za]
 simp only [decide_true,Bool.not_true,Zb,Za]
 rw [n1,Za,n2,Za,n4,Za,d1,Za]
 simp only [decide_true,Bool.not_true,Zb,Za,ZdW,Zn,hsl,Zd]
 by_cases hs:X8 (QW S) (QW (l.map (ZdC vs 110)))=true
 ·obtain ⟨a3,a4⟩:=a2 hs
  obtain rfl:=ans a (by rw [a3,Zg3 hs]) a4
  rw [if_pos hs]
  simp only [decide_true,Zd,ZdW,Za]
  exact aw
 ·rw [if_neg hs]
  rw [show decide ((11:Int)=0)=false from rfl,show decide ((11:Int)=11)=true from rfl,Zb,Zd]
  exact aw
end Go.Proofs.YtkcmgbbopedacaaGreatDoor
