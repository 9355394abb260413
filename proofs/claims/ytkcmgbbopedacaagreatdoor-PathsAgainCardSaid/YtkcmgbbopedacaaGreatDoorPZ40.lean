/-
  Lemmas: Plain laws of the models
-/
import Derived.Test.YtkcmgbbopedacaaGreatDoorPZ35
import Derived.Test.YtkcmgbbopedacaaGreatDoorPZ28
import Derived.Test.YtkcmgbbopedacaaGreatDoorPZ36
import Derived.Test.YtkcmgbbopedacaaGreatDoorPZ39
import Derived.Test.YtkcmgbbopedacaaGreatDoorPZ18
import Derived.Test.YtkcmgbbopedacaaGreatDoorPZ27
set_option linter.unusedSimpArgs false
set_option linter.unusedVariables false
namespace Go.Proofs.YtkcmgbbopedacaaGreatDoor
open Go.RowKit
attribute [local irreducible] Tot sel bnd Ze Yz app YD lsl Zc2
def prs (p:Zh):List Zc:=bif p.Turned then p.Second else p.First
structure okP (k:Nat) (p:Zh):Prop where
 q:p.Query.Ranges.length≤1000
 c:p.Cuts.length≤1000
 f:p.First.length≤200
 s:p.Second.length≤200
 fw:∀ w ∈ p.First,okW w∧w.Visits.length≤k
 sw:∀ w ∈ p.Second,okW w∧w.Visits.length≤k
theorem okP.mono {k k':Nat} {p:Zh} (h:okP k p) (hk:k≤k'):okP k' p:=⟨h.q,h.c,h.f,h.s,fun w hw=>⟨(h.fw w hw).1,Nat.le_trans (h.fw w hw).2 hk⟩,fun w hw=>⟨(h.sw w hw).1,Nat.le_trans (h.sw w hw).2 hk⟩⟩
theorem okP.now {k:Nat} {p:Zh} (h:okP k p):∀ w ∈ prs p,okW w∧w.Visits.length≤k:=by
 obtain ⟨q,c,F,S,T⟩:=p
 cases T with
 | true=>exact h.sw
 | false=>exact h.fw
theorem Ztl (p:Zh):Q8 p=prs p∧Q4 p=prs p:=by
 obtain ⟨q,c,F,S,T⟩:=p
 unfold Q8 Q4 prs
 cases T with
 | true=>simp only [Zd]; exact ⟨rfl,rfl⟩
 | false=>simp only [Zb]; exact ⟨rfl,rfl⟩
theorem ZiN {k:Nat} {p:Zh} (h:okP k p):Qw p=some p:=by
 have h1:=h.q
 have h2:=h.c
 have h3:=h.f
 have h4:=h.s
 unfold Qw
 rw [Ql _ (by omega),Za,ZaY _ (by omega),Za,Zcy _ (by omega) (fun w hw=>(h.fw w hw).1),Za,Zcy _ (by omega) (fun w hw=>(h.sw w hw).1),Za]
def atP (p:Zh) (i:Int):Option Zc:=if i<0 then none else (prs p)[i.toNat]?
def Zt5 (p:Zh) (i:Int):Rng × Bool:=match atP p i with
 | none=>(zr,false)
 | some w=>XP w
def Zxs (p:Zh) (m:Nat) (w:Zc):Zh:=bif p.Turned then ⟨p.Query,p.Cuts,p.First,p.Second.set m w,true⟩ else ⟨p.Query,p.Cuts,p.First.set m w,p.Second,false⟩
def Zer (p:Zh) (i:Int) (v:Zr):Zh × Int:=match atP p i with
 | none=>(PP0,2)
 | some w=>if (Xg w v).2=0 then (Zxs p i.toNat (Xg w v).1,0) else (PP0,(Xg w v).2)
theorem Zmu (p:Zh) (i:Int):(atP p i=none∧∀ l:List Zc,l.length=(prs p).length→(Ze (sel (decide (i<0)) (some true) (some (decide ((l.length:Int)≤i))):Option Bool) fun x=>(some x:Option Bool))=some true)∨∃ m w,i=((m:Nat):Int)∧(prs p)[m]?=some w∧w ∈ prs p∧atP p i=some w∧∀ l:List Zc,l.length=(prs p).length→(Ze (sel (decide (i<0)) (some true) (some (decide ((l.length:Int)≤i))):Option Bool) fun x=>(some x:Option Bool))=some false:=by
 unfold atP
 by_cases h0:i<0
 ·exact .inl ⟨if_pos h0,fun l _=>by rw [decide_eq_true h0,Zd,Za]⟩
 ·obtain ⟨m,rfl⟩:=Int.eq_ofNat_of_zero_le (show 0≤i by omega)
  rw [if_neg h0,Int.toNat_natCast]
  cases hl:(prs p)[m]? with
  | none =>
   have:=List.getElem?_eq_none_iff.1 hl
   exact .inl ⟨rfl,fun l e=>by rw [decide_eq_false h0,Zb,Za,decide_eq_true (by omega)]⟩
  | some w =>
   have h1:=(List.getElem?_eq_some_iff.1 hl).1
   exact .inr ⟨m,w,rfl,hl,List.mem_of_getElem? hl,rfl,fun l e=>by rw [decide_eq_false h0,Zb,Za,decide_eq_false (by omega)]⟩
theorem Zil {α:Type} (x:Option α):(Ze x fun a=>some a)=x:=by
 cases x with
 | none=>rw [Zfh]
 | some a=>rw [Za]
theorem Zng {k:Nat} {p:Zh} (h:okP k p) (i:Int):ZeF p i=some (Zt5 p i)∧Za9 p i=some (Zt5 p i):=by
 obtain ⟨e1,e2⟩:=Ztl p
 unfold ZeF Za9 Zt5
 rw [e1,e2,Zn,Zn]
 rcases Zmu p i with ⟨g1,g2⟩ | ⟨m,w,rfl,g1,g2,g3,g4⟩
 ·have g:=g2 (prs p) rfl
  rw [Zil] at g
  simp only [g,Za,Zd,g1]
  constructor <;> first | trivial | rfl
 ·have g:=g4 (prs p) rfl
  rw [Zil] at g
  have hw:=(h.now w g2).1
  simp only [g,Za,Zb,g3,Yc,g1,Zf0 hw,Zfo hw]
  constructor <;> first | trivial | rfl
theorem ZhR {k:Nat} {p:Zh} (h:okP k p) (i:Int) (v:Zr) (hv:v.Rows.length≤10000):Zdb p i v=some (Zer p i v)∧ZaX p i v=some (Zer p i v):=by
 obtain ⟨e1,e2⟩:=Ztl p
 have hl:(prs p).length≤200:=by
  have:=h.f
  have:=h.s
  unfold prs
  cases p.Turned with
  | true=>exact h.s
  | false=>exact h.f
 unfold Zdb ZaX Zer
 rw [e1,e2,Zn,Zn,ZW (by simp; omega),Za,List.nil_append,ZiN h]
 rcases Zmu p i with ⟨g1,g2⟩ | ⟨m,w,rfl,g1,g2,g3,g4⟩
 ·have g:=g2 (prs p) rfl
  rw [Zil] at g
  simp only [g,Za,Zd,g1]
  constructor <;> first | trivial | rfl
 ·have g:=g4 (prs p) rfl
  rw [Zil] at g
  have hw:=(h.now w g2).1
  simp only [g,Za,Zb,g3,Yc,g1,ZiU hw v hv]
  obtain ⟨q,c,F,S,T⟩:=p
  cases T with
  | true =>
   have g1:S[m]?=some w:=g1
   simp only [Zd,g1,Za,Zf8 hw v hv]
   by_cases ht:(Xg w v).2=0
   ·simp only [decide_eq_true ht,Bool.not_true,Zb,Za,Zn,if_pos ht,Zd]
    exact ⟨rfl,rfl⟩
   ·simp only [decide_eq_false ht,Bool.not_false,Zd,if_neg ht]
    exact ⟨trivial,trivial⟩
  | false =>
   have g1:F[m]?=some w:=g1
   simp only [Zb,g1,Za,Zf8 hw v hv]
   by_cases ht:(Xg w v).2=0
   ·simp only [decide_eq_true ht,Bool.not_true,Zb,Za,Zn,if_pos ht,Zb]
    exact ⟨rfl,rfl⟩
   ·simp only [decide_eq_false ht,Bool.not_false,Zd,if_neg ht]
    exact ⟨trivial,trivial⟩
theorem Zsj {k:Nat} (hk:k≤999) {p:Zh} (h:okP k p) {i:Int} {v:Zr} (hv:v.Rows.length≤10000) (h0:(Zer p i v).2=0):okP (k+1) (Zer p i v).1:=by
 unfold Zer at h0 ⊢
 cases ha:atP p i with
 | none=>rw [ha] at h0; exact absurd (show (2:Int)=0 from h0) (by decide)
 | some w =>
  rw [ha] at h0
  simp only at h0 ⊢
  by_cases ht:(Xg w v).2=0
  ·rw [if_pos ht]
   have hm:w ∈ prs p:=by
    unfold atP at ha
    split at ha
    ·cases ha
    ·exact List.mem_of_getElem? ha
   have hw:=h.now w hm
   have hn:=ZpK hw.1 (by omega) v hv
   have h':=h.mono (Nat.le_succ k)
   unfold Zxs
   obtain ⟨q,c,F,S,T⟩:=p
   cases T with
   | true=>exact ⟨h.q,h.c,h.f,(by show (List.set _ _ _).length≤200; rw [List.length_set]; exact h.s),h'.fw,fun x hx=>by
    rcases List.mem_or_eq_of_mem_set hx with hx | rfl
    ·exact h'.sw x hx
    ·exact ⟨hn.1,by omega⟩⟩
   | false=>exact ⟨h.q,h.c,(by show (List.set _ _ _).length≤200; rw [List.length_set]; exact h.f),h.s,(fun x hx=>by
    rcases List.mem_or_eq_of_mem_set hx with hx | rfl
    ·exact h'.fw x hx
    ·exact ⟨hn.1,by omega⟩),h'.sw⟩
  ·rw [if_neg ht] at h0
   exact absurd h0 ht
theorem ZhU:∀ l:List Zc,(∀ w ∈ l,okW w)→Zb5 l=some (l.all Yy)∧QZ l=some (l.all Yy):=by
 have key:∀ l:List Zc,(∀ w ∈ l,okW w)→Q5 l=some (sel (l.all Yy) (.nxt ()) (.ret false))∧XO l=some (sel (l.all Yy) (.nxt ()) (.ret false)):=fun l=>by
  induction l with
  | nil=>intro _; rw [Q5,XO,List.all_nil,Zd]; exact ⟨rfl,rfl⟩
  | cons w l ih =>
   intro h
   have hw:=h w List.mem_cons_self
   obtain ⟨i1,i2⟩:=ih fun x hx=>h x (List.mem_cons_of_mem _ hx)
   rw [Q5,XO,Zf3 hw,Zfk hw,i1,i2,List.all_cons]
   simp only [Za]
   cases Yy w with
   | true=>simp only [Bool.not_true,Zb,Bool.true_and,and_self]
   | false=>simp only [Bool.not_false,Zd,Bool.false_and,Zb,and_self]
 intro l h
 obtain ⟨k1,k2⟩:=key l h
 unfold Zb5 QZ
 rw [k1,k2]
 cases l.all Yy with
 | true=>simp only [Za,Zd,ZB,and_self]
 | false=>simp only [Za,Zb,Yo,and_self]
def Zgc (p:Zh):Bool:=p.Turned && p.Second.all Yy
theorem ZeH {k:Nat} {p:Zh} (h:okP k p):Zbf p=some (Zgc p)∧Qc p=some (Zgc p):=by
 obtain ⟨e1,e2⟩:=ZhU p.Second fun w hw=>(h.sw w hw).1
 unfold Zbf Qc Zgc
 rw [e1,e2]
 cases p.Turned with
 | true=>simp only [Za,Zd,Bool.true_and,and_self]
 | false=>simp only [Za,Zb,Bool.false_and,and_self]
def Zbb (p:Zh):Zh × Int:=bif p.Turned || !p.First.all Yy then (PP0,7) else (⟨p.Query,p.Cuts,p.First,p.Second,true⟩,0)
theorem ZfL {k:Nat} {p:Zh} (h:okP k p):Zdc p=some (Zbb p)∧Zdk p=some (Zbb p):=by
 obtain ⟨e1,e2⟩:=ZhU p.First fun w hw=>(h.fw w hw).1
 unfold Zdc Zdk Zbb
 rw [e1,e2,ZiN h]
 cases p.Turned with
 | true=>simp only [Za,Zd]; exact ⟨rfl,rfl⟩
 | false =>
  cases p.First.all Yy with
  | true=>simp only [Za,Zb,Bool.not_true]; exact ⟨rfl,rfl⟩
  | false=>simp only [Za,Zb,Zd,Bool.not_false]; exact ⟨rfl,rfl⟩
theorem ZsQ {k:Nat} {p:Zh} (h:okP k p) (h0:(Zbb p).2=0):(Zbb p).1=⟨p.Query,p.Cuts,p.First,p.Second,true⟩∧p.Turned=false∧p.First.all Yy=true∧okP k (Zbb p).1:=by
 unfold Zbb at h0 ⊢
 cases hT:p.Turned with
 | true=>rw [hT] at h0; exact absurd (show (7:Int)=0 from h0) (by decide)
 | false =>
  rw [hT] at h0
  cases hd:p.First.all Yy with
  | false=>rw [hd] at h0; exact absurd (show (7:Int)=0 from h0) (by decide)
  | true=>exact ⟨rfl,rfl,rfl,h.q,h.c,h.f,h.s,h.fw,h.sw⟩
theorem Zlc {k:Nat} {p:Zh} (h:okP k p):∃ (X:Zh) (e:Int),Zaz p=some (X,e)∧ZdT p=some (X,e)∧(e=0→Zgc p=true∧∃ l,Yv p.Query p.Cuts=some (l,0)∧X=⟨p.Query,p.Cuts,p.Second,l,p.Turned⟩∧okP k X)∧(Zgc p=true→∀ l,Yv p.Query p.Cuts=some (l,0)→e=0):=by
 obtain ⟨l,e,c1,c2,c3⟩:=Zga p.Query p.Cuts h.q h.c
 obtain ⟨d1,d2⟩:=ZeH h
 unfold Zaz ZdT
 rw [d1,d2,c1,c2,ZiN h]
 simp only [Za]
 cases hd:Zgc p with
 | false =>
  simp only [Bool.not_false,Zd]
  exact ⟨_,_,rfl,rfl,fun h=>absurd h (by decide),fun h=>by cases h⟩
 | true =>
  simp only [Bool.not_true,Zb]
  by_cases he:e=0
  ·obtain ⟨g1,-,zs,cs,-,g3,-,-,g4,g5⟩:=c3 he
   subst he
   simp only [decide_true,Bool.not_true,Zb,if_true]
   refine ⟨_,_,rfl,rfl,fun _=>⟨by trivial,l,rfl,rfl,h.q,h.c,h.s,?_,h.sw,?_⟩,fun _ _ _=>rfl⟩
   ·show l.length≤200
    rw [g5]; simpa using g3
   ·intro w hw
    have hw:w ∈ l:=hw
    rw [g5] at hw
    refine ⟨ZtH h.q g4 w hw,?_⟩
    obtain ⟨z,-,rfl⟩:=List.mem_map.1 hw
    exact Nat.zero_le _
  ·simp only [decide_eq_false he,Bool.not_false,Zd]
   exact ⟨_,_,rfl,rfl,fun h=>absurd h he,fun _ l' hl=>absurd (congrArg Prod.snd (Option.some.inj hl)) he⟩
theorem Ziq {k:Nat}:∀ {l:List Zc},(∀ w ∈ l,okW w∧w.Visits.length≤k)→(QW l).length≤l.length * k∧∀ v ∈ QW l,v.View.Rows.length≤10000
 | [],_=>by simp [QW]
 | w::l,h=>by
  obtain ⟨i1,i2⟩:=Ziq (l:=l) fun x hx=>h x (List.mem_cons_of_mem _ hx)
  have hw:=h w List.mem_cons_self
  have hw2:=hw.2
  unfold QW at i1 i2 ⊢
  rw [List.flatMap_cons,List.length_append,List.length_cons,Nat.succ_mul]
  refine ⟨by omega,fun v hv=>?_⟩
  rcases List.mem_append.1 hv with hv | hv
  ·exact hw.1.rows v hv
  ·exact i2 v hv
def Ze5 (p:Zh):Z7 × Int:=bif Zgc p then (⟨p.Query,QW p.First,QW p.Second⟩,0) else (⟨⟨0,[],⟨#[]⟩,0⟩,[],[]⟩,7)
theorem Zi3 {k:Nat} (hk:k≤1000) {p:Zh} (h:okP k p):Qk p=some (Ze5 p)∧Zcx p=some (Ze5 p):=by
 obtain ⟨d1,d2⟩:=ZeH h
 obtain ⟨a1,a2⟩:=Ziq h.fw
 obtain ⟨b1,b2⟩:=Ziq h.sw
 have h1:=Nat.mul_le_mul h.f hk
 have h2:=Nat.mul_le_mul h.s hk
 have h3:=h.q
 obtain ⟨m1,m2⟩:=Zuw p.Query p.First p.Second (by omega) (by omega) (by omega) a2 b2
 unfold Qk Zcx Ze5
 rw [d1,d2,m1,m2]
 cases Zgc p with
 | true=>simp only [Za,Bool.not_true,Zb]; exact ⟨rfl,rfl⟩
 | false=>simp only [Za,Bool.not_false,Zd]; exact ⟨rfl,rfl⟩
theorem ZpJ {vs:List Zr} (hv:Zkt vs) (most:Nat) (hm:most≤100) (I:Nat→Zh→Prop) (hok:∀ n p,I n p→okP n p) (htake:∀ n p i v,n≤500→I n p→v ∈ vs→(Zer p i v).2=0→I (n+1) (Zer p i v).1) (hturn:∀ n p,I n p→(Zbb p).2=0→I n (Zbb p).1) (hmono:∀ n p,I n p→I (n+1) p) :
   ∀ (fuel:Nat) (l:List Int) (a:Int) (p:Zh) (j n:Nat),okT ⟨l,a⟩→I n p→n+(most - j)≤500→j≤most→most - j<fuel →
   Tot (YG vs (most:Int) fuel l a p.Query.Kind p.Query.Ranges p.Query.Key p.Query.Count p.Cuts p.First p.Second p.Turned (j:Int)) fun z=>okT ⟨z.2.2.2.2.2.2.2.2.1,z.2.2.2.2.2.2.2.2.2⟩∧I (n+(most - j)) ⟨⟨z.1,z.2.1,z.2.2.1,z.2.2.2.1⟩,z.2.2.2.2.1,z.2.2.2.2.2.1,z.2.2.2.2.2.2.1,z.2.2.2.2.2.2.2.1⟩
 | 0,_,_,_,_,_,_,_,_,_,h=>absurd h (by omega)
 | fuel+1,l,a,p,j,n,h,hI,hn,hj,hf=>by
  have up:∀ (d:Nat) (n:Nat) (p:Zh),I n p→I (n+d) p:=fun d=>by
   induction d with
   | zero=>intro n p h; exact h
   | succ d ih=>intro n p h; exact hmono _ _ (ih n p h)
  have hp:=hok n p hI
  rw [YG]
  refine ZN (R:=fun z=>okT ⟨z.1,z.2.1⟩∧(z.2.2=true→j<most)) (Ye (fun h1=>ZaH (ZX ⟨h,fun _=>by have:=of_decide_eq_true h1; omega⟩)) fun _=>ZX ⟨h,by simp⟩) ?_
  rintro ⟨x17,x18,x19⟩ ⟨g1,g2⟩
  simp only at g1 g2 ⊢
  refine ZeX (R:=fun _=>j<most) (Ye (fun h1=>ZX (g2 h1)) fun _=>ZX ⟨g1,up _ n p hI⟩) fun _ hjm=>?_
  refine ZN (Zd7 g1 (by have:=hp.f; omega)) fun y20 h20=>?_
  obtain ⟨w1,w2⟩:=Zng hp y20.1
  rw [show (Zh.mk (Zf.mk p.Query.Kind p.Query.Ranges p.Query.Key p.Query.Count) p.Cuts p.First p.Second p.Turned)=p from rfl,w2,Za,Zn]
  refine ZN (Zqc h20.1 hv _ _) fun y23 h23=>?_
  have hr:y23.1.Rows.length≤10000:=by have:=hv.2.2 _ h23.2; omega
  rw [(ZhR hp y20.1 y23.1 hr).2,Za]
  have hi:ZJ ((j:Int)+1)=((j+1:Nat):Int):=by rw [ZA (by omega) (by omega)]; omega
  rw [hi]
  refine ZN (R:=fun z=>I (n+1) ⟨⟨z.1,z.2.1,z.2.2.1,z.2.2.2.1⟩,z.2.2.2.2.1,z.2.2.2.2.2.1,z.2.2.2.2.2.2.1,z.2.2.2.2.2.2.2⟩) (Ye (fun h1=>ZX (htake n p _ _ (by omega) hI h23.2 (of_decide_eq_true h1))) fun _=>ZX (hmono n p hI)) ?_
  rintro ⟨p25,p26,p27,p28,p29,p30,p31,p32⟩ hI2
  simp only at hI2 ⊢
  generalize hP:(Zh.mk (Zf.mk p25 p26 p27 p28) p29 p30 p31 p32)=P at hI2 ⊢
  have hp2:=hok _ _ hI2
  have next:∀ (τ:ZC) (P:Zh),okT τ→I (n+1) P→Tot (YG vs (most:Int) fuel τ.l τ.at_ P.Query.Kind P.Query.Ranges P.Query.Key P.Query.Count P.Cuts P.First P.Second P.Turned ((j+1:Nat):Int)) fun z=>okT ⟨z.2.2.2.2.2.2.2.2.1,z.2.2.2.2.2.2.2.2.2⟩∧I (n+(most - j)) ⟨⟨z.1,z.2.1,z.2.2.1,z.2.2.2.1⟩,z.2.2.2.2.1,z.2.2.2.2.2.1,z.2.2.2.2.2.2.1,z.2.2.2.2.2.2.2.1⟩:=fun τ P k1 k2=>by
   have:=ZpJ hv most hm I hok htake hturn hmono fuel τ.l τ.at_ P (j+1) (n+1) k1 k2 (by omega) (by omega) (by omega)
   rw [show n+1+(most - (j+1))=n+(most - j) by omega] at this
   exact this
  have stay:=next y23.2 P h23.1 hI2
  rw [← hP] at stay
  rw [(ZfL hp2).2,Za]
  refine Ye (fun h1=>ZN (Ze3 h23.1 (by omega)) fun y34 h34=>Ye (fun _=>next y34.2 _ h34 (hturn _ _ hI2 (of_decide_eq_true h1))) fun _=>?_) fun _=>stay
  have:=next y34.2 P h34 hI2
  rw [← hP] at this
  exact this
theorem ZsR {vs:List Zr} (hv:Zkt vs) (most:Nat) (hm:most≤100) (I:Nat→Zh→Prop) (hok:∀ n p,I n p→okP n p) (htake:∀ n p i v,n≤500→I n p→v ∈ vs→(Zer p i v).2=0→I (n+1) (Zer p i v).1) (hturn:∀ n p,I n p→(Zbb p).2=0→I n (Zbb p).1) (hmono:∀ n p,I n p→I (n+1) p)
   {τ:ZC} (h:okT τ) {p:Zh} {n:Nat} (hI:I n p) (hn:n+most≤500):Tot (Zc8 τ p vs (most:Int)) fun y=>okT y.2∧I (n+most) y.1:=by
 unfold Zc8
 refine ZN (ZpJ hv most hm I hok htake hturn hmono FU τ.l τ.at_ p 0 n h hI (by omega) (by omega) (by unfold FU; omega)) ?_
 rintro ⟨p35,p36,p37,p38,p39,p40,p41,p42,x43,x44⟩ ⟨g1,g2⟩
 exact ZX ⟨g1,g2⟩
end Go.Proofs.YtkcmgbbopedacaaGreatDoor
namespace Go.Proofs.YtkcmgbbopedacaaGreatDoor
open Go.RowKit
theorem Zww {t:List Kv} {p q:Kv→Bool} (ht:t.Pairwise fun a b=>bl a.key b.key=true) (h:∀ x y,p x=true→q y=true→bl x.key y.key=true):t.filter p++t.filter q=t.filter fun x=>p x || q x:=by
 induction t with
 | nil=>rfl
 | cons x t ih =>
  obtain ⟨h1,h2⟩:=List.pairwise_cons.1 ht
  rw [List.filter_cons,List.filter_cons,List.filter_cons]
  have irr:∀ k:ByteArray,bl k k=false:=fun k=>YA k.toList
  have tr:∀ a b c:ByteArray,bl a b=true→bl b c=true→bl a c=true:=fun a b c g1 g2=>Yx g1 g2
  cases hp:p x with
  | true =>
   have hq:q x=false:=by
    cases hq:q x with
    | false=>rfl
    | true=>have:=h x x hp hq; rw [irr] at this; cases this
   simp only [hq,Bool.true_or,if_true,Bool.false_eq_true,if_false,List.cons_append]
   rw [ih h2]
  | false =>
   cases hq:q x with
   | false =>
    simp only [Bool.or_self,Bool.false_eq_true,if_false]
    exact ih h2
   | true =>
    have none:t.filter p=[]:=List.filter_eq_nil_iff.2 fun y hy hpy=>by
     have g1:=h1 y hy
     have g2:=h y x hpy hq
     have:=tr _ _ _ g1 g2
     rw [irr] at this; cases this
    simp only [Bool.false_or,if_true,Bool.false_eq_true,if_false]
    rw [none,List.nil_append]
    have e:t.filter (fun x=>p x || q x)=t.filter q:=by
     have:=ih h2
     rw [none,List.nil_append] at this
     exact this.symm
    rw [e]
theorem Zf7 {r:Rng} {k:ByteArray} (h:contains r k=true):emp r=false∧vk k=true∧Bnd.lt ⟨k,false⟩ r.lo=false∧Bnd.lt ⟨k,false⟩ r.hi=true:=by
 cases he:emp r with
 | true=>rw [ZbC he] at h; cases h
 | false=>exact ⟨rfl,(ZeB he k).1 h⟩
theorem Zyp (a b:ByteArray):Bnd.lt ⟨a,false⟩ ⟨b,false⟩=bl a b:=by simp [Bnd.lt,bl]
theorem Zc9 {t:List Kv} (ht:Yu t=true):∀ {l:List Rng},(∀ r ∈ l,emp r=false)→l.Pairwise (fun a b=>b.lo.lt a.hi=false)→Yj t l=t.filter fun x=>l.any fun r=>contains r x.key
 | [],_,_=>by simp [Yj]
 | r::l,h1,h2=>by
  obtain ⟨s1,s2⟩:=List.pairwise_cons.1 h2
  have ih:=Zc9 ht (l:=l) (fun x hx=>h1 x (List.mem_cons_of_mem _ hx)) s2
  have e:Yj t (r::l)=t.filter (fun x=>contains r x.key)++Yj t l:=by simp [Yj]
  rw [e,ih,Zww ((XC t).1 ht).2.2 (q:=fun x=>l.any fun r=>contains r x.key) fun x y hx hy=>?_]
  ·simp only [List.any_cons]
  ·obtain ⟨c,hc,hcy⟩:=List.any_eq_true.1 hy
   obtain ⟨g1,g2,g3,g4⟩:=Zf7 hx
   obtain ⟨k1,k2,k3,k4⟩:=Zf7 hcy
   have v1:=(ZE r).1 g1
   have v2:=(ZE c).1 k1
   have hs:=s1 c hc
   have vy:vb ⟨y.key,false⟩=true:=by simp [vb,k2]
   have a1:Bnd.lt ⟨x.key,false⟩ c.lo=true:=Zee v1.2.1 v2.1 g4 hs
   have a2:Bnd.lt ⟨x.key,false⟩ ⟨y.key,false⟩=true:=Zee v2.1 vy a1 k3
   rwa [Zyp] at a2
theorem ZuC {l m:List Rng} (h1:∀ r ∈ l,emp r=false) (h2:∀ r ∈ m,emp r=false) (h:∀ b,vb b=true→(Pt l b↔Pt m b)) {k:ByteArray} (hk:vk k=true):(l.any fun r=>contains r k)=m.any fun r=>contains r k:=by
 have a1:=ZoC (l:=l) hk
 have a2:=ZoC (l:=m) hk
 rw [Zbu h1] at a1
 rw [Zbu h2] at a2
 have:=h ⟨k,false⟩ (by simp [vb,hk])
 rw [Bool.eq_iff_iff,a1,a2]; exact this
theorem Gd.slices {t:List Kv} (ht:Yu t=true) {l m:List Rng} (g:Gd l m) (hm:Nrm m):Yj t l=Yj t m:=by
 rw [Zc9 ht g.ne g.srt,Zc9 ht hm.ne (hm.gap.imp fun g=>Yd g)]
 refine List.filter_congr fun x hx=>?_
 have hv:=((XC t).1 ht).2.1 x hx
 simp only [ZhB,Bool.and_eq_true] at hv
 exact ZuC g.ne hm.ne g.pts hv.1
theorem Zhd (t:List Kv) (a b:List Rng):Yj t (a++b)=Yj t a++Yj t b:=by simp [Yj]
theorem Tl.pts {t:List Kv}:∀ {l:List Zr} {a b:Bnd},Tl t a l b→vb a=true→b.lt a=false∧vb b=true∧(∀ v ∈ l,v.Interval.lo.lt a=false)∧(l.map (·.Interval)).Pairwise (fun x y=>y.lo.lt x.hi=false)∧∀ k,vb k=true→(Pt (l.map (·.Interval)) k↔k.lt a=false∧k.lt b=true)
 | [],a,b,h,ha=>by
  obtain rfl:a=b:=h
  refine ⟨lt_irrefl _,ha,by simp,by simp,fun k hk=>?_⟩
  constructor
  ·intro h; exact absurd h ZfV
  ·rintro ⟨h1,h2⟩; rw [h1] at h2; cases h2
 | v::l,a,b,⟨g1,g2,g3,g4,g5⟩,ha=>by
  obtain ⟨e1,e2,e3⟩:=(ZE v.Interval).1 g2
  obtain ⟨i1,i2,i3,i4,i5⟩:=g5.pts e2
  rw [← g1]
  have hb:v.Interval.lo.lt b=true:=by
   cases hh:v.Interval.lo.lt b with
   | true=>rfl
   | false =>
    exfalso
    cases h2:b.lt v.Interval.lo with
    | true=>rw [lt_trans h2 e3] at i1; cases i1
    | false =>
     have e:=QH e1 i2 hh h2
     rw [← e,e3] at i1; cases i1
  refine ⟨Yd hb,i2,fun x hx=>?_,?_,fun k hk=>?_⟩
  ·rcases List.mem_cons.1 hx with rfl | hx
   ·exact lt_irrefl _
   ·have h1:=i3 x hx
    cases hh:x.Interval.lo.lt v.Interval.lo with
    | false=>rfl
    | true=>rw [lt_trans hh e3] at h1; cases h1
  ·rw [List.map_cons,List.pairwise_cons]
   refine ⟨fun x hx=>?_,i4⟩
   obtain ⟨y,hy,rfl⟩:=List.mem_map.1 hx
   exact i3 y hy
  ·rw [List.map_cons,Z0,i5 k hk]
   constructor
   ·rintro (⟨h1,h2⟩ | ⟨h1,h2⟩)
    ·refine ⟨h1,?_⟩
     cases hh:k.lt b with
     | true=>rfl
     | false =>
      have h3:=Zee e2 i2 h2 i1
      rw [h3] at hh; cases hh
    ·refine ⟨?_,h2⟩
     cases hh:k.lt v.Interval.lo with
     | false=>rfl
     | true=>rw [lt_trans hh e3] at h1; cases h1
   ·rintro ⟨h1,h2⟩
    cases hh:k.lt v.Interval.hi with
    | true=>exact .inl ⟨h1,rfl⟩
    | false=>exact .inr ⟨rfl,h2⟩
theorem ZtB (k:ByteArray):Bnd.lt ⟨k,false⟩ ZdB=true:=by simp [Bnd.lt,ZdB]
theorem Zwh (k:ByteArray):Bnd.lt ⟨k,false⟩ zb=false:=by
 show Bnd.lt ⟨k,false⟩ ⟨⟨#[]⟩,false⟩=false
 have e:(⟨#[]⟩:ByteArray).toList=[]:=by kernel_rfl
 simp only [Bnd.lt,Bool.not_false,Bool.true_and,Bool.false_or]
 rw [e]
 cases k.toList <;> rfl
theorem Zvx:vb zb=true:=by kernel_rfl
theorem Tl.rows {t:List Kv} (ht:Yu t=true) {vs:List Zr} (h:Tl t zb vs ZdB):vs.flatMap (·.Rows)=t:=by
 obtain ⟨-,-,-,h4,h5⟩:=h.pts Zvx
 have e:vs.flatMap (·.Rows)=Yj t (vs.map (·.Interval)):=by
  unfold Yj
  rw [List.flatMap_map]
  have:∀ l:List Zr,(∀ v ∈ l,v ∈ vs)→l.flatMap (·.Rows)=l.flatMap fun v=>t.filter fun x=>contains v.Interval x.key:=fun l=>by
   induction l with
   | nil=>intro _; rfl
   | cons v l ih =>
    intro hl
    rw [List.flatMap_cons,List.flatMap_cons,ih fun x hx=>hl x (List.mem_cons_of_mem _ hx),(h.mem v (hl v List.mem_cons_self)).2.1]
  exact this vs fun _ h=>h
 have hne:∀ r ∈ vs.map (·.Interval),emp r=false:=fun r hr=>by
  obtain ⟨v,hv,rfl⟩:=List.mem_map.1 hr
  exact (h.mem v hv).2.2
 rw [e,Zc9 ht hne h4]
 refine List.filter_eq_self.2 fun x hx=>?_
 have hv:=((XC t).1 ht).2.1 x hx
 simp only [ZhB,Bool.and_eq_true] at hv
 have:=ZoC (l:=vs.map (·.Interval)) hv.1
 rw [Zbu hne] at this
 exact this.2 ((h5 ⟨x.key,false⟩ (by simp [vb,hv.1])).2 ⟨Zwh _,ZtB _⟩)
end Go.Proofs.YtkcmgbbopedacaaGreatDoor
namespace Go.Proofs.YtkcmgbbopedacaaGreatDoor
open Go.RowKit
theorem ov {a b:Rng} (ha:emp a=false) (hb:emp b=false):emp (Yt a b)=false↔a.lo.lt b.hi=true∧b.lo.lt a.hi=true:=by
 obtain ⟨a1,a2,a3⟩:=(ZE a).1 ha
 obtain ⟨b1,b2,b3⟩:=(ZE b).1 hb
 have e:(greater a.lo b.lo).lt (lesser a.hi b.hi)=true↔a.lo.lt b.hi=true∧b.lo.lt a.hi=true:=by
  rw [Qh,Zby]
  cases h1:a.lo.lt b.lo <;> cases h2:b.hi.lt a.hi <;> simp only [Bool.false_eq_true,if_true,if_false]
  ·constructor
   ·intro h
    refine ⟨?_,Zku a1 b1 h1 h⟩
    cases hh:a.lo.lt b.hi with
    | true=>rfl
    | false =>
     have:=Zku a1 b2 hh h
     rw [this] at h2; cases h2
   ·rintro ⟨_,_⟩; exact a3
  ·constructor
   ·intro h; exact ⟨h,Zku a1 b1 h1 (lt_trans h h2)⟩
   ·rintro ⟨h,_⟩; exact h
  ·constructor
   ·intro h; exact ⟨lt_trans h1 b3,h⟩
   ·rintro ⟨_,h⟩; exact h
  ·constructor
   ·intro _; exact ⟨lt_trans h1 b3,lt_trans b3 h2⟩
   ·intro _; exact b3
 rw [Zc6 ha hb]
 cases h:(greater a.lo b.lo).lt (lesser a.hi b.hi) with
 | true =>
  rw [h] at e
  simp only [if_true]
  rw [Zei (Zd8 a1 b1) (ZgW a2 b2),h]
  exact ⟨fun _=>e.1 rfl,fun _=>rfl⟩
 | false =>
  rw [h] at e
  simp only [Bool.false_eq_true,if_false,ZfU]
  exact ⟨(fun h=>by cases h),fun h=>absurd (e.2 h) (by simp)⟩
def cnt (vs:List Zr) (r:Rng):Nat:=(vs.filter fun v=>!emp (Yt v.Interval r)).length
def Zeq (vs:List Zr) (l:List Rng):Nat:=(l.map (cnt vs)).foldr (· + ·) 0
theorem ZwW (vs:List Zr) (r:Rng):cnt vs r≤vs.length:=List.length_filter_le _ _
theorem Zgp (vs:List Zr):∀ a b:List Rng,Zeq vs (a++b)=Zeq vs a+Zeq vs b
 | [],b=>by simp [Zeq]
 | r::a,b=>by
  have:=Zgp vs a b
  simp only [Zeq,List.cons_append,List.map_cons,List.foldr_cons] at this ⊢
  omega
theorem Zma (vs:List Zr) (r:Rng):Zeq vs [r]=cnt vs r:=by simp [Zeq]
theorem Zjw (vs:List Zr) (r:Rng) (a:List Rng):Zeq vs (r::a)=cnt vs r+Zeq vs a:=by simp [Zeq]
theorem ZoT (vs:List Zr):∀ l:List Rng,Zeq vs l≤l.length * vs.length
 | []=>by simp [Zeq]
 | r::l=>by
  rw [Zjw,List.length_cons,Nat.succ_mul]
  have:=ZwW vs r
  have:=ZoT vs l
  omega
theorem cnt_lt {vs:List Zr} {v:Zr} (hv:v ∈ vs) (hne:∀ u ∈ vs,emp u.Interval=false) {x y:Rng} (hx:emp x=false) (hy:emp y=false) (h1:emp (Yt v.Interval x)=false) (h2:emp (Yt v.Interval y)=true) (hsub:∀ u ∈ vs,emp (Yt u.Interval y)=false→emp (Yt u.Interval x)=false):cnt vs y<cnt vs x:=by
 unfold cnt
 have key:∀ l:List Zr,(∀ u ∈ l,u ∈ vs)→(l.filter fun v=>!emp (Yt v.Interval y)).length≤(l.filter fun v=>!emp (Yt v.Interval x)).length∧(v ∈ l→(l.filter fun v=>!emp (Yt v.Interval y)).length<(l.filter fun v=>!emp (Yt v.Interval x)).length):=by
  intro l
  induction l with
  | nil=>intro _; exact ⟨Nat.le_refl _,fun h=>by simp at h⟩
  | cons u l ih =>
   intro hl
   obtain ⟨i1,i2⟩:=ih fun z hz=>hl z (List.mem_cons_of_mem _ hz)
   have hu:=hl u List.mem_cons_self
   rw [List.filter_cons,List.filter_cons]
   cases he:emp (Yt u.Interval y) with
   | false =>
    rw [hsub u hu he]
    simp only [Bool.not_false,if_true,List.length_cons]
    refine ⟨by omega,fun hm=>?_⟩
    rcases List.mem_cons.1 hm with rfl | hm
    ·rw [h2] at he; cases he
    ·have:=i2 hm; omega
   | true =>
    cases he2:emp (Yt u.Interval x) with
    | false =>
     simp only [Bool.not_true,Bool.not_false,Bool.false_eq_true,if_false,if_true,List.length_cons]
     exact ⟨by omega,fun _=>by omega⟩
    | true =>
     simp only [Bool.not_true,Bool.false_eq_true,if_false]
     refine ⟨i1,fun hm=>?_⟩
     rcases List.mem_cons.1 hm with rfl | hm
     ·rw [h1] at he2; cases he2
     ·exact i2 hm
 exact (key vs fun _ h=>h).2 hv
theorem Zpo {vs:List Zr} {y:Rng}:Zeq vs (Zm7 y)=if emp y=true then 0 else cnt vs y:=by
 unfold Zm7
 split
 ·rfl
 ·exact Zma _ _
theorem Zta (b:Bnd):b.lt zb=false:=by
 show b.lt ⟨⟨#[]⟩,false⟩=false
 have e:(⟨#[]⟩:ByteArray).toList=[]:=by kernel_rfl
 simp only [Bnd.lt,Bool.false_or]
 rw [e]
 cases b.key.toList <;> simp [Op.bytesLess]
theorem Zsh (b:Bnd):ZdB.lt b=false:=by simp [Bnd.lt,ZdB]
theorem Zu6 {a b:Bnd} (h:a.lt b=true):a.lt ZdB=true:=by
 cases ht:a.top with
 | true=>rw [Bnd.lt,ht] at h; simp at h
 | false=>simp [Bnd.lt,ZdB,ht]
theorem Tl.up {t:List Kv} {k:Bnd}:∀ {l:List Zr} {a b:Bnd},Tl t a l b→k.lt a=false→k.lt b=true→∃ v ∈ l,k.lt v.Interval.lo=false∧k.lt v.Interval.hi=true
 | [],a,b,h,h1,h2=>by
  obtain rfl:a=b:=h
  rw [h1] at h2; cases h2
 | v::l,a,b,⟨g1,_,_,_,g5⟩,h1,h2=>by
  cases hh:k.lt v.Interval.hi with
  | true=>exact ⟨v,List.mem_cons_self,by rw [g1]; exact h1,hh⟩
  | false =>
   obtain ⟨u,hu,h3⟩:=g5.up hh h2
   exact ⟨u,List.mem_cons_of_mem _ hu,h3⟩
theorem Tl.dn {t:List Kv} {k:Bnd}:∀ {l:List Zr} {a b:Bnd},Tl t a l b→a.lt k=true→b.lt k=false→∃ v ∈ l,v.Interval.lo.lt k=true∧v.Interval.hi.lt k=false
 | [],a,b,h,h1,h2=>by
  obtain rfl:a=b:=h
  rw [h1] at h2; cases h2
 | v::l,a,b,⟨g1,_,_,_,g5⟩,h1,h2=>by
  cases hh:v.Interval.hi.lt k with
  | false=>exact ⟨v,List.mem_cons_self,by rw [g1]; exact h1,hh⟩
  | true =>
   obtain ⟨u,hu,h3⟩:=g5.dn hh h2
   exact ⟨u,List.mem_cons_of_mem _ hu,h3⟩
theorem Zsz {x i:Rng} (h1:x.lo.lt i.lo=false) (h2:x.lo.lt i.hi=true):ZbV false x i=false:=by
 unfold ZbV
 rw [if_neg (by simp),decide_eq_false,decide_eq_false]
 ·rfl
 ·intro hh
  have:=(Xw i.hi x.lo).2 h2
  omega
 ·intro hh
  rw [(Xw _ _).1 hh] at h1; cases h1
theorem ZsL {x i:Rng} (h1:i.hi.lt x.hi=false) (h2:i.lo.lt x.hi=true):ZbV true x i=false:=by
 unfold ZbV
 rw [if_pos rfl,decide_eq_false,decide_eq_false]
 ·rfl
 ·intro hh
  have:=(XW i.lo x.hi).2 h2
  omega
 ·intro hh
  rw [(XW _ _).1 hh] at h1; cases h1
theorem Zqb {t:List Kv} {vs:List Zr} (h:Tl t zb vs ZdB) {x:Rng} (hx:emp x=false) (d:Bool):∃ v ∈ vs,ZbV d x v.Interval=false:=by
 obtain ⟨a1,a2,a3⟩:=(ZE x).1 hx
 cases d with
 | false =>
  obtain ⟨v,hv,h1,h2⟩:=h.up (k:=x.lo) (Zta _) (Zu6 a3)
  exact ⟨v,hv,Zsz h1 h2⟩
 | true =>
  have hz:zb.lt x.hi=true:=Zku a1 Zvx (Zta _) a3
  obtain ⟨v,hv,h1,h2⟩:=h.dn (k:=x.hi) hz (Zsh _)
  exact ⟨v,hv,ZsL h2 h1⟩
theorem Zmy {vs:List Zr} (hne:∀ u ∈ vs,emp u.Interval=false) {w:Zc} {x:Rng} (hx:emp x=false) (hw:XP w=(x,true)) {v:Zr} (hv:v ∈ vs) (hm:ZbV (Xf w.Query) x v.Interval=false) :
   Zeq vs (stepW w v x (Yt v.Interval x)).Todo<Zeq vs w.Todo∧emp (Yt (Yt v.Interval x) x)=false:=by
 have hi:=hne v hv
 have hd:Yy w=false:=ZfB (by rw [hw])
 have ht:=Zc5 hd
 have e1:=ZlN (w:=w) (by rw [hw])
 rw [hw] at e1
 obtain ⟨a1,a2,a3⟩:=(ZE x).1 hx
 obtain ⟨b1,b2,b3⟩:=(ZE v.Interval).1 hi
 cases hq:Xf w.Query with
 | false =>
  rw [hq] at hm e1
  obtain ⟨z,r,e2⟩:=Zeu ht
  obtain rfl:x=z:=by rw [e2] at e1; exact e1
  obtain ⟨k1,k2⟩:=Zpi hm
  have hov:emp (Yt v.Interval x)=false:=(ov hi hx).2 ⟨Zku a1 b1 k1 a3,k2⟩
  obtain ⟨h,e,j1,j2,j3⟩:=Zmn hi hx k1 k2
  have hh:h=lesser v.Interval.hi x.hi:=by
   have:=Zc6 hi hx
   rw [e] at this
   split at this
   ·exact congrArg Rng.hi this
   ·exfalso
    rw [e,this,ZfU] at hov; cases hov
  refine ⟨?_,?_⟩
  ·unfold stepW
   rw [if_neg (by simp [hq]),e,e2]
   simp only [List.tail_cons]
   rw [Zgp,Zjw,Zpo]
   have one:0<cnt vs x:=by
    unfold cnt
    exact List.length_pos_iff.2 (List.ne_nil_of_mem (List.mem_filter.2 ⟨hv,by simp [hov]⟩))
   split
   ·omega
   ·rename_i hne2
    have he:emp ⟨h,x.hi⟩=false:=by simpa using hne2
    have h3:h.lt x.hi=true:=((ZE _).1 he).2.2
    have hi2:h=v.Interval.hi:=by
     rw [hh,Zby]
     split
     ·rename_i h4
      rw [hh,Zby,if_pos h4,lt_irrefl] at h3; cases h3
     ·rfl
    have:=cnt_lt hv hne hx he hov (by
     cases h5:emp (Yt v.Interval ⟨h,x.hi⟩) with
     | true=>rfl
     | false =>
      have:=((ov hi he).1 h5).2
      simp only [hi2,lt_irrefl] at this; cases this) (fun u hu h5=>by
     obtain ⟨g1,g2⟩:=(ov (hne u hu) he).1 h5
     exact (ov (hne u hu) hx).2 ⟨g1,lt_trans j2 g2⟩)
    omega
  ·have hp:emp ⟨x.lo,h⟩=false:=by rw [Zei a1 j1,j2]; rfl
   rw [e]
   exact (ov hp hx).2 ⟨a3,j2⟩
 | true =>
  rw [hq] at hm e1
  obtain ⟨i,z,e2⟩:=Zex ht
  obtain rfl:x=z:=by
   rw [e2] at e1
   simp only [Zcw,if_true,List.getLast?_concat] at e1
   exact e1
  obtain ⟨k1,k2⟩:=Zpk hm
  have hov:emp (Yt v.Interval x)=false:=(ov hi hx).2 ⟨k2,Zee a2 b2 a3 k1⟩
  obtain ⟨h,e,j1,j2,j3⟩:=Zmp hi hx k1 k2
  have hh:h=greater v.Interval.lo x.lo:=by
   have:=Zc6 hi hx
   rw [e] at this
   split at this
   ·exact congrArg Rng.lo this
   ·exfalso
    rw [e,this,ZfU] at hov; cases hov
  refine ⟨?_,?_⟩
  ·unfold stepW
   rw [if_pos hq,e,e2]
   simp only [List.dropLast_concat]
   rw [Zgp,Zgp,Zpo,Zma]
   have one:0<cnt vs x:=by
    unfold cnt
    exact List.length_pos_iff.2 (List.ne_nil_of_mem (List.mem_filter.2 ⟨hv,by simp [hov]⟩))
   split
   ·omega
   ·rename_i hne2
    have he:emp ⟨x.lo,h⟩=false:=by simpa using hne2
    have h3:x.lo.lt h=true:=((ZE _).1 he).2.2
    have hi2:h=v.Interval.lo:=by
     rw [hh,Qh]
     split
     ·rename_i h4
      rw [hh,Qh,if_pos h4,lt_irrefl] at h3; cases h3
     ·rfl
    have:=cnt_lt hv hne hx he hov (by
     cases h5:emp (Yt v.Interval ⟨x.lo,h⟩) with
     | true=>rfl
     | false =>
      have:=((ov hi he).1 h5).1
      simp only [hi2,lt_irrefl] at this; cases this) (fun u hu h5=>by
     obtain ⟨g1,g2⟩:=(ov (hne u hu) he).1 h5
     exact (ov (hne u hu) hx).2 ⟨lt_trans g1 j3,g2⟩)
    omega
  ·have hp:emp ⟨h,x.hi⟩=false:=by rw [Zei j1 a2,j3]; rfl
   rw [e]
   exact (ov hp hx).2 ⟨j3,a3⟩
def RI (t:List Kv) (w:Zc):Prop:=∀ u ∈ w.Visits,u.View.Rows=t.filter fun x=>contains u.Part x.key
theorem RI.rows {t:List Kv} {w:Zc} (h:RI t w):YH w.Visits=Yj t (w.Visits.map (·.Part)):=by
 unfold YH Yj
 rw [List.flatMap_map]
 have:∀ l:List Zi,(∀ u ∈ l,u ∈ w.Visits)→(l.flatMap fun v=>v.View.Rows)=l.flatMap fun u=>t.filter fun x=>contains u.Part x.key:=fun l=>by
  induction l with
  | nil=>intro _; rfl
  | cons u l ih =>
   intro hl
   rw [List.flatMap_cons,List.flatMap_cons,ih fun x hx=>hl x (List.mem_cons_of_mem _ hx),h u (hl u List.mem_cons_self)]
 exact this _ fun _ h=>h
theorem RI.step {t:List Kv} {w:Zc} (h:RI t w) {v:Zr} (hv:v.Rows=t.filter fun x=>contains v.Interval x.key) (x:Rng):RI t (stepW w v x (Yt v.Interval x)):=by
 have key:(ZbX v (Yt v.Interval x)).View.Rows=t.filter fun z=>contains (ZbX v (Yt v.Interval x)).Part z.key:=by
  unfold ZbX
  simp only
  rw [hv,List.filter_filter]
  refine List.filter_congr fun z _=>?_
  rw [Zhs]
  cases contains v.Interval z.key <;> simp
 unfold stepW
 split
 ·intro u hu
  rcases List.mem_cons.1 hu with rfl | hu
  ·exact key
  ·exact h u hu
 ·intro u hu
  rcases List.mem_append.1 hu with hu | hu
  ·exact h u hu
  ·rw [List.mem_singleton.1 hu]; exact key
theorem ZpU {t:List Kv} (ht:Yu t=true) {w:Zc} {q:Zf} (hq:w.Query=q) (hr:RI t w) (hg:Gd (YR w) (qrg q)) (hd:Yy w=true):qtk q.Kind q.Count (YH w.Visits)=qtk q.Kind q.Count (Yj t (qrg q)):=by
 have e:=hg.slices ht (ZdL q)
 have er:=hr.rows
 rw [← e]
 unfold YR
 rw [hq]
 unfold Yy at hd
 rw [hq] at hd
 cases hT:w.Todo with
 | nil =>
  rw [er]
  split <;> simp
 | cons a l =>
  rw [hT] at hd
  have hd:enough q ((YH w.Visits).length:Int)=true:=hd
  unfold enough at hd
  simp only [Bool.and_eq_true,Bool.or_eq_true,decide_eq_true_eq] at hd
  obtain ⟨hk,hc⟩:=hd
  rw [← hT]
  by_cases h4:q.Kind=4
  ·have hdn:Xf q=true:=decide_eq_true h4
   rw [if_pos hdn,Zhd,← er]
   unfold qtk
   rw [if_neg (by omega),if_pos h4,if_neg (by omega),if_pos h4]
   generalize Yj t w.Todo=B at *
   generalize YH w.Visits=A at *
   have e1:(max 0 (min q.Count (A.length:Int))).toNat=(max 0 q.Count).toNat:=by omega
   have e2:(max 0 (min q.Count ((B++A).length:Int))).toNat=(max 0 q.Count).toNat:=by simp only [List.length_append]; omega
   rw [e1,e2]
   have e3:(B++A).length - (max 0 q.Count).toNat=B.length+(A.length - (max 0 q.Count).toNat):=by rw [List.length_append]; omega
   rw [e3,List.drop_length_add_append]
  ·have h3:q.Kind=3:=by omega
   have hdn:¬ Xf q=true:=by unfold Xf; simp [h4]
   rw [if_neg hdn,Zhd,← er]
   unfold qtk
   rw [if_pos h3,if_pos h3]
   generalize Yj t w.Todo=B at *
   generalize YH w.Visits=A at *
   have e1:(max 0 (min q.Count (A.length:Int))).toNat=(max 0 q.Count).toNat:=by omega
   have e2:(max 0 (min q.Count ((A++B).length:Int))).toNat=(max 0 q.Count).toNat:=by simp only [List.length_append]; omega
   rw [e1,e2,List.take_append_of_le_length (by omega)]
end Go.Proofs.YtkcmgbbopedacaaGreatDoor
namespace Go.Proofs.YtkcmgbbopedacaaGreatDoor
open Go.RowKit
def VI (w:Zc):Prop:=∀ u ∈ w.Visits,vOk u=true∧rOk u=true
theorem ZpX {a b:Rng} (h:emp (Yt a b)=false):(Yt a b).lo.lt a.lo=false∧a.hi.lt (Yt a b).hi=false:=by
 have ha:emp a=false:=by
  cases hh:emp a with
  | false=>rfl
  | true=>rw [ZiI hh,ZfU] at h; cases h
 have hb:emp b=false:=by
  cases hh:emp b with
  | false=>rfl
  | true=>rw [Zme hh,ZfU] at h; cases h
 rw [Zc6 ha hb] at h ⊢
 split
 ·simp only
  rw [Qh,Zby]
  refine ⟨?_,?_⟩
  ·split
   ·rename_i h1; exact Yd h1
   ·exact lt_irrefl _
  ·split
   ·rename_i h1; exact Yd h1
   ·exact lt_irrefl _
 ·rename_i hh
  rw [if_neg hh,ZfU] at h; cases h
theorem ZsH {v:Zr} (hv:X7 v=true) {x:Rng} (h:emp (Yt v.Interval x)=false):vOk (ZbX v (Yt v.Interval x))=true∧rOk (ZbX v (Yt v.Interval x))=true:=by
 have hi:=ZgY hv
 obtain ⟨s1,s2⟩:=ZpX h
 unfold X7 at hv
 simp only [Bool.and_eq_true,Bool.not_eq_true'] at hv
 obtain ⟨⟨⟨⟨g1,g2⟩,g3⟩,g4⟩,g5⟩:=hv
 refine ⟨?_,?_⟩
 ·unfold vOk X7 ZbX inside
  simp only
  rw [g1,g2,g3,ZhL g4,h]
  have e1:((v.Rows.filter fun z=>contains (Yt v.Interval x) z.key).all fun z=>contains v.Interval z.key)=true:=List.all_eq_true.2 fun z hz=>List.all_eq_true.1 g5 z (List.mem_filter.1 hz).1
  have e2:decide (cmp v.Interval.lo (Yt v.Interval x).lo≤0)=true:=decide_eq_true (by
   apply Classical.byContradiction; intro hh
   rw [(Xw _ _).1 (by omega)] at s1; cases s1)
  have e3:decide (cmp (Yt v.Interval x).hi v.Interval.hi≤0)=true:=decide_eq_true (by
   apply Classical.byContradiction; intro hh
   rw [(Xw _ _).1 (by omega)] at s2; cases s2)
  rw [e1,e2,e3]; rfl
 ·unfold rOk ZbX
  simp only
  exact ZpE _ _
theorem VI.step {w:Zc} (h:VI w) {v:Zr} (hv:X7 v=true) {x:Rng} (he:emp (Yt v.Interval x)=false):VI (stepW w v x (Yt v.Interval x)):=by
 have:=ZsH hv he
 unfold stepW
 split
 ·intro u hu
  rcases List.mem_cons.1 hu with rfl | hu
  ·exact this
  ·exact h u hu
 ·intro u hu
  rcases List.mem_append.1 hu with hu | hu
  ·exact h u hu
  ·rw [List.mem_singleton.1 hu]; exact this
theorem ZsT {i x:Rng} (h:emp (Yt (Yt i x) x)=false):emp (Yt i x)=false:=by
 cases hh:emp (Yt i x) with
 | false=>rfl
 | true=>rw [ZiI hh,ZfU] at h; cases h
structure Run (t:List Kv) (q:Zf) (w:Zc):Prop where
 ok:okW w
 qe:w.Query=q
 gd:Gd (YR w) (qrg q)
 ri:RI t w
 vi:VI w
end Go.Proofs.YtkcmgbbopedacaaGreatDoor
-- LEFT good_l1 run_l1 run_l2_done run_l2_step run_ok tot_good
namespace Go.Proofs.YtkcmgbbopedacaaGreatDoor
open Go.RowKit
theorem Gd.tail {x:Rng} {l m m':List Rng} (g:Gd (x::l) m) (hm:∀ b,vb b=true→(Pt m' b↔Pt m b∧b.lt x.hi=false)):Gd l m':=by
 obtain ⟨n,s,t⟩:=g
 obtain ⟨s1,s2⟩:=List.pairwise_cons.1 s
 have hx:=(ZE x).1 (n x List.mem_cons_self)
 refine ⟨fun r hr=>n r (List.mem_cons_of_mem _ hr),s2,fun b hb=>?_⟩
 rw [hm b hb,← t b hb,Z0]
 constructor
 ·intro h
  refine ⟨.inr h,?_⟩
  obtain ⟨c,hc,h1,h2⟩:=h
  have vc:=(ZE c).1 (n c (List.mem_cons_of_mem _ hc))
  cases hh:b.lt x.hi with
  | false=>rfl
  | true=>rw [Zee hx.2.1 vc.1 hh (s1 c hc)] at h1; cases h1
 ·rintro ⟨h | h,h2⟩
  ·rw [h.2] at h2; cases h2
  ·exact h
theorem Gd.first {x:Rng} {l m:List Rng} {p h:Bnd} (g:Gd (x::l) (⟨p,h⟩::m)) (hp:vb p=true) (hh:p.lt h=true) (hn:∀ y ∈ m,emp y=false) (hm:∀ y ∈ m,y.lo.lt p=false):x.lo=p:=by
 obtain ⟨n,s,t⟩:=g
 obtain ⟨s1,s2⟩:=List.pairwise_cons.1 s
 have hx:=(ZE x).1 (n x List.mem_cons_self)
 refine QH hx.1 hp ?_ ?_
 ·rcases Z0.1 ((t x.lo hx.1).1 (Z0.2 (.inl ⟨lt_irrefl _,hx.2.2⟩))) with h1 | ⟨c,hc,h1,h2⟩
  ·exact h1.1
  ·have vc:=(ZE c).1 (hn c hc)
   cases hh:x.lo.lt p with
   | false=>rfl
   | true=>rw [Zee hp vc.1 hh (hm c hc)] at h1; cases h1
 ·rcases Z0.1 ((t p hp).2 (Z0.2 (.inl ⟨lt_irrefl _,hh⟩))) with h1 | ⟨c,hc,h1,h2⟩
  ·exact h1.1
  ·have vc:=(ZE c).1 (n c (List.mem_cons_of_mem _ hc))
   cases h4:p.lt x.lo with
   | false=>rfl
   | true =>
    have h5:p.lt x.hi=true:=lt_trans h4 hx.2.2
    rw [Zee hx.2.1 vc.1 h5 (s1 c hc)] at h1; cases h1
theorem Gd.nil_right {l:List Rng} (g:Gd l []):l=[]:=by
 cases l with
 | nil=>rfl
 | cons x l =>
  have hx:=(ZE x).1 (g.ne x List.mem_cons_self)
  exact absurd ((g.pts x.lo hx.1).1 (Z0.2 (.inl ⟨lt_irrefl _,hx.2.2⟩))) ZfV
theorem Nrm.drop {R:List Rng} (h:Nrm R) (a:Nat):Nrm (R.drop a):=⟨fun r hr=>h.ne r (List.mem_of_mem_drop hr),h.gap.sublist (List.drop_sublist a R)⟩
theorem scan {R:List Rng} (hR:Nrm R):∀ (V:List Zi) (T:List Rng) (a:Nat) (r:Rng) (R':List Rng) (p:Bnd),R.drop a=r::R'→vb p=true→p.lt r.hi=true→p.lt r.lo=false→Gd (V.map (·.Part)++T) (⟨p,r.hi⟩::R')→∃ a':Nat,tl2 R V a p=.nxt (a':Int)∧(T=[]→a'=R.length)
 | [],T,a,r,R',p,hd,hp,h1,h2,g=>by
  refine ⟨a,rfl,fun hT=>?_⟩
  exfalso
  subst hT
  obtain ⟨c,hc,_⟩:=(g.pts p hp).2 (Z0.2 (.inl ⟨lt_irrefl _,h1⟩))
  simp at hc
 | v::V,T,a,r,R',p,hd,hp,h1,h2,g=>by
  have hN:=hR.drop a
  rw [hd] at hN
  obtain ⟨n1,n2⟩:=hN
  obtain ⟨q1,q2⟩:=List.pairwise_cons.1 n2
  have hr:=(ZE r).1 (n1 r List.mem_cons_self)
  have hget:R[a]?=some r:=by rw [← List.head?_drop,hd]; rfl
  have hdrop:R.drop (a+1)=R':=by rw [← List.tail_drop,hd]; rfl
  rw [List.map_cons,List.cons_append] at g
  have hv:=(ZE v.Part).1 (g.ne _ List.mem_cons_self)
  have hfar:∀ y ∈ R',r.hi.lt y.lo=true:=fun y hy=>q1 y hy
  have hlo:v.Part.lo=p:=g.first hp h1 (fun y hy=>n1 y (List.mem_cons_of_mem _ hy)) fun y hy=>Yd (lt_trans h1 (hfar y hy))
  have hhi:r.hi.lt v.Part.hi=false:=by
   cases hh:r.hi.lt v.Part.hi with
   | false=>rfl
   | true =>
    have hin:Pt (v.Part::(V.map (·.Part)++T)) r.hi:=Z0.2 (.inl ⟨by rw [hlo]; exact Yd h1,hh⟩)
    rcases Z0.1 ((g.pts r.hi hr.2.1).1 hin) with ⟨_,h4⟩ | ⟨c,hc,h4,_⟩
    ·rw [lt_irrefl] at h4; cases h4
    ·rw [hfar c hc] at h4; cases h4
  have c1:cmp v.Part.lo p=0:=by rw [hlo,ZmE]
  have c2:¬ 0<cmp v.Part.hi r.hi:=fun hh=>by
   rw [(Xw _ _).1 hh] at hhi; cases hhi
  rw [tl2,hget]
  simp only
  rw [if_neg (by omega),if_neg (by omega),if_neg c2]
  by_cases c3:cmp v.Part.hi r.hi=0
  ·rw [if_pos c3]
   have he:v.Part.hi=r.hi:=QH hv.2.1 hr.2.1 ((ZkH _ _).1 c3).1 ((ZkH _ _).1 c3).2
   have g':Gd (V.map (·.Part)++T) R':=g.tail fun b hb=>by
    rw [he,Z0]
    constructor
    ·intro h
     refine ⟨.inr h,?_⟩
     obtain ⟨c,hc,h4,_⟩:=h
     cases hh:b.lt r.hi with
     | false=>rfl
     | true=>rw [lt_trans hh (hfar c hc)] at h4; cases h4
    ·rintro ⟨h | h,h5⟩
     ·rw [h.2] at h5; cases h5
     ·exact h
   cases hR':R' with
   | nil =>
    subst hR'
    have h0:=g'.nil_right
    have hV:V=[]:=by
     cases V with
     | nil=>rfl
     | cons x V=>simp at h0
    subst hV
    have hlen:R.length=a+1:=by
     have e1:=congrArg List.length hd
     simp only [List.length_drop,List.length_cons,List.length_nil] at e1
     omega
    refine ⟨a+1,rfl,fun _=>hlen.symm⟩
   | cons r2 R2 =>
    subst hR'
    have hget2:R[a+1]?=some r2:=by rw [← List.head?_drop,hdrop]; rfl
    have hr2:=(ZE r2).1 (n1 r2 (by simp))
    rw [hget2]
    exact scan hR V T (a+1) r2 R2 r2.lo hdrop hr2.1 hr2.2.2 (lt_irrefl _) g'
  ·rw [if_neg c3]
   have hlt:v.Part.hi.lt r.hi=true:=by
    have:=Zet v.Part.hi r.hi
    exact (XW _ _).1 (by omega)
   have hpv:p.lt v.Part.hi=true:=by rw [← hlo]; exact hv.2.2
   refine scan hR V T a r R' v.Part.hi hd hv.2.1 hlt ?_ (g.tail fun b hb=>?_)
   ·cases hh:v.Part.hi.lt r.lo with
    | false=>rfl
    | true=>rw [lt_trans hpv hh] at h2; cases h2
   ·rw [Z0,Z0]
    constructor
    ·rintro (⟨h3,h4⟩ | h3)
     ·refine ⟨.inl ⟨?_,h4⟩,h3⟩
      cases hh:b.lt p with
      | false=>rfl
      | true=>rw [lt_trans hh hpv] at h3; cases h3
     ·refine ⟨.inr h3,?_⟩
      obtain ⟨c,hc,h4,_⟩:=h3
      cases hh:b.lt v.Part.hi with
      | false=>rfl
      | true=>rw [lt_trans (lt_trans hh hlt) (hfar c hc)] at h4; cases h4
    ·rintro ⟨⟨_,h4⟩ | h3,h5⟩
     ·exact .inl ⟨h5,h4⟩
     ·exact .inr h3
theorem Zpb:∀ {l:List Zi},(∀ v ∈ l,vOk v=true∧rOk v=true)→tl1 l=.nxt ()
 | [],_=>rfl
 | v::l,h=>by
  obtain ⟨h1,h2⟩:=h v List.mem_cons_self
  rw [tl1,if_pos h1,if_pos h2]
  exact Zpb fun x hx=>h x (List.mem_cons_of_mem _ hx)
theorem Zuz {q:Zf} (h:q.Kind=4):(qrg q).length≤1:=by
 unfold qrg Yi
 split
 ·refine Nat.le_trans (ZjH _) ?_
  unfold qrs
  rw [if_neg (by omega),if_neg (by omega),if_neg (by omega)]
  simp
 ·simp
theorem Zqk {q:Zf} (h:qch q=0) (hk:q.Kind=3∨q.Kind=4):1≤q.Count:=by
 unfold qch ZcE at h
 apply Classical.byContradiction
 intro hc
 split at h
 ·omega
 split at h
 ·omega
 split at h
 ·omega
 split at h
 ·omega
 split at h
 ·omega
 ·rename_i h5
  exact h5 (.inl ⟨hk,.inl (by omega)⟩)
theorem Zf6 {x:Rng} {l R:List Rng} (g:Gd (x::l) R) (hR:Nrm R):∃ r R',R=r::R'∧x.lo=r.lo:=by
 cases R with
 | nil=>exact absurd g.nil_right (by simp)
 | cons r R' =>
  have hr:=(ZE r).1 (hR.ne r List.mem_cons_self)
  have q1:=(List.pairwise_cons.1 hR.gap).1
  exact ⟨r,R',rfl,g.first (p:=r.lo) (h:=r.hi) hr.1 hr.2.2 (fun y hy=>hR.ne y (List.mem_cons_of_mem _ hy)) fun y hy=>Yd (lt_trans hr.2.2 (q1 y hy))⟩
theorem Znt {q:Zf} (h0:qch q=0) {w:Zc} (he:w.Query=q) (hg:Gd (YR w) (qrg q)) (hvi:VI w) (hd:Yy w=true):Zas q w.Visits=0:=by
 have hR:=ZdL q
 unfold Zas
 rw [if_neg (by simp [h0]),Zpb hvi]
 simp only
 -- it is enough to scan
 have fin:∀ a':Nat,tl2 (qrg q) w.Visits 0 (Zi8 q w.Visits)=.nxt (a':Int)→(a'=(qrg q).length∨(q.Kind=3∧enough q ((YH w.Visits).length:Int)=true))→(match tl2 (qrg q) w.Visits 0 (Zi8 q w.Visits) with
    | .ret e=>e
    | .nxt a=>if a<((qrg q).length:Int) then (if q.Kind=3∧enough q ((YH w.Visits).length:Int)=true then (0:Int) else 9) else 0)=0:=by
  intro a' e h1
  rw [e]
  simp only
  rcases h1 with h1 | h1
  ·rw [if_neg (by omega)]
  ·rw [if_pos h1]; split <;> rfl
 -- what is to be scanned
 have body:∀ (V:List Zi) (T:List Rng),V=w.Visits→Gd (V.map (·.Part)++T) (qrg q)→(Xf q=false∨T=[])→(T=[]∨(q.Kind=3∧enough q ((YH w.Visits).length:Int)=true))→∃ a':Nat,tl2 (qrg q) V 0 (Zi8 q V)=.nxt (a':Int)∧(a'=(qrg q).length∨(q.Kind=3∧enough q ((YH w.Visits).length:Int)=true)):=by
  intro V T hV g hdn hT
  cases hQ:qrg q with
  | nil =>
   rw [hQ] at g
   have:=g.nil_right
   have hV0:V=[]:=by
    cases V with
    | nil=>rfl
    | cons x V=>simp at this
   subst hV0
   exact ⟨0,rfl,.inl rfl⟩
  | cons r R' =>
   have hr:=(ZE r).1 (hR.ne r (by rw [hQ]; simp))
   have hp:Zi8 q V=r.lo:=by
    cases V with
    | nil=>unfold Zi8; rw [hQ]
    | cons x V =>
     unfold Zi8
     rw [hQ]
     simp only
     split
     ·rw [List.map_cons,List.cons_append] at g
      obtain ⟨r2,R2,e1,e2⟩:=Zf6 g hR
      rw [hQ] at e1
      simp only [List.cons.injEq] at e1
      rw [e2,e1.1]
     ·rfl
   rw [hp]
   have g2:Gd (V.map (·.Part)++T) (⟨r.lo,r.hi⟩::R'):=by rw [hQ] at g; exact g
   obtain ⟨a',e,h1⟩:=scan hR V T 0 r R' r.lo (by rw [List.drop_zero]; exact hQ) hr.1 hr.2.2 (lt_irrefl _) g2
   rw [hQ] at e
   refine ⟨a',e,?_⟩
   rcases hT with hT | hT
   ·have:=h1 hT
    rw [hQ] at this
    exact .inl this
   ·exact .inr hT
 unfold YR at hg
 rw [he] at hg
 have hd2:=hd
 unfold Yy at hd2
 rw [he] at hd2
 cases hdn:Xf q with
 | false =>
  rw [if_neg (by simp [hdn])] at hg
  have hT:w.Todo=[]∨(q.Kind=3∧enough q ((YH w.Visits).length:Int)=true):=by
   cases hTd:w.Todo with
   | nil=>exact .inl rfl
   | cons a l =>
    rw [hTd] at hd2
    have hen:enough q ((YH w.Visits).length:Int)=true:=hd2
    refine .inr ⟨?_,hen⟩
    unfold enough at hen
    simp only [Bool.and_eq_true,Bool.or_eq_true,decide_eq_true_eq] at hen
    have:q.Kind≠4:=by
     have:=of_decide_eq_false hdn
     exact this
    omega
  obtain ⟨a',e,h1⟩:=body w.Visits w.Todo rfl hg (.inl hdn) hT
  exact fin a' e h1
 | true =>
  rw [if_pos hdn] at hg
  have hk:q.Kind=4:=of_decide_eq_true hdn
  cases hTd:w.Todo with
  | nil =>
   rw [hTd,List.nil_append] at hg
   obtain ⟨a',e,h1⟩:=body w.Visits [] rfl (by rw [List.append_nil]; exact hg) (.inr rfl) (.inl rfl)
   exact fin a' e h1
  | cons x0 l0 =>
   rw [hTd] at hd2
   have hen:enough q ((YH w.Visits).length:Int)=true:=hd2
   have hc:=Zqk h0 (.inr hk)
   cases hV:w.Visits with
   | nil =>
    exfalso
    rw [hV] at hen
    unfold enough YH at hen
    simp only [Bool.and_eq_true,decide_eq_true_eq,List.flatMap_nil,List.length_nil] at hen
    have:=hen.2
    omega
   | cons v V =>
    rw [hTd,hV] at hg
    have h1:=Zuz hk
    obtain ⟨r,R',hQ,_⟩:=Zf6 (x:=x0) hg hR
    have hR0:R'=[]:=by
     rw [hQ] at h1
     exact List.eq_nil_of_length_eq_zero (by simpa using h1)
    subst hR0
    have hr:=(ZE r).1 (hR.ne r (by rw [hQ]; simp))
    -- behind what is left
    obtain ⟨n,s,p⟩:=hg
    rw [hQ] at p
    rw [List.map_cons] at n s p
    have hv:=(ZE v.Part).1 (n v.Part (by simp))
    have s3:=List.pairwise_append.1 s
    have before:∀ c ∈ x0::l0,v.Part.lo.lt c.hi=false:=fun c hc=>s3.2.2 c hc v.Part (by simp)
    have hin:v.Part.lo.lt r.lo=false∧v.Part.lo.lt r.hi=true:=by
     have:=(p v.Part.lo hv.1).1 ⟨v.Part,by simp,lt_irrefl _,hv.2.2⟩
     rcases Z0.1 this with h2 | h2
     ·exact h2
     ·exact absurd h2 ZfV
    have g:Gd ((v::V).map (·.Part)++[]) (⟨v.Part.lo,r.hi⟩::[]):=by
     rw [List.append_nil,List.map_cons]
     refine ⟨fun c hc=>n c (List.mem_append_right _ hc),s3.2.1,fun b hb=>?_⟩
     have s4:=(List.pairwise_cons.1 s3.2.1).1
     rw [Z0 (x:=⟨v.Part.lo,r.hi⟩)]
     constructor
     ·intro hb2
      left
      refine ⟨?_,?_⟩
      ·rcases Z0.1 hb2 with h3 | ⟨c,hc,h3,h4⟩
       ·exact h3.1
       ·have vc:=(ZE c).1 (n c (List.mem_append_right _ (List.mem_cons_of_mem _ hc)))
        cases hh:b.lt v.Part.lo with
        | false=>rfl
        | true =>
         have:=lt_trans hh hv.2.2
         rw [Zee hv.2.1 vc.1 this (s4 c hc)] at h3; cases h3
      ·rcases Z0.1 ((p b hb).1 (ZhD.2 (.inr hb2))) with h3 | h3
       ·exact h3.2
       ·exact absurd h3 ZfV
     ·rintro (⟨h3,h4⟩ | h3)
      ·have hbr:b.lt r.lo=false:=by
         cases hh:b.lt r.lo with
         | false=>rfl
         | true =>
          cases h5:v.Part.lo.lt r.lo with
          | true=>rw [hin.1] at h5; cases h5
          | false=>rw [Zee hr.1 hv.1 hh h5] at h3; cases h3
       rcases ZhD.1 ((p b hb).2 (Z0.2 (.inl ⟨hbr,h4⟩))) with ⟨c,hc,h5,h6⟩ | h5
       ·have vc:=(ZE c).1 (n c (List.mem_append_left _ hc))
        rw [Zee vc.2.1 hv.1 h6 (before c hc)] at h3; cases h3
       ·exact h5
      ·exact absurd h3 ZfV
    have hpos:Zi8 q (v::V)=v.Part.lo:=by
     unfold Zi8
     rw [hV] at hen
     rw [hdn,hen]; rfl
    obtain ⟨a',e,h2⟩:=scan hR (v::V) [] 0 r [] v.Part.lo (by rw [List.drop_zero]; exact hQ) hv.1 hin.2 hin.1 g
    rw [← hV]
    exact fin a' (by rw [hV,hpos]; exact e) (.inl (h2 rfl))
theorem ZeE:∀ l:List Zi,X8 l l=true
 | []=>rfl
 | v::l=>by
  rw [X8,ZeE l]
  unfold Zhm
  simp [Zhu]
end Go.Proofs.YtkcmgbbopedacaaGreatDoor
