/-
  Lemmas: The functions of paths agree; the law PathsSteps holds of it
-/
import Derived.Test.YtkcmgbbopedacaaGreatDoorPX35
import Derived.Test.YtkcmgbbopedacaaGreatDoorPX28
import Derived.Test.YtkcmgbbopedacaaGreatDoorPX38
set_option linter.unusedSimpArgs false
set_option linter.unusedVariables false
namespace Go.Proofs.YtkcmgbbopedacaaGreatDoor
open Go.RowKit
attribute [local irreducible] Tot sel bnd Zc YB app Yn lsl Zc6
def prs (p:Ze):List Zf:=bif p.Turned then p.Second else p.First
structure okP (k:Nat) (p:Ze):Prop where
 q:p.Query.Ranges.length≤1000
 c:p.Cuts.length≤1000
 f:p.First.length≤200
 s:p.Second.length≤200
 fw:∀ w ∈ p.First,okW w∧w.Visits.length≤k
 sw:∀ w ∈ p.Second,okW w∧w.Visits.length≤k
theorem okP.mono {k k':Nat} {p:Ze} (h:okP k p) (hk:k≤k'):okP k' p:=⟨h.q,h.c,h.f,h.s,fun w hw=>⟨(h.fw w hw).1,Nat.le_trans (h.fw w hw).2 hk⟩,fun w hw=>⟨(h.sw w hw).1,Nat.le_trans (h.sw w hw).2 hk⟩⟩
theorem okP.now {k:Nat} {p:Ze} (h:okP k p):∀ w ∈ prs p,okW w∧w.Visits.length≤k:=by
 obtain ⟨q,c,F,S,T⟩:=p
 cases T with
 | true=>exact h.sw
 | false=>exact h.fw
theorem ZqR (p:Ze):QB p=prs p∧QC p=prs p:=by
 obtain ⟨q,c,F,S,T⟩:=p
 unfold QB QC prs
 cases T with
 | true=>simp only [Zl]; exact ⟨rfl,rfl⟩
 | false=>simp only [Zb]; exact ⟨rfl,rfl⟩
theorem Zhc {k:Nat} {p:Ze} (h:okP k p):X0 p=some p:=by
 have h1:=h.q
 have h2:=h.c
 have h3:=h.f
 have h4:=h.s
 unfold X0
 rw [QA _ (by omega),Za,Zbu _ (by omega),Za,Zdb _ (by omega) (fun w hw=>(h.fw w hw).1),Za,Zdb _ (by omega) (fun w hw=>(h.sw w hw).1),Za]
def atP (p:Ze) (i:Int):Option Zf:=if i<0 then none else (prs p)[i.toNat]?
def Zrj (p:Ze) (i:Int):Rng × Bool:=match atP p i with
 | none=>(zr,false)
 | some w=>Za8 w
def ZvW (p:Ze) (m:Nat) (w:Zf):Ze:=bif p.Turned then ⟨p.Query,p.Cuts,p.First,p.Second.set m w,true⟩ else ⟨p.Query,p.Cuts,p.First.set m w,p.Second,false⟩
def Zf2 (p:Ze) (i:Int) (v:ZE):Ze × Int:=match atP p i with
 | none=>(PP0,2)
 | some w=>if (Zee w v).2=0 then (ZvW p i.toNat (Zee w v).1,0) else (PP0,(Zee w v).2)
theorem Zkk (p:Ze) (i:Int):(atP p i=none∧∀ l:List Zf,l.length=(prs p).length→(Zc (sel (decide (i<0)) (some true) (some (decide ((l.length:Int)≤i))):Option Bool) fun x=>(some x:Option Bool))=some true)∨∃ m w,i=((m:Nat):Int)∧(prs p)[m]?=some w∧w ∈ prs p∧atP p i=some w∧∀ l:List Zf,l.length=(prs p).length→(Zc (sel (decide (i<0)) (some true) (some (decide ((l.length:Int)≤i))):Option Bool) fun x=>(some x:Option Bool))=some false:=by
 unfold atP
 by_cases h0:i<0
 ·exact .inl ⟨if_pos h0,fun l _=>by rw [decide_eq_true h0,Zl,Za]⟩
 ·obtain ⟨m,rfl⟩:=Int.eq_ofNat_of_zero_le (show 0≤i by omega)
  rw [if_neg h0,Int.toNat_natCast]
  cases hl:(prs p)[m]? with
  | none =>
   have:=List.getElem?_eq_none_iff.1 hl
   exact .inl ⟨rfl,fun l e=>by rw [decide_eq_false h0,Zb,Za,decide_eq_true (by omega)]⟩
  | some w =>
   have h1:=(List.getElem?_eq_some_iff.1 hl).1
   exact .inr ⟨m,w,rfl,hl,List.mem_of_getElem? hl,rfl,fun l e=>by rw [decide_eq_false h0,Zb,Za,decide_eq_false (by omega)]⟩
theorem ZgM {α:Type} (x:Option α):(Zc x fun a=>some a)=x:=by
 cases x with
 | none=>rw [ZdS]
 | some a=>rw [Za]
theorem Zgq {k:Nat} {p:Ze} (h:okP k p) (i:Int):Zco p i=some (Zrj p i)∧X6 p i=some (Zrj p i):=by
 obtain ⟨e1,e2⟩:=ZqR p
 unfold Zco X6 Zrj
 rw [e1,e2,Zr,Zr]
 rcases Zkk p i with ⟨g1,g2⟩ | ⟨m,w,rfl,g1,g2,g3,g4⟩
 ·have g:=g2 (prs p) rfl
  rw [ZgM] at g
  simp only [g,Za,Zl,g1]
  constructor <;> first | trivial | rfl
 ·have g:=g4 (prs p) rfl
  rw [ZgM] at g
  have hw:=(h.now w g2).1
  simp only [g,Za,Zb,g3,Z9,g1,ZeK hw,Zd2 hw]
  constructor <;> first | trivial | rfl
theorem Zgh {k:Nat} {p:Ze} (h:okP k p) (i:Int) (v:ZE) (hv:v.Rows.length≤10000):Zcr p i v=some (Zf2 p i v)∧X8 p i v=some (Zf2 p i v):=by
 obtain ⟨e1,e2⟩:=ZqR p
 have hl:(prs p).length≤200:=by
  have:=h.f
  have:=h.s
  unfold prs
  cases p.Turned with
  | true=>exact h.s
  | false=>exact h.f
 unfold Zcr X8 Zf2
 rw [e1,e2,Zr,Zr,Z4 (by simp; omega),Za,List.nil_append,Zhc h]
 rcases Zkk p i with ⟨g1,g2⟩ | ⟨m,w,rfl,g1,g2,g3,g4⟩
 ·have g:=g2 (prs p) rfl
  rw [ZgM] at g
  simp only [g,Za,Zl,g1]
  constructor <;> first | trivial | rfl
 ·have g:=g4 (prs p) rfl
  rw [ZgM] at g
  have hw:=(h.now w g2).1
  simp only [g,Za,Zb,g3,Z9,g1,Zhw hw v hv]
  obtain ⟨q,c,F,S,T⟩:=p
  cases T with
  | true =>
   have g1:S[m]?=some w:=g1
   simp only [Zl,g1,Za,ZeI hw v hv]
   by_cases ht:(Zee w v).2=0
   ·simp only [decide_eq_true ht,Bool.not_true,Zb,Za,Zr,if_pos ht,Zl]
    exact ⟨rfl,rfl⟩
   ·simp only [decide_eq_false ht,Bool.not_false,Zl,if_neg ht]
    exact ⟨trivial,trivial⟩
  | false =>
   have g1:F[m]?=some w:=g1
   simp only [Zb,g1,Za,ZeI hw v hv]
   by_cases ht:(Zee w v).2=0
   ·simp only [decide_eq_true ht,Bool.not_true,Zb,Za,Zr,if_pos ht,Zb]
    exact ⟨rfl,rfl⟩
   ·simp only [decide_eq_false ht,Bool.not_false,Zl,if_neg ht]
    exact ⟨trivial,trivial⟩
theorem ZpN {k:Nat} (hk:k≤999) {p:Ze} (h:okP k p) {i:Int} {v:ZE} (hv:v.Rows.length≤10000) (h0:(Zf2 p i v).2=0):okP (k+1) (Zf2 p i v).1:=by
 unfold Zf2 at h0 ⊢
 cases ha:atP p i with
 | none=>rw [ha] at h0; exact absurd (show (2:Int)=0 from h0) (by decide)
 | some w =>
  rw [ha] at h0
  simp only at h0 ⊢
  by_cases ht:(Zee w v).2=0
  ·rw [if_pos ht]
   have hm:w ∈ prs p:=by
    unfold atP at ha
    split at ha
    ·cases ha
    ·exact List.mem_of_getElem? ha
   have hw:=h.now w hm
   have hn:=ZrQ hw.1 (by omega) v hv
   have h':=h.mono (Nat.le_succ k)
   unfold ZvW
   obtain ⟨q,c,F,S,T⟩:=p
   cases T with
   | true=>exact ⟨h.q,h.c,h.f,(by show (List.set _ _ _).length≤200; rw [List.length_set]; exact h.s),h'.fw,fun x hx=>by
    rcases List.mem_or_eq_of_mem_set hx with hx | rfl
    ·exact h'.sw x hx
    ·exact ⟨hn.1,by omega⟩⟩
   | false=>exact ⟨h.q,h.c,(by show (List.set _ _ _).length≤200; rw [List.length_set]; exact h.f),h.s,(fun x hx=>by
    rcases List.mem_or_eq_of_mem_set hx with hx | rfl
    ·exact h'.fw x hx
    ·exact ⟨hn.1,by omega⟩),h'.sw⟩
  ·rw [if_neg ht] at h0
   exact absurd h0 ht
theorem Zgr:∀ l:List Zf,(∀ w ∈ l,okW w)→Zbo l=some (l.all Zbx)∧QG l=some (l.all Zbx):=by
 have key:∀ l:List Zf,(∀ w ∈ l,okW w)→QH l=some (sel (l.all Zbx) (.nxt ()) (.ret false))∧Xt l=some (sel (l.all Zbx) (.nxt ()) (.ret false)):=fun l=>by
  induction l with
  | nil=>intro _; rw [QH,Xt,List.all_nil,Zl]; exact ⟨rfl,rfl⟩
  | cons w l ih =>
   intro h
   have hw:=h w List.mem_cons_self
   obtain ⟨i1,i2⟩:=ih fun x hx=>h x (List.mem_cons_of_mem _ hx)
   rw [QH,Xt,ZeH hw,Zd6 hw,i1,i2,List.all_cons]
   simp only [Za]
   cases Zbx w with
   | true=>simp only [Bool.not_true,Zb,Bool.true_and,and_self]
   | false=>simp only [Bool.not_false,Zl,Bool.false_and,Zb,and_self]
 intro l h
 obtain ⟨k1,k2⟩:=key l h
 unfold Zbo QG
 rw [k1,k2]
 cases l.all Zbx with
 | true=>simp only [Za,Zl,ZN,and_self]
 | false=>simp only [Za,Zb,Y6,and_self]
def ZhK (p:Ze):Bool:=p.Turned && p.Second.all Zbx
theorem Zdq {k:Nat} {p:Ze} (h:okP k p):Zax p=some (ZhK p)∧Y2 p=some (ZhK p):=by
 obtain ⟨e1,e2⟩:=Zgr p.Second fun w hw=>(h.sw w hw).1
 unfold Zax Y2 ZhK
 rw [e1,e2]
 cases p.Turned with
 | true=>simp only [Za,Zl,Bool.true_and,and_self]
 | false=>simp only [Za,Zb,Bool.false_and,and_self]
def Zfi (p:Ze):Ze × Int:=bif p.Turned || !p.First.all Zbx then (PP0,7) else (⟨p.Query,p.Cuts,p.First,p.Second,true⟩,0)
theorem Zgk {k:Nat} {p:Ze} (h:okP k p):Zci p=some (Zfi p)∧Zbq p=some (Zfi p):=by
 obtain ⟨e1,e2⟩:=Zgr p.First fun w hw=>(h.fw w hw).1
 unfold Zci Zbq Zfi
 rw [e1,e2,Zhc h]
 cases p.Turned with
 | true=>simp only [Za,Zl]; exact ⟨rfl,rfl⟩
 | false =>
  cases p.First.all Zbx with
  | true=>simp only [Za,Zb,Bool.not_true]; exact ⟨rfl,rfl⟩
  | false=>simp only [Za,Zb,Zl,Bool.not_false]; exact ⟨rfl,rfl⟩
theorem ZpO {k:Nat} {p:Ze} (h:okP k p) (h0:(Zfi p).2=0):(Zfi p).1=⟨p.Query,p.Cuts,p.First,p.Second,true⟩∧p.Turned=false∧p.First.all Zbx=true∧okP k (Zfi p).1:=by
 unfold Zfi at h0 ⊢
 cases hT:p.Turned with
 | true=>rw [hT] at h0; exact absurd (show (7:Int)=0 from h0) (by decide)
 | false =>
  rw [hT] at h0
  cases hd:p.First.all Zbx with
  | false=>rw [hd] at h0; exact absurd (show (7:Int)=0 from h0) (by decide)
  | true=>exact ⟨rfl,rfl,rfl,h.q,h.c,h.f,h.s,h.fw,h.sw⟩
theorem ZfL {k:Nat} {p:Ze} (h:okP k p):∃ (X:Ze) (e:Int),ZbF p=some (X,e)∧Za0 p=some (X,e)∧(e=0→ZhK p=true∧∃ l,Yz p.Query p.Cuts=some (l,0)∧X=⟨p.Query,p.Cuts,p.Second,l,p.Turned⟩∧okP k X)∧(ZhK p=true→∀ l,Yz p.Query p.Cuts=some (l,0)→e=0):=by
 obtain ⟨l,e,c1,c2,c3⟩:=ZeP p.Query p.Cuts h.q h.c
 obtain ⟨d1,d2⟩:=Zdq h
 unfold ZbF Za0
 rw [d1,d2,c1,c2,Zhc h]
 simp only [Za]
 cases hd:ZhK p with
 | false =>
  simp only [Bool.not_false,Zl]
  exact ⟨_,_,rfl,rfl,fun h=>absurd h (by decide),fun h=>by cases h⟩
 | true =>
  simp only [Bool.not_true,Zb]
  by_cases he:e=0
  ·obtain ⟨g1,-,zs,cs,-,g3,-,-,g4,g5⟩:=c3 he
   subst he
   simp only [decide_true,Bool.not_true,Zb,if_true]
   refine ⟨_,_,rfl,rfl,fun _=>⟨by trivial,l,rfl,rfl,h.q,h.c,h.s,?_,h.sw,?_⟩,fun _ _ _=>rfl⟩
   ·show l.length≤200
    rw [g5]; simpa using g3
   ·intro w hw
    have hw:w ∈ l:=hw
    rw [g5] at hw
    refine ⟨ZqE h.q g4 w hw,?_⟩
    obtain ⟨z,-,rfl⟩:=List.mem_map.1 hw
    exact Nat.zero_le _
  ·simp only [decide_eq_false he,Bool.not_false,Zl]
   exact ⟨_,_,rfl,rfl,fun h=>absurd h he,fun _ l' hl=>absurd (congrArg Prod.snd (Option.some.inj hl)) he⟩
theorem Zjf {k:Nat}:∀ {l:List Zf},(∀ w ∈ l,okW w∧w.Visits.length≤k)→(ZfY l).length≤l.length * k∧∀ v ∈ ZfY l,v.View.Rows.length≤10000
 | [],_=>by simp [ZfY]
 | w::l,h=>by
  obtain ⟨i1,i2⟩:=Zjf (l:=l) fun x hx=>h x (List.mem_cons_of_mem _ hx)
  have hw:=h w List.mem_cons_self
  have hw2:=hw.2
  unfold ZfY at i1 i2 ⊢
  rw [List.flatMap_cons,List.length_append,List.length_cons,Nat.succ_mul]
  refine ⟨by omega,fun v hv=>?_⟩
  rcases List.mem_append.1 hv with hv | hv
  ·exact hw.1.rows v hv
  ·exact i2 v hv
def Zhh (p:Ze):Yg × Int:=bif ZhK p then (⟨p.Query,ZfY p.First,ZfY p.Second⟩,0) else (⟨⟨0,[],⟨#[]⟩,0⟩,[],[]⟩,7)
theorem Zhy {k:Nat} (hk:k≤1000) {p:Ze} (h:okP k p):ZaK p=some (Zhh p)∧ZaJ p=some (Zhh p):=by
 obtain ⟨d1,d2⟩:=Zdq h
 obtain ⟨a1,a2⟩:=Zjf h.fw
 obtain ⟨b1,b2⟩:=Zjf h.sw
 have h1:=Nat.mul_le_mul h.f hk
 have h2:=Nat.mul_le_mul h.s hk
 have h3:=h.q
 obtain ⟨m1,m2⟩:=ZrD p.Query p.First p.Second (by omega) (by omega) (by omega) a2 b2
 unfold ZaK ZaJ Zhh
 rw [d1,d2,m1,m2]
 cases ZhK p with
 | true=>simp only [Za,Bool.not_true,Zb]; exact ⟨rfl,rfl⟩
 | false=>simp only [Za,Bool.not_false,Zl]; exact ⟨rfl,rfl⟩
theorem Zn0 (X:Ze) (e:Int):Zay X e X e=some true:=by
 rw [Zay,decide_eq_true rfl,Zl,Zga,Za]
theorem Zqy {k:Nat} (hk:k≤1000) {p:Ze} (h:okP k p) (i:Int) (v:ZE) (hv:v.Rows.length≤10000):ZaY p i v=some true:=by
 obtain ⟨w1,w2⟩:=Zgq h i
 obtain ⟨d1,d2⟩:=Zdq h
 obtain ⟨t1,t2⟩:=Zgh h i v hv
 obtain ⟨u1,u2⟩:=Zgk h
 obtain ⟨X,e,a1,a2,-⟩:=ZfL h
 obtain ⟨r1,r2⟩:=Zhy hk h
 unfold ZaY
 simp only [w1,w2,d1,d2,t1,t2,u1,u2,a1,a2,r1,r2,Za,Zn0,Ze1,decide_true,Bool.and_self,Bool.not_true,beq_self_eq_true,Zl,Zb]
theorem Zno {vs:List ZE} (hv:ZmC vs) (most:Nat) (hm:most≤100) (I:Nat→Ze→Prop) (hok:∀ n p,I n p→okP n p) (htake:∀ n p i v,n≤500→I n p→v ∈ vs→(Zf2 p i v).2=0→I (n+1) (Zf2 p i v).1) (hturn:∀ n p,I n p→(Zfi p).2=0→I n (Zfi p).1) (hmono:∀ n p,I n p→I (n+1) p) :
   ∀ (fuel:Nat) (l:List Int) (a:Int) (p:Ze) (j n:Nat),okT ⟨l,a⟩→I n p→n+(most - j)≤500→j≤most→most - j<fuel →
   Tot (Yp vs (most:Int) fuel l a p.Query.Kind p.Query.Ranges p.Query.Key p.Query.Count p.Cuts p.First p.Second p.Turned (j:Int)) fun z=>okT ⟨z.2.2.2.2.2.2.2.2.1,z.2.2.2.2.2.2.2.2.2⟩∧I (n+(most - j)) ⟨⟨z.1,z.2.1,z.2.2.1,z.2.2.2.1⟩,z.2.2.2.2.1,z.2.2.2.2.2.1,z.2.2.2.2.2.2.1,z.2.2.2.2.2.2.2.1⟩
 | 0,_,_,_,_,_,_,_,_,_,h=>absurd h (by omega)
 | fuel+1,l,a,p,j,n,h,hI,hn,hj,hf=>by
  have up:∀ (d:Nat) (n:Nat) (p:Ze),I n p→I (n+d) p:=fun d=>by
   induction d with
   | zero=>intro n p h; exact h
   | succ d ih=>intro n p h; exact hmono _ _ (ih n p h)
  have hp:=hok n p hI
  rw [Yp]
  refine Zt (R:=fun z=>okT ⟨z.1,z.2.1⟩∧(z.2.2=true→j<most)) (ZG (fun h1=>QW (ZA ⟨h,fun _=>by have:=of_decide_eq_true h1; omega⟩)) fun _=>ZA ⟨h,by simp⟩) ?_
  rintro ⟨x17,x18,x19⟩ ⟨g1,g2⟩
  simp only at g1 g2 ⊢
  refine Zce (R:=fun _=>j<most) (ZG (fun h1=>ZA (g2 h1)) fun _=>ZA ⟨g1,up _ n p hI⟩) fun _ hjm=>?_
  refine Zt (Zad g1 (by have:=hp.f; omega)) fun y20 h20=>?_
  obtain ⟨w1,w2⟩:=Zgq hp y20.1
  rw [show (Ze.mk (Zj.mk p.Query.Kind p.Query.Ranges p.Query.Key p.Query.Count) p.Cuts p.First p.Second p.Turned)=p from rfl,w2,Za,Zr]
  refine Zt (Zn5 h20.1 hv _ _) fun y23 h23=>?_
  have hr:y23.1.Rows.length≤10000:=by have:=hv.2.2 _ h23.2; omega
  rw [(Zgh hp y20.1 y23.1 hr).2,Za]
  have hi:Z6 ((j:Int)+1)=((j+1:Nat):Int):=by rw [ZT (by omega) (by omega)]; omega
  rw [hi]
  refine Zt (R:=fun z=>I (n+1) ⟨⟨z.1,z.2.1,z.2.2.1,z.2.2.2.1⟩,z.2.2.2.2.1,z.2.2.2.2.2.1,z.2.2.2.2.2.2.1,z.2.2.2.2.2.2.2⟩) (ZG (fun h1=>ZA (htake n p _ _ (by omega) hI h23.2 (of_decide_eq_true h1))) fun _=>ZA (hmono n p hI)) ?_
  rintro ⟨p25,p26,p27,p28,p29,p30,p31,p32⟩ hI2
  simp only at hI2 ⊢
  generalize hP:(Ze.mk (Zj.mk p25 p26 p27 p28) p29 p30 p31 p32)=P at hI2 ⊢
  have hp2:=hok _ _ hI2
  have next:∀ (τ:Zy) (P:Ze),okT τ→I (n+1) P→Tot (Yp vs (most:Int) fuel τ.l τ.at_ P.Query.Kind P.Query.Ranges P.Query.Key P.Query.Count P.Cuts P.First P.Second P.Turned ((j+1:Nat):Int)) fun z=>okT ⟨z.2.2.2.2.2.2.2.2.1,z.2.2.2.2.2.2.2.2.2⟩∧I (n+(most - j)) ⟨⟨z.1,z.2.1,z.2.2.1,z.2.2.2.1⟩,z.2.2.2.2.1,z.2.2.2.2.2.1,z.2.2.2.2.2.2.1,z.2.2.2.2.2.2.2.1⟩:=fun τ P k1 k2=>by
   have:=Zno hv most hm I hok htake hturn hmono fuel τ.l τ.at_ P (j+1) (n+1) k1 k2 (by omega) (by omega) (by omega)
   rw [show n+1+(most - (j+1))=n+(most - j) by omega] at this
   exact this
  have stay:=next y23.2 P h23.1 hI2
  rw [← hP] at stay
  rw [(Zgk hp2).2,Za]
  refine ZG (fun h1=>Zt (Zcg h23.1 (by omega)) fun y34 h34=>ZG (fun _=>next y34.2 _ h34 (hturn _ _ hI2 (of_decide_eq_true h1))) fun _=>?_) fun _=>stay
  have:=next y34.2 P h34 hI2
  rw [← hP] at this
  exact this
theorem Zp8 {vs:List ZE} (hv:ZmC vs) (most:Nat) (hm:most≤100) (I:Nat→Ze→Prop) (hok:∀ n p,I n p→okP n p) (htake:∀ n p i v,n≤500→I n p→v ∈ vs→(Zf2 p i v).2=0→I (n+1) (Zf2 p i v).1) (hturn:∀ n p,I n p→(Zfi p).2=0→I n (Zfi p).1) (hmono:∀ n p,I n p→I (n+1) p)
   {τ:Zy} (h:okT τ) {p:Ze} {n:Nat} (hI:I n p) (hn:n+most≤500):Tot (Zch τ p vs (most:Int)) fun y=>okT y.2∧I (n+most) y.1:=by
 unfold Zch
 refine Zt (Zno hv most hm I hok htake hturn hmono FU τ.l τ.at_ p 0 n h hI (by omega) (by omega) (by unfold FU; omega)) ?_
 rintro ⟨p35,p36,p37,p38,p39,p40,p41,p42,x43,x44⟩ ⟨g1,g2⟩
 exact ZA ⟨g1,g2⟩
theorem ZdQ:∀ (fuel:Nat) (l:List Int) (a:Int) (p:Ze) (i:Nat),okT ⟨l,a⟩→okP (4 * i) p→i≤8→8 - i<fuel →
   Tot (ZO fuel l a p.Query.Kind p.Query.Ranges p.Query.Key p.Query.Count p.Cuts p.First p.Second p.Turned (i:Int)) (Zsv (fun b=>b=true) fun z=>okT ⟨z.1,z.2.1⟩∧okP 32 ⟨⟨z.2.2.1,z.2.2.2.1,z.2.2.2.2.1,z.2.2.2.2.2.1⟩,z.2.2.2.2.2.2.1,z.2.2.2.2.2.2.2.1,z.2.2.2.2.2.2.2.2.1,z.2.2.2.2.2.2.2.2.2⟩)
 | 0,_,_,_,_,_,_,_,h=>absurd h (by omega)
 | fuel+1,l,a,p,i,h,hp,hi,hf=>by
  rw [ZO]
  refine Zt (R:=fun z=>okT ⟨z.1,z.2.1⟩∧(z.2.2=true→i<8)) (ZG (fun h1=>QW (ZA ⟨h,fun _=>by have:=of_decide_eq_true h1; omega⟩)) fun _=>ZA ⟨h,by simp⟩) ?_
  rintro ⟨x18,x19,x20⟩ ⟨g1,g2⟩
  simp only at g1 g2 ⊢
  refine Zce (R:=fun _=>i<8) (ZG (fun h1=>ZA (g2 h1)) fun _=>ZA ⟨g1,hp.mono (by omega)⟩) fun _ hi8=>?_
  refine ZpF g1 (by omega) (by omega) fun y21 t vs k1 k2 k3 k4 k5=>?_
  have hv:ZmC vs:=k5.good k3 (by omega)
  have hpl:=Zp8 hv 4 (by omega) okP (fun _ _ h=>h) (fun n p i v hn h hm h0=>ZpN (by omega) h (by have:=hv.2.2 v hm; omega) h0) (fun n p h h0=>(ZpO h h0).2.2.2) (fun n p h=>h.mono (by omega)) k1 hp (by omega)
  rw [show ((4:Nat):Int)=4 from rfl] at hpl
  refine Zt hpl fun y23 h23=>?_
  have hl:=hv.1
  have h0:0<vs.length:=List.length_pos_iff.2 hl
  refine Zt (Zad h23.1 (by omega)) fun y24 h24=>?_
  have hc:=h24.2
  unfold Cho at hc
  refine Zt (Zfa (Q:=fun v=>v ∈ vs) hc.1 (by omega) fun _=>List.getElem_mem _) fun e25 he=>Zt (Zcg h24.1 (by omega)) fun y26 h26=>?_
  refine Zt (R:=fun z=>okT ⟨z.1,z.2.1⟩∧z.2.2.2.2.2.2.2.2.2.length≤8) (ZG (fun _=>Zt (ZlR h26) fun y27 h27=>Zt (ZkW h27.1 _) fun y28 h28=>ZA h28) fun _=>ZA ⟨h26,hv.2.2 _ he⟩) ?_
  rintro ⟨x29,x30,v31,v32,v33,v34,v35,v36,v37,v38⟩ ⟨g5,g6⟩
  simp only at g5 g6 ⊢
  refine Zt (Zad g5 (by omega)) fun y39 h39=>?_
  have hp2:okP (4 * (i+1)) y23.1:=h23.2.mono (by omega)
  have hii:Z6 ((i:Int)+1)=((i+1:Nat):Int):=by rw [ZT (by omega) (by omega)]; omega
  rw [Zqy (k:=4 * (i+1)) (by omega) hp2 _ _ (by simp only; omega),Za,Bool.not_true,Zb,hii]
  obtain ⟨X,e,a1,a2,a3,-⟩:=ZfL hp2
  rw [a2,Za]
  refine ZG (fun h1=>Zt (Zcg h39.1 (by omega)) fun y42 h42=>ZG (fun _=>?_) fun _=>ZdQ fuel _ _ y23.1 (i+1) h42 hp2 (by omega) (by omega)) fun _=>ZdQ fuel _ _ y23.1 (i+1) h39.1 hp2 (by omega) (by omega)
  obtain ⟨-,l,-,-,hX⟩:=a3 (of_decide_eq_true h1)
  exact ZdQ fuel _ _ X (i+1) h42 hX (by omega) (by omega)
theorem Ztu:okP 0 PP0:=⟨by simp,by simp,by simp,by simp,by simp,by simp⟩
theorem Zho (l:List Int):Qm l=some true:=by
 suffices h:Tot (Qm l) fun b=>b=true by
  obtain ⟨b,e,rfl⟩:=ZtZ h
  exact e
 have aw:Tot (Zc ZaX fun y5=>some y5) fun b=>b=true:=ZwM ZnN (ZA rfl)
 unfold Qm
 refine Zt (ZrR l) fun τ hτ=>Zt (ZnV hτ) fun y3 h3=>Zt (ZkN h3.1 (by omega) (by omega)) fun y4 h4=>?_
 have hk:=h3.2.2.1
 obtain ⟨ws,e,-,c2,c3⟩:=ZeP y3.1 y4.1 (by omega) (by omega)
 rw [c2,Za]
 have hp:okP (4 * 0) (if e=0 then ⟨y3.1,y4.1,ws,ws,false⟩ else PP0):=by
  split
  ·rename_i he
   obtain ⟨g1,-,zs,cs,-,g3,-,-,g4,rfl⟩:=c3 he
   have hw:∀ w ∈ zs.map (mkw y3.1),okW w∧w.Visits.length≤0:=fun w hw=>⟨ZqE (by omega) g4 w hw,by
    obtain ⟨z,-,rfl⟩:=List.mem_map.1 hw
    exact Nat.zero_le _⟩
   exact ⟨by show y3.1.Ranges.length≤1000; omega,by show y4.1.length≤1000; omega,by simpa using g3,by simpa using g3,hw,hw⟩
  ·exact Ztu
 refine Zce (ZdQ FU y4.2.l y4.2.at_ _ 0 h4.1 hp (by omega) (by unfold FU; omega)) ?_
 rintro ⟨x43,x44,p45,p46,p47,p48,p49,p50,p51,p52⟩ ⟨m1,m2⟩
 simp only at m1 m2 ⊢
 rw [Zr]
 refine Zt (ZkW m1 _) fun y54 h54=>?_
 have h8:=h54.2
 rw [Zqy (by omega) m2 _ _ (by omega),Za,Zl]
 exact aw
end Go.Proofs.YtkcmgbbopedacaaGreatDoor
