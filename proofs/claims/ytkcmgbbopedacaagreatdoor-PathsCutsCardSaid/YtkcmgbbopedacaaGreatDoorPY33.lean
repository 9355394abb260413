/-
  Lemmas: The law PathsSplits holds of its model.
-/
import Derived.Test.YtkcmgbbopedacaaGreatDoorPY26
import Derived.Test.YtkcmgbbopedacaaGreatDoorPY28
import Derived.Test.YtkcmgbbopedacaaGreatDoorPY18
import Derived.Test.YtkcmgbbopedacaaGreatDoorPY32
import Derived.Test.YtkcmgbbopedacaaGreatDoorPY22
set_option linter.unusedSimpArgs false
set_option linter.unusedVariables false
namespace Go.Proofs.YtkcmgbbopedacaaGreatDoor
open Go.RowKit
attribute [local irreducible] Tot sel bnd Ze Yv app Yx lsl ZcT
theorem Zlk {x y z:Bnd} (h1:y.lt x=false) (h2:z.lt y=false):z.lt x=false:=by
 unfold Bnd.lt at *
 cases hz:z.top <;> cases hy:y.top <;> cases hx:x.top <;> simp_all
 cases h:Op.bytesLess z.key.toList x.key.toList with
 | false=>rfl
 | true =>
  cases g:Op.bytesLess y.key.toList z.key.toList with
  | true=>rw [Yr g h] at h1; cases h1
  | false=>rw [YQ g h2] at h1; rw [h] at h1; cases h1
abbrev Zee:Bnd→Bnd→Bool:=fun e4 e5=>bnd (Zj e4 e5) fun y6=>decide (y6<0)
theorem Zie (a b:Bnd):Zee a b=a.lt b:=by
 simp only [Zee,Zm,Zw]
 cases h:a.lt b with
 | true=>exact decide_eq_true ((X9 _ _).2 h)
 | false=>exact decide_eq_false fun h2=>by rw [(X9 _ _).1 h2] at h; cases h
theorem Zwd:SM.Wo Zee where
 asym x y h:=by rw [Zie] at h ⊢; exact Yb h
 tr x y z h1 h2:=by rw [Zie] at h1 h2 ⊢; exact Zlk h1 h2
theorem ZoB:∀ d:List Bnd,(∀ (i j:Nat) (x y:Bnd),i<j→d[i]?=some x→d[j]?=some y→y.lt x=false)→Asc d
 | [],_=>trivial
 | c::cs,h=>⟨fun x hx=>by
  obtain ⟨j,hj⟩:=List.mem_iff_getElem?.1 hx
  exact h 0 (j+1) c x (by omega) rfl (by simpa using hj),ZoB cs fun i j x y hij hx hy=>h (i+1) (j+1) x y (by omega) (by simpa using hx) (by simpa using hy)⟩
theorem Zix (d:List Bnd):Asc (SM.stab Zee d)∧(SM.stab Zee d).Perm d:=by
 obtain ⟨h1,h2⟩:=SM.stab_spec Zwd d
 refine ⟨ZoB _ fun i j x y hij hx hy=>?_,h1⟩
 have:=h2 i j x y (Nat.zero_le _) hij (by rw [← h1.length_eq]; exact (List.getElem?_eq_some_iff.1 hy).1) hx hy
 rwa [Zie] at this
theorem Zkl (l4:List Bnd) (hl:l4.length≤100000) (r:Rng):∀ (k fuel m:Nat) (o:List Rng) (lo:Bnd),l4.length - m=k→m≤l4.length→k<fuel→o.length+k≤1000000 →
   ∃ (q:List Rng) (x:Bnd),XC l4 r fuel o lo.key lo.top (m:Int)=some (q,x.key,x.top)∧q++[⟨x,r.hi⟩]=o++spl r.hi (l4.drop m) lo
 | 0,fuel,m,o,lo,h1,h2,h3,h4=>by
  obtain ⟨fuel,rfl⟩:∃ f,fuel=f+1:=⟨fuel - 1,by omega⟩
  refine ⟨o,lo,?_,by rw [List.drop_of_length_le (by omega),spl]⟩
  rw [XC,decide_eq_false (by omega),Zb,Za,Yl]
 | k+1,fuel,m,o,lo,h1,h2,h3,h4=>by
  obtain ⟨fuel,rfl⟩:∃ f,fuel=f+1:=⟨fuel - 1,by omega⟩
  obtain ⟨c,hx,hdr⟩:=Zdl (show m<l4.length by omega)
  rw [hdr,spl]
  have hcond:(bnd (vb c) fun y15=>sel y15 (bnd (cmp c (Bnd.mk lo.key lo.top)) fun y16=>sel (decide (0<y16)) (bnd (cmp c r.hi) fun y17=>some (decide (y17<0))) (some false)) (some false))=some (inC lo r.hi c):=by
   simp only [Zm,inC,show (Bnd.mk lo.key lo.top)=lo from rfl]
   cases vb c with
   | false=>rw [Zb]; rfl
   | true =>
    rw [Zd]
    by_cases g:0<cmp c lo
    ·rw [decide_eq_true g,Zd]; rfl
    ·rw [decide_eq_false g,Zb]; rfl
  rw [XC,decide_eq_true (by omega),Zd,Za,Zy,Ya,hx,Za,Qb,Zw,Zw,hcond,Za,ZA (by omega) (by omega)]
  rw [show (m:Int)+1=((m+1:Nat):Int) by omega]
  cases hi:inC lo r.hi c with
  | false =>
   rw [Zb,if_neg (by simp)]
   exact Zkl l4 hl r k fuel (m+1) o lo (by omega) (by omega) (by omega) (by omega)
  | true =>
   rw [Zd,if_pos rfl,ZT (by simp; omega),Za]
   obtain ⟨q,x,e1,e2⟩:=Zkl l4 hl r k fuel (m+1) (o++[⟨lo,c⟩]) c (by omega) (by omega) (by omega) (by simp; omega)
   exact ⟨q,x,e1,by rw [e2]; simp⟩
theorem ZkD (cs:List Bnd) (hc:cs.length≤200):∀ (l o:List Rng),o.length+l.length * (cs.length+1)≤900000→Qq cs l o=some (o++Zd3 cs l)
 | [],o,_=>by rw [Qq,Zd3,List.append_nil]
 | r::l,o,h=>by
  rw [List.length_cons,Nat.add_mul,Nat.one_mul] at h
  rw [Qq,Zd3,Yi,Zm]
  cases he:emp r with
  | true=>rw [Zd,Za,Yl,Za,ZkD cs hc l o (by omega),if_pos rfl,List.nil_append]
  | false =>
   have hs:=Zib r.hi cs r.lo
   obtain ⟨q,x,e1,e2⟩:=Zkl cs (by omega) r cs.length FU 0 o r.lo (by omega) (by omega) (by simp only [FU]; omega) (by omega)
   have hq:q.length+1=o.length+(spl r.hi cs r.lo).length:=by
    have:=congrArg List.length e2
    simpa using this
   rw [show ((0:Nat):Int)=0 from rfl] at e1
   rw [Zb,Za,Zy,e1,Za]
   simp only []
   rw [ZT (by simp; omega),Za,Za,show (Rng.mk (Bnd.mk x.key x.top) r.hi)=⟨x,r.hi⟩ from rfl,e2,List.drop_zero,ZkD cs hc l _ (by rw [List.length_append]; omega),if_neg (by simp),List.append_assoc]
theorem ZaR (l:List Bnd) (h:l.length≤4294967296):Z7 l=some l:=by
 unfold Z7
 rw [ZT (by simpa using h),Za]; rfl
theorem Zii (l:List Rng) (cuts:List Bnd) (hl:l.length≤200) (hc:cuts.length≤200):Zce l cuts=some (Zd3 (SM.stab Zee cuts) l)∧Zaq l cuts=some (Zd3 (SM.stab Zee cuts) l):=by
 obtain ⟨h1,h2⟩:=Zix cuts
 have hn:=h2.length_eq
 refine ⟨?_,ZpN cuts _ l h1 (fun c=>h2.mem_iff) (by omega) hl⟩
 have hb:l.length * ((SM.stab Zee cuts).length+1)≤200 * 201:=Nat.mul_le_mul hl (by omega)
 have hs:ZcT Zee cuts=some (SM.stab Zee cuts):=by unfold ZcT; rw [if_pos (by omega)]
 rw [Zce,ZaR cuts (by omega),Za,hs,Za,ZkD _ (by omega) l [] (by simp; omega),Za,List.nil_append]
theorem Zkn {hi:Bnd}:∀ (cs:List Bnd) (lo:Bnd),Cut hi lo (spl hi cs lo)
 | [],lo=>.last
 | c::cs,lo=>by
  rw [spl]
  split
  ·rename_i h
   obtain ⟨h1,h2,h3⟩:=ZdB.1 h
   exact .cons h2 h3 h1 (Zkn cs c)
  ·exact Zkn cs lo
theorem Zin (cs:List Bnd):∀ l:List Rng,(∀ r ∈ Zd3 cs l,emp r=false)∧∀ b,vb b=true→(Pt (Zd3 cs l) b↔Pt (l.filter ne) b)
 | []=>⟨by simp [Zd3],fun b _=>by simp [Zd3]⟩
 | r::l=>by
  obtain ⟨g1,g2⟩:=Zin cs l
  rw [Zd3]
  cases he:emp r with
  | true =>
   rw [if_pos rfl,List.nil_append,List.filter_cons_of_neg (by simp [ne,he])]
   exact ⟨g1,g2⟩
  | false =>
   rw [if_neg (by simp),List.filter_cons_of_pos (by simp [ne,he])]
   obtain ⟨v1,v2,v3⟩:=Zov he
   obtain ⟨k1,k2⟩:=ZoG v2 (Zkn cs r.lo) v1 v3
   refine ⟨fun x hx=>(List.mem_append.1 hx).elim (k1 x) (g1 x),fun b hb=>?_⟩
   rw [ZW,← g2 b hb,← k2 b hb]
   simp only [Pt,List.mem_append]
   constructor
   ·rintro ⟨x,h1 | h1,h2⟩
    ·exact .inl ⟨x,h1,h2⟩
    ·exact .inr ⟨x,h1,h2⟩
   ·rintro (⟨x,h1,h2⟩ | ⟨x,h1,h2⟩)
    ·exact ⟨x,.inl h1,h2⟩
    ·exact ⟨x,.inr h1,h2⟩
end Go.Proofs.YtkcmgbbopedacaaGreatDoor
namespace Go.Proofs.YtkcmgbbopedacaaGreatDoor
open Go.RowKit
attribute [local irreducible] Tot sel bnd Ze Yv app Yx lsl ZcT
abbrev awQ:Zg:=⟨1,[⟨⟨⟨#[97]⟩,false⟩,⟨⟨#[109]⟩,false⟩⟩],⟨#[]⟩,0⟩
abbrev awC:List Bnd:=[⟨⟨#[102]⟩,false⟩,⟨⟨#[122]⟩,false⟩]
abbrev Zq2:Rng:=⟨⟨⟨#[97]⟩,false⟩,⟨⟨#[102]⟩,false⟩⟩
abbrev Zq1:Rng:=⟨⟨⟨#[102]⟩,false⟩,⟨⟨#[109]⟩,false⟩⟩
abbrev awR:Rng:=⟨⟨⟨#[97]⟩,false⟩,⟨⟨#[109]⟩,false⟩⟩
theorem Zr6:union [awR]=[awR]:=Zpy .last (by kernel_rfl)
theorem ZsV:qrg awQ=[awR]:=by
 have e:Zcv 1 [awR] ⟨#[]⟩ 0=0:=by kernel_rfl
 show Yg 1 [awR] ⟨#[]⟩ 0=[awR]
 unfold Yg
 rw [if_pos e]
 exact Zr6
theorem ZpV:YA awQ=some [awR]:=by
 unfold YA
 rw [if_pos (by decide)]
 exact congrArg some ZsV
theorem ZrF:Qo awQ awC=some [[Zq2],[Zq1]]:=by
 have e:Zd3 (SM.stab Zee awC) [⟨⟨⟨#[97]⟩,false⟩,⟨⟨#[109]⟩,false⟩⟩]=[Zq2,Zq1]:=by kernel_rfl
 rw [Qo,ZpV,Za,(Zii _ awC (by decide) (by decide)).1,e]
 show Ze _ _=_
 kernel_rfl
theorem Zmo (r:Rng) (h:Zgg [awR] none [r]=0):Zal awQ [r]=some (⟨awQ,[r],[]⟩,0):=by
 rw [Ze6 awQ [r] (by decide)]
 unfold Zlu
 rw [if_neg (by rw [show qch awQ=0 by kernel_rfl]; decide),if_neg (by simp),ZsV,if_pos h]
theorem Zm4:X4 awQ awC=some ([⟨awQ,[Zq2],[]⟩,⟨awQ,[Zq1],[]⟩],0):=by
 have e1:Y3 awQ=some 0:=by
  unfold Y3
  rw [if_pos (by decide)]
  kernel_rfl
 have e2:Yw awC awC 0=some (Ctl.nxt ()):=by kernel_rfl
 have e3:Yh awQ [[Zq2],[Zq1]] []=some (Ctl.nxt [⟨awQ,[Zq2],[]⟩,⟨awQ,[Zq1],[]⟩]):=by
  rw [Yh,Zmo _ (by kernel_rfl),Za]
  simp only [decide_true,Bool.not_true,Zb]
  rw [ZT (by simp),Za,Yh,Zmo _ (by kernel_rfl),Za]
  simp only [decide_true,Bool.not_true,Zb]
  rw [ZT (by simp),Za,Yh]
  rfl
 rw [X4,e1,Za]
 simp only [decide_true,Bool.not_true,Zb]
 rw [decide_eq_false (by decide),Zb,e2,Za,Zy,ZrF,Za,e3,Za,Zy]
theorem ZpY:Zbq=some true:=by
 have e:Zar awQ awC=some (⟨awQ,awC,[⟨awQ,[Zq2],[]⟩,⟨awQ,[Zq1],[]⟩],[⟨awQ,[Zq2],[]⟩,⟨awQ,[Zq1],[]⟩],false⟩,0):=by
  have e4:XJ [⟨awQ,[Zq2],[]⟩,⟨awQ,[Zq1],[]⟩]=some [⟨awQ,[Zq2],[]⟩,⟨awQ,[Zq1],[]⟩]:=by kernel_rfl
  rw [Zar,Zm4,Za]
  simp only [decide_true,Bool.not_true,Zb]
  rw [X8 _ (by decide),Za,ZaR _ (by decide),Za,e4,Za]
 have e0:Qz ⟨#[97]⟩ ⟨#[109]⟩=awR:=rfl
 rw [Zbq,e0,Zm,show (Zg.mk 1 ([awR]:List Rng) ⟨#[]⟩ 0)=awQ from rfl,e,Za]
 show sel _ _ _=_
 kernel_rfl
end Go.Proofs.YtkcmgbbopedacaaGreatDoor
