/-
  Lemmas: The law PathsSplits holds of its model.
-/
import Derived.Test.YtkcmgbbopedacaaGreatDoorPX26
import Derived.Test.YtkcmgbbopedacaaGreatDoorPX28
import Derived.Test.YtkcmgbbopedacaaGreatDoorPX18
import Derived.Test.YtkcmgbbopedacaaGreatDoorPX32
import Derived.Test.YtkcmgbbopedacaaGreatDoorPX22
set_option linter.unusedSimpArgs false
set_option linter.unusedVariables false
namespace Go.Proofs.YtkcmgbbopedacaaGreatDoor
open Go.RowKit
attribute [local irreducible] Tot sel bnd Zc YB app Yn lsl Zc6
theorem Zj7 {x y z:Bnd} (h1:y.lt x=false) (h2:z.lt y=false):z.lt x=false:=by
 unfold Bnd.lt at *
 cases hz:z.top <;> cases hy:y.top <;> cases hx:x.top <;> simp_all
 cases h:Op.bytesLess z.key.toList x.key.toList with
 | false=>rfl
 | true =>
  cases g:Op.bytesLess y.key.toList z.key.toList with
  | true=>rw [Yr g h] at h1; cases h1
  | false=>rw [YD g h2] at h1; rw [h] at h1; cases h1
abbrev Zdj:Bnd→Bnd→Bool:=fun e4 e5=>bnd (Zm e4 e5) fun y6=>decide (y6<0)
theorem Zhl (a b:Bnd):Zdj a b=a.lt b:=by
 simp only [Zdj,Zr,Zz]
 cases h:a.lt b with
 | true=>exact decide_eq_true ((Zbh _ _).2 h)
 | false=>exact decide_eq_false fun h2=>by rw [(Zbh _ _).1 h2] at h; cases h
theorem ZtI:SM.Wo Zdj where
 asym x y h:=by rw [Zhl] at h ⊢; exact Y5 h
 tr x y z h1 h2:=by rw [Zhl] at h1 h2 ⊢; exact Zj7 h1 h2
theorem Znl:∀ d:List Bnd,(∀ (i j:Nat) (x y:Bnd),i<j→d[i]?=some x→d[j]?=some y→y.lt x=false)→Asc d
 | [],_=>trivial
 | c::cs,h=>⟨fun x hx=>by
  obtain ⟨j,hj⟩:=List.mem_iff_getElem?.1 hx
  exact h 0 (j+1) c x (by omega) rfl (by simpa using hj),Znl cs fun i j x y hij hx hy=>h (i+1) (j+1) x y (by omega) (by simpa using hx) (by simpa using hy)⟩
theorem Zhe (d:List Bnd):Asc (SM.stab Zdj d)∧(SM.stab Zdj d).Perm d:=by
 obtain ⟨h1,h2⟩:=SM.stab_spec ZtI d
 refine ⟨Znl _ fun i j x y hij hx hy=>?_,h1⟩
 have:=h2 i j x y (Nat.zero_le _) hij (by rw [← h1.length_eq]; exact (List.getElem?_eq_some_iff.1 hy).1) hx hy
 rwa [Zhl] at this
theorem Zjo (l4:List Bnd) (hl:l4.length≤100000) (r:Rng):∀ (k fuel m:Nat) (o:List Rng) (lo:Bnd),l4.length - m=k→m≤l4.length→k<fuel→o.length+k≤1000000 →
   ∃ (q:List Rng) (x:Bnd),Xo l4 r fuel o lo.key lo.top (m:Int)=some (q,x.key,x.top)∧q++[⟨x,r.hi⟩]=o++spl r.hi (l4.drop m) lo
 | 0,fuel,m,o,lo,h1,h2,h3,h4=>by
  obtain ⟨fuel,rfl⟩:∃ f,fuel=f+1:=⟨fuel - 1,by omega⟩
  refine ⟨o,lo,?_,by rw [List.drop_of_length_le (by omega),spl]⟩
  rw [Xo,decide_eq_false (by omega),Zb,Za,Y6]
 | k+1,fuel,m,o,lo,h1,h2,h3,h4=>by
  obtain ⟨fuel,rfl⟩:∃ f,fuel=f+1:=⟨fuel - 1,by omega⟩
  obtain ⟨c,hx,hdr⟩:=Zdx (show m<l4.length by omega)
  rw [hdr,spl]
  have hcond:(bnd (vb c) fun y15=>sel y15 (bnd (cmp c (Bnd.mk lo.key lo.top)) fun y16=>sel (decide (0<y16)) (bnd (cmp c r.hi) fun y17=>some (decide (y17<0))) (some false)) (some false))=some (inC lo r.hi c):=by
   simp only [Zr,inC,show (Bnd.mk lo.key lo.top)=lo from rfl]
   cases vb c with
   | false=>rw [Zb]; rfl
   | true =>
    rw [Zl]
    by_cases g:0<cmp c lo
    ·rw [decide_eq_true g,Zl]; rfl
    ·rw [decide_eq_false g,Zb]; rfl
  rw [Xo,decide_eq_true (by omega),Zl,Za,ZN,Z9,hx,Za,XN,Zz,Zz,hcond,Za,ZT (by omega) (by omega)]
  rw [show (m:Int)+1=((m+1:Nat):Int) by omega]
  cases hi:inC lo r.hi c with
  | false =>
   rw [Zb,if_neg (by simp)]
   exact Zjo l4 hl r k fuel (m+1) o lo (by omega) (by omega) (by omega) (by omega)
  | true =>
   rw [Zl,if_pos rfl,Z4 (by simp; omega),Za]
   obtain ⟨q,x,e1,e2⟩:=Zjo l4 hl r k fuel (m+1) (o++[⟨lo,c⟩]) c (by omega) (by omega) (by omega) (by simp; omega)
   exact ⟨q,x,e1,by rw [e2]; simp⟩
theorem Zjt (cs:List Bnd) (hc:cs.length≤200):∀ (l o:List Rng),o.length+l.length * (cs.length+1)≤900000→X3 cs l o=some (o++Zdh cs l)
 | [],o,_=>by rw [X3,Zdh,List.append_nil]
 | r::l,o,h=>by
  rw [List.length_cons,Nat.add_mul,Nat.one_mul] at h
  rw [X3,Zdh,Yk,Zr]
  cases he:emp r with
  | true=>rw [Zl,Za,Y6,Za,Zjt cs hc l o (by omega),if_pos rfl,List.nil_append]
  | false =>
   have hs:=ZgY r.hi cs r.lo
   obtain ⟨q,x,e1,e2⟩:=Zjo cs (by omega) r cs.length FU 0 o r.lo (by omega) (by omega) (by simp only [FU]; omega) (by omega)
   have hq:q.length+1=o.length+(spl r.hi cs r.lo).length:=by
    have:=congrArg List.length e2
    simpa using this
   rw [show ((0:Nat):Int)=0 from rfl] at e1
   rw [Zb,Za,ZN,e1,Za]
   simp only []
   rw [Z4 (by simp; omega),Za,Za,show (Rng.mk (Bnd.mk x.key x.top) r.hi)=⟨x,r.hi⟩ from rfl,e2,List.drop_zero,Zjt cs hc l _ (by rw [List.length_append]; omega),if_neg (by simp),List.append_assoc]
theorem Zbu (l:List Bnd) (h:l.length≤4294967296):ZZ l=some l:=by
 unfold ZZ
 rw [Z4 (by simpa using h),Za]; rfl
theorem Zhm (l:List Rng) (cuts:List Bnd) (hl:l.length≤200) (hc:cuts.length≤200):ZbM l cuts=some (Zdh (SM.stab Zdj cuts) l)∧Q8 l cuts=some (Zdh (SM.stab Zdj cuts) l):=by
 obtain ⟨h1,h2⟩:=Zhe cuts
 have hn:=h2.length_eq
 refine ⟨?_,ZnO cuts _ l h1 (fun c=>h2.mem_iff) (by omega) hl⟩
 have hb:l.length * ((SM.stab Zdj cuts).length+1)≤200 * 201:=Nat.mul_le_mul hl (by omega)
 have hs:Zc6 Zdj cuts=some (SM.stab Zdj cuts):=by unfold Zc6; rw [if_pos (by omega)]
 rw [ZbM,Zbu cuts (by omega),Za,hs,Za,Zjt _ (by omega) l [] (by simp; omega),Za,List.nil_append]
theorem Zjh {hi:Bnd}:∀ (cs:List Bnd) (lo:Bnd),Cut hi lo (spl hi cs lo)
 | [],lo=>.last
 | c::cs,lo=>by
  rw [spl]
  split
  ·rename_i h
   obtain ⟨h1,h2,h3⟩:=ZcJ.1 h
   exact .cons h2 h3 h1 (Zjh cs c)
  ·exact Zjh cs lo
theorem ZkH (cs:List Bnd):∀ l:List Rng,(∀ r ∈ Zdh cs l,emp r=false)∧∀ b,vb b=true→(Pt (Zdh cs l) b↔Pt (l.filter ne) b)
 | []=>⟨by simp [Zdh],fun b _=>by simp [Zdh]⟩
 | r::l=>by
  obtain ⟨g1,g2⟩:=ZkH cs l
  rw [Zdh]
  cases he:emp r with
  | true =>
   rw [if_pos rfl,List.nil_append,List.filter_cons_of_neg (by simp [ne,he])]
   exact ⟨g1,g2⟩
  | false =>
   rw [if_neg (by simp),List.filter_cons_of_pos (by simp [ne,he])]
   obtain ⟨v1,v2,v3⟩:=ZmF he
   obtain ⟨k1,k2⟩:=Znx v2 (Zjh cs r.lo) v1 v3
   refine ⟨fun x hx=>(List.mem_append.1 hx).elim (k1 x) (g1 x),fun b hb=>?_⟩
   rw [Xz,← g2 b hb,← k2 b hb]
   simp only [Pt,List.mem_append]
   constructor
   ·rintro ⟨x,h1 | h1,h2⟩
    ·exact .inl ⟨x,h1,h2⟩
    ·exact .inr ⟨x,h1,h2⟩
   ·rintro (⟨x,h1,h2⟩ | ⟨x,h1,h2⟩)
    ·exact ⟨x,.inl h1,h2⟩
    ·exact ⟨x,.inr h1,h2⟩
end Go.Proofs.YtkcmgbbopedacaaGreatDoor
namespace Go.Proofs.YtkcmgbbopedacaaGreatDoor
open Go.RowKit
attribute [local irreducible] Tot sel bnd Zc YB app Yn lsl Zc6
abbrev awQ:Zj:=⟨1,[⟨⟨⟨#[97]⟩,false⟩,⟨⟨#[109]⟩,false⟩⟩],⟨#[]⟩,0⟩
abbrev awC:List Bnd:=[⟨⟨#[102]⟩,false⟩,⟨⟨#[122]⟩,false⟩]
abbrev Zo4:Rng:=⟨⟨⟨#[97]⟩,false⟩,⟨⟨#[102]⟩,false⟩⟩
abbrev Zo2:Rng:=⟨⟨⟨#[102]⟩,false⟩,⟨⟨#[109]⟩,false⟩⟩
abbrev awR:Rng:=⟨⟨⟨#[97]⟩,false⟩,⟨⟨#[109]⟩,false⟩⟩
theorem Zp9:union [awR]=[awR]:=ZnP .last (by kernel_rfl)
theorem ZqW:qrg awQ=[awR]:=by
 have e:Zcb 1 [awR] ⟨#[]⟩ 0=0:=by kernel_rfl
 show YC 1 [awR] ⟨#[]⟩ 0=[awR]
 unfold YC
 rw [if_pos e]
 exact Zp9
theorem Zn6:Y9 awQ=some [awR]:=by
 unfold Y9
 rw [if_pos (by decide)]
 exact congrArg some ZqW
theorem Zp1:XX awQ awC=some [[Zo4],[Zo2]]:=by
 have e:Zdh (SM.stab Zdj awC) [⟨⟨⟨#[97]⟩,false⟩,⟨⟨#[109]⟩,false⟩⟩]=[Zo4,Zo2]:=by kernel_rfl
 rw [XX,Zn6,Za,(Zhm _ awC (by decide) (by decide)).1,e]
 show Zc _ _=_
 kernel_rfl
theorem Zk3 (r:Rng) (h:Zfh [awR] none [r]=0):QZ awQ [r]=some (⟨awQ,[r],[]⟩,0):=by
 rw [Zd1 awQ [r] (by decide)]
 unfold Zj0
 rw [if_neg (by rw [show qch awQ=0 by kernel_rfl]; decide),if_neg (by simp),ZqW,if_pos h]
theorem ZlB:Yz awQ awC=some ([⟨awQ,[Zo4],[]⟩,⟨awQ,[Zo2],[]⟩],0):=by
 have e1:Xw awQ=some 0:=by
  unfold Xw
  rw [if_pos (by decide)]
  kernel_rfl
 have e2:Yl awC awC 0=some (Ctl.nxt ()):=by kernel_rfl
 have e3:Ya awQ [[Zo4],[Zo2]] []=some (Ctl.nxt [⟨awQ,[Zo4],[]⟩,⟨awQ,[Zo2],[]⟩]):=by
  rw [Ya,Zk3 _ (by kernel_rfl),Za]
  simp only [decide_true,Bool.not_true,Zb]
  rw [Z4 (by simp),Za,Ya,Zk3 _ (by kernel_rfl),Za]
  simp only [decide_true,Bool.not_true,Zb]
  rw [Z4 (by simp),Za,Ya]
  rfl
 rw [Yz,e1,Za]
 simp only [decide_true,Bool.not_true,Zb]
 rw [decide_eq_false (by decide),Zb,e2,Za,ZN,Zp1,Za,e3,Za,ZN]
theorem ZnN:ZaX=some true:=by
 have e:ZbI awQ awC=some (⟨awQ,awC,[⟨awQ,[Zo4],[]⟩,⟨awQ,[Zo2],[]⟩],[⟨awQ,[Zo4],[]⟩,⟨awQ,[Zo2],[]⟩],false⟩,0):=by
  have e4:Xy [⟨awQ,[Zo4],[]⟩,⟨awQ,[Zo2],[]⟩]=some [⟨awQ,[Zo4],[]⟩,⟨awQ,[Zo2],[]⟩]:=by kernel_rfl
  rw [ZbI,ZlB,Za]
  simp only [decide_true,Bool.not_true,Zb]
  rw [QA _ (by decide),Za,Zbu _ (by decide),Za,e4,Za]
 have e0:Qj ⟨#[97]⟩ ⟨#[109]⟩=awR:=rfl
 rw [ZaX,e0,Zr,show (Zj.mk 1 ([awR]:List Rng) ⟨#[]⟩ 0)=awQ from rfl,e,Za]
 show sel _ _ _=_
 kernel_rfl
end Go.Proofs.YtkcmgbbopedacaaGreatDoor
