/-
  Lemmas: The law PathsSplits holds of its model.
-/
import Derived.Test.YtkcmgbbopedacaaGreatDoorPZ26
import Derived.Test.YtkcmgbbopedacaaGreatDoorPZ28
import Derived.Test.YtkcmgbbopedacaaGreatDoorPZ18
import Derived.Test.YtkcmgbbopedacaaGreatDoorPZ32
import Derived.Test.YtkcmgbbopedacaaGreatDoorPZ22
set_option linter.unusedSimpArgs false
set_option linter.unusedVariables false
namespace Go.Proofs.YtkcmgbbopedacaaGreatDoor
open Go.RowKit
attribute [local irreducible] Tot sel bnd Ze Yz app YD lsl Zc2
theorem Zlx {x y z:Bnd} (h1:y.lt x=false) (h2:z.lt y=false):z.lt x=false:=by
 unfold Bnd.lt at *
 cases hz:z.top <;> cases hy:y.top <;> cases hx:x.top <;> simp_all
 cases h:Op.bytesLess z.key.toList x.key.toList with
 | false=>rfl
 | true =>
  cases g:Op.bytesLess y.key.toList z.key.toList with
  | true=>rw [Yx g h] at h1; cases h1
  | false=>rw [YW g h2] at h1; rw [h] at h1; cases h1
abbrev Zes:Bnd→Bnd→Bool:=fun e4 e5=>bnd (Zl e4 e5) fun y6=>decide (y6<0)
theorem ZiB (a b:Bnd):Zes a b=a.lt b:=by
 simp only [Zes,Zn,Zw]
 cases h:a.lt b with
 | true=>exact decide_eq_true ((XW _ _).2 h)
 | false=>exact decide_eq_false fun h2=>by rw [(XW _ _).1 h2] at h; cases h
theorem ZwV:SM.Wo Zes where
 asym x y h:=by rw [ZiB] at h ⊢; exact Yd h
 tr x y z h1 h2:=by rw [ZiB] at h1 h2 ⊢; exact Zlx h1 h2
theorem Zps:∀ d:List Bnd,(∀ (i j:Nat) (x y:Bnd),i<j→d[i]?=some x→d[j]?=some y→y.lt x=false)→Asc d
 | [],_=>trivial
 | c::cs,h=>⟨fun x hx=>by
  obtain ⟨j,hj⟩:=List.mem_iff_getElem?.1 hx
  exact h 0 (j+1) c x (by omega) rfl (by simpa using hj),Zps cs fun i j x y hij hx hy=>h (i+1) (j+1) x y (by omega) (by simpa using hx) (by simpa using hy)⟩
theorem ZiP (d:List Bnd):Asc (SM.stab Zes d)∧(SM.stab Zes d).Perm d:=by
 obtain ⟨h1,h2⟩:=SM.stab_spec ZwV d
 refine ⟨Zps _ fun i j x y hij hx hy=>?_,h1⟩
 have:=h2 i j x y (Nat.zero_le _) hij (by rw [← h1.length_eq]; exact (List.getElem?_eq_some_iff.1 hy).1) hx hy
 rwa [ZiB] at this
theorem ZkJ (l4:List Bnd) (hl:l4.length≤100000) (r:Rng):∀ (k fuel m:Nat) (o:List Rng) (lo:Bnd),l4.length - m=k→m≤l4.length→k<fuel→o.length+k≤1000000 →
   ∃ (q:List Rng) (x:Bnd),XG l4 r fuel o lo.key lo.top (m:Int)=some (q,x.key,x.top)∧q++[⟨x,r.hi⟩]=o++spl r.hi (l4.drop m) lo
 | 0,fuel,m,o,lo,h1,h2,h3,h4=>by
  obtain ⟨fuel,rfl⟩:∃ f,fuel=f+1:=⟨fuel - 1,by omega⟩
  refine ⟨o,lo,?_,by rw [List.drop_of_length_le (by omega),spl]⟩
  rw [XG,decide_eq_false (by omega),Zb,Za,Yo]
 | k+1,fuel,m,o,lo,h1,h2,h3,h4=>by
  obtain ⟨fuel,rfl⟩:∃ f,fuel=f+1:=⟨fuel - 1,by omega⟩
  obtain ⟨c,hx,hdr⟩:=Zdw (show m<l4.length by omega)
  rw [hdr,spl]
  have hcond:(bnd (vb c) fun y15=>sel y15 (bnd (cmp c (Bnd.mk lo.key lo.top)) fun y16=>sel (decide (0<y16)) (bnd (cmp c r.hi) fun y17=>some (decide (y17<0))) (some false)) (some false))=some (inC lo r.hi c):=by
   simp only [Zn,inC,show (Bnd.mk lo.key lo.top)=lo from rfl]
   cases vb c with
   | false=>rw [Zb]; rfl
   | true =>
    rw [Zd]
    by_cases g:0<cmp c lo
    ·rw [decide_eq_true g,Zd]; rfl
    ·rw [decide_eq_false g,Zb]; rfl
  rw [XG,decide_eq_true (by omega),Zd,Za,ZB,Yc,hx,Za,Qm,Zw,Zw,hcond,Za,ZA (by omega) (by omega)]
  rw [show (m:Int)+1=((m+1:Nat):Int) by omega]
  cases hi:inC lo r.hi c with
  | false =>
   rw [Zb,if_neg (by simp)]
   exact ZkJ l4 hl r k fuel (m+1) o lo (by omega) (by omega) (by omega) (by omega)
  | true =>
   rw [Zd,if_pos rfl,ZW (by simp; omega),Za]
   obtain ⟨q,x,e1,e2⟩:=ZkJ l4 hl r k fuel (m+1) (o++[⟨lo,c⟩]) c (by omega) (by omega) (by omega) (by simp; omega)
   exact ⟨q,x,e1,by rw [e2]; simp⟩
theorem ZkV (cs:List Bnd) (hc:cs.length≤200):∀ (l o:List Rng),o.length+l.length * (cs.length+1)≤900000→QC cs l o=some (o++Zeg cs l)
 | [],o,_=>by rw [QC,Zeg,List.append_nil]
 | r::l,o,h=>by
  rw [List.length_cons,Nat.add_mul,Nat.one_mul] at h
  rw [QC,Zeg,Yl,Zn]
  cases he:emp r with
  | true=>rw [Zd,Za,Yo,Za,ZkV cs hc l o (by omega),if_pos rfl,List.nil_append]
  | false =>
   have hs:=Zij r.hi cs r.lo
   obtain ⟨q,x,e1,e2⟩:=ZkJ cs (by omega) r cs.length FU 0 o r.lo (by omega) (by omega) (by simp only [FU]; omega) (by omega)
   have hq:q.length+1=o.length+(spl r.hi cs r.lo).length:=by
    have:=congrArg List.length e2
    simpa using this
   rw [show ((0:Nat):Int)=0 from rfl] at e1
   rw [Zb,Za,ZB,e1,Za]
   simp only []
   rw [ZW (by simp; omega),Za,Za,show (Rng.mk (Bnd.mk x.key x.top) r.hi)=⟨x,r.hi⟩ from rfl,e2,List.drop_zero,ZkV cs hc l _ (by rw [List.length_append]; omega),if_neg (by simp),List.append_assoc]
theorem ZaY (l:List Bnd) (h:l.length≤4294967296):Ya l=some l:=by
 unfold Ya
 rw [ZW (by simpa using h),Za]; rfl
theorem ZiF (l:List Rng) (cuts:List Bnd) (hl:l.length≤200) (hc:cuts.length≤200):Zco l cuts=some (Zeg (SM.stab Zes cuts) l)∧ZaB l cuts=some (Zeg (SM.stab Zes cuts) l):=by
 obtain ⟨h1,h2⟩:=ZiP cuts
 have hn:=h2.length_eq
 refine ⟨?_,Zqi cuts _ l h1 (fun c=>h2.mem_iff) (by omega) hl⟩
 have hb:l.length * ((SM.stab Zes cuts).length+1)≤200 * 201:=Nat.mul_le_mul hl (by omega)
 have hs:Zc2 Zes cuts=some (SM.stab Zes cuts):=by unfold Zc2; rw [if_pos (by omega)]
 rw [Zco,ZaY cuts (by omega),Za,hs,Za,ZkV _ (by omega) l [] (by simp; omega),Za,List.nil_append]
theorem ZkG {hi:Bnd}:∀ (cs:List Bnd) (lo:Bnd),Cut hi lo (spl hi cs lo)
 | [],lo=>.last
 | c::cs,lo=>by
  rw [spl]
  split
  ·rename_i h
   obtain ⟨h1,h2,h3⟩:=ZdK.1 h
   exact .cons h2 h3 h1 (ZkG cs c)
  ·exact ZkG cs lo
theorem ZiJ (cs:List Bnd):∀ l:List Rng,(∀ r ∈ Zeg cs l,emp r=false)∧∀ b,vb b=true→(Pt (Zeg cs l) b↔Pt (l.filter ne) b)
 | []=>⟨by simp [Zeg],fun b _=>by simp [Zeg]⟩
 | r::l=>by
  obtain ⟨g1,g2⟩:=ZiJ cs l
  rw [Zeg]
  cases he:emp r with
  | true =>
   rw [if_pos rfl,List.nil_append,List.filter_cons_of_neg (by simp [ne,he])]
   exact ⟨g1,g2⟩
  | false =>
   rw [if_neg (by simp),List.filter_cons_of_pos (by simp [ne,he])]
   obtain ⟨v1,v2,v3⟩:=ZoQ he
   obtain ⟨k1,k2⟩:=ZpG v2 (ZkG cs r.lo) v1 v3
   refine ⟨fun x hx=>(List.mem_append.1 hx).elim (k1 x) (g1 x),fun b hb=>?_⟩
   rw [Z0,← g2 b hb,← k2 b hb]
   simp only [Pt,List.mem_append]
   constructor
   ·rintro ⟨x,h1 | h1,h2⟩
    ·exact .inl ⟨x,h1,h2⟩
    ·exact .inr ⟨x,h1,h2⟩
   ·rintro (⟨x,h1,h2⟩ | ⟨x,h1,h2⟩)
    ·exact ⟨x,.inl h1,h2⟩
    ·exact ⟨x,.inr h1,h2⟩
end Go.Proofs.YtkcmgbbopedacaaGreatDoor
namespace Go.Proofs.YtkcmgbbopedacaaGreatDoor
open Go.RowKit
attribute [local irreducible] Tot sel bnd Ze Yz app YD lsl Zc2
abbrev awQ:Zf:=⟨1,[⟨⟨⟨#[97]⟩,false⟩,⟨⟨#[109]⟩,false⟩⟩],⟨#[]⟩,0⟩
abbrev awC:List Bnd:=[⟨⟨#[102]⟩,false⟩,⟨⟨#[122]⟩,false⟩]
abbrev Zrs:Rng:=⟨⟨⟨#[97]⟩,false⟩,⟨⟨#[102]⟩,false⟩⟩
abbrev Zrp:Rng:=⟨⟨⟨#[102]⟩,false⟩,⟨⟨#[109]⟩,false⟩⟩
abbrev awR:Rng:=⟨⟨⟨#[97]⟩,false⟩,⟨⟨#[109]⟩,false⟩⟩
theorem Zsf:union [awR]=[awR]:=ZpM .last (by kernel_rfl)
theorem Ztx:qrg awQ=[awR]:=by
 have e:ZcE 1 [awR] ⟨#[]⟩ 0=0:=by kernel_rfl
 show Yi 1 [awR] ⟨#[]⟩ 0=[awR]
 unfold Yi
 rw [if_pos e]
 exact Zsf
theorem ZpW:YK awQ=some [awR]:=by
 unfold YK
 rw [if_pos (by decide)]
 exact congrArg some Ztx
theorem ZsO:Qx awQ awC=some [[Zrs],[Zrp]]:=by
 have e:Zeg (SM.stab Zes awC) [⟨⟨⟨#[97]⟩,false⟩,⟨⟨#[109]⟩,false⟩⟩]=[Zrs,Zrp]:=by kernel_rfl
 rw [Qx,ZpW,Za,(ZiF _ awC (by decide) (by decide)).1,e]
 show Ze _ _=_
 kernel_rfl
theorem ZmL (r:Rng) (h:Zgz [awR] none [r]=0):Zat awQ [r]=some (⟨awQ,[r],[]⟩,0):=by
 rw [Zfq awQ [r] (by decide)]
 unfold ZlG
 rw [if_neg (by rw [show qch awQ=0 by kernel_rfl]; decide),if_neg (by simp),Ztx,if_pos h]
theorem Znu:Yv awQ awC=some ([⟨awQ,[Zrs],[]⟩,⟨awQ,[Zrp],[]⟩],0):=by
 have e1:Y8 awQ=some 0:=by
  unfold Y8
  rw [if_pos (by decide)]
  kernel_rfl
 have e2:YC awC awC 0=some (Ctl.nxt ()):=by kernel_rfl
 have e3:Yk awQ [[Zrs],[Zrp]] []=some (Ctl.nxt [⟨awQ,[Zrs],[]⟩,⟨awQ,[Zrp],[]⟩]):=by
  rw [Yk,ZmL _ (by kernel_rfl),Za]
  simp only [decide_true,Bool.not_true,Zb]
  rw [ZW (by simp),Za,Yk,ZmL _ (by kernel_rfl),Za]
  simp only [decide_true,Bool.not_true,Zb]
  rw [ZW (by simp),Za,Yk]
  rfl
 rw [Yv,e1,Za]
 simp only [decide_true,Bool.not_true,Zb]
 rw [decide_eq_false (by decide),Zb,e2,Za,ZB,ZsO,Za,e3,Za,ZB]
theorem Zp4:XV=some true:=by
 have e:ZaC awQ awC=some (⟨awQ,awC,[⟨awQ,[Zrs],[]⟩,⟨awQ,[Zrp],[]⟩],[⟨awQ,[Zrs],[]⟩,⟨awQ,[Zrp],[]⟩],false⟩,0):=by
  have e4:XR [⟨awQ,[Zrs],[]⟩,⟨awQ,[Zrp],[]⟩]=some [⟨awQ,[Zrs],[]⟩,⟨awQ,[Zrp],[]⟩]:=by kernel_rfl
  rw [ZaC,Znu,Za]
  simp only [decide_true,Bool.not_true,Zb]
  rw [Ql _ (by decide),Za,ZaY _ (by decide),Za,e4,Za]
 have e0:QJ ⟨#[97]⟩ ⟨#[109]⟩=awR:=rfl
 rw [XV,e0,Zn,show (Zf.mk 1 ([awR]:List Rng) ⟨#[]⟩ 0)=awQ from rfl,e,Za]
 show sel _ _ _=_
 kernel_rfl
end Go.Proofs.YtkcmgbbopedacaaGreatDoor
