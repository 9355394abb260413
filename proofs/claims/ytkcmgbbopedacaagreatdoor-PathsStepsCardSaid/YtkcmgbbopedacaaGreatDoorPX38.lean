/-
  Lemmas: Models and walks
-/
import Derived.Test.YtkcmgbbopedacaaGreatDoorPX18
import Derived.Test.YtkcmgbbopedacaaGreatDoorPX37
import Derived.Test.YtkcmgbbopedacaaGreatDoorPX35
set_option linter.unusedSimpArgs false
set_option linter.unusedVariables false
namespace Go.Proofs.YtkcmgbbopedacaaGreatDoor
open Go.RowKit
set_option maxRecDepth 100000
set_option maxHeartbeats 4000000
attribute [local irreducible] WK WC WL Wk Rel OpD OpV WD WO sel bnd Zc app Yn lsl ZiR ssl ZgG ZfZ ZiQ ZhF Op.bytesLess
attribute [local irreducible] Zcb YC union mlk Zsn Zsx Zso cpy Zc6
def ZbF (p1:Ze):Option (Ze × Int) :=
 Zc (Zax p1) fun y2 =>
 sel (!y2) (
  some ((Ze.mk (Zj.mk 0 [] ⟨#[]⟩ 0) [] [] [] false),7)) (
  Zc (Yz p1.Query p1.Cuts) fun y3 =>
  sel (!decide (y3.2=0)) (
   some ((Ze.mk (Zj.mk 0 [] ⟨#[]⟩ 0) [] [] [] false),y3.2)) (
   Zc (X0 p1) fun y4 =>
   some ((Ze.mk y4.Query y4.Cuts y4.Second y3.1 y4.Turned),0)))
instance Zob {p1}:SpO (ZbF p1) fun y=>Sp 51 [.a (Ze.vs p1)] [] (.t [.a (Ze.vs y.1),vI y.2]) []:=⟨fun hm=>by
 refine si Tryz.func51 Tryz.ntmps51 Tryz.results51 fun B w0 ρ0=>?_
 exact az0 hm⟩
def Za0 (p1:Ze):Option (Ze × Int) :=
 Zc (Y2 p1) fun y2 =>
 sel (!y2) (
  some ((Ze.mk (Zj.mk 0 [] ⟨#[]⟩ 0) [] [] [] false),7)) (
  Zc (Xu p1.Query p1.Cuts) fun y3 =>
  sel (!decide (y3.2=0)) (
   some ((Ze.mk (Zj.mk 0 [] ⟨#[]⟩ 0) [] [] [] false),y3.2)) (
   some ((Ze.mk p1.Query p1.Cuts p1.Second y3.1.Second p1.Turned),0)))
instance Zok {p1}:SpO (Za0 p1) fun y=>Sp 58 [.a (Ze.vs p1)] [] (.t [.a (Ze.vs y.1),vI y.2]) []:=⟨fun hm=>by
 refine si Tryz.func58 Tryz.ntmps58 Tryz.results58 fun B w0 ρ0=>?_
 refine bo hm fun y2 hm=>?_
 refine co hm (fun hm=>?_) fun hm=>?_
 ·exact Yw hm
 refine bo hm fun y3 hm=>?_
 refine co hm (fun hm=>?_) fun hm=>?_
 ·exact Yw hm
 refine sx ?_
 refine Zg ?_
 refine ZC (id:=6) [⟨0,0,[1]⟩,⟨1,1,[22]⟩,⟨2,0,[4]⟩,⟨3,4,[24]⟩,⟨4,3,[1]⟩,⟨5,19,[23,26]⟩,⟨6,63,[1]⟩,⟨7,127,[25,27]⟩] mixed (by kernel_rfl) ?_
 exact Yw hm⟩
def ZaK (p1:Ze):Option (Yg × Int) :=
 Zc (Zax p1) fun y2 =>
 sel (!y2) (
  some ((Yg.mk (Zj.mk 0 [] ⟨#[]⟩ 0) [] []),7)) (
  Zc (Zbd p1.Query p1.First p1.Second) fun y3 =>
  some (y3,0))
instance Zmd {p1}:SpO (ZaK p1) fun y=>Sp 38 [.a (Ze.vs p1)] [] (.t [.a (Yg.vs y.1),vI y.2]) []:=⟨fun hm=>by
 refine si Tryz.func38 Tryz.ntmps38 Tryz.results38 fun B w0 ρ0=>?_
 exact az0 hm⟩
def ZaJ (p1:Ze):Option (Yg × Int) :=
 Zc (Y2 p1) fun y2 =>
 sel (!y2) (
  some ((Yg.mk (Zj.mk 0 [] ⟨#[]⟩ 0) [] []),7)) (
  Zc (Zcp p1.Query p1.First p1.Second) fun y3 =>
  some (y3,0))
instance Zl1 {p1}:SpO (ZaJ p1) fun y=>Sp 125 [.a (Ze.vs p1)] [] (.t [.a (Yg.vs y.1),vI y.2]) []:=⟨fun hm=>by
 refine si Tryz.func125 Tryz.ntmps125 Tryz.results125 fun B w0 ρ0=>?_
 exact az0 hm⟩
def ZaY (p1:Ze) (i2:Int) (v3:ZE):Option Bool :=
 Zc (Zco p1 i2) fun y4 =>
 Zc (X6 p1 i2) fun y5 =>
 Zc (
  sel (!(decide (y4.1.lo.key=y5.1.lo.key) && decide (y4.1.lo.top=y5.1.lo.top) && decide (y4.1.hi.key=y5.1.hi.key) && decide (y4.1.hi.top=y5.1.hi.top))) (
   some true) (
   sel (!(y4.2 == y5.2)) (
    some true) (
    Zc (Zax p1) fun y6 =>
    Zc (Y2 p1) fun y7 =>
    some (!(y6 == y7)))):Option Bool) fun x8 =>
 sel x8 (
  some false) (
  Zc (Zcr p1 i2 v3) fun y9 =>
  Zc (X8 p1 i2 v3) fun y10 =>
  Zc (Zci p1) fun y11 =>
  Zc (Zbq p1) fun y12 =>
  Zc (ZbF p1) fun y13 =>
  Zc (Za0 p1) fun y14 =>
  Zc (ZaK p1) fun y15 =>
  Zc (ZaJ p1) fun y16 =>
  Zc (Zay y9.1 y9.2 y10.1 y10.2) fun y17 =>
  sel y17 (
   Zc (Zay y11.1 y11.2 y12.1 y12.2) fun y18 =>
   sel y18 (
    Zc (Zay y13.1 y13.2 y14.1 y14.2) fun y19 =>
    sel y19 (
     sel (decide (y15.2=y16.2)) (
      Zc (XT y15.1 y16.1) fun y20 =>
      some y20) (
      some false)) (
     some false)) (
    some false)) (
   some false))
instance Zoc {p1} {i2} {v3}:SpO (ZaY p1 i2 v3) fun y=>Sp 57 [.a (Ze.vs p1),vI i2,.a (ZE.vs v3)] [] (vB y) []:=⟨fun hm=>by
 refine si Tryz.func57 Tryz.ntmps57 Tryz.results57 fun B w0 ρ0=>?_
 refine bo hm fun y4 hm=>?_
 refine bo hm fun y5 hm=>?_
 refine ss ?_
 refine Zg ?_
 refine Zg ?_
 refine jo1 hm [1,3,5] [103,105] (fun x8=>[(53,vB x8)]) (fun _ hm hm1=>?_) (fun x8 hm=>?_)
 ·refine ZC (id:=3) [⟨0,0,[7]⟩,⟨1,0,[9]⟩,⟨2,3,[39,40]⟩,⟨3,7,[41]⟩,⟨4,15,[8,42]⟩,⟨5,15,[10,42]⟩,⟨6,63,[42,43,44]⟩,⟨7,127,[42,45]⟩,⟨8,255,[46]⟩,⟨9,511,[3,47]⟩,⟨11,511,[3,47]⟩,⟨10,1023,[47,48]⟩,⟨12,4095,[47,50]⟩,⟨13,8191,[47,49,51]⟩,⟨14,16383,[47,52]⟩] mixed (by kernel_rfl) ?_
  exact az1 hm hm1
 exact az0 hm⟩
def ZO:Nat→List Int→Int→Int→List Rng→ByteArray→Int→List Bnd→List Zf→List Zf→Bool→Int→Option (Ctl Bool (List Int × Int × Int × List Rng × ByteArray × Int × List Bnd × List Zf × List Zf × Bool))
 | 0,_,_,_,_,_,_,_,_,_,_,_=>none
 | fuel+1,x6,x7,p8,p9,p10,p11,p12,p13,p14,p15,i16 =>
 Zc (
  sel (decide (i16<8)) (
   bnd (ZaL (Zy.mk x6 x7)) fun y17 =>
   some (y17.2.l,y17.2.at_,y17.1)) (
   some (x6,x7,false)):Option (List Int × Int × Bool)) fun (x18,x19,x20) =>
 Zc (
  sel x20 (
   some (Ctl.nxt ())) (
   some (Ctl.ret (Ctl.nxt (x18,x19,p8,p9,p10,p11,p12,p13,p14,p15)))):Option (Ctl (Ctl Bool (List Int × Int × Int × List Rng × ByteArray × Int × List Bnd × List Zf × List Zf × Bool)) Unit)) fun mu=>YB mu fun (_:Unit) =>
 Zc (Qi (Zy.mk x18 x19) 4) fun y21 =>
 Zc (Zbe y21.1) fun y22 =>
 Zc (Zch y21.2 (Ze.mk (Zj.mk p8 p9 p10 p11) p12 p13 p14 p15) y22 4) fun y23 =>
 Zc (Zh y23.2 (y22.length:Int)) fun y24 =>
 Zc (Yn y22 y24.1) fun e25 =>
 Zc (Zw y24.2 6) fun y26 =>
 Zc (
  sel y26.1 (
   Zc (Y4 y26.2) fun y27 =>
   Zc (Qz y27.2 y27.1) fun y28 =>
   some (y28.2.l,y28.2.at_,y28.1.Owner,y28.1.Interval.lo.key,y28.1.Interval.lo.top,y28.1.Interval.hi.key,y28.1.Interval.hi.top,y28.1.Stamp.Epoch,y28.1.Stamp.Version,y28.1.Rows)) (
   some (y26.2.l,y26.2.at_,e25.Owner,e25.Interval.lo.key,e25.Interval.lo.top,e25.Interval.hi.key,e25.Interval.hi.top,e25.Stamp.Epoch,e25.Stamp.Version,e25.Rows)):Option (List Int × Int × Int × ByteArray × Bool × ByteArray × Bool × Int × Int × List Kv)) fun (x29,x30,v31,v32,v33,v34,v35,v36,v37,v38) =>
 Zc (Zh (Zy.mk x29 x30) 6) fun y39 =>
 Zc (ZaY y23.1 (Z6 (y39.1 - 1)) (ZE.mk v31 (Rng.mk (Bnd.mk v32 v33) (Bnd.mk v34 v35)) (Yh.mk v36 v37) v38)) fun y40 =>
 sel (!y40) (
  some (Ctl.ret false)) (
  Zc (Za0 y23.1) fun y41 =>
  sel (decide (y41.2=0)) (
   Zc (Zw y39.2 2) fun y42 =>
   sel y42.1 (
    ZO fuel y42.2.l y42.2.at_ y41.1.Query.Kind y41.1.Query.Ranges y41.1.Query.Key y41.1.Query.Count y41.1.Cuts y41.1.First y41.1.Second y41.1.Turned (Z6 (i16+1))) (
    ZO fuel y42.2.l y42.2.at_ y23.1.Query.Kind y23.1.Query.Ranges y23.1.Query.Key y23.1.Query.Count y23.1.Cuts y23.1.First y23.1.Second y23.1.Turned (Z6 (i16+1)))) (
   ZO fuel y39.2.l y39.2.at_ y23.1.Query.Kind y23.1.Query.Ranges y23.1.Query.Key y23.1.Query.Count y23.1.Cuts y23.1.First y23.1.Second y23.1.Turned (Z6 (i16+1))))
def Qm (l1:List Int):Option Bool :=
 Zc (ZdI l1) fun y2 =>
 Zc (X7 y2) fun y3 =>
 Zc (QD y3.2 3) fun y4 =>
 Zc (Xu y3.1 y4.1) fun y5 =>
 Zc (
  ZO FU y4.2.l y4.2.at_ y5.1.Query.Kind y5.1.Query.Ranges y5.1.Query.Key y5.1.Query.Count y5.1.Cuts y5.1.First y5.1.Second y5.1.Turned 0:Option (Ctl Bool (List Int × Int × Int × List Rng × ByteArray × Int × List Bnd × List Zf × List Zf × Bool))) fun mu=>YB mu fun (x43,x44,p45,p46,p47,p48,p49,p50,p51,p52) =>
 bnd (XB) fun y53 =>
 Zc (Qz (Zy.mk x43 x44) y53) fun y54 =>
 Zc (ZaY (Ze.mk (Zj.mk p45 p46 p47 p48) p49 p50 p51 p52) 0 y54.1) fun y55 =>
 sel y55 (
  Zc (ZaX) fun y56 =>
  some y56) (
  some false)
theorem Zc7 {l1:List Int} {y:Bool} (hm:Qm l1=some y):Spec Tryz.prog 9 [.d (lst dsI l1)] [] fun u h=>u=vB y∧h=[]:=by
 refine si Tryz.func9 Tryz.ntmps9 Tryz.results9 fun B w0 ρ0=>?_
 refine sr ?_
 refine sr ?_
 obtain ⟨y2,hy,hm⟩:=ZK hm
 refine ZeC (u':=.p 201201 0) (h':=[(201201,some (.box 126 (Zy.vs y2)))]) (ZjB.out hy) 201200 rfl rfl rfl (by repeat (first | exact Vws.nil | apply Vws.cons | exact Vw.nil | exact Vw.d _ | exact Vw.q _ | apply Vw.a)) rfl (by (try simp only [Zec,Option.map_some,Blk.ren,ZbA]); rfl) rfl rfl rfl rfl ?_
 refine bo hm fun y3 hm=>?_
 refine bo hm fun y4 hm=>?_
 refine bo hm fun y5 hm=>?_
 refine sr ?_
 obtain ⟨mu1,hm1,hm⟩:=ZK hm
 refine YP (fun st=>∃ (x43:List Int) (x44:Int) (p45:Int) (p46:List Rng) (p47:ByteArray) (p48:Int) (p49:List Bnd) (p50:List Zf) (p51:List Zf) (p52:Bool),mu1=Ctl.nxt (x43,x44,p45,p46,p47,p48,p49,p50,p51,p52)∧st=⟨[(3,.p 201201 0),(4,.p 104 0)],[(104,some (.box 48 (Ze.vs (Ze.mk (Zj.mk p45 p46 p47 p48) p49 p50 p51 p52)))),(201201,some (.box 126 [.d (lst dsI x43),vI x44]))]⟩) ?_ ?_
 ·refine Zq ?_
  refine Zky (fun κ st=>∃ x6 x7 p8 p9 p10 p11 p12 p13 p14 p15 i16,ZO κ x6 x7 p8 p9 p10 p11 p12 p13 p14 p15 i16=some mu1∧st=⟨[(3,.p 201201 0),(4,.p 104 0),(6,vI i16)],[(104,some (.box 48 (Ze.vs (Ze.mk (Zj.mk p8 p9 p10 p11) p12 p13 p14 p15)))),(201201,some (.box 126 [.d (lst dsI x6),vI x7]))]⟩) [(104,104),(201201,201201)] ⟨_,_,_,_,_,_,_,_,_,_,_,hm1,rfl⟩ ?_
  rintro κ _ ⟨x6,x7,p8,p9,p10,p11,p12,p13,p14,p15,i16,hm1,rfl⟩
  cases κ with
  | zero=>rw [ZO.eq_1] at hm1; cases hm1
  | succ κ =>
   rw [ZO.eq_2] at hm1
   refine Zg ?_
   refine Zg ?_
   refine jo3 hm1 [3,4,6] [104] (fun x18 x19 x20=>[(26,vB x20)]) (fun _ hm1 hm2=>?_) (fun x18 x19 x20 hm1=>?_) (B:=(fun x18 x19 x20=>[(201201,some (.box 126 [.d (lst dsI x18),vI x19]))]))
   ·exact az2 hm hm1 hm2
   refine ss ?_
   refine jc0 hm1 [3,4,6] [104,201201] [] (fun _ hm1 hm2=>?_) (fun hm1=>?_)
   ·refine co hm2 (fun hm2=>?_) fun hm2=>?_
    ·exact Zur hm hm1 hm2
    refine XM ?_
    refine ss ?_
    cases hm2
    replace hm1:=Ym hm1
    cases hm1
    exact Zef [(104,104),(201201,201201)] ⟨_,_,_,_,_,_,_,_,_,_,rfl,rfl⟩
   refine bo hm1 fun y21 hm1=>?_
   refine bo hm1 fun y22 hm1=>?_
   refine bo hm1 fun y23 hm1=>?_
   refine bo hm1 fun y24 hm1=>?_
   refine bo hm1 fun e25 hm1=>?_
   refine bo hm1 fun y26 hm1=>?_
   refine ss ?_
   obtain ⟨mu2,hm2,hm1⟩:=ZK hm1
   refine YP (fun st=>∃ (x29:List Int) (x30:Int) (v31:Int) (v32:ByteArray) (v33:Bool) (v34:ByteArray) (v35:Bool) (v36:Int) (v37:Int) (v38:List Kv),mu2=(x29,x30,v31,v32,v33,v34,v35,v36,v37,v38)∧st=⟨[(3,.p 201201 0),(4,.p 104 0),(6,vI i16),(8,.p 108 0)],[(104,some (.box 48 (Ze.vs y23.1))),(108,some (.box 76 [vI v31,vS v32,vB v33,vS v34,vB v35,vI v36,vI v37,.d (lst Kv.ds v38)])),(201201,some (.box 126 [.d (lst dsI x29),vI x30]))]⟩) ?_ ?_
   ·refine co hm2 (fun hm2=>?_) fun hm2=>?_
    ·refine bo hm2 fun y27 hm2=>?_
     refine bo hm2 fun y28 hm2=>?_
     refine ss ?_
     cases hm2
     exact Zef [(104,104),(108,108),(201201,201201)] ⟨_,_,_,_,_,_,_,_,_,_,rfl,rfl⟩
    refine sx ?_
    cases hm2
    exact Zef [(104,104),(108,108),(201201,201201)] ⟨_,_,_,_,_,_,_,_,_,_,rfl,rfl⟩
   rintro _ ⟨x29,x30,v31,v32,v33,v34,v35,v36,v37,v38,rfl,rfl⟩
   refine ss ?_
   refine Zg ?_
   refine Zg ?_
   refine ZC (id:=11) [⟨0,0,[4]⟩,⟨1,0,[3]⟩,⟨4,0,[8]⟩,⟨2,2,[50]⟩,⟨3,6,[51]⟩,⟨5,31,[49,52,53]⟩,⟨6,63,[54]⟩] mixed (by kernel_rfl) ?_
   refine bo hm1 fun y39 hm1=>?_
   refine bo hm1 fun y40 hm1=>?_
   refine co hm1 (fun hm1=>?_) fun hm1=>?_
   ·exact Zdt hm hm1
   refine bo hm1 fun y41 hm1=>?_
   refine co hm1 (fun hm1=>?_) fun hm1=>?_
   ·refine bo hm1 fun y42 hm1=>?_
    refine co hm1 (fun hm1=>?_) fun hm1=>?_
    ·refine sr ?_
     refine sr ?_
     refine ZJ (YJ rfl rfl rfl rfl) rfl rfl rfl ?_
     refine ss ?_
     exact ZaE [(104,104),(201201,201201)] ⟨_,_,_,_,_,_,_,_,_,_,_,hm1,rfl⟩ (Nat.lt_succ_self _)
    refine sx ?_
    refine sr ?_
    refine ZJ (YJ rfl rfl rfl rfl) rfl rfl rfl ?_
    refine ss ?_
    exact ZaE [(104,104),(201201,201201)] ⟨_,_,_,_,_,_,_,_,_,_,_,hm1,rfl⟩ (Nat.lt_succ_self _)
   refine ss ?_
   refine Yi rfl ?_
   refine sx ?_
   refine sr ?_
   refine ZJ (YJ rfl rfl rfl rfl) rfl rfl rfl ?_
   refine ss ?_
   exact ZaE [(104,104),(201201,201201)] ⟨_,_,_,_,_,_,_,_,_,_,_,hm1,rfl⟩ (Nat.lt_succ_self _)
 rintro _ ⟨x43,x44,p45,p46,p47,p48,p49,p50,p51,p52,rfl,rfl⟩
 replace hm:=Znf hm
 refine ss ?_
 refine Zg ?_
 refine ZC (id:=16) [⟨0,0,[4]⟩,⟨1,0,[3]⟩,⟨2,0,[]⟩,⟨3,6,[69,70]⟩,⟨4,15,[68,71]⟩,⟨5,31,[72]⟩,⟨6,63,[73]⟩,⟨7,127,[73,74]⟩,⟨8,255,[75]⟩] mixed (by kernel_rfl) ?_
 exact az0 hm
end Go.Proofs.YtkcmgbbopedacaaGreatDoor
