/-
  Lemmas: Models and walks
-/
import Derived.Test.YtkcmgbbopedacaaGreatDoorPX18
import Derived.Test.YtkcmgbbopedacaaGreatDoorPX36
import Derived.Test.YtkcmgbbopedacaaGreatDoorPX24
import Derived.Test.YtkcmgbbopedacaaGreatDoorPX25
import Derived.Test.YtkcmgbbopedacaaGreatDoorPX27
set_option linter.unusedSimpArgs false
set_option linter.unusedVariables false
namespace Go.Proofs.YtkcmgbbopedacaaGreatDoor
open Go.RowKit
set_option maxRecDepth 100000
set_option maxHeartbeats 4000000
attribute [local irreducible] WK WC WL Wk Rel OpD OpV WD WO sel bnd Zc app Yn lsl ZiR ssl ZgG ZfZ ZiQ ZhF Op.bytesLess
attribute [local irreducible] Zcb YC union mlk Zsn Zsx Zso cpy Zc6
def QC (p1:Ze):List Zf :=
 sel p1.Turned (
  p1.Second) (
  p1.First)
instance Zl3 {p1}:SpT (QC p1) fun y=>Sp 173 [.a (Ze.vs p1)] [] (.d (lst Zf.ds y)) []:=⟨fun hm=>by
 refine si Tryz.func173 Tryz.ntmps173 Tryz.results173 fun B w0 ρ0=>?_
 exact az0 hm⟩
def X6 (p1:Ze) (i2:Int):Option (Rng × Bool) :=
 bnd (QC p1) fun y3 =>
 Zc (
  sel (decide (i2<0)) (
   some true) (
   some (decide ((y3.length:Int)≤i2))):Option Bool) fun x4 =>
 sel x4 (
  some ((Rng.mk (Bnd.mk ⟨#[]⟩ false) (Bnd.mk ⟨#[]⟩ false)),false)) (
  Zc (Yn y3 i2) fun e5 =>
  Zc (Zbn e5) fun y6 =>
  some (y6.1,y6.2))
instance Zla {p1} {i2}:SpO (X6 p1 i2) fun y=>Sp 117 [.a (Ze.vs p1),vI i2] [] (.t [.a (Rng.vs y.1),vB y.2]) []:=⟨fun hm=>by
 refine si Tryz.func117 Tryz.ntmps117 Tryz.results117 fun B w0 ρ0=>?_
 refine bp hm fun y3 hm=>?_
 refine ss ?_
 refine Zg ?_
 refine Zg ?_
 refine jo1 hm [1,4,6] [104] (fun x4=>[(16,vB x4)]) (fun _ hm hm1=>?_) (fun x4 hm=>?_)
 ·exact az1 hm hm1
 exact az0 hm⟩
def X8 (p1:Ze) (i2:Int) (v3:ZE):Option (Ze × Int) :=
 bnd (QC p1) fun y4 =>
 Zc (app ([]:List Zf) y4) fun l5 =>
 Zc (
  sel (decide (i2<0)) (
   some true) (
   some (decide ((l5.length:Int)≤i2))):Option Bool) fun x6 =>
 sel x6 (
  some ((Ze.mk (Zj.mk 0 [] ⟨#[]⟩ 0) [] [] [] false),2)) (
  Zc (Yn l5 i2) fun e7 =>
  Zc (Zcl e7 v3) fun y8 =>
  sel (!decide (y8.2=0)) (
   some ((Ze.mk (Zj.mk 0 [] ⟨#[]⟩ 0) [] [] [] false),y8.2)) (
   Zc (Yn l5 i2) fun e9 =>
   bnd (y8.1) fun e11 =>
   bnd (l5.set (Int.toNat i2) e11) fun l10 =>
   sel p1.Turned (
    some ((Ze.mk p1.Query p1.Cuts p1.First l10 p1.Turned),0)) (
    some ((Ze.mk p1.Query p1.Cuts l10 p1.Second p1.Turned),0))))
instance Zk7 {p1} {i2} {v3}:SpO (X8 p1 i2 v3) fun y=>Sp 118 [.a (Ze.vs p1),vI i2,.a (ZE.vs v3)] [] (.t [.a (Ze.vs y.1),vI y.2]) []:=⟨fun hm=>by
 refine si Tryz.func118 Tryz.ntmps118 Tryz.results118 fun B w0 ρ0=>?_
 refine bp hm fun y4 hm=>?_
 refine bo hm fun l5 hm=>?_
 refine ss ?_
 refine Zg ?_
 refine Zg ?_
 refine jo1 hm [1,3,5,6,8] [103,105,106,113] (fun x6=>[(21,vB x6)]) (fun _ hm hm1=>?_) (fun x6 hm=>?_)
 ·exact az1 hm hm1
 refine co hm (fun hm=>?_) fun hm=>?_
 ·exact Yw hm
 refine sx ?_
 refine Zg ?_
 refine ZC (id:=4) [⟨0,0,[8]⟩,⟨1,0,[1]⟩,⟨2,3,[24,25]⟩,⟨3,7,[26]⟩,⟨4,0,[5]⟩,⟨9,0,[]⟩,⟨5,31,[27,28]⟩,⟨6,63,[29]⟩,⟨7,127,[23]⟩,⟨8,127,[23]⟩,⟨10,767,[9,30]⟩,⟨11,2047,[31]⟩] mixed (by kernel_rfl) ?_
 refine bo' hm fun e7 hge7 hm=>?_
 refine ss ?_
 refine ZhT (kk:=113) (f:=Zf.ds) (zz:=6) (u:=.a (Zf.vs e7)) (off:=0) hge7 rfl rfl rfl (by exact inferInstance) rfl rfl rfl (by first | exact .no rfl | exact .y rfl rfl rfl rfl) rfl rfl ?_
 refine bo hm fun y8 hm=>?_
 refine co hm (fun hm=>?_) fun hm=>?_
 ·exact Yw hm
 refine bo' hm fun e9 hge9 hm=>?_
 refine ss ?_
 obtain ⟨e11,hy,hm⟩:=Qs hm
 have hxe11:=hy
 refine ss ?_
 obtain ⟨l10,hy,hm⟩:=Qs hm
 refine Zoz (lo:=0) (nn:=0) (ZhQ (k:=113) (f:=Zf.ds) (zz:=6) (off:=0) hge9 hy rfl rfl rfl rfl (by exact inferInstance) rfl (by rw [← hxe11]; rfl)) rfl rfl (Q5 _ _) ?_
 have hge11:=Qg hge9 e11
 rw [hy] at hge11
 exact az0 hm⟩
def Xt:List Zf→Option (Ctl Bool Unit)
 | [] =>
 some (Ctl.nxt ())
 | r2::xs3 =>
 Zc (Zbp r2) fun y5 =>
 sel (!y5) (
  some (Ctl.ret false)) (
  Xt xs3)
def QG (l1:List Zf):Option Bool :=
 Zc (
  Xt l1:Option (Ctl Bool Unit)) fun mu=>YB mu fun (_:Unit) =>
 some true
instance Zma {l1}:SpO (QG l1) fun y=>Sp 176 [.d (lst Zf.ds l1)] [] (vB y) []:=⟨fun hm=>by
 refine si Tryz.func176 Tryz.ntmps176 Tryz.results176 fun B w0 ρ0=>?_
 refine sr ?_
 refine sr ?_
 refine jc0 hm [] [] [] (fun _ hm hm1=>?_) (fun hm=>?_)
 ·refine Zq ?_
  refine lr0 hm1 5 [5,6] [] (fun m4=>[(7,vI (m4:Int))]) (fun hlenm4 m4 r2 hltm4 hxm4 hm1=>?_) (fun m4 hm1=>?_)
  ·refine bo hm1 fun y5 hm1=>?_
   refine co hm1 (fun hm1=>?_) fun hm1=>?_
   ·exact Zdt hm hm1
   exact eb1 hm hm1
  exact ZcD hm hm1
 exact Yw hm⟩
def Zbq (p1:Ze):Option (Ze × Int) :=
 sel p1.Turned (
  some ((Ze.mk (Zj.mk 0 [] ⟨#[]⟩ 0) [] [] [] false),7)) (
  Zc (QG p1.First) fun y2 =>
  sel (!y2) (
   some ((Ze.mk (Zj.mk 0 [] ⟨#[]⟩ 0) [] [] [] false),7)) (
   some ((Ze.mk p1.Query p1.Cuts p1.First p1.Second true),0)))
instance ZoT {p1}:SpO (Zbq p1) fun y=>Sp 119 [.a (Ze.vs p1)] [] (.t [.a (Ze.vs y.1),vI y.2]) []:=⟨fun hm=>by
 refine si Tryz.func119 Tryz.ntmps119 Tryz.results119 fun B w0 ρ0=>?_
 refine co hm (fun hm=>?_) fun hm=>?_
 ·refine ss ?_
  refine Xi rfl ?_
  exact Yw hm
 exact az0 hm⟩
def Yp (views3:List ZE) (most4:Int):Nat→List Int→Int→Int→List Rng→ByteArray→Int→List Bnd→List Zf→List Zf→Bool→Int→Option (Int × List Rng × ByteArray × Int × List Bnd × List Zf × List Zf × Bool × List Int × Int)
 | 0,_,_,_,_,_,_,_,_,_,_,_=>none
 | fuel+1,x5,x6,p7,p8,p9,p10,p11,p12,p13,p14,k15 =>
 Zc (
  sel (decide (k15<most4)) (
   bnd (ZaL (Zy.mk x5 x6)) fun y16 =>
   some (y16.2.l,y16.2.at_,y16.1)) (
   some (x5,x6,false)):Option (List Int × Int × Bool)) fun (x17,x18,x19) =>
 Zc (
  sel x19 (
   some (Ctl.nxt ())) (
   some (Ctl.ret (p7,p8,p9,p10,p11,p12,p13,p14,x17,x18))):Option (Ctl (Int × List Rng × ByteArray × Int × List Bnd × List Zf × List Zf × Bool × List Int × Int) Unit)) fun mu=>YB mu fun (_:Unit) =>
 Zc (Zh (Zy.mk x17 x18) (max (p12.length:Int) 1)) fun y20 =>
 Zc (X6 (Ze.mk (Zj.mk p7 p8 p9 p10) p11 p12 p13 p14) y20.1) fun y21 =>
 bnd (QX (Zj.mk p7 p8 p9 p10)) fun y22 =>
 Zc (Zam y20.2 views3 y21.1 y22) fun y23 =>
 Zc (X8 (Ze.mk (Zj.mk p7 p8 p9 p10) p11 p12 p13 p14) y20.1 y23.1) fun y24 =>
 Zc (
  sel (decide (y24.2=0)) (
   some (y24.1.Query.Kind,y24.1.Query.Ranges,y24.1.Query.Key,y24.1.Query.Count,y24.1.Cuts,y24.1.First,y24.1.Second,y24.1.Turned)) (
   some (p7,p8,p9,p10,p11,p12,p13,p14)):Option (Int × List Rng × ByteArray × Int × List Bnd × List Zf × List Zf × Bool)) fun (p25,p26,p27,p28,p29,p30,p31,p32) =>
 Zc (Zbq (Ze.mk (Zj.mk p25 p26 p27 p28) p29 p30 p31 p32)) fun y33 =>
 sel (decide (y33.2=0)) (
  Zc (Zw y23.2 2) fun y34 =>
  sel y34.1 (
   Yp views3 most4 fuel y34.2.l y34.2.at_ y33.1.Query.Kind y33.1.Query.Ranges y33.1.Query.Key y33.1.Query.Count y33.1.Cuts y33.1.First y33.1.Second y33.1.Turned (Z6 (k15+1))) (
   Yp views3 most4 fuel y34.2.l y34.2.at_ p25 p26 p27 p28 p29 p30 p31 p32 (Z6 (k15+1)))) (
  Yp views3 most4 fuel y23.2.l y23.2.at_ p25 p26 p27 p28 p29 p30 p31 p32 (Z6 (k15+1)))
def Zch (t1:Zy) (p2:Ze) (views3:List ZE) (most4:Int):Option (Ze × Zy) :=
 Zc (
  Yp views3 most4 FU t1.l t1.at_ p2.Query.Kind p2.Query.Ranges p2.Query.Key p2.Query.Count p2.Cuts p2.First p2.Second p2.Turned 0:Option (Int × List Rng × ByteArray × Int × List Bnd × List Zf × List Zf × Bool × List Int × Int)) fun (p35,p36,p37,p38,p39,p40,p41,p42,x43,x44) =>
 some ((Ze.mk (Zj.mk p35 p36 p37 p38) p39 p40 p41 p42),(Zy.mk x43 x44))
instance ZoL {t1} {p2} {views3} {most4}:SpO (Zch t1 p2 views3 most4) fun y=>Sp 50 [.p 0 0,.a (Ze.vs p2),.d (lst ZE.ds views3),vI most4] [(0,some (.box 126 [.d (lst dsI t1.l),vI t1.at_]))] (.a (Ze.vs y.1)) ([(0,some (.box 126 [.d (lst dsI y.2.l),vI y.2.at_]))]):=⟨fun hm=>by
 refine si Tryz.func50 Tryz.ntmps50 Tryz.results50 fun B w0 ρ0=>?_
 refine sr ?_
 refine sr ?_
 obtain ⟨mu1,hm1,hm⟩:=ZK hm
 refine YP (fun st=>∃ (p35:Int) (p36:List Rng) (p37:ByteArray) (p38:Int) (p39:List Bnd) (p40:List Zf) (p41:List Zf) (p42:Bool) (x43:List Int) (x44:Int),mu1=(p35,p36,p37,p38,p39,p40,p41,p42,x43,x44)∧st=⟨[(5,.p 105 0),(8,.p 108 0)],[(0,some (.box 126 [.d (lst dsI x43),vI x44])),(105,some (.box 48 (Ze.vs (Ze.mk (Zj.mk p35 p36 p37 p38) p39 p40 p41 p42)))),(108,some (.box 48 [vI 0,.d (.c (.slice none 0 0)),vS ⟨#[]⟩,vI 0,.d (.c (.slice none 0 0)),.d (.c (.slice none 0 0)),.d (.c (.slice none 0 0)),vB false]))]⟩) ?_ ?_
 ·refine Zq ?_
  refine Zky (fun κ st=>∃ x5 x6 p7 p8 p9 p10 p11 p12 p13 p14 k15,Yp views3 most4 κ x5 x6 p7 p8 p9 p10 p11 p12 p13 p14 k15=some mu1∧st=⟨[(0,.p 0 0),(2,.d (lst ZE.ds views3)),(3,vI most4),(5,.p 105 0),(8,.p 108 0),(9,vI k15)],[(0,some (.box 126 [.d (lst dsI x5),vI x6])),(105,some (.box 48 (Ze.vs (Ze.mk (Zj.mk p7 p8 p9 p10) p11 p12 p13 p14)))),(108,some (.box 48 [vI 0,.d (.c (.slice none 0 0)),vS ⟨#[]⟩,vI 0,.d (.c (.slice none 0 0)),.d (.c (.slice none 0 0)),.d (.c (.slice none 0 0)),vB false]))]⟩) [(0,0),(105,105),(108,108)] ⟨_,_,_,_,_,_,_,_,_,_,_,hm1,rfl⟩ ?_
  rintro κ _ ⟨x5,x6,p7,p8,p9,p10,p11,p12,p13,p14,k15,hm1,rfl⟩
  cases κ with
  | zero=>rw [Yp.eq_1] at hm1; cases hm1
  | succ κ =>
   rw [Yp.eq_2] at hm1
   refine Zg ?_
   refine Zg ?_
   refine jo3 hm1 [0,2,3,5,8,9] [105,108] (fun x17 x18 x19=>[(23,vB x19)]) (fun _ hm1 hm2=>?_) (fun x17 x18 x19 hm1=>?_) (B:=(fun x17 x18 x19=>[(0,some (.box 126 [.d (lst dsI x17),vI x18]))]))
   ·exact az2 hm hm1 hm2
   refine ss ?_
   refine jc0 hm1 [0,2,3,5,8,9] [0,105,108] [] (fun _ hm1 hm2=>?_) (fun hm1=>?_)
   ·refine co hm2 (fun hm2=>?_) fun hm2=>?_
    ·exact Zur hm hm1 hm2
    refine XM ?_
    refine ss ?_
    cases hm2
    replace hm1:=Ym hm1
    cases hm1
    exact Zef [(0,0),(105,105),(108,108)] ⟨_,_,_,_,_,_,_,_,_,_,rfl,rfl⟩
   refine bo hm1 fun y20 hm1=>?_
   refine bo hm1 fun y21 hm1=>?_
   refine ss ?_
   refine Zg ?_
   refine Zg ?_
   refine ZC (id:=6) [⟨0,0,[5]⟩,⟨1,0,[10]⟩,⟨2,0,[0]⟩,⟨3,0,[2]⟩,⟨4,0,[11]⟩,⟨5,0,[5]⟩,⟨6,32,[44]⟩,⟨13,0,[]⟩,⟨7,96,[45]⟩,⟨8,252,[41,42,43,46]⟩,⟨9,511,[39,40,47]⟩,⟨10,1023,[48]⟩,⟨11,2047,[38]⟩,⟨12,2047,[38]⟩,⟨14,12287,[13,49]⟩,⟨15,32767,[50]⟩] mixed (by kernel_rfl) ?_
   refine bp hm1 fun y22 hm1=>?_
   refine bo hm1 fun y23 hm1=>?_
   refine bo hm1 fun y24 hm1=>?_
   refine sr ?_
   refine jo8 hm1 [0,2,3,5,8,9] [0,108] (fun p25 p26 p27 p28 p29 p30 p31 p32=>[]) (fun mu2 hm1 hm2=>?_) (fun p25 p26 p27 p28 p29 p30 p31 p32 hm1=>?_) (B:=(fun p25 p26 p27 p28 p29 p30 p31 p32=>[(105,some (.box 48 (Ze.vs (Ze.mk (Zj.mk p25 p26 p27 p28) p29 p30 p31 p32))))]))
   ·refine co hm2 (fun hm2=>?_) fun hm2=>?_
    ·exact Zui [(0,0),(105,105),(108,108)] hm hm1 hm2
    exact Zui [(0,0),(105,105),(108,108)] hm hm1 hm2
   refine bo hm1 fun y33 hm1=>?_
   refine co hm1 (fun hm1=>?_) fun hm1=>?_
   ·refine bo hm1 fun y34 hm1=>?_
    refine co hm1 (fun hm1=>?_) fun hm1=>?_
    ·refine sr ?_
     refine sr ?_
     refine ZJ (YJ rfl rfl rfl rfl) rfl rfl rfl ?_
     refine ss ?_
     exact ZaE [(0,0),(105,105),(108,108)] ⟨_,_,_,_,_,_,_,_,_,_,_,hm1,rfl⟩ (Nat.lt_succ_self _)
    refine sx ?_
    refine sr ?_
    refine ZJ (YJ rfl rfl rfl rfl) rfl rfl rfl ?_
    refine ss ?_
    exact ZaE [(0,0),(105,105),(108,108)] ⟨_,_,_,_,_,_,_,_,_,_,_,hm1,rfl⟩ (Nat.lt_succ_self _)
   refine ss ?_
   refine Yi rfl ?_
   refine sx ?_
   refine sr ?_
   refine ZJ (YJ rfl rfl rfl rfl) rfl rfl rfl ?_
   refine ss ?_
   exact ZaE [(0,0),(105,105),(108,108)] ⟨_,_,_,_,_,_,_,_,_,_,_,hm1,rfl⟩ (Nat.lt_succ_self _)
 rintro _ ⟨p35,p36,p37,p38,p39,p40,p41,p42,x43,x44,rfl,rfl⟩
 exact Yw hm⟩
def QH:List Zf→Option (Ctl Bool Unit)
 | [] =>
 some (Ctl.nxt ())
 | r2::xs3 =>
 Zc (Zb1 r2) fun y5 =>
 sel (!y5) (
  some (Ctl.ret false)) (
  QH xs3)
def Zbo (l1:List Zf):Option Bool :=
 Zc (
  QH l1:Option (Ctl Bool Unit)) fun mu=>YB mu fun (_:Unit) =>
 some true
instance ZoI {l1}:SpO (Zbo l1) fun y=>Sp 116 [.d (lst Zf.ds l1)] [] (vB y) []:=⟨fun hm=>by
 refine si Tryz.func116 Tryz.ntmps116 Tryz.results116 fun B w0 ρ0=>?_
 refine sr ?_
 refine sr ?_
 refine jc0 hm [] [] [] (fun _ hm hm1=>?_) (fun hm=>?_)
 ·refine Zq ?_
  refine lr0 hm1 5 [5,6] [] (fun m4=>[(7,vI (m4:Int))]) (fun hlenm4 m4 r2 hltm4 hxm4 hm1=>?_) (fun m4 hm1=>?_)
  ·refine bo hm1 fun y5 hm1=>?_
   refine co hm1 (fun hm1=>?_) fun hm1=>?_
   ·exact Zdt hm hm1
   exact eb1 hm hm1
  exact ZcD hm hm1
 exact Yw hm⟩
def Zax (p1:Ze):Option Bool :=
 sel p1.Turned (
  Zc (Zbo p1.Second) fun y2 =>
  some y2) (
  some false)
instance ZoF {p1}:SpO (Zax p1) fun y=>Sp 49 [.a (Ze.vs p1)] [] (vB y) []:=⟨fun hm=>by
 refine si Tryz.func49 Tryz.ntmps49 Tryz.results49 fun B w0 ρ0=>?_
 exact az0 hm⟩
def Y2 (p1:Ze):Option Bool :=
 sel p1.Turned (
  Zc (QG p1.Second) fun y2 =>
  some y2) (
  some false)
instance ZjQ {p1}:SpO (Y2 p1) fun y=>Sp 124 [.a (Ze.vs p1)] [] (vB y) []:=⟨fun hm=>by
 refine si Tryz.func124 Tryz.ntmps124 Tryz.results124 fun B w0 ρ0=>?_
 exact az0 hm⟩
def Zci (p1:Ze):Option (Ze × Int) :=
 Zc (
  sel p1.Turned (
   some true) (
   Zc (Zbo p1.First) fun y2 =>
   some (!y2)):Option Bool) fun x3 =>
 sel x3 (
  some ((Ze.mk (Zj.mk 0 [] ⟨#[]⟩ 0) [] [] [] false),7)) (
  Zc (X0 p1) fun y4 =>
  some ((Ze.mk y4.Query y4.Cuts y4.First y4.Second true),0))
instance ZoR {p1}:SpO (Zci p1) fun y=>Sp 48 [.a (Ze.vs p1)] [] (.t [.a (Ze.vs y.1),vI y.2]) []:=⟨fun hm=>by
 refine si Tryz.func48 Tryz.ntmps48 Tryz.results48 fun B w0 ρ0=>?_
 refine sr ?_
 refine Zg ?_
 refine Zg ?_
 refine jo1 hm [1,2] [101,102] (fun x3=>[(11,vB x3)]) (fun _ hm hm1=>?_) (fun x3 hm=>?_)
 ·exact az1 hm hm1
 exact az0 hm⟩
end Go.Proofs.YtkcmgbbopedacaaGreatDoor
