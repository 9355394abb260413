/-
  Lemmas: Models and walks
-/
import Derived.Test.YtkcmgbbopedacaaGreatDoorPZ18
import Derived.Test.YtkcmgbbopedacaaGreatDoorPZ37
import Derived.Test.YtkcmgbbopedacaaGreatDoorPZ24
import Derived.Test.YtkcmgbbopedacaaGreatDoorPZ25
import Derived.Test.YtkcmgbbopedacaaGreatDoorPZ27
set_option linter.unusedSimpArgs false
set_option linter.unusedVariables false
namespace Go.Proofs.YtkcmgbbopedacaaGreatDoor
open Go.RowKit
set_option maxRecDepth 100000
set_option maxHeartbeats 4000000
attribute [local irreducible] WK WC WL Wk Rel OpD OpV WD WO sel bnd Ze app YD lsl ZeM ssl ZhA Zhi Zi9 Zh4 Op.bytesLess
attribute [local irreducible] ZcE Yi union mlk ZtS Zve ZtT cpy Zc2
def Q4 (p1:Zh):List Zc :=
 sel p1.Turned (
  p1.Second) (
  p1.First)
instance ZnZ {p1}:SpT (Q4 p1) fun y=>Sp 173 [.a (Zh.vs p1)] [] (.d (lst Zc.ds y)) []:=⟨fun hm=>by
 refine si Tryz.func173 Tryz.ntmps173 Tryz.results173 fun B w0 ρ0=>?_
 exact az0 hm⟩
def Za9 (p1:Zh) (i2:Int):Option (Rng × Bool) :=
 bnd (Q4 p1) fun y3 =>
 Ze (
  sel (decide (i2<0)) (
   some true) (
   some (decide ((y3.length:Int)≤i2))):Option Bool) fun x4 =>
 sel x4 (
  some ((Rng.mk (Bnd.mk ⟨#[]⟩ false) (Bnd.mk ⟨#[]⟩ false)),false)) (
  Ze (YD y3 i2) fun e5 =>
  Ze (Zb3 e5) fun y6 =>
  some (y6.1,y6.2))
instance Zm2 {p1} {i2}:SpO (Za9 p1 i2) fun y=>Sp 117 [.a (Zh.vs p1),vI i2] [] (.t [.a (Rng.vs y.1),vB y.2]) []:=⟨fun hm=>by
 refine si Tryz.func117 Tryz.ntmps117 Tryz.results117 fun B w0 ρ0=>?_
 refine bp hm fun y3 hm=>?_
 refine ss ?_
 refine Zg ?_
 refine Zg ?_
 refine jo1 hm [1,4,6] [104] (fun x4=>[(16,vB x4)]) (fun _ hm hm1=>?_) (fun x4 hm=>?_)
 ·exact az1 hm hm1
 exact az0 hm⟩
def ZaX (p1:Zh) (i2:Int) (v3:Zr):Option (Zh × Int) :=
 bnd (Q4 p1) fun y4 =>
 Ze (app ([]:List Zc) y4) fun l5 =>
 Ze (
  sel (decide (i2<0)) (
   some true) (
   some (decide ((l5.length:Int)≤i2))):Option Bool) fun x6 =>
 sel x6 (
  some ((Zh.mk (Zf.mk 0 [] ⟨#[]⟩ 0) [] [] [] false),2)) (
  Ze (YD l5 i2) fun e7 =>
  Ze (Zdm e7 v3) fun y8 =>
  sel (!decide (y8.2=0)) (
   some ((Zh.mk (Zf.mk 0 [] ⟨#[]⟩ 0) [] [] [] false),y8.2)) (
   Ze (YD l5 i2) fun e9 =>
   bnd (y8.1) fun e11 =>
   bnd (l5.set (Int.toNat i2) e11) fun l10 =>
   sel p1.Turned (
    some ((Zh.mk p1.Query p1.Cuts p1.First l10 p1.Turned),0)) (
    some ((Zh.mk p1.Query p1.Cuts l10 p1.Second p1.Turned),0))))
instance Zm1 {p1} {i2} {v3}:SpO (ZaX p1 i2 v3) fun y=>Sp 118 [.a (Zh.vs p1),vI i2,.a (Zr.vs v3)] [] (.t [.a (Zh.vs y.1),vI y.2]) []:=⟨fun hm=>by
 refine si Tryz.func118 Tryz.ntmps118 Tryz.results118 fun B w0 ρ0=>?_
 refine bp hm fun y4 hm=>?_
 refine bo hm fun l5 hm=>?_
 refine ss ?_
 refine Zg ?_
 refine Zg ?_
 refine jo1 hm [1,3,5,6,8] [103,105,106,113] (fun x6=>[(21,vB x6)]) (fun _ hm hm1=>?_) (fun x6 hm=>?_)
 ·exact az1 hm hm1
 refine co hm (fun hm=>?_) fun hm=>?_
 ·exact YF hm
 refine sx ?_
 refine Zg ?_
 refine Zy (id:=4) [⟨0,0,[8]⟩,⟨1,0,[1]⟩,⟨2,3,[24,25]⟩,⟨3,7,[26]⟩,⟨4,0,[5]⟩,⟨9,0,[]⟩,⟨5,31,[27,28]⟩,⟨6,63,[29]⟩,⟨7,127,[23]⟩,⟨8,127,[23]⟩,⟨10,767,[9,30]⟩,⟨11,2047,[31]⟩] mixed (by kernel_rfl) ?_
 refine bo' hm fun e7 hge7 hm=>?_
 refine ss ?_
 refine ZoD (kk:=113) (f:=Zc.ds) (zz:=6) (u:=.a (Zc.vs e7)) (off:=0) hge7 rfl rfl rfl (by exact inferInstance) rfl rfl rfl (by first | exact .no rfl | exact .y rfl rfl rfl rfl) rfl rfl ?_
 refine bo hm fun y8 hm=>?_
 refine co hm (fun hm=>?_) fun hm=>?_
 ·exact YF hm
 refine bo' hm fun e9 hge9 hm=>?_
 refine ss ?_
 obtain ⟨e11,hy,hm⟩:=Zao hm
 have hxe11:=hy
 refine ss ?_
 obtain ⟨l10,hy,hm⟩:=Zao hm
 refine ZqW (lo:=0) (nn:=0) (Zje (k:=113) (f:=Zc.ds) (zz:=6) (off:=0) hge9 hy rfl rfl rfl rfl (by exact inferInstance) rfl (by rw [← hxe11]; rfl)) rfl rfl (QX _ _) ?_
 have hge11:=ZaI hge9 e11
 rw [hy] at hge11
 exact az0 hm⟩
def XO:List Zc→Option (Ctl Bool Unit)
 | [] =>
 some (Ctl.nxt ())
 | r2::xs3 =>
 Ze (Zb7 r2) fun y5 =>
 sel (!y5) (
  some (Ctl.ret false)) (
  XO xs3)
def QZ (l1:List Zc):Option Bool :=
 Ze (
  XO l1:Option (Ctl Bool Unit)) fun mu=>Yz mu fun (_:Unit) =>
 some true
instance ZnS {l1}:SpO (QZ l1) fun y=>Sp 176 [.d (lst Zc.ds l1)] [] (vB y) []:=⟨fun hm=>by
 refine si Tryz.func176 Tryz.ntmps176 Tryz.results176 fun B w0 ρ0=>?_
 refine sr ?_
 refine sr ?_
 refine jc0 hm [] [] [] (fun _ hm hm1=>?_) (fun hm=>?_)
 ·refine Zm ?_
  refine lr0 hm1 5 [5,6] [] (fun m4=>[(7,vI (m4:Int))]) (fun hlenm4 m4 r2 hltm4 hxm4 hm1=>?_) (fun m4 hm1=>?_)
  ·refine bo hm1 fun y5 hm1=>?_
   refine co hm1 (fun hm1=>?_) fun hm1=>?_
   ·exact ZcF hm hm1
   exact eb1 hm hm1
  exact ZbU hm hm1
 exact YF hm⟩
def Zdk (p1:Zh):Option (Zh × Int) :=
 sel p1.Turned (
  some ((Zh.mk (Zf.mk 0 [] ⟨#[]⟩ 0) [] [] [] false),7)) (
  Ze (QZ p1.First) fun y2 =>
  sel (!y2) (
   some ((Zh.mk (Zf.mk 0 [] ⟨#[]⟩ 0) [] [] [] false),7)) (
   some ((Zh.mk p1.Query p1.Cuts p1.First p1.Second true),0)))
instance Zrk {p1}:SpO (Zdk p1) fun y=>Sp 119 [.a (Zh.vs p1)] [] (.t [.a (Zh.vs y.1),vI y.2]) []:=⟨fun hm=>by
 refine si Tryz.func119 Tryz.ntmps119 Tryz.results119 fun B w0 ρ0=>?_
 refine co hm (fun hm=>?_) fun hm=>?_
 ·refine ss ?_
  refine Xn rfl ?_
  exact YF hm
 exact az0 hm⟩
def YG (views3:List Zr) (most4:Int):Nat→List Int→Int→Int→List Rng→ByteArray→Int→List Bnd→List Zc→List Zc→Bool→Int→Option (Int × List Rng × ByteArray × Int × List Bnd × List Zc × List Zc × Bool × List Int × Int)
 | 0,_,_,_,_,_,_,_,_,_,_,_=>none
 | fuel+1,x5,x6,p7,p8,p9,p10,p11,p12,p13,p14,k15 =>
 Ze (
  sel (decide (k15<most4)) (
   bnd (ZcC (ZC.mk x5 x6)) fun y16 =>
   some (y16.2.l,y16.2.at_,y16.1)) (
   some (x5,x6,false)):Option (List Int × Int × Bool)) fun (x17,x18,x19) =>
 Ze (
  sel x19 (
   some (Ctl.nxt ())) (
   some (Ctl.ret (p7,p8,p9,p10,p11,p12,p13,p14,x17,x18))):Option (Ctl (Int × List Rng × ByteArray × Int × List Bnd × List Zc × List Zc × Bool × List Int × Int) Unit)) fun mu=>Yz mu fun (_:Unit) =>
 Ze (Zt (ZC.mk x17 x18) (max (p12.length:Int) 1)) fun y20 =>
 Ze (Za9 (Zh.mk (Zf.mk p7 p8 p9 p10) p11 p12 p13 p14) y20.1) fun y21 =>
 bnd (X0 (Zf.mk p7 p8 p9 p10)) fun y22 =>
 Ze (ZaZ y20.2 views3 y21.1 y22) fun y23 =>
 Ze (ZaX (Zh.mk (Zf.mk p7 p8 p9 p10) p11 p12 p13 p14) y20.1 y23.1) fun y24 =>
 Ze (
  sel (decide (y24.2=0)) (
   some (y24.1.Query.Kind,y24.1.Query.Ranges,y24.1.Query.Key,y24.1.Query.Count,y24.1.Cuts,y24.1.First,y24.1.Second,y24.1.Turned)) (
   some (p7,p8,p9,p10,p11,p12,p13,p14)):Option (Int × List Rng × ByteArray × Int × List Bnd × List Zc × List Zc × Bool)) fun (p25,p26,p27,p28,p29,p30,p31,p32) =>
 Ze (Zdk (Zh.mk (Zf.mk p25 p26 p27 p28) p29 p30 p31 p32)) fun y33 =>
 sel (decide (y33.2=0)) (
  Ze (ZF y23.2 2) fun y34 =>
  sel y34.1 (
   YG views3 most4 fuel y34.2.l y34.2.at_ y33.1.Query.Kind y33.1.Query.Ranges y33.1.Query.Key y33.1.Query.Count y33.1.Cuts y33.1.First y33.1.Second y33.1.Turned (ZJ (k15+1))) (
   YG views3 most4 fuel y34.2.l y34.2.at_ p25 p26 p27 p28 p29 p30 p31 p32 (ZJ (k15+1)))) (
  YG views3 most4 fuel y23.2.l y23.2.at_ p25 p26 p27 p28 p29 p30 p31 p32 (ZJ (k15+1)))
def Zc8 (t1:ZC) (p2:Zh) (views3:List Zr) (most4:Int):Option (Zh × ZC) :=
 Ze (
  YG views3 most4 FU t1.l t1.at_ p2.Query.Kind p2.Query.Ranges p2.Query.Key p2.Query.Count p2.Cuts p2.First p2.Second p2.Turned 0:Option (Int × List Rng × ByteArray × Int × List Bnd × List Zc × List Zc × Bool × List Int × Int)) fun (p35,p36,p37,p38,p39,p40,p41,p42,x43,x44) =>
 some ((Zh.mk (Zf.mk p35 p36 p37 p38) p39 p40 p41 p42),(ZC.mk x43 x44))
instance Zq6 {t1} {p2} {views3} {most4}:SpO (Zc8 t1 p2 views3 most4) fun y=>Sp 50 [.p 0 0,.a (Zh.vs p2),.d (lst Zr.ds views3),vI most4] [(0,some (.box 126 [.d (lst dsI t1.l),vI t1.at_]))] (.a (Zh.vs y.1)) ([(0,some (.box 126 [.d (lst dsI y.2.l),vI y.2.at_]))]):=⟨fun hm=>by
 refine si Tryz.func50 Tryz.ntmps50 Tryz.results50 fun B w0 ρ0=>?_
 refine sr ?_
 refine sr ?_
 obtain ⟨mu1,hm1,hm⟩:=ZH hm
 refine YQ (fun st=>∃ (p35:Int) (p36:List Rng) (p37:ByteArray) (p38:Int) (p39:List Bnd) (p40:List Zc) (p41:List Zc) (p42:Bool) (x43:List Int) (x44:Int),mu1=(p35,p36,p37,p38,p39,p40,p41,p42,x43,x44)∧st=⟨[(5,.p 105 0),(8,.p 108 0)],[(0,some (.box 126 [.d (lst dsI x43),vI x44])),(105,some (.box 48 (Zh.vs (Zh.mk (Zf.mk p35 p36 p37 p38) p39 p40 p41 p42)))),(108,some (.box 48 [vI 0,.d (.c (.slice none 0 0)),vS ⟨#[]⟩,vI 0,.d (.c (.slice none 0 0)),.d (.c (.slice none 0 0)),.d (.c (.slice none 0 0)),vB false]))]⟩) ?_ ?_
 ·refine Zm ?_
  refine ZiL (fun κ st=>∃ x5 x6 p7 p8 p9 p10 p11 p12 p13 p14 k15,YG views3 most4 κ x5 x6 p7 p8 p9 p10 p11 p12 p13 p14 k15=some mu1∧st=⟨[(0,.p 0 0),(2,.d (lst Zr.ds views3)),(3,vI most4),(5,.p 105 0),(8,.p 108 0),(9,vI k15)],[(0,some (.box 126 [.d (lst dsI x5),vI x6])),(105,some (.box 48 (Zh.vs (Zh.mk (Zf.mk p7 p8 p9 p10) p11 p12 p13 p14)))),(108,some (.box 48 [vI 0,.d (.c (.slice none 0 0)),vS ⟨#[]⟩,vI 0,.d (.c (.slice none 0 0)),.d (.c (.slice none 0 0)),.d (.c (.slice none 0 0)),vB false]))]⟩) [(0,0),(105,105),(108,108)] ⟨_,_,_,_,_,_,_,_,_,_,_,hm1,rfl⟩ ?_
  rintro κ _ ⟨x5,x6,p7,p8,p9,p10,p11,p12,p13,p14,k15,hm1,rfl⟩
  cases κ with
  | zero=>rw [YG.eq_1] at hm1; cases hm1
  | succ κ =>
   rw [YG.eq_2] at hm1
   refine Zg ?_
   refine Zg ?_
   refine jo3 hm1 [0,2,3,5,8,9] [105,108] (fun x17 x18 x19=>[(23,vB x19)]) (fun _ hm1 hm2=>?_) (fun x17 x18 x19 hm1=>?_) (B:=(fun x17 x18 x19=>[(0,some (.box 126 [.d (lst dsI x17),vI x18]))]))
   ·exact az2 hm hm1 hm2
   refine ss ?_
   refine jc0 hm1 [0,2,3,5,8,9] [0,105,108] [] (fun _ hm1 hm2=>?_) (fun hm1=>?_)
   ·refine co hm2 (fun hm2=>?_) fun hm2=>?_
    ·exact Zxu hm hm1 hm2
    refine XA ?_
    refine ss ?_
    cases hm2
    replace hm1:=YI hm1
    cases hm1
    exact Zey [(0,0),(105,105),(108,108)] ⟨_,_,_,_,_,_,_,_,_,_,rfl,rfl⟩
   refine bo hm1 fun y20 hm1=>?_
   refine bo hm1 fun y21 hm1=>?_
   refine ss ?_
   refine Zg ?_
   refine Zg ?_
   refine Zy (id:=6) [⟨0,0,[5]⟩,⟨1,0,[10]⟩,⟨2,0,[0]⟩,⟨3,0,[2]⟩,⟨4,0,[11]⟩,⟨5,0,[5]⟩,⟨6,32,[44]⟩,⟨13,0,[]⟩,⟨7,96,[45]⟩,⟨8,252,[41,42,43,46]⟩,⟨9,511,[39,40,47]⟩,⟨10,1023,[48]⟩,⟨11,2047,[38]⟩,⟨12,2047,[38]⟩,⟨14,12287,[13,49]⟩,⟨15,32767,[50]⟩] mixed (by kernel_rfl) ?_
   refine bp hm1 fun y22 hm1=>?_
   refine bo hm1 fun y23 hm1=>?_
   refine bo hm1 fun y24 hm1=>?_
   refine sr ?_
   refine jo8 hm1 [0,2,3,5,8,9] [0,108] (fun p25 p26 p27 p28 p29 p30 p31 p32=>[]) (fun mu2 hm1 hm2=>?_) (fun p25 p26 p27 p28 p29 p30 p31 p32 hm1=>?_) (B:=(fun p25 p26 p27 p28 p29 p30 p31 p32=>[(105,some (.box 48 (Zh.vs (Zh.mk (Zf.mk p25 p26 p27 p28) p29 p30 p31 p32))))]))
   ·refine co hm2 (fun hm2=>?_) fun hm2=>?_
    ·exact Zvi [(0,0),(105,105),(108,108)] hm hm1 hm2
    exact Zvi [(0,0),(105,105),(108,108)] hm hm1 hm2
   refine bo hm1 fun y33 hm1=>?_
   refine co hm1 (fun hm1=>?_) fun hm1=>?_
   ·refine bo hm1 fun y34 hm1=>?_
    refine co hm1 (fun hm1=>?_) fun hm1=>?_
    ·refine sr ?_
     refine sr ?_
     refine ZL (YZ rfl rfl rfl rfl) rfl rfl rfl ?_
     refine ss ?_
     exact Zbk [(0,0),(105,105),(108,108)] ⟨_,_,_,_,_,_,_,_,_,_,_,hm1,rfl⟩ (Nat.lt_succ_self _)
    refine sx ?_
    refine sr ?_
    refine ZL (YZ rfl rfl rfl rfl) rfl rfl rfl ?_
    refine ss ?_
    exact Zbk [(0,0),(105,105),(108,108)] ⟨_,_,_,_,_,_,_,_,_,_,_,hm1,rfl⟩ (Nat.lt_succ_self _)
   refine ss ?_
   refine Yf rfl ?_
   refine sx ?_
   refine sr ?_
   refine ZL (YZ rfl rfl rfl rfl) rfl rfl rfl ?_
   refine ss ?_
   exact Zbk [(0,0),(105,105),(108,108)] ⟨_,_,_,_,_,_,_,_,_,_,_,hm1,rfl⟩ (Nat.lt_succ_self _)
 rintro _ ⟨p35,p36,p37,p38,p39,p40,p41,p42,x43,x44,rfl,rfl⟩
 exact YF hm⟩
def Q5:List Zc→Option (Ctl Bool Unit)
 | [] =>
 some (Ctl.nxt ())
 | r2::xs3 =>
 Ze (ZcR r2) fun y5 =>
 sel (!y5) (
  some (Ctl.ret false)) (
  Q5 xs3)
def Zb5 (l1:List Zc):Option Bool :=
 Ze (
  Q5 l1:Option (Ctl Bool Unit)) fun mu=>Yz mu fun (_:Unit) =>
 some true
instance Zq3 {l1}:SpO (Zb5 l1) fun y=>Sp 116 [.d (lst Zc.ds l1)] [] (vB y) []:=⟨fun hm=>by
 refine si Tryz.func116 Tryz.ntmps116 Tryz.results116 fun B w0 ρ0=>?_
 refine sr ?_
 refine sr ?_
 refine jc0 hm [] [] [] (fun _ hm hm1=>?_) (fun hm=>?_)
 ·refine Zm ?_
  refine lr0 hm1 5 [5,6] [] (fun m4=>[(7,vI (m4:Int))]) (fun hlenm4 m4 r2 hltm4 hxm4 hm1=>?_) (fun m4 hm1=>?_)
  ·refine bo hm1 fun y5 hm1=>?_
   refine co hm1 (fun hm1=>?_) fun hm1=>?_
   ·exact ZcF hm hm1
   exact eb1 hm hm1
  exact ZbU hm hm1
 exact YF hm⟩
def Zbf (p1:Zh):Option Bool :=
 sel p1.Turned (
  Ze (Zb5 p1.Second) fun y2 =>
  some y2) (
  some false)
instance Zrg {p1}:SpO (Zbf p1) fun y=>Sp 49 [.a (Zh.vs p1)] [] (vB y) []:=⟨fun hm=>by
 refine si Tryz.func49 Tryz.ntmps49 Tryz.results49 fun B w0 ρ0=>?_
 exact az0 hm⟩
def Qc (p1:Zh):Option Bool :=
 sel p1.Turned (
  Ze (QZ p1.Second) fun y2 =>
  some y2) (
  some false)
instance Zlo {p1}:SpO (Qc p1) fun y=>Sp 124 [.a (Zh.vs p1)] [] (vB y) []:=⟨fun hm=>by
 refine si Tryz.func124 Tryz.ntmps124 Tryz.results124 fun B w0 ρ0=>?_
 exact az0 hm⟩
def Zdc (p1:Zh):Option (Zh × Int) :=
 Ze (
  sel p1.Turned (
   some true) (
   Ze (Zb5 p1.First) fun y2 =>
   some (!y2)):Option Bool) fun x3 =>
 sel x3 (
  some ((Zh.mk (Zf.mk 0 [] ⟨#[]⟩ 0) [] [] [] false),7)) (
  Ze (Qw p1) fun y4 =>
  some ((Zh.mk y4.Query y4.Cuts y4.First y4.Second true),0))
instance Zrh {p1}:SpO (Zdc p1) fun y=>Sp 48 [.a (Zh.vs p1)] [] (.t [.a (Zh.vs y.1),vI y.2]) []:=⟨fun hm=>by
 refine si Tryz.func48 Tryz.ntmps48 Tryz.results48 fun B w0 ρ0=>?_
 refine sr ?_
 refine Zg ?_
 refine Zg ?_
 refine jo1 hm [1,2] [101,102] (fun x3=>[(11,vB x3)]) (fun _ hm hm1=>?_) (fun x3 hm=>?_)
 ·exact az1 hm hm1
 exact az0 hm⟩
end Go.Proofs.YtkcmgbbopedacaaGreatDoor
