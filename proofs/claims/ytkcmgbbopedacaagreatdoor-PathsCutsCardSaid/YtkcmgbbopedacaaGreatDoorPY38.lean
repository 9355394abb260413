/-
  Lemmas: Models and walks
-/
import Derived.Test.YtkcmgbbopedacaaGreatDoorPY18
import Derived.Test.YtkcmgbbopedacaaGreatDoorPY37
import Derived.Test.YtkcmgbbopedacaaGreatDoorPY24
import Derived.Test.YtkcmgbbopedacaaGreatDoorPY25
import Derived.Test.YtkcmgbbopedacaaGreatDoorPY27
set_option linter.unusedSimpArgs false
set_option linter.unusedVariables false
namespace Go.Proofs.YtkcmgbbopedacaaGreatDoor
open Go.RowKit
set_option maxRecDepth 100000
set_option maxHeartbeats 4000000
attribute [local irreducible] WK WC WL Wk Rel OpD OpV WD WO sel bnd Ze app Yx lsl Zex ssl Zhj Zg2 ZiR ZhL Op.bytesLess
attribute [local irreducible] Zcv Yg union mlk Zts ZuN Ztq cpy ZcT
def Za8 (p1:Zk):List Zc :=
 sel p1.Turned (
  p1.Second) (
  p1.First)
instance Znx {p1}:SpT (Za8 p1) fun y=>Sp 173 [.a (Zk.vs p1)] [] (.d (lst Zc.ds y)) []:=⟨fun hm=>by
 refine si Tryz.func173 Tryz.ntmps173 Tryz.results173 fun B w0 ρ0=>?_
 exact az0 hm⟩
def Zb1 (p1:Zk) (i2:Int) (v3:Zt):Option (Zk × Int) :=
 bnd (Za8 p1) fun y4 =>
 Ze (app ([]:List Zc) y4) fun l5 =>
 Ze (
  sel (decide (i2<0)) (
   some true) (
   some (decide ((l5.length:Int)≤i2))):Option Bool) fun x6 =>
 sel x6 (
  some ((Zk.mk (Zg.mk 0 [] ⟨#[]⟩ 0) [] [] [] false),2)) (
  Ze (Yx l5 i2) fun e7 =>
  Ze (ZcZ e7 v3) fun y8 =>
  sel (!decide (y8.2=0)) (
   some ((Zk.mk (Zg.mk 0 [] ⟨#[]⟩ 0) [] [] [] false),y8.2)) (
   Ze (Yx l5 i2) fun e9 =>
   bnd (y8.1) fun e11 =>
   bnd (l5.set (Int.toNat i2) e11) fun l10 =>
   sel p1.Turned (
    some ((Zk.mk p1.Query p1.Cuts p1.First l10 p1.Turned),0)) (
    some ((Zk.mk p1.Query p1.Cuts l10 p1.Second p1.Turned),0))))
instance ZmI {p1} {i2} {v3}:SpO (Zb1 p1 i2 v3) fun y=>Sp 118 [.a (Zk.vs p1),vI i2,.a (Zt.vs v3)] [] (.t [.a (Zk.vs y.1),vI y.2]) []:=⟨fun hm=>by
 refine si Tryz.func118 Tryz.ntmps118 Tryz.results118 fun B w0 ρ0=>?_
 refine bp hm fun y4 hm=>?_
 refine bo hm fun l5 hm=>?_
 refine ss ?_
 refine Zh ?_
 refine Zh ?_
 refine jo1 hm [1,3,5,6,8] [103,105,106,113] (fun x6=>[(21,vB x6)]) (fun _ hm hm1=>?_) (fun x6 hm=>?_)
 ·exact az1 hm hm1
 refine co hm (fun hm=>?_) fun hm=>?_
 ·exact YF hm
 refine sx ?_
 refine Zh ?_
 refine Zx (id:=4) [⟨0,0,[8]⟩,⟨1,0,[1]⟩,⟨2,3,[24,25]⟩,⟨3,7,[26]⟩,⟨4,0,[5]⟩,⟨9,0,[]⟩,⟨5,31,[27,28]⟩,⟨6,63,[29]⟩,⟨7,127,[23]⟩,⟨8,127,[23]⟩,⟨10,767,[9,30]⟩,⟨11,2047,[31]⟩] mixed (by kernel_rfl) ?_
 refine bo' hm fun e7 hge7 hm=>?_
 refine ss ?_
 refine Zoj (kk:=113) (f:=Zc.ds) (zz:=6) (u:=.a (Zc.vs e7)) (off:=0) hge7 rfl rfl rfl (by exact inferInstance) rfl rfl rfl (by first | exact .no rfl | exact .y rfl rfl rfl rfl) rfl rfl ?_
 refine bo hm fun y8 hm=>?_
 refine co hm (fun hm=>?_) fun hm=>?_
 ·exact YF hm
 refine bo' hm fun e9 hge9 hm=>?_
 refine ss ?_
 obtain ⟨e11,hy,hm⟩:=Zaf hm
 have hxe11:=hy
 refine ss ?_
 obtain ⟨l10,hy,hm⟩:=Zaf hm
 refine Zqw (lo:=0) (nn:=0) (ZiW (k:=113) (f:=Zc.ds) (zz:=6) (off:=0) hge9 hy rfl rfl rfl rfl (by exact inferInstance) rfl (by rw [← hxe11]; rfl)) rfl rfl (QJ _ _) ?_
 have hge11:=Zay hge9 e11
 rw [hy] at hge11
 exact az0 hm⟩
def XF:List Zc→Option (Ctl Bool Unit)
 | [] =>
 some (Ctl.nxt ())
 | r2::xs3 =>
 Ze (ZbW r2) fun y5 =>
 sel (!y5) (
  some (Ctl.ret false)) (
  XF xs3)
def QV (l1:List Zc):Option Bool :=
 Ze (
  XF l1:Option (Ctl Bool Unit)) fun mu=>Yv mu fun (_:Unit) =>
 some true
instance Zno {l1}:SpO (QV l1) fun y=>Sp 176 [.d (lst Zc.ds l1)] [] (vB y) []:=⟨fun hm=>by
 refine si Tryz.func176 Tryz.ntmps176 Tryz.results176 fun B w0 ρ0=>?_
 refine sr ?_
 refine sr ?_
 refine jc0 hm [] [] [] (fun _ hm hm1=>?_) (fun hm=>?_)
 ·refine Zl ?_
  refine lr0 hm1 5 [5,6] [] (fun m4=>[(7,vI (m4:Int))]) (fun hlenm4 m4 r2 hltm4 hxm4 hm1=>?_) (fun m4 hm1=>?_)
  ·refine bo hm1 fun y5 hm1=>?_
   refine co hm1 (fun hm1=>?_) fun hm1=>?_
   ·exact Zcw hm hm1
   exact eb1 hm hm1
  exact ZbL hm hm1
 exact YF hm⟩
def Zer (p1:Zk):Option (Zk × Int) :=
 sel p1.Turned (
  some ((Zk.mk (Zg.mk 0 [] ⟨#[]⟩ 0) [] [] [] false),7)) (
  Ze (QV p1.First) fun y2 =>
  sel (!y2) (
   some ((Zk.mk (Zg.mk 0 [] ⟨#[]⟩ 0) [] [] [] false),7)) (
   some ((Zk.mk p1.Query p1.Cuts p1.First p1.Second true),0)))
instance ZqA {p1}:SpO (Zer p1) fun y=>Sp 119 [.a (Zk.vs p1)] [] (.t [.a (Zk.vs y.1),vI y.2]) []:=⟨fun hm=>by
 refine si Tryz.func119 Tryz.ntmps119 Tryz.results119 fun B w0 ρ0=>?_
 refine co hm (fun hm=>?_) fun hm=>?_
 ·refine ss ?_
  refine YW rfl ?_
  exact YF hm
 exact az0 hm⟩
def QW:List Zc→Option (Ctl Bool Unit)
 | [] =>
 some (Ctl.nxt ())
 | r2::xs3 =>
 Ze (ZcE r2) fun y5 =>
 sel (!y5) (
  some (Ctl.ret false)) (
  QW xs3)
def ZbT (l1:List Zc):Option Bool :=
 Ze (
  QW l1:Option (Ctl Bool Unit)) fun mu=>Yv mu fun (_:Unit) =>
 some true
instance ZqW {l1}:SpO (ZbT l1) fun y=>Sp 116 [.d (lst Zc.ds l1)] [] (vB y) []:=⟨fun hm=>by
 refine si Tryz.func116 Tryz.ntmps116 Tryz.results116 fun B w0 ρ0=>?_
 refine sr ?_
 refine sr ?_
 refine jc0 hm [] [] [] (fun _ hm hm1=>?_) (fun hm=>?_)
 ·refine Zl ?_
  refine lr0 hm1 5 [5,6] [] (fun m4=>[(7,vI (m4:Int))]) (fun hlenm4 m4 r2 hltm4 hxm4 hm1=>?_) (fun m4 hm1=>?_)
  ·refine bo hm1 fun y5 hm1=>?_
   refine co hm1 (fun hm1=>?_) fun hm1=>?_
   ·exact Zcw hm hm1
   exact eb1 hm hm1
  exact ZbL hm hm1
 exact YF hm⟩
def ZbX (p1:Zk):Option Bool :=
 sel p1.Turned (
  Ze (ZbT p1.Second) fun y2 =>
  some y2) (
  some false)
instance ZqP {p1}:SpO (ZbX p1) fun y=>Sp 49 [.a (Zk.vs p1)] [] (vB y) []:=⟨fun hm=>by
 refine si Tryz.func49 Tryz.ntmps49 Tryz.results49 fun B w0 ρ0=>?_
 exact az0 hm⟩
def Zab (p1:Zk):Option Bool :=
 sel p1.Turned (
  Ze (QV p1.Second) fun y2 =>
  some y2) (
  some false)
instance Zlc {p1}:SpO (Zab p1) fun y=>Sp 124 [.a (Zk.vs p1)] [] (vB y) []:=⟨fun hm=>by
 refine si Tryz.func124 Tryz.ntmps124 Tryz.results124 fun B w0 ρ0=>?_
 exact az0 hm⟩
def Zc9 (p1:Zk):Option (Zk × Int) :=
 Ze (
  sel p1.Turned (
   some true) (
   Ze (ZbT p1.First) fun y2 =>
   some (!y2)):Option Bool) fun x3 =>
 sel x3 (
  some ((Zk.mk (Zg.mk 0 [] ⟨#[]⟩ 0) [] [] [] false),7)) (
  Ze (Zap p1) fun y4 =>
  some ((Zk.mk y4.Query y4.Cuts y4.First y4.Second true),0))
instance ZqU {p1}:SpO (Zc9 p1) fun y=>Sp 48 [.a (Zk.vs p1)] [] (.t [.a (Zk.vs y.1),vI y.2]) []:=⟨fun hm=>by
 refine si Tryz.func48 Tryz.ntmps48 Tryz.results48 fun B w0 ρ0=>?_
 refine sr ?_
 refine Zh ?_
 refine Zh ?_
 refine jo1 hm [1,2] [101,102] (fun x3=>[(11,vB x3)]) (fun _ hm hm1=>?_) (fun x3 hm=>?_)
 ·exact az1 hm hm1
 exact az0 hm⟩
end Go.Proofs.YtkcmgbbopedacaaGreatDoor
