/-
  Lemmas: Models and walks
-/
import Derived.Test.YtkcmgbbopedacaaGreatDoorPZ18
import Derived.Test.YtkcmgbbopedacaaGreatDoorPZ38
import Derived.Test.YtkcmgbbopedacaaGreatDoorPZ36
set_option linter.unusedSimpArgs false
set_option linter.unusedVariables false
namespace Go.Proofs.YtkcmgbbopedacaaGreatDoor
open Go.RowKit
set_option maxRecDepth 100000
set_option maxHeartbeats 4000000
attribute [local irreducible] WK WC WL Wk Rel OpD OpV WD WO sel bnd Ze app YD lsl ZeM ssl ZhA Zhi Zi9 Zh4 Op.bytesLess
attribute [local irreducible] ZcE Yi union mlk ZtS Zve ZtT cpy Zc2
def Zaz (p1:Zh):Option (Zh × Int) :=
 Ze (Zbf p1) fun y2 =>
 sel (!y2) (
  some ((Zh.mk (Zf.mk 0 [] ⟨#[]⟩ 0) [] [] [] false),7)) (
  Ze (Yv p1.Query p1.Cuts) fun y3 =>
  sel (!decide (y3.2=0)) (
   some ((Zh.mk (Zf.mk 0 [] ⟨#[]⟩ 0) [] [] [] false),y3.2)) (
   Ze (Qw p1) fun y4 =>
   some ((Zh.mk y4.Query y4.Cuts y4.Second y3.1 y4.Turned),0)))
instance ZqQ {p1}:SpO (Zaz p1) fun y=>Sp 51 [.a (Zh.vs p1)] [] (.t [.a (Zh.vs y.1),vI y.2]) []:=⟨fun hm=>by
 refine si Tryz.func51 Tryz.ntmps51 Tryz.results51 fun B w0 ρ0=>?_
 exact az0 hm⟩
def ZdT (p1:Zh):Option (Zh × Int) :=
 Ze (Qc p1) fun y2 =>
 sel (!y2) (
  some ((Zh.mk (Zf.mk 0 [] ⟨#[]⟩ 0) [] [] [] false),7)) (
  Ze (QR p1.Query p1.Cuts) fun y3 =>
  sel (!decide (y3.2=0)) (
   some ((Zh.mk (Zf.mk 0 [] ⟨#[]⟩ 0) [] [] [] false),y3.2)) (
   some ((Zh.mk p1.Query p1.Cuts p1.Second y3.1.Second p1.Turned),0)))
instance ZqB {p1}:SpO (ZdT p1) fun y=>Sp 58 [.a (Zh.vs p1)] [] (.t [.a (Zh.vs y.1),vI y.2]) []:=⟨fun hm=>by
 refine si Tryz.func58 Tryz.ntmps58 Tryz.results58 fun B w0 ρ0=>?_
 refine bo hm fun y2 hm=>?_
 refine co hm (fun hm=>?_) fun hm=>?_
 ·exact YF hm
 refine bo hm fun y3 hm=>?_
 refine co hm (fun hm=>?_) fun hm=>?_
 ·exact YF hm
 refine sx ?_
 refine Zg ?_
 refine Zy (id:=6) [⟨0,0,[1]⟩,⟨1,1,[22]⟩,⟨2,0,[4]⟩,⟨3,4,[24]⟩,⟨4,3,[1]⟩,⟨5,19,[23,26]⟩,⟨6,63,[1]⟩,⟨7,127,[25,27]⟩] mixed (by kernel_rfl) ?_
 exact YF hm⟩
def Qk (p1:Zh):Option (Z7 × Int) :=
 Ze (Zbf p1) fun y2 =>
 sel (!y2) (
  some ((Z7.mk (Zf.mk 0 [] ⟨#[]⟩ 0) [] []),7)) (
  Ze (ZbQ p1.Query p1.First p1.Second) fun y3 =>
  some (y3,0))
instance ZnV {p1}:SpO (Qk p1) fun y=>Sp 38 [.a (Zh.vs p1)] [] (.t [.a (Z7.vs y.1),vI y.2]) []:=⟨fun hm=>by
 refine si Tryz.func38 Tryz.ntmps38 Tryz.results38 fun B w0 ρ0=>?_
 exact az0 hm⟩
def Zcx (p1:Zh):Option (Z7 × Int) :=
 Ze (Qc p1) fun y2 =>
 sel (!y2) (
  some ((Z7.mk (Zf.mk 0 [] ⟨#[]⟩ 0) [] []),7)) (
  Ze (Zdh p1.Query p1.First p1.Second) fun y3 =>
  some (y3,0))
instance ZnP {p1}:SpO (Zcx p1) fun y=>Sp 125 [.a (Zh.vs p1)] [] (.t [.a (Z7.vs y.1),vI y.2]) []:=⟨fun hm=>by
 refine si Tryz.func125 Tryz.ntmps125 Tryz.results125 fun B w0 ρ0=>?_
 exact az0 hm⟩
end Go.Proofs.YtkcmgbbopedacaaGreatDoor
