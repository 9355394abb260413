/-
  Lemmas: Models and walks
-/
import Derived.Test.YtkcmgbbopedacaaGreatDoorPY18
import Derived.Test.YtkcmgbbopedacaaGreatDoorPY38
import Derived.Test.YtkcmgbbopedacaaGreatDoorPY36
set_option linter.unusedSimpArgs false
set_option linter.unusedVariables false
namespace Go.Proofs.YtkcmgbbopedacaaGreatDoor
open Go.RowKit
set_option maxRecDepth 100000
set_option maxHeartbeats 4000000
attribute [local irreducible] WK WC WL Wk Rel OpD OpV WD WO sel bnd Ze app Yx lsl Zex ssl Zhj Zg2 ZiR ZhL Op.bytesLess
attribute [local irreducible] Zcv Yg union mlk Zts ZuN Ztq cpy ZcT
def Zbb (p1:Zk):Option (Z0 × Int) :=
 Ze (ZbX p1) fun y2 =>
 sel (!y2) (
  some ((Z0.mk (Zg.mk 0 [] ⟨#[]⟩ 0) [] []),7)) (
  Ze (ZbE p1.Query p1.First p1.Second) fun y3 =>
  some (y3,0))
instance Znt {p1}:SpO (Zbb p1) fun y=>Sp 38 [.a (Zk.vs p1)] [] (.t [.a (Z0.vs y.1),vI y.2]) []:=⟨fun hm=>by
 refine si Tryz.func38 Tryz.ntmps38 Tryz.results38 fun B w0 ρ0=>?_
 exact az0 hm⟩
def Zcq (p1:Zk):Option (Z0 × Int) :=
 Ze (Zab p1) fun y2 =>
 sel (!y2) (
  some ((Z0.mk (Zg.mk 0 [] ⟨#[]⟩ 0) [] []),7)) (
  Ze (Zc1 p1.Query p1.First p1.Second) fun y3 =>
  some (y3,0))
instance ZnA {p1}:SpO (Zcq p1) fun y=>Sp 125 [.a (Zk.vs p1)] [] (.t [.a (Z0.vs y.1),vI y.2]) []:=⟨fun hm=>by
 refine si Tryz.func125 Tryz.ntmps125 Tryz.results125 fun B w0 ρ0=>?_
 exact az0 hm⟩
end Go.Proofs.YtkcmgbbopedacaaGreatDoor
