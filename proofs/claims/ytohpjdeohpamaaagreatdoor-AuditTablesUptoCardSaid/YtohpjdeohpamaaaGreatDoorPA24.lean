/-
  Lemmas: Models and walks
-/
import Derived.Test.YtohpjdeohpamaaaGreatDoorPA23
set_option linter.unusedSimpArgs false
set_option linter.unusedVariables false
namespace Go.Proofs.YtohpjdeohpamaaaGreatDoor
open Go.RowKit
set_option maxRecDepth 100000
set_option maxHeartbeats 4000000
attribute [local irreducible] WK WC WL Wk Rel OpD OpV WD WO sel bnd obnd app lget lsl sget ssl scat letg iquo irem Op.bytesLess
attribute [local irreducible] qchk qranges union
def Mref28_Tiling_l1 : List TVisit → Option (Ctl Int Unit)
  | [] =>
  some (Ctl.nxt ())
  | r4 :: xs5 =>
  obnd (
   obnd (Mref28_ValidView r4.View) fun y7 =>
   sel (!y7) (
    some true) (
    bnd (Mref1_Empty r4.Part) fun y8 =>
    sel y8 (
     some true) (
     bnd (Mref28_inside r4.Part r4.View.Interval) fun y9 =>
     some (!y9))) : Option Bool) fun x10 =>
  sel x10 (
   some (Ctl.ret 1)) (
   bnd (Mref20_Within r4.View.Rows r4.Part) fun y11 =>
   sel (!y11) (
    some (Ctl.ret 17)) (
    Mref28_Tiling_l1 xs5))
def Mref28_Tiling_l2 (y12 : List Rng) : List TVisit → Int → ByteArray → Bool → Option (Ctl Int Int)
  | [], at23, pos24, pos25 =>
  some (Ctl.nxt at23)
  | r26 :: xs27, at23, pos24, pos25 =>
  sel (decide (at23 = (y12.length : Int))) (
   some (Ctl.ret 2)) (
   bnd (Mref1_Compare r26.Part.lo (Bnd.mk pos24 pos25)) fun y29 =>
   sel (decide (0 < y29)) (
    some (Ctl.ret 9)) (
    bnd (Mref1_Compare r26.Part.lo (Bnd.mk pos24 pos25)) fun y30 =>
    sel (decide (y30 < 0)) (
     some (Ctl.ret 10)) (
     obnd (lget y12 at23) fun e31 =>
     bnd (Mref1_Compare r26.Part.hi e31.hi) fun y32 =>
     sel (decide (0 < y32)) (
      some (Ctl.ret 2)) (
      obnd (lget y12 at23) fun e33 =>
      bnd (Mref1_Compare r26.Part.hi e33.hi) fun y34 =>
      sel (decide (y34 = 0)) (
       sel (decide (i64w (at23 + 1) < (y12.length : Int))) (
        obnd (lget y12 (i64w (at23 + 1))) fun e35 =>
        Mref28_Tiling_l2 y12 xs27 (i64w (at23 + 1)) e35.lo.key e35.lo.top) (
        Mref28_Tiling_l2 y12 xs27 (i64w (at23 + 1)) r26.Part.hi.key r26.Part.hi.top)) (
       Mref28_Tiling_l2 y12 xs27 at23 r26.Part.hi.key r26.Part.hi.top)))))
def Mref28_Tiling (q1 : TQuery) (l2 : List TVisit) : Option Int :=
 bnd (Mref22_Check q1) fun y3 =>
 sel (!decide (y3 = 0)) (
  some y3) (
  obnd (
   Mref28_Tiling_l1 l2 : Option (Ctl Int Unit)) fun mu => ocbnd mu fun (_ : Unit) =>
  obnd (Mref22_Ranges q1) fun y12 =>
  obnd (Mref28_Rows l2) fun y13 =>
  bnd (Mref22_Enough q1 (y13.length : Int)) fun y14 =>
  obnd (
   sel (decide (0 < (y12.length : Int))) (
    obnd (lget y12 0) fun e15 =>
    some (e15.lo.key, e15.lo.top)) (
    some (⟨#[]⟩, false)) : Option (ByteArray × Bool)) fun (pos16, pos17) =>
  obnd (
   bnd (Mref22_Down q1) fun y18 =>
   sel y18 (
    sel y14 (
     some (decide (0 < (l2.length : Int)))) (
     some false)) (
    some false) : Option Bool) fun x19 =>
  obnd (
   sel x19 (
    obnd (lget l2 0) fun e20 =>
    some (e20.Part.lo.key, e20.Part.lo.top)) (
    some (pos16, pos17)) : Option (ByteArray × Bool)) fun (pos21, pos22) =>
  obnd (
   Mref28_Tiling_l2 y12 l2 0 pos21 pos22 : Option (Ctl Int Int)) fun mu => ocbnd mu fun at36 =>
  sel (decide (at36 < (y12.length : Int))) (
   sel (decide (q1.Kind = 3)) (
    sel (!y14) (
     some 9) (
     some 0)) (
    sel (!false) (
     some 9) (
     some 0))) (
   some 0))
def Mref28_Check (r1 : TReceipt) : Option (TAnswer × Int) :=
 obnd (Mref28_Tiling r1.Query r1.First) fun y2 =>
 sel (!decide (y2 = 0)) (
  some ((TAnswer.mk [] (TFold.mk 0 0 0 0 0 ⟨#[]⟩ ⟨#[]⟩)), y2)) (
  obnd (Mref28_Tiling r1.Query r1.Second) fun y3 =>
  sel (!decide (y3 = 0)) (
   some ((TAnswer.mk [] (TFold.mk 0 0 0 0 0 ⟨#[]⟩ ⟨#[]⟩)), y3)) (
   obnd (Mref28_SameVisits r1.First r1.Second) fun y4 =>
   sel (!y4) (
    some ((TAnswer.mk [] (TFold.mk 0 0 0 0 0 ⟨#[]⟩ ⟨#[]⟩)), 11)) (
    obnd (Mref28_Rows r1.First) fun y5 =>
    obnd (Mref22_Take r1.Query y5) fun y6 =>
    obnd (Mref21_Of y6) fun y7 =>
    some ((TAnswer.mk y6 y7), 0))))
end Go.Proofs.YtohpjdeohpamaaaGreatDoor
