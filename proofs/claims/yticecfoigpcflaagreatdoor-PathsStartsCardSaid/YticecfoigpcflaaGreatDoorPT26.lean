/-
  Lemmas: Models and walks
-/
import Derived.Test.YticecfoigpcflaaGreatDoorPT18
import Derived.Test.YticecfoigpcflaaGreatDoorPT22
set_option linter.unusedSimpArgs false
set_option linter.unusedVariables false
namespace Go.Proofs.YticecfoigpcflaaGreatDoor
open Go.RowKit
set_option maxRecDepth 100000
set_option maxHeartbeats 4000000
attribute [local irreducible] WK WC WL Wk Rel OpD OpV WD WO sel bnd obnd app lget lsl sget ssl scat letg iquo irem Op.bytesLess
attribute [local irreducible] qchk qranges union
def Mref25_Owner (g1 : TGroup) : Option (TMember × Bool) :=
 obnd (
  sel (decide ((g1.Members.length : Int) = 0)) (
   some true) (
   obnd (lget g1.Members 0) fun e2 =>
   some (!e2.Up)) : Option Bool) fun x3 =>
 sel x3 (
  some ((TMember.mk 0 false (TCopy.mk (Rng.mk (Bnd.mk ⟨#[]⟩ false) (Bnd.mk ⟨#[]⟩ false)) (TStamp.mk 0 0) [] [] (TPart.mk 0 0 0 (TStamp.mk 0 0) (Rng.mk (Bnd.mk ⟨#[]⟩ false) (Bnd.mk ⟨#[]⟩ false)) []) (TPart.mk 0 0 0 (TStamp.mk 0 0) (Rng.mk (Bnd.mk ⟨#[]⟩ false) (Bnd.mk ⟨#[]⟩ false)) []) 0 0)), false)) (
  obnd (lget g1.Members 0) fun e4 =>
  some (e4, true))
instance Mref25_Owner_sp {g1} : SpO (Mref25_Owner g1) fun y => Sp 94 [.a (TGroup.vs g1)] [] (.t [.a (TMember.vs y.1), vB y.2]) [] := ⟨fun hm => by
 refine si Tryz.func94 Tryz.ntmps94 Tryz.results94 fun B w0 ρ0 => ?_
 refine sr ?_
 refine wc_seq ?_
 refine wc_seq ?_
 refine jo1 hm [1, 2] [101, 102] (fun x3 => [(15, vB x3)]) (fun _ hm hm1 => ?_) (fun x3 hm => ?_)
 ·exact az1 hm hm1
 exact az0 hm⟩

def Mref25_View (g1 : TGroup) : Option (TView × Int) :=
 obnd (Mref25_Owner g1) fun y2 =>
 sel (!y2.2) (
  some ((TView.mk 0 (Rng.mk (Bnd.mk ⟨#[]⟩ false) (Bnd.mk ⟨#[]⟩ false)) (TStamp.mk 0 0) []), 14)) (
  sel (!g1.Open) (
   some ((TView.mk 0 (Rng.mk (Bnd.mk ⟨#[]⟩ false) (Bnd.mk ⟨#[]⟩ false)) (TStamp.mk 0 0) []), 7)) (
   some ((TView.mk y2.1.ID y2.1.Copy.Range y2.1.Copy.Stamp y2.1.Copy.Rows), 0)))
instance Mref25_View_sp {g1} : SpO (Mref25_View g1) fun y => Sp 82 [.a (TGroup.vs g1)] [] (.t [.a (TView.vs y.1), vI y.2]) [] := ⟨fun hm => by
 refine si Tryz.func82 Tryz.ntmps82 Tryz.results82 fun B w0 ρ0 => ?_
 exact az0 hm⟩

end Go.Proofs.YticecfoigpcflaaGreatDoor
