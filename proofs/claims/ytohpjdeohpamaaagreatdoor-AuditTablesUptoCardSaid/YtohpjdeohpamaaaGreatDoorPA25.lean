/-
  Lemmas: Models and walks
-/
import Derived.Test.YtohpjdeohpamaaaGreatDoorPA19
set_option linter.unusedSimpArgs false
set_option linter.unusedVariables false
namespace Go.Proofs.YtohpjdeohpamaaaGreatDoor
open Go.RowKit
set_option maxRecDepth 100000
set_option maxHeartbeats 4000000
attribute [local irreducible] WK WC WL Wk Rel OpD OpV WD WO sel bnd obnd app lget lsl sget ssl scat letg iquo irem Op.bytesLess
attribute [local irreducible] qchk qranges union
def Mref20_ValidWrite (w1 : TWrite) : Bool :=
 bnd (Mref1_ValidKey w1.Key) fun y2 =>
 sel y2 (
  sel (decide ((w1.Value.size : Int) ≤ 64)) (
   sel (!w1.Delete) (
    true) (
    decide (w1.Value = ⟨#[]⟩))) (
   false)) (
  false)
theorem Mref20_ValidWrite_sp {w1 : TWrite} {y : Bool} (hm : Mref20_ValidWrite w1 = y) : Spec Tryz.prog 115 [.a [vS w1.Key, vS w1.Value, vB w1.Delete]] [] fun u h => u = vB y ∧ h = [] := by
 refine si Tryz.func115 Tryz.ntmps115 Tryz.results115 fun B w0 ρ0 => ?_
 unfold Mref20_ValidWrite at hm
 refine sr ?_
 refine sr ?_
 obtain ⟨y2, hy, hm⟩ := bnd_o hm
 refine wl_cq (Mref1_ValidKey_sp (hm := hy)) ?_
 refine ss ?_
 refine wl_sg hm ?_ ?_ <;> clear hm <;> intro hm
 ·refine ss ?_
  refine wl_sg hm ?_ ?_ <;> clear hm <;> intro hm
  ·refine ss ?_
   refine wl_sg hm ?_ ?_ <;> clear hm <;> intro hm
   ·refine sx ?_
    subst hm
    exact wk_r
   refine sx ?_
   subst hm
   exact wk_r
  refine sx ?_
  subst hm
  exact wk_r
 refine sx ?_
 subst hm
 exact wk_r

def Mref25_Owner (g1 : TGroup) : Option (TMember × Bool) :=
 obnd (
  sel (decide ((g1.Members.length : Int) = 0)) (
   some true) (
   obnd (lget g1.Members 0) fun e2 =>
   some (!e2.Up)) : Option Bool) fun x3 =>
 sel x3 (
  some ((TMember.mk 0 false (TCopy.mk (Rng.mk (Bnd.mk ⟨#[]⟩ false) (Bnd.mk ⟨#[]⟩ false)) (TStamp.mk 0 0) [] [] (TPart.mk 0 0 0 (TStamp.mk 0 0) (Rng.mk (Bnd.mk ⟨#[]⟩ false) (Bnd.mk ⟨#[]⟩ false)) []) (TPart.mk 0 0 0 (TStamp.mk 0 0) (Rng.mk (Bnd.mk ⟨#[]⟩ false) (Bnd.mk ⟨#[]⟩ false)) []) 0 0)), false)) (
  obnd (lget g1.Members 0) fun e4 =>
  some (e4, true))
def Mref25_View (g1 : TGroup) : Option (TView × Int) :=
 obnd (Mref25_Owner g1) fun y2 =>
 sel (!y2.2) (
  some ((TView.mk 0 (Rng.mk (Bnd.mk ⟨#[]⟩ false) (Bnd.mk ⟨#[]⟩ false)) (TStamp.mk 0 0) []), 14)) (
  sel (!g1.Open) (
   some ((TView.mk 0 (Rng.mk (Bnd.mk ⟨#[]⟩ false) (Bnd.mk ⟨#[]⟩ false)) (TStamp.mk 0 0) []), 7)) (
   some ((TView.mk y2.1.ID y2.1.Copy.Range y2.1.Copy.Stamp y2.1.Copy.Rows), 0)))
end Go.Proofs.YtohpjdeohpamaaaGreatDoor
