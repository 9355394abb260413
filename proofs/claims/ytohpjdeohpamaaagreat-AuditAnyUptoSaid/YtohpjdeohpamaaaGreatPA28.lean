/-
  Lemmas: Models and walks
-/
import Derived.Test.YtohpjdeohpamaaaGreatPA22
set_option linter.unusedSimpArgs false
set_option linter.unusedVariables false
namespace Go.Proofs.YtohpjdeohpamaaaGreat
open Go.RowKit
set_option maxRecDepth 100000
set_option maxHeartbeats 4000000
attribute [local irreducible] WK WC WL Wk Rel OpD OpV WD WO sel bnd obnd app lget lsl sget ssl scat letg iquo irem Op.bytesLess
attribute [local irreducible] qchk qranges union
def Mref20_ValidWrite (w1 : TWrite) : Bool :=
 bnd (Mref1_ValidKey w1.Key) fun y2 =>
 sel y2 (
  sel (decide ((w1.Value.size : Int) ≤ 64)) (
   sel (!w1.Delete) (
    true) (
    decide (w1.Value = ⟨#[]⟩))) (
   false)) (
  false)
theorem Mref20_ValidWrite_sp {w1 : TWrite} {y : Bool} (hm : Mref20_ValidWrite w1 = y) : Spec Tryz.prog 39 [.a [vS w1.Key, vS w1.Value, vB w1.Delete]] [] fun u h => u = vB y ∧ h = [] := by
 refine si Tryz.func39 Tryz.ntmps39 Tryz.results39 fun B w0 ρ0 => ?_
 unfold Mref20_ValidWrite at hm
 refine sr ?_
 refine sr ?_
 obtain ⟨y2, hy, hm⟩ := bnd_o hm
 refine wl_cq (Mref1_ValidKey_sp (hm := hy)) ?_
 refine ss ?_
 refine wl_sg hm ?_ ?_ <;> clear hm <;> intro hm
 ·refine ss ?_
  refine wl_sg hm ?_ ?_ <;> clear hm <;> intro hm
  ·refine ss ?_
   refine wl_sg hm ?_ ?_ <;> clear hm <;> intro hm
   ·refine sx ?_
    subst hm
    exact wk_r
   refine sx ?_
   subst hm
   exact wk_r
  refine sx ?_
  subst hm
  exact wk_r
 refine sx ?_
 subst hm
 exact wk_r

end Go.Proofs.YtohpjdeohpamaaaGreat
