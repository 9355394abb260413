/-
  Lemmas: Models and walks: the law ReceiptProves.
-/
import Derived.Test.YtlbnhhfaedhgfaaGreatDoorPR30
import Derived.Test.YtlbnhhfaedhgfaaGreatDoorPR32
namespace Go.Proofs.YtlbnhhfaedhgfaaGreatDoor
set_option linter.unusedSimpArgs false
set_option linter.unusedVariables false
open Go.RowKit
set_option maxRecDepth 100000
set_option maxHeartbeats 4000000
attribute [local irreducible] WK WC WL Wk Rel OpD OpV WD WO sel bnd obnd app lget lsl sget ssl scat letg iquo irem Op.bytesLess
attribute [local irreducible] qchk qranges union
def Mlaw29_ReceiptProves (l1 : List Int) : Option Bool :=
 obnd (Mwld_New l1) fun y2 =>
 obnd (Mlaw29_good y2) fun y3 =>
 obnd (Mreceipt_Check y3.1) fun y4 =>
 obnd (Mref22_Answer y3.2.1 y3.1.Query) fun y5 =>
 sel (decide (y4.2 = 0)) (
  sel (decide (y5.2 = 0)) (
   obnd (Mref22_SameAnswer y4.1 y5.1) fun y6 =>
   sel y6 (
    obnd (Mlaw29_awake) fun y7 =>
    some y7) (
    some false)) (
   some false)) (
  some false)
theorem Mlaw29_ReceiptProves_sp {l1 : List Int} {y : Bool} (hm : Mlaw29_ReceiptProves l1 = some y) : Spec Tryz.prog 8 [.d (lst dsI l1)] [] fun u h => u = vB y ∧ h = [] := by
 refine Spec.intro Tryz.func8 rfl rfl Tryz.ntmps8 Tryz.results8 rfl fun B w0 ρ0 => ?_
 simp only [slots, List.map_nil, List.map_cons, Nat.reduceAdd]
 unfold Mlaw29_ReceiptProves at hm
 have hm0 := hm
 clear hm
 refine sr ?_
 refine sr ?_
 obtain ⟨y2, hy, hm0⟩ := obnd_o hm0
 refine wl_mkn (u' := .p 201101 0) (h' := [(201101, some (.box 119 [.d (lst dsI y2.l), vI y2.at_]))]) (Mwld_New_sp (hm := hy)) 201100 rfl rfl rfl (by repeat (first | exact Vws.nil | apply Vws.cons | exact Vw.nil | exact Vw.d _ | exact Vw.q _ | apply Vw.a)) rfl (by (try simp only [renH, Option.map_some, Blk.ren, rens_d]); rfl) rfl rfl rfl rfl ?_
 refine sr ?_
 obtain ⟨y3, hy, hm0⟩ := obnd_o hm0
 refine wl_iq (Mlaw29_good_sp (hm := hy)) 201101 ?_
 refine sr ?_
 obtain ⟨y4, hy, hm0⟩ := obnd_o hm0
 refine wl_cq (Mreceipt_Check_sp (hm := hy)) ?_
 refine sr ?_
 obtain ⟨y5, hy, hm0⟩ := obnd_o hm0
 refine wl_cq (Mref22_Answer_sp (hm := hy)) ?_
 refine sr ?_
 refine wl_sg hm0 ?_ ?_ <;> clear hm0 <;> intro hm0
 ·refine ss ?_
  refine wl_sg hm0 ?_ ?_ <;> clear hm0 <;> intro hm0
  ·refine ss ?_
   obtain ⟨y6, hy, hm0⟩ := obnd_o hm0
   refine wl_cq (Mref22_SameAnswer_sp (hm := hy)) ?_
   refine ss ?_
   refine wl_sg hm0 ?_ ?_ <;> clear hm0 <;> intro hm0
   ·refine ss ?_
    obtain ⟨y7, hy, hm0⟩ := obnd_o hm0
    refine wl_cq (Mlaw29_awake_sp (hm := hy)) ?_
    refine sx ?_
    cases hm0
    exact wk_r
   refine sx ?_
   cases hm0
   exact wk_r
  refine sx ?_
  cases hm0
  exact wk_r
 refine sx ?_
 cases hm0
 exact wk_r

end Go.Proofs.YtlbnhhfaedhgfaaGreatDoor
