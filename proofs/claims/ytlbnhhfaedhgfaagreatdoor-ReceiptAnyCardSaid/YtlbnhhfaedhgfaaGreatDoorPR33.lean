/-
  Lemmas: Models and walks: the law ReceiptAny.
-/
import Derived.Test.YtlbnhhfaedhgfaaGreatDoorPR31
import Derived.Test.YtlbnhhfaedhgfaaGreatDoorPR30
import Derived.Test.YtlbnhhfaedhgfaaGreatDoorPR32
namespace Go.Proofs.YtlbnhhfaedhgfaaGreatDoor
set_option linter.unusedSimpArgs false
set_option linter.unusedVariables false
open Go.RowKit
set_option maxRecDepth 100000
set_option maxHeartbeats 4000000
attribute [local irreducible] WK WC WL Wk Rel OpD OpV WD WO sel bnd obnd app lget lsl sget ssl scat letg iquo irem Op.bytesLess
attribute [local irreducible] qchk qranges union
def Mlaw29_ReceiptAny (l1 : List Int) (raw2 : TReceipt) : Option Bool :=
 obnd (
  bnd (Mlaw29_small raw2.First) fun y3 =>
  sel (!y3) (
   some true) (
   bnd (Mlaw29_small raw2.Second) fun y4 =>
   sel (!y4) (
    some true) (
    some (decide (80 < (raw2.Query.Ranges.length : Int))))) : Option Bool) fun x5 =>
 sel x5 (
  obnd (Mlaw29_awake) fun y6 =>
  some y6) (
  obnd (Mwld_New l1) fun y7 =>
  obnd (Mlaw29_good y7) fun y8 =>
  obnd (Mlaw29_agree raw2) fun y9 =>
  sel y9 (
   obnd (Mlaw29_agree (TReceipt.mk y8.1.Query raw2.First raw2.First)) fun y10 =>
   sel y10 (
    obnd (Mlaw29_agree (TReceipt.mk raw2.Query y8.1.First y8.1.Second)) fun y11 =>
    sel y11 (
     obnd (Mlaw29_awake) fun y12 =>
     some y12) (
     some false)) (
    some false)) (
   some false))
theorem Mlaw29_ReceiptAny_sp {l1 : List Int} {raw2 : TReceipt} {y : Bool} (hm : Mlaw29_ReceiptAny l1 raw2 = some y) : Spec Tryz.prog 7 [.d (lst dsI l1), .a [vI raw2.Query.Kind, .d (lst Rng.ds raw2.Query.Ranges), vS raw2.Query.Key, vI raw2.Query.Count, .d (lst TVisit.ds raw2.First), .d (lst TVisit.ds raw2.Second)]] [] fun u h => u = vB y ∧ h = [] := by
 refine Spec.intro Tryz.func7 rfl rfl Tryz.ntmps7 Tryz.results7 rfl fun B w0 ρ0 => ?_
 simp only [slots, List.map_nil, List.map_cons, Nat.reduceAdd]
 unfold Mlaw29_ReceiptAny at hm
 have hm0 := hm
 clear hm
 refine sr ?_
 refine wc_seq ?_
 refine wc_seq ?_
 obtain ⟨mu1, hm1, hm0⟩ := obnd_o hm0
 refine wc_cut' (fun st => ∃ (x5 : Bool), x5 = mu1 ∧ st = ⟨[(0, .d (lst dsI l1)), (3, .p 103 0), (24, vB x5)], [(103, some (.box 81 [vI raw2.Query.Kind, .d (lst Rng.ds raw2.Query.Ranges), vS raw2.Query.Key, vI raw2.Query.Count, .d (lst TVisit.ds raw2.First), .d (lst TVisit.ds raw2.Second)]))]⟩) ?_ ?_
 ·refine sr ?_
  obtain ⟨y3, hy, hm1⟩ := bnd_o hm1
  refine wl_cq (Mlaw29_small_sp (hm := hy)) ?_
  refine ss ?_
  refine wl_sg hm1 ?_ ?_ <;> clear hm1 <;> intro hm1
  ·refine ss ?_
   cases hm1
   exact wk_cutw [(103, 103)] ⟨_, rfl, rfl⟩
  refine ss ?_
  obtain ⟨y4, hy, hm1⟩ := bnd_o hm1
  refine wl_cq (Mlaw29_small_sp (hm := hy)) ?_
  refine ss ?_
  refine wl_sg hm1 ?_ ?_ <;> clear hm1 <;> intro hm1
  ·refine ss ?_
   cases hm1
   exact wk_cutw [(103, 103)] ⟨_, rfl, rfl⟩
  refine ss ?_
  cases hm1
  exact wk_cutw [(103, 103)] ⟨_, rfl, rfl⟩
 rintro _ ⟨x5, rfl, rfl⟩
 refine ss ?_
 refine wc_cs hm0 ?_ ?_ <;> clear hm0 <;> intro hm0
 ·refine sr ?_
  obtain ⟨y6, hy, hm0⟩ := obnd_o hm0
  refine wl_cq (Mlaw29_awake_sp (hm := hy)) ?_
  refine sx ?_
  cases hm0
  exact wk_r
 refine sx ?_
 refine sr ?_
 obtain ⟨y7, hy, hm0⟩ := obnd_o hm0
 refine wl_mkn (u' := .p 202701 0) (h' := [(202701, some (.box 119 [.d (lst dsI y7.l), vI y7.at_]))]) (Mwld_New_sp (hm := hy)) 202700 rfl rfl rfl (by repeat (first | exact Vws.nil | apply Vws.cons | exact Vw.nil | exact Vw.d _ | exact Vw.q _ | apply Vw.a)) rfl (by (try simp only [renH, Option.map_some, Blk.ren, rens_d]); rfl) rfl rfl rfl rfl ?_
 refine sr ?_
 obtain ⟨y8, hy, hm0⟩ := obnd_o hm0
 refine wl_iq (Mlaw29_good_sp (hm := hy)) 202701 ?_
 refine sr ?_
 obtain ⟨y9, hy, hm0⟩ := obnd_o hm0
 refine wl_cq (Mlaw29_agree_sp (hm := hy)) ?_
 refine ss ?_
 refine wl_sg hm0 ?_ ?_ <;> clear hm0 <;> intro hm0
 ·refine ss ?_
  obtain ⟨y10, hy, hm0⟩ := obnd_o hm0
  refine wl_cq (Mlaw29_agree_sp (hm := hy)) ?_
  refine ss ?_
  refine wl_sg hm0 ?_ ?_ <;> clear hm0 <;> intro hm0
  ·refine ss ?_
   obtain ⟨y11, hy, hm0⟩ := obnd_o hm0
   refine wl_cq (Mlaw29_agree_sp (hm := hy)) ?_
   refine ss ?_
   refine wl_sg hm0 ?_ ?_ <;> clear hm0 <;> intro hm0
   ·refine ss ?_
    obtain ⟨y12, hy, hm0⟩ := obnd_o hm0
    refine wl_cq (Mlaw29_awake_sp (hm := hy)) ?_
    refine sx ?_
    cases hm0
    exact wk_r
   refine sx ?_
   cases hm0
   exact wk_r
  refine sx ?_
  cases hm0
  exact wk_r
 refine sx ?_
 cases hm0
 exact wk_r

end Go.Proofs.YtlbnhhfaedhgfaaGreatDoor
