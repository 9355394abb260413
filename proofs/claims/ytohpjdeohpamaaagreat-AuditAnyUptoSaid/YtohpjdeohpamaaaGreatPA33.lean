/-
  Lemmas: Models and walks
-/
import Derived.Test.YtohpjdeohpamaaaGreatPA32
set_option linter.unusedSimpArgs false
set_option linter.unusedVariables false
namespace Go.Proofs.YtohpjdeohpamaaaGreat
open Go.RowKit
set_option maxRecDepth 100000
set_option maxHeartbeats 4000000
attribute [local irreducible] WK WC WL Wk Rel OpD OpV WD WO sel bnd obnd app lget lsl sget ssl scat letg iquo irem Op.bytesLess
attribute [local irreducible] qchk qranges union
def Mlaw37_AuditAny (rows1 : List Kv) (raw2 : List TRecord) (kind3 : Int) (query4 : Int) : Option Bool :=
 obnd (
  obnd (Mlaw37_small raw2) fun y5 =>
  sel (!y5) (
   some true) (
   some (decide (40 < (rows1.length : Int)))) : Option Bool) fun x6 =>
 sel x6 (
  obnd (Mlaw37_awake) fun y7 =>
  some y7) (
  obnd (app ([] : List TRecord) raw2) fun l8 =>
  obnd (irem kind3 6) fun q9 =>
  obnd (app l8 ([(TRecord.mk (i64w q9) ([] : List TWrite) ⟨#[]⟩ ⟨#[]⟩ false query4 (TReceipt.mk (TQuery.mk 0 ([] : List Rng) ⟨#[]⟩ 0) ([] : List TVisit) ([] : List TVisit)))] : List TRecord)) fun l10 =>
  obnd (Maudit_Check rows1 raw2) fun y11 =>
  obnd (Mref37_Check rows1 raw2) fun y12 =>
  obnd (Maudit_Check [] l10) fun y13 =>
  obnd (Mref37_Check [] l10) fun y14 =>
  obnd (Maudit_Check [] (List.replicate 4097 (TRecord.mk 0 [] ⟨#[]⟩ ⟨#[]⟩ false 0 (TReceipt.mk (TQuery.mk 0 [] ⟨#[]⟩ 0) [] [])) : List TRecord)) fun y15 =>
  sel (decide (y11.1 = y12.1)) (
   sel (decide (y11.2 = y12.2)) (
    sel (decide (y13.1 = y14.1)) (
     sel (decide (y13.2 = y14.2)) (
      sel (decide (y15.2 = 3)) (
       obnd (Mlaw37_awake) fun y16 =>
       some y16) (
       some false)) (
      some false)) (
     some false)) (
    some false)) (
   some false))
theorem Mlaw37_AuditAny_sp {rows1 : List Kv} {raw2 : List TRecord} {kind3 : Int} {query4 : Int} {y : Bool} (hm : Mlaw37_AuditAny rows1 raw2 kind3 query4 = some y) : Spec Tryz.prog 3 [.d (lst Kv.ds rows1), .d (lst TRecord.ds raw2), .d (.c (.int .u8 kind3)), vI query4] [] fun u h => u = vB y ∧ h = [] := by
 refine si Tryz.func3 Tryz.ntmps3 Tryz.results3 fun B w0 ρ0 => ?_
 unfold Mlaw37_AuditAny at hm
 refine sr ?_
 refine wc_seq ?_
 refine wc_seq ?_
 obtain ⟨mu1, hm1, hm⟩ := obnd_o hm
 refine wc_cut' (fun st => ∃ (x6 : Bool), x6 = mu1 ∧ st = ⟨[(0, .d (lst Kv.ds rows1)), (1, .d (lst TRecord.ds raw2)), (2, .d (.c (.int .u8 kind3))), (3, vI query4), (27, vB x6)], []⟩) ?_ ?_
 ·refine sr ?_
  obtain ⟨y5, hy, hm1⟩ := obnd_o hm1
  refine wl_cq (Mlaw37_small_sp (hm := hy)) ?_
  refine ss ?_
  refine wl_sg hm1 ?_ ?_ <;> clear hm1 <;> intro hm1
  ·refine ss ?_
   cases hm1
   exact wk_cutw [] ⟨_, rfl, rfl⟩
  refine ss ?_
  cases hm1
  exact wk_cutw [] ⟨_, rfl, rfl⟩
 rintro _ ⟨x6, rfl, rfl⟩
 refine ss ?_
 refine wc_cs hm ?_ ?_ <;> clear hm <;> intro hm
 ·refine sr ?_
  obtain ⟨y7, hy, hm⟩ := obnd_o hm
  refine wl_cq (Mlaw37_awake_sp (hm := hy)) ?_
  refine sx ?_
  cases hm
  exact wk_r
 refine sx ?_
 refine sr ?_
 obtain ⟨l8, hy, hm⟩ := obnd_o hm
 refine wl_1 (n_appn (k := 130) hy rfl rfl rfl rfl rfl rfl) rfl rfl rfl rfl ?_
 refine ss ?_
 obtain ⟨q9, hy, hm⟩ := obnd_o hm
 refine wl_r (o_irem hy rfl rfl rfl) rfl rfl rfl ?_
 refine ss ?_
 refine wl_r (o_cvi (k1 := .u8) (k2 := .i64) rfl rfl (by kernel_rfl) (by kernel_rfl) rfl) rfl rfl rfl ?_
 refine ss ?_
 refine wl_wkw [(130, 130)] ⟨[(0, .d (lst Kv.ds rows1)), (1, .d (lst TRecord.ds raw2)), (30, .h 130), (35, .a [vI (i64w q9), .d (lst TWrite.ds ([] : List TWrite)), vS ⟨#[]⟩, vS ⟨#[]⟩, vB false, vI query4, vI 0, .d (lst Rng.ds ([] : List Rng)), vS ⟨#[]⟩, vI 0, .d (lst TVisit.ds ([] : List TVisit)), .d (lst TVisit.ds ([] : List TVisit))])], [(130, some (arrT 34 12 TRecord.ds l8))]⟩ ?_
 refine ss ?_
 refine wl_bt TRecord.ds [(TRecord.mk (i64w q9) ([] : List TWrite) ⟨#[]⟩ ⟨#[]⟩ false query4 (TReceipt.mk (TQuery.mk 0 ([] : List Rng) ⟨#[]⟩ 0) ([] : List TVisit) ([] : List TVisit)))] rfl rfl (by simp only [flatV, cellsV, List.cons_append, List.nil_append, List.append_nil]; exact rfl) rfl rfl rfl rfl rfl rfl ?_
 refine ss ?_
 obtain ⟨l10, hy, hm⟩ := obnd_o hm
 refine wl_2 (n_app (k' := 137) hy rfl rfl rfl rfl rfl rfl rfl rfl) rfl rfl rfl rfl ?_
 refine sr ?_
 obtain ⟨y11, hy, hm⟩ := obnd_o hm
 refine wl_cq (Maudit_Check_sp (hm := hy)) ?_
 refine sr ?_
 obtain ⟨y12, hy, hm⟩ := obnd_o hm
 refine wl_cq (Mref37_Check_sp (hm := hy)) ?_
 refine sr ?_
 obtain ⟨y13, hy, hm⟩ := obnd_o hm
 refine wl_lend (Maudit_Check_sp (hm := hy)) ?_
 refine sr ?_
 obtain ⟨y14, hy, hm⟩ := obnd_o hm
 refine wl_lend (Mref37_Check_sp (hm := hy)) ?_
 refine sr ?_
 refine wl_mks (n := 4097) TRecord.ds (TRecord.mk 0 [] ⟨#[]⟩ ⟨#[]⟩ false 0 (TReceipt.mk (TQuery.mk 0 [] ⟨#[]⟩ 0) [] [])) (zs := [.int .i64 0, .slice none 0 0, .string ⟨#[]⟩, .string ⟨#[]⟩, .bool false, .int .i64 0, .int .i64 0, .slice none 0 0, .string ⟨#[]⟩, .int .i64 0, .slice none 0 0, .slice none 0 0]) rfl rfl rfl (by unfold ZeroIs; kernel_rfl) rfl rfl (fun _ _ => by repeat (first | exact .nil | refine .cons (.c rfl) ?_ | refine .cons (.nil none 0) ?_)) rfl rfl rfl ?_
 refine ss ?_
 obtain ⟨y15, hy, hm⟩ := obnd_o hm
 refine wl_cq (Maudit_Check_sp (hm := hy)) ?_
 refine sr ?_
 refine wl_sg hm ?_ ?_ <;> clear hm <;> intro hm
 ·refine ss ?_
  refine wl_sg hm ?_ ?_ <;> clear hm <;> intro hm
  ·refine ss ?_
   refine wl_sg hm ?_ ?_ <;> clear hm <;> intro hm
   ·refine ss ?_
    refine wl_sg hm ?_ ?_ <;> clear hm <;> intro hm
    ·refine ss ?_
     refine wl_sg hm ?_ ?_ <;> clear hm <;> intro hm
     ·refine ss ?_
      obtain ⟨y16, hy, hm⟩ := obnd_o hm
      refine wl_cq (Mlaw37_awake_sp (hm := hy)) ?_
      refine sx ?_
      cases hm
      exact wk_r
     refine sx ?_
     cases hm
     exact wk_r
    refine sx ?_
    cases hm
    exact wk_r
   refine sx ?_
   cases hm
   exact wk_r
  refine sx ?_
  cases hm
  exact wk_r
 refine sx ?_
 cases hm
 exact wk_r

end Go.Proofs.YtohpjdeohpamaaaGreat
