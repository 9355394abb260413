/-
  Lemmas: Models and walks
-/
import Derived.Test.YtohpjdeohpamaaaGreatDoorPA22
import Derived.Test.YtohpjdeohpamaaaGreatDoorPA26
set_option linter.unusedSimpArgs false
set_option linter.unusedVariables false
namespace Go.Proofs.YtohpjdeohpamaaaGreatDoor
open Go.RowKit
set_option maxRecDepth 100000
set_option maxHeartbeats 4000000
attribute [local irreducible] WK WC WL Wk Rel OpD OpV WD WO sel bnd obnd app lget lsl sget ssl scat letg iquo irem Op.bytesLess
attribute [local irreducible] qchk qranges union
def Mwld_Tape_WriteIn (t1 : TTape) (r2 : Rng) : Option (TWrite × TTape) :=
 obnd (Mwld_Tape_KeyIn t1 r2) fun y3 =>
 obnd (Mwld_Tape_Bool y3.2 4) fun y4 =>
 sel (!y4.1) (
  obnd (Mwld_Tape_Value y4.2) fun y5 =>
  some ((TWrite.mk y3.1 y5.1 y4.1), y5.2)) (
  some ((TWrite.mk y3.1 ⟨#[]⟩ y4.1), y4.2))
theorem Mwld_Tape_WriteIn_sp {t1 : TTape} {r2 : Rng} {y : (TWrite × TTape)} (hm : Mwld_Tape_WriteIn t1 r2 = some y) : Spec Tryz.prog 30 [.p 0 0, .a [vS r2.lo.key, vB r2.lo.top, vS r2.hi.key, vB r2.hi.top]] [(0, some (.box 89 [.d (lst dsI t1.l), vI t1.at_]))] fun u h => u = .a [vS y.1.Key, vS y.1.Value, vB y.1.Delete] ∧ h = [(0, some (.box 89 [.d (lst dsI y.2.l), vI y.2.at_]))] := by
 refine si Tryz.func30 Tryz.ntmps30 Tryz.results30 fun B w0 ρ0 => ?_
 unfold Mwld_Tape_WriteIn at hm
 refine sr ?_
 refine sr ?_
 obtain ⟨y3, hy, hm⟩ := obnd_o hm
 refine wl_iq (Mwld_Tape_KeyIn_sp (hm := hy)) 0 ?_
 refine sr ?_
 obtain ⟨y4, hy, hm⟩ := obnd_o hm
 refine wl_iq (Mwld_Tape_Bool_sp (hm := hy)) 0 ?_
 refine sr ?_
 refine wc_cs hm ?_ ?_ <;> clear hm <;> intro hm
 ·refine sr ?_
  obtain ⟨y5, hy, hm⟩ := obnd_o hm
  refine wl_iq (Mwld_Tape_Value_sp (hm := hy)) 0 ?_
  refine sr ?_
  refine sx ?_
  cases hm
  exact wk_reti [(0, 0)] ⟨rfl, rfl⟩
 refine sx ?_
 refine sr ?_
 refine sx ?_
 cases hm
 exact wk_reti [(0, 0)] ⟨rfl, rfl⟩

def Mwld_Whole : TQuery :=
 bnd (Mwld_All) fun y1 =>
 (TQuery.mk 1 ([y1] : List Rng) ⟨#[]⟩ 0)
theorem Mwld_Whole_sp {y : TQuery} (hm : Mwld_Whole = y) : Spec Tryz.prog 29 [] [] fun u h => u = .a [vI y.Kind, .d (lst Rng.ds y.Ranges), vS y.Key, vI y.Count] ∧ h = [] := by
 refine si Tryz.func29 Tryz.ntmps29 Tryz.results29 fun B w0 ρ0 => ?_
 unfold Mwld_Whole at hm
 refine sr ?_
 refine sr ?_
 obtain ⟨y1, hy, hm⟩ := bnd_o hm
 refine wl_cq (Mwld_All_sp (hm := hy)) ?_
 refine ss ?_
 refine wl_bt Rng.ds [y1] rfl rfl (by simp only [flatV, cellsV, List.cons_append, List.nil_append, List.append_nil]; exact rfl) rfl rfl rfl rfl rfl rfl ?_
 refine sx ?_
 subst hm
 exact wk_r

def Mlaw37_visits (rows1 : List Kv) : List TVisit :=
 bnd (Mwld_All) fun y2 =>
 bnd (Mwld_All) fun y3 =>
 ([(TVisit.mk (TView.mk 1 y2 (TStamp.mk 0 0) rows1) y3)] : List TVisit)
theorem Mlaw37_visits_sp {rows1 : List Kv} {y : List TVisit} (hm : Mlaw37_visits rows1 = y) : Spec Tryz.prog 69 [.d (lst Kv.ds rows1)] [] fun u h => u = .d (lst TVisit.ds y) ∧ h = [] := by
 refine si Tryz.func69 Tryz.ntmps69 Tryz.results69 fun B w0 ρ0 => ?_
 unfold Mlaw37_visits at hm
 refine sr ?_
 refine sr ?_
 obtain ⟨y2, hy, hm⟩ := bnd_o hm
 refine wl_cq (Mwld_All_sp (hm := hy)) ?_
 refine ss ?_
 obtain ⟨y3, hy, hm⟩ := bnd_o hm
 refine wl_cq (Mwld_All_sp (hm := hy)) ?_
 refine ss ?_
 refine wl_bt TVisit.ds [(TVisit.mk (TView.mk 1 y2 (TStamp.mk 0 0) rows1) y3)] rfl rfl (by simp only [flatV, cellsV, List.cons_append, List.nil_append, List.append_nil]; exact rfl) rfl rfl rfl rfl rfl rfl ?_
 refine sx ?_
 subst hm
 exact wk_r

def Mlaw37_proof (rows1 : List Kv) : TReceipt :=
 bnd (Mwld_Whole) fun y2 =>
 bnd (Mlaw37_visits rows1) fun y3 =>
 bnd (Mlaw37_visits rows1) fun y4 =>
 (TReceipt.mk y2 y3 y4)
theorem Mlaw37_proof_sp {rows1 : List Kv} {y : TReceipt} (hm : Mlaw37_proof rows1 = y) : Spec Tryz.prog 33 [.d (lst Kv.ds rows1)] [] fun u h => u = .a [vI y.Query.Kind, .d (lst Rng.ds y.Query.Ranges), vS y.Query.Key, vI y.Query.Count, .d (lst TVisit.ds y.First), .d (lst TVisit.ds y.Second)] ∧ h = [] := by
 refine si Tryz.func33 Tryz.ntmps33 Tryz.results33 fun B w0 ρ0 => ?_
 unfold Mlaw37_proof at hm
 refine sr ?_
 refine sr ?_
 obtain ⟨y2, hy, hm⟩ := bnd_o hm
 refine wl_cq (Mwld_Whole_sp (hm := hy)) ?_
 refine ss ?_
 obtain ⟨y3, hy, hm⟩ := bnd_o hm
 refine wl_cq (Mlaw37_visits_sp (hm := hy)) ?_
 refine ss ?_
 obtain ⟨y4, hy, hm⟩ := bnd_o hm
 refine wl_cq (Mlaw37_visits_sp (hm := hy)) ?_
 refine sx ?_
 subst hm
 exact wk_r

def Mlaw37_awake : Option Bool :=
 bnd (Mwld_Whole) fun y1 =>
 bnd (Mlaw37_proof []) fun y2 =>
 obnd (Maudit_Check [] ([(TRecord.mk 3 ([] : List TWrite) ⟨#[]⟩ ⟨#[]⟩ false 0 (TReceipt.mk y1 ([] : List TVisit) ([] : List TVisit))), (TRecord.mk 1 ([(TWrite.mk ⟨#[97]⟩ ⟨#[49]⟩ false)] : List TWrite) ⟨#[]⟩ ⟨#[]⟩ false 0 (TReceipt.mk (TQuery.mk 0 ([] : List Rng) ⟨#[]⟩ 0) ([] : List TVisit) ([] : List TVisit))), (TRecord.mk 4 ([] : List TWrite) ⟨#[]⟩ ⟨#[]⟩ false 0 y2)] : List TRecord)) fun y3 =>
 bnd (Mlaw37_proof ([(Kv.mk ⟨#[98]⟩ ⟨#[]⟩)] : List Kv)) fun y4 =>
 obnd (lget ([(TRecord.mk 3 ([] : List TWrite) ⟨#[]⟩ ⟨#[]⟩ false 0 (TReceipt.mk y1 ([] : List TVisit) ([] : List TVisit))), (TRecord.mk 1 ([(TWrite.mk ⟨#[97]⟩ ⟨#[49]⟩ false)] : List TWrite) ⟨#[]⟩ ⟨#[]⟩ false 0 (TReceipt.mk (TQuery.mk 0 ([] : List Rng) ⟨#[]⟩ 0) ([] : List TVisit) ([] : List TVisit))), (TRecord.mk 4 ([] : List TWrite) ⟨#[]⟩ ⟨#[]⟩ false 0 y2)] : List TRecord) 2) fun e5 =>
 bnd ((TRecord.mk e5.Kind e5.Writes e5.Key e5.Value e5.Has e5.Query y4)) fun e7 =>
 bnd (([(TRecord.mk 3 ([] : List TWrite) ⟨#[]⟩ ⟨#[]⟩ false 0 (TReceipt.mk y1 ([] : List TVisit) ([] : List TVisit))), (TRecord.mk 1 ([(TWrite.mk ⟨#[97]⟩ ⟨#[49]⟩ false)] : List TWrite) ⟨#[]⟩ ⟨#[]⟩ false 0 (TReceipt.mk (TQuery.mk 0 ([] : List Rng) ⟨#[]⟩ 0) ([] : List TVisit) ([] : List TVisit))), (TRecord.mk 4 ([] : List TWrite) ⟨#[]⟩ ⟨#[]⟩ false 0 y2)] : List TRecord).set (Int.toNat 2) e7) fun l6 =>
 obnd (Maudit_Check [] l6) fun y8 =>
 sel (decide (y3.1 = 3)) (
  sel (decide (y3.2 = 0)) (
   sel (decide (y8.1 = 2)) (
    some (decide (y8.2 = 11))) (
    some false)) (
   some false)) (
  some false)
theorem Mlaw37_awake_sp {y : Bool} (hm : Mlaw37_awake = some y) : Spec Tryz.prog 9 [] [] fun u h => u = vB y ∧ h = [] := by
 refine si Tryz.func9 Tryz.ntmps9 Tryz.results9 fun B w0 ρ0 => ?_
 unfold Mlaw37_awake at hm
 refine sr ?_
 refine sr ?_
 obtain ⟨y1, hy, hm⟩ := bnd_o hm
 refine wl_cq (Mwld_Whole_sp (hm := hy)) ?_
 refine ss ?_
 refine wl_bt TWrite.ds [(TWrite.mk ⟨#[97]⟩ ⟨#[49]⟩ false)] rfl rfl (by simp only [flatV, cellsV, List.cons_append, List.nil_append, List.append_nil]; exact rfl) rfl rfl rfl rfl rfl rfl ?_
 refine ss ?_
 obtain ⟨y2, hy, hm⟩ := bnd_o hm
 refine wl_cq (Mlaw37_proof_sp (hm := hy)) ?_
 refine ss ?_
 refine wl_wkw [] ⟨[(8, .a [vI 3, .d (lst TWrite.ds ([] : List TWrite)), vS ⟨#[]⟩, vS ⟨#[]⟩, vB false, vI 0, vI y1.Kind, .d (lst Rng.ds y1.Ranges), vS y1.Key, vI y1.Count, .d (lst TVisit.ds ([] : List TVisit)), .d (lst TVisit.ds ([] : List TVisit))]), (11, .a [vI 1, .d (lst TWrite.ds ([(TWrite.mk ⟨#[97]⟩ ⟨#[49]⟩ false)] : List TWrite)), vS ⟨#[]⟩, vS ⟨#[]⟩, vB false, vI 0, vI 0, .d (lst Rng.ds ([] : List Rng)), vS ⟨#[]⟩, vI 0, .d (lst TVisit.ds ([] : List TVisit)), .d (lst TVisit.ds ([] : List TVisit))]), (13, .a [vI 4, .d (lst TWrite.ds ([] : List TWrite)), vS ⟨#[]⟩, vS ⟨#[]⟩, vB false, vI 0, vI y2.Query.Kind, .d (lst Rng.ds y2.Query.Ranges), vS y2.Query.Key, vI y2.Query.Count, .d (lst TVisit.ds y2.First), .d (lst TVisit.ds y2.Second)])], []⟩ ?_
 refine ss ?_
 refine wl_1 (n_bso (k := 114) TRecord.ds [(TRecord.mk 3 ([] : List TWrite) ⟨#[]⟩ ⟨#[]⟩ false 0 (TReceipt.mk y1 ([] : List TVisit) ([] : List TVisit))), (TRecord.mk 1 ([(TWrite.mk ⟨#[97]⟩ ⟨#[49]⟩ false)] : List TWrite) ⟨#[]⟩ ⟨#[]⟩ false 0 (TReceipt.mk (TQuery.mk 0 ([] : List Rng) ⟨#[]⟩ 0) ([] : List TVisit) ([] : List TVisit))), (TRecord.mk 4 ([] : List TWrite) ⟨#[]⟩ ⟨#[]⟩ false 0 y2)] rfl rfl rfl rfl (by simp only [flatV, cellsV, List.cons_append, List.nil_append, List.append_nil]; exact rfl) rfl rfl) rfl rfl rfl rfl ?_
 refine sr ?_
 obtain ⟨y3, hy, hm⟩ := obnd_o hm
 refine wl_lend (Maudit_Check_sp (hm := hy)) ?_
 refine sr ?_
 refine wl_bt Kv.ds [(Kv.mk ⟨#[98]⟩ ⟨#[]⟩)] rfl rfl (by simp only [flatV, cellsV, List.cons_append, List.nil_append, List.append_nil]; exact rfl) rfl rfl rfl rfl rfl rfl ?_
 refine ss ?_
 obtain ⟨y4, hy, hm⟩ := bnd_o hm
 refine wl_cq (Mlaw37_proof_sp (hm := hy)) ?_
 refine ss ?_
 obtain ⟨e5, hy, hm⟩ := obnd_o hm
 have hge5 := hy
 refine wl_r (o_ixo hy rfl rfl rfl rfl) rfl rfl rfl ?_
 refine ss ?_
 obtain ⟨e7, hy, hm⟩ := bnd_o hm
 have hxe7 := hy
 refine ss ?_
 obtain ⟨l6, hy, hm⟩ := bnd_o hm
 refine wl_0 (lo := 0) (nn := 0) (o_sto (k := 114) (f := TRecord.ds) (zz := 12) (off := 6) hge5 hy rfl rfl rfl rfl (by exact inferInstance) rfl (by rw [← hxe7]; rfl)) rfl rfl (fresh0 _ _) ?_
 have hge7 := lget_set hge5 e7
 rw [hy] at hge7
 refine sr ?_
 obtain ⟨y8, hy, hm⟩ := obnd_o hm
 refine wl_lend (Maudit_Check_sp (hm := hy)) ?_
 refine sr ?_
 refine wl_sg hm ?_ ?_ <;> clear hm <;> intro hm
 ·refine ss ?_
  refine wl_sg hm ?_ ?_ <;> clear hm <;> intro hm
  ·refine ss ?_
   refine wl_sg hm ?_ ?_ <;> clear hm <;> intro hm
   ·refine sx ?_
    cases hm
    exact wk_r
   refine sx ?_
   cases hm
   exact wk_r
  refine sx ?_
  cases hm
  exact wk_r
 refine sx ?_
 cases hm
 exact wk_r

end Go.Proofs.YtohpjdeohpamaaaGreatDoor
