/-
  Lemmas: Plain laws of the models
-/
import Derived.Test.YtohpjdeohpamaaaGreatDoorPA14
import Derived.Test.YtohpjdeohpamaaaGreatDoorPA16
import Derived.Test.YtohpjdeohpamaaaGreatDoorPA10
import Derived.Test.YtohpjdeohpamaaaGreatDoorPA12
import Derived.Test.YtohpjdeohpamaaaGreatDoorPA18
import Derived.Test.YtohpjdeohpamaaaGreatDoorPA13
import Derived.Test.YtohpjdeohpamaaaGreatDoorPA17
import Derived.Test.YtohpjdeohpamaaaGreatDoorGAuditMomentsX1
set_option linter.unusedSimpArgs false
set_option linter.unusedVariables false
namespace Go.Proofs.YtohpjdeohpamaaaGreatDoor
open Go.RowKit
set_option maxRecDepth 100000
set_option maxHeartbeats 4000000
attribute [local irreducible] WK WC WL Wk Rel OpD OpV WD WO sel bnd obnd app lget lsl sget ssl scat letg iquo irem Op.bytesLess
def Mwld_Tape_Pick (t1 : TTape) (l2 : List Int) : Option (Int × TTape) :=
 obnd (Mwld_Tape_Next t1 (l2.length : Int)) fun y3 =>
 obnd (lget l2 y3.1) fun e4 =>
 some (e4, y3.2)
theorem Mwld_Tape_Pick_sp {t1 : TTape} {l2 : List Int} {y : (Int × TTape)} (hm : Mwld_Tape_Pick t1 l2 = some y) : Spec Tryz.prog 41 [.p 0 0, .d (lst dsI l2)] [(0, some (.box 89 [.d (lst dsI t1.l), vI t1.at_]))] fun u h => u = vI y.1 ∧ h = [(0, some (.box 89 [.d (lst dsI y.2.l), vI y.2.at_]))] := by
 refine si Tryz.func41 Tryz.ntmps41 Tryz.results41 fun B w0 ρ0 => ?_
 unfold Mwld_Tape_Pick at hm
 refine sr ?_
 refine sr ?_
 obtain ⟨y3, hy, hm⟩ := obnd_o hm
 refine wl_iq (Mwld_Tape_Next_sp (hm := hy)) 0 ?_
 refine ss ?_
 obtain ⟨e4, hy, hm⟩ := obnd_o hm
 refine wl_r (o_ixg (ys := [dI e4]) hy rfl rfl rfl rfl) rfl rfl rfl ?_
 refine sx ?_
 cases hm
 exact wk_reti [(0, 0)] ⟨rfl, rfl⟩

def Mwld_Tape_OddKey (t1 : TTape) : Option (ByteArray × TTape) :=
 obnd (Mwld_Tape_Bool t1 10) fun y2 =>
 sel y2.1 (
  obnd (Mwld_Tape_Next y2.2 6) fun y3 =>
  obnd (letg y3.1) fun s4 =>
  obnd (Mwld_long s4 65) fun y5 =>
  some (y5, y3.2)) (
  obnd (Mwld_Tape_Key y2.2) fun y6 =>
  some (y6.1, y6.2))
theorem Mwld_Tape_OddKey_sp {t1 : TTape} {y : (ByteArray × TTape)} (hm : Mwld_Tape_OddKey t1 = some y) : Spec Tryz.prog 48 [.p 0 0] [(0, some (.box 89 [.d (lst dsI t1.l), vI t1.at_]))] fun u h => u = vS y.1 ∧ h = [(0, some (.box 89 [.d (lst dsI y.2.l), vI y.2.at_]))] := by
 refine si Tryz.func48 Tryz.ntmps48 Tryz.results48 fun B w0 ρ0 => ?_
 unfold Mwld_Tape_OddKey at hm
 refine sr ?_
 refine sr ?_
 obtain ⟨y2, hy, hm⟩ := obnd_o hm
 refine wl_iq (Mwld_Tape_Bool_sp (hm := hy)) 0 ?_
 refine ss ?_
 refine wc_cs hm ?_ ?_ <;> clear hm <;> intro hm
 ·refine sr ?_
  obtain ⟨y3, hy, hm⟩ := obnd_o hm
  refine wl_iq (Mwld_Tape_Next_sp (hm := hy)) 0 ?_
  refine ss ?_
  obtain ⟨s4, hy, hm⟩ := obnd_o hm
  refine wl_r (o_letg hy rfl rfl (by exact inferInstance) (by exact inferInstance)) rfl rfl rfl ?_
  refine ss ?_
  obtain ⟨y5, hy, hm⟩ := obnd_o hm
  refine wl_cq (Mwld_long_sp (hm := hy)) ?_
  refine sx ?_
  cases hm
  exact wk_reti [(0, 0)] ⟨rfl, rfl⟩
 refine sx ?_
 refine sr ?_
 obtain ⟨y6, hy, hm⟩ := obnd_o hm
 refine wl_iq (Mwld_Tape_Key_sp (hm := hy)) 0 ?_
 refine sx ?_
 cases hm
 exact wk_reti [(0, 0)] ⟨rfl, rfl⟩

def Mwld_Tape_Bound (t1 : TTape) : Option (Bnd × TTape) :=
 obnd (Mwld_Tape_Next t1 9) fun y2 =>
 sel (decide (y2.1 = 7)) (
  some ((Bnd.mk ⟨#[]⟩ true), y2.2)) (
  sel (decide (y2.1 = 8)) (
   obnd (Mwld_Tape_OddKey y2.2) fun y3 =>
   obnd (Mwld_Tape_Bool y3.2 3) fun y4 =>
   some ((Bnd.mk y3.1 y4.1), y4.2)) (
   obnd (Mwld_Tape_Key y2.2) fun y5 =>
   some ((Bnd.mk y5.1 false), y5.2)))
theorem Mwld_Tape_Bound_sp {t1 : TTape} {y : (Bnd × TTape)} (hm : Mwld_Tape_Bound t1 = some y) : Spec Tryz.prog 81 [.p 0 0] [(0, some (.box 89 [.d (lst dsI t1.l), vI t1.at_]))] fun u h => u = .a [vS y.1.key, vB y.1.top] ∧ h = [(0, some (.box 89 [.d (lst dsI y.2.l), vI y.2.at_]))] := by
 refine si Tryz.func81 Tryz.ntmps81 Tryz.results81 fun B w0 ρ0 => ?_
 unfold Mwld_Tape_Bound at hm
 refine sr ?_
 refine sr ?_
 obtain ⟨y2, hy, hm⟩ := obnd_o hm
 refine wl_iq (Mwld_Tape_Next_sp (hm := hy)) 0 ?_
 refine sr ?_
 refine wc_cs hm ?_ ?_ <;> clear hm <;> intro hm
 ·refine sr ?_
  refine sx ?_
  cases hm
  exact wk_reti [(0, 0)] ⟨rfl, rfl⟩
 refine sr ?_
 refine wc_cs hm ?_ ?_ <;> clear hm <;> intro hm
 ·refine sr ?_
  obtain ⟨y3, hy, hm⟩ := obnd_o hm
  refine wl_iq (Mwld_Tape_OddKey_sp (hm := hy)) 0 ?_
  refine ss ?_
  obtain ⟨y4, hy, hm⟩ := obnd_o hm
  refine wl_iq (Mwld_Tape_Bool_sp (hm := hy)) 0 ?_
  refine sx ?_
  cases hm
  exact wk_reti [(0, 0)] ⟨rfl, rfl⟩
 refine sx ?_
 refine sr ?_
 obtain ⟨y5, hy, hm⟩ := obnd_o hm
 refine wl_iq (Mwld_Tape_Key_sp (hm := hy)) 0 ?_
 refine sx ?_
 cases hm
 exact wk_reti [(0, 0)] ⟨rfl, rfl⟩

def Mwld_Tape_Range (t1 : TTape) : Option (Rng × TTape) :=
 obnd (Mwld_Tape_Bound t1) fun y2 =>
 obnd (Mwld_Tape_Bound y2.2) fun y3 =>
 obnd (Mwld_Tape_Bool y3.2 6) fun y4 =>
 sel (!y4.1) (
  sel y2.1.top (
   some ((Rng.mk y3.1 y2.1), y4.2)) (
   sel (!y3.1.top) (
    sel (bl y3.1.key y2.1.key) (
     some ((Rng.mk y3.1 y2.1), y4.2)) (
     some ((Rng.mk y2.1 y3.1), y4.2))) (
    some ((Rng.mk y2.1 y3.1), y4.2)))) (
  some ((Rng.mk y2.1 y3.1), y4.2))
theorem Mwld_Tape_Range_sp {t1 : TTape} {y : (Rng × TTape)} (hm : Mwld_Tape_Range t1 = some y) : Spec Tryz.prog 49 [.p 0 0] [(0, some (.box 89 [.d (lst dsI t1.l), vI t1.at_]))] fun u h => u = .a [vS y.1.lo.key, vB y.1.lo.top, vS y.1.hi.key, vB y.1.hi.top] ∧ h = [(0, some (.box 89 [.d (lst dsI y.2.l), vI y.2.at_]))] := by
 refine si Tryz.func49 Tryz.ntmps49 Tryz.results49 fun B w0 ρ0 => ?_
 unfold Mwld_Tape_Range at hm
 refine sr ?_
 refine sr ?_
 obtain ⟨y2, hy, hm⟩ := obnd_o hm
 refine wl_iq (Mwld_Tape_Bound_sp (hm := hy)) 0 ?_
 refine ss ?_
 obtain ⟨y3, hy, hm⟩ := obnd_o hm
 refine wl_iq (Mwld_Tape_Bound_sp (hm := hy)) 0 ?_
 refine sr ?_
 obtain ⟨y4, hy, hm⟩ := obnd_o hm
 refine wl_iq (Mwld_Tape_Bool_sp (hm := hy)) 0 ?_
 refine ss ?_
 refine wl_sg hm ?_ ?_ <;> clear hm <;> intro hm
 ·refine ss ?_
  refine wl_sg hm ?_ ?_ <;> clear hm <;> intro hm
  ·refine ss ?_
   refine wc_cond_t rfl ?_
   refine sr ?_
   refine sr ?_
   refine sx ?_
   cases hm
   exact wk_reti [(0, 0)] ⟨rfl, rfl⟩
  refine ss ?_
  refine wl_sg hm ?_ ?_ <;> clear hm <;> intro hm
  ·refine ss ?_
   refine wc_cs hm ?_ ?_ <;> clear hm <;> intro hm
   ·refine sr ?_
    refine sr ?_
    refine sx ?_
    cases hm
    exact wk_reti [(0, 0)] ⟨rfl, rfl⟩
   refine sx ?_
   refine sr ?_
   refine sx ?_
   cases hm
   exact wk_reti [(0, 0)] ⟨rfl, rfl⟩
  refine ss ?_
  refine wc_cond_f rfl ?_
  refine sx ?_
  refine sr ?_
  refine sx ?_
  cases hm
  exact wk_reti [(0, 0)] ⟨rfl, rfl⟩
 refine ss ?_
 refine wc_cond_f rfl ?_
 refine sx ?_
 refine sr ?_
 refine sx ?_
 cases hm
 exact wk_reti [(0, 0)] ⟨rfl, rfl⟩

def Mwld_Tape_Proper (t1 : TTape) : Option (Rng × TTape) :=
 obnd (Mwld_Tape_Range t1) fun y2 =>
 bnd (Mref1_Empty y2.1) fun y3 =>
 sel y3 (
  some ((Rng.mk (Bnd.mk ⟨#[98]⟩ false) (Bnd.mk ⟨#[]⟩ true)), y2.2)) (
  some (y2.1, y2.2))
theorem Mwld_Tape_Proper_sp {t1 : TTape} {y : (Rng × TTape)} (hm : Mwld_Tape_Proper t1 = some y) : Spec Tryz.prog 40 [.p 0 0] [(0, some (.box 89 [.d (lst dsI t1.l), vI t1.at_]))] fun u h => u = .a [vS y.1.lo.key, vB y.1.lo.top, vS y.1.hi.key, vB y.1.hi.top] ∧ h = [(0, some (.box 89 [.d (lst dsI y.2.l), vI y.2.at_]))] := by
 refine si Tryz.func40 Tryz.ntmps40 Tryz.results40 fun B w0 ρ0 => ?_
 unfold Mwld_Tape_Proper at hm
 refine sr ?_
 refine sr ?_
 obtain ⟨y2, hy, hm⟩ := obnd_o hm
 refine wl_iq (Mwld_Tape_Range_sp (hm := hy)) 0 ?_
 refine sr ?_
 obtain ⟨y3, hy, hm⟩ := bnd_o hm
 refine wl_cq (Mref1_Empty_sp (hm := hy)) ?_
 refine ss ?_
 refine wc_cs hm ?_ ?_ <;> clear hm <;> intro hm
 ·refine sr ?_
  refine sx ?_
  cases hm
  exact wk_reti [(0, 0)] ⟨rfl, rfl⟩
 refine sx ?_
 refine sr ?_
 refine sx ?_
 cases hm
 exact wk_reti [(0, 0)] ⟨rfl, rfl⟩

def Mwld_Tape_Query_l1 : Nat → List Int → Int → List Rng → Int → Option (List Rng × List Int × Int)
  | 0, _, _, _, _ => none
  | fuel + 1, x4, x5, q6, i7 =>
  obnd (
   sel (decide (0 ≤ i7)) (
    some (Ctl.nxt ())) (
    some (Ctl.ret (q6, x4, x5))) : Option (Ctl (List Rng × List Int × Int) Unit)) fun mu => ocbnd mu fun (_ : Unit) =>
  obnd (Mwld_Tape_Proper (TTape.mk x4 x5)) fun y8 =>
  obnd (app q6 ([y8.1] : List Rng)) fun l9 =>
  Mwld_Tape_Query_l1 fuel y8.2.l y8.2.at_ l9 (i64w (i7 - 1))
def Mwld_Tape_Query (t1 : TTape) : Option (TQuery × TTape) :=
 obnd (Mwld_Tape_Next t1 4) fun y2 =>
 obnd (
  sel (decide (i64w (1 + y2.1) = 1)) (
   obnd (Mwld_Tape_Next y2.2 4) fun y3 =>
   obnd (
    Mwld_Tape_Query_l1 FU y3.2.l y3.2.at_ [] y3.1 : Option (List Rng × List Int × Int)) fun (q10, x11, x12) =>
   some (q10, ⟨#[]⟩, 0, x11, x12)) (
   sel (decide (i64w (1 + y2.1) = 2)) (
    obnd (Mwld_Tape_Key y2.2) fun y13 =>
    some ([], y13.1, 0, y13.2.l, y13.2.at_)) (
    obnd (Mwld_Tape_Key y2.2) fun y14 =>
    obnd (Mwld_Tape_Pick y14.2 ([1, 2, 3, 5, 1024] : List Int)) fun y15 =>
    some ([], y14.1, y15.1, y15.2.l, y15.2.at_))) : Option (List Rng × ByteArray × Int × List Int × Int)) fun (q16, q17, q18, x19, x20) =>
 some ((TQuery.mk (i64w (1 + y2.1)) q16 q17 q18), (TTape.mk x19 x20))
theorem Mwld_Tape_Query_sp {t1 : TTape} {y : (TQuery × TTape)} (hm : Mwld_Tape_Query t1 = some y) : Spec Tryz.prog 13 [.p 0 0] [(0, some (.box 89 [.d (lst dsI t1.l), vI t1.at_]))] fun u h => u = .a [vI y.1.Kind, .d (lst Rng.ds y.1.Ranges), vS y.1.Key, vI y.1.Count] ∧ h = [(0, some (.box 89 [.d (lst dsI y.2.l), vI y.2.at_]))] := by
 refine si Tryz.func13 Tryz.ntmps13 Tryz.results13 fun B w0 ρ0 => ?_
 unfold Mwld_Tape_Query at hm
 refine sr ?_
 refine sr ?_
 obtain ⟨y2, hy, hm⟩ := obnd_o hm
 refine wl_iq (Mwld_Tape_Next_sp (hm := hy)) 0 ?_
 refine ss ?_
 refine wl_r (o_add rfl rfl rfl rfl) rfl rfl rfl ?_
 refine sr ?_
 obtain ⟨mu1, hm1, hm⟩ := obnd_o hm
 refine wc_cut' (fun st => ∃ (q16 : List Rng) (q17 : ByteArray) (q18 : Int) (x19 : List Int) (x20 : Int), mu1 = (q16, q17, q18, x19, x20) ∧ st = ⟨[(2, .p 102 0), (3, .p 103 0)], [(0, some (.box 89 [.d (lst dsI x19), vI x20])), (102, some (.box 25 [vI 0, .d (.c (.slice none 0 0)), vS ⟨#[]⟩, vI 0])), (103, some (.box 25 [vI (i64w (1 + y2.1)), .d (lst Rng.ds q16), vS q17, vI q18]))]⟩) ?_ ?_
 ·refine sr ?_
  refine wc_cs hm1 ?_ ?_ <;> clear hm1 <;> intro hm1
  ·refine sr ?_
   obtain ⟨y3, hy, hm1⟩ := obnd_o hm1
   refine wl_iq (Mwld_Tape_Next_sp (hm := hy)) 0 ?_
   refine ss ?_
   obtain ⟨mu2, hm2, hm1⟩ := obnd_o hm1
   refine wc_cut' (fun st => ∃ (q10 : List Rng) (x11 : List Int) (x12 : Int), mu2 = (q10, x11, x12) ∧ st = ⟨[(2, .p 102 0), (3, .p 103 0)], [(0, some (.box 89 [.d (lst dsI x11), vI x12])), (102, some (.box 25 [vI 0, .d (.c (.slice none 0 0)), vS ⟨#[]⟩, vI 0])), (103, some (.box 25 [vI (i64w (1 + y2.1)), .d (lst Rng.ds q10), vS ⟨#[]⟩, vI 0]))]⟩) ?_ ?_
   ·refine wc_block ?_
    refine wc_wk (wk_nilb 103 1 5001 77 4 rfl rfl rfl rfl) ?_
    refine wc_loopw (fun κ st => ∃ (x4 : List Int) (x5 : Int) (q6 : List Rng) (i7 : Int), Mwld_Tape_Query_l1 κ x4 x5 q6 i7 = some mu2 ∧ st = ⟨[(0, .p 0 0), (2, .p 102 0), (3, .p 103 0), (4, vI i7)], [(0, some (.box 89 [.d (lst dsI x4), vI x5])), (102, some (.box 25 [vI 0, .d (.c (.slice none 0 0)), vS ⟨#[]⟩, vI 0])), (103, some (.box 25 [vI (i64w (1 + y2.1)), .h 5001, vS ⟨#[]⟩, vI 0])), (5001, some (arrT 77 4 Rng.ds q6))]⟩) [(0, 0), (102, 102), (103, 103), (5001, 5001)] ⟨_, _, _, _, hm2, rfl⟩ ?_
    rintro κ _ ⟨x4, x5, q6, i7, hm2, rfl⟩
    cases κ with
    | zero => rw [Mwld_Tape_Query_l1.eq_1] at hm2; cases hm2
    | succ κ =>
     rw [Mwld_Tape_Query_l1.eq_2] at hm2
     refine sr ?_
     obtain ⟨mu3, hm3, hm2⟩ := obnd_o hm2
     refine wc_cut' (fun st => mu3 = Ctl.nxt () ∧ st = ⟨[(0, .p 0 0), (2, .p 102 0), (3, .p 103 0), (4, vI i7)], [(0, some (.box 89 [.d (lst dsI x4), vI x5])), (102, some (.box 25 [vI 0, .d (.c (.slice none 0 0)), vS ⟨#[]⟩, vI 0])), (103, some (.box 25 [vI (i64w (1 + y2.1)), .h 5001, vS ⟨#[]⟩, vI 0])), (5001, some (arrT 77 4 Rng.ds q6))]⟩) ?_ ?_
     ·refine wc_cs hm3 ?_ ?_ <;> clear hm3 <;> intro hm3
      ·refine sx ?_
       cases hm3
       exact wk_cutw [(0, 0), (102, 102), (103, 103), (5001, 5001)] ⟨rfl, rfl⟩
      refine wc_exit ?_
      refine ss ?_
      cases hm3
      replace hm2 := ocbnd_r hm2
      cases hm2
      exact wk_cutw [(0, 0), (102, 102), (103, 103)] ⟨_, _, _, rfl, rfl⟩
     rintro _ ⟨rfl, rfl⟩
     replace hm2 := ocbnd_n hm2
     refine ss ?_
     refine wc_seq ?_
     refine wc_block ?_
     refine wc_draw (id := 8) [⟨0, 0, [3]⟩, ⟨1, 1, [26]⟩, ⟨2, 0, [0]⟩, ⟨3, 4, [28]⟩, ⟨4, 12, [29]⟩, ⟨5, 31, [27, 30]⟩, ⟨6, 63, [3]⟩, ⟨7, 127, [31, 32]⟩] mixed (by kernel_rfl) ?_
     refine ss ?_
     obtain ⟨y8, hy, hm2⟩ := obnd_o hm2
     refine wd_io (Mwld_Tape_Proper_sp (hm := hy)) 0 rfl rfl rfl (by repeat (first | exact Vws.nil | apply Vws.cons | exact Vw.nil | exact Vw.d _ | exact Vw.q _ | exact Vw.p rfl | apply Vw.a)) rfl (Vb.box (by repeat (first | exact Vws.nil | apply Vws.cons | exact Vw.nil | exact Vw.d _ | exact Vw.q _ | exact Vw.p rfl | apply Vw.a))) rfl rfl rfl (by first | exact .no rfl | exact .y rfl rfl rfl rfl) rfl rfl rfl rfl ?_
     refine ss ?_
     refine wd_bt Rng.ds [y8.1] rfl rfl (by simp only [flatV, cellsV, List.cons_append, List.nil_append, List.append_nil]; exact rfl) rfl rfl rfl rfl (by first | exact .no rfl | exact .y rfl rfl rfl rfl) rfl rfl ?_
     refine ss ?_
     obtain ⟨l9, hy, hm2⟩ := obnd_o hm2
     refine wd_app (k' := 131) hy rfl rfl rfl rfl rfl rfl rfl rfl (by first | exact .no rfl | exact .y rfl rfl rfl rfl) rfl rfl rfl ?_
     refine sr ?_
     exact wk_loopw [(0, 0), (102, 102), (103, 103), (5001, 131)] ⟨_, _, _, _, hm2, rfl⟩ (Nat.lt_succ_self _)
   rintro _ ⟨q10, x11, x12, rfl, rfl⟩
   refine ss ?_
   cases hm1
   exact wk_cutw [(0, 0), (102, 102), (103, 103)] ⟨_, _, _, _, _, rfl, rfl⟩
  refine sr ?_
  refine wc_cs hm1 ?_ ?_ <;> clear hm1 <;> intro hm1
  ·refine sr ?_
   obtain ⟨y13, hy, hm1⟩ := obnd_o hm1
   refine wl_iq (Mwld_Tape_Key_sp (hm := hy)) 0 ?_
   refine ss ?_
   cases hm1
   exact wk_cutw [(0, 0), (102, 102), (103, 103)] ⟨_, _, _, _, _, rfl, rfl⟩
  refine sr ?_
  obtain ⟨y14, hy, hm1⟩ := obnd_o hm1
  refine wl_iq (Mwld_Tape_Key_sp (hm := hy)) 0 ?_
  refine ss ?_
  refine wl_bt dsI [1, 2, 3, 5, 1024] rfl rfl (by simp only [flatV, cellsV, List.cons_append, List.nil_append, List.append_nil]; exact rfl) rfl rfl rfl rfl rfl rfl ?_
  refine ss ?_
  obtain ⟨y15, hy, hm1⟩ := obnd_o hm1
  refine wl_iq (Mwld_Tape_Pick_sp (hm := hy)) 0 ?_
  refine ss ?_
  cases hm1
  exact wk_cutw [(0, 0), (102, 102), (103, 103)] ⟨_, _, _, _, _, rfl, rfl⟩
 rintro _ ⟨q16, q17, q18, x19, x20, rfl, rfl⟩
 refine sr ?_
 refine sx ?_
 cases hm
 exact wk_reti [(0, 0)] ⟨rfl, rfl⟩

theorem Mwld_Tape_Query_so1 {t1 : TTape} {y : (TQuery × TTape)} (hm : Mwld_Tape_Query t1 = some y) : Spec Tryz.prog 13 [.p 0 0] [(0, some (.box 89 [.d (lst dsI t1.l), vI t1.at_]))] fun u h => u = .a [vI y.1.Kind, .h 1, vS y.1.Key, vI y.1.Count] ∧ h = [(0, some (.box 89 [.d (lst dsI y.2.l), vI y.2.at_])), (1, some (arrT 77 4 Rng.ds y.1.Ranges))] := by
 refine si Tryz.func13 Tryz.ntmps13 Tryz.results13 fun B w0 ρ0 => ?_
 unfold Mwld_Tape_Query at hm
 refine sr ?_
 refine sr ?_
 obtain ⟨y2, hy, hm⟩ := obnd_o hm
 refine wl_iq (Mwld_Tape_Next_sp (hm := hy)) 0 ?_
 refine ss ?_
 refine wl_r (o_add rfl rfl rfl rfl) rfl rfl rfl ?_
 refine sr ?_
 obtain ⟨mu1, hm1, hm⟩ := obnd_o hm
 refine wc_cut' (fun st => ∃ (q16 : List Rng) (q17 : ByteArray) (q18 : Int) (x19 : List Int) (x20 : Int), mu1 = (q16, q17, q18, x19, x20) ∧ st = ⟨[(2, .p 102 0), (3, .p 103 0)], [(0, some (.box 89 [.d (lst dsI x19), vI x20])), (102, some (.box 25 [vI 0, .d (.c (.slice none 0 0)), vS ⟨#[]⟩, vI 0])), (103, some (.box 25 [vI (i64w (1 + y2.1)), .h 5003, vS q17, vI q18])), (5003, some (arrT 77 4 Rng.ds q16))]⟩) ?_ ?_
 ·refine sr ?_
  refine wc_cs hm1 ?_ ?_ <;> clear hm1 <;> intro hm1
  ·refine sr ?_
   obtain ⟨y3, hy, hm1⟩ := obnd_o hm1
   refine wl_iq (Mwld_Tape_Next_sp (hm := hy)) 0 ?_
   refine ss ?_
   obtain ⟨mu2, hm2, hm1⟩ := obnd_o hm1
   refine wc_cut' (fun st => ∃ (q10 : List Rng) (x11 : List Int) (x12 : Int), mu2 = (q10, x11, x12) ∧ st = ⟨[(2, .p 102 0), (3, .p 103 0)], [(0, some (.box 89 [.d (lst dsI x11), vI x12])), (102, some (.box 25 [vI 0, .d (.c (.slice none 0 0)), vS ⟨#[]⟩, vI 0])), (103, some (.box 25 [vI (i64w (1 + y2.1)), .h 5002, vS ⟨#[]⟩, vI 0])), (5002, some (arrT 77 4 Rng.ds q10))]⟩) ?_ ?_
   ·refine wc_block ?_
    refine wc_wk (wk_nilb 103 1 5001 77 4 rfl rfl rfl rfl) ?_
    refine wc_loopw (fun κ st => ∃ (x4 : List Int) (x5 : Int) (q6 : List Rng) (i7 : Int), Mwld_Tape_Query_l1 κ x4 x5 q6 i7 = some mu2 ∧ st = ⟨[(0, .p 0 0), (2, .p 102 0), (3, .p 103 0), (4, vI i7)], [(0, some (.box 89 [.d (lst dsI x4), vI x5])), (102, some (.box 25 [vI 0, .d (.c (.slice none 0 0)), vS ⟨#[]⟩, vI 0])), (103, some (.box 25 [vI (i64w (1 + y2.1)), .h 5001, vS ⟨#[]⟩, vI 0])), (5001, some (arrT 77 4 Rng.ds q6))]⟩) [(0, 0), (102, 102), (103, 103), (5001, 5001)] ⟨_, _, _, _, hm2, rfl⟩ ?_
    rintro κ _ ⟨x4, x5, q6, i7, hm2, rfl⟩
    cases κ with
    | zero => rw [Mwld_Tape_Query_l1.eq_1] at hm2; cases hm2
    | succ κ =>
     rw [Mwld_Tape_Query_l1.eq_2] at hm2
     refine sr ?_
     obtain ⟨mu3, hm3, hm2⟩ := obnd_o hm2
     refine wc_cut' (fun st => mu3 = Ctl.nxt () ∧ st = ⟨[(0, .p 0 0), (2, .p 102 0), (3, .p 103 0), (4, vI i7)], [(0, some (.box 89 [.d (lst dsI x4), vI x5])), (102, some (.box 25 [vI 0, .d (.c (.slice none 0 0)), vS ⟨#[]⟩, vI 0])), (103, some (.box 25 [vI (i64w (1 + y2.1)), .h 5001, vS ⟨#[]⟩, vI 0])), (5001, some (arrT 77 4 Rng.ds q6))]⟩) ?_ ?_
     ·refine wc_cs hm3 ?_ ?_ <;> clear hm3 <;> intro hm3
      ·refine sx ?_
       cases hm3
       exact wk_cutw [(0, 0), (102, 102), (103, 103), (5001, 5001)] ⟨rfl, rfl⟩
      refine wc_exit ?_
      refine ss ?_
      cases hm3
      replace hm2 := ocbnd_r hm2
      cases hm2
      exact wk_cutw [(0, 0), (102, 102), (103, 103), (5002, 5001)] ⟨_, _, _, rfl, rfl⟩
     rintro _ ⟨rfl, rfl⟩
     replace hm2 := ocbnd_n hm2
     refine ss ?_
     refine wc_seq ?_
     refine wc_block ?_
     refine wc_draw (id := 8) [⟨0, 0, [3]⟩, ⟨1, 1, [26]⟩, ⟨2, 0, [0]⟩, ⟨3, 4, [28]⟩, ⟨4, 12, [29]⟩, ⟨5, 31, [27, 30]⟩, ⟨6, 63, [3]⟩, ⟨7, 127, [31, 32]⟩] mixed (by kernel_rfl) ?_
     refine ss ?_
     obtain ⟨y8, hy, hm2⟩ := obnd_o hm2
     refine wd_io (Mwld_Tape_Proper_sp (hm := hy)) 0 rfl rfl rfl (by repeat (first | exact Vws.nil | apply Vws.cons | exact Vw.nil | exact Vw.d _ | exact Vw.q _ | exact Vw.p rfl | apply Vw.a)) rfl (Vb.box (by repeat (first | exact Vws.nil | apply Vws.cons | exact Vw.nil | exact Vw.d _ | exact Vw.q _ | exact Vw.p rfl | apply Vw.a))) rfl rfl rfl (by first | exact .no rfl | exact .y rfl rfl rfl rfl) rfl rfl rfl rfl ?_
     refine ss ?_
     refine wd_bt Rng.ds [y8.1] rfl rfl (by simp only [flatV, cellsV, List.cons_append, List.nil_append, List.append_nil]; exact rfl) rfl rfl rfl rfl (by first | exact .no rfl | exact .y rfl rfl rfl rfl) rfl rfl ?_
     refine ss ?_
     obtain ⟨l9, hy, hm2⟩ := obnd_o hm2
     refine wd_app (k' := 131) hy rfl rfl rfl rfl rfl rfl rfl rfl (by first | exact .no rfl | exact .y rfl rfl rfl rfl) rfl rfl rfl ?_
     refine sr ?_
     exact wk_loopw [(0, 0), (102, 102), (103, 103), (5001, 131)] ⟨_, _, _, _, hm2, rfl⟩ (Nat.lt_succ_self _)
   rintro _ ⟨q10, x11, x12, rfl, rfl⟩
   refine ss ?_
   cases hm1
   exact wk_cutw [(0, 0), (102, 102), (103, 103), (5003, 5002)] ⟨_, _, _, _, _, rfl, rfl⟩
  refine sr ?_
  refine wc_cs hm1 ?_ ?_ <;> clear hm1 <;> intro hm1
  ·refine sr ?_
   obtain ⟨y13, hy, hm1⟩ := obnd_o hm1
   refine wl_iq (Mwld_Tape_Key_sp (hm := hy)) 0 ?_
   refine ss ?_
   cases hm1
   refine WK.of_wk (wk_nilb 103 1 5003 77 4 rfl rfl rfl rfl) ?_
   exact wk_cutw [(0, 0), (102, 102), (103, 103), (5003, 5003)] ⟨_, _, _, _, _, rfl, rfl⟩
  refine sr ?_
  obtain ⟨y14, hy, hm1⟩ := obnd_o hm1
  refine wl_iq (Mwld_Tape_Key_sp (hm := hy)) 0 ?_
  refine ss ?_
  refine wl_bt dsI [1, 2, 3, 5, 1024] rfl rfl (by simp only [flatV, cellsV, List.cons_append, List.nil_append, List.append_nil]; exact rfl) rfl rfl rfl rfl rfl rfl ?_
  refine ss ?_
  obtain ⟨y15, hy, hm1⟩ := obnd_o hm1
  refine wl_iq (Mwld_Tape_Pick_sp (hm := hy)) 0 ?_
  refine ss ?_
  cases hm1
  refine WK.of_wk (wk_nilb 103 1 5003 77 4 rfl rfl rfl rfl) ?_
  exact wk_cutw [(0, 0), (102, 102), (103, 103), (5003, 5003)] ⟨_, _, _, _, _, rfl, rfl⟩
 rintro _ ⟨q16, q17, q18, x19, x20, rfl, rfl⟩
 refine sr ?_
 refine sx ?_
 cases hm
 exact wk_reti [(0, 0), (1, 5003)] ⟨rfl, rfl⟩
def Mwld_Tape_OddQuery_l1 (y9 : (Int × TTape)) : Nat → List Rng → Option (List Rng)
  | 0, _ => none
  | fuel + 1, q10 =>
  sel (decide ((q10.length : Int) < y9.1)) (
   obnd (app q10 ([(Rng.mk (Bnd.mk ⟨#[]⟩ false) (Bnd.mk ⟨#[]⟩ false))] : List Rng)) fun l11 =>
   Mwld_Tape_OddQuery_l1 y9 fuel l11) (
   some q10)
def Mwld_Tape_OddQuery (t1 : TTape) : Option (TQuery × TTape) :=
 obnd (Mwld_Tape_Query t1) fun y2 =>
 obnd (Mwld_Tape_Next y2.2 6) fun y3 =>
 obnd (
  sel (decide (y3.1 = 0)) (
   obnd (Mwld_Tape_Pick y3.2 ([0, 5, (-1), 1, 2, 3, 4] : List Int)) fun y4 =>
   some (y4.1, y2.1.Ranges, y2.1.Key, y2.1.Count, y4.2.l, y4.2.at_)) (
   sel (decide (y3.1 = 1)) (
    obnd (Mwld_Tape_OddKey y3.2) fun y5 =>
    some (y2.1.Kind, y2.1.Ranges, y5.1, y2.1.Count, y5.2.l, y5.2.at_)) (
    sel (decide (y3.1 = 2)) (
     obnd (Mwld_Tape_Pick y3.2 ([0, (-1), 1024, 1025, 1] : List Int)) fun y6 =>
     some (y2.1.Kind, y2.1.Ranges, y2.1.Key, y6.1, y6.2.l, y6.2.at_)) (
     sel (decide (y3.1 = 3)) (
      obnd (Mwld_Tape_Range y3.2) fun y7 =>
      obnd (app y2.1.Ranges ([y7.1] : List Rng)) fun l8 =>
      some (y2.1.Kind, l8, y2.1.Key, y2.1.Count, y7.2.l, y7.2.at_)) (
      sel (decide (y3.1 = 4)) (
       obnd (Mwld_Tape_Pick y3.2 ([64, 65] : List Int)) fun y9 =>
       obnd (
        Mwld_Tape_OddQuery_l1 y9 FU y2.1.Ranges : Option (List Rng)) fun q12 =>
       some (y2.1.Kind, q12, y2.1.Key, y2.1.Count, y9.2.l, y9.2.at_)) (
       some (y2.1.Kind, y2.1.Ranges, y2.1.Key, y2.1.Count, y3.2.l, y3.2.at_)))))) : Option (Int × List Rng × ByteArray × Int × List Int × Int)) fun (q13, q14, q15, q16, x17, x18) =>
 some ((TQuery.mk q13 q14 q15 q16), (TTape.mk x17 x18))
theorem Mwld_Tape_OddQuery_sp {t1 : TTape} {y : (TQuery × TTape)} (hm : Mwld_Tape_OddQuery t1 = some y) : Spec Tryz.prog 16 [.p 0 0] [(0, some (.box 89 [.d (lst dsI t1.l), vI t1.at_]))] fun u h => u = .a [vI y.1.Kind, .d (lst Rng.ds y.1.Ranges), vS y.1.Key, vI y.1.Count] ∧ h = [(0, some (.box 89 [.d (lst dsI y.2.l), vI y.2.at_]))] := by
 refine si Tryz.func16 Tryz.ntmps16 Tryz.results16 fun B w0 ρ0 => ?_
 unfold Mwld_Tape_OddQuery at hm
 refine sr ?_
 refine sr ?_
 obtain ⟨y2, hy, hm⟩ := obnd_o hm
 refine wl_gen (u' := .a [vI y2.1.Kind, .h 200601, vS y2.1.Key, vI y2.1.Count]) (h' := [(0, some (.box 89 [.d (lst dsI y2.2.l), vI y2.2.at_])), (200601, some (arrT 77 4 Rng.ds y2.1.Ranges))]) (Mwld_Tape_Query_so1 (hm := hy)) 0 200600 rfl rfl rfl (by repeat (first | exact Vws.nil | apply Vws.cons | exact Vw.nil | exact Vw.d _ | exact Vw.q _ | exact Vw.p rfl | apply Vw.a)) rfl (Vb.box (by repeat (first | exact Vws.nil | apply Vws.cons | exact Vw.nil | exact Vw.d _ | exact Vw.q _ | exact Vw.p rfl | apply Vw.a))) rfl (by (try simp only [renH, Option.map_some, Blk.ren, rens_d]); rfl) rfl rfl rfl rfl ?_
 refine sr ?_
 obtain ⟨y3, hy, hm⟩ := obnd_o hm
 refine wl_iq (Mwld_Tape_Next_sp (hm := hy)) 0 ?_
 refine ss ?_
 obtain ⟨mu1, hm1, hm⟩ := obnd_o hm
 refine wc_cut' (fun st => ∃ (q13 : Int) (q14 : List Rng) (q15 : ByteArray) (q16 : Int) (x17 : List Int) (x18 : Int), mu1 = (q13, q14, q15, q16, x17, x18) ∧ st = ⟨[(2, .p 102 0), (3, .p 103 0)], [(0, some (.box 89 [.d (lst dsI x17), vI x18])), (102, some (.box 25 [vI 0, .d (.c (.slice none 0 0)), vS ⟨#[]⟩, vI 0])), (103, some (.box 25 [vI q13, .d (lst Rng.ds q14), vS q15, vI q16]))]⟩) ?_ ?_
 ·refine sr ?_
  refine wc_cs hm1 ?_ ?_ <;> clear hm1 <;> intro hm1
  ·refine sr ?_
   refine wl_bt dsI [0, 5, (-1), 1, 2, 3, 4] rfl rfl (by simp only [flatV, cellsV, List.cons_append, List.nil_append, List.append_nil]; exact rfl) rfl rfl rfl rfl rfl rfl ?_
   refine ss ?_
   obtain ⟨y4, hy, hm1⟩ := obnd_o hm1
   refine wl_iq (Mwld_Tape_Pick_sp (hm := hy)) 0 ?_
   refine ss ?_
   cases hm1
   exact wk_cutw [(0, 0), (102, 102), (103, 103)] ⟨_, _, _, _, _, _, rfl, rfl⟩
  refine sr ?_
  refine wc_cs hm1 ?_ ?_ <;> clear hm1 <;> intro hm1
  ·refine sr ?_
   obtain ⟨y5, hy, hm1⟩ := obnd_o hm1
   refine wl_iq (Mwld_Tape_OddKey_sp (hm := hy)) 0 ?_
   refine ss ?_
   cases hm1
   exact wk_cutw [(0, 0), (102, 102), (103, 103)] ⟨_, _, _, _, _, _, rfl, rfl⟩
  refine sr ?_
  refine wc_cs hm1 ?_ ?_ <;> clear hm1 <;> intro hm1
  ·refine sr ?_
   refine wl_bt dsI [0, (-1), 1024, 1025, 1] rfl rfl (by simp only [flatV, cellsV, List.cons_append, List.nil_append, List.append_nil]; exact rfl) rfl rfl rfl rfl rfl rfl ?_
   refine ss ?_
   obtain ⟨y6, hy, hm1⟩ := obnd_o hm1
   refine wl_iq (Mwld_Tape_Pick_sp (hm := hy)) 0 ?_
   refine ss ?_
   cases hm1
   exact wk_cutw [(0, 0), (102, 102), (103, 103)] ⟨_, _, _, _, _, _, rfl, rfl⟩
  refine sr ?_
  refine wc_cs hm1 ?_ ?_ <;> clear hm1 <;> intro hm1
  ·refine wc_draw (id := 10) [⟨0, 0, [3]⟩, ⟨1, 1, [28]⟩, ⟨2, 0, [0]⟩, ⟨3, 4, [30]⟩, ⟨4, 12, [31]⟩, ⟨5, 31, [29, 32]⟩, ⟨6, 63, [3]⟩, ⟨7, 127, [33, 34]⟩] mixed (by kernel_rfl) ?_
   refine ss ?_
   obtain ⟨y7, hy, hm1⟩ := obnd_o hm1
   refine wd_io (Mwld_Tape_Range_sp (hm := hy)) 0 rfl rfl rfl (by repeat (first | exact Vws.nil | apply Vws.cons | exact Vw.nil | exact Vw.d _ | exact Vw.q _ | exact Vw.p rfl | apply Vw.a)) rfl (Vb.box (by repeat (first | exact Vws.nil | apply Vws.cons | exact Vw.nil | exact Vw.d _ | exact Vw.q _ | exact Vw.p rfl | apply Vw.a))) rfl rfl rfl (by first | exact .no rfl | exact .y rfl rfl rfl rfl) rfl rfl rfl rfl ?_
   refine ss ?_
   refine wd_bt Rng.ds [y7.1] rfl rfl (by simp only [flatV, cellsV, List.cons_append, List.nil_append, List.append_nil]; exact rfl) rfl rfl rfl rfl (by first | exact .no rfl | exact .y rfl rfl rfl rfl) rfl rfl ?_
   refine ss ?_
   obtain ⟨l8, hy, hm1⟩ := obnd_o hm1
   refine wd_app (k' := 133) hy rfl rfl rfl rfl rfl rfl rfl rfl (by first | exact .no rfl | exact .y rfl rfl rfl rfl) rfl rfl rfl ?_
   refine ss ?_
   cases hm1
   exact wk_cutw [(0, 0), (102, 102), (103, 103)] ⟨_, _, _, _, _, _, rfl, rfl⟩
  refine sr ?_
  refine wc_cs hm1 ?_ ?_ <;> clear hm1 <;> intro hm1
  ·refine sr ?_
   refine wl_bt dsI [64, 65] rfl rfl (by simp only [flatV, cellsV, List.cons_append, List.nil_append, List.append_nil]; exact rfl) rfl rfl rfl rfl rfl rfl ?_
   refine ss ?_
   obtain ⟨y9, hy, hm1⟩ := obnd_o hm1
   refine wl_iq (Mwld_Tape_Pick_sp (hm := hy)) 0 ?_
   refine ss ?_
   obtain ⟨mu2, hm2, hm1⟩ := obnd_o hm1
   refine wc_cut' (fun st => ∃ (q12 : List Rng), q12 = mu2 ∧ st = ⟨[(2, .p 102 0), (3, .p 103 0)], [(0, some (.box 89 [.d (lst dsI y9.2.l), vI y9.2.at_])), (102, some (.box 25 [vI 0, .d (.c (.slice none 0 0)), vS ⟨#[]⟩, vI 0])), (103, some (.box 25 [vI y2.1.Kind, .d (lst Rng.ds q12), vS y2.1.Key, vI y2.1.Count]))]⟩) ?_ ?_
   ·refine wc_block ?_
    refine wc_loopw (fun κ st => ∃ (q10 : List Rng), Mwld_Tape_OddQuery_l1 y9 κ q10 = some mu2 ∧ st = ⟨[(2, .p 102 0), (3, .p 103 0), (4, vI y9.1)], [(0, some (.box 89 [.d (lst dsI y9.2.l), vI y9.2.at_])), (102, some (.box 25 [vI 0, .d (.c (.slice none 0 0)), vS ⟨#[]⟩, vI 0])), (103, some (.box 25 [vI y2.1.Kind, .h 5001, vS y2.1.Key, vI y2.1.Count])), (5001, some (arrT 77 4 Rng.ds q10))]⟩) [(0, 0), (102, 102), (103, 103), (5001, 200601)] ⟨_, hm2, rfl⟩ ?_
    rintro κ _ ⟨q10, hm2, rfl⟩
    cases κ with
    | zero => rw [Mwld_Tape_OddQuery_l1.eq_1] at hm2; cases hm2
    | succ κ =>
     rw [Mwld_Tape_OddQuery_l1.eq_2] at hm2
     refine sr ?_
     refine wc_cs hm2 ?_ ?_ <;> clear hm2 <;> intro hm2
     ·refine sx ?_
      refine sr ?_
      refine wl_bt Rng.ds [(Rng.mk (Bnd.mk ⟨#[]⟩ false) (Bnd.mk ⟨#[]⟩ false))] rfl rfl (by simp only [flatV, cellsV, List.cons_append, List.nil_append, List.append_nil]; exact rfl) rfl rfl rfl rfl rfl rfl ?_
      refine ss ?_
      obtain ⟨l11, hy, hm2⟩ := obnd_o hm2
      refine wl_2 (n_app (k' := 149) hy rfl rfl rfl rfl rfl rfl rfl rfl) rfl rfl rfl rfl ?_
      refine ss ?_
      exact wk_loopw [(0, 0), (102, 102), (103, 103), (5001, 149)] ⟨_, hm2, rfl⟩ (Nat.lt_succ_self _)
     refine wc_exit ?_
     refine ss ?_
     cases hm2
     exact wk_cutw [(0, 0), (102, 102), (103, 103)] ⟨_, rfl, rfl⟩
   rintro _ ⟨q12, rfl, rfl⟩
   refine ss ?_
   cases hm1
   exact wk_cutw [(0, 0), (102, 102), (103, 103)] ⟨_, _, _, _, _, _, rfl, rfl⟩
  refine sx ?_
  cases hm1
  exact wk_cutw [(0, 0), (102, 102), (103, 103)] ⟨_, _, _, _, _, _, rfl, rfl⟩
 rintro _ ⟨q13, q14, q15, q16, x17, x18, rfl, rfl⟩
 refine sr ?_
 refine sx ?_
 cases hm
 exact wk_reti [(0, 0)] ⟨rfl, rfl⟩

def Mref20_Slice_l1 (r2 : Rng) : List Kv → List Kv → Option (List Kv)
  | [], out3 =>
  some out3
  | r4 :: xs5, out3 =>
  bnd (Mref1_Contains r2 r4.key) fun y7 =>
  sel y7 (
   obnd (app out3 ([r4] : List Kv)) fun l8 =>
   Mref20_Slice_l1 r2 xs5 l8) (
   Mref20_Slice_l1 r2 xs5 out3)
def Mref20_Slice (t1 : List Kv) (r2 : Rng) : Option (List Kv) :=
 obnd (
  Mref20_Slice_l1 r2 t1 [] : Option (List Kv)) fun out9 =>
 some out9
theorem Mref20_Slice_sp {t1 : List Kv} {r2 : Rng} {y : List Kv} (hm : Mref20_Slice t1 r2 = some y) : Spec Tryz.prog 44 [.d (lst Kv.ds t1), .a [vS r2.lo.key, vB r2.lo.top, vS r2.hi.key, vB r2.hi.top]] [] fun u h => u = .d (lst Kv.ds y) ∧ h = [] := by
 refine si Tryz.func44 Tryz.ntmps44 Tryz.results44 fun B w0 ρ0 => ?_
 unfold Mref20_Slice at hm
 refine sr ?_
 refine sr ?_
 refine sr ?_
 obtain ⟨mu1, hm1, hm⟩ := obnd_o hm
 refine wc_cut' (fun st => ∃ (out9 : List Kv), out9 = mu1 ∧ st = ⟨[(5, .d (lst Kv.ds out9))], []⟩) ?_ ?_
 ·refine wc_block ?_
  refine wc_wk (wk_nil 5 5001 81 2 rfl rfl) ?_
  refine wc_len 8 rfl (fun hlenm6 => ?_)
  refine wc_loopw (fun κ st => ∃ (m6 : Nat) (out3 : List Kv), κ = t1.length - m6 ∧ m6 ≤ t1.length ∧ Mref20_Slice_l1 r2 (t1.drop m6) out3 = some mu1 ∧ st = ⟨[(3, .p 103 0), (5, .h 5001), (8, .d (lst Kv.ds t1)), (9, vI (t1.length : Int)), (10, vI (m6 : Int))], [(103, some (.box 77 [vS r2.lo.key, vB r2.lo.top, vS r2.hi.key, vB r2.hi.top])), (5001, some (arrT 81 2 Kv.ds out3))]⟩) [(103, 103), (5001, 5001)] ⟨0, _, rfl, Nat.zero_le _, hm1, rfl⟩ ?_
  rintro κ _ ⟨m6, out3, rfl, hlem6, hm1, rfl⟩
  rcases Nat.lt_or_ge m6 t1.length with hltm6 | hgem6
  ·obtain ⟨r4, hxm6, hdr⟩ := drop_c hltm6
   rw [hdr, Mref20_Slice_l1.eq_2] at hm1
   refine sr ?_
   refine wc_seq ?_
   refine wc_cond_tt (lt_t hltm6) rfl ?_
   refine sx ?_
   refine sr ?_
   refine wl_r (o_ixm (ys := [dS r4.key, dS r4.val]) hxm6 rfl rfl rfl rfl) rfl rfl rfl ?_
   refine sr ?_
   obtain ⟨y7, hy, hm1⟩ := bnd_o hm1
   refine wl_cq (Mref1_Contains_sp (hm := hy)) ?_
   refine ss ?_
   refine wc_cs hm1 ?_ ?_ <;> clear hm1 <;> intro hm1
   ·refine sr ?_
    refine wl_bt Kv.ds [r4] rfl rfl (by simp only [flatV, cellsV, List.cons_append, List.nil_append, List.append_nil]; exact rfl) rfl rfl rfl rfl rfl rfl ?_
    refine ss ?_
    obtain ⟨l8, hy, hm1⟩ := obnd_o hm1
    refine wl_2 (n_app (k' := 121) hy rfl rfl rfl rfl rfl rfl rfl rfl) rfl rfl rfl rfl ?_
    refine sr ?_
    refine wl_r (o_inc hltm6 hlenm6 rfl rfl rfl) rfl rfl rfl ?_
    refine ss ?_
    exact wk_loopw [(103, 103), (5001, 121)] ⟨m6 + 1, _, rfl, hltm6, hm1, rfl⟩ (by omega)
   refine sx ?_
   refine sr ?_
   refine wl_r (o_inc hltm6 hlenm6 rfl rfl rfl) rfl rfl rfl ?_
   refine ss ?_
   exact wk_loopw [(103, 103), (5001, 5001)] ⟨m6 + 1, _, rfl, hltm6, hm1, rfl⟩ (by omega)
  ·rw [drop_n hgem6, Mref20_Slice_l1.eq_1] at hm1
   refine sr ?_
   refine wc_seq ?_
   refine wc_cond_ff (lt_f hgem6) rfl ?_
   refine wc_exit ?_
   refine ss ?_
   cases hm1
   exact wk_cutw [] ⟨_, rfl, rfl⟩
 rintro _ ⟨out9, rfl, rfl⟩
 refine sr ?_
 refine sx ?_
 cases hm
 exact wk_r


theorem Mref20_Same_sp {a1 : List Kv} {b2 : List Kv} {y : Bool} (hm : Mref20_Same a1 b2 = some y) : Spec Tryz.prog 27 [.d (lst Kv.ds a1), .d (lst Kv.ds b2)] [] fun u h => u = vB y ∧ h = [] := by
 refine si Tryz.func27 Tryz.ntmps27 Tryz.results27 fun B w0 ρ0 => ?_
 unfold Mref20_Same at hm
 refine sr ?_
 refine sr ?_
 refine wc_cs hm ?_ ?_ <;> clear hm <;> intro hm
 ·refine sr ?_
  refine sx ?_
  cases hm
  exact wk_r
 refine sx ?_
 refine sr ?_
 obtain ⟨mu1, hm1, hm⟩ := obnd_o hm
 refine wc_cut' (fun st => mu1 = Ctl.nxt () ∧ st = ⟨[], []⟩) ?_ ?_
 ·refine wc_block ?_
  refine wc_len 0 rfl (fun hlenm5 => ?_)
  refine wc_loopw (fun κ st => ∃ (m5 : Nat) , κ = a1.length - m5 ∧ m5 ≤ a1.length ∧ Mref20_Same_l1 a1 b2 (a1.drop m5) (m5 : Int) = some mu1 ∧ st = ⟨[(0, .d (lst Kv.ds a1)), (1, .d (lst Kv.ds b2)), (12, vI (a1.length : Int)), (13, vI (m5 : Int))], []⟩) [] ⟨0, rfl, Nat.zero_le _, hm1, rfl⟩ ?_
  rintro κ _ ⟨m5, rfl, hlem5, hm1, rfl⟩
  rcases Nat.lt_or_ge m5 a1.length with hltm5 | hgem5
  ·obtain ⟨r3, hxm5, hdr⟩ := drop_c hltm5
   rw [hdr, Mref20_Same_l1.eq_2] at hm1
   refine sr ?_
   refine wc_seq ?_
   refine wc_cond_tt (lt_t hltm5) rfl ?_
   refine sx ?_
   refine sr ?_
   refine wc_seq ?_
   refine wc_draw (id := 6) [⟨0, 0, [0]⟩, ⟨1, 0, [5]⟩, ⟨2, 3, [16, 17]⟩, ⟨3, 7, [18]⟩, ⟨4, 0, [1]⟩, ⟨5, 0, [5]⟩, ⟨6, 48, [20, 21]⟩, ⟨7, 112, [22]⟩, ⟨8, 255, [19, 23]⟩] mixed (by kernel_rfl) ?_
   refine ss ?_
   obtain ⟨e6, hy, hm1⟩ := obnd_o hm1
   refine wd_r [] (o_ixg (ys := [dS e6.key, dS e6.val]) hy rfl rfl rfl rfl) rfl (by first | exact .no rfl | exact .y rfl rfl rfl rfl) rfl rfl ?_
   refine ss ?_
   obtain ⟨e7, hy, hm1⟩ := obnd_o hm1
   refine wd_r [] (o_ixg (ys := [dS e7.key, dS e7.val]) hy rfl rfl rfl rfl) rfl (by first | exact .no rfl | exact .y rfl rfl rfl rfl) rfl rfl ?_
   refine ss ?_
   refine wc_cs hm1 ?_ ?_ <;> clear hm1 <;> intro hm1
   ·refine sr ?_
    refine sx ?_
    cases hm1
    replace hm := ocbnd_r hm
    cases hm
    exact wk_r
   refine sx ?_
   refine sr ?_
   refine wl_r (o_inc hltm5 hlenm5 rfl rfl rfl) rfl rfl rfl ?_
   refine ss ?_
   exact wk_loopw [] ⟨m5 + 1, rfl, hltm5, hm1, rfl⟩ (by omega)
  ·rw [drop_n hgem5, Mref20_Same_l1.eq_1] at hm1
   refine sr ?_
   refine wc_seq ?_
   refine wc_cond_ff (lt_f hgem5) rfl ?_
   refine wc_exit ?_
   refine ss ?_
   cases hm1
   exact wk_cutw [] ⟨rfl, rfl⟩
 rintro _ ⟨rfl, rfl⟩
 replace hm := ocbnd_n hm
 refine sr ?_
 refine sx ?_
 cases hm
 exact wk_r

end Go.Proofs.YtohpjdeohpamaaaGreatDoor
namespace Go.Proofs.YtohpjdeohpamaaaGreatDoor
open Go.RowKit
set_option maxRecDepth 100000
set_option maxHeartbeats 4000000
attribute [local irreducible] WK WC WL Wk Rel OpD OpV WD WO sel bnd obnd app lget lsl sget ssl scat letg iquo irem Op.bytesLess
theorem Mref21_Number_sp {value1 : ByteArray} {y : (Int × Bool)} (hm : Mref21_Number value1 = some y) : Spec Tryz.prog 121 [vS value1] [] fun u h => u = .t [vI y.1, vB y.2] ∧ h = [] := by
 refine si Tryz.func121 Tryz.ntmps121 Tryz.results121 fun B w0 ρ0 => ?_
 unfold Mref21_Number at hm
 refine sr ?_
 refine sr ?_
 refine wc_seq ?_
 refine wc_seq ?_
 obtain ⟨mu1, hm1, hm⟩ := obnd_o hm
 refine wc_cut' (fun st => ∃ (x3 : Bool), x3 = mu1 ∧ st = ⟨[(4, vS value1), (5, vB false), (16, vB x3)], []⟩) ?_ ?_
 ·refine sr ?_
  refine wl_sg hm1 ?_ ?_ <;> clear hm1 <;> intro hm1
  ·refine ss ?_
   obtain ⟨b2, hy, hm1⟩ := obnd_o hm1
   refine wl_r (o_sget hy rfl rfl rfl (by kernel_rfl)) rfl rfl rfl ?_
   refine ss ?_
   cases hm1
   exact wk_cutw [] ⟨_, rfl, rfl⟩
  refine ss ?_
  cases hm1
  exact wk_cutw [] ⟨_, rfl, rfl⟩
 rintro _ ⟨x3, rfl, rfl⟩
 refine ss ?_
 obtain ⟨mu1, hm1, hm⟩ := obnd_o hm
 refine wc_cut' (fun st => ∃ (s5 : ByteArray) (neg6 : Bool), mu1 = (s5, neg6) ∧ st = ⟨[(4, vS s5), (5, vB neg6)], []⟩) ?_ ?_
 ·refine wc_cs hm1 ?_ ?_ <;> clear hm1 <;> intro hm1
  ·refine sr ?_
   obtain ⟨s4, hy, hm1⟩ := obnd_o hm1
   refine wl_r (o_ssl hy rfl rfl (by kernel_rfl) rfl rfl) rfl rfl rfl ?_
   refine ss ?_
   cases hm1
   exact wk_cutw [] ⟨_, _, rfl, rfl⟩
  refine sx ?_
  cases hm1
  exact wk_cutw [] ⟨_, _, rfl, rfl⟩
 rintro _ ⟨s5, neg6, rfl, rfl⟩
 refine ss ?_
 refine wc_seq ?_
 refine wc_seq ?_
 obtain ⟨mu1, hm1, hm⟩ := obnd_o hm
 refine wc_cut' (fun st => ∃ (x8 : Bool), x8 = mu1 ∧ st = ⟨[(4, vS s5), (5, vB neg6), (39, vB x8)], []⟩) ?_ ?_
 ·refine sr ?_
  refine wl_sg hm1 ?_ ?_ <;> clear hm1 <;> intro hm1
  ·refine ss ?_
   cases hm1
   exact wk_cutw [] ⟨_, rfl, rfl⟩
  refine ss ?_
  refine wl_sg hm1 ?_ ?_ <;> clear hm1 <;> intro hm1
  ·refine ss ?_
   cases hm1
   exact wk_cutw [] ⟨_, rfl, rfl⟩
  refine ss ?_
  obtain ⟨b7, hy, hm1⟩ := obnd_o hm1
  refine wl_r (o_sget hy rfl rfl rfl (by kernel_rfl)) rfl rfl rfl ?_
  refine ss ?_
  refine wl_sg hm1 ?_ ?_ <;> clear hm1 <;> intro hm1
  ·refine ss ?_
   refine wl_sg hm1 ?_ ?_ <;> clear hm1 <;> intro hm1
   ·refine ss ?_
    cases hm1
    exact wk_cutw [] ⟨_, rfl, rfl⟩
   refine ss ?_
   cases hm1
   exact wk_cutw [] ⟨_, rfl, rfl⟩
  refine ss ?_
  cases hm1
  exact wk_cutw [] ⟨_, rfl, rfl⟩
 rintro _ ⟨x8, rfl, rfl⟩
 refine ss ?_
 refine wc_cs hm ?_ ?_ <;> clear hm <;> intro hm
 ·refine sr ?_
  refine sx ?_
  cases hm
  exact wk_r
 refine sx ?_
 refine sr ?_
 refine sr ?_
 obtain ⟨mu1, hm1, hm⟩ := obnd_o hm
 refine wc_cut' (fun st => ∃ (n15 : Int), mu1 = Ctl.nxt n15 ∧ st = ⟨[(5, vB neg6), (6, vI n15)], []⟩) ?_ ?_
 ·refine wc_block ?_
  refine wc_loopw (fun κ st => ∃ (n9 : Int) (i10 : Int), Mref21_Number_l1 s5 κ n9 i10 = some mu1 ∧ st = ⟨[(4, vS s5), (5, vB neg6), (6, vI n9), (7, vI i10)], []⟩) [] ⟨_, _, hm1, rfl⟩ ?_
  rintro κ _ ⟨n9, i10, hm1, rfl⟩
  cases κ with
  | zero => rw [Mref21_Number_l1.eq_1] at hm1; cases hm1
  | succ κ =>
   rw [Mref21_Number_l1.eq_2] at hm1
   refine sr ?_
   obtain ⟨mu2, hm2, hm1⟩ := obnd_o hm1
   refine wc_cut' (fun st => mu2 = Ctl.nxt () ∧ st = ⟨[(4, vS s5), (5, vB neg6), (6, vI n9), (7, vI i10)], []⟩) ?_ ?_
   ·refine wc_cs hm2 ?_ ?_ <;> clear hm2 <;> intro hm2
    ·refine sx ?_
     cases hm2
     exact wk_cutw [] ⟨rfl, rfl⟩
    refine wc_exit ?_
    refine ss ?_
    cases hm2
    replace hm1 := ocbnd_r hm1
    cases hm1
    exact wk_cutw [] ⟨_, rfl, rfl⟩
   rintro _ ⟨rfl, rfl⟩
   replace hm1 := ocbnd_n hm1
   refine ss ?_
   refine wc_seq ?_
   refine wc_block ?_
   refine wc_seq ?_
   refine wc_seq ?_
   obtain ⟨mu2, hm2, hm1⟩ := obnd_o hm1
   refine wc_cut' (fun st => ∃ (x13 : Bool), x13 = mu2 ∧ st = ⟨[(4, vS s5), (5, vB neg6), (6, vI n9), (7, vI i10), (55, vB x13)], []⟩) ?_ ?_
   ·refine sr ?_
    obtain ⟨b11, hy, hm2⟩ := obnd_o hm2
    refine wl_r (o_sget hy rfl rfl rfl (by kernel_rfl)) rfl rfl rfl ?_
    refine ss ?_
    refine wl_sg hm2 ?_ ?_ <;> clear hm2 <;> intro hm2
    ·refine ss ?_
     cases hm2
     exact wk_cutw [] ⟨_, rfl, rfl⟩
    refine ss ?_
    obtain ⟨b12, hy, hm2⟩ := obnd_o hm2
    refine wl_r (o_sget hy rfl rfl rfl (by kernel_rfl)) rfl rfl rfl ?_
    refine ss ?_
    cases hm2
    exact wk_cutw [] ⟨_, rfl, rfl⟩
   rintro _ ⟨x13, rfl, rfl⟩
   refine ss ?_
   refine wc_cs hm1 ?_ ?_ <;> clear hm1 <;> intro hm1
   ·refine sr ?_
    refine sx ?_
    cases hm1
    replace hm := ocbnd_r hm
    cases hm
    exact wk_r
   refine sx ?_
   refine sr ?_
   obtain ⟨b14, hy, hm1⟩ := obnd_o hm1
   refine wl_r (o_sget hy rfl rfl rfl (by kernel_rfl)) rfl rfl rfl ?_
   refine ss ?_
   refine wl_r (o_cvi (k1 := .u8) (k2 := .i64) rfl rfl (by kernel_rfl) (by kernel_rfl) rfl) rfl rfl rfl ?_
   refine ss ?_
   refine wl_r (o_add rfl rfl rfl rfl) rfl rfl rfl ?_
   refine sr ?_
   refine wl_r (o_add rfl rfl rfl rfl) rfl rfl rfl ?_
   refine ss ?_
   exact wk_loopw [] ⟨_, _, hm1, rfl⟩ (Nat.lt_succ_self _)
 rintro _ ⟨n15, rfl, rfl⟩
 replace hm := ocbnd_n hm
 refine sr ?_
 refine wc_cs hm ?_ ?_ <;> clear hm <;> intro hm
 ·refine sr ?_
  refine sx ?_
  cases hm
  exact wk_r
 refine sx ?_
 refine sr ?_
 refine wc_cs hm ?_ ?_ <;> clear hm <;> intro hm
 ·refine sr ?_
  refine sr ?_
  refine sx ?_
  cases hm
  exact wk_r
 refine sx ?_
 refine sr ?_
 refine sx ?_
 cases hm
 exact wk_r

theorem Mref21_one_sp {r1 : Kv} {y : TFold} (hm : Mref21_one r1 = some y) : Spec Tryz.prog 80 [.a [vS r1.key, vS r1.val]] [] fun u h => u = .a [vI y.Count, vI y.Numbers, vI y.Sum, vI y.Low, vI y.High, vS y.First, vS y.Last] ∧ h = [] := by
 refine si Tryz.func80 Tryz.ntmps80 Tryz.results80 fun B w0 ρ0 => ?_
 unfold Mref21_one at hm
 refine sr ?_
 refine sr ?_
 refine sr ?_
 obtain ⟨y2, hy, hm⟩ := obnd_o hm
 refine wl_cq (Mref21_Number_sp (hm := hy)) ?_
 refine sr ?_
 refine wc_cs hm ?_ ?_ <;> clear hm <;> intro hm
 ·refine sr ?_
  refine sr ?_
  refine sx ?_
  cases hm
  exact wk_r
 refine sx ?_
 refine sr ?_
 refine sx ?_
 cases hm
 exact wk_r

theorem Mref21_Join_sp {a1 : TFold} {b2 : TFold} {y : TFold} (hm : Mref21_Join a1 b2 = y) : Spec Tryz.prog 79 [.a [vI a1.Count, vI a1.Numbers, vI a1.Sum, vI a1.Low, vI a1.High, vS a1.First, vS a1.Last], .a [vI b2.Count, vI b2.Numbers, vI b2.Sum, vI b2.Low, vI b2.High, vS b2.First, vS b2.Last]] [] fun u h => u = .a [vI y.Count, vI y.Numbers, vI y.Sum, vI y.Low, vI y.High, vS y.First, vS y.Last] ∧ h = [] := by
 refine si Tryz.func79 Tryz.ntmps79 Tryz.results79 fun B w0 ρ0 => ?_
 unfold Mref21_Join at hm
 refine sr ?_
 refine sr ?_
 refine wl_r (o_add rfl rfl rfl rfl) rfl rfl rfl ?_
 refine ss ?_
 refine wl_r (o_add rfl rfl rfl rfl) rfl rfl rfl ?_
 refine ss ?_
 refine wl_r (o_add rfl rfl rfl rfl) rfl rfl rfl ?_
 refine sr ?_
 obtain ⟨mu1, hm1, hm⟩ := bnd_o hm
 refine wc_cut' (fun st => ∃ (f3 : Int) (f4 : Int), mu1 = (f3, f4) ∧ st = ⟨[(2, .p 102 0), (3, .p 103 0), (4, .p 104 0), (5, .p 105 0)], [(102, some (.box 28 [vI a1.Count, vI a1.Numbers, vI a1.Sum, vI a1.Low, vI a1.High, vS a1.First, vS a1.Last])), (103, some (.box 28 [vI b2.Count, vI b2.Numbers, vI b2.Sum, vI b2.Low, vI b2.High, vS b2.First, vS b2.Last])), (104, some (.box 28 [vI 0, vI 0, vI 0, vI 0, vI 0, vS ⟨#[]⟩, vS ⟨#[]⟩])), (105, some (.box 28 [vI (i64w (a1.Count + b2.Count)), vI (i64w (a1.Numbers + b2.Numbers)), vI (i64w (a1.Sum + b2.Sum)), vI f3, vI f4, vS a1.First, vS b2.Last]))]⟩) ?_ ?_
 ·refine wc_cs hm1 ?_ ?_ <;> clear hm1 <;> intro hm1
  ·refine wc_draw (id := 3) [⟨0, 0, [2]⟩, ⟨1, 1, [39]⟩, ⟨2, 0, [2]⟩, ⟨3, 4, [41]⟩, ⟨4, 3, [5]⟩, ⟨5, 19, [40, 43]⟩, ⟨6, 63, [5]⟩, ⟨7, 127, [42, 44]⟩] mixed (by kernel_rfl) ?_
   refine ss ?_
   subst hm1
   exact wk_cutw [(102, 102), (103, 103), (104, 104), (105, 105)] ⟨_, _, rfl, rfl⟩
  refine sx ?_
  subst hm1
  exact wk_cutw [(102, 102), (103, 103), (104, 104), (105, 105)] ⟨_, _, rfl, rfl⟩
 rintro _ ⟨f3, f4, rfl, rfl⟩
 refine sr ?_
 obtain ⟨mu1, hm1, hm⟩ := bnd_o hm
 refine wc_cut' (fun st => ∃ (f5 : Int) (f6 : Int), mu1 = (f5, f6) ∧ st = ⟨[(2, .p 102 0), (3, .p 103 0), (4, .p 104 0), (5, .p 105 0)], [(102, some (.box 28 [vI a1.Count, vI a1.Numbers, vI a1.Sum, vI a1.Low, vI a1.High, vS a1.First, vS a1.Last])), (103, some (.box 28 [vI b2.Count, vI b2.Numbers, vI b2.Sum, vI b2.Low, vI b2.High, vS b2.First, vS b2.Last])), (104, some (.box 28 [vI 0, vI 0, vI 0, vI 0, vI 0, vS ⟨#[]⟩, vS ⟨#[]⟩])), (105, some (.box 28 [vI (i64w (a1.Count + b2.Count)), vI (i64w (a1.Numbers + b2.Numbers)), vI (i64w (a1.Sum + b2.Sum)), vI f5, vI f6, vS a1.First, vS b2.Last]))]⟩) ?_ ?_
 ·refine wc_cs hm1 ?_ ?_ <;> clear hm1 <;> intro hm1
  ·refine wc_draw (id := 5) [⟨0, 0, [3]⟩, ⟨1, 1, [48]⟩, ⟨2, 0, [3]⟩, ⟨3, 4, [50]⟩, ⟨4, 3, [5]⟩, ⟨5, 19, [49, 52]⟩, ⟨6, 63, [5]⟩, ⟨7, 127, [51, 53]⟩] mixed (by kernel_rfl) ?_
   refine ss ?_
   subst hm1
   exact wk_cutw [(102, 102), (103, 103), (104, 104), (105, 105)] ⟨_, _, rfl, rfl⟩
  refine sx ?_
  subst hm1
  exact wk_cutw [(102, 102), (103, 103), (104, 104), (105, 105)] ⟨_, _, rfl, rfl⟩
 rintro _ ⟨f5, f6, rfl, rfl⟩
 refine sr ?_
 obtain ⟨mu1, hm1, hm⟩ := bnd_o hm
 refine wc_cut' (fun st => ∃ (f7 : ByteArray), f7 = mu1 ∧ st = ⟨[(2, .p 102 0), (3, .p 103 0), (4, .p 104 0), (5, .p 105 0)], [(102, some (.box 28 [vI a1.Count, vI a1.Numbers, vI a1.Sum, vI a1.Low, vI a1.High, vS a1.First, vS a1.Last])), (103, some (.box 28 [vI b2.Count, vI b2.Numbers, vI b2.Sum, vI b2.Low, vI b2.High, vS b2.First, vS b2.Last])), (104, some (.box 28 [vI 0, vI 0, vI 0, vI 0, vI 0, vS ⟨#[]⟩, vS ⟨#[]⟩])), (105, some (.box 28 [vI (i64w (a1.Count + b2.Count)), vI (i64w (a1.Numbers + b2.Numbers)), vI (i64w (a1.Sum + b2.Sum)), vI f5, vI f6, vS f7, vS b2.Last]))]⟩) ?_ ?_
 ·refine wc_cs hm1 ?_ ?_ <;> clear hm1 <;> intro hm1
  ·refine sr ?_
   subst hm1
   exact wk_cutw [(102, 102), (103, 103), (104, 104), (105, 105)] ⟨_, rfl, rfl⟩
  refine sx ?_
  subst hm1
  exact wk_cutw [(102, 102), (103, 103), (104, 104), (105, 105)] ⟨_, rfl, rfl⟩
 rintro _ ⟨f7, rfl, rfl⟩
 refine sr ?_
 refine wc_cs hm ?_ ?_ <;> clear hm <;> intro hm
 ·refine sr ?_
  refine sr ?_
  refine sx ?_
  subst hm
  exact wk_r
 refine sx ?_
 refine sr ?_
 refine sx ?_
 subst hm
 exact wk_r

theorem Mref21_Of_sp {rows1 : List Kv} {y : TFold} (hm : Mref21_Of rows1 = some y) : Spec Tryz.prog 46 [.d (lst Kv.ds rows1)] [] fun u h => u = .a [vI y.Count, vI y.Numbers, vI y.Sum, vI y.Low, vI y.High, vS y.First, vS y.Last] ∧ h = [] := by
 refine si Tryz.func46 Tryz.ntmps46 Tryz.results46 fun B w0 ρ0 => ?_
 unfold Mref21_Of at hm
 refine sr ?_
 refine sr ?_
 refine sr ?_
 obtain ⟨mu1, hm1, hm⟩ := obnd_o hm
 refine wc_cut' (fun st => ∃ (f14 : Int) (f15 : Int) (f16 : Int) (f17 : Int) (f18 : Int) (f19 : ByteArray) (f20 : ByteArray), mu1 = (f14, f15, f16, f17, f18, f19, f20) ∧ st = ⟨[(2, .p 102 0), (3, .p 103 0)], [(102, some (.box 28 [vI 0, vI 0, vI 0, vI 0, vI 0, vS ⟨#[]⟩, vS ⟨#[]⟩])), (103, some (.box 28 [vI f14, vI f15, vI f16, vI f17, vI f18, vS f19, vS f20]))]⟩) ?_ ?_
 ·refine wc_block ?_
  refine wc_len 6 rfl (fun hlenm11 => ?_)
  refine wc_loopw (fun κ st => ∃ (m11 : Nat) (f2 : Int) (f3 : Int) (f4 : Int) (f5 : Int) (f6 : Int) (f7 : ByteArray) (f8 : ByteArray), κ = rows1.length - m11 ∧ m11 ≤ rows1.length ∧ Mref21_Of_l1 (rows1.drop m11) f2 f3 f4 f5 f6 f7 f8 = some mu1 ∧ st = ⟨[(2, .p 102 0), (3, .p 103 0), (6, .d (lst Kv.ds rows1)), (7, vI (rows1.length : Int)), (8, vI (m11 : Int))], [(102, some (.box 28 [vI 0, vI 0, vI 0, vI 0, vI 0, vS ⟨#[]⟩, vS ⟨#[]⟩])), (103, some (.box 28 [vI f2, vI f3, vI f4, vI f5, vI f6, vS f7, vS f8]))]⟩) [(102, 102), (103, 103)] ⟨0, _, _, _, _, _, _, _, rfl, Nat.zero_le _, hm1, rfl⟩ ?_
  rintro κ _ ⟨m11, f2, f3, f4, f5, f6, f7, f8, rfl, hlem11, hm1, rfl⟩
  rcases Nat.lt_or_ge m11 rows1.length with hltm11 | hgem11
  ·obtain ⟨r9, hxm11, hdr⟩ := drop_c hltm11
   rw [hdr, Mref21_Of_l1.eq_2] at hm1
   refine sr ?_
   refine wc_seq ?_
   refine wc_cond_tt (lt_t hltm11) rfl ?_
   refine sx ?_
   refine sr ?_
   refine wl_r (o_ixm (ys := [dS r9.key, dS r9.val]) hxm11 rfl rfl rfl rfl) rfl rfl rfl ?_
   refine ss ?_
   refine wc_draw (id := 5) [⟨0, 0, [3]⟩, ⟨1, 0, [5]⟩, ⟨2, 2, [13]⟩, ⟨3, 7, [12, 14]⟩, ⟨4, 15, [3, 15]⟩] mixed (by kernel_rfl) ?_
   refine ss ?_
   obtain ⟨y12, hy, hm1⟩ := obnd_o hm1
   refine wd_cs (Mref21_one_sp (hm := hy)) rfl rfl rfl (by repeat (first | exact Vws.nil | apply Vws.cons | exact Vw.nil | exact Vw.d _ | exact Vw.q _ | apply Vw.a)) rfl rfl (by first | exact .no rfl | exact .y rfl rfl rfl rfl) rfl rfl rfl ?_
   refine ss ?_
   obtain ⟨y13, hy, hm1⟩ := bnd_o hm1
   refine wd_cs (Mref21_Join_sp (hm := hy)) rfl rfl rfl (by repeat (first | exact Vws.nil | apply Vws.cons | exact Vw.nil | exact Vw.d _ | exact Vw.q _ | apply Vw.a)) rfl rfl (by first | exact .no rfl | exact .y rfl rfl rfl rfl) rfl rfl rfl ?_
   refine sr ?_
   refine wl_r (o_inc hltm11 hlenm11 rfl rfl rfl) rfl rfl rfl ?_
   refine ss ?_
   exact wk_loopw [(102, 102), (103, 103)] ⟨m11 + 1, _, _, _, _, _, _, _, rfl, hltm11, hm1, rfl⟩ (by omega)
  ·rw [drop_n hgem11, Mref21_Of_l1.eq_1] at hm1
   refine sr ?_
   refine wc_seq ?_
   refine wc_cond_ff (lt_f hgem11) rfl ?_
   refine wc_exit ?_
   refine ss ?_
   cases hm1
   exact wk_cutw [(102, 102), (103, 103)] ⟨_, _, _, _, _, _, _, rfl, rfl⟩
 rintro _ ⟨f14, f15, f16, f17, f18, f19, f20, rfl, rfl⟩
 refine sr ?_
 refine sx ?_
 cases hm
 exact wk_r

theorem Mref22_Check_sp {q1 : TQuery} {y : Int} (hm : Mref22_Check q1 = y) : Spec Tryz.prog 42 [.a [vI q1.Kind, .d (lst Rng.ds q1.Ranges), vS q1.Key, vI q1.Count]] [] fun u h => u = vI y ∧ h = [] := by
 refine si Tryz.func42 Tryz.ntmps42 Tryz.results42 fun B w0 ρ0 => ?_
 unfold Mref22_Check at hm
 refine sr ?_
 refine wc_seq ?_
 refine wc_seq ?_
 obtain ⟨mu1, hm1, hm⟩ := bnd_o hm
 refine wc_cut' (fun st => ∃ (x2 : Bool), x2 = mu1 ∧ st = ⟨[(1, .p 101 0), (13, vB x2)], [(101, some (.box 25 [vI q1.Kind, .d (lst Rng.ds q1.Ranges), vS q1.Key, vI q1.Count]))]⟩) ?_ ?_
 ·refine sr ?_
  refine wl_sg hm1 ?_ ?_ <;> clear hm1 <;> intro hm1
  ·refine ss ?_
   subst hm1
   exact wk_cutw [(101, 101)] ⟨_, rfl, rfl⟩
  refine ss ?_
  subst hm1
  exact wk_cutw [(101, 101)] ⟨_, rfl, rfl⟩
 rintro _ ⟨x2, rfl, rfl⟩
 refine ss ?_
 refine wc_cs hm ?_ ?_ <;> clear hm <;> intro hm
 ·refine sr ?_
  refine sx ?_
  subst hm
  exact wk_r
 refine sx ?_
 refine sr ?_
 refine wc_cs hm ?_ ?_ <;> clear hm <;> intro hm
 ·refine sr ?_
  refine sx ?_
  subst hm
  exact wk_r
 refine sx ?_
 refine sr ?_
 obtain ⟨mu1, hm1, hm⟩ := bnd_o hm
 refine wc_cut' (fun st => mu1 = Ctl.nxt () ∧ st = ⟨[(1, .p 101 0)], [(101, some (.box 25 [vI q1.Kind, .d (lst Rng.ds q1.Ranges), vS q1.Key, vI q1.Count]))]⟩) ?_ ?_
 ·refine wc_block ?_
  refine wc_len 19 rfl (fun hlenm5 => ?_)
  refine wc_loopw (fun κ st => ∃ (m5 : Nat) , κ = q1.Ranges.length - m5 ∧ m5 ≤ q1.Ranges.length ∧ Mref22_Check_l1 (q1.Ranges.drop m5) = mu1 ∧ st = ⟨[(1, .p 101 0), (19, .d (lst Rng.ds q1.Ranges)), (20, vI (q1.Ranges.length : Int)), (21, vI (m5 : Int))], [(101, some (.box 25 [vI q1.Kind, .d (lst Rng.ds q1.Ranges), vS q1.Key, vI q1.Count]))]⟩) [(101, 101)] ⟨0, rfl, Nat.zero_le _, hm1, rfl⟩ ?_
  rintro κ _ ⟨m5, rfl, hlem5, hm1, rfl⟩
  rcases Nat.lt_or_ge m5 q1.Ranges.length with hltm5 | hgem5
  ·obtain ⟨r3, hxm5, hdr⟩ := drop_c hltm5
   rw [hdr, Mref22_Check_l1.eq_2] at hm1
   refine sr ?_
   refine wc_seq ?_
   refine wc_cond_tt (lt_t hltm5) rfl ?_
   refine sx ?_
   refine sr ?_
   refine wl_r (o_ixm (ys := [dS r3.lo.key, dB r3.lo.top, dS r3.hi.key, dB r3.hi.top]) hxm5 rfl rfl rfl rfl) rfl rfl rfl ?_
   refine sr ?_
   obtain ⟨y6, hy, hm1⟩ := bnd_o hm1
   refine wl_cq (Mref1_Valid_sp (hm := hy)) ?_
   refine ss ?_
   refine wc_cs hm1 ?_ ?_ <;> clear hm1 <;> intro hm1
   ·refine sr ?_
    refine sx ?_
    subst hm1
    replace hm := cbnd_r hm
    subst hm
    exact wk_r
   refine sx ?_
   refine sr ?_
   refine wl_r (o_inc hltm5 hlenm5 rfl rfl rfl) rfl rfl rfl ?_
   refine ss ?_
   exact wk_loopw [(101, 101)] ⟨m5 + 1, rfl, hltm5, hm1, rfl⟩ (by omega)
  ·rw [drop_n hgem5, Mref22_Check_l1.eq_1] at hm1
   refine sr ?_
   refine wc_seq ?_
   refine wc_cond_ff (lt_f hgem5) rfl ?_
   refine wc_exit ?_
   refine ss ?_
   subst hm1
   exact wk_cutw [(101, 101)] ⟨rfl, rfl⟩
 rintro _ ⟨rfl, rfl⟩
 replace hm := cbnd_n hm
 refine ss ?_
 refine wc_seq ?_
 refine wc_seq ?_
 obtain ⟨mu1, hm1, hm⟩ := bnd_o hm
 refine wc_cut' (fun st => ∃ (x8 : Bool), x8 = mu1 ∧ st = ⟨[(1, .p 101 0), (53, vB x8)], [(101, some (.box 25 [vI q1.Kind, .d (lst Rng.ds q1.Ranges), vS q1.Key, vI q1.Count]))]⟩) ?_ ?_
 ·refine sr ?_
  obtain ⟨y7, hy, hm1⟩ := bnd_o hm1
  refine wl_cq (Mref1_ValidKey_sp (hm := hy)) ?_
  refine ss ?_
  refine wl_sg hm1 ?_ ?_ <;> clear hm1 <;> intro hm1
  ·refine ss ?_
   subst hm1
   exact wk_cutw [(101, 101)] ⟨_, rfl, rfl⟩
  refine ss ?_
  refine wl_sg hm1 ?_ ?_ <;> clear hm1 <;> intro hm1
  ·refine ss ?_
   refine wl_sg hm1 ?_ ?_ <;> clear hm1 <;> intro hm1
   ·refine ss ?_
    subst hm1
    exact wk_cutw [(101, 101)] ⟨_, rfl, rfl⟩
   refine ss ?_
   refine wl_sg hm1 ?_ ?_ <;> clear hm1 <;> intro hm1
   ·refine ss ?_
    subst hm1
    exact wk_cutw [(101, 101)] ⟨_, rfl, rfl⟩
   refine ss ?_
   subst hm1
   exact wk_cutw [(101, 101)] ⟨_, rfl, rfl⟩
  refine ss ?_
  refine wl_sg hm1 ?_ ?_ <;> clear hm1 <;> intro hm1
  ·refine ss ?_
   subst hm1
   exact wk_cutw [(101, 101)] ⟨_, rfl, rfl⟩
  refine ss ?_
  subst hm1
  exact wk_cutw [(101, 101)] ⟨_, rfl, rfl⟩
 rintro _ ⟨x8, rfl, rfl⟩
 refine ss ?_
 refine wc_cs hm ?_ ?_ <;> clear hm <;> intro hm
 ·refine sr ?_
  refine sx ?_
  subst hm
  exact wk_r
 refine sx ?_
 refine wc_seq ?_
 obtain ⟨mu1, hm1, hm⟩ := bnd_o hm
 refine wc_cut' (fun st => ∃ (counts9 : Bool), counts9 = mu1 ∧ st = ⟨[(1, .p 101 0), (5, vB counts9)], [(101, some (.box 25 [vI q1.Kind, .d (lst Rng.ds q1.Ranges), vS q1.Key, vI q1.Count]))]⟩) ?_ ?_
 ·refine sr ?_
  refine wl_sg hm1 ?_ ?_ <;> clear hm1 <;> intro hm1
  ·refine ss ?_
   subst hm1
   exact wk_cutw [(101, 101)] ⟨_, rfl, rfl⟩
  refine ss ?_
  subst hm1
  exact wk_cutw [(101, 101)] ⟨_, rfl, rfl⟩
 rintro _ ⟨counts9, rfl, rfl⟩
 refine sr ?_
 refine wl_sg hm ?_ ?_ <;> clear hm <;> intro hm
 ·refine ss ?_
  refine wl_sg hm ?_ ?_ <;> clear hm <;> intro hm
  ·refine ss ?_
   refine wc_cond_t rfl ?_
   refine sr ?_
   refine sx ?_
   subst hm
   exact wk_r
  refine ss ?_
  refine wl_sg hm ?_ ?_ <;> clear hm <;> intro hm
  ·refine ss ?_
   refine wc_cond_t rfl ?_
   refine sr ?_
   refine sx ?_
   subst hm
   exact wk_r
  refine ss ?_
  refine wl_sg hm ?_ ?_ <;> clear hm <;> intro hm
  ·refine ss ?_
   refine wc_cs hm ?_ ?_ <;> clear hm <;> intro hm
   ·refine sr ?_
    refine sx ?_
    subst hm
    exact wk_r
   refine sx ?_
   refine sr ?_
   refine sx ?_
   subst hm
   exact wk_r
  refine ss ?_
  refine wc_cond_f rfl ?_
  refine sx ?_
  refine sr ?_
  refine sx ?_
  subst hm
  exact wk_r
 refine ss ?_
 refine wl_sg hm ?_ ?_ <;> clear hm <;> intro hm
 ·refine ss ?_
  refine wc_cs hm ?_ ?_ <;> clear hm <;> intro hm
  ·refine sr ?_
   refine sx ?_
   subst hm
   exact wk_r
  refine sx ?_
  refine sr ?_
  refine sx ?_
  subst hm
  exact wk_r
 refine ss ?_
 refine wc_cond_f rfl ?_
 refine sx ?_
 refine sr ?_
 refine sx ?_
 subst hm
 exact wk_r

theorem Mref22_Take_sp {q1 : TQuery} {rows2 : List Kv} {y : List Kv} (hm : Mref22_Take q1 rows2 = some y) : Spec Tryz.prog 45 [.a [vI q1.Kind, .d (lst Rng.ds q1.Ranges), vS q1.Key, vI q1.Count], .d (lst Kv.ds rows2)] [] fun u h => u = .d (lst Kv.ds y) ∧ h = [] := by
 refine si Tryz.func45 Tryz.ntmps45 Tryz.results45 fun B w0 ρ0 => ?_
 unfold Mref22_Take at hm
 refine sr ?_
 refine sr ?_
 refine sr ?_
 refine sr ?_
 refine wc_cs hm ?_ ?_ <;> clear hm <;> intro hm
 ·refine sr ?_
  obtain ⟨l3, hy, hm⟩ := obnd_o hm
  refine wl_r (o_lsl hy rfl rfl rfl rfl) rfl rfl rfl ?_
  refine sr ?_
  obtain ⟨l4, hy, hm⟩ := obnd_o hm
  refine wl_1 (n_appn (k := 128) hy rfl rfl rfl rfl rfl rfl) rfl rfl rfl rfl ?_
  refine sx ?_
  cases hm
  exact wk_r
 refine sr ?_
 refine wc_cs hm ?_ ?_ <;> clear hm <;> intro hm
 ·refine sr ?_
  obtain ⟨l5, hy, hm⟩ := obnd_o hm
  refine wl_r (o_lsl hy rfl rfl rfl rfl) rfl rfl rfl ?_
  refine sr ?_
  obtain ⟨l6, hy, hm⟩ := obnd_o hm
  refine wl_1 (n_appn (k := 128) hy rfl rfl rfl rfl rfl rfl) rfl rfl rfl rfl ?_
  refine sx ?_
  cases hm
  exact wk_r
 refine sx ?_
 refine sr ?_
 obtain ⟨l7, hy, hm⟩ := obnd_o hm
 refine wl_1 (n_appn (k := 128) hy rfl rfl rfl rfl rfl rfl) rfl rfl rfl rfl ?_
 refine sx ?_
 cases hm
 exact wk_r

def Mref22_SameAnswer (a1 : TAnswer) (b2 : TAnswer) : Option Bool :=
 obnd (Mref20_Same a1.Rows b2.Rows) fun y3 =>
 sel y3 (
  some (decide (a1.Fold.Count = b2.Fold.Count) && decide (a1.Fold.Numbers = b2.Fold.Numbers) && decide (a1.Fold.Sum = b2.Fold.Sum) && decide (a1.Fold.Low = b2.Fold.Low) && decide (a1.Fold.High = b2.Fold.High) && decide (a1.Fold.First = b2.Fold.First) && decide (a1.Fold.Last = b2.Fold.Last))) (
  some false)
theorem Mref22_SameAnswer_sp {a1 : TAnswer} {b2 : TAnswer} {y : Bool} (hm : Mref22_SameAnswer a1 b2 = some y) : Spec Tryz.prog 51 [.a [.d (lst Kv.ds a1.Rows), vI a1.Fold.Count, vI a1.Fold.Numbers, vI a1.Fold.Sum, vI a1.Fold.Low, vI a1.Fold.High, vS a1.Fold.First, vS a1.Fold.Last], .a [.d (lst Kv.ds b2.Rows), vI b2.Fold.Count, vI b2.Fold.Numbers, vI b2.Fold.Sum, vI b2.Fold.Low, vI b2.Fold.High, vS b2.Fold.First, vS b2.Fold.Last]] [] fun u h => u = vB y ∧ h = [] := by
 refine si Tryz.func51 Tryz.ntmps51 Tryz.results51 fun B w0 ρ0 => ?_
 unfold Mref22_SameAnswer at hm
 refine sr ?_
 refine sr ?_
 obtain ⟨y3, hy, hm⟩ := obnd_o hm
 refine wl_cq (Mref20_Same_sp (hm := hy)) ?_
 refine ss ?_
 refine wl_sg hm ?_ ?_ <;> clear hm <;> intro hm
 ·refine sx ?_
  cases hm
  exact wk_r
 refine sx ?_
 cases hm
 exact wk_r

end Go.Proofs.YtohpjdeohpamaaaGreatDoor
namespace Go.Proofs.YtohpjdeohpamaaaGreatDoor
open Go.RowKit
attribute [local irreducible] WK WC WL Wk Rel OpD OpV WD WO Op.bytesLess cmp vk vb vld emp contains
set_option maxHeartbeats 4000000 in
instance qcheck_r (k c : Int) (l : List Rng) (key : ByteArray) : Ct Tryz.prog 42 [vQ k l key c] (l.length < 1000000) (vI (qchk k l key c)) := ⟨fun hl => by
  refine Spec.intro Tryz.func42 rfl rfl Tryz.ntmps42 Tryz.results42 rfl fun B w0 ρ0 => ?_; simp only [slots, List.map_nil, List.map_cons, Nat.reduceAdd]
  (repeat' (first | refine sw ?_ | (refine swt ?_; intro x τ hx) | (refine sp ?_ ?_ <;> (intro h; (first | (have h2 : (_ : Bool) = _ := h; clear h2; subst h) | skip); (try simp only [decide_eq_true_eq, decide_eq_false_iff_not, Bool.not_eq_true', Bool.not_eq_false', Kv.eta, Bnd.eta, Rng.eta, tn_sub1] at h); (first | (have h2 : (_ : Bool) = _ := h; clear h2; subst h) | skip))) | fail))
  all_goals (try ((first | refine wk_pure rfl (by first | exact trivial | exact resT_cell rfl rfl (by exact inferInstance) trivial) rfl (by first | exact Vw.fmp rfl rfl rfl | exact Vw.nil | exact Vw.d _ | (repeat (first | exact Vws.nil | apply Vws.cons | exact Vw.nil | exact Vw.d _ | apply Vw.a | apply Vw.t | exact Vw.fh rfl rfl (vws_dm _) | exact Vw.fh rfl rfl Vws.nil)); done) ?_ | refine wk_pure_n rfl (by first | exact trivial | exact resT_cell rfl rfl (by exact inferInstance) trivial) rfl (by first | exact Vw.fmp rfl rfl rfl | exact Vw.nil | exact Vw.d _ | (repeat (first | exact Vws.nil | apply Vws.cons | exact Vw.nil | exact Vw.d _ | apply Vw.a | apply Vw.t | exact Vw.fh rfl rfl (vws_dm _) | exact Vw.fh rfl rfl Vws.nil)); done) ?_); refine ⟨?_, rfl⟩; (try simp only [Bool.not_eq_true, Bool.not_eq_false, decide_eq_true_eq, decide_eq_false_iff_not] at *); first | (simp_all [qchk]; done) | (simp_all [qchk] <;> omega) | grind [qchk]))
  refine wc_loop (fun κ st => ∃ (m : Nat), κ = l.length - m ∧ (m ≤ l.length ∧ ∀ j (h : j < l.length), j < m → vld l[j] = true) ∧ st = ⟨[(1, .p 101 0), (19, .d (lst Rng.ds l)), (20, vI l.length), (21, vI (m : Int))], [(101, some (.box 25 [vI k, .d (lst Rng.ds l), vS key, vI c]))]⟩) (l.length - (0)) ⟨[(1, .p 101 0), (19, .d (lst Rng.ds l)), (20, vI l.length), (21, vI ((0) : Int))], [(101, some (.box 25 [vI k, .d (lst Rng.ds l), vS key, vI c]))]⟩ (wk [(101, 101)] rfl rfl rfl rfl (by repeat (first | refine VH.cons rfl rfl vb_tpb ?_ | refine VH.cons0 ?_ | refine VH.cons rfl rfl (Vb.ob _) ?_ | exact VS.nil | exact VH.nil | exact Vws.nil | refine VS.cons rfl ?_ ?_ | refine VH.cons rfl rfl (Vb.box ?_) ?_ | refine VH.cons rfl rfl (Vb.arr ?_) ?_ | exact vws_dm _ | refine Vws.cons ?_ ?_ | exact Vw.d _ | exact Vw.p rfl | exact Vw.h rfl | exact Vw.e rfl | exact Vw.s rfl | exact Vw.q _ | refine Vw.a ?_ | refine Vw.t ?_ | exact Vw.nil | exact Vw.fh rfl rfl (vws_dm _) | exact Vw.fe rfl rfl (vws_dm _) (fe_of (by assumption)) | exact Vw.fe rfl rfl (vws_dm _) (fe_of0 (by assumption)) | refine Vw.fp0 rfl rfl ?_ | exact Vw.mp rfl | refine VH.cons rfl rfl (Vb.mt _ _) ?_ | exact Vw.sc rfl | exact Vw.un _)) (by repeat (first | refine VH.cons rfl rfl vb_tpb ?_ | refine VH.cons0 ?_ | refine VH.cons rfl rfl (Vb.ob _) ?_ | exact VS.nil | exact VH.nil | exact Vws.nil | refine VS.cons rfl ?_ ?_ | refine VH.cons rfl rfl (Vb.box ?_) ?_ | refine VH.cons rfl rfl (Vb.arr ?_) ?_ | exact vws_dm _ | refine Vws.cons ?_ ?_ | exact Vw.d _ | exact Vw.p rfl | exact Vw.h rfl | exact Vw.e rfl | exact Vw.s rfl | exact Vw.q _ | refine Vw.a ?_ | refine Vw.t ?_ | exact Vw.nil | exact Vw.fh rfl rfl (vws_dm _) | exact Vw.fe rfl rfl (vws_dm _) (fe_of (by assumption)) | exact Vw.fe rfl rfl (vws_dm _) (fe_of0 (by assumption)) | refine Vw.fp0 rfl rfl ?_ | exact Vw.mp rfl | refine VH.cons rfl rfl (Vb.mt _ _) ?_ | exact Vw.sc rfl | exact Vw.un _))) ⟨0, rfl, ?_, rfl⟩ ?_; rotate_left; rintro κ _ ⟨m, rfl, hP, rfl⟩; rotate_left
  · exact ⟨by omega, fun j _ h => by omega⟩
  obtain ⟨hm, hP⟩ := hP
  (repeat' (first | refine sw ?_ | (refine swt ?_; intro x τ hx) | (refine sp ?_ ?_ <;> (intro h; (first | (have h2 : (_ : Bool) = _ := h; clear h2; subst h) | skip); (try simp only [decide_eq_true_eq, decide_eq_false_iff_not, Bool.not_eq_true', Bool.not_eq_false', Kv.eta, Bnd.eta, Rng.eta, tn_sub1] at h); (first | (have h2 : (_ : Bool) = _ := h; clear h2; subst h) | skip))) | fail))
  all_goals (try (have hA := all_of hP (by omega)))
  all_goals (try (have hA := all_not (p := vld) (l := l) (m := m) (by omega) (by simp only [Rng.eta, *]; rfl)))
  all_goals (try ((first | refine wk_pure rfl (by first | exact trivial | exact resT_cell rfl rfl (by exact inferInstance) trivial) rfl (by first | exact Vw.fmp rfl rfl rfl | exact Vw.nil | exact Vw.d _ | (repeat (first | exact Vws.nil | apply Vws.cons | exact Vw.nil | exact Vw.d _ | apply Vw.a | apply Vw.t | exact Vw.fh rfl rfl (vws_dm _) | exact Vw.fh rfl rfl Vws.nil)); done) ?_ | refine wk_pure_n rfl (by first | exact trivial | exact resT_cell rfl rfl (by exact inferInstance) trivial) rfl (by first | exact Vw.fmp rfl rfl rfl | exact Vw.nil | exact Vw.d _ | (repeat (first | exact Vws.nil | apply Vws.cons | exact Vw.nil | exact Vw.d _ | apply Vw.a | apply Vw.t | exact Vw.fh rfl rfl (vws_dm _) | exact Vw.fh rfl rfl Vws.nil)); done) ?_); refine ⟨?_, rfl⟩; (try simp only [Bool.not_eq_true, Bool.not_eq_false, decide_eq_true_eq, decide_eq_false_iff_not] at *); first | (simp_all [qchk]; done) | (simp_all [qchk] <;> omega) | grind [qchk]))
  refine wk_loop_n (l.length - (m + 1)) (st' := ⟨[(1, .p 101 0), (19, .d (lst Rng.ds l)), (20, vI l.length), (21, vI ((m + 1) : Int))], [(101, some (.box 25 [vI k, .d (lst Rng.ds l), vS key, vI c]))]⟩) (wk [(101, 101)] rfl rfl rfl rfl (by repeat (first | refine VH.cons rfl rfl vb_tpb ?_ | refine VH.cons0 ?_ | refine VH.cons rfl rfl (Vb.ob _) ?_ | exact VS.nil | exact VH.nil | exact Vws.nil | refine VS.cons rfl ?_ ?_ | refine VH.cons rfl rfl (Vb.box ?_) ?_ | refine VH.cons rfl rfl (Vb.arr ?_) ?_ | exact vws_dm _ | refine Vws.cons ?_ ?_ | exact Vw.d _ | exact Vw.p rfl | exact Vw.h rfl | exact Vw.e rfl | exact Vw.s rfl | exact Vw.q _ | refine Vw.a ?_ | refine Vw.t ?_ | exact Vw.nil | exact Vw.fh rfl rfl (vws_dm _) | exact Vw.fe rfl rfl (vws_dm _) (fe_of (by assumption)) | exact Vw.fe rfl rfl (vws_dm _) (fe_of0 (by assumption)) | refine Vw.fp0 rfl rfl ?_ | exact Vw.mp rfl | refine VH.cons rfl rfl (Vb.mt _ _) ?_ | exact Vw.sc rfl | exact Vw.un _)) (by repeat (first | refine VH.cons rfl rfl vb_tpb ?_ | refine VH.cons0 ?_ | refine VH.cons rfl rfl (Vb.ob _) ?_ | exact VS.nil | exact VH.nil | exact Vws.nil | refine VS.cons rfl ?_ ?_ | refine VH.cons rfl rfl (Vb.box ?_) ?_ | refine VH.cons rfl rfl (Vb.arr ?_) ?_ | exact vws_dm _ | refine Vws.cons ?_ ?_ | exact Vw.d _ | exact Vw.p rfl | exact Vw.h rfl | exact Vw.e rfl | exact Vw.s rfl | exact Vw.q _ | refine Vw.a ?_ | refine Vw.t ?_ | exact Vw.nil | exact Vw.fh rfl rfl (vws_dm _) | exact Vw.fe rfl rfl (vws_dm _) (fe_of (by assumption)) | exact Vw.fe rfl rfl (vws_dm _) (fe_of0 (by assumption)) | refine Vw.fp0 rfl rfl ?_ | exact Vw.mp rfl | refine VH.cons rfl rfl (Vb.mt _ _) ?_ | exact Vw.sc rfl | exact Vw.un _))) ?_ ⟨m + 1, rfl, ?_, rfl⟩
  · omega
  · refine ⟨by omega, fun j h1 h2 => ?_⟩
    by_cases e : j = m
    · subst e; assumption
    · exact hP j h1 (by omega)⟩
end Go.Proofs.YtohpjdeohpamaaaGreatDoor
namespace Go.Proofs.YtohpjdeohpamaaaGreatDoor
open Go.RowKit
theorem mrg_len : ∀ (l : List Rng) (c : Rng), (mrg c l).length ≤ l.length + 1
  | [], c => by simp [mrg]
  | r :: l, c => by
    unfold mrg
    split
    · have := mrg_len l ⟨c.lo, greater c.hi r.hi⟩
      simp; omega
    · have := mrg_len l r
      simp; omega
theorem union_len (l : List Rng) : (union l).length ≤ l.length := by
  unfold union
  have h1 : ((l.filter ne).mergeSort leLo).length ≤ l.length := by rw [List.length_mergeSort]; exact List.length_filter_le _ _
  cases h : (l.filter ne).mergeSort leLo with
  | nil => simp [mrgAll]
  | cons r l' =>
    rw [h] at h1
    have := mrg_len l' r
    simp only [mrgAll, List.length_cons] at h1 ⊢
    omega
def qslices (t : List Kv) (rs : List Rng) : List Kv := rs.flatMap fun r => t.filter fun x => contains r x.key
theorem qranges_le (k : Int) (l : List Rng) (key : ByteArray) (c : Int) : (qranges k l key c).length ≤ 64 := by
  unfold qranges
  split
  · rename_i h
    have hq := qchk_0 h
    refine Nat.le_trans (union_len _) ?_
    unfold qrs
    split
    · exact hq.2.2
    split
    · simp
    split <;> simp
  · simp
end Go.Proofs.YtohpjdeohpamaaaGreatDoor
namespace Go.Proofs.YtohpjdeohpamaaaGreatDoor
open Go.RowKit
attribute [local irreducible] WK WC WL Wk Rel OpD OpV WD WO Op.bytesLess cmp vk vb vld emp contains
attribute [local irreducible] union pfx
instance qranges_r (k c : Int) (l : List Rng) (key : ByteArray) : Ct Tryz.prog 43 [vQ k l key c] (l.length < 1000000) (.d (lst Rng.ds (qranges k l key c))) := ⟨fun hl => by
  refine Spec.intro Tryz.func43 rfl rfl Tryz.ntmps43 Tryz.results43 rfl fun B w0 ρ0 => ?_; simp only [slots, List.map_nil, List.map_cons, Nat.reduceAdd]
  (repeat' (first | refine wl_bt Rng.ds [pfx key] rfl rfl (by simp only [flatV, cellsV, List.cons_append, List.nil_append, List.append_nil]; exact rfl) rfl rfl rfl rfl rfl rfl ?_ | refine wd_bt Rng.ds [pfx key] rfl rfl (by simp only [flatV, cellsV, List.cons_append, List.nil_append, List.append_nil]; exact rfl) rfl rfl rfl rfl (by first | exact .no rfl | exact .y rfl rfl rfl rfl) rfl rfl ?_ | refine wl_bt Rng.ds [⟨⟨key, false⟩, ⟨⟨#[]⟩, true⟩⟩] rfl rfl (by simp only [flatV, cellsV, List.cons_append, List.nil_append, List.append_nil]; exact rfl) rfl rfl rfl rfl rfl rfl ?_ | refine wd_bt Rng.ds [⟨⟨key, false⟩, ⟨⟨#[]⟩, true⟩⟩] rfl rfl (by simp only [flatV, cellsV, List.cons_append, List.nil_append, List.append_nil]; exact rfl) rfl rfl rfl rfl (by first | exact .no rfl | exact .y rfl rfl rfl rfl) rfl rfl ?_ | refine wl_bt Rng.ds [⟨⟨⟨#[]⟩, false⟩, ⟨key, false⟩⟩] rfl rfl (by simp only [flatV, cellsV, List.cons_append, List.nil_append, List.append_nil]; exact rfl) rfl rfl rfl rfl rfl rfl ?_ | refine wd_bt Rng.ds [⟨⟨⟨#[]⟩, false⟩, ⟨key, false⟩⟩] rfl rfl (by simp only [flatV, cellsV, List.cons_append, List.nil_append, List.append_nil]; exact rfl) rfl rfl rfl rfl (by first | exact .no rfl | exact .y rfl rfl rfl rfl) rfl rfl ?_ | refine sw ?_ | (refine swt ?_; intro x τ hx) | (refine sp ?_ ?_ <;> (intro h; (first | (have h2 : (_ : Bool) = _ := h; clear h2; subst h) | skip); (try simp only [decide_eq_true_eq, decide_eq_false_iff_not, Bool.not_eq_true', Bool.not_eq_false', Kv.eta, Bnd.eta, Rng.eta, tn_sub1] at h); (first | (have h2 : (_ : Bool) = _ := h; clear h2; subst h) | skip))) | fail))
  all_goals (first | refine wk_pure rfl (by first | exact trivial | exact resT_cell rfl rfl (by exact inferInstance) trivial) rfl (by first | exact Vw.fmp rfl rfl rfl | exact Vw.nil | exact Vw.d _ | (repeat (first | exact Vws.nil | apply Vws.cons | exact Vw.nil | exact Vw.d _ | apply Vw.a | apply Vw.t | exact Vw.fh rfl rfl (vws_dm _) | exact Vw.fh rfl rfl Vws.nil)); done) ?_ | refine wk_pure_n rfl (by first | exact trivial | exact resT_cell rfl rfl (by exact inferInstance) trivial) rfl (by first | exact Vw.fmp rfl rfl rfl | exact Vw.nil | exact Vw.d _ | (repeat (first | exact Vws.nil | apply Vws.cons | exact Vw.nil | exact Vw.d _ | apply Vw.a | apply Vw.t | exact Vw.fh rfl rfl (vws_dm _) | exact Vw.fh rfl rfl Vws.nil)); done) ?_)
  all_goals (refine ⟨?_, rfl⟩)
  all_goals first
    | (rw [qranges, if_neg h]; rfl)
    | (have hq := qchk_0 (by assumption)
       rw [qranges, if_pos (by assumption), qrs]
       first | rw [if_pos (by omega)] | rw [if_neg (by omega), if_pos (by omega)] | rw [if_neg (by omega), if_neg (by omega), if_pos (by omega)] | rw [if_neg (by omega), if_neg (by omega), if_neg (by omega)])⟩
end Go.Proofs.YtohpjdeohpamaaaGreatDoor
namespace Go.Proofs.YtohpjdeohpamaaaGreatDoor
open Go.RowKit
theorem Mref22_Ranges_sp {q : TQuery} {y : List Rng} (hm : Mref22_Ranges q = some y) : Spec Tryz.prog 43 [vQ q.Kind q.Ranges q.Key q.Count] [] fun u h => u = .d (lst Rng.ds y) ∧ h = [] := by
  unfold Mref22_Ranges at hm
  split at hm
  · obtain rfl := Option.some.inj hm
    exact (inferInstance : Ct Tryz.prog 43 [vQ q.Kind q.Ranges q.Key q.Count] _ _).out (by assumption)
  · cases hm
set_option maxRecDepth 100000
set_option maxHeartbeats 4000000
attribute [local irreducible] WK WC WL Wk Rel OpD OpV WD WO sel bnd obnd app lget lsl sget ssl scat letg iquo irem Op.bytesLess
attribute [local irreducible] qchk qranges union
def Mref22_Answer_l1 (t1 : List Kv) : List Rng → List Kv → Option (List Kv)
  | [], rows6 =>
  some rows6
  | r7 :: xs8, rows6 =>
  obnd (Mref20_Slice t1 r7) fun y10 =>
  obnd (app rows6 y10) fun l11 =>
  Mref22_Answer_l1 t1 xs8 l11
def Mref22_Answer (t1 : List Kv) (q2 : TQuery) : Option (TAnswer × Int) :=
 bnd (Mref22_Check q2) fun y3 =>
 sel (!decide (y3 = 0)) (
  some ((TAnswer.mk [] (TFold.mk 0 0 0 0 0 ⟨#[]⟩ ⟨#[]⟩)), y3)) (
  obnd (Mref20_Valid t1) fun y4 =>
  sel (!y4) (
   some ((TAnswer.mk [] (TFold.mk 0 0 0 0 0 ⟨#[]⟩ ⟨#[]⟩)), 1)) (
   obnd (Mref22_Ranges q2) fun y5 =>
   obnd (
    Mref22_Answer_l1 t1 y5 [] : Option (List Kv)) fun rows12 =>
   obnd (Mref22_Take q2 rows12) fun y13 =>
   obnd (Mref21_Of y13) fun y14 =>
   some ((TAnswer.mk y13 y14), 0)))
theorem Mref22_Answer_sp {t1 : List Kv} {q2 : TQuery} {y : (TAnswer × Int)} (hm : Mref22_Answer t1 q2 = some y) : Spec Tryz.prog 14 [.d (lst Kv.ds t1), .a [vI q2.Kind, .d (lst Rng.ds q2.Ranges), vS q2.Key, vI q2.Count]] [] fun u h => u = .t [.a [.d (lst Kv.ds y.1.Rows), vI y.1.Fold.Count, vI y.1.Fold.Numbers, vI y.1.Fold.Sum, vI y.1.Fold.Low, vI y.1.Fold.High, vS y.1.Fold.First, vS y.1.Fold.Last], vI y.2] ∧ h = [] := by
 refine si Tryz.func14 Tryz.ntmps14 Tryz.results14 fun B w0 ρ0 => ?_
 unfold Mref22_Answer at hm
 refine sr ?_
 refine sr ?_
 obtain ⟨y3, hy, hm⟩ := bnd_o hm
 refine wl_cq (Mref22_Check_sp (hm := hy)) ?_
 refine sr ?_
 refine wc_cs hm ?_ ?_ <;> clear hm <;> intro hm
 ·refine sr ?_
  refine sx ?_
  cases hm
  exact wk_r
 refine sx ?_
 refine sr ?_
 obtain ⟨y4, hy, hm⟩ := obnd_o hm
 refine wl_cq (Mref20_Valid_sp (hm := hy)) ?_
 refine ss ?_
 refine wc_cs hm ?_ ?_ <;> clear hm <;> intro hm
 ·refine sr ?_
  refine sx ?_
  cases hm
  exact wk_r
 refine sx ?_
 refine sr ?_
 refine sr ?_
 obtain ⟨y5, hy, hm⟩ := obnd_o hm
 refine wl_cq (Mref22_Ranges_sp (hm := hy)) ?_
 refine ss ?_
 obtain ⟨mu1, hm1, hm⟩ := obnd_o hm
 refine wc_cut' (fun st => ∃ (rows12 : List Kv), rows12 = mu1 ∧ st = ⟨[(3, .p 103 0), (4, .p 104 0), (7, .d (lst Kv.ds rows12))], [(103, some (.box 25 [vI q2.Kind, .d (lst Rng.ds q2.Ranges), vS q2.Key, vI q2.Count])), (104, some (.box 30 [.d (.c (.slice none 0 0)), vI 0, vI 0, vI 0, vI 0, vI 0, vS ⟨#[]⟩, vS ⟨#[]⟩]))]⟩) ?_ ?_
 ·refine wc_block ?_
  refine wc_wk (wk_nil 7 5001 81 2 rfl rfl) ?_
  refine wc_len 21 rfl (fun hlenm9 => ?_)
  refine wc_loopw (fun κ st => ∃ (m9 : Nat) (rows6 : List Kv), κ = y5.length - m9 ∧ m9 ≤ y5.length ∧ Mref22_Answer_l1 t1 (y5.drop m9) rows6 = some mu1 ∧ st = ⟨[(0, .d (lst Kv.ds t1)), (3, .p 103 0), (4, .p 104 0), (7, .h 5001), (21, .d (lst Rng.ds y5)), (22, vI (y5.length : Int)), (23, vI (m9 : Int))], [(103, some (.box 25 [vI q2.Kind, .d (lst Rng.ds q2.Ranges), vS q2.Key, vI q2.Count])), (104, some (.box 30 [.d (.c (.slice none 0 0)), vI 0, vI 0, vI 0, vI 0, vI 0, vS ⟨#[]⟩, vS ⟨#[]⟩])), (5001, some (arrT 81 2 Kv.ds rows6))]⟩) [(103, 103), (104, 104), (5001, 5001)] ⟨0, _, rfl, Nat.zero_le _, hm1, rfl⟩ ?_
  rintro κ _ ⟨m9, rows6, rfl, hlem9, hm1, rfl⟩
  rcases Nat.lt_or_ge m9 y5.length with hltm9 | hgem9
  ·obtain ⟨r7, hxm9, hdr⟩ := drop_c hltm9
   rw [hdr, Mref22_Answer_l1.eq_2] at hm1
   refine sr ?_
   refine wc_seq ?_
   refine wc_cond_tt (lt_t hltm9) rfl ?_
   refine sx ?_
   refine sr ?_
   refine wl_r (o_ixm (ys := [dS r7.lo.key, dB r7.lo.top, dS r7.hi.key, dB r7.hi.top]) hxm9 rfl rfl rfl rfl) rfl rfl rfl ?_
   refine sr ?_
   obtain ⟨y10, hy, hm1⟩ := obnd_o hm1
   refine wl_cq (Mref20_Slice_sp (hm := hy)) ?_
   refine ss ?_
   obtain ⟨l11, hy, hm1⟩ := obnd_o hm1
   refine wl_2 (n_app (k' := 131) hy rfl rfl rfl rfl rfl rfl rfl rfl) rfl rfl rfl rfl ?_
   refine sr ?_
   refine wl_r (o_inc hltm9 hlenm9 rfl rfl rfl) rfl rfl rfl ?_
   refine ss ?_
   exact wk_loopw [(103, 103), (104, 104), (5001, 131)] ⟨m9 + 1, _, rfl, hltm9, hm1, rfl⟩ (by omega)
  ·rw [drop_n hgem9, Mref22_Answer_l1.eq_1] at hm1
   refine sr ?_
   refine wc_seq ?_
   refine wc_cond_ff (lt_f hgem9) rfl ?_
   refine wc_exit ?_
   refine ss ?_
   cases hm1
   exact wk_cutw [(103, 103), (104, 104)] ⟨_, rfl, rfl⟩
 rintro _ ⟨rows12, rfl, rfl⟩
 refine sr ?_
 obtain ⟨y13, hy, hm⟩ := obnd_o hm
 refine wl_cq (Mref22_Take_sp (hm := hy)) ?_
 refine sr ?_
 obtain ⟨y14, hy, hm⟩ := obnd_o hm
 refine wl_cq (Mref21_Of_sp (hm := hy)) ?_
 refine sx ?_
 cases hm
 exact wk_r

end Go.Proofs.YtohpjdeohpamaaaGreatDoor
namespace Go.Proofs.YtohpjdeohpamaaaGreatDoor
open Go.RowKit
theorem i64w_rng (a : Int) : -9223372036854775808 ≤ i64w a ∧ i64w a ≤ 9223372036854775807 := by
  constructor
  · simp [i64w, IntKind.wrap, IntKind.bits, IntKind.signed]; split <;> omega
  · simp [i64w, IntKind.wrap, IntKind.bits, IntKind.signed]; split <;> omega
theorem i64w_i64w (a : Int) : i64w (i64w a) = i64w a := i64w_id (i64w_rng a).1 (i64w_rng a).2
theorem eq_keyspace_ValidBound (b : Bnd) : Mkeyspace_ValidBound b = vb b := by
  simp only [Mkeyspace_ValidBound, bnd_eq, eq_keyspace_ValidKey, vb, sel_and, sel_or]
  congr 2
  rcases b with ⟨⟨⟨l⟩⟩, t⟩
  cases l <;> simp [ByteArray.toList_eq]
theorem eq_keyspace_Valid (r : Rng) : Mkeyspace_Valid r = vld r := by
  simp only [Mkeyspace_Valid, bnd_eq, eq_keyspace_ValidBound, eq_keyspace_Compare, sel_and, vld, Bool.and_assoc]
theorem eq_keyspace_Empty (r : Rng) : Mkeyspace_Empty r = emp r := by
  simp only [Mkeyspace_Empty, bnd_eq, eq_keyspace_Valid, eq_keyspace_Compare, sel_or, emp]
  congr 1
theorem eq_keyspace_Contains (r : Rng) (k : ByteArray) : Mkeyspace_Contains r k = contains r k := by
  simp only [Mkeyspace_Contains, bnd_eq, eq_keyspace_Empty, eq_keyspace_ValidKey, eq_keyspace_Compare, sel_and, contains, Bool.and_assoc]
theorem eq_table_Slice_l1 (r : Rng) : ∀ (t out : List Kv), t.length + out.length ≤ 4294967296 → Mtable_Slice_l1 r t out = some (out ++ t.filter fun x => contains r x.key)
  | [], out, _ => by simp [Mtable_Slice_l1]
  | x :: t, out, h => by
    simp only [List.length_cons] at h
    rw [Mtable_Slice_l1.eq_2, bnd_eq, sel_ite]
    have hk : (@contains r x.key) = true ∨ contains r x.key = false := by cases contains r x.key <;> simp
    first
      | rw [eq_ref1_Contains]
      | rw [eq_keyspace_Contains]
    rcases hk with hk | hk
    · rw [if_pos hk, app_le (by simp; omega), obnd_some, eq_table_Slice_l1 r t _ (by simp; omega), List.filter_cons, if_pos hk, List.append_assoc]; rfl
    · rw [if_neg (by simp [hk]), eq_table_Slice_l1 r t _ (by omega), List.filter_cons, if_neg (by simp [hk])]
theorem eq_table_Slice (r : Rng) (t : List Kv) (h : t.length ≤ 4294967296) : Mtable_Slice t r = some (t.filter fun x => contains r x.key) := by
  rw [Mtable_Slice, eq_table_Slice_l1 r t [] (by simpa using h), obnd_some]; rfl
theorem eq_ref20_Slice_l1 (r : Rng) : ∀ (t out : List Kv), t.length + out.length ≤ 4294967296 → Mref20_Slice_l1 r t out = some (out ++ t.filter fun x => contains r x.key)
  | [], out, _ => by simp [Mref20_Slice_l1]
  | x :: t, out, h => by
    simp only [List.length_cons] at h
    rw [Mref20_Slice_l1.eq_2, bnd_eq, sel_ite]
    have hk : (@contains r x.key) = true ∨ contains r x.key = false := by cases contains r x.key <;> simp
    first
      | rw [eq_ref1_Contains]
      | rw [eq_keyspace_Contains]
    rcases hk with hk | hk
    · rw [if_pos hk, app_le (by simp; omega), obnd_some, eq_ref20_Slice_l1 r t _ (by simp; omega), List.filter_cons, if_pos hk, List.append_assoc]; rfl
    · rw [if_neg (by simp [hk]), eq_ref20_Slice_l1 r t _ (by omega), List.filter_cons, if_neg (by simp [hk])]
theorem eq_ref20_Slice (r : Rng) (t : List Kv) (h : t.length ≤ 4294967296) : Mref20_Slice t r = some (t.filter fun x => contains r x.key) := by
  rw [Mref20_Slice, eq_ref20_Slice_l1 r t [] (by simpa using h), obnd_some]; rfl
theorem pick_ok {τ : TTape} (h : okT τ) (l : List Int) (h1 : 0 < l.length) (h2 : l.length ≤ 1000) : ∃ x τ', Mwld_Tape_Pick τ l = some (x, τ') ∧ okT τ' ∧ x ∈ l := by
  obtain ⟨x, τ', e, h', h3⟩ := next_ok h (l.length : Int) (by omega)
  unfold Cho at h3
  unfold Mwld_Tape_Pick
  obtain ⟨m, rfl⟩ := Int.eq_ofNat_of_zero_le h3.1
  rw [e, obnd_some]
  simp only
  rw [lget_nat, List.getElem?_eq_getElem (by omega), obnd_some]
  exact ⟨_, _, rfl, h', List.getElem_mem _⟩
theorem oddKey_ok {τ : TTape} (h : okT τ) : ∃ k τ', Mwld_Tape_OddKey τ = some (k, τ') ∧ okT τ' ∧ k.size ≤ 65 := by
  unfold Mwld_Tape_OddKey
  obtain ⟨b, τ1, e1, h1⟩ := bool_ok h 10 (by omega)
  rw [e1, obnd_some, sel_ite]
  simp only
  split
  · obtain ⟨y, τ2, e2, h2, hy⟩ := next_ok h1 6 (by omega)
    rw [e2, obnd_some]
    obtain ⟨s, es, hs⟩ := letg_ok hy
    obtain ⟨r, er, hr⟩ := long_ok s 65 (by omega) (by omega)
    simp only
    rw [es, obnd_some, show (65 : Int) = ((65 : Nat) : Int) from rfl, er, obnd_some]
    exact ⟨_, _, rfl, h2, by rw [hr]; omega⟩
  · obtain ⟨k, τ2, e2, h2, hk⟩ := key_ok h1
    rw [e2, obnd_some]
    exact ⟨_, _, rfl, h2, by simp only; omega⟩
theorem bound_ok {τ : TTape} (h : okT τ) : ∃ b τ', Mwld_Tape_Bound τ = some (b, τ') ∧ okT τ' ∧ b.key.size ≤ 65 := by
  unfold Mwld_Tape_Bound
  obtain ⟨x, τ1, e1, h1, hx⟩ := next_ok h 9 (by omega)
  rw [e1, obnd_some, sel_ite]
  simp only
  split
  · exact ⟨_, _, rfl, h1, by decide⟩
  · rw [sel_ite]
    split
    · obtain ⟨k, τ2, e2, h2, hk⟩ := oddKey_ok h1
      obtain ⟨b, τ3, e3, h3⟩ := bool_ok h2 3 (by omega)
      rw [e2, obnd_some]; simp only; rw [e3, obnd_some]
      exact ⟨_, _, rfl, h3, hk⟩
    · obtain ⟨k, τ2, e2, h2, hk⟩ := key_ok h1
      rw [e2, obnd_some]
      exact ⟨_, _, rfl, h2, by simp only; omega⟩
theorem range_ok {τ : TTape} (h : okT τ) : ∃ r τ', Mwld_Tape_Range τ = some (r, τ') ∧ okT τ' ∧ r.lo.key.size ≤ 65 ∧ r.hi.key.size ≤ 65 := by
  unfold Mwld_Tape_Range
  obtain ⟨a, τ1, e1, h1, ha⟩ := bound_ok h
  obtain ⟨b, τ2, e2, h2, hb⟩ := bound_ok h1
  obtain ⟨c, τ3, e3, h3⟩ := bool_ok h2 6 (by omega)
  rw [e1, obnd_some]; simp only; rw [e2, obnd_some]; simp only; rw [e3, obnd_some]
  simp only [sel_ite]
  repeat' split
  all_goals first | exact ⟨_, _, rfl, h3, ha, hb⟩ | exact ⟨_, _, rfl, h3, hb, ha⟩
theorem proper_ok {τ : TTape} (h : okT τ) : ∃ r τ', Mwld_Tape_Proper τ = some (r, τ') ∧ okT τ' ∧ emp r = false := by
  unfold Mwld_Tape_Proper
  obtain ⟨r, τ1, e1, h1, -⟩ := range_ok h
  rw [e1, obnd_some, bnd_eq, eq_ref1_Empty, sel_ite]
  split
  · exact ⟨_, _, rfl, h1, by kernel_rfl⟩
  · rename_i hne
    exact ⟨_, _, rfl, h1, by simpa using hne⟩
end Go.Proofs.YtohpjdeohpamaaaGreatDoor
namespace Go.Proofs.YtohpjdeohpamaaaGreatDoor
open Go.RowKit
theorem query_l1_ok : ∀ (fuel : Nat) (l : List Int) (a : Int) (q : List Rng) (i : Int), okT ⟨l, a⟩ → (i + 1).toNat < fuel → -1 ≤ i → (q.length : Int) + i ≤ 100 → (∀ r ∈ q, emp r = false) → ∃ q' l' a', Mwld_Tape_Query_l1 fuel l a q i = some (q', l', a') ∧ okT ⟨l', a'⟩ ∧ (q'.length : Int) = q.length + i + 1 ∧ ∀ r ∈ q', emp r = false
  | 0, _, _, _, _, _, h, _, _, _ => absurd h (by omega)
  | fuel + 1, l, a, q, i, h, hf, h1, hl, he => by
    rw [Mwld_Tape_Query_l1.eq_2, sel_ite]
    by_cases hi : 0 ≤ i
    · rw [if_pos (by simpa using hi), obnd_some, ocbnd_nxt]
      obtain ⟨r, τ1, e1, g1, hr⟩ := proper_ok h
      rw [e1, obnd_some, app_le (by simp; omega), obnd_some, i64w_id (by omega) (by omega)]
      obtain ⟨q', l', a', e, k1, k2, k3⟩ := query_l1_ok fuel τ1.l τ1.at_ (q ++ [r]) (i - 1) g1 (by omega) (by omega) (by simp; omega) (fun x hx => by
        rcases List.mem_append.1 hx with hx | hx
        · exact he x hx
        · rw [List.mem_singleton.1 hx]; exact hr)
      exact ⟨q', l', a', e, k1, by rw [k2]; simp; omega, k3⟩
    · rw [if_neg (by simpa using hi), obnd_some, ocbnd_ret]
      exact ⟨_, _, _, rfl, h, by omega, he⟩
def qok (q : TQuery) : Prop := qchk q.Kind q.Ranges q.Key q.Count = 0 ∧ q.Ranges.length ≤ 4 ∧ 0 ≤ q.Count ∧ q.Count ≤ 1024 ∧ q.Key.size ≤ 64
theorem query_ok {τ : TTape} (h : okT τ) : ∃ q τ', Mwld_Tape_Query τ = some (q, τ') ∧ okT τ' ∧ qok q := by
  unfold Mwld_Tape_Query
  obtain ⟨x, τ1, e1, h1, hx⟩ := next_ok h 4 (by omega)
  unfold Cho at hx
  rw [e1, obnd_some]; simp only
  rw [i64w_id (by omega) (by omega), sel_ite]
  by_cases c1 : 1 + x = 1
  · rw [if_pos (by simpa using c1)]
    obtain ⟨y, τ2, e2, h2, hy⟩ := next_ok h1 4 (by omega)
    unfold Cho at hy
    rw [e2, obnd_some]; simp only
    obtain ⟨q', l', a', e, k1, k2, k3⟩ := query_l1_ok FU τ2.l τ2.at_ [] y h2 (by unfold FU; omega) (by omega) (by simp; omega) (by simp)
    rw [e, obnd_some, obnd_some]
    simp at k2
    exact ⟨_, _, rfl, k1, by rw [c1]; exact qmade_1 (l := q') k3 (by omega)⟩
  · rw [if_neg (by simpa using c1), sel_ite]
    by_cases c2 : 1 + x = 2
    · rw [if_pos (by simpa using c2)]
      obtain ⟨k, τ2, e2, h2, hk⟩ := key_ok h1
      rw [e2, obnd_some, obnd_some]
      exact ⟨_, _, rfl, h2, by rw [c2]; exact qmade_2 hk⟩
    · rw [if_neg (by simpa using c2)]
      obtain ⟨k, τ2, e2, h2, hk⟩ := key_ok h1
      obtain ⟨c, τ3, e3, h3, hc⟩ := pick_ok h2 [1, 2, 3, 5, 1024] (by decide) (by decide)
      rw [e2, obnd_some]; simp only; rw [e3, obnd_some, obnd_some]
      exact ⟨_, _, rfl, h3, qmade_3 (k := 1 + x) (by omega) hk hc⟩
theorem oddQuery_l1_ok (y : Int × TTape) (hy : y.1 ≤ 100) : ∀ (fuel : Nat) (q : List Rng), (y.1 - q.length).toNat < fuel → q.length ≤ 100 → ∃ q', Mwld_Tape_OddQuery_l1 y fuel q = some q' ∧ q'.length ≤ 100
  | 0, _, h, _ => absurd h (by omega)
  | fuel + 1, q, h, hq => by
    rw [Mwld_Tape_OddQuery_l1.eq_2, sel_ite]
    split
    · rename_i hh
      simp only [decide_eq_true_eq] at hh
      rw [app_le (by simp; omega), obnd_some]
      exact oddQuery_l1_ok y hy fuel _ (by simp; omega) (by simp; omega)
    · exact ⟨_, rfl, hq⟩
theorem oddQuery_ok {τ : TTape} (h : okT τ) : ∃ q τ', Mwld_Tape_OddQuery τ = some (q, τ') ∧ okT τ' ∧ q.Ranges.length ≤ 100 := by
  unfold Mwld_Tape_OddQuery
  obtain ⟨q, τ1, e1, h1, hq⟩ := query_ok h
  have hq2 := hq.2.1
  obtain ⟨x, τ2, e2, h2, hx⟩ := next_ok h1 6 (by omega)
  rw [e1, obnd_some]; simp only; rw [e2, obnd_some]; simp only
  have fin : ∀ {M : Option (Int × List Rng × ByteArray × Int × List Int × Int)}, (∃ a b c d l a', M = some (a, b, c, d, l, a') ∧ okT ⟨l, a'⟩ ∧ b.length ≤ 100) → ∃ q τ', (obnd M fun (q13, q14, q15, q16, x17, x18) => some ((TQuery.mk q13 q14 q15 q16), (TTape.mk x17 x18))) = some (q, τ') ∧ okT τ' ∧ q.Ranges.length ≤ 100 := by
    rintro _ ⟨a, b, c, d, l, a', rfl, g1, g2⟩
    exact ⟨_, _, rfl, g1, g2⟩
  refine fin ?_
  rw [sel_ite]; split
  · obtain ⟨y, τ3, e3, h3, hy⟩ := pick_ok h2 [0, 5, (-1), 1, 2, 3, 4] (by decide) (by decide)
    rw [e3, obnd_some]
    exact ⟨_, _, _, _, _, _, rfl, h3, by omega⟩
  rw [sel_ite]; split
  · obtain ⟨y, τ3, e3, h3, hy⟩ := oddKey_ok h2
    rw [e3, obnd_some]
    exact ⟨_, _, _, _, _, _, rfl, h3, by omega⟩
  rw [sel_ite]; split
  · obtain ⟨y, τ3, e3, h3, hy⟩ := pick_ok h2 [0, (-1), 1024, 1025, 1] (by decide) (by decide)
    rw [e3, obnd_some]
    exact ⟨_, _, _, _, _, _, rfl, h3, by omega⟩
  rw [sel_ite]; split
  · obtain ⟨y, τ3, e3, h3, -⟩ := range_ok h2
    rw [e3, obnd_some, app_le (by simp; omega), obnd_some]
    exact ⟨_, _, _, _, _, _, rfl, h3, by simp; omega⟩
  rw [sel_ite]; split
  · obtain ⟨y, τ3, e3, h3, hy⟩ := pick_ok h2 [64, 65] (by decide) (by decide)
    have hy' : y = 64 ∨ y = 65 := by simpa using hy
    rw [e3, obnd_some]
    obtain ⟨q', e, hq'⟩ := oddQuery_l1_ok (y, τ3) (by simp only; omega) FU q.Ranges (by unfold FU; simp only; omega) (by omega)
    rw [e, obnd_some]
    exact ⟨_, _, _, _, _, _, rfl, h3, hq'⟩
  · exact ⟨_, _, _, _, _, _, rfl, h2, by omega⟩
end Go.Proofs.YtohpjdeohpamaaaGreatDoor
namespace Go.Proofs.YtohpjdeohpamaaaGreatDoor
open Go.RowKit
theorem eq_ref22_Check_l1 : ∀ l : List Rng, Mref22_Check_l1 l = sel (l.all vld) (.nxt ()) (.ret 1)
  | [] => rfl
  | r :: l => by
    rw [Mref22_Check_l1.eq_2, bnd_eq, eq_ref1_Valid, eq_ref22_Check_l1 l, List.all_cons]
    cases vld r <;> rfl
theorem eq_ref22_Check (q : TQuery) : Mref22_Check q = qchk q.Kind q.Ranges q.Key q.Count := by
  obtain ⟨k, l, key, c⟩ := q
  unfold Mref22_Check qchk
  simp only [bnd_eq, eq_ref22_Check_l1, eq_ref1_ValidKey, sel_ite, decide_eq_true_eq, Bool.not_eq_true', decide_eq_false_iff_not]
  by_cases a1 : k < 1 ∨ 4 < k
  · rcases a1 with a1 | a1
    · simp [a1]
    · have : ¬ k < 1 := by omega
      simp [a1, this]
  have b1 : ¬ k < 1 := by omega
  have b2 : ¬ 4 < k := by omega
  by_cases a2 : 64 < l.length
  · have : 64 < (l.length : Int) := by omega
    simp [b1, b2, a2, this]
  have b3 : ¬ 64 < (l.length : Int) := by omega
  cases hv : l.all vld with
  | false => simp [b1, b2, a2, b3, hv, cbnd_ret]
  | true =>
    simp only [b1, b2, a2, b3, hv, if_true, if_false, cbnd_nxt, Bool.false_eq_true, or_self, decide_false]
    have hl : (0 < (l.length : Int)) ↔ 0 < l.length := by omega
    by_cases h1 : vk key = false
    · simp [h1]
    · have h1' : vk key = true := by simpa using h1
      by_cases h2 : 0 < l.length <;> by_cases h3 : k = 1 <;> by_cases h4 : key = ⟨#[]⟩ <;> by_cases h5 : k = 3 <;> by_cases h6 : k = 4 <;> first
        | (exfalso; omega)
        | (simp [h1', h2, h3, h4, h5, h6] <;> (repeat' split) <;> first | rfl | omega | (simp_all; done) | (simp_all; omega))
theorem eq_query_Check (q : TQuery) (h : q.Ranges.length < 1000000) : Mquery_Check q = some (qchk q.Kind q.Ranges q.Key q.Count) := if_pos h
theorem eq_ranges (q : TQuery) (h : q.Ranges.length < 1000000) : Mquery_Ranges q = some (qranges q.Kind q.Ranges q.Key q.Count) ∧ Mref22_Ranges q = some (qranges q.Kind q.Ranges q.Key q.Count) := ⟨if_pos h, if_pos h⟩
end Go.Proofs.YtohpjdeohpamaaaGreatDoor
