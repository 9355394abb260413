/-
  Lemmas: Models and walks: the law ReceiptMakes.
-/
import Derived.Test.YtlbnhhfaedhgfaaGreatDoorPR31
import Derived.Test.YtlbnhhfaedhgfaaGreatDoorPR30
import Derived.Test.YtlbnhhfaedhgfaaGreatDoorPR32
namespace Go.Proofs.YtlbnhhfaedhgfaaGreatDoor
set_option linter.unusedSimpArgs false
set_option linter.unusedVariables false
open Go.RowKit
set_option maxRecDepth 100000
set_option maxHeartbeats 4000000
attribute [local irreducible] WK WC WL Wk Rel OpD OpV WD WO sel bnd obnd app lget lsl sget ssl scat letg iquo irem Op.bytesLess
attribute [local irreducible] qchk qranges union
def Mlaw29_ReceiptMakes_l1 (l14 : List TWalk) : Nat → Int → Option (Ctl Bool Unit)
  | 0, _ => none
  | fuel + 1, x15 =>
  obnd (
   sel (decide (x15 < (l14.length : Int))) (
    some (Ctl.nxt ())) (
    some (Ctl.ret (Ctl.nxt ()))) : Option (Ctl (Ctl Bool Unit) Unit)) fun mu => ocbnd mu fun (_ : Unit) =>
  obnd (lget l14 x15) fun e16 =>
  bnd (Mlaw29_small e16.Visits) fun y17 =>
  sel (!y17) (
   obnd (Mlaw29_awake) fun y18 =>
   some (Ctl.ret y18)) (
   sel (decide (80 < (e16.Query.Ranges.length : Int))) (
    obnd (Mlaw29_awake) fun y19 =>
    some (Ctl.ret y19)) (
    sel (decide (80 < (e16.Todo.length : Int))) (
     obnd (Mlaw29_awake) fun y20 =>
     some (Ctl.ret y20)) (
     Mlaw29_ReceiptMakes_l1 l14 fuel (i64w (x15 + 1)))))
def Mlaw29_ReceiptMakes (l1 : List Int) (a2 : List TWalk) (b3 : List TWalk) : Option Bool :=
 obnd (
  sel (decide (10 < (a2.length : Int))) (
   some true) (
   some (decide (10 < (b3.length : Int)))) : Option Bool) fun x4 =>
 sel x4 (
  obnd (Mlaw29_awake) fun y5 =>
  some y5) (
  obnd (Mwld_New l1) fun y6 =>
  obnd (Mwld_Tape_Query y6) fun y7 =>
  obnd (Mwld_Tape_Net y7.2 4) fun y8 =>
  obnd (Mwld_Views y8.1) fun y9 =>
  obnd (Mlaw29_run y7.1 y9) fun y10 =>
  obnd (Mwld_Tape_Query y8.2) fun y11 =>
  obnd (Mlaw29_run y11.1 y9) fun y12 =>
  obnd (app ([] : List TWalk) a2) fun l13 =>
  obnd (app l13 b3) fun l14 =>
  obnd (
   Mlaw29_ReceiptMakes_l1 l14 FU 0 : Option (Ctl Bool Unit)) fun mu => ocbnd mu fun (_ : Unit) =>
  obnd (Mreceipt_Make y7.1 a2 b3) fun y21 =>
  obnd (Mref28_Make y7.1 a2 b3) fun y22 =>
  obnd (Mref28_SameReceipt y21 y22) fun y23 =>
  sel y23 (
   obnd (Mreceipt_Make y7.1 ([y10, y12] : List TWalk) a2) fun y24 =>
   obnd (Mref28_Make y7.1 ([y10, y12] : List TWalk) a2) fun y25 =>
   obnd (Mref28_SameReceipt y24 y25) fun y26 =>
   sel y26 (
    obnd (Mlaw29_awake) fun y27 =>
    some y27) (
    some false)) (
   some false))
theorem Mlaw29_ReceiptMakes_sp {l1 : List Int} {a2 : List TWalk} {b3 : List TWalk} {y : Bool} (hm : Mlaw29_ReceiptMakes l1 a2 b3 = some y) : Spec Tryz.prog 11 [.d (lst dsI l1), .d (lst TWalk.ds a2), .d (lst TWalk.ds b3)] [] fun u h => u = vB y ∧ h = [] := by
 refine Spec.intro Tryz.func11 rfl rfl Tryz.ntmps11 Tryz.results11 rfl fun B w0 ρ0 => ?_
 simp only [slots, List.map_nil, List.map_cons, Nat.reduceAdd]
 unfold Mlaw29_ReceiptMakes at hm
 have hm0 := hm
 clear hm
 refine sr ?_
 refine wc_seq ?_
 refine wc_seq ?_
 obtain ⟨mu1, hm1, hm0⟩ := obnd_o hm0
 refine wc_cut' (fun st => ∃ (x4 : Bool), x4 = mu1 ∧ st = ⟨[(0, .d (lst dsI l1)), (1, .d (lst TWalk.ds a2)), (2, .d (lst TWalk.ds b3)), (20, vB x4)], []⟩) ?_ ?_
 ·refine sr ?_
  refine wl_sg hm1 ?_ ?_ <;> clear hm1 <;> intro hm1
  ·refine ss ?_
   cases hm1
   exact wk_cutw [] ⟨_, rfl, rfl⟩
  refine ss ?_
  cases hm1
  exact wk_cutw [] ⟨_, rfl, rfl⟩
 rintro _ ⟨x4, rfl, rfl⟩
 refine ss ?_
 refine wc_cs hm0 ?_ ?_ <;> clear hm0 <;> intro hm0
 ·refine sr ?_
  obtain ⟨y5, hy, hm0⟩ := obnd_o hm0
  refine wl_cq (Mlaw29_awake_sp (hm := hy)) ?_
  refine sx ?_
  cases hm0
  exact wk_r
 refine sx ?_
 refine sr ?_
 obtain ⟨y6, hy, hm0⟩ := obnd_o hm0
 refine wl_mkn (u' := .p 202301 0) (h' := [(202301, some (.box 119 [.d (lst dsI y6.l), vI y6.at_]))]) (Mwld_New_sp (hm := hy)) 202300 rfl rfl rfl (by repeat (first | exact Vws.nil | apply Vws.cons | exact Vw.nil | exact Vw.d _ | exact Vw.q _ | apply Vw.a)) rfl (by (try simp only [renH, Option.map_some, Blk.ren, rens_d]); rfl) rfl rfl rfl rfl ?_
 refine sr ?_
 obtain ⟨y7, hy, hm0⟩ := obnd_o hm0
 refine wl_iq (Mwld_Tape_Query_sp (hm := hy)) 202301 ?_
 refine sr ?_
 obtain ⟨y8, hy, hm0⟩ := obnd_o hm0
 refine wl_iq (Mwld_Tape_Net_sp (hm := hy)) 202301 ?_
 refine ss ?_
 obtain ⟨y9, hy, hm0⟩ := obnd_o hm0
 refine wl_cq (Mwld_Views_sp (hm := hy)) ?_
 refine sr ?_
 obtain ⟨y10, hy, hm0⟩ := obnd_o hm0
 refine wl_cq (Mlaw29_run_sp (hm := hy)) ?_
 refine ss ?_
 obtain ⟨y11, hy, hm0⟩ := obnd_o hm0
 refine wl_iq (Mwld_Tape_Query_sp (hm := hy)) 202301 ?_
 refine ss ?_
 obtain ⟨y12, hy, hm0⟩ := obnd_o hm0
 refine wl_cq (Mlaw29_run_sp (hm := hy)) ?_
 refine ss ?_
 refine wl_bt TWalk.ds [y10, y12] rfl rfl (by simp only [flatV, cellsV, List.cons_append, List.nil_append, List.append_nil]; exact rfl) rfl rfl rfl rfl rfl rfl ?_
 refine sr ?_
 obtain ⟨l13, hy, hm0⟩ := obnd_o hm0
 refine wl_1 (n_appn (k := 138) hy rfl rfl rfl rfl rfl rfl) rfl rfl rfl rfl ?_
 refine ss ?_
 obtain ⟨l14, hy, hm0⟩ := obnd_o hm0
 refine wl_2 (n_app (k' := 140) hy rfl rfl rfl rfl rfl rfl rfl rfl) rfl rfl rfl rfl ?_
 refine ss ?_
 obtain ⟨mu1, hm1, hm0⟩ := obnd_o hm0
 refine wc_cut' (fun st => mu1 = Ctl.nxt () ∧ st = ⟨[(1, .d (lst TWalk.ds a2)), (2, .d (lst TWalk.ds b3)), (8, .p 108 0), (10, .d (lst TWalk.ds ([y10, y12] : List TWalk)))], [(108, some (.box 27 [vI y7.1.Kind, .d (lst Rng.ds y7.1.Ranges), vS y7.1.Key, vI y7.1.Count]))]⟩) ?_ ?_
 ·refine wc_block ?_
  refine wc_loopw (fun κ st => ∃ (x15 : Int), Mlaw29_ReceiptMakes_l1 l14 κ x15 = some mu1 ∧ st = ⟨[(1, .d (lst TWalk.ds a2)), (2, .d (lst TWalk.ds b3)), (8, .p 108 0), (10, .d (lst TWalk.ds ([y10, y12] : List TWalk))), (40, .h 140), (41, vI (l14.length : Int)), (42, vI x15)], [(108, some (.box 27 [vI y7.1.Kind, .d (lst Rng.ds y7.1.Ranges), vS y7.1.Key, vI y7.1.Count])), (140, some (arrT 30 6 TWalk.ds l14))]⟩) [(108, 108), (140, 140)] ⟨_, hm1, rfl⟩ ?_
  rintro κ _ ⟨x15, hm1, rfl⟩
  cases κ with
  | zero => rw [Mlaw29_ReceiptMakes_l1.eq_1] at hm1; cases hm1
  | succ κ =>
   rw [Mlaw29_ReceiptMakes_l1.eq_2] at hm1
   refine sr ?_
   refine wc_seq ?_
   obtain ⟨mu2, hm2, hm1⟩ := obnd_o hm1
   refine wc_cut' (fun st => mu2 = Ctl.nxt () ∧ st = ⟨[(1, .d (lst TWalk.ds a2)), (2, .d (lst TWalk.ds b3)), (8, .p 108 0), (10, .d (lst TWalk.ds ([y10, y12] : List TWalk))), (40, .h 140), (41, vI (l14.length : Int)), (42, vI x15)], [(108, some (.box 27 [vI y7.1.Kind, .d (lst Rng.ds y7.1.Ranges), vS y7.1.Key, vI y7.1.Count])), (140, some (arrT 30 6 TWalk.ds l14))]⟩) ?_ ?_
   ·refine wc_cs hm2 ?_ ?_ <;> clear hm2 <;> intro hm2
    ·refine sx ?_
     cases hm2
     exact wk_cutw [(108, 108), (140, 140)] ⟨rfl, rfl⟩
    refine wc_exit ?_
    refine ss ?_
    cases hm2
    replace hm1 := ocbnd_r hm1
    cases hm1
    exact wk_cutw [(108, 108)] ⟨rfl, rfl⟩
   rintro _ ⟨rfl, rfl⟩
   replace hm1 := ocbnd_n hm1
   refine sr ?_
   obtain ⟨e16, hy, hm1⟩ := obnd_o hm1
   have hge16 := hy
   refine wl_r (o_ixo hy rfl rfl rfl rfl) rfl rfl rfl ?_
   refine ss ?_
   refine wl_r (o_ldo (k := 140) (f := TWalk.ds) (zz := 6) (u := .a [vI e16.Query.Kind, .d (lst Rng.ds e16.Query.Ranges), vS e16.Query.Key, vI e16.Query.Count, .d (lst Rng.ds e16.Todo), .d (lst TVisit.ds e16.Visits)]) (off := 0) hge16 rfl rfl rfl (by exact inferInstance) rfl rfl) rfl rfl rfl ?_
   refine sr ?_
   obtain ⟨y17, hy, hm1⟩ := bnd_o hm1
   refine wl_cq (Mlaw29_small_sp (hm := hy)) ?_
   refine ss ?_
   refine wl_sg hm1 ?_ ?_ <;> clear hm1 <;> intro hm1
   ·refine ss ?_
    refine wc_cond_t rfl ?_
    refine sr ?_
    obtain ⟨y18, hy, hm1⟩ := obnd_o hm1
    refine wl_cq (Mlaw29_awake_sp (hm := hy)) ?_
    refine sx ?_
    cases hm1
    replace hm0 := ocbnd_r hm0
    cases hm0
    exact wk_r
   refine ss ?_
   refine wl_sg hm1 ?_ ?_ <;> clear hm1 <;> intro hm1
   ·refine ss ?_
    refine wc_cond_t rfl ?_
    refine sr ?_
    obtain ⟨y19, hy, hm1⟩ := obnd_o hm1
    refine wl_cq (Mlaw29_awake_sp (hm := hy)) ?_
    refine sx ?_
    cases hm1
    replace hm0 := ocbnd_r hm0
    cases hm0
    exact wk_r
   refine ss ?_
   refine wc_cs hm1 ?_ ?_ <;> clear hm1 <;> intro hm1
   ·refine sr ?_
    obtain ⟨y20, hy, hm1⟩ := obnd_o hm1
    refine wl_cq (Mlaw29_awake_sp (hm := hy)) ?_
    refine sx ?_
    cases hm1
    replace hm0 := ocbnd_r hm0
    cases hm0
    exact wk_r
   refine sx ?_
   refine sr ?_
   refine wl_r (o_add rfl rfl rfl rfl) rfl rfl rfl ?_
   refine ss ?_
   exact wk_loopw [(108, 108), (140, 140)] ⟨_, hm1, rfl⟩ (Nat.lt_succ_self _)
 rintro _ ⟨rfl, rfl⟩
 replace hm0 := ocbnd_n hm0
 refine ss ?_
 refine wc_seq ?_
 refine wc_draw (id := 13) [⟨0, 0, [8]⟩, ⟨1, 0, [1]⟩, ⟨2, 0, [2]⟩, ⟨4, 0, [8]⟩, ⟨5, 0, [1]⟩, ⟨6, 0, [2]⟩, ⟨3, 7, [65, 66, 67]⟩, ⟨7, 127, [69, 70, 71]⟩, ⟨8, 255, [68, 72]⟩, ⟨9, 511, [73]⟩, ⟨10, 1023, [8, 74]⟩, ⟨11, 1023, [10, 74]⟩, ⟨12, 1023, [1, 74]⟩, ⟨14, 1023, [8, 74]⟩, ⟨15, 1023, [10, 74]⟩, ⟨16, 1023, [1, 74]⟩, ⟨13, 8191, [74, 75, 76, 77]⟩, ⟨17, 131071, [74, 79, 80, 81]⟩, ⟨18, 262143, [74, 78, 82]⟩, ⟨19, 524287, [74, 83]⟩, ⟨20, 1048575, [84]⟩, ⟨21, 2097151, [85]⟩, ⟨22, 4194303, [85, 86]⟩, ⟨23, 8388607, [87]⟩] mixed (by kernel_rfl) ?_
 refine ss ?_
 obtain ⟨y21, hy, hm0⟩ := obnd_o hm0
 refine wd_cs (Mreceipt_Make_sp (hm := hy)) rfl rfl rfl (by repeat (first | exact Vws.nil | apply Vws.cons | exact Vw.nil | exact Vw.d _ | exact Vw.q _ | apply Vw.a)) rfl rfl (by first | exact .no rfl | exact .y rfl rfl rfl rfl) rfl rfl rfl ?_
 refine ss ?_
 obtain ⟨y22, hy, hm0⟩ := obnd_o hm0
 refine wd_cs (Mref28_Make_sp (hm := hy)) rfl rfl rfl (by repeat (first | exact Vws.nil | apply Vws.cons | exact Vw.nil | exact Vw.d _ | exact Vw.q _ | apply Vw.a)) rfl rfl (by first | exact .no rfl | exact .y rfl rfl rfl rfl) rfl rfl rfl ?_
 refine ss ?_
 obtain ⟨y23, hy, hm0⟩ := obnd_o hm0
 refine wd_cs (Mref28_SameReceipt_sp (hm := hy)) rfl rfl rfl (by repeat (first | exact Vws.nil | apply Vws.cons | exact Vw.nil | exact Vw.d _ | exact Vw.q _ | apply Vw.a)) rfl rfl (by first | exact .no rfl | exact .y rfl rfl rfl rfl) rfl rfl rfl ?_
 refine ss ?_
 refine wd_gp rfl rfl rfl rfl (fun h => ?_) (fun h => ?_)
 ·replace hm0 := sel_t h hm0
  refine ss ?_
  obtain ⟨y24, hy, hm0⟩ := obnd_o hm0
  refine wd_cs (Mreceipt_Make_sp (hm := hy)) rfl rfl rfl (by repeat (first | exact Vws.nil | apply Vws.cons | exact Vw.nil | exact Vw.d _ | exact Vw.q _ | apply Vw.a)) rfl rfl (by first | exact .no rfl | exact .y rfl rfl rfl rfl) rfl rfl rfl ?_
  refine ss ?_
  obtain ⟨y25, hy, hm0⟩ := obnd_o hm0
  refine wd_cs (Mref28_Make_sp (hm := hy)) rfl rfl rfl (by repeat (first | exact Vws.nil | apply Vws.cons | exact Vw.nil | exact Vw.d _ | exact Vw.q _ | apply Vw.a)) rfl rfl (by first | exact .no rfl | exact .y rfl rfl rfl rfl) rfl rfl rfl ?_
  refine ss ?_
  obtain ⟨y26, hy, hm0⟩ := obnd_o hm0
  refine wd_cs (Mref28_SameReceipt_sp (hm := hy)) rfl rfl rfl (by repeat (first | exact Vws.nil | apply Vws.cons | exact Vw.nil | exact Vw.d _ | exact Vw.q _ | apply Vw.a)) rfl rfl (by first | exact .no rfl | exact .y rfl rfl rfl rfl) rfl rfl rfl ?_
  refine ss ?_
  refine wd_gp rfl rfl rfl rfl (fun h => ?_) (fun h => ?_)
  ·replace hm0 := sel_t h hm0
   refine ss ?_
   obtain ⟨y27, hy, hm0⟩ := obnd_o hm0
   refine wd_cs (Mlaw29_awake_sp (hm := hy)) rfl rfl rfl (by repeat (first | exact Vws.nil | apply Vws.cons | exact Vw.nil | exact Vw.d _ | exact Vw.q _ | apply Vw.a)) rfl rfl (by first | exact .no rfl | exact .y rfl rfl rfl rfl) rfl rfl rfl ?_
   refine sx ?_
   cases hm0
   exact wk_r
  replace hm0 := sel_f h hm0
  refine sx ?_
  cases hm0
  exact wk_r
 replace hm0 := sel_f h hm0
 refine sx ?_
 cases hm0
 exact wk_r

end Go.Proofs.YtlbnhhfaedhgfaaGreatDoor
