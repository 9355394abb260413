/-
  Lemmas: Models and walks: the law WalkSteps.
-/
import Derived.Test.YtlbnhhfaedhgfaaGreatDoorPW26
import Derived.Test.YtlbnhhfaedhgfaaGreatDoorPW23
import Derived.Test.YtlbnhhfaedhgfaaGreatDoorPW25
namespace Go.Proofs.YtlbnhhfaedhgfaaGreatDoor
set_option linter.unusedSimpArgs false
set_option linter.unusedVariables false
open Go.RowKit
set_option maxRecDepth 100000
set_option maxHeartbeats 4000000
attribute [local irreducible] WK WC WL Wk Rel OpD OpV WD WO sel bnd obnd app lget lsl sget ssl scat letg iquo irem Op.bytesLess
attribute [local irreducible] qchk qranges union
def Mlaw28_begin (q1 : TQuery) : Option TWalk :=
  obnd (Mref22_Ranges q1) fun y2 =>
  obnd (Mref28_Start q1 y2) fun y3 =>
  some y3.1
theorem Mlaw28_begin_sp {q1 : TQuery} {y : TWalk} (hm : Mlaw28_begin q1 = some y) : Spec Tryz.prog 15 [.a [vI q1.Kind, .d (lst Rng.ds q1.Ranges), vS q1.Key, vI q1.Count]] [] fun u h => u = .a [vI y.Query.Kind, .d (lst Rng.ds y.Query.Ranges), vS y.Query.Key, vI y.Query.Count, .d (lst Rng.ds y.Todo), .d (lst TVisit.ds y.Visits)] ∧ h = [] := by
  refine Spec.intro Tryz.func15 rfl rfl Tryz.ntmps15 Tryz.results15 rfl fun B w0 ρ0 => ?_
  simp only [slots, List.map_nil, List.map_cons, Nat.reduceAdd]
  unfold Mlaw28_begin at hm
  have hm0 := hm
  clear hm
  refine sr ?_
  refine wc_seq ?_
  refine wc_draw (id := 1) [⟨0, 0, [1]⟩, ⟨1, 0, [1]⟩, ⟨7, 0, []⟩, ⟨2, 2, [7]⟩, ⟨3, 7, [6, 8]⟩, ⟨4, 15, [9]⟩, ⟨5, 31, [5]⟩, ⟨6, 31, [5]⟩, ⟨8, 191, [3, 10]⟩, ⟨9, 511, [11]⟩] mixed (by kernel_rfl) ?_
  refine ss ?_
  obtain ⟨y2, hy, hm0⟩ := obnd_o hm0
  refine wd_cs (Mref22_Ranges_sp (hm := hy)) rfl rfl rfl (by repeat (first | exact Vws.nil | apply Vws.cons | exact Vw.nil | exact Vw.d _ | exact Vw.q _ | apply Vw.a)) rfl rfl (by first | exact .no rfl | exact .y rfl rfl rfl rfl) rfl rfl rfl ?_
  refine ss ?_
  obtain ⟨y3, hy, hm0⟩ := obnd_o hm0
  refine wd_cs (Mref28_Start_sp (hm := hy)) rfl rfl rfl (by repeat (first | exact Vws.nil | apply Vws.cons | exact Vw.nil | exact Vw.d _ | exact Vw.q _ | apply Vw.a)) rfl rfl (by first | exact .no rfl | exact .y rfl rfl rfl rfl) rfl rfl rfl ?_
  refine sr ?_
  refine sx ?_
  obtain rfl := Option.some.inj hm0
  exact wk_ret ⟨rfl, rfl⟩

def Mlaw28_agree (w1 : TWalk) (v2 : TView) : Option Bool :=
  obnd (Mwalk_Want w1) fun y3 =>
  obnd (Mref28_Want w1) fun y4 =>
  obnd (Mwalk_Take w1 v2) fun y5 =>
  obnd (Mref28_Take w1 v2) fun y6 =>
  sel (y3.2 == y4.2) (
    sel (decide (y3.1.lo.key = y4.1.lo.key) && decide (y3.1.lo.top = y4.1.lo.top) && decide (y3.1.hi.key = y4.1.hi.key) && decide (y3.1.hi.top = y4.1.hi.top)) (
      obnd (Mwalk_Done w1) fun y7 =>
      obnd (Mref28_Done w1) fun y8 =>
      sel (y7 == y8) (
        obnd (Mwalk_Rows w1) fun y9 =>
        obnd (Mref28_Rows w1.Visits) fun y10 =>
        obnd (Mref20_Same y9 y10) fun y11 =>
        sel y11 (
          sel (decide (y5.2 = y6.2)) (
            obnd (Mref28_SameWalk y5.1 y6.1) fun y12 =>
            sel y12 (
              obnd (Mwalk_ValidView v2) fun y13 =>
              obnd (Mref28_ValidView v2) fun y14 =>
              some (y13 == y14)) (
              some false)) (
            some false)) (
          some false)) (
        some false)) (
      some false)) (
    some false)
theorem Mlaw28_agree_sp {w1 : TWalk} {v2 : TView} {y : Bool} (hm : Mlaw28_agree w1 v2 = some y) : Spec Tryz.prog 26 [.a [vI w1.Query.Kind, .d (lst Rng.ds w1.Query.Ranges), vS w1.Query.Key, vI w1.Query.Count, .d (lst Rng.ds w1.Todo), .d (lst TVisit.ds w1.Visits)], .a [vI v2.Owner, vS v2.Interval.lo.key, vB v2.Interval.lo.top, vS v2.Interval.hi.key, vB v2.Interval.hi.top, vI v2.Stamp.Epoch, vI v2.Stamp.Version, .d (lst Kv.ds v2.Rows)]] [] fun u h => u = vB y ∧ h = [] := by
  refine Spec.intro Tryz.func26 rfl rfl Tryz.ntmps26 Tryz.results26 rfl fun B w0 ρ0 => ?_
  simp only [slots, List.map_nil, List.map_cons, Nat.reduceAdd]
  unfold Mlaw28_agree at hm
  have hm0 := hm
  clear hm
  refine sr ?_
  refine sr ?_
  obtain ⟨y3, hy, hm0⟩ := obnd_o hm0
  refine wl_cq (Mwalk_Want_sp (hm := hy)) ?_
  refine sr ?_
  obtain ⟨y4, hy, hm0⟩ := obnd_o hm0
  refine wl_cq (Mref28_Want_sp (hm := hy)) ?_
  refine sr ?_
  obtain ⟨y5, hy, hm0⟩ := obnd_o hm0
  refine wl_cq (Mwalk_Take_sp (hm := hy)) ?_
  refine sr ?_
  obtain ⟨y6, hy, hm0⟩ := obnd_o hm0
  refine wl_cq (Mref28_Take_sp (hm := hy)) ?_
  refine ss ?_
  refine wc_seq ?_
  refine wc_draw (id := 5) [⟨0, 0, [6]⟩, ⟨1, 0, [8]⟩, ⟨2, 3, [35, 36]⟩, ⟨3, 7, [37]⟩, ⟨4, 15, [5, 38]⟩, ⟨5, 15, [7, 38]⟩, ⟨6, 63, [38, 39, 40]⟩, ⟨7, 127, [38, 41]⟩, ⟨8, 255, [42]⟩, ⟨9, 511, [2, 43]⟩, ⟨11, 511, [2, 43]⟩, ⟨10, 1023, [43, 44]⟩, ⟨12, 4095, [43, 46]⟩, ⟨13, 8191, [43, 45, 47]⟩, ⟨14, 16383, [43, 48]⟩, ⟨15, 32767, [49]⟩, ⟨16, 65535, [2, 50]⟩, ⟨18, 65535, [2, 50]⟩, ⟨19, 327679, [50, 53]⟩, ⟨17, 131071, [50, 51]⟩, ⟨20, 1048575, [50, 54]⟩, ⟨21, 2097151, [50, 52, 55]⟩, ⟨22, 4194303, [50, 56]⟩, ⟨23, 8388607, [57]⟩, ⟨24, 16777215, [10, 58]⟩, ⟨25, 16777215, [12, 58]⟩, ⟨26, 67108863, [58, 59, 60]⟩, ⟨27, 134217727, [58, 61]⟩, ⟨28, 268435455, [62]⟩, ⟨29, 536870911, [9, 63]⟩, ⟨30, 536870911, [11, 63]⟩, ⟨31, 2147483647, [63, 64, 65]⟩, ⟨32, 4294967295, [63, 66]⟩, ⟨33, 8589934591, [67]⟩, ⟨34, 17179869183, [3, 68]⟩, ⟨36, 17179869183, [3, 68]⟩, ⟨35, 34359738367, [68, 69]⟩, ⟨37, 137438953471, [68, 71]⟩, ⟨38, 274877906943, [68, 70, 72]⟩, ⟨39, 549755813887, [68, 73]⟩, ⟨40, 1099511627775, [74]⟩] mixed (by kernel_rfl) ?_
  refine ss ?_
  refine wd_gp rfl rfl rfl rfl (fun h => ?_) (fun h => ?_)
  · replace hm0 := sel_t h hm0
    refine ss ?_
    refine wd_gp rfl rfl rfl rfl (fun h => ?_) (fun h => ?_)
    · replace hm0 := sel_t h hm0
      refine ss ?_
      obtain ⟨y7, hy, hm0⟩ := obnd_o hm0
      refine wd_cs (Mwalk_Done_sp (hm := hy)) rfl rfl rfl (by repeat (first | exact Vws.nil | apply Vws.cons | exact Vw.nil | exact Vw.d _ | exact Vw.q _ | apply Vw.a)) rfl rfl (by first | exact .no rfl | exact .y rfl rfl rfl rfl) rfl rfl rfl ?_
      refine ss ?_
      obtain ⟨y8, hy, hm0⟩ := obnd_o hm0
      refine wd_cs (Mref28_Done_sp (hm := hy)) rfl rfl rfl (by repeat (first | exact Vws.nil | apply Vws.cons | exact Vw.nil | exact Vw.d _ | exact Vw.q _ | apply Vw.a)) rfl rfl (by first | exact .no rfl | exact .y rfl rfl rfl rfl) rfl rfl rfl ?_
      refine ss ?_
      refine wd_gp rfl rfl rfl rfl (fun h => ?_) (fun h => ?_)
      · replace hm0 := sel_t h hm0
        refine ss ?_
        obtain ⟨y9, hy, hm0⟩ := obnd_o hm0
        refine wd_cs (Mwalk_Rows_sp (hm := hy)) rfl rfl rfl (by repeat (first | exact Vws.nil | apply Vws.cons | exact Vw.nil | exact Vw.d _ | exact Vw.q _ | apply Vw.a)) rfl rfl (by first | exact .no rfl | exact .y rfl rfl rfl rfl) rfl rfl rfl ?_
        refine ss ?_
        obtain ⟨y10, hy, hm0⟩ := obnd_o hm0
        refine wd_cs (Mref28_Rows_sp (hm := hy)) rfl rfl rfl (by repeat (first | exact Vws.nil | apply Vws.cons | exact Vw.nil | exact Vw.d _ | exact Vw.q _ | apply Vw.a)) rfl rfl (by first | exact .no rfl | exact .y rfl rfl rfl rfl) rfl rfl rfl ?_
        refine ss ?_
        obtain ⟨y11, hy, hm0⟩ := obnd_o hm0
        refine wd_cs (Mref20_Same_sp (hm := hy)) rfl rfl rfl (by repeat (first | exact Vws.nil | apply Vws.cons | exact Vw.nil | exact Vw.d _ | exact Vw.q _ | apply Vw.a)) rfl rfl (by first | exact .no rfl | exact .y rfl rfl rfl rfl) rfl rfl rfl ?_
        refine ss ?_
        refine wd_gp rfl rfl rfl rfl (fun h => ?_) (fun h => ?_)
        · replace hm0 := sel_t h hm0
          refine ss ?_
          refine wd_gp rfl rfl rfl rfl (fun h => ?_) (fun h => ?_)
          · replace hm0 := sel_t h hm0
            refine ss ?_
            obtain ⟨y12, hy, hm0⟩ := obnd_o hm0
            refine wd_cs (Mref28_SameWalk_sp (hm := hy)) rfl rfl rfl (by repeat (first | exact Vws.nil | apply Vws.cons | exact Vw.nil | exact Vw.d _ | exact Vw.q _ | apply Vw.a)) rfl rfl (by first | exact .no rfl | exact .y rfl rfl rfl rfl) rfl rfl rfl ?_
            refine ss ?_
            refine wd_gp rfl rfl rfl rfl (fun h => ?_) (fun h => ?_)
            · replace hm0 := sel_t h hm0
              refine ss ?_
              obtain ⟨y13, hy, hm0⟩ := obnd_o hm0
              refine wd_cs (Mwalk_ValidView_sp (hm := hy)) rfl rfl rfl (by repeat (first | exact Vws.nil | apply Vws.cons | exact Vw.nil | exact Vw.d _ | exact Vw.q _ | apply Vw.a)) rfl rfl (by first | exact .no rfl | exact .y rfl rfl rfl rfl) rfl rfl rfl ?_
              refine ss ?_
              obtain ⟨y14, hy, hm0⟩ := obnd_o hm0
              refine wd_cs (Mref28_ValidView_sp (hm := hy)) rfl rfl rfl (by repeat (first | exact Vws.nil | apply Vws.cons | exact Vw.nil | exact Vw.d _ | exact Vw.q _ | apply Vw.a)) rfl rfl (by first | exact .no rfl | exact .y rfl rfl rfl rfl) rfl rfl rfl ?_
              refine sx ?_
              obtain rfl := Option.some.inj hm0
              exact wk_ret ⟨rfl, rfl⟩
            replace hm0 := sel_f h hm0
            refine sx ?_
            obtain rfl := Option.some.inj hm0
            exact wk_ret ⟨rfl, rfl⟩
          replace hm0 := sel_f h hm0
          refine sx ?_
          obtain rfl := Option.some.inj hm0
          exact wk_ret ⟨rfl, rfl⟩
        replace hm0 := sel_f h hm0
        refine sx ?_
        obtain rfl := Option.some.inj hm0
        exact wk_ret ⟨rfl, rfl⟩
      replace hm0 := sel_f h hm0
      refine sx ?_
      obtain rfl := Option.some.inj hm0
      exact wk_ret ⟨rfl, rfl⟩
    replace hm0 := sel_f h hm0
    refine sx ?_
    obtain rfl := Option.some.inj hm0
    exact wk_ret ⟨rfl, rfl⟩
  replace hm0 := sel_f h hm0
  refine sx ?_
  obtain rfl := Option.some.inj hm0
  exact wk_ret ⟨rfl, rfl⟩

def Mlaw28_WalkSteps_l1 : Nat → List Int → Int → Int → List Rng → ByteArray → Int → List Rng → List TVisit → List TView → Int → Option (Ctl Bool (List Int × Int × Int × List Rng × ByteArray × Int × List Rng × List TVisit))
  | 0, _, _, _, _, _, _, _, _, _, _ => none
  | fuel + 1, x7, x8, w9, w10, w11, w12, w13, w14, views15, i16 =>
    obnd (
      sel (decide (i16 < 20)) (
        bnd (Mwld_Tape_Left (TTape.mk x7 x8)) fun y17 =>
        some (y17.2.l, y17.2.at_, y17.1)) (
        some (x7, x8, false)) : Option (List Int × Int × Bool)) fun (x18, x19, x20) =>
    obnd (
      sel x20 (
        some (Ctl.nxt ())) (
        some (Ctl.ret (Ctl.nxt (x18, x19, w9, w10, w11, w12, w13, w14)))) : Option (Ctl (Ctl Bool (List Int × Int × Int × List Rng × ByteArray × Int × List Rng × List TVisit)) Unit)) fun mu => ocbnd mu fun (_ : Unit) =>
    obnd (Mwld_Tape_Bool (TTape.mk x18 x19) 4) fun y21 =>
    obnd (
      sel y21.1 (
        obnd (Mwld_Tape_Net y21.2 4) fun y22 =>
        obnd (Mwld_Views y22.1) fun y23 =>
        some (y22.2.l, y22.2.at_, y23)) (
        some (y21.2.l, y21.2.at_, views15)) : Option (List Int × Int × List TView)) fun (x24, x25, views26) =>
    obnd (Mref28_Want (TWalk.mk (TQuery.mk w9 w10 w11 w12) w13 w14)) fun y27 =>
    bnd (Mref22_Down (TQuery.mk w9 w10 w11 w12)) fun y28 =>
    obnd (Mwld_Tape_Serve (TTape.mk x24 x25) views26 y27.1 y28) fun y29 =>
    obnd (Mwld_Tape_Bool y29.2 8) fun y30 =>
    obnd (
      sel y30.1 (
        obnd (Mwld_Tape_Proper y30.2) fun y31 =>
        obnd (Mwld_Tape_View y31.2 y31.1) fun y32 =>
        some (y32.2.l, y32.2.at_, y32.1.Owner, y32.1.Interval.lo.key, y32.1.Interval.lo.top, y32.1.Interval.hi.key, y32.1.Interval.hi.top, y32.1.Stamp.Epoch, y32.1.Stamp.Version, y32.1.Rows)) (
        some (y30.2.l, y30.2.at_, y29.1.Owner, y29.1.Interval.lo.key, y29.1.Interval.lo.top, y29.1.Interval.hi.key, y29.1.Interval.hi.top, y29.1.Stamp.Epoch, y29.1.Stamp.Version, y29.1.Rows)) : Option (List Int × Int × Int × ByteArray × Bool × ByteArray × Bool × Int × Int × List Kv)) fun (x33, x34, v35, v36, v37, v38, v39, v40, v41, v42) =>
    obnd (Mlaw28_agree (TWalk.mk (TQuery.mk w9 w10 w11 w12) w13 w14) (TView.mk v35 (Rng.mk (Bnd.mk v36 v37) (Bnd.mk v38 v39)) (TStamp.mk v40 v41) v42)) fun y43 =>
    sel (!y43) (
      some (Ctl.ret false)) (
      obnd (Mref28_Take (TWalk.mk (TQuery.mk w9 w10 w11 w12) w13 w14) (TView.mk v35 (Rng.mk (Bnd.mk v36 v37) (Bnd.mk v38 v39)) (TStamp.mk v40 v41) v42)) fun y44 =>
      sel (decide (y44.2 = 0)) (
        Mlaw28_WalkSteps_l1 fuel x33 x34 y44.1.Query.Kind y44.1.Query.Ranges y44.1.Query.Key y44.1.Query.Count y44.1.Todo y44.1.Visits views26 (i64w (i16 + 1))) (
        Mlaw28_WalkSteps_l1 fuel x33 x34 w9 w10 w11 w12 w13 w14 views26 (i64w (i16 + 1))))
def Mlaw28_WalkSteps (l1 : List Int) : Option Bool :=
  obnd (Mwld_New l1) fun y2 =>
  obnd (Mwld_Tape_Query y2) fun y3 =>
  obnd (Mlaw28_begin y3.1) fun y4 =>
  obnd (Mwld_Tape_Net y3.2 4) fun y5 =>
  obnd (Mwld_Views y5.1) fun y6 =>
  obnd (
    Mlaw28_WalkSteps_l1 FU y5.2.l y5.2.at_ y4.Query.Kind y4.Query.Ranges y4.Query.Key y4.Query.Count y4.Todo y4.Visits y6 0 : Option (Ctl Bool (List Int × Int × Int × List Rng × ByteArray × Int × List Rng × List TVisit))) fun mu => ocbnd mu fun (x45, x46, w47, w48, w49, w50, w51, w52) =>
  obnd (Mwld_Tape_Proper (TTape.mk x45 x46)) fun y53 =>
  obnd (Mwld_Tape_View y53.2 y53.1) fun y54 =>
  obnd (Mlaw28_agree (TWalk.mk (TQuery.mk w47 w48 w49 w50) w51 w52) y54.1) fun y55 =>
  sel y55 (
    obnd (Mlaw28_awake) fun y56 =>
    some y56) (
    some false)
theorem Mlaw28_WalkSteps_sp {l1 : List Int} {y : Bool} (hm : Mlaw28_WalkSteps l1 = some y) : Spec Tryz.prog 3 [.d (lst dsI l1)] [] fun u h => u = vB y ∧ h = [] := by
  refine Spec.intro Tryz.func3 rfl rfl Tryz.ntmps3 Tryz.results3 rfl fun B w0 ρ0 => ?_
  simp only [slots, List.map_nil, List.map_cons, Nat.reduceAdd]
  unfold Mlaw28_WalkSteps at hm
  have hm0 := hm
  clear hm
  refine sr ?_
  refine sr ?_
  obtain ⟨y2, hy, hm0⟩ := obnd_o hm0
  refine wl_mkn (u' := .p 201301 0) (h' := [(201301, some (.box 119 [.d (lst dsI y2.l), vI y2.at_]))]) (Mwld_New_sp (hm := hy)) 201300 rfl rfl rfl (by repeat (first | exact Vws.nil | apply Vws.cons | exact Vw.nil | exact Vw.d _ | exact Vw.q _ | apply Vw.a)) rfl (by (try simp only [renH, Option.map_some, Blk.ren, rens_d]); rfl) rfl rfl rfl rfl ?_
  refine sr ?_
  obtain ⟨y3, hy, hm0⟩ := obnd_o hm0
  refine wl_iq (Mwld_Tape_Query_sp (hm := hy)) 201301 ?_
  refine ss ?_
  obtain ⟨y4, hy, hm0⟩ := obnd_o hm0
  refine wl_cq (Mlaw28_begin_sp (hm := hy)) ?_
  refine sr ?_
  obtain ⟨y5, hy, hm0⟩ := obnd_o hm0
  refine wl_iq (Mwld_Tape_Net_sp (hm := hy)) 201301 ?_
  refine ss ?_
  obtain ⟨y6, hy, hm0⟩ := obnd_o hm0
  refine wl_cq (Mwld_Views_sp (hm := hy)) ?_
  refine sr ?_
  obtain ⟨mu1, hm1, hm0⟩ := obnd_o hm0
  refine wc_cut' (fun st => ∃ (x45 : List Int) (x46 : Int) (w47 : Int) (w48 : List Rng) (w49 : ByteArray) (w50 : Int) (w51 : List Rng) (w52 : List TVisit), mu1 = Ctl.nxt (x45, x46, w47, w48, w49, w50, w51, w52) ∧ st = ⟨[(3, .p 201301 0), (4, .p 104 0)], [(104, some (.box 30 [vI w47, .d (lst Rng.ds w48), vS w49, vI w50, .d (lst Rng.ds w51), .d (lst TVisit.ds w52)])), (201301, some (.box 119 [.d (lst dsI x45), vI x46]))]⟩) ?_ ?_
  · refine wc_block ?_
    refine wc_loopw (fun κ st => ∃ (x7 : List Int) (x8 : Int) (w9 : Int) (w10 : List Rng) (w11 : ByteArray) (w12 : Int) (w13 : List Rng) (w14 : List TVisit) (views15 : List TView) (i16 : Int), Mlaw28_WalkSteps_l1 κ x7 x8 w9 w10 w11 w12 w13 w14 views15 i16 = some mu1 ∧ st = ⟨[(3, .p 201301 0), (4, .p 104 0), (5, .d (lst TView.ds views15)), (6, vI i16)], [(104, some (.box 30 [vI w9, .d (lst Rng.ds w10), vS w11, vI w12, .d (lst Rng.ds w13), .d (lst TVisit.ds w14)])), (201301, some (.box 119 [.d (lst dsI x7), vI x8]))]⟩) [(104, 104), (201301, 201301)] ⟨_, _, _, _, _, _, _, _, _, _, hm1, rfl⟩ ?_
    rintro κ _ ⟨x7, x8, w9, w10, w11, w12, w13, w14, views15, i16, hm1, rfl⟩
    cases κ with
    | zero => rw [Mlaw28_WalkSteps_l1.eq_1] at hm1; cases hm1
    | succ κ =>
      rw [Mlaw28_WalkSteps_l1.eq_2] at hm1
      refine wc_seq ?_
      refine wc_seq ?_
      obtain ⟨mu2, hm2, hm1⟩ := obnd_o hm1
      refine wc_cut' (fun st => ∃ (x18 : List Int) (x19 : Int) (x20 : Bool), mu2 = (x18, x19, x20) ∧ st = ⟨[(3, .p 201301 0), (4, .p 104 0), (5, .d (lst TView.ds views15)), (6, vI i16), (25, vB x20)], [(104, some (.box 30 [vI w9, .d (lst Rng.ds w10), vS w11, vI w12, .d (lst Rng.ds w13), .d (lst TVisit.ds w14)])), (201301, some (.box 119 [.d (lst dsI x18), vI x19]))]⟩) ?_ ?_
      · refine sr ?_
        refine wl_sg hm2 ?_ ?_ <;> clear hm2 <;> intro hm2
        · refine ss ?_
          obtain ⟨y17, hy, hm2⟩ := bnd_o hm2
          refine wl_iq (Mwld_Tape_Left_sp (hm := hy)) 201301 ?_
          refine ss ?_
          obtain rfl := Option.some.inj hm2
          exact wk_cutw [(104, 104), (201301, 201301)] ⟨_, _, _, rfl, rfl⟩
        refine ss ?_
        obtain rfl := Option.some.inj hm2
        exact wk_cutw [(104, 104), (201301, 201301)] ⟨_, _, _, rfl, rfl⟩
      rintro _ ⟨x18, x19, x20, rfl, rfl⟩
      refine ss ?_
      obtain ⟨mu2, hm2, hm1⟩ := obnd_o hm1
      refine wc_cut' (fun st => mu2 = Ctl.nxt () ∧ st = ⟨[(3, .p 201301 0), (4, .p 104 0), (5, .d (lst TView.ds views15)), (6, vI i16)], [(104, some (.box 30 [vI w9, .d (lst Rng.ds w10), vS w11, vI w12, .d (lst Rng.ds w13), .d (lst TVisit.ds w14)])), (201301, some (.box 119 [.d (lst dsI x18), vI x19]))]⟩) ?_ ?_
      · refine wc_cs hm2 ?_ ?_ <;> clear hm2 <;> intro hm2
        · refine sx ?_
          obtain rfl := Option.some.inj hm2
          exact wk_cutw [(104, 104), (201301, 201301)] ⟨rfl, rfl⟩
        refine wc_exit ?_
        refine ss ?_
        obtain rfl := Option.some.inj hm2
        replace hm1 := ocbnd_r hm1
        obtain rfl := Option.some.inj hm1
        exact wk_cutw [(104, 104), (201301, 201301)] ⟨_, _, _, _, _, _, _, _, rfl, rfl⟩
      rintro _ ⟨rfl, rfl⟩
      replace hm1 := ocbnd_n hm1
      refine sr ?_
      obtain ⟨y21, hy, hm1⟩ := obnd_o hm1
      refine wl_iq (Mwld_Tape_Bool_sp (hm := hy)) 201301 ?_
      refine ss ?_
      obtain ⟨mu2, hm2, hm1⟩ := obnd_o hm1
      refine wc_cut' (fun st => ∃ (x24 : List Int) (x25 : Int) (views26 : List TView), mu2 = (x24, x25, views26) ∧ st = ⟨[(3, .p 201301 0), (4, .p 104 0), (5, .d (lst TView.ds views26)), (6, vI i16)], [(104, some (.box 30 [vI w9, .d (lst Rng.ds w10), vS w11, vI w12, .d (lst Rng.ds w13), .d (lst TVisit.ds w14)])), (201301, some (.box 119 [.d (lst dsI x24), vI x25]))]⟩) ?_ ?_
      · refine wc_cs hm2 ?_ ?_ <;> clear hm2 <;> intro hm2
        · refine sr ?_
          obtain ⟨y22, hy, hm2⟩ := obnd_o hm2
          refine wl_iq (Mwld_Tape_Net_sp (hm := hy)) 201301 ?_
          refine ss ?_
          obtain ⟨y23, hy, hm2⟩ := obnd_o hm2
          refine wl_cq (Mwld_Views_sp (hm := hy)) ?_
          refine ss ?_
          obtain rfl := Option.some.inj hm2
          exact wk_cutw [(104, 104), (201301, 201301)] ⟨_, _, _, rfl, rfl⟩
        refine sx ?_
        obtain rfl := Option.some.inj hm2
        exact wk_cutw [(104, 104), (201301, 201301)] ⟨_, _, _, rfl, rfl⟩
      rintro _ ⟨x24, x25, views26, rfl, rfl⟩
      refine sr ?_
      obtain ⟨y27, hy, hm1⟩ := obnd_o hm1
      refine wl_cq (Mref28_Want_sp (hm := hy)) ?_
      refine ss ?_
      refine wc_seq ?_
      refine wc_draw (id := 10) [⟨0, 0, [3]⟩, ⟨1, 0, [5]⟩, ⟨2, 0, [7]⟩, ⟨3, 0, [4]⟩, ⟨4, 8, [41]⟩, ⟨7, 0, []⟩, ⟨5, 24, [42]⟩, ⟨6, 63, [38, 39, 40, 43]⟩, ⟨8, 255, [9, 44]⟩] mixed (by kernel_rfl) ?_
      refine ss ?_
      obtain ⟨y28, hy, hm1⟩ := bnd_o hm1
      refine wd_cs (Mref22_Down_sp (hm := hy)) rfl rfl rfl (by repeat (first | exact Vws.nil | apply Vws.cons | exact Vw.nil | exact Vw.d _ | exact Vw.q _ | apply Vw.a)) rfl rfl (by first | exact .no rfl | exact .y rfl rfl rfl rfl) rfl rfl rfl ?_
      refine ss ?_
      obtain ⟨y29, hy, hm1⟩ := obnd_o hm1
      refine wd_io (Mwld_Tape_Serve_sp (hm := hy)) 201301 rfl rfl rfl (by repeat (first | exact Vws.nil | apply Vws.cons | exact Vw.nil | exact Vw.d _ | exact Vw.q _ | exact Vw.p rfl | apply Vw.a)) rfl (Vb.box (by repeat (first | exact Vws.nil | apply Vws.cons | exact Vw.nil | exact Vw.d _ | exact Vw.q _ | exact Vw.p rfl | apply Vw.a))) rfl rfl rfl (by first | exact .no rfl | exact .y rfl rfl rfl rfl) rfl rfl rfl rfl ?_
      refine sr ?_
      obtain ⟨y30, hy, hm1⟩ := obnd_o hm1
      refine wl_iq (Mwld_Tape_Bool_sp (hm := hy)) 201301 ?_
      refine ss ?_
      obtain ⟨mu2, hm2, hm1⟩ := obnd_o hm1
      refine wc_cut' (fun st => ∃ (x33 : List Int) (x34 : Int) (v35 : Int) (v36 : ByteArray) (v37 : Bool) (v38 : ByteArray) (v39 : Bool) (v40 : Int) (v41 : Int) (v42 : List Kv), mu2 = (x33, x34, v35, v36, v37, v38, v39, v40, v41, v42) ∧ st = ⟨[(3, .p 201301 0), (4, .p 104 0), (5, .d (lst TView.ds views26)), (6, vI i16), (9, .p 109 0)], [(104, some (.box 30 [vI w9, .d (lst Rng.ds w10), vS w11, vI w12, .d (lst Rng.ds w13), .d (lst TVisit.ds w14)])), (109, some (.box 49 [vI v35, vS v36, vB v37, vS v38, vB v39, vI v40, vI v41, .d (lst Kv.ds v42)])), (201301, some (.box 119 [.d (lst dsI x33), vI x34]))]⟩) ?_ ?_
      · refine wc_cs hm2 ?_ ?_ <;> clear hm2 <;> intro hm2
        · refine sr ?_
          obtain ⟨y31, hy, hm2⟩ := obnd_o hm2
          refine wl_iq (Mwld_Tape_Proper_sp (hm := hy)) 201301 ?_
          refine ss ?_
          obtain ⟨y32, hy, hm2⟩ := obnd_o hm2
          refine wl_iq (Mwld_Tape_View_sp (hm := hy)) 201301 ?_
          refine ss ?_
          obtain rfl := Option.some.inj hm2
          exact wk_cutw [(104, 104), (109, 109), (201301, 201301)] ⟨_, _, _, _, _, _, _, _, _, _, rfl, rfl⟩
        refine sx ?_
        obtain rfl := Option.some.inj hm2
        exact wk_cutw [(104, 104), (109, 109), (201301, 201301)] ⟨_, _, _, _, _, _, _, _, _, _, rfl, rfl⟩
      rintro _ ⟨x33, x34, v35, v36, v37, v38, v39, v40, v41, v42, rfl, rfl⟩
      refine sr ?_
      obtain ⟨y43, hy, hm1⟩ := obnd_o hm1
      refine wl_cq (Mlaw28_agree_sp (hm := hy)) ?_
      refine ss ?_
      refine wc_cs hm1 ?_ ?_ <;> clear hm1 <;> intro hm1
      · refine sr ?_
        refine sx ?_
        obtain rfl := Option.some.inj hm1
        replace hm0 := ocbnd_r hm0
        obtain rfl := Option.some.inj hm0
        exact wk_ret ⟨rfl, rfl⟩
      refine sx ?_
      refine sr ?_
      obtain ⟨y44, hy, hm1⟩ := obnd_o hm1
      refine wl_cq (Mref28_Take_sp (hm := hy)) ?_
      refine sr ?_
      refine wc_cs hm1 ?_ ?_ <;> clear hm1 <;> intro hm1
      · refine sr ?_
        refine sr ?_
        refine wl_r (o_add rfl rfl rfl rfl) rfl rfl rfl ?_
        refine ss ?_
        exact wk_loopw [(104, 104), (201301, 201301)] ⟨_, _, _, _, _, _, _, _, _, _, hm1, rfl⟩ (Nat.lt_succ_self _)
      refine sx ?_
      refine sr ?_
      refine wl_r (o_add rfl rfl rfl rfl) rfl rfl rfl ?_
      refine ss ?_
      exact wk_loopw [(104, 104), (201301, 201301)] ⟨_, _, _, _, _, _, _, _, _, _, hm1, rfl⟩ (Nat.lt_succ_self _)
  rintro _ ⟨x45, x46, w47, w48, w49, w50, w51, w52, rfl, rfl⟩
  replace hm0 := ocbnd_n hm0
  refine ss ?_
  refine wc_seq ?_
  refine wc_draw (id := 18) [⟨0, 0, [4]⟩, ⟨1, 0, [3]⟩, ⟨2, 0, [3]⟩, ⟨3, 4, [66]⟩, ⟨4, 14, [65, 67]⟩, ⟨5, 31, [64, 68]⟩, ⟨6, 63, [69]⟩, ⟨7, 127, [70]⟩, ⟨8, 255, [70, 71]⟩, ⟨9, 511, [72]⟩] mixed (by kernel_rfl) ?_
  refine ss ?_
  obtain ⟨y53, hy, hm0⟩ := obnd_o hm0
  refine wd_io (Mwld_Tape_Proper_sp (hm := hy)) 201301 rfl rfl rfl (by repeat (first | exact Vws.nil | apply Vws.cons | exact Vw.nil | exact Vw.d _ | exact Vw.q _ | exact Vw.p rfl | apply Vw.a)) rfl (Vb.box (by repeat (first | exact Vws.nil | apply Vws.cons | exact Vw.nil | exact Vw.d _ | exact Vw.q _ | exact Vw.p rfl | apply Vw.a))) rfl rfl rfl (by first | exact .no rfl | exact .y rfl rfl rfl rfl) rfl rfl rfl rfl ?_
  refine ss ?_
  obtain ⟨y54, hy, hm0⟩ := obnd_o hm0
  refine wd_io (Mwld_Tape_View_sp (hm := hy)) 201301 rfl rfl rfl (by repeat (first | exact Vws.nil | apply Vws.cons | exact Vw.nil | exact Vw.d _ | exact Vw.q _ | exact Vw.p rfl | apply Vw.a)) rfl (Vb.box (by repeat (first | exact Vws.nil | apply Vws.cons | exact Vw.nil | exact Vw.d _ | exact Vw.q _ | exact Vw.p rfl | apply Vw.a))) rfl rfl rfl (by first | exact .no rfl | exact .y rfl rfl rfl rfl) rfl rfl rfl rfl ?_
  refine ss ?_
  obtain ⟨y55, hy, hm0⟩ := obnd_o hm0
  refine wd_cs (Mlaw28_agree_sp (hm := hy)) rfl rfl rfl (by repeat (first | exact Vws.nil | apply Vws.cons | exact Vw.nil | exact Vw.d _ | exact Vw.q _ | apply Vw.a)) rfl rfl (by first | exact .no rfl | exact .y rfl rfl rfl rfl) rfl rfl rfl ?_
  refine ss ?_
  refine wd_gp rfl rfl rfl rfl (fun h => ?_) (fun h => ?_)
  · replace hm0 := sel_t h hm0
    refine ss ?_
    obtain ⟨y56, hy, hm0⟩ := obnd_o hm0
    refine wd_cs (Mlaw28_awake_sp (hm := hy)) rfl rfl rfl (by repeat (first | exact Vws.nil | apply Vws.cons | exact Vw.nil | exact Vw.d _ | exact Vw.q _ | apply Vw.a)) rfl rfl (by first | exact .no rfl | exact .y rfl rfl rfl rfl) rfl rfl rfl ?_
    refine sx ?_
    obtain rfl := Option.some.inj hm0
    exact wk_ret ⟨rfl, rfl⟩
  replace hm0 := sel_f h hm0
  refine sx ?_
  obtain rfl := Option.some.inj hm0
  exact wk_ret ⟨rfl, rfl⟩

end Go.Proofs.YtlbnhhfaedhgfaaGreatDoor
