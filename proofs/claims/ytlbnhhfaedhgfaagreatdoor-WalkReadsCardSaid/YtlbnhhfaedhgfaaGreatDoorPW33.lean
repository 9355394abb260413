/-
  Lemmas: Models and walks: the law WalkReads.
-/
import Derived.Test.YtlbnhhfaedhgfaaGreatDoorPW26
import Derived.Test.YtlbnhhfaedhgfaaGreatDoorPW23
import Derived.Test.YtlbnhhfaedhgfaaGreatDoorPW25
namespace Go.Proofs.YtlbnhhfaedhgfaaGreatDoor
set_option linter.unusedSimpArgs false
set_option linter.unusedVariables false
open Go.RowKit
set_option maxRecDepth 100000
set_option maxHeartbeats 4000000
attribute [local irreducible] WK WC WL Wk Rel OpD OpV WD WO sel bnd obnd app lget lsl sget ssl scat letg iquo irem Op.bytesLess
attribute [local irreducible] qchk qranges union
def Mlaw28_WalkReads_l1 : List TView → List Kv → Option (List Kv)
  | [], rows6 =>
    some rows6
  | r7 :: xs8, rows6 =>
    obnd (app rows6 r7.Rows) fun l10 =>
    Mlaw28_WalkReads_l1 xs8 l10
def Mlaw28_WalkReads_l3 (y3 : (TQuery × TTape)) (w14 : Int) (w15 : List Rng) (w16 : ByteArray) (w17 : Int) (w18 : List Rng) (w19 : List TVisit) (y22 : (Rng × Bool)) : List TView → Option (Ctl (Ctl (Ctl Bool (Int × List Rng × ByteArray × Int × List Rng × List TVisit)) (Int × List Rng × ByteArray × Int × List Rng × List TVisit)) (Int × List Rng × ByteArray × Int × List Rng × List TVisit))
  | [] =>
    some (Ctl.nxt (w14, w15, w16, w17, w18, w19))
  | r23 :: xs24 =>
    obnd (Mwalk_Take (TWalk.mk (TQuery.mk w14 w15 w16 w17) w18 w19) r23) fun y26 =>
    sel (decide (y26.2 = 0)) (
      sel (decide ((y26.1.Visits.length : Int) = 0)) (
        some (Ctl.ret (Ctl.ret (Ctl.ret false)))) (
        obnd (lget y26.1.Visits (i64w ((y26.1.Visits.length : Int) - 1))) fun e27 =>
        bnd (Mref22_Down y3.1) fun y28 =>
        obnd (
          sel y28 (
            obnd (lget y26.1.Visits 0) fun e29 =>
            some (e29.View.Owner, e29.View.Interval.lo.key, e29.View.Interval.lo.top, e29.View.Interval.hi.key, e29.View.Interval.hi.top, e29.View.Stamp.Epoch, e29.View.Stamp.Version, e29.View.Rows, e29.Part.lo.key, e29.Part.lo.top, e29.Part.hi.key, e29.Part.hi.top)) (
            some (e27.View.Owner, e27.View.Interval.lo.key, e27.View.Interval.lo.top, e27.View.Interval.hi.key, e27.View.Interval.hi.top, e27.View.Stamp.Epoch, e27.View.Stamp.Version, e27.View.Rows, e27.Part.lo.key, e27.Part.lo.top, e27.Part.hi.key, e27.Part.hi.top)) : Option (Int × ByteArray × Bool × ByteArray × Bool × Int × Int × List Kv × ByteArray × Bool × ByteArray × Bool)) fun (last30, last31, last32, last33, last34, last35, last36, last37, last38, last39, last40, last41) =>
        sel (!decide (last30 = r23.Owner)) (
          some (Ctl.ret (Ctl.ret (Ctl.ret false)))) (
          sel (!(decide (last35 = r23.Stamp.Epoch) && decide (last36 = r23.Stamp.Version))) (
            some (Ctl.ret (Ctl.ret (Ctl.ret false)))) (
            bnd (Mref24_SameRange (Rng.mk (Bnd.mk last31 last32) (Bnd.mk last33 last34)) r23.Interval) fun y42 =>
            sel (!y42) (
              some (Ctl.ret (Ctl.ret (Ctl.ret false)))) (
              bnd (Mref1_Intersect (Rng.mk (Bnd.mk last38 last39) (Bnd.mk last40 last41)) y22.1) fun y43 =>
              bnd (Mref1_Empty y43) fun y44 =>
              sel y44 (
                some (Ctl.ret (Ctl.ret (Ctl.ret false)))) (
                some (Ctl.nxt (y26.1.Query.Kind, y26.1.Query.Ranges, y26.1.Query.Key, y26.1.Query.Count, y26.1.Todo, y26.1.Visits)))))))) (
      Mlaw28_WalkReads_l3 y3 w14 w15 w16 w17 w18 w19 y22 xs24)
def Mlaw28_WalkReads_l2 (y5 : List TView) (y13 : (TWalk × Int)) (y3 : (TQuery × TTape)) : Nat → Int → List Rng → ByteArray → Int → List Rng → List TVisit → Int → Option (Ctl Bool (Int × List Rng × ByteArray × Int × List Rng × List TVisit))
  | 0, _, _, _, _, _, _, _ => none
  | fuel + 1, w14, w15, w16, w17, w18, w19, i20 =>
    obnd (
      sel (decide (i20 < 200)) (
        some (decide (y13.2 = 0))) (
        some false) : Option Bool) fun x21 =>
    obnd (
      sel x21 (
        some (Ctl.nxt ())) (
        some (Ctl.ret (Ctl.nxt (w14, w15, w16, w17, w18, w19)))) : Option (Ctl (Ctl Bool (Int × List Rng × ByteArray × Int × List Rng × List TVisit)) Unit)) fun mu => ocbnd mu fun (_ : Unit) =>
    obnd (
      obnd (Mwalk_Want (TWalk.mk (TQuery.mk w14 w15 w16 w17) w18 w19)) fun y22 =>
      obnd (
        sel (!y22.2) (
          some (Ctl.ret (Ctl.ret (Ctl.nxt (w14, w15, w16, w17, w18, w19))))) (
          some (Ctl.nxt ())) : Option (Ctl (Ctl (Ctl Bool (Int × List Rng × ByteArray × Int × List Rng × List TVisit)) (Int × List Rng × ByteArray × Int × List Rng × List TVisit)) Unit)) fun mu => ocbnd mu fun (_ : Unit) =>
      obnd (
        Mlaw28_WalkReads_l3 y3 w14 w15 w16 w17 w18 w19 y22 y5 : Option (Ctl (Ctl (Ctl Bool (Int × List Rng × ByteArray × Int × List Rng × List TVisit)) (Int × List Rng × ByteArray × Int × List Rng × List TVisit)) (Int × List Rng × ByteArray × Int × List Rng × List TVisit))) fun mu => ocbnd mu fun (w45, w46, w47, w48, w49, w50) =>
      some (Ctl.nxt (w45, w46, w47, w48, w49, w50)) : Option (Ctl (Ctl Bool (Int × List Rng × ByteArray × Int × List Rng × List TVisit)) (Int × List Rng × ByteArray × Int × List Rng × List TVisit))) fun mu => ocbnd mu fun (w51, w52, w53, w54, w55, w56) =>
    Mlaw28_WalkReads_l2 y5 y13 y3 fuel w51 w52 w53 w54 w55 w56 (i64w (i20 + 1))
def Mlaw28_WalkReads (l1 : List Int) : Option Bool :=
  obnd (Mwld_New l1) fun y2 =>
  obnd (Mwld_Tape_Query y2) fun y3 =>
  obnd (Mwld_Tape_Net y3.2 5) fun y4 =>
  obnd (Mwld_Views y4.1) fun y5 =>
  obnd (
    Mlaw28_WalkReads_l1 y5 [] : Option (List Kv)) fun rows11 =>
  obnd (Mref22_Ranges y3.1) fun y12 =>
  obnd (Mwalk_Start y3.1 y12) fun y13 =>
  obnd (
    Mlaw28_WalkReads_l2 y5 y13 y3 FU y13.1.Query.Kind y13.1.Query.Ranges y13.1.Query.Key y13.1.Query.Count y13.1.Todo y13.1.Visits 0 : Option (Ctl Bool (Int × List Rng × ByteArray × Int × List Rng × List TVisit))) fun mu => ocbnd mu fun (w57, w58, w59, w60, w61, w62) =>
  obnd (Mref22_Answer rows11 y3.1) fun y63 =>
  sel (decide (y13.2 = 0)) (
    obnd (Mwalk_Done (TWalk.mk (TQuery.mk w57 w58 w59 w60) w61 w62)) fun y64 =>
    sel y64 (
      sel (decide (y63.2 = 0)) (
        obnd (Mwalk_Rows (TWalk.mk (TQuery.mk w57 w58 w59 w60) w61 w62)) fun y65 =>
        obnd (Mref22_Take y3.1 y65) fun y66 =>
        obnd (Mref20_Same y66 y63.1.Rows) fun y67 =>
        sel y67 (
          obnd (Mlaw28_awake) fun y68 =>
          some y68) (
          some false)) (
        some false)) (
      some false)) (
    some false)
theorem Mlaw28_WalkReads_sp {l1 : List Int} {y : Bool} (hm : Mlaw28_WalkReads l1 = some y) : Spec Tryz.prog 5 [.d (lst dsI l1)] [] fun u h => u = vB y ∧ h = [] := by
  refine Spec.intro Tryz.func5 rfl rfl Tryz.ntmps5 Tryz.results5 rfl fun B w0 ρ0 => ?_
  simp only [slots, List.map_nil, List.map_cons, Nat.reduceAdd]
  unfold Mlaw28_WalkReads at hm
  have hm0 := hm
  clear hm
  refine sr ?_
  refine sr ?_
  obtain ⟨y2, hy, hm0⟩ := obnd_o hm0
  refine wl_mkn (u' := .p 202201 0) (h' := [(202201, some (.box 119 [.d (lst dsI y2.l), vI y2.at_]))]) (Mwld_New_sp (hm := hy)) 202200 rfl rfl rfl (by repeat (first | exact Vws.nil | apply Vws.cons | exact Vw.nil | exact Vw.d _ | exact Vw.q _ | apply Vw.a)) rfl (by (try simp only [renH, Option.map_some, Blk.ren, rens_d]); rfl) rfl rfl rfl rfl ?_
  refine sr ?_
  obtain ⟨y3, hy, hm0⟩ := obnd_o hm0
  refine wl_iq (Mwld_Tape_Query_sp (hm := hy)) 202201 ?_
  refine sr ?_
  obtain ⟨y4, hy, hm0⟩ := obnd_o hm0
  refine wl_iq (Mwld_Tape_Net_sp (hm := hy)) 202201 ?_
  refine ss ?_
  obtain ⟨y5, hy, hm0⟩ := obnd_o hm0
  refine wl_cq (Mwld_Views_sp (hm := hy)) ?_
  refine sr ?_
  refine sr ?_
  obtain ⟨mu1, hm1, hm0⟩ := obnd_o hm0
  refine wc_cut' (fun st => ∃ (rows11 : List Kv), rows11 = mu1 ∧ st = ⟨[(4, .p 104 0), (5, .d (lst TView.ds y5)), (6, .d (lst Kv.ds rows11))], [(104, some (.box 27 [vI y3.1.Kind, .d (lst Rng.ds y3.1.Ranges), vS y3.1.Key, vI y3.1.Count]))]⟩) ?_ ?_
  · refine wc_block ?_
    refine wc_wk (wk_nil 6 5001 95 2 rfl rfl) ?_
    refine wc_len 28 rfl (fun hlenm9 => ?_)
    refine wc_loopw (fun κ st => ∃ (m9 : Nat) (rows6 : List Kv), κ = y5.length - m9 ∧ m9 ≤ y5.length ∧ Mlaw28_WalkReads_l1 (y5.drop m9) rows6 = some mu1 ∧ st = ⟨[(4, .p 104 0), (5, .d (lst TView.ds y5)), (6, .h 5001), (28, .d (lst TView.ds y5)), (29, vI (y5.length : Int)), (30, vI (m9 : Int))], [(104, some (.box 27 [vI y3.1.Kind, .d (lst Rng.ds y3.1.Ranges), vS y3.1.Key, vI y3.1.Count])), (5001, some (arrT 95 2 Kv.ds rows6))]⟩) [(104, 104), (5001, 5001)] ⟨0, _, rfl, Nat.zero_le _, hm1, rfl⟩ ?_
    rintro κ _ ⟨m9, rows6, rfl, hlem9, hm1, rfl⟩
    rcases Nat.lt_or_ge m9 y5.length with hltm9 | hgem9
    · obtain ⟨r7, hxm9, hdr⟩ := drop_c hltm9
      rw [hdr, Mlaw28_WalkReads_l1.eq_2] at hm1
      refine sr ?_
      refine wc_seq ?_
      refine wc_cond_tt (lt_t hltm9) rfl ?_
      refine sx ?_
      refine sr ?_
      refine wl_r (o_ixm (ys := [dI r7.Owner, dS r7.Interval.lo.key, dB r7.Interval.lo.top, dS r7.Interval.hi.key, dB r7.Interval.hi.top, dI r7.Stamp.Epoch, dI r7.Stamp.Version, lst Kv.ds r7.Rows]) hxm9 rfl rfl rfl rfl) rfl rfl rfl ?_
      refine sr ?_
      obtain ⟨l10, hy, hm1⟩ := obnd_o hm1
      refine wl_2 (n_app (k' := 137) hy rfl rfl rfl rfl rfl rfl rfl rfl) rfl rfl rfl rfl ?_
      refine sr ?_
      refine wl_r (o_inc hltm9 hlenm9 rfl rfl rfl) rfl rfl rfl ?_
      refine ss ?_
      exact wk_loopw [(104, 104), (5001, 137)] ⟨m9 + 1, _, rfl, hltm9, hm1, rfl⟩ (by omega)
    · rw [drop_n hgem9, Mlaw28_WalkReads_l1.eq_1] at hm1
      refine sr ?_
      refine wc_seq ?_
      refine wc_cond_ff (lt_f hgem9) rfl ?_
      refine wc_exit ?_
      refine ss ?_
      obtain rfl := Option.some.inj hm1
      exact wk_cutw [(104, 104)] ⟨_, rfl, rfl⟩
  rintro _ ⟨rows11, rfl, rfl⟩
  refine ss ?_
  refine wc_seq ?_
  refine wc_draw (id := 10) [⟨0, 0, [4]⟩, ⟨1, 0, [4]⟩, ⟨7, 0, []⟩, ⟨2, 2, [41]⟩, ⟨3, 7, [40, 42]⟩, ⟨4, 15, [43]⟩, ⟨5, 31, [39]⟩, ⟨6, 31, [39]⟩, ⟨8, 191, [9, 44]⟩, ⟨9, 511, [45]⟩] mixed (by kernel_rfl) ?_
  refine ss ?_
  obtain ⟨y12, hy, hm0⟩ := obnd_o hm0
  refine wd_cs (Mref22_Ranges_sp (hm := hy)) rfl rfl rfl (by repeat (first | exact Vws.nil | apply Vws.cons | exact Vw.nil | exact Vw.d _ | exact Vw.q _ | apply Vw.a)) rfl rfl (by first | exact .no rfl | exact .y rfl rfl rfl rfl) rfl rfl rfl ?_
  refine ss ?_
  obtain ⟨y13, hy, hm0⟩ := obnd_o hm0
  refine wd_cs (Mwalk_Start_sp (hm := hy)) rfl rfl rfl (by repeat (first | exact Vws.nil | apply Vws.cons | exact Vw.nil | exact Vw.d _ | exact Vw.q _ | apply Vw.a)) rfl rfl (by first | exact .no rfl | exact .y rfl rfl rfl rfl) rfl rfl rfl ?_
  refine sr ?_
  obtain ⟨mu1, hm1, hm0⟩ := obnd_o hm0
  refine wc_cut' (fun st => ∃ (w57 : Int) (w58 : List Rng) (w59 : ByteArray) (w60 : Int) (w61 : List Rng) (w62 : List TVisit), mu1 = Ctl.nxt (w57, w58, w59, w60, w61, w62) ∧ st = ⟨[(4, .p 104 0), (6, .d (lst Kv.ds rows11)), (9, .p 109 0), (10, vI y13.2)], [(104, some (.box 27 [vI y3.1.Kind, .d (lst Rng.ds y3.1.Ranges), vS y3.1.Key, vI y3.1.Count])), (109, some (.box 30 [vI w57, .d (lst Rng.ds w58), vS w59, vI w60, .d (lst Rng.ds w61), .d (lst TVisit.ds w62)]))]⟩) ?_ ?_
  · refine wc_block ?_
    refine wc_loopw (fun κ st => ∃ (w14 : Int) (w15 : List Rng) (w16 : ByteArray) (w17 : Int) (w18 : List Rng) (w19 : List TVisit) (i20 : Int), Mlaw28_WalkReads_l2 y5 y13 y3 κ w14 w15 w16 w17 w18 w19 i20 = some mu1 ∧ st = ⟨[(4, .p 104 0), (5, .d (lst TView.ds y5)), (6, .d (lst Kv.ds rows11)), (9, .p 109 0), (10, vI y13.2), (11, vI i20)], [(104, some (.box 27 [vI y3.1.Kind, .d (lst Rng.ds y3.1.Ranges), vS y3.1.Key, vI y3.1.Count])), (109, some (.box 30 [vI w14, .d (lst Rng.ds w15), vS w16, vI w17, .d (lst Rng.ds w18), .d (lst TVisit.ds w19)]))]⟩) [(104, 104), (109, 109)] ⟨_, _, _, _, _, _, _, hm1, rfl⟩ ?_
    rintro κ _ ⟨w14, w15, w16, w17, w18, w19, i20, hm1, rfl⟩
    cases κ with
    | zero => rw [Mlaw28_WalkReads_l2.eq_1] at hm1; cases hm1
    | succ κ =>
      rw [Mlaw28_WalkReads_l2.eq_2] at hm1
      refine wc_seq ?_
      refine wc_seq ?_
      obtain ⟨mu2, hm2, hm1⟩ := obnd_o hm1
      refine wc_cut' (fun st => ∃ (x21 : Bool), x21 = mu2 ∧ st = ⟨[(4, .p 104 0), (5, .d (lst TView.ds y5)), (6, .d (lst Kv.ds rows11)), (9, .p 109 0), (10, vI y13.2), (11, vI i20), (51, vB x21)], [(104, some (.box 27 [vI y3.1.Kind, .d (lst Rng.ds y3.1.Ranges), vS y3.1.Key, vI y3.1.Count])), (109, some (.box 30 [vI w14, .d (lst Rng.ds w15), vS w16, vI w17, .d (lst Rng.ds w18), .d (lst TVisit.ds w19)]))]⟩) ?_ ?_
      · refine sr ?_
        refine wl_sg hm2 ?_ ?_ <;> clear hm2 <;> intro hm2
        · refine ss ?_
          obtain rfl := Option.some.inj hm2
          exact wk_cutw [(104, 104), (109, 109)] ⟨_, rfl, rfl⟩
        refine ss ?_
        obtain rfl := Option.some.inj hm2
        exact wk_cutw [(104, 104), (109, 109)] ⟨_, rfl, rfl⟩
      rintro _ ⟨x21, rfl, rfl⟩
      refine ss ?_
      obtain ⟨mu2, hm2, hm1⟩ := obnd_o hm1
      refine wc_cut' (fun st => mu2 = Ctl.nxt () ∧ st = ⟨[(4, .p 104 0), (5, .d (lst TView.ds y5)), (6, .d (lst Kv.ds rows11)), (9, .p 109 0), (10, vI y13.2), (11, vI i20)], [(104, some (.box 27 [vI y3.1.Kind, .d (lst Rng.ds y3.1.Ranges), vS y3.1.Key, vI y3.1.Count])), (109, some (.box 30 [vI w14, .d (lst Rng.ds w15), vS w16, vI w17, .d (lst Rng.ds w18), .d (lst TVisit.ds w19)]))]⟩) ?_ ?_
      · refine wc_cs hm2 ?_ ?_ <;> clear hm2 <;> intro hm2
        · refine sx ?_
          obtain rfl := Option.some.inj hm2
          exact wk_cutw [(104, 104), (109, 109)] ⟨rfl, rfl⟩
        refine wc_exit ?_
        refine ss ?_
        obtain rfl := Option.some.inj hm2
        replace hm1 := ocbnd_r hm1
        obtain rfl := Option.some.inj hm1
        exact wk_cutw [(104, 104), (109, 109)] ⟨_, _, _, _, _, _, rfl, rfl⟩
      rintro _ ⟨rfl, rfl⟩
      replace hm1 := ocbnd_n hm1
      refine ss ?_
      refine wc_seq ?_
      obtain ⟨mu2, hm2, hm1⟩ := obnd_o hm1
      refine wc_cut' (fun st => ∃ (w51 : Int) (w52 : List Rng) (w53 : ByteArray) (w54 : Int) (w55 : List Rng) (w56 : List TVisit), mu2 = Ctl.nxt (w51, w52, w53, w54, w55, w56) ∧ st = ⟨[(4, .p 104 0), (5, .d (lst TView.ds y5)), (6, .d (lst Kv.ds rows11)), (9, .p 109 0), (10, vI y13.2), (11, vI i20)], [(104, some (.box 27 [vI y3.1.Kind, .d (lst Rng.ds y3.1.Ranges), vS y3.1.Key, vI y3.1.Count])), (109, some (.box 30 [vI w51, .d (lst Rng.ds w52), vS w53, vI w54, .d (lst Rng.ds w55), .d (lst TVisit.ds w56)]))]⟩) ?_ ?_
      · refine sr ?_
        obtain ⟨y22, hy, hm2⟩ := obnd_o hm2
        refine wl_cq (Mwalk_Want_sp (hm := hy)) ?_
        refine sr ?_
        obtain ⟨mu3, hm3, hm2⟩ := obnd_o hm2
        refine wc_cut' (fun st => mu3 = Ctl.nxt () ∧ st = ⟨[(4, .p 104 0), (5, .d (lst TView.ds y5)), (6, .d (lst Kv.ds rows11)), (9, .p 109 0), (10, vI y13.2), (11, vI i20), (12, .p 112 0)], [(104, some (.box 27 [vI y3.1.Kind, .d (lst Rng.ds y3.1.Ranges), vS y3.1.Key, vI y3.1.Count])), (109, some (.box 30 [vI w14, .d (lst Rng.ds w15), vS w16, vI w17, .d (lst Rng.ds w18), .d (lst TVisit.ds w19)])), (112, some (.box 42 [vS y22.1.lo.key, vB y22.1.lo.top, vS y22.1.hi.key, vB y22.1.hi.top]))]⟩) ?_ ?_
        · refine wc_cs hm3 ?_ ?_ <;> clear hm3 <;> intro hm3
          · refine wc_exit ?_
            refine ss ?_
            obtain rfl := Option.some.inj hm3
            replace hm2 := ocbnd_r hm2
            obtain rfl := Option.some.inj hm2
            replace hm1 := ocbnd_r hm1
            obtain rfl := Option.some.inj hm1
            exact wk_cutw [(104, 104), (109, 109)] ⟨_, _, _, _, _, _, rfl, rfl⟩
          refine sx ?_
          obtain rfl := Option.some.inj hm3
          exact wk_cutw [(104, 104), (109, 109), (112, 112)] ⟨rfl, rfl⟩
        rintro _ ⟨rfl, rfl⟩
        replace hm2 := ocbnd_n hm2
        refine sr ?_
        obtain ⟨mu3, hm3, hm2⟩ := obnd_o hm2
        refine wc_cut' (fun st => ∃ (w45 : Int) (w46 : List Rng) (w47 : ByteArray) (w48 : Int) (w49 : List Rng) (w50 : List TVisit), mu3 = Ctl.nxt (w45, w46, w47, w48, w49, w50) ∧ st = ⟨[(4, .p 104 0), (5, .d (lst TView.ds y5)), (6, .d (lst Kv.ds rows11)), (9, .p 109 0), (10, vI y13.2), (11, vI i20)], [(104, some (.box 27 [vI y3.1.Kind, .d (lst Rng.ds y3.1.Ranges), vS y3.1.Key, vI y3.1.Count])), (109, some (.box 30 [vI w45, .d (lst Rng.ds w46), vS w47, vI w48, .d (lst Rng.ds w49), .d (lst TVisit.ds w50)]))]⟩) ?_ ?_
        · refine wc_block ?_
          refine wc_len 61 rfl (fun hlenm25 => ?_)
          refine wc_loopw (fun κ st => ∃ (m25 : Nat) , κ = y5.length - m25 ∧ m25 ≤ y5.length ∧ Mlaw28_WalkReads_l3 y3 w14 w15 w16 w17 w18 w19 y22 (y5.drop m25) = some mu3 ∧ st = ⟨[(4, .p 104 0), (5, .d (lst TView.ds y5)), (6, .d (lst Kv.ds rows11)), (9, .p 109 0), (10, vI y13.2), (11, vI i20), (12, .p 112 0), (61, .d (lst TView.ds y5)), (62, vI (y5.length : Int)), (63, vI (m25 : Int))], [(104, some (.box 27 [vI y3.1.Kind, .d (lst Rng.ds y3.1.Ranges), vS y3.1.Key, vI y3.1.Count])), (109, some (.box 30 [vI w14, .d (lst Rng.ds w15), vS w16, vI w17, .d (lst Rng.ds w18), .d (lst TVisit.ds w19)])), (112, some (.box 42 [vS y22.1.lo.key, vB y22.1.lo.top, vS y22.1.hi.key, vB y22.1.hi.top]))]⟩) [(104, 104), (109, 109), (112, 112)] ⟨0, rfl, Nat.zero_le _, hm3, rfl⟩ ?_
          rintro κ _ ⟨m25, rfl, hlem25, hm3, rfl⟩
          rcases Nat.lt_or_ge m25 y5.length with hltm25 | hgem25
          · obtain ⟨r23, hxm25, hdr⟩ := drop_c hltm25
            rw [hdr, Mlaw28_WalkReads_l3.eq_2] at hm3
            refine sr ?_
            refine wc_seq ?_
            refine wc_cond_tt (lt_t hltm25) rfl ?_
            refine sx ?_
            refine sr ?_
            refine wl_r (o_ixm (ys := [dI r23.Owner, dS r23.Interval.lo.key, dB r23.Interval.lo.top, dS r23.Interval.hi.key, dB r23.Interval.hi.top, dI r23.Stamp.Epoch, dI r23.Stamp.Version, lst Kv.ds r23.Rows]) hxm25 rfl rfl rfl rfl) rfl rfl rfl ?_
            refine sr ?_
            obtain ⟨y26, hy, hm3⟩ := obnd_o hm3
            refine wl_cq (Mwalk_Take_sp (hm := hy)) ?_
            refine sr ?_
            refine wc_cs hm3 ?_ ?_ <;> clear hm3 <;> intro hm3
            · refine sr ?_
              refine sr ?_
              refine wc_cs hm3 ?_ ?_ <;> clear hm3 <;> intro hm3
              · refine sr ?_
                refine sx ?_
                obtain rfl := Option.some.inj hm3
                replace hm2 := ocbnd_r hm2
                obtain rfl := Option.some.inj hm2
                replace hm1 := ocbnd_r hm1
                obtain rfl := Option.some.inj hm1
                replace hm0 := ocbnd_r hm0
                obtain rfl := Option.some.inj hm0
                exact wk_ret ⟨rfl, rfl⟩
              refine sx ?_
              refine sr ?_
              obtain ⟨e27, hy, hm3⟩ := obnd_o hm3
              refine wl_r (o_ixg (ys := [dI e27.View.Owner, dS e27.View.Interval.lo.key, dB e27.View.Interval.lo.top, dS e27.View.Interval.hi.key, dB e27.View.Interval.hi.top, dI e27.View.Stamp.Epoch, dI e27.View.Stamp.Version, lst Kv.ds e27.View.Rows, dS e27.Part.lo.key, dB e27.Part.lo.top, dS e27.Part.hi.key, dB e27.Part.hi.top]) hy rfl rfl rfl rfl) rfl rfl rfl ?_
              refine sr ?_
              obtain ⟨y28, hy, hm3⟩ := bnd_o hm3
              refine wl_cq (Mref22_Down_sp (hm := hy)) ?_
              refine ss ?_
              obtain ⟨mu4, hm4, hm3⟩ := obnd_o hm3
              refine wc_cut' (fun st => ∃ (last30 : Int) (last31 : ByteArray) (last32 : Bool) (last33 : ByteArray) (last34 : Bool) (last35 : Int) (last36 : Int) (last37 : List Kv) (last38 : ByteArray) (last39 : Bool) (last40 : ByteArray) (last41 : Bool), mu4 = (last30, last31, last32, last33, last34, last35, last36, last37, last38, last39, last40, last41) ∧ st = ⟨[(4, .p 104 0), (5, .d (lst TView.ds y5)), (6, .d (lst Kv.ds rows11)), (9, .p 109 0), (10, vI y13.2), (11, vI i20), (12, .p 112 0), (15, .p 115 0), (18, .p 118 0)], [(104, some (.box 27 [vI y3.1.Kind, .d (lst Rng.ds y3.1.Ranges), vS y3.1.Key, vI y3.1.Count])), (109, some (.box 30 [vI y26.1.Query.Kind, .d (lst Rng.ds y26.1.Query.Ranges), vS y26.1.Query.Key, vI y26.1.Query.Count, .d (lst Rng.ds y26.1.Todo), .d (lst TVisit.ds y26.1.Visits)])), (112, some (.box 42 [vS y22.1.lo.key, vB y22.1.lo.top, vS y22.1.hi.key, vB y22.1.hi.top])), (115, some (.box 49 [vI r23.Owner, vS r23.Interval.lo.key, vB r23.Interval.lo.top, vS r23.Interval.hi.key, vB r23.Interval.hi.top, vI r23.Stamp.Epoch, vI r23.Stamp.Version, .d (lst Kv.ds r23.Rows)])), (118, some (.box 62 [vI last30, vS last31, vB last32, vS last33, vB last34, vI last35, vI last36, .d (lst Kv.ds last37), vS last38, vB last39, vS last40, vB last41]))]⟩) ?_ ?_
              · refine wc_cs hm4 ?_ ?_ <;> clear hm4 <;> intro hm4
                · refine sr ?_
                  obtain ⟨e29, hy, hm4⟩ := obnd_o hm4
                  refine wl_r (o_ixg (ys := [dI e29.View.Owner, dS e29.View.Interval.lo.key, dB e29.View.Interval.lo.top, dS e29.View.Interval.hi.key, dB e29.View.Interval.hi.top, dI e29.View.Stamp.Epoch, dI e29.View.Stamp.Version, lst Kv.ds e29.View.Rows, dS e29.Part.lo.key, dB e29.Part.lo.top, dS e29.Part.hi.key, dB e29.Part.hi.top]) hy rfl rfl rfl rfl) rfl rfl rfl ?_
                  refine ss ?_
                  obtain rfl := Option.some.inj hm4
                  exact wk_cutw [(104, 104), (109, 109), (112, 112), (115, 115), (118, 118)] ⟨_, _, _, _, _, _, _, _, _, _, _, _, rfl, rfl⟩
                refine sx ?_
                obtain rfl := Option.some.inj hm4
                exact wk_cutw [(104, 104), (109, 109), (112, 112), (115, 115), (118, 118)] ⟨_, _, _, _, _, _, _, _, _, _, _, _, rfl, rfl⟩
              rintro _ ⟨last30, last31, last32, last33, last34, last35, last36, last37, last38, last39, last40, last41, rfl, rfl⟩
              refine sr ?_
              refine wl_sg hm3 ?_ ?_ <;> clear hm3 <;> intro hm3
              · refine ss ?_
                refine wc_cond_t rfl ?_
                refine sr ?_
                refine sx ?_
                obtain rfl := Option.some.inj hm3
                replace hm2 := ocbnd_r hm2
                obtain rfl := Option.some.inj hm2
                replace hm1 := ocbnd_r hm1
                obtain rfl := Option.some.inj hm1
                replace hm0 := ocbnd_r hm0
                obtain rfl := Option.some.inj hm0
                exact wk_ret ⟨rfl, rfl⟩
              refine ss ?_
              refine wl_sg hm3 ?_ ?_ <;> clear hm3 <;> intro hm3
              · refine ss ?_
                refine wc_cond_t rfl ?_
                refine sr ?_
                refine sx ?_
                obtain rfl := Option.some.inj hm3
                replace hm2 := ocbnd_r hm2
                obtain rfl := Option.some.inj hm2
                replace hm1 := ocbnd_r hm1
                obtain rfl := Option.some.inj hm1
                replace hm0 := ocbnd_r hm0
                obtain rfl := Option.some.inj hm0
                exact wk_ret ⟨rfl, rfl⟩
              refine ss ?_
              obtain ⟨y42, hy, hm3⟩ := bnd_o hm3
              refine wl_cq (Mref24_SameRange_sp (hm := hy)) ?_
              refine ss ?_
              refine wl_sg hm3 ?_ ?_ <;> clear hm3 <;> intro hm3
              · refine ss ?_
                refine wc_cond_t rfl ?_
                refine sr ?_
                refine sx ?_
                obtain rfl := Option.some.inj hm3
                replace hm2 := ocbnd_r hm2
                obtain rfl := Option.some.inj hm2
                replace hm1 := ocbnd_r hm1
                obtain rfl := Option.some.inj hm1
                replace hm0 := ocbnd_r hm0
                obtain rfl := Option.some.inj hm0
                exact wk_ret ⟨rfl, rfl⟩
              refine ss ?_
              obtain ⟨y43, hy, hm3⟩ := bnd_o hm3
              refine wl_cq (Mref1_Intersect_sp (hm := hy)) ?_
              refine ss ?_
              obtain ⟨y44, hy, hm3⟩ := bnd_o hm3
              refine wl_cq (Mref1_Empty_sp (hm := hy)) ?_
              refine ss ?_
              refine wc_cs hm3 ?_ ?_ <;> clear hm3 <;> intro hm3
              · refine sr ?_
                refine sx ?_
                obtain rfl := Option.some.inj hm3
                replace hm2 := ocbnd_r hm2
                obtain rfl := Option.some.inj hm2
                replace hm1 := ocbnd_r hm1
                obtain rfl := Option.some.inj hm1
                replace hm0 := ocbnd_r hm0
                obtain rfl := Option.some.inj hm0
                exact wk_ret ⟨rfl, rfl⟩
              refine sx ?_
              refine wc_exit ?_
              refine ss ?_
              obtain rfl := Option.some.inj hm3
              exact wk_cutw [(104, 104), (109, 109)] ⟨_, _, _, _, _, _, rfl, rfl⟩
            refine sx ?_
            refine sr ?_
            refine wl_r (o_inc hltm25 hlenm25 rfl rfl rfl) rfl rfl rfl ?_
            refine ss ?_
            exact wk_loopw [(104, 104), (109, 109), (112, 112)] ⟨m25 + 1, rfl, hltm25, hm3, rfl⟩ (by omega)
          · rw [drop_n hgem25, Mlaw28_WalkReads_l3.eq_1] at hm3
            refine sr ?_
            refine wc_seq ?_
            refine wc_cond_ff (lt_f hgem25) rfl ?_
            refine wc_exit ?_
            refine ss ?_
            obtain rfl := Option.some.inj hm3
            exact wk_cutw [(104, 104), (109, 109)] ⟨_, _, _, _, _, _, rfl, rfl⟩
        rintro _ ⟨w45, w46, w47, w48, w49, w50, rfl, rfl⟩
        replace hm2 := ocbnd_n hm2
        refine ss ?_
        obtain rfl := Option.some.inj hm2
        exact wk_cutw [(104, 104), (109, 109)] ⟨_, _, _, _, _, _, rfl, rfl⟩
      rintro _ ⟨w51, w52, w53, w54, w55, w56, rfl, rfl⟩
      replace hm1 := ocbnd_n hm1
      refine sr ?_
      refine wl_r (o_add rfl rfl rfl rfl) rfl rfl rfl ?_
      refine ss ?_
      exact wk_loopw [(104, 104), (109, 109)] ⟨_, _, _, _, _, _, _, hm1, rfl⟩ (Nat.lt_succ_self _)
  rintro _ ⟨w57, w58, w59, w60, w61, w62, rfl, rfl⟩
  replace hm0 := ocbnd_n hm0
  refine sr ?_
  obtain ⟨y63, hy, hm0⟩ := obnd_o hm0
  refine wl_cq (Mref22_Answer_sp (hm := hy)) ?_
  refine ss ?_
  refine wc_seq ?_
  refine wc_draw (id := 31) [⟨0, 0, [10]⟩, ⟨1, 1, [131]⟩, ⟨2, 3, [132]⟩, ⟨3, 7, [9, 133]⟩, ⟨4, 15, [133, 134]⟩, ⟨5, 31, [133, 135]⟩, ⟨6, 63, [136]⟩, ⟨7, 127, [20, 137]⟩, ⟨8, 255, [137, 138]⟩, ⟨9, 511, [137, 139]⟩, ⟨10, 1023, [140]⟩, ⟨11, 2047, [4, 141]⟩, ⟨12, 2047, [9, 141]⟩, ⟨15, 2047, [19, 141]⟩, ⟨16, 34815, [141, 146]⟩, ⟨13, 6143, [141, 143]⟩, ⟨14, 16383, [141, 142, 144]⟩, ⟨17, 131071, [141, 145, 147]⟩, ⟨18, 262143, [141, 148]⟩, ⟨19, 524287, [149]⟩, ⟨20, 1048575, [150]⟩, ⟨21, 2097151, [150, 151]⟩, ⟨22, 4194303, [152]⟩] mixed (by kernel_rfl) ?_
  refine ss ?_
  refine wd_gp rfl rfl rfl rfl (fun h => ?_) (fun h => ?_)
  · replace hm0 := sel_t h hm0
    refine ss ?_
    obtain ⟨y64, hy, hm0⟩ := obnd_o hm0
    refine wd_cs (Mwalk_Done_sp (hm := hy)) rfl rfl rfl (by repeat (first | exact Vws.nil | apply Vws.cons | exact Vw.nil | exact Vw.d _ | exact Vw.q _ | apply Vw.a)) rfl rfl (by first | exact .no rfl | exact .y rfl rfl rfl rfl) rfl rfl rfl ?_
    refine ss ?_
    refine wd_gp rfl rfl rfl rfl (fun h => ?_) (fun h => ?_)
    · replace hm0 := sel_t h hm0
      refine ss ?_
      refine wd_gp rfl rfl rfl rfl (fun h => ?_) (fun h => ?_)
      · replace hm0 := sel_t h hm0
        refine ss ?_
        obtain ⟨y65, hy, hm0⟩ := obnd_o hm0
        refine wd_cs (Mwalk_Rows_sp (hm := hy)) rfl rfl rfl (by repeat (first | exact Vws.nil | apply Vws.cons | exact Vw.nil | exact Vw.d _ | exact Vw.q _ | apply Vw.a)) rfl rfl (by first | exact .no rfl | exact .y rfl rfl rfl rfl) rfl rfl rfl ?_
        refine ss ?_
        obtain ⟨y66, hy, hm0⟩ := obnd_o hm0
        refine wd_cs (Mref22_Take_sp (hm := hy)) rfl rfl rfl (by repeat (first | exact Vws.nil | apply Vws.cons | exact Vw.nil | exact Vw.d _ | exact Vw.q _ | apply Vw.a)) rfl rfl (by first | exact .no rfl | exact .y rfl rfl rfl rfl) rfl rfl rfl ?_
        refine ss ?_
        obtain ⟨y67, hy, hm0⟩ := obnd_o hm0
        refine wd_cs (Mref20_Same_sp (hm := hy)) rfl rfl rfl (by repeat (first | exact Vws.nil | apply Vws.cons | exact Vw.nil | exact Vw.d _ | exact Vw.q _ | apply Vw.a)) rfl rfl (by first | exact .no rfl | exact .y rfl rfl rfl rfl) rfl rfl rfl ?_
        refine ss ?_
        refine wd_gp rfl rfl rfl rfl (fun h => ?_) (fun h => ?_)
        · replace hm0 := sel_t h hm0
          refine ss ?_
          obtain ⟨y68, hy, hm0⟩ := obnd_o hm0
          refine wd_cs (Mlaw28_awake_sp (hm := hy)) rfl rfl rfl (by repeat (first | exact Vws.nil | apply Vws.cons | exact Vw.nil | exact Vw.d _ | exact Vw.q _ | apply Vw.a)) rfl rfl (by first | exact .no rfl | exact .y rfl rfl rfl rfl) rfl rfl rfl ?_
          refine sx ?_
          obtain rfl := Option.some.inj hm0
          exact wk_ret ⟨rfl, rfl⟩
        replace hm0 := sel_f h hm0
        refine sx ?_
        obtain rfl := Option.some.inj hm0
        exact wk_ret ⟨rfl, rfl⟩
      replace hm0 := sel_f h hm0
      refine sx ?_
      obtain rfl := Option.some.inj hm0
      exact wk_ret ⟨rfl, rfl⟩
    replace hm0 := sel_f h hm0
    refine sx ?_
    obtain rfl := Option.some.inj hm0
    exact wk_ret ⟨rfl, rfl⟩
  replace hm0 := sel_f h hm0
  refine sx ?_
  obtain rfl := Option.some.inj hm0
  exact wk_ret ⟨rfl, rfl⟩

end Go.Proofs.YtlbnhhfaedhgfaaGreatDoor
