/-
  Lemmas: Models and walks: the law WalkCovers.
-/
import Derived.Test.YtlbnhhfaedhgfaaGreatDoorPW26
import Derived.Test.YtlbnhhfaedhgfaaGreatDoorPW23
import Derived.Test.YtlbnhhfaedhgfaaGreatDoorPW25
namespace Go.Proofs.YtlbnhhfaedhgfaaGreatDoor
set_option linter.unusedSimpArgs false
set_option linter.unusedVariables false
open Go.RowKit
set_option maxRecDepth 100000
set_option maxHeartbeats 4000000
attribute [local irreducible] WK WC WL Wk Rel OpD OpV WD WO sel bnd obnd app lget lsl sget ssl scat letg iquo irem Op.bytesLess
attribute [local irreducible] qchk qranges union
def Mlaw28_WalkCovers_l2 : List TVisit → List Rng → Option (List Rng)
  | [], parts15 =>
    some parts15
  | r16 :: xs17, parts15 =>
    obnd (app parts15 ([r16.Part] : List Rng)) fun l19 =>
    Mlaw28_WalkCovers_l2 xs17 l19
def Mlaw28_WalkCovers_l3 (parts25 : List Rng) : Nat → Int → Option (Ctl (Ctl (Ctl Bool Unit) (List Int × Int × Int × List Rng × ByteArray × Int × List Rng × List TVisit)) Unit)
  | 0, _ => none
  | fuel + 1, k29 =>
    obnd (
      sel (decide (k29 < (parts25.length : Int))) (
        some (Ctl.nxt ())) (
        some (Ctl.ret (Ctl.nxt ()))) : Option (Ctl (Ctl (Ctl (Ctl Bool Unit) (List Int × Int × Int × List Rng × ByteArray × Int × List Rng × List TVisit)) Unit) Unit)) fun mu => ocbnd mu fun (_ : Unit) =>
    obnd (lget parts25 (i64w (k29 - 1))) fun e30 =>
    obnd (lget parts25 k29) fun e31 =>
    bnd (Mref1_Compare e30.hi e31.lo) fun y32 =>
    sel (decide (0 < y32)) (
      some (Ctl.ret (Ctl.ret (Ctl.ret false)))) (
      Mlaw28_WalkCovers_l3 parts25 fuel (i64w (k29 + 1)))
def Mlaw28_WalkCovers_l1 (y3 : (TQuery × TTape)) : Nat → List Int → Int → Int → List Rng → ByteArray → Int → List Rng → List TVisit → Int → Option (Ctl Bool Unit)
  | 0, _, _, _, _, _, _, _, _, _ => none
  | fuel + 1, x6, x7, w8, w9, w10, w11, w12, w13, i14 =>
    obnd (
      sel (decide (i14 < 20)) (
        some (Ctl.nxt ())) (
        some (Ctl.ret (Ctl.nxt ()))) : Option (Ctl (Ctl Bool Unit) Unit)) fun mu => ocbnd mu fun (_ : Unit) =>
    obnd (
      obnd (
        Mlaw28_WalkCovers_l2 w13 [] : Option (List Rng)) fun parts20 =>
      bnd (Mref22_Down y3.1) fun y21 =>
      obnd (
        sel y21 (
          obnd (app ([] : List Rng) w12) fun l22 =>
          obnd (app l22 parts20) fun l23 =>
          some l23) (
          obnd (app parts20 w12) fun l24 =>
          some l24) : Option (List Rng)) fun parts25 =>
      obnd (Mref1_Union parts25) fun y26 =>
      obnd (Mref22_Ranges y3.1) fun y27 =>
      obnd (Mref1_Same y26 y27) fun y28 =>
      sel (!y28) (
        some (Ctl.ret (Ctl.ret false))) (
        obnd (
          Mlaw28_WalkCovers_l3 parts25 FU 1 : Option (Ctl (Ctl (Ctl Bool Unit) (List Int × Int × Int × List Rng × ByteArray × Int × List Rng × List TVisit)) Unit)) fun mu => ocbnd mu fun (_ : Unit) =>
        obnd (Mwalk_Want (TWalk.mk (TQuery.mk w8 w9 w10 w11) w12 w13)) fun y33 =>
        sel (!y33.2) (
          obnd (
            obnd (Mwalk_Done (TWalk.mk (TQuery.mk w8 w9 w10 w11) w12 w13)) fun y34 =>
            sel y34 (
              sel (decide ((w12.length : Int) = 0)) (
                obnd (Mlaw28_awake) fun y35 =>
                some y35) (
                obnd (Mwalk_Rows (TWalk.mk (TQuery.mk w8 w9 w10 w11) w12 w13)) fun y36 =>
                bnd (Mref22_Enough y3.1 (y36.length : Int)) fun y37 =>
                sel y37 (
                  obnd (Mlaw28_awake) fun y38 =>
                  some y38) (
                  some false))) (
              some false) : Option Bool) fun x39 =>
          some (Ctl.ret (Ctl.ret x39))) (
          obnd (Mwld_Tape_Net (TTape.mk x6 x7) 4) fun y40 =>
          obnd (Mwld_Views y40.1) fun y41 =>
          bnd (Mref22_Down y3.1) fun y42 =>
          obnd (Mwld_Tape_Serve y40.2 y41 y33.1 y42) fun y43 =>
          obnd (Mwalk_Take (TWalk.mk (TQuery.mk w8 w9 w10 w11) w12 w13) y43.1) fun y44 =>
          sel (decide (y44.2 = 0)) (
            some (Ctl.nxt (y43.2.l, y43.2.at_, y44.1.Query.Kind, y44.1.Query.Ranges, y44.1.Query.Key, y44.1.Query.Count, y44.1.Todo, y44.1.Visits))) (
            sel (!decide (y44.2 = 12)) (
              some (Ctl.ret (Ctl.ret false))) (
              some (Ctl.nxt (y43.2.l, y43.2.at_, w8, w9, w10, w11, w12, w13)))))) : Option (Ctl (Ctl Bool Unit) (List Int × Int × Int × List Rng × ByteArray × Int × List Rng × List TVisit))) fun mu => ocbnd mu fun (x45, x46, w47, w48, w49, w50, w51, w52) =>
    Mlaw28_WalkCovers_l1 y3 fuel x45 x46 w47 w48 w49 w50 w51 w52 (i64w (i14 + 1))
def Mlaw28_WalkCovers (l1 : List Int) : Option Bool :=
  obnd (Mwld_New l1) fun y2 =>
  obnd (Mwld_Tape_Query y2) fun y3 =>
  obnd (Mref22_Ranges y3.1) fun y4 =>
  obnd (Mwalk_Start y3.1 y4) fun y5 =>
  sel (!decide (y5.2 = 0)) (
    some false) (
    obnd (
      Mlaw28_WalkCovers_l1 y3 FU y3.2.l y3.2.at_ y5.1.Query.Kind y5.1.Query.Ranges y5.1.Query.Key y5.1.Query.Count y5.1.Todo y5.1.Visits 0 : Option (Ctl Bool Unit)) fun mu => ocbnd mu fun (_ : Unit) =>
    obnd (Mlaw28_awake) fun y53 =>
    some y53)
theorem Mlaw28_WalkCovers_sp {l1 : List Int} {y : Bool} (hm : Mlaw28_WalkCovers l1 = some y) : Spec Tryz.prog 4 [.d (lst dsI l1)] [] fun u h => u = vB y ∧ h = [] := by
  refine Spec.intro Tryz.func4 rfl rfl Tryz.ntmps4 Tryz.results4 rfl fun B w0 ρ0 => ?_
  simp only [slots, List.map_nil, List.map_cons, Nat.reduceAdd]
  unfold Mlaw28_WalkCovers at hm
  have hm0 := hm
  clear hm
  refine sr ?_
  refine sr ?_
  obtain ⟨y2, hy, hm0⟩ := obnd_o hm0
  refine wl_mkn (u' := .p 201701 0) (h' := [(201701, some (.box 119 [.d (lst dsI y2.l), vI y2.at_]))]) (Mwld_New_sp (hm := hy)) 201700 rfl rfl rfl (by repeat (first | exact Vws.nil | apply Vws.cons | exact Vw.nil | exact Vw.d _ | exact Vw.q _ | apply Vw.a)) rfl (by (try simp only [renH, Option.map_some, Blk.ren, rens_d]); rfl) rfl rfl rfl rfl ?_
  refine sr ?_
  obtain ⟨y3, hy, hm0⟩ := obnd_o hm0
  refine wl_iq (Mwld_Tape_Query_sp (hm := hy)) 201701 ?_
  refine ss ?_
  refine wc_seq ?_
  refine wc_draw (id := 3) [⟨0, 0, [4]⟩, ⟨1, 0, [4]⟩, ⟨7, 0, []⟩, ⟨2, 2, [22]⟩, ⟨3, 7, [21, 23]⟩, ⟨4, 15, [24]⟩, ⟨5, 31, [20]⟩, ⟨6, 31, [20]⟩, ⟨8, 191, [5, 25]⟩, ⟨9, 511, [26]⟩] mixed (by kernel_rfl) ?_
  refine ss ?_
  obtain ⟨y4, hy, hm0⟩ := obnd_o hm0
  refine wd_cs (Mref22_Ranges_sp (hm := hy)) rfl rfl rfl (by repeat (first | exact Vws.nil | apply Vws.cons | exact Vw.nil | exact Vw.d _ | exact Vw.q _ | apply Vw.a)) rfl rfl (by first | exact .no rfl | exact .y rfl rfl rfl rfl) rfl rfl rfl ?_
  refine ss ?_
  obtain ⟨y5, hy, hm0⟩ := obnd_o hm0
  refine wd_cs (Mwalk_Start_sp (hm := hy)) rfl rfl rfl (by repeat (first | exact Vws.nil | apply Vws.cons | exact Vw.nil | exact Vw.d _ | exact Vw.q _ | apply Vw.a)) rfl rfl (by first | exact .no rfl | exact .y rfl rfl rfl rfl) rfl rfl rfl ?_
  refine sr ?_
  refine wc_cs hm0 ?_ ?_ <;> clear hm0 <;> intro hm0
  · refine sr ?_
    refine sx ?_
    obtain rfl := Option.some.inj hm0
    exact wk_ret ⟨rfl, rfl⟩
  refine sx ?_
  refine sr ?_
  obtain ⟨mu1, hm1, hm0⟩ := obnd_o hm0
  refine wc_cut' (fun st => mu1 = Ctl.nxt () ∧ st = ⟨[], []⟩) ?_ ?_
  · refine wc_block ?_
    refine wc_loopw (fun κ st => ∃ (x6 : List Int) (x7 : Int) (w8 : Int) (w9 : List Rng) (w10 : ByteArray) (w11 : Int) (w12 : List Rng) (w13 : List TVisit) (i14 : Int), Mlaw28_WalkCovers_l1 y3 κ x6 x7 w8 w9 w10 w11 w12 w13 i14 = some mu1 ∧ st = ⟨[(3, .p 201701 0), (4, .p 104 0), (5, .p 105 0), (7, vI i14)], [(104, some (.box 27 [vI y3.1.Kind, .d (lst Rng.ds y3.1.Ranges), vS y3.1.Key, vI y3.1.Count])), (105, some (.box 30 [vI w8, .d (lst Rng.ds w9), vS w10, vI w11, .d (lst Rng.ds w12), .d (lst TVisit.ds w13)])), (201701, some (.box 119 [.d (lst dsI x6), vI x7]))]⟩) [(104, 104), (105, 105), (201701, 201701)] ⟨_, _, _, _, _, _, _, _, _, hm1, rfl⟩ ?_
    rintro κ _ ⟨x6, x7, w8, w9, w10, w11, w12, w13, i14, hm1, rfl⟩
    cases κ with
    | zero => rw [Mlaw28_WalkCovers_l1.eq_1] at hm1; cases hm1
    | succ κ =>
      rw [Mlaw28_WalkCovers_l1.eq_2] at hm1
      refine sr ?_
      obtain ⟨mu2, hm2, hm1⟩ := obnd_o hm1
      refine wc_cut' (fun st => mu2 = Ctl.nxt () ∧ st = ⟨[(3, .p 201701 0), (4, .p 104 0), (5, .p 105 0), (7, vI i14)], [(104, some (.box 27 [vI y3.1.Kind, .d (lst Rng.ds y3.1.Ranges), vS y3.1.Key, vI y3.1.Count])), (105, some (.box 30 [vI w8, .d (lst Rng.ds w9), vS w10, vI w11, .d (lst Rng.ds w12), .d (lst TVisit.ds w13)])), (201701, some (.box 119 [.d (lst dsI x6), vI x7]))]⟩) ?_ ?_
      · refine wc_cs hm2 ?_ ?_ <;> clear hm2 <;> intro hm2
        · refine sx ?_
          obtain rfl := Option.some.inj hm2
          exact wk_cutw [(104, 104), (105, 105), (201701, 201701)] ⟨rfl, rfl⟩
        refine wc_exit ?_
        refine ss ?_
        obtain rfl := Option.some.inj hm2
        replace hm1 := ocbnd_r hm1
        obtain rfl := Option.some.inj hm1
        exact wk_cutw [] ⟨rfl, rfl⟩
      rintro _ ⟨rfl, rfl⟩
      replace hm1 := ocbnd_n hm1
      refine ss ?_
      refine wc_seq ?_
      obtain ⟨mu2, hm2, hm1⟩ := obnd_o hm1
      refine wc_cut' (fun st => ∃ (x45 : List Int) (x46 : Int) (w47 : Int) (w48 : List Rng) (w49 : ByteArray) (w50 : Int) (w51 : List Rng) (w52 : List TVisit), mu2 = Ctl.nxt (x45, x46, w47, w48, w49, w50, w51, w52) ∧ st = ⟨[(3, .p 201701 0), (4, .p 104 0), (5, .p 105 0), (7, vI i14)], [(104, some (.box 27 [vI y3.1.Kind, .d (lst Rng.ds y3.1.Ranges), vS y3.1.Key, vI y3.1.Count])), (105, some (.box 30 [vI w47, .d (lst Rng.ds w48), vS w49, vI w50, .d (lst Rng.ds w51), .d (lst TVisit.ds w52)])), (201701, some (.box 119 [.d (lst dsI x45), vI x46]))]⟩) ?_ ?_
      · refine sr ?_
        refine sr ?_
        obtain ⟨mu3, hm3, hm2⟩ := obnd_o hm2
        refine wc_cut' (fun st => ∃ (parts20 : List Rng), parts20 = mu3 ∧ st = ⟨[(3, .p 201701 0), (4, .p 104 0), (5, .p 105 0), (7, vI i14), (8, .h 5002)], [(104, some (.box 27 [vI y3.1.Kind, .d (lst Rng.ds y3.1.Ranges), vS y3.1.Key, vI y3.1.Count])), (105, some (.box 30 [vI w8, .d (lst Rng.ds w9), vS w10, vI w11, .d (lst Rng.ds w12), .d (lst TVisit.ds w13)])), (5002, some (arrT 42 4 Rng.ds parts20)), (201701, some (.box 119 [.d (lst dsI x6), vI x7]))]⟩) ?_ ?_
        · refine wc_block ?_
          refine wc_wk (wk_nil 8 5001 42 4 rfl rfl) ?_
          refine wc_len 34 rfl (fun hlenm18 => ?_)
          refine wc_loopw (fun κ st => ∃ (m18 : Nat) (parts15 : List Rng), κ = w13.length - m18 ∧ m18 ≤ w13.length ∧ Mlaw28_WalkCovers_l2 (w13.drop m18) parts15 = some mu3 ∧ st = ⟨[(3, .p 201701 0), (4, .p 104 0), (5, .p 105 0), (7, vI i14), (8, .h 5001), (34, .d (lst TVisit.ds w13)), (35, vI (w13.length : Int)), (36, vI (m18 : Int))], [(104, some (.box 27 [vI y3.1.Kind, .d (lst Rng.ds y3.1.Ranges), vS y3.1.Key, vI y3.1.Count])), (105, some (.box 30 [vI w8, .d (lst Rng.ds w9), vS w10, vI w11, .d (lst Rng.ds w12), .d (lst TVisit.ds w13)])), (5001, some (arrT 42 4 Rng.ds parts15)), (201701, some (.box 119 [.d (lst dsI x6), vI x7]))]⟩) [(104, 104), (105, 105), (5001, 5001), (201701, 201701)] ⟨0, _, rfl, Nat.zero_le _, hm3, rfl⟩ ?_
          rintro κ _ ⟨m18, parts15, rfl, hlem18, hm3, rfl⟩
          rcases Nat.lt_or_ge m18 w13.length with hltm18 | hgem18
          · obtain ⟨r16, hxm18, hdr⟩ := drop_c hltm18
            rw [hdr, Mlaw28_WalkCovers_l2.eq_2] at hm3
            refine sr ?_
            refine wc_seq ?_
            refine wc_cond_tt (lt_t hltm18) rfl ?_
            refine sx ?_
            refine sr ?_
            refine wl_r (o_ixm (ys := [dI r16.View.Owner, dS r16.View.Interval.lo.key, dB r16.View.Interval.lo.top, dS r16.View.Interval.hi.key, dB r16.View.Interval.hi.top, dI r16.View.Stamp.Epoch, dI r16.View.Stamp.Version, lst Kv.ds r16.View.Rows, dS r16.Part.lo.key, dB r16.Part.lo.top, dS r16.Part.hi.key, dB r16.Part.hi.top]) hxm18 rfl rfl rfl rfl) rfl rfl rfl ?_
            refine sr ?_
            refine wl_bt Rng.ds [r16.Part] rfl rfl (by simp only [flatV, cellsV, List.cons_append, List.nil_append, List.append_nil]; exact rfl) rfl rfl rfl rfl rfl rfl ?_
            refine ss ?_
            obtain ⟨l19, hy, hm3⟩ := obnd_o hm3
            refine wl_2 (n_app (k' := 144) hy rfl rfl rfl rfl rfl rfl rfl rfl) rfl rfl rfl rfl ?_
            refine sr ?_
            refine wl_r (o_inc hltm18 hlenm18 rfl rfl rfl) rfl rfl rfl ?_
            refine ss ?_
            exact wk_loopw [(104, 104), (105, 105), (5001, 144), (201701, 201701)] ⟨m18 + 1, _, rfl, hltm18, hm3, rfl⟩ (by omega)
          · rw [drop_n hgem18, Mlaw28_WalkCovers_l2.eq_1] at hm3
            refine sr ?_
            refine wc_seq ?_
            refine wc_cond_ff (lt_f hgem18) rfl ?_
            refine wc_exit ?_
            refine ss ?_
            obtain rfl := Option.some.inj hm3
            exact wk_cutw [(104, 104), (105, 105), (5002, 5001), (201701, 201701)] ⟨_, rfl, rfl⟩
        rintro _ ⟨parts20, rfl, rfl⟩
        refine sr ?_
        obtain ⟨y21, hy, hm2⟩ := bnd_o hm2
        refine wl_cq (Mref22_Down_sp (hm := hy)) ?_
        refine ss ?_
        obtain ⟨mu3, hm3, hm2⟩ := obnd_o hm2
        refine wc_cut' (fun st => ∃ (parts25 : List Rng), parts25 = mu3 ∧ st = ⟨[(3, .p 201701 0), (4, .p 104 0), (5, .p 105 0), (7, vI i14), (8, .d (lst Rng.ds parts25))], [(104, some (.box 27 [vI y3.1.Kind, .d (lst Rng.ds y3.1.Ranges), vS y3.1.Key, vI y3.1.Count])), (105, some (.box 30 [vI w8, .d (lst Rng.ds w9), vS w10, vI w11, .d (lst Rng.ds w12), .d (lst TVisit.ds w13)])), (201701, some (.box 119 [.d (lst dsI x6), vI x7]))]⟩) ?_ ?_
        · refine wc_cs hm3 ?_ ?_ <;> clear hm3 <;> intro hm3
          · refine wc_wkw [(104, 104), (105, 105), (201701, 201701)] ⟨[(3, .p 201701 0), (4, .p 104 0), (5, .p 105 0), (7, vI i14), (8, .d (lst Rng.ds parts20))], [(104, some (.box 27 [vI y3.1.Kind, .d (lst Rng.ds y3.1.Ranges), vS y3.1.Key, vI y3.1.Count])), (105, some (.box 30 [vI w8, .d (lst Rng.ds w9), vS w10, vI w11, .d (lst Rng.ds w12), .d (lst TVisit.ds w13)])), (201701, some (.box 119 [.d (lst dsI x6), vI x7]))]⟩ ?_
            refine sr ?_
            obtain ⟨l22, hy, hm3⟩ := obnd_o hm3
            refine wl_1 (n_appn (k := 150) hy rfl rfl rfl rfl rfl rfl) rfl rfl rfl rfl ?_
            refine ss ?_
            obtain ⟨l23, hy, hm3⟩ := obnd_o hm3
            refine wl_2 (n_app (k' := 152) hy rfl rfl rfl rfl rfl rfl rfl rfl) rfl rfl rfl rfl ?_
            refine ss ?_
            obtain rfl := Option.some.inj hm3
            exact wk_cutw [(104, 104), (105, 105), (201701, 201701)] ⟨_, rfl, rfl⟩
          refine sr ?_
          obtain ⟨l24, hy, hm3⟩ := obnd_o hm3
          refine wl_2 (n_app (k' := 156) hy rfl rfl rfl rfl rfl rfl rfl rfl) rfl rfl rfl rfl ?_
          refine ss ?_
          obtain rfl := Option.some.inj hm3
          exact wk_cutw [(104, 104), (105, 105), (201701, 201701)] ⟨_, rfl, rfl⟩
        rintro _ ⟨parts25, rfl, rfl⟩
        refine ss ?_
        refine wc_seq ?_
        refine wc_seq ?_
        refine wc_draw (id := 18) [⟨0, 0, [8]⟩, ⟨2, 0, [4]⟩, ⟨1, 1, [57]⟩, ⟨3, 7, [59]⟩, ⟨4, 15, [58, 60]⟩, ⟨5, 31, [61]⟩] mixed (by kernel_rfl) ?_
        refine ss ?_
        obtain ⟨y26, hy, hm2⟩ := obnd_o hm2
        refine wd_cs (Mref1_Union_sp (hm := hy)) rfl rfl rfl (by repeat (first | exact Vws.nil | apply Vws.cons | exact Vw.nil | exact Vw.d _ | exact Vw.q _ | apply Vw.a)) rfl rfl (by first | exact .no rfl | exact .y rfl rfl rfl rfl) rfl rfl rfl ?_
        refine ss ?_
        obtain ⟨y27, hy, hm2⟩ := obnd_o hm2
        refine wd_cs (Mref22_Ranges_sp (hm := hy)) rfl rfl rfl (by repeat (first | exact Vws.nil | apply Vws.cons | exact Vw.nil | exact Vw.d _ | exact Vw.q _ | apply Vw.a)) rfl rfl (by first | exact .no rfl | exact .y rfl rfl rfl rfl) rfl rfl rfl ?_
        refine ss ?_
        obtain ⟨y28, hy, hm2⟩ := obnd_o hm2
        refine wd_cs (Mref1_Same_sp (hm := hy)) rfl rfl rfl (by repeat (first | exact Vws.nil | apply Vws.cons | exact Vw.nil | exact Vw.d _ | exact Vw.q _ | apply Vw.a)) rfl rfl (by first | exact .no rfl | exact .y rfl rfl rfl rfl) rfl rfl rfl ?_
        refine ss ?_
        refine wc_cs hm2 ?_ ?_ <;> clear hm2 <;> intro hm2
        · refine sr ?_
          refine sx ?_
          obtain rfl := Option.some.inj hm2
          replace hm1 := ocbnd_r hm1
          obtain rfl := Option.some.inj hm1
          replace hm0 := ocbnd_r hm0
          obtain rfl := Option.some.inj hm0
          exact wk_ret ⟨rfl, rfl⟩
        refine sx ?_
        refine sr ?_
        obtain ⟨mu3, hm3, hm2⟩ := obnd_o hm2
        refine wc_cut' (fun st => mu3 = Ctl.nxt () ∧ st = ⟨[(3, .p 201701 0), (4, .p 104 0), (5, .p 105 0), (7, vI i14)], [(104, some (.box 27 [vI y3.1.Kind, .d (lst Rng.ds y3.1.Ranges), vS y3.1.Key, vI y3.1.Count])), (105, some (.box 30 [vI w8, .d (lst Rng.ds w9), vS w10, vI w11, .d (lst Rng.ds w12), .d (lst TVisit.ds w13)])), (201701, some (.box 119 [.d (lst dsI x6), vI x7]))]⟩) ?_ ?_
        · refine wc_block ?_
          refine wc_loopw (fun κ st => ∃ (k29 : Int), Mlaw28_WalkCovers_l3 parts25 κ k29 = some mu3 ∧ st = ⟨[(3, .p 201701 0), (4, .p 104 0), (5, .p 105 0), (7, vI i14), (8, .d (lst Rng.ds parts25)), (11, vI k29)], [(104, some (.box 27 [vI y3.1.Kind, .d (lst Rng.ds y3.1.Ranges), vS y3.1.Key, vI y3.1.Count])), (105, some (.box 30 [vI w8, .d (lst Rng.ds w9), vS w10, vI w11, .d (lst Rng.ds w12), .d (lst TVisit.ds w13)])), (201701, some (.box 119 [.d (lst dsI x6), vI x7]))]⟩) [(104, 104), (105, 105), (201701, 201701)] ⟨_, hm3, rfl⟩ ?_
          rintro κ _ ⟨k29, hm3, rfl⟩
          cases κ with
          | zero => rw [Mlaw28_WalkCovers_l3.eq_1] at hm3; cases hm3
          | succ κ =>
            rw [Mlaw28_WalkCovers_l3.eq_2] at hm3
            refine sr ?_
            obtain ⟨mu4, hm4, hm3⟩ := obnd_o hm3
            refine wc_cut' (fun st => mu4 = Ctl.nxt () ∧ st = ⟨[(3, .p 201701 0), (4, .p 104 0), (5, .p 105 0), (7, vI i14), (8, .d (lst Rng.ds parts25)), (11, vI k29)], [(104, some (.box 27 [vI y3.1.Kind, .d (lst Rng.ds y3.1.Ranges), vS y3.1.Key, vI y3.1.Count])), (105, some (.box 30 [vI w8, .d (lst Rng.ds w9), vS w10, vI w11, .d (lst Rng.ds w12), .d (lst TVisit.ds w13)])), (201701, some (.box 119 [.d (lst dsI x6), vI x7]))]⟩) ?_ ?_
            · refine wc_cs hm4 ?_ ?_ <;> clear hm4 <;> intro hm4
              · refine sx ?_
                obtain rfl := Option.some.inj hm4
                exact wk_cutw [(104, 104), (105, 105), (201701, 201701)] ⟨rfl, rfl⟩
              refine wc_exit ?_
              refine ss ?_
              obtain rfl := Option.some.inj hm4
              replace hm3 := ocbnd_r hm3
              obtain rfl := Option.some.inj hm3
              exact wk_cutw [(104, 104), (105, 105), (201701, 201701)] ⟨rfl, rfl⟩
            rintro _ ⟨rfl, rfl⟩
            replace hm3 := ocbnd_n hm3
            refine ss ?_
            refine wc_seq ?_
            refine wc_block ?_
            refine wc_seq ?_
            refine wc_draw (id := 23) [⟨0, 0, [8]⟩, ⟨1, 0, [11]⟩, ⟨2, 2, [70]⟩, ⟨3, 7, [69, 71]⟩, ⟨4, 15, [72]⟩, ⟨5, 31, [73]⟩, ⟨6, 0, [8]⟩, ⟨7, 0, [11]⟩, ⟨8, 192, [75, 76]⟩, ⟨9, 448, [77]⟩, ⟨10, 960, [78]⟩, ⟨11, 2047, [74, 79]⟩, ⟨12, 4095, [80]⟩] mixed (by kernel_rfl) ?_
            refine ss ?_
            obtain ⟨e30, hy, hm3⟩ := obnd_o hm3
            refine wd_r [] (o_ixg (ys := [dS e30.lo.key, dB e30.lo.top, dS e30.hi.key, dB e30.hi.top]) hy rfl rfl rfl rfl) rfl (by first | exact .no rfl | exact .y rfl rfl rfl rfl) rfl rfl ?_
            refine ss ?_
            obtain ⟨e31, hy, hm3⟩ := obnd_o hm3
            refine wd_r [] (o_ixg (ys := [dS e31.lo.key, dB e31.lo.top, dS e31.hi.key, dB e31.hi.top]) hy rfl rfl rfl rfl) rfl (by first | exact .no rfl | exact .y rfl rfl rfl rfl) rfl rfl ?_
            refine ss ?_
            obtain ⟨y32, hy, hm3⟩ := bnd_o hm3
            refine wd_cs (Mref1_Compare_sp (hm := hy)) rfl rfl rfl (by repeat (first | exact Vws.nil | apply Vws.cons | exact Vw.nil | exact Vw.d _ | exact Vw.q _ | apply Vw.a)) rfl rfl (by first | exact .no rfl | exact .y rfl rfl rfl rfl) rfl rfl rfl ?_
            refine ss ?_
            refine wc_cs hm3 ?_ ?_ <;> clear hm3 <;> intro hm3
            · refine sr ?_
              refine sx ?_
              obtain rfl := Option.some.inj hm3
              replace hm2 := ocbnd_r hm2
              obtain rfl := Option.some.inj hm2
              replace hm1 := ocbnd_r hm1
              obtain rfl := Option.some.inj hm1
              replace hm0 := ocbnd_r hm0
              obtain rfl := Option.some.inj hm0
              exact wk_ret ⟨rfl, rfl⟩
            refine sx ?_
            refine sr ?_
            refine wl_r (o_add rfl rfl rfl rfl) rfl rfl rfl ?_
            refine ss ?_
            exact wk_loopw [(104, 104), (105, 105), (201701, 201701)] ⟨_, hm3, rfl⟩ (Nat.lt_succ_self _)
        rintro _ ⟨rfl, rfl⟩
        replace hm2 := ocbnd_n hm2
        refine sr ?_
        obtain ⟨y33, hy, hm2⟩ := obnd_o hm2
        refine wl_cq (Mwalk_Want_sp (hm := hy)) ?_
        refine sr ?_
        refine wc_cs hm2 ?_ ?_ <;> clear hm2 <;> intro hm2
        · refine wc_seq ?_
          obtain ⟨mu3, hm3, hm2⟩ := obnd_o hm2
          refine wc_cut' (fun st => ∃ (x39 : Bool), x39 = mu3 ∧ st = ⟨[(2, vB x39)], []⟩) ?_ ?_
          · refine wc_draw (id := 27) [⟨0, 0, [5]⟩, ⟨1, 1, [89]⟩, ⟨2, 3, [90]⟩, ⟨3, 7, [5, 91]⟩, ⟨4, 15, [91, 92]⟩, ⟨5, 31, [91, 93]⟩, ⟨6, 63, [91, 94]⟩, ⟨7, 127, [91, 95]⟩, ⟨8, 255, [4, 96]⟩, ⟨9, 255, [5, 96]⟩, ⟨10, 767, [96, 98]⟩, ⟨11, 1791, [96, 99]⟩, ⟨12, 4095, [96, 97, 100]⟩, ⟨13, 8191, [91, 96, 101]⟩, ⟨14, 16383, [91, 102]⟩, ⟨15, 32767, [103]⟩, ⟨16, 65535, [104]⟩, ⟨17, 131071, [104, 105]⟩, ⟨18, 262143, [106]⟩] mixed (by kernel_rfl) ?_
            refine ss ?_
            obtain ⟨y34, hy, hm3⟩ := obnd_o hm3
            refine wd_cs (Mwalk_Done_sp (hm := hy)) rfl rfl rfl (by repeat (first | exact Vws.nil | apply Vws.cons | exact Vw.nil | exact Vw.d _ | exact Vw.q _ | apply Vw.a)) rfl rfl (by first | exact .no rfl | exact .y rfl rfl rfl rfl) rfl rfl rfl ?_
            refine ss ?_
            refine wd_gp rfl rfl rfl rfl (fun h => ?_) (fun h => ?_)
            · replace hm3 := sel_t h hm3
              refine ss ?_
              refine wd_gp rfl rfl rfl rfl (fun h => ?_) (fun h => ?_)
              · replace hm3 := sel_t h hm3
                refine ss ?_
                obtain ⟨y35, hy, hm3⟩ := obnd_o hm3
                refine wd_cs (Mlaw28_awake_sp (hm := hy)) rfl rfl rfl (by repeat (first | exact Vws.nil | apply Vws.cons | exact Vw.nil | exact Vw.d _ | exact Vw.q _ | apply Vw.a)) rfl rfl (by first | exact .no rfl | exact .y rfl rfl rfl rfl) rfl rfl rfl ?_
                refine ss ?_
                obtain rfl := Option.some.inj hm3
                exact wk_cutw [] ⟨_, rfl, rfl⟩
              replace hm3 := sel_f h hm3
              refine ss ?_
              obtain ⟨y36, hy, hm3⟩ := obnd_o hm3
              refine wd_cs (Mwalk_Rows_sp (hm := hy)) rfl rfl rfl (by repeat (first | exact Vws.nil | apply Vws.cons | exact Vw.nil | exact Vw.d _ | exact Vw.q _ | apply Vw.a)) rfl rfl (by first | exact .no rfl | exact .y rfl rfl rfl rfl) rfl rfl rfl ?_
              refine ss ?_
              obtain ⟨y37, hy, hm3⟩ := bnd_o hm3
              refine wd_cs (Mref22_Enough_sp (hm := hy)) rfl rfl rfl (by repeat (first | exact Vws.nil | apply Vws.cons | exact Vw.nil | exact Vw.d _ | exact Vw.q _ | apply Vw.a)) rfl rfl (by first | exact .no rfl | exact .y rfl rfl rfl rfl) rfl rfl rfl ?_
              refine ss ?_
              refine wd_gp rfl rfl rfl rfl (fun h => ?_) (fun h => ?_)
              · replace hm3 := sel_t h hm3
                refine ss ?_
                obtain ⟨y38, hy, hm3⟩ := obnd_o hm3
                refine wd_cs (Mlaw28_awake_sp (hm := hy)) rfl rfl rfl (by repeat (first | exact Vws.nil | apply Vws.cons | exact Vw.nil | exact Vw.d _ | exact Vw.q _ | apply Vw.a)) rfl rfl (by first | exact .no rfl | exact .y rfl rfl rfl rfl) rfl rfl rfl ?_
                refine ss ?_
                obtain rfl := Option.some.inj hm3
                exact wk_cutw [] ⟨_, rfl, rfl⟩
              replace hm3 := sel_f h hm3
              refine ss ?_
              obtain rfl := Option.some.inj hm3
              exact wk_cutw [] ⟨_, rfl, rfl⟩
            replace hm3 := sel_f h hm3
            refine ss ?_
            obtain rfl := Option.some.inj hm3
            exact wk_cutw [] ⟨_, rfl, rfl⟩
          rintro _ ⟨x39, rfl, rfl⟩
          refine sx ?_
          obtain rfl := Option.some.inj hm2
          replace hm1 := ocbnd_r hm1
          obtain rfl := Option.some.inj hm1
          replace hm0 := ocbnd_r hm0
          obtain rfl := Option.some.inj hm0
          exact wk_ret ⟨rfl, rfl⟩
        refine sx ?_
        refine wc_seq ?_
        refine wc_draw (id := 28) [⟨0, 0, [5]⟩, ⟨1, 0, [3]⟩, ⟨2, 0, [3]⟩, ⟨5, 0, [12]⟩, ⟨6, 0, [4]⟩, ⟨13, 0, []⟩, ⟨3, 4, [110]⟩, ⟨4, 12, [111]⟩, ⟨7, 92, [114]⟩, ⟨8, 254, [109, 112, 113, 115]⟩, ⟨9, 511, [108, 116]⟩, ⟨10, 1023, [117]⟩, ⟨11, 2047, [107]⟩, ⟨12, 2047, [107]⟩, ⟨14, 12287, [14, 118]⟩, ⟨15, 32767, [119]⟩] mixed (by kernel_rfl) ?_
        refine ss ?_
        obtain ⟨y40, hy, hm2⟩ := obnd_o hm2
        refine wd_io (Mwld_Tape_Net_sp (hm := hy)) 201701 rfl rfl rfl (by repeat (first | exact Vws.nil | apply Vws.cons | exact Vw.nil | exact Vw.d _ | exact Vw.q _ | exact Vw.p rfl | apply Vw.a)) rfl (Vb.box (by repeat (first | exact Vws.nil | apply Vws.cons | exact Vw.nil | exact Vw.d _ | exact Vw.q _ | exact Vw.p rfl | apply Vw.a))) rfl rfl rfl (by first | exact .no rfl | exact .y rfl rfl rfl rfl) rfl rfl rfl rfl ?_
        refine ss ?_
        obtain ⟨y41, hy, hm2⟩ := obnd_o hm2
        refine wd_cs (Mwld_Views_sp (hm := hy)) rfl rfl rfl (by repeat (first | exact Vws.nil | apply Vws.cons | exact Vw.nil | exact Vw.d _ | exact Vw.q _ | apply Vw.a)) rfl rfl (by first | exact .no rfl | exact .y rfl rfl rfl rfl) rfl rfl rfl ?_
        refine ss ?_
        obtain ⟨y42, hy, hm2⟩ := bnd_o hm2
        refine wd_cs (Mref22_Down_sp (hm := hy)) rfl rfl rfl (by repeat (first | exact Vws.nil | apply Vws.cons | exact Vw.nil | exact Vw.d _ | exact Vw.q _ | apply Vw.a)) rfl rfl (by first | exact .no rfl | exact .y rfl rfl rfl rfl) rfl rfl rfl ?_
        refine ss ?_
        obtain ⟨y43, hy, hm2⟩ := obnd_o hm2
        refine wd_io (Mwld_Tape_Serve_sp (hm := hy)) 201701 rfl rfl rfl (by repeat (first | exact Vws.nil | apply Vws.cons | exact Vw.nil | exact Vw.d _ | exact Vw.q _ | exact Vw.p rfl | apply Vw.a)) rfl (Vb.box (by repeat (first | exact Vws.nil | apply Vws.cons | exact Vw.nil | exact Vw.d _ | exact Vw.q _ | exact Vw.p rfl | apply Vw.a))) rfl rfl rfl (by first | exact .no rfl | exact .y rfl rfl rfl rfl) rfl rfl rfl rfl ?_
        refine ss ?_
        obtain ⟨y44, hy, hm2⟩ := obnd_o hm2
        refine wd_cs (Mwalk_Take_sp (hm := hy)) rfl rfl rfl (by repeat (first | exact Vws.nil | apply Vws.cons | exact Vw.nil | exact Vw.d _ | exact Vw.q _ | apply Vw.a)) rfl rfl (by first | exact .no rfl | exact .y rfl rfl rfl rfl) rfl rfl rfl ?_
        refine sr ?_
        refine wc_cs hm2 ?_ ?_ <;> clear hm2 <;> intro hm2
        · refine sr ?_
          obtain rfl := Option.some.inj hm2
          exact wk_cutw [(104, 104), (105, 105), (201701, 201701)] ⟨_, _, _, _, _, _, _, _, rfl, rfl⟩
        refine sr ?_
        refine wc_cs hm2 ?_ ?_ <;> clear hm2 <;> intro hm2
        · refine sr ?_
          refine sx ?_
          obtain rfl := Option.some.inj hm2
          replace hm1 := ocbnd_r hm1
          obtain rfl := Option.some.inj hm1
          replace hm0 := ocbnd_r hm0
          obtain rfl := Option.some.inj hm0
          exact wk_ret ⟨rfl, rfl⟩
        refine sx ?_
        obtain rfl := Option.some.inj hm2
        exact wk_cutw [(104, 104), (105, 105), (201701, 201701)] ⟨_, _, _, _, _, _, _, _, rfl, rfl⟩
      rintro _ ⟨x45, x46, w47, w48, w49, w50, w51, w52, rfl, rfl⟩
      replace hm1 := ocbnd_n hm1
      refine sr ?_
      refine wl_r (o_add rfl rfl rfl rfl) rfl rfl rfl ?_
      refine ss ?_
      exact wk_loopw [(104, 104), (105, 105), (201701, 201701)] ⟨_, _, _, _, _, _, _, _, _, hm1, rfl⟩ (Nat.lt_succ_self _)
  rintro _ ⟨rfl, rfl⟩
  replace hm0 := ocbnd_n hm0
  refine sr ?_
  obtain ⟨y53, hy, hm0⟩ := obnd_o hm0
  refine wl_cq (Mlaw28_awake_sp (hm := hy)) ?_
  refine sx ?_
  obtain rfl := Option.some.inj hm0
  exact wk_ret ⟨rfl, rfl⟩

end Go.Proofs.YtlbnhhfaedhgfaaGreatDoor
