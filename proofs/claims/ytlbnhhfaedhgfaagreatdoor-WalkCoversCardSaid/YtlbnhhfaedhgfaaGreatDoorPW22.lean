/-
  Lemmas: Models and walks: walks of a query through groups (the program's).
-/
import Derived.Test.YtlbnhhfaedhgfaaGreatDoorPW21
import Derived.Test.YtlbnhhfaedhgfaaGreatDoorPW19
namespace Go.Proofs.YtlbnhhfaedhgfaaGreatDoor
set_option linter.unusedSimpArgs false
set_option linter.unusedVariables false
open Go.RowKit
set_option maxRecDepth 100000
set_option maxHeartbeats 4000000
attribute [local irreducible] WK WC WL Wk Rel OpD OpV WD WO sel bnd obnd app lget lsl sget ssl scat letg iquo irem Op.bytesLess
attribute [local irreducible] qchk qranges union
def Mwalk_Inside (outer1 : Rng) (inner2 : Rng) : Bool :=
  bnd (Mkeyspace_Empty outer1) fun y3 =>
  sel (!y3) (
    bnd (Mkeyspace_Compare outer1.lo inner2.lo) fun y4 =>
    sel (decide (y4 ≤ 0)) (
      bnd (Mkeyspace_Compare inner2.hi outer1.hi) fun y5 =>
      decide (y5 ≤ 0)) (
      false)) (
    false)
theorem Mwalk_Inside_sp {outer1 : Rng} {inner2 : Rng} {y : Bool} (hm : Mwalk_Inside outer1 inner2 = y) : Spec Tryz.prog 94 [.a [vS outer1.lo.key, vB outer1.lo.top, vS outer1.hi.key, vB outer1.hi.top], .a [vS inner2.lo.key, vB inner2.lo.top, vS inner2.hi.key, vB inner2.hi.top]] [] fun u h => u = vB y ∧ h = [] := by
  refine Spec.intro Tryz.func94 rfl rfl Tryz.ntmps94 Tryz.results94 rfl fun B w0 ρ0 => ?_
  simp only [slots, List.map_nil, List.map_cons, Nat.reduceAdd]
  unfold Mwalk_Inside at hm
  have hm0 := hm
  clear hm
  refine sr ?_
  refine sr ?_
  obtain ⟨y3, hy, hm0⟩ := bnd_o hm0
  refine wl_cq (Mkeyspace_Empty_sp (hm := hy)) ?_
  refine ss ?_
  refine wl_sg hm0 ?_ ?_ <;> clear hm0 <;> intro hm0
  · refine ss ?_
    obtain ⟨y4, hy, hm0⟩ := bnd_o hm0
    refine wl_cq (Mkeyspace_Compare_sp (hm := hy)) ?_
    refine ss ?_
    refine wl_sg hm0 ?_ ?_ <;> clear hm0 <;> intro hm0
    · refine ss ?_
      obtain ⟨y5, hy, hm0⟩ := bnd_o hm0
      refine wl_cq (Mkeyspace_Compare_sp (hm := hy)) ?_
      refine sx ?_
      subst hm0
      exact wk_ret ⟨rfl, rfl⟩
    refine sx ?_
    subst hm0
    exact wk_ret ⟨rfl, rfl⟩
  refine sx ?_
  subst hm0
  exact wk_ret ⟨rfl, rfl⟩

def Mwalk_Start_l2 (r5 : Rng) : List Rng → Bool → Option Bool
  | [], found12 =>
    some found12
  | r13 :: xs14, found12 =>
    sel found12 (
      Mwalk_Start_l2 r5 xs14 true) (
      bnd (Mwalk_Inside r13 r5) fun y16 =>
      Mwalk_Start_l2 r5 xs14 y16)
def Mwalk_Start_l1 (ranges2 : List Rng) (y4 : List Rng) : List Rng → Int → Option (Ctl (TWalk × Int) Unit)
  | [], i =>
    some (Ctl.nxt ())
  | r5 :: xs6, i =>
    obnd (
      bnd (Mkeyspace_Empty r5) fun y8 =>
      sel y8 (
        some (Ctl.ret (Ctl.ret ((TWalk.mk (TQuery.mk 0 [] ⟨#[]⟩ 0) [] []), 1)))) (
        obnd (
          sel (decide (0 < i)) (
            obnd (lget ranges2 (i64w (i - 1))) fun e9 =>
            bnd (Mkeyspace_Compare r5.lo e9.hi) fun y10 =>
            some (decide (y10 < 0))) (
            some false) : Option Bool) fun x11 =>
        sel x11 (
          some (Ctl.ret (Ctl.ret ((TWalk.mk (TQuery.mk 0 [] ⟨#[]⟩ 0) [] []), 8)))) (
          obnd (
            Mwalk_Start_l2 r5 y4 false : Option Bool) fun found17 =>
          sel (!found17) (
            some (Ctl.ret (Ctl.ret ((TWalk.mk (TQuery.mk 0 [] ⟨#[]⟩ 0) [] []), 2)))) (
            some (Ctl.nxt ())))) : Option (Ctl (Ctl (TWalk × Int) Unit) Unit)) fun mu => ocbnd mu fun (_ : Unit) =>
    Mwalk_Start_l1 ranges2 y4 xs6 (i + 1)
def Mwalk_Start (q1 : TQuery) (ranges2 : List Rng) : Option (TWalk × Int) :=
  obnd (Mquery_Check q1) fun y3 =>
  sel (!decide (y3 = 0)) (
    some ((TWalk.mk (TQuery.mk 0 [] ⟨#[]⟩ 0) [] []), y3)) (
    sel (decide (128 < (ranges2.length : Int))) (
      some ((TWalk.mk (TQuery.mk 0 [] ⟨#[]⟩ 0) [] []), 3)) (
      obnd (Mquery_Ranges q1) fun y4 =>
      obnd (
        Mwalk_Start_l1 ranges2 y4 ranges2 0 : Option (Ctl (TWalk × Int) Unit)) fun mu => ocbnd mu fun (_ : Unit) =>
      obnd (Mclone_Query q1) fun y18 =>
      obnd (Mclone_List_api_Range_ ranges2) fun y19 =>
      some ((TWalk.mk y18 y19 []), 0)))
theorem Mwalk_Start_sp {q1 : TQuery} {ranges2 : List Rng} {y : (TWalk × Int)} (hm : Mwalk_Start q1 ranges2 = some y) : Spec Tryz.prog 29 [.a [vI q1.Kind, .d (lst Rng.ds q1.Ranges), vS q1.Key, vI q1.Count], .d (lst Rng.ds ranges2)] [] fun u h => u = .t [.a [vI y.1.Query.Kind, .d (lst Rng.ds y.1.Query.Ranges), vS y.1.Query.Key, vI y.1.Query.Count, .d (lst Rng.ds y.1.Todo), .d (lst TVisit.ds y.1.Visits)], vI y.2] ∧ h = [] := by
  refine Spec.intro Tryz.func29 rfl rfl Tryz.ntmps29 Tryz.results29 rfl fun B w0 ρ0 => ?_
  simp only [slots, List.map_nil, List.map_cons, Nat.reduceAdd]
  unfold Mwalk_Start at hm
  have hm0 := hm
  clear hm
  refine sr ?_
  refine sr ?_
  obtain ⟨y3, hy, hm0⟩ := obnd_o hm0
  refine wl_cq (Mquery_Check_sp (hm := hy)) ?_
  refine sr ?_
  refine wc_cs hm0 ?_ ?_ <;> clear hm0 <;> intro hm0
  · refine sr ?_
    refine sx ?_
    obtain rfl := Option.some.inj hm0
    exact wk_ret ⟨rfl, rfl⟩
  refine sx ?_
  refine sr ?_
  refine wc_cs hm0 ?_ ?_ <;> clear hm0 <;> intro hm0
  · refine sr ?_
    refine sx ?_
    obtain rfl := Option.some.inj hm0
    exact wk_ret ⟨rfl, rfl⟩
  refine sx ?_
  refine sr ?_
  obtain ⟨y4, hy, hm0⟩ := obnd_o hm0
  refine wl_cq (Mquery_Ranges_sp (hm := hy)) ?_
  refine sr ?_
  obtain ⟨mu1, hm1, hm0⟩ := obnd_o hm0
  refine wc_cut' (fun st => mu1 = Ctl.nxt () ∧ st = ⟨[(1, .d (lst Rng.ds ranges2)), (2, .p 102 0), (4, .p 104 0)], [(102, some (.box 27 [vI q1.Kind, .d (lst Rng.ds q1.Ranges), vS q1.Key, vI q1.Count])), (104, some (.box 30 [vI 0, .d (.c (.slice none 0 0)), vS ⟨#[]⟩, vI 0, .d (.c (.slice none 0 0)), .d (.c (.slice none 0 0))]))]⟩) ?_ ?_
  · refine wc_block ?_
    refine wc_len 25 rfl (fun hlenm7 => ?_)
    refine wc_loopw (fun κ st => ∃ (m7 : Nat) , κ = ranges2.length - m7 ∧ m7 ≤ ranges2.length ∧ Mwalk_Start_l1 ranges2 y4 (ranges2.drop m7) (m7 : Int) = some mu1 ∧ st = ⟨[(1, .d (lst Rng.ds ranges2)), (2, .p 102 0), (4, .p 104 0), (7, .d (lst Rng.ds y4)), (25, .d (lst Rng.ds ranges2)), (26, vI (ranges2.length : Int)), (27, vI (m7 : Int))], [(102, some (.box 27 [vI q1.Kind, .d (lst Rng.ds q1.Ranges), vS q1.Key, vI q1.Count])), (104, some (.box 30 [vI 0, .d (.c (.slice none 0 0)), vS ⟨#[]⟩, vI 0, .d (.c (.slice none 0 0)), .d (.c (.slice none 0 0))]))]⟩) [(102, 102), (104, 104)] ⟨0, rfl, Nat.zero_le _, hm1, rfl⟩ ?_
    rintro κ _ ⟨m7, rfl, hlem7, hm1, rfl⟩
    rcases Nat.lt_or_ge m7 ranges2.length with hltm7 | hgem7
    · obtain ⟨r5, hxm7, hdr⟩ := drop_c hltm7
      rw [hdr, Mwalk_Start_l1.eq_2] at hm1
      refine sr ?_
      refine wc_seq ?_
      refine wc_cond_tt (lt_t hltm7) rfl ?_
      refine sx ?_
      refine wc_seq ?_
      obtain ⟨mu2, hm2, hm1⟩ := obnd_o hm1
      refine wc_cut' (fun st => mu2 = Ctl.nxt () ∧ st = ⟨[(1, .d (lst Rng.ds ranges2)), (2, .p 102 0), (4, .p 104 0), (7, .d (lst Rng.ds y4)), (25, .d (lst Rng.ds ranges2)), (26, vI (ranges2.length : Int)), (27, vI (m7 : Int))], [(102, some (.box 27 [vI q1.Kind, .d (lst Rng.ds q1.Ranges), vS q1.Key, vI q1.Count])), (104, some (.box 30 [vI 0, .d (.c (.slice none 0 0)), vS ⟨#[]⟩, vI 0, .d (.c (.slice none 0 0)), .d (.c (.slice none 0 0))]))]⟩) ?_ ?_
      · refine sr ?_
        refine wl_r (o_ixm (ys := [dS r5.lo.key, dB r5.lo.top, dS r5.hi.key, dB r5.hi.top]) hxm7 rfl rfl rfl rfl) rfl rfl rfl ?_
        refine sr ?_
        obtain ⟨y8, hy, hm2⟩ := bnd_o hm2
        refine wl_cq (Mkeyspace_Empty_sp (hm := hy)) ?_
        refine ss ?_
        refine wc_cs hm2 ?_ ?_ <;> clear hm2 <;> intro hm2
        · refine sr ?_
          refine sx ?_
          obtain rfl := Option.some.inj hm2
          replace hm1 := ocbnd_r hm1
          obtain rfl := Option.some.inj hm1
          replace hm0 := ocbnd_r hm0
          obtain rfl := Option.some.inj hm0
          exact wk_ret ⟨rfl, rfl⟩
        refine sx ?_
        refine wc_seq ?_
        refine wc_seq ?_
        obtain ⟨mu3, hm3, hm2⟩ := obnd_o hm2
        refine wc_cut' (fun st => ∃ (x11 : Bool), x11 = mu3 ∧ st = ⟨[(1, .d (lst Rng.ds ranges2)), (2, .p 102 0), (4, .p 104 0), (7, .d (lst Rng.ds y4)), (9, .p 109 0), (25, .d (lst Rng.ds ranges2)), (26, vI (ranges2.length : Int)), (27, vI (m7 : Int)), (48, vB x11)], [(102, some (.box 27 [vI q1.Kind, .d (lst Rng.ds q1.Ranges), vS q1.Key, vI q1.Count])), (104, some (.box 30 [vI 0, .d (.c (.slice none 0 0)), vS ⟨#[]⟩, vI 0, .d (.c (.slice none 0 0)), .d (.c (.slice none 0 0))])), (109, some (.box 42 [vS r5.lo.key, vB r5.lo.top, vS r5.hi.key, vB r5.hi.top]))]⟩) ?_ ?_
        · refine wc_draw (id := 12) [⟨0, 0, [8]⟩, ⟨1, 1, [35]⟩, ⟨2, 3, [36]⟩, ⟨3, 7, [9, 37]⟩, ⟨4, 15, [37, 38]⟩, ⟨5, 7, [1, 37]⟩, ⟨6, 7, [8, 37]⟩, ⟨7, 71, [37, 41]⟩, ⟨8, 231, [37, 40, 42]⟩, ⟨9, 487, [37, 43]⟩, ⟨10, 999, [37, 44]⟩, ⟨11, 2047, [37, 39, 45]⟩, ⟨12, 4095, [37, 46]⟩, ⟨13, 8191, [37, 47]⟩] mixed (by kernel_rfl) ?_
          refine ss ?_
          refine wd_gp rfl rfl rfl rfl (fun h => ?_) (fun h => ?_)
          · replace hm3 := sel_t h hm3
            refine ss ?_
            obtain ⟨e9, hy, hm3⟩ := obnd_o hm3
            refine wd_r [] (o_ixg (ys := [dS e9.lo.key, dB e9.lo.top, dS e9.hi.key, dB e9.hi.top]) hy rfl rfl rfl rfl) rfl (by first | exact .no rfl | exact .y rfl rfl rfl rfl) rfl rfl ?_
            refine ss ?_
            obtain ⟨y10, hy, hm3⟩ := bnd_o hm3
            refine wd_cs (Mkeyspace_Compare_sp (hm := hy)) rfl rfl rfl (by repeat (first | exact Vws.nil | apply Vws.cons | exact Vw.nil | exact Vw.d _ | exact Vw.q _ | apply Vw.a)) rfl rfl (by first | exact .no rfl | exact .y rfl rfl rfl rfl) rfl rfl rfl ?_
            refine ss ?_
            obtain rfl := Option.some.inj hm3
            exact wk_cutw [(102, 102), (104, 104), (109, 109)] ⟨_, rfl, rfl⟩
          replace hm3 := sel_f h hm3
          refine ss ?_
          obtain rfl := Option.some.inj hm3
          exact wk_cutw [(102, 102), (104, 104), (109, 109)] ⟨_, rfl, rfl⟩
        rintro _ ⟨x11, rfl, rfl⟩
        refine ss ?_
        refine wc_cs hm2 ?_ ?_ <;> clear hm2 <;> intro hm2
        · refine sr ?_
          refine sx ?_
          obtain rfl := Option.some.inj hm2
          replace hm1 := ocbnd_r hm1
          obtain rfl := Option.some.inj hm1
          replace hm0 := ocbnd_r hm0
          obtain rfl := Option.some.inj hm0
          exact wk_ret ⟨rfl, rfl⟩
        refine sx ?_
        refine sr ?_
        refine sr ?_
        obtain ⟨mu3, hm3, hm2⟩ := obnd_o hm2
        refine wc_cut' (fun st => ∃ (found17 : Bool), found17 = mu3 ∧ st = ⟨[(1, .d (lst Rng.ds ranges2)), (2, .p 102 0), (4, .p 104 0), (7, .d (lst Rng.ds y4)), (10, vB found17), (25, .d (lst Rng.ds ranges2)), (26, vI (ranges2.length : Int)), (27, vI (m7 : Int))], [(102, some (.box 27 [vI q1.Kind, .d (lst Rng.ds q1.Ranges), vS q1.Key, vI q1.Count])), (104, some (.box 30 [vI 0, .d (.c (.slice none 0 0)), vS ⟨#[]⟩, vI 0, .d (.c (.slice none 0 0)), .d (.c (.slice none 0 0))]))]⟩) ?_ ?_
        · refine wc_block ?_
          refine wc_len 50 rfl (fun hlenm15 => ?_)
          refine wc_loopw (fun κ st => ∃ (m15 : Nat) (found12 : Bool), κ = y4.length - m15 ∧ m15 ≤ y4.length ∧ Mwalk_Start_l2 r5 (y4.drop m15) found12 = some mu3 ∧ st = ⟨[(1, .d (lst Rng.ds ranges2)), (2, .p 102 0), (4, .p 104 0), (7, .d (lst Rng.ds y4)), (9, .p 109 0), (10, vB found12), (25, .d (lst Rng.ds ranges2)), (26, vI (ranges2.length : Int)), (27, vI (m7 : Int)), (50, .d (lst Rng.ds y4)), (51, vI (y4.length : Int)), (52, vI (m15 : Int))], [(102, some (.box 27 [vI q1.Kind, .d (lst Rng.ds q1.Ranges), vS q1.Key, vI q1.Count])), (104, some (.box 30 [vI 0, .d (.c (.slice none 0 0)), vS ⟨#[]⟩, vI 0, .d (.c (.slice none 0 0)), .d (.c (.slice none 0 0))])), (109, some (.box 42 [vS r5.lo.key, vB r5.lo.top, vS r5.hi.key, vB r5.hi.top]))]⟩) [(102, 102), (104, 104), (109, 109)] ⟨0, _, rfl, Nat.zero_le _, hm3, rfl⟩ ?_
          rintro κ _ ⟨m15, found12, rfl, hlem15, hm3, rfl⟩
          rcases Nat.lt_or_ge m15 y4.length with hltm15 | hgem15
          · obtain ⟨r13, hxm15, hdr⟩ := drop_c hltm15
            rw [hdr, Mwalk_Start_l2.eq_2] at hm3
            refine sr ?_
            refine wc_seq ?_
            refine wc_cond_tt (lt_t hltm15) rfl ?_
            refine sx ?_
            refine sr ?_
            refine wl_r (o_ixm (ys := [dS r13.lo.key, dB r13.lo.top, dS r13.hi.key, dB r13.hi.top]) hxm15 rfl rfl rfl rfl) rfl rfl rfl ?_
            refine sr ?_
            refine wl_sg hm3 ?_ ?_ <;> clear hm3 <;> intro hm3
            · refine sr ?_
              refine wl_r (o_inc hltm15 hlenm15 rfl rfl rfl) rfl rfl rfl ?_
              refine ss ?_
              exact wk_loopw [(102, 102), (104, 104), (109, 109)] ⟨m15 + 1, _, rfl, hltm15, hm3, rfl⟩ (by omega)
            refine ss ?_
            obtain ⟨y16, hy, hm3⟩ := bnd_o hm3
            refine wl_cq (Mwalk_Inside_sp (hm := hy)) ?_
            refine sr ?_
            refine wl_r (o_inc hltm15 hlenm15 rfl rfl rfl) rfl rfl rfl ?_
            refine ss ?_
            exact wk_loopw [(102, 102), (104, 104), (109, 109)] ⟨m15 + 1, _, rfl, hltm15, hm3, rfl⟩ (by omega)
          · rw [drop_n hgem15, Mwalk_Start_l2.eq_1] at hm3
            refine sr ?_
            refine wc_seq ?_
            refine wc_cond_ff (lt_f hgem15) rfl ?_
            refine wc_exit ?_
            refine ss ?_
            obtain rfl := Option.some.inj hm3
            exact wk_cutw [(102, 102), (104, 104)] ⟨_, rfl, rfl⟩
        rintro _ ⟨found17, rfl, rfl⟩
        refine sr ?_
        refine wc_cs hm2 ?_ ?_ <;> clear hm2 <;> intro hm2
        · refine sr ?_
          refine sx ?_
          obtain rfl := Option.some.inj hm2
          replace hm1 := ocbnd_r hm1
          obtain rfl := Option.some.inj hm1
          replace hm0 := ocbnd_r hm0
          obtain rfl := Option.some.inj hm0
          exact wk_ret ⟨rfl, rfl⟩
        refine sx ?_
        obtain rfl := Option.some.inj hm2
        exact wk_cutw [(102, 102), (104, 104)] ⟨rfl, rfl⟩
      rintro _ ⟨rfl, rfl⟩
      replace hm1 := ocbnd_n hm1
      refine sr ?_
      refine wl_r (o_inc hltm7 hlenm7 rfl rfl rfl) rfl rfl rfl ?_
      refine ss ?_
      exact wk_loopw [(102, 102), (104, 104)] ⟨m7 + 1, rfl, hltm7, hm1, rfl⟩ (by omega)
    · rw [drop_n hgem7, Mwalk_Start_l1.eq_1] at hm1
      refine sr ?_
      refine wc_seq ?_
      refine wc_cond_ff (lt_f hgem7) rfl ?_
      refine wc_exit ?_
      refine ss ?_
      obtain rfl := Option.some.inj hm1
      exact wk_cutw [(102, 102), (104, 104)] ⟨rfl, rfl⟩
  rintro _ ⟨rfl, rfl⟩
  replace hm0 := ocbnd_n hm0
  refine sr ?_
  obtain ⟨y18, hy, hm0⟩ := obnd_o hm0
  refine wl_cq (Mclone_Query_sp (hm := hy)) ?_
  refine ss ?_
  obtain ⟨y19, hy, hm0⟩ := obnd_o hm0
  refine wl_cq (Mclone_List_api_Range__sp (hm := hy)) ?_
  refine sx ?_
  obtain rfl := Option.some.inj hm0
  exact wk_ret ⟨rfl, rfl⟩

def Mwalk_Rows_l1 : List TVisit → List Kv → Option (List Kv)
  | [], out2 =>
    some out2
  | r3 :: xs4, out2 =>
    obnd (app out2 r3.View.Rows) fun l6 =>
    Mwalk_Rows_l1 xs4 l6
def Mwalk_Rows (w1 : TWalk) : Option (List Kv) :=
  obnd (
    Mwalk_Rows_l1 w1.Visits [] : Option (List Kv)) fun out7 =>
  some out7
theorem Mwalk_Rows_sp {w1 : TWalk} {y : List Kv} (hm : Mwalk_Rows w1 = some y) : Spec Tryz.prog 37 [.a [vI w1.Query.Kind, .d (lst Rng.ds w1.Query.Ranges), vS w1.Query.Key, vI w1.Query.Count, .d (lst Rng.ds w1.Todo), .d (lst TVisit.ds w1.Visits)]] [] fun u h => u = .d (lst Kv.ds y) ∧ h = [] := by
  refine Spec.intro Tryz.func37 rfl rfl Tryz.ntmps37 Tryz.results37 rfl fun B w0 ρ0 => ?_
  simp only [slots, List.map_nil, List.map_cons, Nat.reduceAdd]
  unfold Mwalk_Rows at hm
  have hm0 := hm
  clear hm
  refine sr ?_
  refine sr ?_
  refine sr ?_
  obtain ⟨mu1, hm1, hm0⟩ := obnd_o hm0
  refine wc_cut' (fun st => ∃ (out7 : List Kv), out7 = mu1 ∧ st = ⟨[(3, .d (lst Kv.ds out7))], []⟩) ?_ ?_
  · refine wc_block ?_
    refine wc_wk (wk_nil 3 5001 95 2 rfl rfl) ?_
    refine wc_len 7 rfl (fun hlenm5 => ?_)
    refine wc_loopw (fun κ st => ∃ (m5 : Nat) (out2 : List Kv), κ = w1.Visits.length - m5 ∧ m5 ≤ w1.Visits.length ∧ Mwalk_Rows_l1 (w1.Visits.drop m5) out2 = some mu1 ∧ st = ⟨[(3, .h 5001), (7, .d (lst TVisit.ds w1.Visits)), (8, vI (w1.Visits.length : Int)), (9, vI (m5 : Int))], [(5001, some (arrT 95 2 Kv.ds out2))]⟩) [(5001, 5001)] ⟨0, _, rfl, Nat.zero_le _, hm1, rfl⟩ ?_
    rintro κ _ ⟨m5, out2, rfl, hlem5, hm1, rfl⟩
    rcases Nat.lt_or_ge m5 w1.Visits.length with hltm5 | hgem5
    · obtain ⟨r3, hxm5, hdr⟩ := drop_c hltm5
      rw [hdr, Mwalk_Rows_l1.eq_2] at hm1
      refine sr ?_
      refine wc_seq ?_
      refine wc_cond_tt (lt_t hltm5) rfl ?_
      refine sx ?_
      refine sr ?_
      refine wl_r (o_ixm (ys := [dI r3.View.Owner, dS r3.View.Interval.lo.key, dB r3.View.Interval.lo.top, dS r3.View.Interval.hi.key, dB r3.View.Interval.hi.top, dI r3.View.Stamp.Epoch, dI r3.View.Stamp.Version, lst Kv.ds r3.View.Rows, dS r3.Part.lo.key, dB r3.Part.lo.top, dS r3.Part.hi.key, dB r3.Part.hi.top]) hxm5 rfl rfl rfl rfl) rfl rfl rfl ?_
      refine sr ?_
      obtain ⟨l6, hy, hm1⟩ := obnd_o hm1
      refine wl_2 (n_app (k' := 117) hy rfl rfl rfl rfl rfl rfl rfl rfl) rfl rfl rfl rfl ?_
      refine sr ?_
      refine wl_r (o_inc hltm5 hlenm5 rfl rfl rfl) rfl rfl rfl ?_
      refine ss ?_
      exact wk_loopw [(5001, 117)] ⟨m5 + 1, _, rfl, hltm5, hm1, rfl⟩ (by omega)
    · rw [drop_n hgem5, Mwalk_Rows_l1.eq_1] at hm1
      refine sr ?_
      refine wc_seq ?_
      refine wc_cond_ff (lt_f hgem5) rfl ?_
      refine wc_exit ?_
      refine ss ?_
      obtain rfl := Option.some.inj hm1
      exact wk_cutw [] ⟨_, rfl, rfl⟩
  rintro _ ⟨out7, rfl, rfl⟩
  refine sr ?_
  refine sx ?_
  obtain rfl := Option.some.inj hm0
  exact wk_ret ⟨rfl, rfl⟩

def Mwalk_Done (w1 : TWalk) : Option Bool :=
  sel (decide ((w1.Todo.length : Int) = 0)) (
    some true) (
    obnd (Mwalk_Rows w1) fun y2 =>
    bnd (Mquery_Enough w1.Query (y2.length : Int)) fun y3 =>
    some y3)
theorem Mwalk_Done_sp {w1 : TWalk} {y : Bool} (hm : Mwalk_Done w1 = some y) : Spec Tryz.prog 35 [.a [vI w1.Query.Kind, .d (lst Rng.ds w1.Query.Ranges), vS w1.Query.Key, vI w1.Query.Count, .d (lst Rng.ds w1.Todo), .d (lst TVisit.ds w1.Visits)]] [] fun u h => u = vB y ∧ h = [] := by
  refine Spec.intro Tryz.func35 rfl rfl Tryz.ntmps35 Tryz.results35 rfl fun B w0 ρ0 => ?_
  simp only [slots, List.map_nil, List.map_cons, Nat.reduceAdd]
  unfold Mwalk_Done at hm
  have hm0 := hm
  clear hm
  refine sr ?_
  refine wc_seq ?_
  refine wc_draw (id := 1) [⟨0, 0, [1]⟩, ⟨1, 1, [3]⟩, ⟨2, 3, [4]⟩, ⟨3, 7, [5]⟩, ⟨4, 15, [6]⟩, ⟨5, 31, [1, 7]⟩, ⟨6, 63, [7, 8]⟩, ⟨7, 31, [1, 7]⟩, ⟨8, 159, [7, 10]⟩, ⟨9, 415, [7, 11]⟩, ⟨10, 1023, [7, 9, 12]⟩, ⟨11, 2047, [7, 13]⟩, ⟨12, 4095, [14]⟩] mixed (by kernel_rfl) ?_
  refine ss ?_
  refine wd_gp rfl rfl rfl rfl (fun h => ?_) (fun h => ?_)
  · replace hm0 := sel_t h hm0
    refine sx ?_
    obtain rfl := Option.some.inj hm0
    exact wk_ret ⟨rfl, rfl⟩
  replace hm0 := sel_f h hm0
  refine ss ?_
  obtain ⟨y2, hy, hm0⟩ := obnd_o hm0
  refine wd_cs (Mwalk_Rows_sp (hm := hy)) rfl rfl rfl (by repeat (first | exact Vws.nil | apply Vws.cons | exact Vw.nil | exact Vw.d _ | exact Vw.q _ | apply Vw.a)) rfl rfl (by first | exact .no rfl | exact .y rfl rfl rfl rfl) rfl rfl rfl ?_
  refine ss ?_
  obtain ⟨y3, hy, hm0⟩ := bnd_o hm0
  refine wd_cs (Mquery_Enough_sp (hm := hy)) rfl rfl rfl (by repeat (first | exact Vws.nil | apply Vws.cons | exact Vw.nil | exact Vw.d _ | exact Vw.q _ | apply Vw.a)) rfl rfl (by first | exact .no rfl | exact .y rfl rfl rfl rfl) rfl rfl rfl ?_
  refine sx ?_
  obtain rfl := Option.some.inj hm0
  exact wk_ret ⟨rfl, rfl⟩

def Mwalk_Want (w1 : TWalk) : Option (Rng × Bool) :=
  obnd (Mwalk_Done w1) fun y2 =>
  sel y2 (
    some ((Rng.mk (Bnd.mk ⟨#[]⟩ false) (Bnd.mk ⟨#[]⟩ false)), false)) (
    bnd (Mquery_Down w1.Query) fun y3 =>
    sel y3 (
      obnd (lget w1.Todo (i64w ((w1.Todo.length : Int) - 1))) fun e4 =>
      some (e4, true)) (
      obnd (lget w1.Todo 0) fun e5 =>
      some (e5, true)))
theorem Mwalk_Want_sp {w1 : TWalk} {y : (Rng × Bool)} (hm : Mwalk_Want w1 = some y) : Spec Tryz.prog 34 [.a [vI w1.Query.Kind, .d (lst Rng.ds w1.Query.Ranges), vS w1.Query.Key, vI w1.Query.Count, .d (lst Rng.ds w1.Todo), .d (lst TVisit.ds w1.Visits)]] [] fun u h => u = .t [.a [vS y.1.lo.key, vB y.1.lo.top, vS y.1.hi.key, vB y.1.hi.top], vB y.2] ∧ h = [] := by
  refine Spec.intro Tryz.func34 rfl rfl Tryz.ntmps34 Tryz.results34 rfl fun B w0 ρ0 => ?_
  simp only [slots, List.map_nil, List.map_cons, Nat.reduceAdd]
  unfold Mwalk_Want at hm
  have hm0 := hm
  clear hm
  refine sr ?_
  refine sr ?_
  obtain ⟨y2, hy, hm0⟩ := obnd_o hm0
  refine wl_cq (Mwalk_Done_sp (hm := hy)) ?_
  refine ss ?_
  refine wc_cs hm0 ?_ ?_ <;> clear hm0 <;> intro hm0
  · refine sr ?_
    refine sx ?_
    obtain rfl := Option.some.inj hm0
    exact wk_ret ⟨rfl, rfl⟩
  refine sr ?_
  obtain ⟨y3, hy, hm0⟩ := bnd_o hm0
  refine wl_cq (Mquery_Down_sp (hm := hy)) ?_
  refine ss ?_
  refine wc_cs hm0 ?_ ?_ <;> clear hm0 <;> intro hm0
  · refine sr ?_
    obtain ⟨e4, hy, hm0⟩ := obnd_o hm0
    refine wl_r (o_ixg (ys := [dS e4.lo.key, dB e4.lo.top, dS e4.hi.key, dB e4.hi.top]) hy rfl rfl rfl rfl) rfl rfl rfl ?_
    refine sx ?_
    obtain rfl := Option.some.inj hm0
    exact wk_ret ⟨rfl, rfl⟩
  refine sx ?_
  refine sr ?_
  obtain ⟨e5, hy, hm0⟩ := obnd_o hm0
  refine wl_r (o_ixg (ys := [dS e5.lo.key, dB e5.lo.top, dS e5.hi.key, dB e5.hi.top]) hy rfl rfl rfl rfl) rfl rfl rfl ?_
  refine sx ?_
  obtain rfl := Option.some.inj hm0
  exact wk_ret ⟨rfl, rfl⟩

def Mwalk_ValidView (v1 : TView) : Option Bool :=
  sel (decide (1 ≤ v1.Owner)) (
    sel (decide (v1.Owner ≤ 2147483647)) (
      bnd (Mkeyspace_Empty v1.Interval) fun y2 =>
      sel (!y2) (
        bnd (Mstamp_Valid v1.Stamp) fun y3 =>
        sel y3 (
          obnd (Mtable_Valid v1.Rows) fun y4 =>
          sel y4 (
            obnd (Mtable_Slice v1.Rows v1.Interval) fun y5 =>
            some (decide ((y5.length : Int) = (v1.Rows.length : Int)))) (
            some false)) (
          some false)) (
        some false)) (
      some false)) (
    some false)
theorem Mwalk_ValidView_sp {v1 : TView} {y : Bool} (hm : Mwalk_ValidView v1 = some y) : Spec Tryz.prog 87 [.a [vI v1.Owner, vS v1.Interval.lo.key, vB v1.Interval.lo.top, vS v1.Interval.hi.key, vB v1.Interval.hi.top, vI v1.Stamp.Epoch, vI v1.Stamp.Version, .d (lst Kv.ds v1.Rows)]] [] fun u h => u = vB y ∧ h = [] := by
  refine Spec.intro Tryz.func87 rfl rfl Tryz.ntmps87 Tryz.results87 rfl fun B w0 ρ0 => ?_
  simp only [slots, List.map_nil, List.map_cons, Nat.reduceAdd]
  unfold Mwalk_ValidView at hm
  have hm0 := hm
  clear hm
  refine sr ?_
  refine wc_seq ?_
  refine wc_draw (id := 1) [⟨0, 0, [1]⟩, ⟨1, 1, [3]⟩, ⟨2, 3, [4]⟩, ⟨3, 7, [5]⟩, ⟨4, 15, [1, 6]⟩, ⟨5, 31, [6, 7]⟩, ⟨6, 63, [6, 8]⟩, ⟨7, 127, [6, 9]⟩, ⟨8, 255, [10]⟩, ⟨9, 511, [1, 11]⟩, ⟨10, 1023, [11, 12]⟩, ⟨11, 2047, [11, 13]⟩, ⟨12, 4095, [11, 14]⟩, ⟨13, 8191, [11, 15]⟩, ⟨14, 16383, [16]⟩, ⟨15, 32767, [1, 17]⟩, ⟨16, 65535, [17, 18]⟩, ⟨17, 131071, [17, 19]⟩, ⟨18, 262143, [17, 20]⟩, ⟨19, 524287, [21]⟩, ⟨20, 1048575, [1, 22]⟩, ⟨21, 2097151, [22, 23]⟩, ⟨22, 4194303, [22, 24]⟩, ⟨23, 8388607, [22, 25]⟩, ⟨24, 16777215, [26]⟩, ⟨25, 33554431, [1, 27]⟩, ⟨26, 67108863, [27, 28]⟩, ⟨27, 33554431, [1, 27]⟩, ⟨28, 167772159, [27, 30]⟩, ⟨31, 33554431, [1, 27]⟩, ⟨32, 2181038079, [27, 34]⟩, ⟨33, 6476005375, [27, 35]⟩, ⟨29, 536870911, [27, 29, 31]⟩, ⟨30, 1073741823, [27, 32]⟩, ⟨34, 17179869183, [27, 33, 36]⟩, ⟨35, 34359738367, [27, 37]⟩, ⟨36, 68719476735, [38]⟩] mixed (by kernel_rfl) ?_
  refine ss ?_
  refine wd_gp rfl rfl rfl rfl (fun h => ?_) (fun h => ?_)
  · replace hm0 := sel_t h hm0
    refine ss ?_
    refine wd_gp rfl rfl rfl rfl (fun h => ?_) (fun h => ?_)
    · replace hm0 := sel_t h hm0
      refine ss ?_
      obtain ⟨y2, hy, hm0⟩ := bnd_o hm0
      refine wd_cs (Mkeyspace_Empty_sp (hm := hy)) rfl rfl rfl (by repeat (first | exact Vws.nil | apply Vws.cons | exact Vw.nil | exact Vw.d _ | exact Vw.q _ | apply Vw.a)) rfl rfl (by first | exact .no rfl | exact .y rfl rfl rfl rfl) rfl rfl rfl ?_
      refine ss ?_
      refine wd_gp rfl rfl rfl rfl (fun h => ?_) (fun h => ?_)
      · replace hm0 := sel_t h hm0
        refine ss ?_
        obtain ⟨y3, hy, hm0⟩ := bnd_o hm0
        refine wd_cs (Mstamp_Valid_sp (hm := hy)) rfl rfl rfl (by repeat (first | exact Vws.nil | apply Vws.cons | exact Vw.nil | exact Vw.d _ | exact Vw.q _ | apply Vw.a)) rfl rfl (by first | exact .no rfl | exact .y rfl rfl rfl rfl) rfl rfl rfl ?_
        refine ss ?_
        refine wd_gp rfl rfl rfl rfl (fun h => ?_) (fun h => ?_)
        · replace hm0 := sel_t h hm0
          refine ss ?_
          obtain ⟨y4, hy, hm0⟩ := obnd_o hm0
          refine wd_cs (Mtable_Valid_sp (hm := hy)) rfl rfl rfl (by repeat (first | exact Vws.nil | apply Vws.cons | exact Vw.nil | exact Vw.d _ | exact Vw.q _ | apply Vw.a)) rfl rfl (by first | exact .no rfl | exact .y rfl rfl rfl rfl) rfl rfl rfl ?_
          refine ss ?_
          refine wd_gp rfl rfl rfl rfl (fun h => ?_) (fun h => ?_)
          · replace hm0 := sel_t h hm0
            refine ss ?_
            obtain ⟨y5, hy, hm0⟩ := obnd_o hm0
            refine wd_cs (Mtable_Slice_sp (hm := hy)) rfl rfl rfl (by repeat (first | exact Vws.nil | apply Vws.cons | exact Vw.nil | exact Vw.d _ | exact Vw.q _ | apply Vw.a)) rfl rfl (by first | exact .no rfl | exact .y rfl rfl rfl rfl) rfl rfl rfl ?_
            refine sx ?_
            obtain rfl := Option.some.inj hm0
            exact wk_ret ⟨rfl, rfl⟩
          replace hm0 := sel_f h hm0
          refine sx ?_
          obtain rfl := Option.some.inj hm0
          exact wk_ret ⟨rfl, rfl⟩
        replace hm0 := sel_f h hm0
        refine sx ?_
        obtain rfl := Option.some.inj hm0
        exact wk_ret ⟨rfl, rfl⟩
      replace hm0 := sel_f h hm0
      refine sx ?_
      obtain rfl := Option.some.inj hm0
      exact wk_ret ⟨rfl, rfl⟩
    replace hm0 := sel_f h hm0
    refine sx ?_
    obtain rfl := Option.some.inj hm0
    exact wk_ret ⟨rfl, rfl⟩
  replace hm0 := sel_f h hm0
  refine sx ?_
  obtain rfl := Option.some.inj hm0
  exact wk_ret ⟨rfl, rfl⟩

theorem Mclone_List_api_Range__so0 {l1 : List Rng} {y : List Rng} (hm : Mclone_List_api_Range_ l1 = some y) : Spec Tryz.prog 96 [.d (lst Rng.ds l1)] [] fun u h => u = .h 1 ∧ h = [(1, some (arrT 42 4 Rng.ds y))] := by
  refine Spec.intro Tryz.func96 rfl rfl Tryz.ntmps96 Tryz.results96 rfl fun B w0 ρ0 => ?_
  simp only [slots, List.map_nil, List.map_cons, Nat.reduceAdd]
  unfold Mclone_List_api_Range_ at hm
  have hm0 := hm
  clear hm
  refine sr ?_
  refine sr ?_
  obtain ⟨l2, hy, hm0⟩ := obnd_o hm0
  refine wl_1 (n_appn (k := 104) hy rfl rfl rfl rfl rfl rfl) rfl rfl rfl rfl ?_
  refine sx ?_
  obtain rfl := Option.some.inj hm0
  exact wk_reti [(1, 104)] ⟨rfl, rfl⟩
theorem Mclone_Visits_so0 {l1 : List TVisit} {y : List TVisit} (hm : Mclone_Visits l1 = some y) : Spec Tryz.prog 157 [.d (lst TVisit.ds l1)] [] fun u h => u = .h 1 ∧ h = [(1, some (arrT 62 12 TVisit.ds y))] := by
  refine Spec.intro Tryz.func157 rfl rfl Tryz.ntmps157 Tryz.results157 rfl fun B w0 ρ0 => ?_
  simp only [slots, List.map_nil, List.map_cons, Nat.reduceAdd]
  unfold Mclone_Visits at hm
  have hm0 := hm
  clear hm
  refine sr ?_
  refine sr ?_
  obtain ⟨y2, hy, hm0⟩ := obnd_o hm0
  refine wl_mkn (u' := .h 200501) (h' := [(200501, some (arrT 62 12 TVisit.ds y2))]) (Mclone_List_api_Visit__so0 (hm := hy)) 200500 rfl rfl rfl (by repeat (first | exact Vws.nil | apply Vws.cons | exact Vw.nil | exact Vw.d _ | exact Vw.q _ | apply Vw.a)) rfl (by (try simp only [renH, Option.map_some, Blk.ren, rens_d]); rfl) rfl rfl rfl rfl ?_
  refine sr ?_
  obtain ⟨mu1, hm1, hm0⟩ := obnd_o hm0
  refine wc_cut' (fun st => ∃ (l10 : List TVisit), l10 = mu1 ∧ st = ⟨[(0, .h 5002)], [(5002, some (arrT 62 12 TVisit.ds l10))]⟩) ?_ ?_
  · refine wc_block ?_
    refine wc_loopw (fun κ st => ∃ (l3 : List TVisit) (x4 : Int), Mclone_Visits_l1 y2 κ l3 x4 = some mu1 ∧ st = ⟨[(0, .h 5001), (7, vI (y2.length : Int)), (8, vI x4)], [(5001, some (arrT 62 12 TVisit.ds l3))]⟩) [(5001, 200501)] ⟨_, _, hm1, rfl⟩ ?_
    rintro κ _ ⟨l3, x4, hm1, rfl⟩
    cases κ with
    | zero => rw [Mclone_Visits_l1.eq_1] at hm1; cases hm1
    | succ κ =>
      rw [Mclone_Visits_l1.eq_2] at hm1
      refine sr ?_
      refine wc_seq ?_
      obtain ⟨mu2, hm2, hm1⟩ := obnd_o hm1
      refine wc_cut' (fun st => mu2 = Ctl.nxt () ∧ st = ⟨[(0, .h 5001), (7, vI (y2.length : Int)), (8, vI x4)], [(5001, some (arrT 62 12 TVisit.ds l3))]⟩) ?_ ?_
      · refine wc_cs hm2 ?_ ?_ <;> clear hm2 <;> intro hm2
        · refine sx ?_
          obtain rfl := Option.some.inj hm2
          exact wk_cutw [(5001, 5001)] ⟨rfl, rfl⟩
        refine wc_exit ?_
        refine ss ?_
        obtain rfl := Option.some.inj hm2
        replace hm1 := ocbnd_r hm1
        obtain rfl := Option.some.inj hm1
        exact wk_cutw [(5002, 5001)] ⟨_, rfl, rfl⟩
      rintro _ ⟨rfl, rfl⟩
      replace hm1 := ocbnd_n hm1
      refine sr ?_
      refine sr ?_
      obtain ⟨e5, hy, hm1⟩ := obnd_o hm1
      have hge5 := hy
      refine wl_r (o_ixo hy rfl rfl rfl rfl) rfl rfl rfl ?_
      refine ss ?_
      refine wl_r (o_ldo (k := 5001) (f := TVisit.ds) (zz := 12) (u := .a [vI e5.View.Owner, vS e5.View.Interval.lo.key, vB e5.View.Interval.lo.top, vS e5.View.Interval.hi.key, vB e5.View.Interval.hi.top, vI e5.View.Stamp.Epoch, vI e5.View.Stamp.Version, .d (lst Kv.ds e5.View.Rows)]) (off := 0) hge5 rfl rfl rfl (by exact inferInstance) rfl rfl) rfl rfl rfl ?_
      refine ss ?_
      obtain ⟨y6, hy, hm1⟩ := obnd_o hm1
      refine wl_cq (Mclone_View_sp (hm := hy)) ?_
      refine ss ?_
      obtain ⟨e7, hy, hm1⟩ := obnd_o hm1
      have hge7 := hy
      refine wl_r (o_ixo hy rfl rfl rfl rfl) rfl rfl rfl ?_
      refine ss ?_
      obtain ⟨e9, hy, hm1⟩ := bnd_o hm1
      have hxe9 := hy
      refine ss ?_
      obtain ⟨l8, hy, hm1⟩ := bnd_o hm1
      refine wl_0 (lo := 0) (nn := 0) (o_sto (k := 5001) (f := TVisit.ds) (zz := 12) (off := 0) hge7 hy rfl rfl rfl rfl (by exact inferInstance) rfl (by rw [← hxe9]; rfl)) rfl rfl (fresh0 _ _) ?_
      have hge9 := lget_set hge7 e9
      rw [hy] at hge9
      refine sr ?_
      refine wl_r (o_add rfl rfl rfl rfl) rfl rfl rfl ?_
      refine ss ?_
      exact wk_loopw [(5001, 5001)] ⟨_, _, hm1, rfl⟩ (Nat.lt_succ_self _)
  rintro _ ⟨l10, rfl, rfl⟩
  refine sr ?_
  refine sx ?_
  obtain rfl := Option.some.inj hm0
  exact wk_reti [(1, 5002)] ⟨rfl, rfl⟩
theorem Mclone_Walk_so4_5 {w1 : TWalk} {y : TWalk} (hm : Mclone_Walk w1 = some y) : Spec Tryz.prog 104 [.a [vI w1.Query.Kind, .d (lst Rng.ds w1.Query.Ranges), vS w1.Query.Key, vI w1.Query.Count, .d (lst Rng.ds w1.Todo), .d (lst TVisit.ds w1.Visits)]] [] fun u h => u = .a [vI y.Query.Kind, .d (lst Rng.ds y.Query.Ranges), vS y.Query.Key, vI y.Query.Count, .h 1, .h 2] ∧ h = [(1, some (arrT 42 4 Rng.ds y.Todo)), (2, some (arrT 62 12 TVisit.ds y.Visits))] := by
  refine Spec.intro Tryz.func104 rfl rfl Tryz.ntmps104 Tryz.results104 rfl fun B w0 ρ0 => ?_
  simp only [slots, List.map_nil, List.map_cons, Nat.reduceAdd]
  unfold Mclone_Walk at hm
  have hm0 := hm
  clear hm
  refine sr ?_
  refine wc_seq ?_
  refine wc_draw (id := 1) [⟨0, 0, [1]⟩, ⟨1, 1, [3]⟩, ⟨3, 0, [1]⟩, ⟨4, 8, [6]⟩, ⟨6, 0, [1]⟩, ⟨7, 64, [9]⟩, ⟨2, 3, [4]⟩, ⟨9, 223, [1]⟩, ⟨5, 31, [7]⟩, ⟨8, 255, [10]⟩, ⟨10, 1023, [5, 12]⟩, ⟨11, 2047, [1]⟩, ⟨12, 4095, [8, 13]⟩, ⟨13, 8191, [1]⟩, ⟨14, 16383, [11, 14]⟩] mixed (by kernel_rfl) ?_
  refine ss ?_
  obtain ⟨y2, hy, hm0⟩ := obnd_o hm0
  refine wd_cs (Mclone_Query_sp (hm := hy)) rfl rfl rfl (by repeat (first | exact Vws.nil | apply Vws.cons | exact Vw.nil | exact Vw.d _ | exact Vw.q _ | apply Vw.a)) rfl rfl (by first | exact .no rfl | exact .y rfl rfl rfl rfl) rfl rfl rfl ?_
  refine ss ?_
  obtain ⟨y3, hy, hm0⟩ := obnd_o hm0
  refine wd_mkn (u' := .h 200801) (h' := [(200801, some (arrT 42 4 Rng.ds y3))]) (Mclone_List_api_Range__so0 (hm := hy)) 200800 [200801] rfl rfl rfl rfl (by repeat (first | exact Vws.nil | apply Vws.cons | exact Vw.nil | exact Vw.d _ | exact Vw.q _ | apply Vw.a)) rfl (by (try simp only [renH, Option.map_some, Blk.ren, rens_d]); rfl) rfl (by first | exact .no rfl | exact .y rfl rfl rfl rfl) rfl rfl rfl rfl rfl ?_
  refine ss ?_
  obtain ⟨y4, hy, hm0⟩ := obnd_o hm0
  refine wd_mkn (u' := .h 201101) (h' := [(201101, some (arrT 62 12 TVisit.ds y4))]) (Mclone_Visits_so0 (hm := hy)) 201100 [201101] rfl rfl rfl rfl (by repeat (first | exact Vws.nil | apply Vws.cons | exact Vw.nil | exact Vw.d _ | exact Vw.q _ | apply Vw.a)) rfl (by (try simp only [renH, Option.map_some, Blk.ren, rens_d]); rfl) rfl (by first | exact .no rfl | exact .y rfl rfl rfl rfl) rfl rfl rfl rfl rfl ?_
  refine sr ?_
  refine sx ?_
  obtain rfl := Option.some.inj hm0
  exact wk_reti [(1, 200801), (2, 201101)] ⟨rfl, rfl⟩
def Mwalk_Take (w1 : TWalk) (v2 : TView) : Option (TWalk × Int) :=
  obnd (Mwalk_Want w1) fun y3 =>
  sel (!y3.2) (
    some ((TWalk.mk (TQuery.mk 0 [] ⟨#[]⟩ 0) [] []), 7)) (
    obnd (Mwalk_ValidView v2) fun y4 =>
    sel (!y4) (
      some ((TWalk.mk (TQuery.mk 0 [] ⟨#[]⟩ 0) [] []), 1)) (
      bnd (Mquery_Down w1.Query) fun y5 =>
      obnd (
        sel y5 (
          some (y3.1.hi.key, y3.1.hi.top)) (
          some (y3.1.lo.key, y3.1.lo.top)) : Option (ByteArray × Bool)) fun (end6, end7) =>
      obnd (
        sel (!y5) (
          bnd (Mkeyspace_Compare v2.Interval.lo (Bnd.mk end6 end7)) fun y8 =>
          sel (decide (0 < y8)) (
            some true) (
            bnd (Mkeyspace_Compare v2.Interval.hi (Bnd.mk end6 end7)) fun y9 =>
            sel (decide (y9 ≤ 0)) (
              some true) (
              sel y5 (
                bnd (Mkeyspace_Compare v2.Interval.hi (Bnd.mk end6 end7)) fun y10 =>
                sel (decide (y10 < 0)) (
                  some true) (
                  bnd (Mkeyspace_Compare v2.Interval.lo (Bnd.mk end6 end7)) fun y11 =>
                  some (decide (0 ≤ y11)))) (
                some false)))) (
          sel y5 (
            bnd (Mkeyspace_Compare v2.Interval.hi (Bnd.mk end6 end7)) fun y12 =>
            sel (decide (y12 < 0)) (
              some true) (
              bnd (Mkeyspace_Compare v2.Interval.lo (Bnd.mk end6 end7)) fun y13 =>
              some (decide (0 ≤ y13)))) (
            some false)) : Option Bool) fun x14 =>
      sel x14 (
        some ((TWalk.mk (TQuery.mk 0 [] ⟨#[]⟩ 0) [] []), 12)) (
        bnd (Mkeyspace_Intersect v2.Interval y3.1) fun y15 =>
        obnd (Mtable_Slice v2.Rows y15) fun y16 =>
        obnd (Mclone_Walk w1) fun y17 =>
        obnd (
          sel y5 (
            obnd (app ([(TVisit.mk (TView.mk v2.Owner v2.Interval v2.Stamp y16) y15)] : List TVisit) y17.Visits) fun l18 =>
            obnd (lget y17.Todo (i64w ((y17.Todo.length : Int) - 1))) fun e19 =>
            bnd ((Rng.mk e19.lo y15.lo)) fun e21 =>
            bnd (y17.Todo.set (Int.toNat (i64w ((y17.Todo.length : Int) - 1))) e21) fun l20 =>
            some (l20, l18, i64w ((y17.Todo.length : Int) - 1))) (
            obnd (app y17.Visits ([(TVisit.mk (TView.mk v2.Owner v2.Interval v2.Stamp y16) y15)] : List TVisit)) fun l22 =>
            obnd (lget y17.Todo 0) fun e23 =>
            bnd ((Rng.mk y15.hi e23.hi)) fun e25 =>
            bnd (y17.Todo.set (Int.toNat 0) e25) fun l24 =>
            some (l24, l22, 0)) : Option (List Rng × List TVisit × Int)) fun (w26, w27, at28) =>
        obnd (lget w26 at28) fun e29 =>
        bnd (Mkeyspace_Empty e29) fun y30 =>
        sel y30 (
          obnd (lsl w26 0 at28) fun l31 =>
          obnd (lsl w26 (i64w (at28 + 1)) (w26.length : Int)) fun l32 =>
          obnd (apd w26 l31 l32) fun l33 =>
          some ((TWalk.mk y17.Query l33 w27), 0)) (
          some ((TWalk.mk y17.Query w26 w27), 0)))))
theorem Mwalk_Take_sp {w1 : TWalk} {v2 : TView} {y : (TWalk × Int)} (hm : Mwalk_Take w1 v2 = some y) : Spec Tryz.prog 38 [.a [vI w1.Query.Kind, .d (lst Rng.ds w1.Query.Ranges), vS w1.Query.Key, vI w1.Query.Count, .d (lst Rng.ds w1.Todo), .d (lst TVisit.ds w1.Visits)], .a [vI v2.Owner, vS v2.Interval.lo.key, vB v2.Interval.lo.top, vS v2.Interval.hi.key, vB v2.Interval.hi.top, vI v2.Stamp.Epoch, vI v2.Stamp.Version, .d (lst Kv.ds v2.Rows)]] [] fun u h => u = .t [.a [vI y.1.Query.Kind, .d (lst Rng.ds y.1.Query.Ranges), vS y.1.Query.Key, vI y.1.Query.Count, .d (lst Rng.ds y.1.Todo), .d (lst TVisit.ds y.1.Visits)], vI y.2] ∧ h = [] := by
  refine Spec.intro Tryz.func38 rfl rfl Tryz.ntmps38 Tryz.results38 rfl fun B w0 ρ0 => ?_
  simp only [slots, List.map_nil, List.map_cons, Nat.reduceAdd]
  unfold Mwalk_Take at hm
  have hm0 := hm
  clear hm
  refine sr ?_
  refine sr ?_
  obtain ⟨y3, hy, hm0⟩ := obnd_o hm0
  refine wl_cq (Mwalk_Want_sp (hm := hy)) ?_
  refine sr ?_
  refine wc_cs hm0 ?_ ?_ <;> clear hm0 <;> intro hm0
  · refine sr ?_
    refine sx ?_
    obtain rfl := Option.some.inj hm0
    exact wk_ret ⟨rfl, rfl⟩
  refine sx ?_
  refine sr ?_
  obtain ⟨y4, hy, hm0⟩ := obnd_o hm0
  refine wl_cq (Mwalk_ValidView_sp (hm := hy)) ?_
  refine ss ?_
  refine wc_cs hm0 ?_ ?_ <;> clear hm0 <;> intro hm0
  · refine sr ?_
    refine sx ?_
    obtain rfl := Option.some.inj hm0
    exact wk_ret ⟨rfl, rfl⟩
  refine sx ?_
  refine wc_seq ?_
  refine wc_draw (id := 6) [⟨0, 0, [2]⟩, ⟨1, 1, [26]⟩, ⟨3, 0, [3]⟩, ⟨4, 8, [29]⟩, ⟨5, 0, []⟩, ⟨2, 3, [27]⟩, ⟨6, 39, [28]⟩, ⟨7, 127, [9, 30]⟩] mixed (by kernel_rfl) ?_
  refine ss ?_
  obtain ⟨y5, hy, hm0⟩ := bnd_o hm0
  refine wd_cs (Mquery_Down_sp (hm := hy)) rfl rfl rfl (by repeat (first | exact Vws.nil | apply Vws.cons | exact Vw.nil | exact Vw.d _ | exact Vw.q _ | apply Vw.a)) rfl rfl (by first | exact .no rfl | exact .y rfl rfl rfl rfl) rfl rfl rfl ?_
  refine sr ?_
  refine sr ?_
  obtain ⟨mu1, hm1, hm0⟩ := obnd_o hm0
  refine wc_cut' (fun st => ∃ (end6 : ByteArray) (end7 : Bool), mu1 = (end6, end7) ∧ st = ⟨[(2, .p 102 0), (3, .p 103 0), (4, .p 104 0), (6, .p 106 0), (8, vB y5), (9, .p 109 0), (10, .p 110 0)], [(102, some (.box 30 [vI w1.Query.Kind, .d (lst Rng.ds w1.Query.Ranges), vS w1.Query.Key, vI w1.Query.Count, .d (lst Rng.ds w1.Todo), .d (lst TVisit.ds w1.Visits)])), (103, some (.box 49 [vI v2.Owner, vS v2.Interval.lo.key, vB v2.Interval.lo.top, vS v2.Interval.hi.key, vB v2.Interval.hi.top, vI v2.Stamp.Epoch, vI v2.Stamp.Version, .d (lst Kv.ds v2.Rows)])), (104, some (.box 30 [vI 0, .d (.c (.slice none 0 0)), vS ⟨#[]⟩, vI 0, .d (.c (.slice none 0 0)), .d (.c (.slice none 0 0))])), (106, some (.box 42 [vS y3.1.lo.key, vB y3.1.lo.top, vS y3.1.hi.key, vB y3.1.hi.top])), (109, some (.box 42 [vS v2.Interval.lo.key, vB v2.Interval.lo.top, vS v2.Interval.hi.key, vB v2.Interval.hi.top])), (110, some (.box 40 [vS end6, vB end7]))]⟩) ?_ ?_
  · refine wc_cs hm1 ?_ ?_ <;> clear hm1 <;> intro hm1
    · refine sr ?_
      obtain rfl := Option.some.inj hm1
      exact wk_cutw [(102, 102), (103, 103), (104, 104), (106, 106), (109, 109), (110, 110)] ⟨_, _, rfl, rfl⟩
    refine sx ?_
    obtain rfl := Option.some.inj hm1
    exact wk_cutw [(102, 102), (103, 103), (104, 104), (106, 106), (109, 109), (110, 110)] ⟨_, _, rfl, rfl⟩
  rintro _ ⟨end6, end7, rfl, rfl⟩
  refine ss ?_
  refine wc_seq ?_
  refine wc_seq ?_
  obtain ⟨mu1, hm1, hm0⟩ := obnd_o hm0
  refine wc_cut' (fun st => ∃ (x14 : Bool), x14 = mu1 ∧ st = ⟨[(2, .p 102 0), (3, .p 103 0), (4, .p 104 0), (6, .p 106 0), (8, vB y5), (9, .p 109 0), (68, vB x14)], [(102, some (.box 30 [vI w1.Query.Kind, .d (lst Rng.ds w1.Query.Ranges), vS w1.Query.Key, vI w1.Query.Count, .d (lst Rng.ds w1.Todo), .d (lst TVisit.ds w1.Visits)])), (103, some (.box 49 [vI v2.Owner, vS v2.Interval.lo.key, vB v2.Interval.lo.top, vS v2.Interval.hi.key, vB v2.Interval.hi.top, vI v2.Stamp.Epoch, vI v2.Stamp.Version, .d (lst Kv.ds v2.Rows)])), (104, some (.box 30 [vI 0, .d (.c (.slice none 0 0)), vS ⟨#[]⟩, vI 0, .d (.c (.slice none 0 0)), .d (.c (.slice none 0 0))])), (106, some (.box 42 [vS y3.1.lo.key, vB y3.1.lo.top, vS y3.1.hi.key, vB y3.1.hi.top])), (109, some (.box 42 [vS v2.Interval.lo.key, vB v2.Interval.lo.top, vS v2.Interval.hi.key, vB v2.Interval.hi.top]))]⟩) ?_ ?_
  · refine sr ?_
    refine wl_sg hm1 ?_ ?_ <;> clear hm1 <;> intro hm1
    · refine ss ?_
      obtain ⟨y8, hy, hm1⟩ := bnd_o hm1
      refine wl_cq (Mkeyspace_Compare_sp (hm := hy)) ?_
      refine ss ?_
      refine wl_sg hm1 ?_ ?_ <;> clear hm1 <;> intro hm1
      · refine ss ?_
        obtain rfl := Option.some.inj hm1
        exact wk_cutw [(102, 102), (103, 103), (104, 104), (106, 106), (109, 109)] ⟨_, rfl, rfl⟩
      refine ss ?_
      obtain ⟨y9, hy, hm1⟩ := bnd_o hm1
      refine wl_cq (Mkeyspace_Compare_sp (hm := hy)) ?_
      refine ss ?_
      refine wl_sg hm1 ?_ ?_ <;> clear hm1 <;> intro hm1
      · refine ss ?_
        obtain rfl := Option.some.inj hm1
        exact wk_cutw [(102, 102), (103, 103), (104, 104), (106, 106), (109, 109)] ⟨_, rfl, rfl⟩
      refine ss ?_
      refine wl_sg hm1 ?_ ?_ <;> clear hm1 <;> intro hm1
      · refine ss ?_
        obtain ⟨y10, hy, hm1⟩ := bnd_o hm1
        refine wl_cq (Mkeyspace_Compare_sp (hm := hy)) ?_
        refine ss ?_
        refine wl_sg hm1 ?_ ?_ <;> clear hm1 <;> intro hm1
        · refine ss ?_
          obtain rfl := Option.some.inj hm1
          exact wk_cutw [(102, 102), (103, 103), (104, 104), (106, 106), (109, 109)] ⟨_, rfl, rfl⟩
        refine ss ?_
        obtain ⟨y11, hy, hm1⟩ := bnd_o hm1
        refine wl_cq (Mkeyspace_Compare_sp (hm := hy)) ?_
        refine ss ?_
        obtain rfl := Option.some.inj hm1
        exact wk_cutw [(102, 102), (103, 103), (104, 104), (106, 106), (109, 109)] ⟨_, rfl, rfl⟩
      refine ss ?_
      obtain rfl := Option.some.inj hm1
      exact wk_cutw [(102, 102), (103, 103), (104, 104), (106, 106), (109, 109)] ⟨_, rfl, rfl⟩
    refine ss ?_
    refine wl_sg hm1 ?_ ?_ <;> clear hm1 <;> intro hm1
    · refine ss ?_
      obtain ⟨y12, hy, hm1⟩ := bnd_o hm1
      refine wl_cq (Mkeyspace_Compare_sp (hm := hy)) ?_
      refine ss ?_
      refine wl_sg hm1 ?_ ?_ <;> clear hm1 <;> intro hm1
      · refine ss ?_
        obtain rfl := Option.some.inj hm1
        exact wk_cutw [(102, 102), (103, 103), (104, 104), (106, 106), (109, 109)] ⟨_, rfl, rfl⟩
      refine ss ?_
      obtain ⟨y13, hy, hm1⟩ := bnd_o hm1
      refine wl_cq (Mkeyspace_Compare_sp (hm := hy)) ?_
      refine ss ?_
      obtain rfl := Option.some.inj hm1
      exact wk_cutw [(102, 102), (103, 103), (104, 104), (106, 106), (109, 109)] ⟨_, rfl, rfl⟩
    refine ss ?_
    obtain rfl := Option.some.inj hm1
    exact wk_cutw [(102, 102), (103, 103), (104, 104), (106, 106), (109, 109)] ⟨_, rfl, rfl⟩
  rintro _ ⟨x14, rfl, rfl⟩
  refine ss ?_
  refine wc_cs hm0 ?_ ?_ <;> clear hm0 <;> intro hm0
  · refine sr ?_
    refine sx ?_
    obtain rfl := Option.some.inj hm0
    exact wk_ret ⟨rfl, rfl⟩
  refine sx ?_
  refine sr ?_
  obtain ⟨y15, hy, hm0⟩ := bnd_o hm0
  refine wl_cq (Mkeyspace_Intersect_sp (hm := hy)) ?_
  refine sr ?_
  refine sr ?_
  obtain ⟨y16, hy, hm0⟩ := obnd_o hm0
  refine wl_cq (Mtable_Slice_sp (hm := hy)) ?_
  refine sr ?_
  obtain ⟨y17, hy, hm0⟩ := obnd_o hm0
  refine wl_mkn (u' := .a [vI y17.Query.Kind, .d (lst Rng.ds y17.Query.Ranges), vS y17.Query.Key, vI y17.Query.Count, .h 208301, .h 208302]) (h' := [(208301, some (arrT 42 4 Rng.ds y17.Todo)), (208302, some (arrT 62 12 TVisit.ds y17.Visits))]) (Mclone_Walk_so4_5 (hm := hy)) 208300 rfl rfl rfl (by repeat (first | exact Vws.nil | apply Vws.cons | exact Vw.nil | exact Vw.d _ | exact Vw.q _ | apply Vw.a)) rfl (by (try simp only [renH, Option.map_some, Blk.ren, rens_d]); rfl) rfl rfl rfl rfl ?_
  refine sr ?_
  refine sr ?_
  obtain ⟨mu1, hm1, hm0⟩ := obnd_o hm0
  refine wc_cut' (fun st => ∃ (w26 : List Rng) (w27 : List TVisit) (at28 : Int), mu1 = (w26, w27, at28) ∧ st = ⟨[(2, .p 102 0), (4, .p 104 0), (13, vI at28)], [(102, some (.box 30 [vI y17.Query.Kind, .d (lst Rng.ds y17.Query.Ranges), vS y17.Query.Key, vI y17.Query.Count, .h 5001, .d (lst TVisit.ds w27)])), (104, some (.box 30 [vI 0, .d (.c (.slice none 0 0)), vS ⟨#[]⟩, vI 0, .d (.c (.slice none 0 0)), .d (.c (.slice none 0 0))])), (5001, some (arrT 42 4 Rng.ds w26))]⟩) ?_ ?_
  · refine wc_cs hm1 ?_ ?_ <;> clear hm1 <;> intro hm1
    · refine sr ?_
      refine wc_seq ?_
      refine wc_wkw [(102, 102), (104, 104), (111, 111), (112, 112), (208301, 208301)] ⟨[(2, .p 102 0), (4, .p 104 0), (11, .p 111 0), (12, .p 112 0), (13, vI (i64w ((y17.Todo.length : Int) - 1)))], [(102, some (.box 30 [vI y17.Query.Kind, .d (lst Rng.ds y17.Query.Ranges), vS y17.Query.Key, vI y17.Query.Count, .h 208301, .d (lst TVisit.ds y17.Visits)])), (104, some (.box 30 [vI 0, .d (.c (.slice none 0 0)), vS ⟨#[]⟩, vI 0, .d (.c (.slice none 0 0)), .d (.c (.slice none 0 0))])), (111, some (.box 42 [vS y15.lo.key, vB y15.lo.top, vS y15.hi.key, vB y15.hi.top])), (112, some (.box 62 [vI v2.Owner, vS v2.Interval.lo.key, vB v2.Interval.lo.top, vS v2.Interval.hi.key, vB v2.Interval.hi.top, vI v2.Stamp.Epoch, vI v2.Stamp.Version, .d (lst Kv.ds y16), vS y15.lo.key, vB y15.lo.top, vS y15.hi.key, vB y15.hi.top])), (208301, some (arrT 42 4 Rng.ds y17.Todo))]⟩ ?_
      refine sr ?_
      refine wl_1 (n_bso (k := 190) TVisit.ds [(TVisit.mk (TView.mk v2.Owner v2.Interval v2.Stamp y16) y15)] rfl rfl rfl rfl (by simp only [flatV, cellsV, List.cons_append, List.nil_append, List.append_nil]; exact rfl) rfl rfl) rfl rfl rfl rfl ?_
      refine ss ?_
      obtain ⟨l18, hy, hm1⟩ := obnd_o hm1
      refine wl_2 (n_app (k' := 193) hy rfl rfl rfl rfl rfl rfl rfl rfl) rfl rfl rfl rfl ?_
      refine sr ?_
      obtain ⟨e19, hy, hm1⟩ := obnd_o hm1
      have hge19 := hy
      refine wl_r (o_ixo hy rfl rfl rfl rfl) rfl rfl rfl ?_
      refine ss ?_
      obtain ⟨e21, hy, hm1⟩ := bnd_o hm1
      have hxe21 := hy
      refine ss ?_
      obtain ⟨l20, hy, hm1⟩ := bnd_o hm1
      refine wl_0 (lo := 0) (nn := 0) (o_sto (k := 208301) (f := Rng.ds) (zz := 4) (off := 2) hge19 hy rfl rfl rfl rfl (by exact inferInstance) rfl (by rw [← hxe21]; rfl)) rfl rfl (fresh0 _ _) ?_
      have hge21 := lget_set hge19 e21
      rw [hy] at hge21
      refine ss ?_
      obtain rfl := Option.some.inj hm1
      exact wk_cutw [(102, 102), (104, 104), (5001, 208301)] ⟨_, _, _, rfl, rfl⟩
    refine sr ?_
    refine wl_bt TVisit.ds [(TVisit.mk (TView.mk v2.Owner v2.Interval v2.Stamp y16) y15)] rfl rfl (by simp only [flatV, cellsV, List.cons_append, List.nil_append, List.append_nil]; exact rfl) rfl rfl rfl rfl rfl rfl ?_
    refine ss ?_
    obtain ⟨l22, hy, hm1⟩ := obnd_o hm1
    refine wl_2 (n_app (k' := 206) hy rfl rfl rfl rfl rfl rfl rfl rfl) rfl rfl rfl rfl ?_
    refine sr ?_
    obtain ⟨e23, hy, hm1⟩ := obnd_o hm1
    have hge23 := hy
    refine wl_r (o_ixo hy rfl rfl rfl rfl) rfl rfl rfl ?_
    refine ss ?_
    obtain ⟨e25, hy, hm1⟩ := bnd_o hm1
    have hxe25 := hy
    refine ss ?_
    obtain ⟨l24, hy, hm1⟩ := bnd_o hm1
    refine wl_0 (lo := 0) (nn := 0) (o_sto (k := 208301) (f := Rng.ds) (zz := 4) (off := 0) hge23 hy rfl rfl rfl rfl (by exact inferInstance) rfl (by rw [← hxe25]; rfl)) rfl rfl (fresh0 _ _) ?_
    have hge25 := lget_set hge23 e25
    rw [hy] at hge25
    refine ss ?_
    obtain rfl := Option.some.inj hm1
    exact wk_cutw [(102, 102), (104, 104), (5001, 208301)] ⟨_, _, _, rfl, rfl⟩
  rintro _ ⟨w26, w27, at28, rfl, rfl⟩
  refine sr ?_
  obtain ⟨e29, hy, hm0⟩ := obnd_o hm0
  have hge29 := hy
  refine wl_r (o_ixo hy rfl rfl rfl rfl) rfl rfl rfl ?_
  refine ss ?_
  refine wl_r (o_ldo (k := 5001) (f := Rng.ds) (zz := 4) (u := .a [vS e29.lo.key, vB e29.lo.top, vS e29.hi.key, vB e29.hi.top]) (off := 0) hge29 rfl rfl rfl (by exact inferInstance) rfl rfl) rfl rfl rfl ?_
  refine ss ?_
  obtain ⟨y30, hy, hm0⟩ := bnd_o hm0
  refine wl_cq (Mkeyspace_Empty_sp (hm := hy)) ?_
  refine ss ?_
  refine wc_cs hm0 ?_ ?_ <;> clear hm0 <;> intro hm0
  · refine wc_draw (id := 24) [⟨0, 0, [2]⟩, ⟨1, 1, [121]⟩, ⟨2, 0, [13]⟩, ⟨3, 7, [122, 123]⟩, ⟨4, 0, [2]⟩, ⟨5, 16, [125]⟩, ⟨6, 0, [13]⟩, ⟨7, 64, [127]⟩, ⟨8, 240, [126, 128]⟩, ⟨9, 511, [124, 129]⟩, ⟨10, 1023, [2]⟩, ⟨11, 2047, [130, 131]⟩] mixed (by kernel_rfl) ?_
    refine ss ?_
    obtain ⟨l31, hy, hm0⟩ := obnd_o hm0
    have hvl31 := hy
    refine wd_slv hy rfl rfl rfl rfl rfl rfl (by first | exact .no rfl | exact .y rfl rfl rfl rfl) rfl rfl ?_
    refine ss ?_
    refine wd_r [] (o_add rfl rfl rfl rfl) rfl (by first | exact .no rfl | exact .y rfl rfl rfl rfl) rfl rfl ?_
    refine ss ?_
    obtain ⟨l32, hy, hm0⟩ := obnd_o hm0
    have hvl32 := hy
    refine wd_slv hy rfl rfl rfl rfl rfl rfl (by first | exact .no rfl | exact .y rfl rfl rfl rfl) rfl rfl ?_
    refine ss ?_
    obtain ⟨l33, hy, hm0⟩ := obnd_o hm0
    refine wd_del (k' := 230) hy hvl31 hvl32 rfl rfl rfl rfl rfl rfl rfl (by first | exact .no rfl | exact .y rfl rfl rfl rfl) rfl rfl rfl ?_
    refine sr ?_
    refine sx ?_
    obtain rfl := Option.some.inj hm0
    exact wk_ret ⟨rfl, rfl⟩
  refine sx ?_
  refine sr ?_
  refine sx ?_
  obtain rfl := Option.some.inj hm0
  exact wk_ret ⟨rfl, rfl⟩

end Go.Proofs.YtlbnhhfaedhgfaaGreatDoor
