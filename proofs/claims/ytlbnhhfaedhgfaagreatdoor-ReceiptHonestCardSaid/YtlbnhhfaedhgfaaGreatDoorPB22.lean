/-
  Lemmas: Models and walks
-/
import Derived.Test.YtlbnhhfaedhgfaaGreatDoorPB20
import Derived.Test.YtlbnhhfaedhgfaaGreatDoorPB19
set_option linter.unusedSimpArgs false
set_option linter.unusedVariables false
namespace Go.Proofs.YtlbnhhfaedhgfaaGreatDoor
open Go.RowKit
set_option maxRecDepth 100000
set_option maxHeartbeats 4000000
attribute [local irreducible] WK WC WL Wk Rel OpD OpV WD WO sel bnd obnd app lget lsl sget ssl scat letg iquo irem Op.bytesLess
attribute [local irreducible] qchk qranges union
def Mref28_inside (a1 : Rng) (r2 : Rng) : Bool :=
 bnd (Mref1_Compare r2.lo a1.lo) fun y3 =>
 sel (decide (y3 ≤ 0)) (
  bnd (Mref1_Compare a1.hi r2.hi) fun y4 =>
  sel (decide (y4 ≤ 0)) (
   bnd (Mref1_Empty r2) fun y5 =>
   !y5) (
   false)) (
  false)
theorem Mref28_inside_sp {a1 : Rng} {r2 : Rng} {y : Bool} (hm : Mref28_inside a1 r2 = y) : Spec Tryz.prog 135 [.a [vS a1.lo.key, vB a1.lo.top, vS a1.hi.key, vB a1.hi.top], .a [vS r2.lo.key, vB r2.lo.top, vS r2.hi.key, vB r2.hi.top]] [] fun u h => u = vB y ∧ h = [] := by
 refine si Tryz.func135 Tryz.ntmps135 Tryz.results135 fun B w0 ρ0 => ?_
 unfold Mref28_inside at hm
 refine sr ?_
 refine sr ?_
 obtain ⟨y3, hy, hm⟩ := bnd_o hm
 refine wl_cq (Mref1_Compare_sp (hm := hy)) ?_
 refine ss ?_
 refine wl_sg hm ?_ ?_ <;> clear hm <;> intro hm
 ·refine ss ?_
  obtain ⟨y4, hy, hm⟩ := bnd_o hm
  refine wl_cq (Mref1_Compare_sp (hm := hy)) ?_
  refine ss ?_
  refine wl_sg hm ?_ ?_ <;> clear hm <;> intro hm
  ·refine ss ?_
   obtain ⟨y5, hy, hm⟩ := bnd_o hm
   refine wl_cq (Mref1_Empty_sp (hm := hy)) ?_
   refine sx ?_
   subst hm
   exact wk_r
  refine sx ?_
  subst hm
  exact wk_r
 refine sx ?_
 subst hm
 exact wk_r

def Mref28_Start_l2 (r4 : Rng) : List Rng → Bool → Option Bool
  | [], ok12 =>
  some ok12
  | r13 :: xs14, ok12 =>
  sel ok12 (
   Mref28_Start_l2 r4 xs14 true) (
   bnd (Mref28_inside r4 r13) fun y16 =>
   Mref28_Start_l2 r4 xs14 y16)
def Mref28_Start_l1 (q1 : TQuery) (ranges2 : List Rng) : List Rng → Int → Option (Ctl (TWalk × Int) Unit)
  | [], i =>
  some (Ctl.nxt ())
  | r4 :: xs5, i =>
  obnd (
   bnd (Mref1_Empty r4) fun y7 =>
   sel y7 (
    some (Ctl.ret (Ctl.ret ((TWalk.mk (TQuery.mk 0 [] ⟨#[]⟩ 0) [] []), 1)))) (
    obnd (
     sel (decide (0 < i)) (
      obnd (lget ranges2 (i64w (i - 1))) fun e8 =>
      bnd (Mref1_Compare r4.lo e8.hi) fun y9 =>
      some (decide (y9 < 0))) (
      some false) : Option Bool) fun x10 =>
    sel x10 (
     some (Ctl.ret (Ctl.ret ((TWalk.mk (TQuery.mk 0 [] ⟨#[]⟩ 0) [] []), 8)))) (
     obnd (Mref22_Ranges q1) fun y11 =>
     obnd (
      Mref28_Start_l2 r4 y11 false : Option Bool) fun ok17 =>
     sel (!ok17) (
      some (Ctl.ret (Ctl.ret ((TWalk.mk (TQuery.mk 0 [] ⟨#[]⟩ 0) [] []), 2)))) (
      some (Ctl.nxt ())))) : Option (Ctl (Ctl (TWalk × Int) Unit) Unit)) fun mu => ocbnd mu fun (_ : Unit) =>
  Mref28_Start_l1 q1 ranges2 xs5 (i + 1)
def Mref28_Start (q1 : TQuery) (ranges2 : List Rng) : Option (TWalk × Int) :=
 bnd (Mref22_Check q1) fun y3 =>
 sel (!decide (y3 = 0)) (
  some ((TWalk.mk (TQuery.mk 0 [] ⟨#[]⟩ 0) [] []), y3)) (
  sel (decide (128 < (ranges2.length : Int))) (
   some ((TWalk.mk (TQuery.mk 0 [] ⟨#[]⟩ 0) [] []), 3)) (
   obnd (
    Mref28_Start_l1 q1 ranges2 ranges2 0 : Option (Ctl (TWalk × Int) Unit)) fun mu => ocbnd mu fun (_ : Unit) =>
   obnd (app ([] : List Rng) ranges2) fun l18 =>
   some ((TWalk.mk q1 l18 []), 0)))
theorem Mref28_Start_sp {q1 : TQuery} {ranges2 : List Rng} {y : (TWalk × Int)} (hm : Mref28_Start q1 ranges2 = some y) : Spec Tryz.prog 69 [.a [vI q1.Kind, .d (lst Rng.ds q1.Ranges), vS q1.Key, vI q1.Count], .d (lst Rng.ds ranges2)] [] fun u h => u = .t [.a [vI y.1.Query.Kind, .d (lst Rng.ds y.1.Query.Ranges), vS y.1.Query.Key, vI y.1.Query.Count, .d (lst Rng.ds y.1.Todo), .d (lst TVisit.ds y.1.Visits)], vI y.2] ∧ h = [] := by
 refine si Tryz.func69 Tryz.ntmps69 Tryz.results69 fun B w0 ρ0 => ?_
 unfold Mref28_Start at hm
 refine sr ?_
 refine sr ?_
 obtain ⟨y3, hy, hm⟩ := bnd_o hm
 refine wl_cq (Mref22_Check_sp (hm := hy)) ?_
 refine sr ?_
 refine wc_cs hm ?_ ?_ <;> clear hm <;> intro hm
 ·refine sr ?_
  refine sx ?_
  cases hm
  exact wk_r
 refine sx ?_
 refine sr ?_
 refine wc_cs hm ?_ ?_ <;> clear hm <;> intro hm
 ·refine sr ?_
  refine sx ?_
  cases hm
  exact wk_r
 refine sx ?_
 refine sr ?_
 obtain ⟨mu1, hm1, hm⟩ := obnd_o hm
 refine wc_cut' (fun st => mu1 = Ctl.nxt () ∧ st = ⟨[(1, .d (lst Rng.ds ranges2)), (2, .p 102 0), (4, .p 104 0)], [(102, some (.box 27 [vI q1.Kind, .d (lst Rng.ds q1.Ranges), vS q1.Key, vI q1.Count])), (104, some (.box 30 [vI 0, .d (.c (.slice none 0 0)), vS ⟨#[]⟩, vI 0, .d (.c (.slice none 0 0)), .d (.c (.slice none 0 0))]))]⟩) ?_ ?_
 ·refine wc_block ?_
  refine wc_len 22 rfl (fun hlenm6 => ?_)
  refine wc_loopw (fun κ st => ∃ (m6 : Nat) , κ = ranges2.length - m6 ∧ m6 ≤ ranges2.length ∧ Mref28_Start_l1 q1 ranges2 (ranges2.drop m6) (m6 : Int) = some mu1 ∧ st = ⟨[(1, .d (lst Rng.ds ranges2)), (2, .p 102 0), (4, .p 104 0), (22, .d (lst Rng.ds ranges2)), (23, vI (ranges2.length : Int)), (24, vI (m6 : Int))], [(102, some (.box 27 [vI q1.Kind, .d (lst Rng.ds q1.Ranges), vS q1.Key, vI q1.Count])), (104, some (.box 30 [vI 0, .d (.c (.slice none 0 0)), vS ⟨#[]⟩, vI 0, .d (.c (.slice none 0 0)), .d (.c (.slice none 0 0))]))]⟩) [(102, 102), (104, 104)] ⟨0, rfl, Nat.zero_le _, hm1, rfl⟩ ?_
  rintro κ _ ⟨m6, rfl, hlem6, hm1, rfl⟩
  rcases Nat.lt_or_ge m6 ranges2.length with hltm6 | hgem6
  ·obtain ⟨r4, hxm6, hdr⟩ := drop_c hltm6
   rw [hdr, Mref28_Start_l1.eq_2] at hm1
   refine sr ?_
   refine wc_seq ?_
   refine wc_cond_tt (lt_t hltm6) rfl ?_
   refine sx ?_
   refine wc_seq ?_
   obtain ⟨mu2, hm2, hm1⟩ := obnd_o hm1
   refine wc_cut' (fun st => mu2 = Ctl.nxt () ∧ st = ⟨[(1, .d (lst Rng.ds ranges2)), (2, .p 102 0), (4, .p 104 0), (22, .d (lst Rng.ds ranges2)), (23, vI (ranges2.length : Int)), (24, vI (m6 : Int))], [(102, some (.box 27 [vI q1.Kind, .d (lst Rng.ds q1.Ranges), vS q1.Key, vI q1.Count])), (104, some (.box 30 [vI 0, .d (.c (.slice none 0 0)), vS ⟨#[]⟩, vI 0, .d (.c (.slice none 0 0)), .d (.c (.slice none 0 0))]))]⟩) ?_ ?_
   ·refine sr ?_
    refine wl_r (o_ixm (ys := [dS r4.lo.key, dB r4.lo.top, dS r4.hi.key, dB r4.hi.top]) hxm6 rfl rfl rfl rfl) rfl rfl rfl ?_
    refine sr ?_
    obtain ⟨y7, hy, hm2⟩ := bnd_o hm2
    refine wl_cq (Mref1_Empty_sp (hm := hy)) ?_
    refine ss ?_
    refine wc_cs hm2 ?_ ?_ <;> clear hm2 <;> intro hm2
    ·refine sr ?_
     refine sx ?_
     cases hm2
     replace hm1 := ocbnd_r hm1
     cases hm1
     replace hm := ocbnd_r hm
     cases hm
     exact wk_r
    refine sx ?_
    refine wc_seq ?_
    refine wc_seq ?_
    obtain ⟨mu3, hm3, hm2⟩ := obnd_o hm2
    refine wc_cut' (fun st => ∃ (x10 : Bool), x10 = mu3 ∧ st = ⟨[(1, .d (lst Rng.ds ranges2)), (2, .p 102 0), (4, .p 104 0), (8, .p 108 0), (22, .d (lst Rng.ds ranges2)), (23, vI (ranges2.length : Int)), (24, vI (m6 : Int)), (45, vB x10)], [(102, some (.box 27 [vI q1.Kind, .d (lst Rng.ds q1.Ranges), vS q1.Key, vI q1.Count])), (104, some (.box 30 [vI 0, .d (.c (.slice none 0 0)), vS ⟨#[]⟩, vI 0, .d (.c (.slice none 0 0)), .d (.c (.slice none 0 0))])), (108, some (.box 42 [vS r4.lo.key, vB r4.lo.top, vS r4.hi.key, vB r4.hi.top]))]⟩) ?_ ?_
    ·refine wc_draw (id := 11) [⟨0, 0, [7]⟩, ⟨1, 1, [32]⟩, ⟨2, 3, [33]⟩, ⟨3, 7, [8, 34]⟩, ⟨4, 15, [34, 35]⟩, ⟨5, 7, [1, 34]⟩, ⟨6, 7, [7, 34]⟩, ⟨7, 71, [34, 38]⟩, ⟨8, 231, [34, 37, 39]⟩, ⟨9, 487, [34, 40]⟩, ⟨10, 999, [34, 41]⟩, ⟨11, 2047, [34, 36, 42]⟩, ⟨12, 4095, [34, 43]⟩, ⟨13, 8191, [34, 44]⟩] mixed (by kernel_rfl) ?_
     refine ss ?_
     refine wd_gp rfl rfl rfl rfl (fun h => ?_) (fun h => ?_)
     ·replace hm3 := sel_t h hm3
      refine ss ?_
      obtain ⟨e8, hy, hm3⟩ := obnd_o hm3
      refine wd_r [] (o_ixg (ys := [dS e8.lo.key, dB e8.lo.top, dS e8.hi.key, dB e8.hi.top]) hy rfl rfl rfl rfl) rfl (by first | exact .no rfl | exact .y rfl rfl rfl rfl) rfl rfl ?_
      refine ss ?_
      obtain ⟨y9, hy, hm3⟩ := bnd_o hm3
      refine wd_cs (Mref1_Compare_sp (hm := hy)) rfl rfl rfl (by repeat (first | exact Vws.nil | apply Vws.cons | exact Vw.nil | exact Vw.d _ | exact Vw.q _ | apply Vw.a)) rfl rfl (by first | exact .no rfl | exact .y rfl rfl rfl rfl) rfl rfl rfl ?_
      refine ss ?_
      cases hm3
      exact wk_cutw [(102, 102), (104, 104), (108, 108)] ⟨_, rfl, rfl⟩
     replace hm3 := sel_f h hm3
     refine ss ?_
     cases hm3
     exact wk_cutw [(102, 102), (104, 104), (108, 108)] ⟨_, rfl, rfl⟩
    rintro _ ⟨x10, rfl, rfl⟩
    refine ss ?_
    refine wc_cs hm2 ?_ ?_ <;> clear hm2 <;> intro hm2
    ·refine sr ?_
     refine sx ?_
     cases hm2
     replace hm1 := ocbnd_r hm1
     cases hm1
     replace hm := ocbnd_r hm
     cases hm
     exact wk_r
    refine sx ?_
    refine sr ?_
    refine sr ?_
    obtain ⟨y11, hy, hm2⟩ := obnd_o hm2
    refine wl_cq (Mref22_Ranges_sp (hm := hy)) ?_
    refine ss ?_
    obtain ⟨mu3, hm3, hm2⟩ := obnd_o hm2
    refine wc_cut' (fun st => ∃ (ok17 : Bool), ok17 = mu3 ∧ st = ⟨[(1, .d (lst Rng.ds ranges2)), (2, .p 102 0), (4, .p 104 0), (9, vB ok17), (22, .d (lst Rng.ds ranges2)), (23, vI (ranges2.length : Int)), (24, vI (m6 : Int))], [(102, some (.box 27 [vI q1.Kind, .d (lst Rng.ds q1.Ranges), vS q1.Key, vI q1.Count])), (104, some (.box 30 [vI 0, .d (.c (.slice none 0 0)), vS ⟨#[]⟩, vI 0, .d (.c (.slice none 0 0)), .d (.c (.slice none 0 0))]))]⟩) ?_ ?_
    ·refine wc_block ?_
     refine wc_len 48 rfl (fun hlenm15 => ?_)
     refine wc_loopw (fun κ st => ∃ (m15 : Nat) (ok12 : Bool), κ = y11.length - m15 ∧ m15 ≤ y11.length ∧ Mref28_Start_l2 r4 (y11.drop m15) ok12 = some mu3 ∧ st = ⟨[(1, .d (lst Rng.ds ranges2)), (2, .p 102 0), (4, .p 104 0), (8, .p 108 0), (9, vB ok12), (22, .d (lst Rng.ds ranges2)), (23, vI (ranges2.length : Int)), (24, vI (m6 : Int)), (48, .d (lst Rng.ds y11)), (49, vI (y11.length : Int)), (50, vI (m15 : Int))], [(102, some (.box 27 [vI q1.Kind, .d (lst Rng.ds q1.Ranges), vS q1.Key, vI q1.Count])), (104, some (.box 30 [vI 0, .d (.c (.slice none 0 0)), vS ⟨#[]⟩, vI 0, .d (.c (.slice none 0 0)), .d (.c (.slice none 0 0))])), (108, some (.box 42 [vS r4.lo.key, vB r4.lo.top, vS r4.hi.key, vB r4.hi.top]))]⟩) [(102, 102), (104, 104), (108, 108)] ⟨0, _, rfl, Nat.zero_le _, hm3, rfl⟩ ?_
     rintro κ _ ⟨m15, ok12, rfl, hlem15, hm3, rfl⟩
     rcases Nat.lt_or_ge m15 y11.length with hltm15 | hgem15
     ·obtain ⟨r13, hxm15, hdr⟩ := drop_c hltm15
      rw [hdr, Mref28_Start_l2.eq_2] at hm3
      refine sr ?_
      refine wc_seq ?_
      refine wc_cond_tt (lt_t hltm15) rfl ?_
      refine sx ?_
      refine sr ?_
      refine wl_r (o_ixm (ys := [dS r13.lo.key, dB r13.lo.top, dS r13.hi.key, dB r13.hi.top]) hxm15 rfl rfl rfl rfl) rfl rfl rfl ?_
      refine sr ?_
      refine wl_sg hm3 ?_ ?_ <;> clear hm3 <;> intro hm3
      ·refine sr ?_
       refine wl_r (o_inc hltm15 hlenm15 rfl rfl rfl) rfl rfl rfl ?_
       refine ss ?_
       exact wk_loopw [(102, 102), (104, 104), (108, 108)] ⟨m15 + 1, _, rfl, hltm15, hm3, rfl⟩ (by omega)
      refine ss ?_
      obtain ⟨y16, hy, hm3⟩ := bnd_o hm3
      refine wl_cq (Mref28_inside_sp (hm := hy)) ?_
      refine sr ?_
      refine wl_r (o_inc hltm15 hlenm15 rfl rfl rfl) rfl rfl rfl ?_
      refine ss ?_
      exact wk_loopw [(102, 102), (104, 104), (108, 108)] ⟨m15 + 1, _, rfl, hltm15, hm3, rfl⟩ (by omega)
     ·rw [drop_n hgem15, Mref28_Start_l2.eq_1] at hm3
      refine sr ?_
      refine wc_seq ?_
      refine wc_cond_ff (lt_f hgem15) rfl ?_
      refine wc_exit ?_
      refine ss ?_
      cases hm3
      exact wk_cutw [(102, 102), (104, 104)] ⟨_, rfl, rfl⟩
    rintro _ ⟨ok17, rfl, rfl⟩
    refine sr ?_
    refine wc_cs hm2 ?_ ?_ <;> clear hm2 <;> intro hm2
    ·refine sr ?_
     refine sx ?_
     cases hm2
     replace hm1 := ocbnd_r hm1
     cases hm1
     replace hm := ocbnd_r hm
     cases hm
     exact wk_r
    refine sx ?_
    cases hm2
    exact wk_cutw [(102, 102), (104, 104)] ⟨rfl, rfl⟩
   rintro _ ⟨rfl, rfl⟩
   replace hm1 := ocbnd_n hm1
   refine sr ?_
   refine wl_r (o_inc hltm6 hlenm6 rfl rfl rfl) rfl rfl rfl ?_
   refine ss ?_
   exact wk_loopw [(102, 102), (104, 104)] ⟨m6 + 1, rfl, hltm6, hm1, rfl⟩ (by omega)
  ·rw [drop_n hgem6, Mref28_Start_l1.eq_1] at hm1
   refine sr ?_
   refine wc_seq ?_
   refine wc_cond_ff (lt_f hgem6) rfl ?_
   refine wc_exit ?_
   refine ss ?_
   cases hm1
   exact wk_cutw [(102, 102), (104, 104)] ⟨rfl, rfl⟩
 rintro _ ⟨rfl, rfl⟩
 replace hm := ocbnd_n hm
 refine ss ?_
 refine wc_seq ?_
 refine wc_draw (id := 22) [⟨0, 0, [2]⟩, ⟨1, 0, [1]⟩, ⟨2, 2, [66]⟩, ⟨3, 7, [65, 67]⟩, ⟨4, 15, [4, 68]⟩, ⟨5, 31, []⟩] mixed (by kernel_rfl) ?_
 refine ss ?_
 obtain ⟨l18, hy, hm⟩ := obnd_o hm
 refine wd_1 [] (n_appn (k := 167) hy rfl rfl rfl rfl rfl rfl) rfl (by first | exact .no rfl | exact .y rfl rfl rfl rfl) rfl rfl rfl ?_
 refine sx ?_
 cases hm
 exact wk_r

def Mref28_Rows_l1 : List TVisit → List Kv → Option (List Kv)
  | [], out2 =>
  some out2
  | r3 :: xs4, out2 =>
  obnd (app out2 r3.View.Rows) fun l6 =>
  Mref28_Rows_l1 xs4 l6
def Mref28_Rows (l1 : List TVisit) : Option (List Kv) :=
 obnd (
  Mref28_Rows_l1 l1 [] : Option (List Kv)) fun out7 =>
 some out7
theorem Mref28_Rows_sp {l1 : List TVisit} {y : List Kv} (hm : Mref28_Rows l1 = some y) : Spec Tryz.prog 85 [.d (lst TVisit.ds l1)] [] fun u h => u = .d (lst Kv.ds y) ∧ h = [] := by
 refine si Tryz.func85 Tryz.ntmps85 Tryz.results85 fun B w0 ρ0 => ?_
 unfold Mref28_Rows at hm
 refine sr ?_
 refine sr ?_
 refine sr ?_
 obtain ⟨mu1, hm1, hm⟩ := obnd_o hm
 refine wc_cut' (fun st => ∃ (out7 : List Kv), out7 = mu1 ∧ st = ⟨[(3, .d (lst Kv.ds out7))], []⟩) ?_ ?_
 ·refine wc_block ?_
  refine wc_wk (wk_nil 3 5001 95 2 rfl rfl) ?_
  refine wc_len 6 rfl (fun hlenm5 => ?_)
  refine wc_loopw (fun κ st => ∃ (m5 : Nat) (out2 : List Kv), κ = l1.length - m5 ∧ m5 ≤ l1.length ∧ Mref28_Rows_l1 (l1.drop m5) out2 = some mu1 ∧ st = ⟨[(3, .h 5001), (6, .d (lst TVisit.ds l1)), (7, vI (l1.length : Int)), (8, vI (m5 : Int))], [(5001, some (arrT 95 2 Kv.ds out2))]⟩) [(5001, 5001)] ⟨0, _, rfl, Nat.zero_le _, hm1, rfl⟩ ?_
  rintro κ _ ⟨m5, out2, rfl, hlem5, hm1, rfl⟩
  rcases Nat.lt_or_ge m5 l1.length with hltm5 | hgem5
  ·obtain ⟨r3, hxm5, hdr⟩ := drop_c hltm5
   rw [hdr, Mref28_Rows_l1.eq_2] at hm1
   refine sr ?_
   refine wc_seq ?_
   refine wc_cond_tt (lt_t hltm5) rfl ?_
   refine sx ?_
   refine sr ?_
   refine wl_r (o_ixm (ys := [dI r3.View.Owner, dS r3.View.Interval.lo.key, dB r3.View.Interval.lo.top, dS r3.View.Interval.hi.key, dB r3.View.Interval.hi.top, dI r3.View.Stamp.Epoch, dI r3.View.Stamp.Version, lst Kv.ds r3.View.Rows, dS r3.Part.lo.key, dB r3.Part.lo.top, dS r3.Part.hi.key, dB r3.Part.hi.top]) hxm5 rfl rfl rfl rfl) rfl rfl rfl ?_
   refine sr ?_
   obtain ⟨l6, hy, hm1⟩ := obnd_o hm1
   refine wl_2 (n_app (k' := 116) hy rfl rfl rfl rfl rfl rfl rfl rfl) rfl rfl rfl rfl ?_
   refine sr ?_
   refine wl_r (o_inc hltm5 hlenm5 rfl rfl rfl) rfl rfl rfl ?_
   refine ss ?_
   exact wk_loopw [(5001, 116)] ⟨m5 + 1, _, rfl, hltm5, hm1, rfl⟩ (by omega)
  ·rw [drop_n hgem5, Mref28_Rows_l1.eq_1] at hm1
   refine sr ?_
   refine wc_seq ?_
   refine wc_cond_ff (lt_f hgem5) rfl ?_
   refine wc_exit ?_
   refine ss ?_
   cases hm1
   exact wk_cutw [] ⟨_, rfl, rfl⟩
 rintro _ ⟨out7, rfl, rfl⟩
 refine sr ?_
 refine sx ?_
 cases hm
 exact wk_r

def Mref28_Done (w1 : TWalk) : Option Bool :=
 sel (decide ((w1.Todo.length : Int) = 0)) (
  some true) (
  obnd (Mref28_Rows w1.Visits) fun y2 =>
  bnd (Mref22_Enough w1.Query (y2.length : Int)) fun y3 =>
  some y3)
theorem Mref28_Done_sp {w1 : TWalk} {y : Bool} (hm : Mref28_Done w1 = some y) : Spec Tryz.prog 79 [.a [vI w1.Query.Kind, .d (lst Rng.ds w1.Query.Ranges), vS w1.Query.Key, vI w1.Query.Count, .d (lst Rng.ds w1.Todo), .d (lst TVisit.ds w1.Visits)]] [] fun u h => u = vB y ∧ h = [] := by
 refine si Tryz.func79 Tryz.ntmps79 Tryz.results79 fun B w0 ρ0 => ?_
 unfold Mref28_Done at hm
 refine sr ?_
 refine wc_seq ?_
 refine wc_draw (id := 1) [⟨0, 0, [1]⟩, ⟨1, 1, [3]⟩, ⟨2, 3, [4]⟩, ⟨3, 7, [5]⟩, ⟨4, 15, [6]⟩, ⟨5, 31, [1, 7]⟩, ⟨6, 63, [7, 8]⟩, ⟨7, 31, [1, 7]⟩, ⟨8, 159, [7, 10]⟩, ⟨9, 415, [7, 11]⟩, ⟨10, 927, [7, 12]⟩, ⟨11, 2047, [7, 9, 13]⟩, ⟨12, 4095, [7, 14]⟩, ⟨13, 8191, [15]⟩] mixed (by kernel_rfl) ?_
 refine ss ?_
 refine wd_gp rfl rfl rfl rfl (fun h => ?_) (fun h => ?_)
 ·replace hm := sel_t h hm
  refine sx ?_
  cases hm
  exact wk_r
 replace hm := sel_f h hm
 refine ss ?_
 obtain ⟨y2, hy, hm⟩ := obnd_o hm
 refine wd_cs (Mref28_Rows_sp (hm := hy)) rfl rfl rfl (by repeat (first | exact Vws.nil | apply Vws.cons | exact Vw.nil | exact Vw.d _ | exact Vw.q _ | apply Vw.a)) rfl rfl (by first | exact .no rfl | exact .y rfl rfl rfl rfl) rfl rfl rfl ?_
 refine ss ?_
 obtain ⟨y3, hy, hm⟩ := bnd_o hm
 refine wd_cs (Mref22_Enough_sp (hm := hy)) rfl rfl rfl (by repeat (first | exact Vws.nil | apply Vws.cons | exact Vw.nil | exact Vw.d _ | exact Vw.q _ | apply Vw.a)) rfl rfl (by first | exact .no rfl | exact .y rfl rfl rfl rfl) rfl rfl rfl ?_
 refine sx ?_
 cases hm
 exact wk_r

def Mref28_Want (w1 : TWalk) : Option (Rng × Bool) :=
 obnd (Mref28_Done w1) fun y2 =>
 sel y2 (
  some ((Rng.mk (Bnd.mk ⟨#[]⟩ false) (Bnd.mk ⟨#[]⟩ false)), false)) (
  bnd (Mref22_Down w1.Query) fun y3 =>
  sel y3 (
   obnd (lget w1.Todo (i64w ((w1.Todo.length : Int) - 1))) fun e4 =>
   some (e4, true)) (
   obnd (lget w1.Todo 0) fun e5 =>
   some (e5, true)))
theorem Mref28_Want_sp {w1 : TWalk} {y : (Rng × Bool)} (hm : Mref28_Want w1 = some y) : Spec Tryz.prog 21 [.a [vI w1.Query.Kind, .d (lst Rng.ds w1.Query.Ranges), vS w1.Query.Key, vI w1.Query.Count, .d (lst Rng.ds w1.Todo), .d (lst TVisit.ds w1.Visits)]] [] fun u h => u = .t [.a [vS y.1.lo.key, vB y.1.lo.top, vS y.1.hi.key, vB y.1.hi.top], vB y.2] ∧ h = [] := by
 refine si Tryz.func21 Tryz.ntmps21 Tryz.results21 fun B w0 ρ0 => ?_
 unfold Mref28_Want at hm
 refine sr ?_
 refine sr ?_
 obtain ⟨y2, hy, hm⟩ := obnd_o hm
 refine wl_cq (Mref28_Done_sp (hm := hy)) ?_
 refine ss ?_
 refine wc_cs hm ?_ ?_ <;> clear hm <;> intro hm
 ·refine sr ?_
  refine sx ?_
  cases hm
  exact wk_r
 refine sr ?_
 obtain ⟨y3, hy, hm⟩ := bnd_o hm
 refine wl_cq (Mref22_Down_sp (hm := hy)) ?_
 refine ss ?_
 refine wc_cs hm ?_ ?_ <;> clear hm <;> intro hm
 ·refine sr ?_
  obtain ⟨e4, hy, hm⟩ := obnd_o hm
  refine wl_r (o_ixg (ys := [dS e4.lo.key, dB e4.lo.top, dS e4.hi.key, dB e4.hi.top]) hy rfl rfl rfl rfl) rfl rfl rfl ?_
  refine sx ?_
  cases hm
  exact wk_r
 refine sx ?_
 refine sr ?_
 obtain ⟨e5, hy, hm⟩ := obnd_o hm
 refine wl_r (o_ixg (ys := [dS e5.lo.key, dB e5.lo.top, dS e5.hi.key, dB e5.hi.top]) hy rfl rfl rfl rfl) rfl rfl rfl ?_
 refine sx ?_
 cases hm
 exact wk_r

def Mref28_ValidView (v1 : TView) : Option Bool :=
 bnd (Mref24_Number v1.Owner) fun y2 =>
 sel y2 (
  bnd (Mref1_Empty v1.Interval) fun y3 =>
  sel (!y3) (
   bnd (Mref23_Valid v1.Stamp) fun y4 =>
   sel y4 (
    obnd (Mref20_Valid v1.Rows) fun y5 =>
    sel y5 (
     bnd (Mref20_Within v1.Rows v1.Interval) fun y6 =>
     some y6) (
     some false)) (
    some false)) (
   some false)) (
  some false)
theorem Mref28_ValidView_sp {v1 : TView} {y : Bool} (hm : Mref28_ValidView v1 = some y) : Spec Tryz.prog 88 [.a [vI v1.Owner, vS v1.Interval.lo.key, vB v1.Interval.lo.top, vS v1.Interval.hi.key, vB v1.Interval.hi.top, vI v1.Stamp.Epoch, vI v1.Stamp.Version, .d (lst Kv.ds v1.Rows)]] [] fun u h => u = vB y ∧ h = [] := by
 refine si Tryz.func88 Tryz.ntmps88 Tryz.results88 fun B w0 ρ0 => ?_
 unfold Mref28_ValidView at hm
 refine sr ?_
 refine sr ?_
 obtain ⟨y2, hy, hm⟩ := bnd_o hm
 refine wl_cq (Mref24_Number_sp (hm := hy)) ?_
 refine ss ?_
 refine wl_sg hm ?_ ?_ <;> clear hm <;> intro hm
 ·refine ss ?_
  obtain ⟨y3, hy, hm⟩ := bnd_o hm
  refine wl_cq (Mref1_Empty_sp (hm := hy)) ?_
  refine ss ?_
  refine wl_sg hm ?_ ?_ <;> clear hm <;> intro hm
  ·refine ss ?_
   obtain ⟨y4, hy, hm⟩ := bnd_o hm
   refine wl_cq (Mref23_Valid_sp (hm := hy)) ?_
   refine ss ?_
   refine wl_sg hm ?_ ?_ <;> clear hm <;> intro hm
   ·refine ss ?_
    obtain ⟨y5, hy, hm⟩ := obnd_o hm
    refine wl_cq (Mref20_Valid_sp (hm := hy)) ?_
    refine ss ?_
    refine wl_sg hm ?_ ?_ <;> clear hm <;> intro hm
    ·refine ss ?_
     obtain ⟨y6, hy, hm⟩ := bnd_o hm
     refine wl_cq (Mref20_Within_sp (hm := hy)) ?_
     refine sx ?_
     cases hm
     exact wk_r
    refine sx ?_
    cases hm
    exact wk_r
   refine sx ?_
   cases hm
   exact wk_r
  refine sx ?_
  cases hm
  exact wk_r
 refine sx ?_
 cases hm
 exact wk_r

def Mref28_Take (w1 : TWalk) (v2 : TView) : Option (TWalk × Int) :=
 obnd (Mref28_Want w1) fun y3 =>
 sel (!y3.2) (
  some ((TWalk.mk (TQuery.mk 0 [] ⟨#[]⟩ 0) [] []), 7)) (
  obnd (Mref28_ValidView v2) fun y4 =>
  sel (!y4) (
   some ((TWalk.mk (TQuery.mk 0 [] ⟨#[]⟩ 0) [] []), 1)) (
   bnd (Mref22_Down w1.Query) fun y5 =>
   obnd (
    sel (!y5) (
     bnd (Mref1_Compare v2.Interval.lo y3.1.lo) fun y6 =>
     sel (decide (0 < y6)) (
      some true) (
      bnd (Mref1_Compare v2.Interval.hi y3.1.lo) fun y7 =>
      sel (decide (y7 ≤ 0)) (
       some true) (
       sel y5 (
        bnd (Mref1_Compare v2.Interval.hi y3.1.hi) fun y8 =>
        sel (decide (y8 < 0)) (
         some true) (
         bnd (Mref1_Compare v2.Interval.lo y3.1.hi) fun y9 =>
         some (decide (0 ≤ y9)))) (
        some false)))) (
     sel y5 (
      bnd (Mref1_Compare v2.Interval.hi y3.1.hi) fun y10 =>
      sel (decide (y10 < 0)) (
       some true) (
       bnd (Mref1_Compare v2.Interval.lo y3.1.hi) fun y11 =>
       some (decide (0 ≤ y11)))) (
      some false)) : Option Bool) fun x12 =>
   sel x12 (
    some ((TWalk.mk (TQuery.mk 0 [] ⟨#[]⟩ 0) [] []), 12)) (
    bnd (Mref1_Intersect v2.Interval y3.1) fun y13 =>
    obnd (Mref20_Slice v2.Rows y13) fun y14 =>
    sel y5 (
     obnd (app ([(TVisit.mk (TView.mk v2.Owner v2.Interval v2.Stamp y14) y13)] : List TVisit) w1.Visits) fun l15 =>
     obnd (lsl w1.Todo 0 (i64w ((w1.Todo.length : Int) - 1))) fun l16 =>
     obnd (app ([] : List Rng) l16) fun l17 =>
     bnd (Mref1_Empty (Rng.mk y3.1.lo y13.lo)) fun y18 =>
     sel (!y18) (
      obnd (app l17 ([(Rng.mk y3.1.lo y13.lo)] : List Rng)) fun l19 =>
      some ((TWalk.mk w1.Query l19 l15), 0)) (
      some ((TWalk.mk w1.Query l17 l15), 0))) (
     obnd (app ([] : List TVisit) w1.Visits) fun l20 =>
     obnd (app l20 ([(TVisit.mk (TView.mk v2.Owner v2.Interval v2.Stamp y14) y13)] : List TVisit)) fun l21 =>
     bnd (Mref1_Empty (Rng.mk y13.hi y3.1.hi)) fun y22 =>
     obnd (
      sel (!y22) (
       obnd (app ([] : List Rng) ([(Rng.mk y13.hi y3.1.hi)] : List Rng)) fun l23 =>
       some l23) (
       some []) : Option (List Rng)) fun rest24 =>
     obnd (lsl w1.Todo 1 (w1.Todo.length : Int)) fun l25 =>
     obnd (app rest24 l25) fun l26 =>
     some ((TWalk.mk w1.Query l26 l21), 0)))))
theorem Mref28_Take_sp {w1 : TWalk} {v2 : TView} {y : (TWalk × Int)} (hm : Mref28_Take w1 v2 = some y) : Spec Tryz.prog 27 [.a [vI w1.Query.Kind, .d (lst Rng.ds w1.Query.Ranges), vS w1.Query.Key, vI w1.Query.Count, .d (lst Rng.ds w1.Todo), .d (lst TVisit.ds w1.Visits)], .a [vI v2.Owner, vS v2.Interval.lo.key, vB v2.Interval.lo.top, vS v2.Interval.hi.key, vB v2.Interval.hi.top, vI v2.Stamp.Epoch, vI v2.Stamp.Version, .d (lst Kv.ds v2.Rows)]] [] fun u h => u = .t [.a [vI y.1.Query.Kind, .d (lst Rng.ds y.1.Query.Ranges), vS y.1.Query.Key, vI y.1.Query.Count, .d (lst Rng.ds y.1.Todo), .d (lst TVisit.ds y.1.Visits)], vI y.2] ∧ h = [] := by
 refine si Tryz.func27 Tryz.ntmps27 Tryz.results27 fun B w0 ρ0 => ?_
 unfold Mref28_Take at hm
 refine sr ?_
 refine sr ?_
 obtain ⟨y3, hy, hm⟩ := obnd_o hm
 refine wl_cq (Mref28_Want_sp (hm := hy)) ?_
 refine sr ?_
 refine wc_cs hm ?_ ?_ <;> clear hm <;> intro hm
 ·refine sr ?_
  refine sx ?_
  cases hm
  exact wk_r
 refine sx ?_
 refine sr ?_
 obtain ⟨y4, hy, hm⟩ := obnd_o hm
 refine wl_cq (Mref28_ValidView_sp (hm := hy)) ?_
 refine ss ?_
 refine wc_cs hm ?_ ?_ <;> clear hm <;> intro hm
 ·refine sr ?_
  refine sx ?_
  cases hm
  exact wk_r
 refine sx ?_
 refine sr ?_
 obtain ⟨y5, hy, hm⟩ := bnd_o hm
 refine wl_cq (Mref22_Down_sp (hm := hy)) ?_
 refine sr ?_
 refine wc_seq ?_
 refine wc_seq ?_
 obtain ⟨mu1, hm1, hm⟩ := obnd_o hm
 refine wc_cut' (fun st => ∃ (x12 : Bool), x12 = mu1 ∧ st = ⟨[(2, .p 102 0), (3, .p 103 0), (4, .p 104 0), (6, .p 106 0), (8, vB y5), (9, .p 109 0), (66, vB x12)], [(102, some (.box 30 [vI w1.Query.Kind, .d (lst Rng.ds w1.Query.Ranges), vS w1.Query.Key, vI w1.Query.Count, .d (lst Rng.ds w1.Todo), .d (lst TVisit.ds w1.Visits)])), (103, some (.box 49 [vI v2.Owner, vS v2.Interval.lo.key, vB v2.Interval.lo.top, vS v2.Interval.hi.key, vB v2.Interval.hi.top, vI v2.Stamp.Epoch, vI v2.Stamp.Version, .d (lst Kv.ds v2.Rows)])), (104, some (.box 30 [vI 0, .d (.c (.slice none 0 0)), vS ⟨#[]⟩, vI 0, .d (.c (.slice none 0 0)), .d (.c (.slice none 0 0))])), (106, some (.box 42 [vS y3.1.lo.key, vB y3.1.lo.top, vS y3.1.hi.key, vB y3.1.hi.top])), (109, some (.box 42 [vS v2.Interval.lo.key, vB v2.Interval.lo.top, vS v2.Interval.hi.key, vB v2.Interval.hi.top]))]⟩) ?_ ?_
 ·refine sr ?_
  refine wl_sg hm1 ?_ ?_ <;> clear hm1 <;> intro hm1
  ·refine ss ?_
   obtain ⟨y6, hy, hm1⟩ := bnd_o hm1
   refine wl_cq (Mref1_Compare_sp (hm := hy)) ?_
   refine ss ?_
   refine wl_sg hm1 ?_ ?_ <;> clear hm1 <;> intro hm1
   ·refine ss ?_
    cases hm1
    exact wk_cutw [(102, 102), (103, 103), (104, 104), (106, 106), (109, 109)] ⟨_, rfl, rfl⟩
   refine ss ?_
   obtain ⟨y7, hy, hm1⟩ := bnd_o hm1
   refine wl_cq (Mref1_Compare_sp (hm := hy)) ?_
   refine ss ?_
   refine wl_sg hm1 ?_ ?_ <;> clear hm1 <;> intro hm1
   ·refine ss ?_
    cases hm1
    exact wk_cutw [(102, 102), (103, 103), (104, 104), (106, 106), (109, 109)] ⟨_, rfl, rfl⟩
   refine ss ?_
   refine wl_sg hm1 ?_ ?_ <;> clear hm1 <;> intro hm1
   ·refine ss ?_
    obtain ⟨y8, hy, hm1⟩ := bnd_o hm1
    refine wl_cq (Mref1_Compare_sp (hm := hy)) ?_
    refine ss ?_
    refine wl_sg hm1 ?_ ?_ <;> clear hm1 <;> intro hm1
    ·refine ss ?_
     cases hm1
     exact wk_cutw [(102, 102), (103, 103), (104, 104), (106, 106), (109, 109)] ⟨_, rfl, rfl⟩
    refine ss ?_
    obtain ⟨y9, hy, hm1⟩ := bnd_o hm1
    refine wl_cq (Mref1_Compare_sp (hm := hy)) ?_
    refine ss ?_
    cases hm1
    exact wk_cutw [(102, 102), (103, 103), (104, 104), (106, 106), (109, 109)] ⟨_, rfl, rfl⟩
   refine ss ?_
   cases hm1
   exact wk_cutw [(102, 102), (103, 103), (104, 104), (106, 106), (109, 109)] ⟨_, rfl, rfl⟩
  refine ss ?_
  refine wl_sg hm1 ?_ ?_ <;> clear hm1 <;> intro hm1
  ·refine ss ?_
   obtain ⟨y10, hy, hm1⟩ := bnd_o hm1
   refine wl_cq (Mref1_Compare_sp (hm := hy)) ?_
   refine ss ?_
   refine wl_sg hm1 ?_ ?_ <;> clear hm1 <;> intro hm1
   ·refine ss ?_
    cases hm1
    exact wk_cutw [(102, 102), (103, 103), (104, 104), (106, 106), (109, 109)] ⟨_, rfl, rfl⟩
   refine ss ?_
   obtain ⟨y11, hy, hm1⟩ := bnd_o hm1
   refine wl_cq (Mref1_Compare_sp (hm := hy)) ?_
   refine ss ?_
   cases hm1
   exact wk_cutw [(102, 102), (103, 103), (104, 104), (106, 106), (109, 109)] ⟨_, rfl, rfl⟩
  refine ss ?_
  cases hm1
  exact wk_cutw [(102, 102), (103, 103), (104, 104), (106, 106), (109, 109)] ⟨_, rfl, rfl⟩
 rintro _ ⟨x12, rfl, rfl⟩
 refine ss ?_
 refine wc_cs hm ?_ ?_ <;> clear hm <;> intro hm
 ·refine sr ?_
  refine sx ?_
  cases hm
  exact wk_r
 refine sx ?_
 refine sr ?_
 obtain ⟨y13, hy, hm⟩ := bnd_o hm
 refine wl_cq (Mref1_Intersect_sp (hm := hy)) ?_
 refine sr ?_
 obtain ⟨y14, hy, hm⟩ := obnd_o hm
 refine wl_cq (Mref20_Slice_sp (hm := hy)) ?_
 refine sr ?_
 refine sr ?_
 refine sr ?_
 refine wc_cs hm ?_ ?_ <;> clear hm <;> intro hm
 ·refine sr ?_
  refine wl_1 (n_bso (k := 181) TVisit.ds [(TVisit.mk (TView.mk v2.Owner v2.Interval v2.Stamp y14) y13)] rfl rfl rfl rfl (by simp only [flatV, cellsV, List.cons_append, List.nil_append, List.append_nil]; exact rfl) rfl rfl) rfl rfl rfl rfl ?_
  refine ss ?_
  obtain ⟨l15, hy, hm⟩ := obnd_o hm
  refine wl_2 (n_app (k' := 184) hy rfl rfl rfl rfl rfl rfl rfl rfl) rfl rfl rfl rfl ?_
  refine sr ?_
  obtain ⟨l16, hy, hm⟩ := obnd_o hm
  refine wl_r (o_lsl hy rfl rfl rfl rfl) rfl rfl rfl ?_
  refine ss ?_
  obtain ⟨l17, hy, hm⟩ := obnd_o hm
  refine wl_1 (n_appn (k := 194) hy rfl rfl rfl rfl rfl rfl) rfl rfl rfl rfl ?_
  refine sr ?_
  refine sr ?_
  obtain ⟨y18, hy, hm⟩ := bnd_o hm
  refine wl_cq (Mref1_Empty_sp (hm := hy)) ?_
  refine ss ?_
  refine wc_cs hm ?_ ?_ <;> clear hm <;> intro hm
  ·refine sr ?_
   refine wl_bt Rng.ds [(Rng.mk y3.1.lo y13.lo)] rfl rfl (by simp only [flatV, cellsV, List.cons_append, List.nil_append, List.append_nil]; exact rfl) rfl rfl rfl rfl rfl rfl ?_
   refine ss ?_
   obtain ⟨l19, hy, hm⟩ := obnd_o hm
   refine wl_2 (n_app (k' := 204) hy rfl rfl rfl rfl rfl rfl rfl rfl) rfl rfl rfl rfl ?_
   refine sr ?_
   refine sr ?_
   refine sx ?_
   cases hm
   exact wk_r
  refine sx ?_
  refine sr ?_
  refine sr ?_
  refine sx ?_
  cases hm
  exact wk_r
 refine wc_seq ?_
 refine wc_draw (id := 20) [⟨0, 0, [2]⟩, ⟨1, 1, [105]⟩, ⟨2, 3, [106]⟩, ⟨3, 0, [11]⟩, ⟨4, 8, [108]⟩, ⟨5, 31, [107, 109]⟩, ⟨6, 63, [2]⟩, ⟨7, 127, [110, 111]⟩] mixed (by kernel_rfl) ?_
 refine ss ?_
 obtain ⟨l20, hy, hm⟩ := obnd_o hm
 refine wd_1 [] (n_appn (k := 207) hy rfl rfl rfl rfl rfl rfl) rfl (by first | exact .no rfl | exact .y rfl rfl rfl rfl) rfl rfl rfl ?_
 refine ss ?_
 refine wd_bt TVisit.ds [(TVisit.mk (TView.mk v2.Owner v2.Interval v2.Stamp y14) y13)] rfl rfl (by simp only [flatV, cellsV, List.cons_append, List.nil_append, List.append_nil]; exact rfl) rfl rfl rfl rfl (by first | exact .no rfl | exact .y rfl rfl rfl rfl) rfl rfl ?_
 refine ss ?_
 obtain ⟨l21, hy, hm⟩ := obnd_o hm
 refine wd_app (k' := 210) hy rfl rfl rfl rfl rfl rfl rfl rfl (by first | exact .no rfl | exact .y rfl rfl rfl rfl) rfl rfl rfl ?_
 refine sr ?_
 refine sr ?_
 obtain ⟨y22, hy, hm⟩ := bnd_o hm
 refine wl_cq (Mref1_Empty_sp (hm := hy)) ?_
 refine ss ?_
 obtain ⟨mu1, hm1, hm⟩ := obnd_o hm
 refine wc_cut' (fun st => ∃ (rest24 : List Rng), rest24 = mu1 ∧ st = ⟨[(2, .p 102 0), (4, .p 104 0), (12, .h 5001)], [(102, some (.box 30 [vI w1.Query.Kind, .d (lst Rng.ds w1.Query.Ranges), vS w1.Query.Key, vI w1.Query.Count, .d (lst Rng.ds w1.Todo), .h 210])), (104, some (.box 30 [vI 0, .d (.c (.slice none 0 0)), vS ⟨#[]⟩, vI 0, .d (.c (.slice none 0 0)), .d (.c (.slice none 0 0))])), (210, some (arrT 62 12 TVisit.ds l21)), (5001, some (arrT 42 4 Rng.ds rest24))]⟩) ?_ ?_
 ·refine wc_cs hm1 ?_ ?_ <;> clear hm1 <;> intro hm1
  ·refine sr ?_
   refine wl_bt Rng.ds [(Rng.mk y13.hi y3.1.hi)] rfl rfl (by simp only [flatV, cellsV, List.cons_append, List.nil_append, List.append_nil]; exact rfl) rfl rfl rfl rfl rfl rfl ?_
   refine ss ?_
   obtain ⟨l23, hy, hm1⟩ := obnd_o hm1
   refine wl_1 (n_appn (k := 221) hy rfl rfl rfl rfl rfl rfl) rfl rfl rfl rfl ?_
   refine ss ?_
   cases hm1
   exact wk_cutw [(102, 102), (104, 104), (210, 210), (5001, 221)] ⟨_, rfl, rfl⟩
  refine sx ?_
  cases hm1
  refine WK.of_wk (wk_nil 12 5001 42 4 rfl rfl) ?_
  exact wk_cutw [(102, 102), (104, 104), (210, 210), (5001, 5001)] ⟨_, rfl, rfl⟩
 rintro _ ⟨rest24, rfl, rfl⟩
 refine sr ?_
 obtain ⟨l25, hy, hm⟩ := obnd_o hm
 refine wl_r (o_lsl hy rfl rfl rfl rfl) rfl rfl rfl ?_
 refine ss ?_
 obtain ⟨l26, hy, hm⟩ := obnd_o hm
 refine wl_2 (n_app (k' := 226) hy rfl rfl rfl rfl rfl rfl rfl rfl) rfl rfl rfl rfl ?_
 refine sr ?_
 refine sr ?_
 refine sx ?_
 cases hm
 exact wk_r

theorem run_eqt46 {w : World} {n : Nat} (a0 b0 : Int) (a1 b1 : Int) : (Op.equalIn (n + 2) 46 (.agg #[.int .i64 a0, .int .i64 a1]) (.agg #[.int .i64 b0, .int .i64 b1])).run Tryz.prog w = .ok (decide (a0 = b0) && decide (a1 = b1)) w := by
  rw [show n + 2 = (n + 1) + 1 from rfl, run_equalIn_struct (P := Tryz.prog) w (n + 1) 46 _ _ (by kernel_rfl) (by kernel_rfl), show (Tryz.prog.fieldsOf 46).toList = [⟨"Epoch", 3, 0, false, "", "", 0⟩, ⟨"Version", 3, 1, false, "", "", 8⟩] from by kernel_rfl]
  simp [Op.eqFields, part, Result.andThen, eqt_if, ba_eqE, run_agg (T := 3) (inferInstance : Ty Tryz.prog 3 _ _), run_size (T := 3) (inferInstance : Ty Tryz.prog 3 _ _), run_equalIn_int (P := Tryz.prog) _ _ 3 .i64 .i64 _ _ (by kernel_rfl)]
  all_goals ((repeat' split) <;> simp_all)
instance eqs46 (a0 b0 : Int) (a1 b1 : Int) : Eqs Tryz.prog 46 [.int .i64 a0, .int .i64 a1] [.int .i64 b0, .int .i64 b1] (decide (a0 = b0) && decide (a1 = b1)) := ⟨by kernel_rfl, fun w => run_eqt46 (n := 9998) a0 b0 a1 b1⟩
def Mref28_SameVisit (a1 : TVisit) (b2 : TVisit) : Option Bool :=
 sel (decide (a1.View.Owner = b2.View.Owner)) (
  sel (decide (a1.View.Stamp.Epoch = b2.View.Stamp.Epoch) && decide (a1.View.Stamp.Version = b2.View.Stamp.Version)) (
   bnd (Mref24_SameRange a1.View.Interval b2.View.Interval) fun y3 =>
   sel y3 (
    bnd (Mref24_SameRange a1.Part b2.Part) fun y4 =>
    sel y4 (
     obnd (Mref20_Same a1.View.Rows b2.View.Rows) fun y5 =>
     some y5) (
     some false)) (
    some false)) (
   some false)) (
  some false)
def Mref28_SameVisits_l1 (a1 : List TVisit) (b2 : List TVisit) : List TVisit → Int → Option (Ctl Bool Unit)
  | [], i =>
  some (Ctl.nxt ())
  | r3 :: xs4, i =>
  obnd (lget a1 i) fun e6 =>
  obnd (lget b2 i) fun e7 =>
  obnd (Mref28_SameVisit e6 e7) fun y8 =>
  sel (!y8) (
   some (Ctl.ret false)) (
   Mref28_SameVisits_l1 a1 b2 xs4 (i + 1))
def Mref28_SameVisits (a1 : List TVisit) (b2 : List TVisit) : Option Bool :=
 sel (!decide ((a1.length : Int) = (b2.length : Int))) (
  some false) (
  obnd (
   Mref28_SameVisits_l1 a1 b2 a1 0 : Option (Ctl Bool Unit)) fun mu => ocbnd mu fun (_ : Unit) =>
  some true)
end Go.Proofs.YtlbnhhfaedhgfaaGreatDoor
