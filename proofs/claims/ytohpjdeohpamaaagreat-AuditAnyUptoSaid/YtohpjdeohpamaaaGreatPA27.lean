/-
  Lemmas: Models and walks
-/
import Derived.Test.YtohpjdeohpamaaaGreatPA26
set_option linter.unusedSimpArgs false
set_option linter.unusedVariables false
namespace Go.Proofs.YtohpjdeohpamaaaGreat
open Go.RowKit
set_option maxRecDepth 100000
set_option maxHeartbeats 4000000
attribute [local irreducible] WK WC WL Wk Rel OpD OpV WD WO sel bnd obnd app lget lsl sget ssl scat letg iquo irem Op.bytesLess
attribute [local irreducible] qchk qranges union
def Mref28_Tiling_l1 : List TVisit → Option (Ctl Int Unit)
  | [] =>
  some (Ctl.nxt ())
  | r4 :: xs5 =>
  obnd (
   obnd (Mref28_ValidView r4.View) fun y7 =>
   sel (!y7) (
    some true) (
    bnd (Mref1_Empty r4.Part) fun y8 =>
    sel y8 (
     some true) (
     bnd (Mref28_inside r4.Part r4.View.Interval) fun y9 =>
     some (!y9))) : Option Bool) fun x10 =>
  sel x10 (
   some (Ctl.ret 1)) (
   bnd (Mref20_Within r4.View.Rows r4.Part) fun y11 =>
   sel (!y11) (
    some (Ctl.ret 17)) (
    Mref28_Tiling_l1 xs5))
def Mref28_Tiling_l2 (y12 : List Rng) : List TVisit → Int → ByteArray → Bool → Option (Ctl Int Int)
  | [], at23, pos24, pos25 =>
  some (Ctl.nxt at23)
  | r26 :: xs27, at23, pos24, pos25 =>
  sel (decide (at23 = (y12.length : Int))) (
   some (Ctl.ret 2)) (
   bnd (Mref1_Compare r26.Part.lo (Bnd.mk pos24 pos25)) fun y29 =>
   sel (decide (0 < y29)) (
    some (Ctl.ret 9)) (
    bnd (Mref1_Compare r26.Part.lo (Bnd.mk pos24 pos25)) fun y30 =>
    sel (decide (y30 < 0)) (
     some (Ctl.ret 10)) (
     obnd (lget y12 at23) fun e31 =>
     bnd (Mref1_Compare r26.Part.hi e31.hi) fun y32 =>
     sel (decide (0 < y32)) (
      some (Ctl.ret 2)) (
      obnd (lget y12 at23) fun e33 =>
      bnd (Mref1_Compare r26.Part.hi e33.hi) fun y34 =>
      sel (decide (y34 = 0)) (
       sel (decide (i64w (at23 + 1) < (y12.length : Int))) (
        obnd (lget y12 (i64w (at23 + 1))) fun e35 =>
        Mref28_Tiling_l2 y12 xs27 (i64w (at23 + 1)) e35.lo.key e35.lo.top) (
        Mref28_Tiling_l2 y12 xs27 (i64w (at23 + 1)) r26.Part.hi.key r26.Part.hi.top)) (
       Mref28_Tiling_l2 y12 xs27 at23 r26.Part.hi.key r26.Part.hi.top)))))
def Mref28_Tiling (q1 : TQuery) (l2 : List TVisit) : Option Int :=
 bnd (Mref22_Check q1) fun y3 =>
 sel (!decide (y3 = 0)) (
  some y3) (
  obnd (
   Mref28_Tiling_l1 l2 : Option (Ctl Int Unit)) fun mu => ocbnd mu fun (_ : Unit) =>
  obnd (Mref22_Ranges q1) fun y12 =>
  obnd (Mref28_Rows l2) fun y13 =>
  bnd (Mref22_Enough q1 (y13.length : Int)) fun y14 =>
  obnd (
   sel (decide (0 < (y12.length : Int))) (
    obnd (lget y12 0) fun e15 =>
    some (e15.lo.key, e15.lo.top)) (
    some (⟨#[]⟩, false)) : Option (ByteArray × Bool)) fun (pos16, pos17) =>
  obnd (
   bnd (Mref22_Down q1) fun y18 =>
   sel y18 (
    sel y14 (
     some (decide (0 < (l2.length : Int)))) (
     some false)) (
    some false) : Option Bool) fun x19 =>
  obnd (
   sel x19 (
    obnd (lget l2 0) fun e20 =>
    some (e20.Part.lo.key, e20.Part.lo.top)) (
    some (pos16, pos17)) : Option (ByteArray × Bool)) fun (pos21, pos22) =>
  obnd (
   Mref28_Tiling_l2 y12 l2 0 pos21 pos22 : Option (Ctl Int Int)) fun mu => ocbnd mu fun at36 =>
  sel (decide (at36 < (y12.length : Int))) (
   sel (decide (q1.Kind = 3)) (
    sel (!y14) (
     some 9) (
     some 0)) (
    sel (!false) (
     some 9) (
     some 0))) (
   some 0))
theorem Mref28_Tiling_sp {q1 : TQuery} {l2 : List TVisit} {y : Int} (hm : Mref28_Tiling q1 l2 = some y) : Spec Tryz.prog 42 [.a [vI q1.Kind, .d (lst Rng.ds q1.Ranges), vS q1.Key, vI q1.Count], .d (lst TVisit.ds l2)] [] fun u h => u = vI y ∧ h = [] := by
 refine si Tryz.func42 Tryz.ntmps42 Tryz.results42 fun B w0 ρ0 => ?_
 unfold Mref28_Tiling at hm
 refine sr ?_
 refine sr ?_
 obtain ⟨y3, hy, hm⟩ := bnd_o hm
 refine wl_cq (Mref22_Check_sp (hm := hy)) ?_
 refine sr ?_
 refine wc_cs hm ?_ ?_ <;> clear hm <;> intro hm
 ·refine sr ?_
  refine sx ?_
  cases hm
  exact wk_r
 refine sx ?_
 refine sr ?_
 obtain ⟨mu1, hm1, hm⟩ := obnd_o hm
 refine wc_cut' (fun st => mu1 = Ctl.nxt () ∧ st = ⟨[(1, .d (lst TVisit.ds l2)), (2, .p 102 0)], [(102, some (.box 29 [vI q1.Kind, .d (lst Rng.ds q1.Ranges), vS q1.Key, vI q1.Count]))]⟩) ?_ ?_
 ·refine wc_block ?_
  refine wc_len 19 rfl (fun hlenm6 => ?_)
  refine wc_loopw (fun κ st => ∃ (m6 : Nat) , κ = l2.length - m6 ∧ m6 ≤ l2.length ∧ Mref28_Tiling_l1 (l2.drop m6) = some mu1 ∧ st = ⟨[(1, .d (lst TVisit.ds l2)), (2, .p 102 0), (19, .d (lst TVisit.ds l2)), (20, vI (l2.length : Int)), (21, vI (m6 : Int))], [(102, some (.box 29 [vI q1.Kind, .d (lst Rng.ds q1.Ranges), vS q1.Key, vI q1.Count]))]⟩) [(102, 102)] ⟨0, rfl, Nat.zero_le _, hm1, rfl⟩ ?_
  rintro κ _ ⟨m6, rfl, hlem6, hm1, rfl⟩
  rcases Nat.lt_or_ge m6 l2.length with hltm6 | hgem6
  ·obtain ⟨r4, hxm6, hdr⟩ := drop_c hltm6
   rw [hdr, Mref28_Tiling_l1.eq_2] at hm1
   refine sr ?_
   refine wc_seq ?_
   refine wc_cond_tt (lt_t hltm6) rfl ?_
   refine sx ?_
   refine sr ?_
   refine wl_r (o_ixm (ys := [dI r4.View.Owner, dS r4.View.Interval.lo.key, dB r4.View.Interval.lo.top, dS r4.View.Interval.hi.key, dB r4.View.Interval.hi.top, dI r4.View.Stamp.Epoch, dI r4.View.Stamp.Version, lst Kv.ds r4.View.Rows, dS r4.Part.lo.key, dB r4.Part.lo.top, dS r4.Part.hi.key, dB r4.Part.hi.top]) hxm6 rfl rfl rfl rfl) rfl rfl rfl ?_
   refine ss ?_
   refine wc_seq ?_
   refine wc_seq ?_
   obtain ⟨mu2, hm2, hm1⟩ := obnd_o hm1
   refine wc_cut' (fun st => ∃ (x10 : Bool), x10 = mu2 ∧ st = ⟨[(1, .d (lst TVisit.ds l2)), (2, .p 102 0), (7, .p 107 0), (19, .d (lst TVisit.ds l2)), (20, vI (l2.length : Int)), (21, vI (m6 : Int)), (42, vB x10)], [(102, some (.box 29 [vI q1.Kind, .d (lst Rng.ds q1.Ranges), vS q1.Key, vI q1.Count])), (107, some (.box 48 [vI r4.View.Owner, vS r4.View.Interval.lo.key, vB r4.View.Interval.lo.top, vS r4.View.Interval.hi.key, vB r4.View.Interval.hi.top, vI r4.View.Stamp.Epoch, vI r4.View.Stamp.Version, .d (lst Kv.ds r4.View.Rows), vS r4.Part.lo.key, vB r4.Part.lo.top, vS r4.Part.hi.key, vB r4.Part.hi.top]))]⟩) ?_ ?_
   ·refine sr ?_
    obtain ⟨y7, hy, hm2⟩ := obnd_o hm2
    refine wl_cq (Mref28_ValidView_sp (hm := hy)) ?_
    refine ss ?_
    refine wl_sg hm2 ?_ ?_ <;> clear hm2 <;> intro hm2
    ·refine ss ?_
     cases hm2
     exact wk_cutw [(102, 102), (107, 107)] ⟨_, rfl, rfl⟩
    refine ss ?_
    obtain ⟨y8, hy, hm2⟩ := bnd_o hm2
    refine wl_cq (Mref1_Empty_sp (hm := hy)) ?_
    refine ss ?_
    refine wl_sg hm2 ?_ ?_ <;> clear hm2 <;> intro hm2
    ·refine ss ?_
     cases hm2
     exact wk_cutw [(102, 102), (107, 107)] ⟨_, rfl, rfl⟩
    refine ss ?_
    obtain ⟨y9, hy, hm2⟩ := bnd_o hm2
    refine wl_cq (Mref28_inside_sp (hm := hy)) ?_
    refine ss ?_
    cases hm2
    exact wk_cutw [(102, 102), (107, 107)] ⟨_, rfl, rfl⟩
   rintro _ ⟨x10, rfl, rfl⟩
   refine ss ?_
   refine wc_cs hm1 ?_ ?_ <;> clear hm1 <;> intro hm1
   ·refine sr ?_
    refine sx ?_
    cases hm1
    replace hm := ocbnd_r hm
    cases hm
    exact wk_r
   refine sx ?_
   refine sr ?_
   obtain ⟨y11, hy, hm1⟩ := bnd_o hm1
   refine wl_cq (Mref20_Within_sp (hm := hy)) ?_
   refine ss ?_
   refine wc_cs hm1 ?_ ?_ <;> clear hm1 <;> intro hm1
   ·refine sr ?_
    refine sx ?_
    cases hm1
    replace hm := ocbnd_r hm
    cases hm
    exact wk_r
   refine sx ?_
   refine sr ?_
   refine wl_r (o_inc hltm6 hlenm6 rfl rfl rfl) rfl rfl rfl ?_
   refine ss ?_
   exact wk_loopw [(102, 102)] ⟨m6 + 1, rfl, hltm6, hm1, rfl⟩ (by omega)
  ·rw [drop_n hgem6, Mref28_Tiling_l1.eq_1] at hm1
   refine sr ?_
   refine wc_seq ?_
   refine wc_cond_ff (lt_f hgem6) rfl ?_
   refine wc_exit ?_
   refine ss ?_
   cases hm1
   exact wk_cutw [(102, 102)] ⟨rfl, rfl⟩
 rintro _ ⟨rfl, rfl⟩
 replace hm := ocbnd_n hm
 refine sr ?_
 obtain ⟨y12, hy, hm⟩ := obnd_o hm
 refine wl_cq (Mref22_Ranges_sp (hm := hy)) ?_
 refine ss ?_
 refine wc_seq ?_
 refine wc_draw (id := 13) [⟨0, 0, [2]⟩, ⟨1, 0, [1]⟩, ⟨2, 2, [54]⟩, ⟨3, 6, [55]⟩, ⟨4, 15, [53, 56]⟩, ⟨5, 31, [57]⟩] mixed (by kernel_rfl) ?_
 refine ss ?_
 obtain ⟨y13, hy, hm⟩ := obnd_o hm
 refine wd_cs (Mref28_Rows_sp (hm := hy)) rfl rfl rfl (by repeat (first | exact Vws.nil | apply Vws.cons | exact Vw.nil | exact Vw.d _ | exact Vw.q _ | apply Vw.a)) rfl rfl (by first | exact .no rfl | exact .y rfl rfl rfl rfl) rfl rfl rfl ?_
 refine ss ?_
 obtain ⟨y14, hy, hm⟩ := bnd_o hm
 refine wd_cs (Mref22_Enough_sp (hm := hy)) rfl rfl rfl (by repeat (first | exact Vws.nil | apply Vws.cons | exact Vw.nil | exact Vw.d _ | exact Vw.q _ | apply Vw.a)) rfl rfl (by first | exact .no rfl | exact .y rfl rfl rfl rfl) rfl rfl rfl ?_
 refine sr ?_
 refine sr ?_
 refine sr ?_
 obtain ⟨mu1, hm1, hm⟩ := obnd_o hm
 refine wc_cut' (fun st => ∃ (pos16 : ByteArray) (pos17 : Bool), mu1 = (pos16, pos17) ∧ st = ⟨[(1, .d (lst TVisit.ds l2)), (2, .p 102 0), (8, .d (lst Rng.ds y12)), (9, vB y14), (10, vI 0), (11, .p 111 0)], [(102, some (.box 29 [vI q1.Kind, .d (lst Rng.ds q1.Ranges), vS q1.Key, vI q1.Count])), (111, some (.box 40 [vS pos16, vB pos17]))]⟩) ?_ ?_
 ·refine wc_cs hm1 ?_ ?_ <;> clear hm1 <;> intro hm1
  ·refine sr ?_
   obtain ⟨e15, hy, hm1⟩ := obnd_o hm1
   refine wl_r (o_ixg (ys := [dS e15.lo.key, dB e15.lo.top, dS e15.hi.key, dB e15.hi.top]) hy rfl rfl rfl rfl) rfl rfl rfl ?_
   refine ss ?_
   cases hm1
   exact wk_cutw [(102, 102), (111, 111)] ⟨_, _, rfl, rfl⟩
  refine sx ?_
  cases hm1
  exact wk_cutw [(102, 102), (111, 111)] ⟨_, _, rfl, rfl⟩
 rintro _ ⟨pos16, pos17, rfl, rfl⟩
 refine ss ?_
 refine wc_seq ?_
 refine wc_seq ?_
 obtain ⟨mu1, hm1, hm⟩ := obnd_o hm
 refine wc_cut' (fun st => ∃ (x19 : Bool), x19 = mu1 ∧ st = ⟨[(1, .d (lst TVisit.ds l2)), (2, .p 102 0), (8, .d (lst Rng.ds y12)), (9, vB y14), (10, vI 0), (11, .p 111 0), (74, vB x19)], [(102, some (.box 29 [vI q1.Kind, .d (lst Rng.ds q1.Ranges), vS q1.Key, vI q1.Count])), (111, some (.box 40 [vS pos16, vB pos17]))]⟩) ?_ ?_
 ·refine sr ?_
  obtain ⟨y18, hy, hm1⟩ := bnd_o hm1
  refine wl_cq (Mref22_Down_sp (hm := hy)) ?_
  refine ss ?_
  refine wl_sg hm1 ?_ ?_ <;> clear hm1 <;> intro hm1
  ·refine ss ?_
   refine wl_sg hm1 ?_ ?_ <;> clear hm1 <;> intro hm1
   ·refine ss ?_
    cases hm1
    exact wk_cutw [(102, 102), (111, 111)] ⟨_, rfl, rfl⟩
   refine ss ?_
   cases hm1
   exact wk_cutw [(102, 102), (111, 111)] ⟨_, rfl, rfl⟩
  refine ss ?_
  cases hm1
  exact wk_cutw [(102, 102), (111, 111)] ⟨_, rfl, rfl⟩
 rintro _ ⟨x19, rfl, rfl⟩
 refine ss ?_
 obtain ⟨mu1, hm1, hm⟩ := obnd_o hm
 refine wc_cut' (fun st => ∃ (pos21 : ByteArray) (pos22 : Bool), mu1 = (pos21, pos22) ∧ st = ⟨[(1, .d (lst TVisit.ds l2)), (2, .p 102 0), (8, .d (lst Rng.ds y12)), (9, vB y14), (10, vI 0), (11, .p 111 0)], [(102, some (.box 29 [vI q1.Kind, .d (lst Rng.ds q1.Ranges), vS q1.Key, vI q1.Count])), (111, some (.box 40 [vS pos21, vB pos22]))]⟩) ?_ ?_
 ·refine wc_cs hm1 ?_ ?_ <;> clear hm1 <;> intro hm1
  ·refine sr ?_
   obtain ⟨e20, hy, hm1⟩ := obnd_o hm1
   refine wl_r (o_ixg (ys := [dI e20.View.Owner, dS e20.View.Interval.lo.key, dB e20.View.Interval.lo.top, dS e20.View.Interval.hi.key, dB e20.View.Interval.hi.top, dI e20.View.Stamp.Epoch, dI e20.View.Stamp.Version, lst Kv.ds e20.View.Rows, dS e20.Part.lo.key, dB e20.Part.lo.top, dS e20.Part.hi.key, dB e20.Part.hi.top]) hy rfl rfl rfl rfl) rfl rfl rfl ?_
   refine ss ?_
   cases hm1
   exact wk_cutw [(102, 102), (111, 111)] ⟨_, _, rfl, rfl⟩
  refine sx ?_
  cases hm1
  exact wk_cutw [(102, 102), (111, 111)] ⟨_, _, rfl, rfl⟩
 rintro _ ⟨pos21, pos22, rfl, rfl⟩
 refine sr ?_
 obtain ⟨mu1, hm1, hm⟩ := obnd_o hm
 refine wc_cut' (fun st => ∃ (at36 : Int), mu1 = Ctl.nxt at36 ∧ st = ⟨[(2, .p 102 0), (8, .d (lst Rng.ds y12)), (9, vB y14), (10, vI at36)], [(102, some (.box 29 [vI q1.Kind, .d (lst Rng.ds q1.Ranges), vS q1.Key, vI q1.Count]))]⟩) ?_ ?_
 ·refine wc_block ?_
  refine wc_len 80 rfl (fun hlenm28 => ?_)
  refine wc_loopw (fun κ st => ∃ (m28 : Nat) (at23 : Int) (pos24 : ByteArray) (pos25 : Bool), κ = l2.length - m28 ∧ m28 ≤ l2.length ∧ Mref28_Tiling_l2 y12 (l2.drop m28) at23 pos24 pos25 = some mu1 ∧ st = ⟨[(2, .p 102 0), (8, .d (lst Rng.ds y12)), (9, vB y14), (10, vI at23), (11, .p 111 0), (80, .d (lst TVisit.ds l2)), (81, vI (l2.length : Int)), (82, vI (m28 : Int))], [(102, some (.box 29 [vI q1.Kind, .d (lst Rng.ds q1.Ranges), vS q1.Key, vI q1.Count])), (111, some (.box 40 [vS pos24, vB pos25]))]⟩) [(102, 102), (111, 111)] ⟨0, _, _, _, rfl, Nat.zero_le _, hm1, rfl⟩ ?_
  rintro κ _ ⟨m28, at23, pos24, pos25, rfl, hlem28, hm1, rfl⟩
  rcases Nat.lt_or_ge m28 l2.length with hltm28 | hgem28
  ·obtain ⟨r26, hxm28, hdr⟩ := drop_c hltm28
   rw [hdr, Mref28_Tiling_l2.eq_2] at hm1
   refine sr ?_
   refine wc_seq ?_
   refine wc_cond_tt (lt_t hltm28) rfl ?_
   refine sx ?_
   refine sr ?_
   refine wl_r (o_ixm (ys := [dI r26.View.Owner, dS r26.View.Interval.lo.key, dB r26.View.Interval.lo.top, dS r26.View.Interval.hi.key, dB r26.View.Interval.hi.top, dI r26.View.Stamp.Epoch, dI r26.View.Stamp.Version, lst Kv.ds r26.View.Rows, dS r26.Part.lo.key, dB r26.Part.lo.top, dS r26.Part.hi.key, dB r26.Part.hi.top]) hxm28 rfl rfl rfl rfl) rfl rfl rfl ?_
   refine sr ?_
   refine wc_cs hm1 ?_ ?_ <;> clear hm1 <;> intro hm1
   ·refine sr ?_
    refine sx ?_
    cases hm1
    replace hm := ocbnd_r hm
    cases hm
    exact wk_r
   refine sr ?_
   obtain ⟨y29, hy, hm1⟩ := bnd_o hm1
   refine wl_cq (Mref1_Compare_sp (hm := hy)) ?_
   refine ss ?_
   refine wc_cs hm1 ?_ ?_ <;> clear hm1 <;> intro hm1
   ·refine sr ?_
    refine sx ?_
    cases hm1
    replace hm := ocbnd_r hm
    cases hm
    exact wk_r
   refine sr ?_
   obtain ⟨y30, hy, hm1⟩ := bnd_o hm1
   refine wl_cq (Mref1_Compare_sp (hm := hy)) ?_
   refine ss ?_
   refine wc_cs hm1 ?_ ?_ <;> clear hm1 <;> intro hm1
   ·refine sr ?_
    refine sx ?_
    cases hm1
    replace hm := ocbnd_r hm
    cases hm
    exact wk_r
   refine wc_seq ?_
   refine wc_draw (id := 29) [⟨0, 0, [13]⟩, ⟨1, 1, [106]⟩, ⟨2, 3, [107]⟩, ⟨3, 0, [8]⟩, ⟨4, 0, [10]⟩, ⟨5, 24, [109, 110]⟩, ⟨6, 56, [111]⟩, ⟨7, 120, [112]⟩, ⟨8, 255, [108, 113]⟩, ⟨9, 511, [114]⟩, ⟨10, 1023, [115]⟩] mixed (by kernel_rfl) ?_
   refine ss ?_
   obtain ⟨e31, hy, hm1⟩ := obnd_o hm1
   refine wd_r [] (o_ixg (ys := [dS e31.lo.key, dB e31.lo.top, dS e31.hi.key, dB e31.hi.top]) hy rfl rfl rfl rfl) rfl (by first | exact .no rfl | exact .y rfl rfl rfl rfl) rfl rfl ?_
   refine ss ?_
   obtain ⟨y32, hy, hm1⟩ := bnd_o hm1
   refine wd_cs (Mref1_Compare_sp (hm := hy)) rfl rfl rfl (by repeat (first | exact Vws.nil | apply Vws.cons | exact Vw.nil | exact Vw.d _ | exact Vw.q _ | apply Vw.a)) rfl rfl (by first | exact .no rfl | exact .y rfl rfl rfl rfl) rfl rfl rfl ?_
   refine ss ?_
   refine wc_cs hm1 ?_ ?_ <;> clear hm1 <;> intro hm1
   ·refine sr ?_
    refine sx ?_
    cases hm1
    replace hm := ocbnd_r hm
    cases hm
    exact wk_r
   refine sx ?_
   refine sr ?_
   refine wc_seq ?_
   refine wc_draw (id := 32) [⟨0, 0, [11]⟩, ⟨1, 0, [8]⟩, ⟨2, 0, [10]⟩, ⟨3, 6, [120, 121]⟩, ⟨4, 14, [122]⟩, ⟨5, 30, [123]⟩, ⟨6, 63, [119, 124]⟩, ⟨7, 127, [125]⟩] mixed (by kernel_rfl) ?_
   refine ss ?_
   obtain ⟨e33, hy, hm1⟩ := obnd_o hm1
   refine wd_r [] (o_ixg (ys := [dS e33.lo.key, dB e33.lo.top, dS e33.hi.key, dB e33.hi.top]) hy rfl rfl rfl rfl) rfl (by first | exact .no rfl | exact .y rfl rfl rfl rfl) rfl rfl ?_
   refine ss ?_
   obtain ⟨y34, hy, hm1⟩ := bnd_o hm1
   refine wd_cs (Mref1_Compare_sp (hm := hy)) rfl rfl rfl (by repeat (first | exact Vws.nil | apply Vws.cons | exact Vw.nil | exact Vw.d _ | exact Vw.q _ | apply Vw.a)) rfl rfl (by first | exact .no rfl | exact .y rfl rfl rfl rfl) rfl rfl rfl ?_
   refine ss ?_
   refine wc_cs hm1 ?_ ?_ <;> clear hm1 <;> intro hm1
   ·refine sr ?_
    refine wl_r (o_add rfl rfl rfl rfl) rfl rfl rfl ?_
    refine sr ?_
    refine wc_cs hm1 ?_ ?_ <;> clear hm1 <;> intro hm1
    ·refine sr ?_
     obtain ⟨e35, hy, hm1⟩ := obnd_o hm1
     refine wl_r (o_ixg (ys := [dS e35.lo.key, dB e35.lo.top, dS e35.hi.key, dB e35.hi.top]) hy rfl rfl rfl rfl) rfl rfl rfl ?_
     refine sr ?_
     refine wl_r (o_inc hltm28 hlenm28 rfl rfl rfl) rfl rfl rfl ?_
     refine ss ?_
     exact wk_loopw [(102, 102), (111, 111)] ⟨m28 + 1, _, _, _, rfl, hltm28, hm1, rfl⟩ (by omega)
    refine sx ?_
    refine sr ?_
    refine wl_r (o_inc hltm28 hlenm28 rfl rfl rfl) rfl rfl rfl ?_
    refine ss ?_
    exact wk_loopw [(102, 102), (111, 111)] ⟨m28 + 1, _, _, _, rfl, hltm28, hm1, rfl⟩ (by omega)
   refine sx ?_
   refine sr ?_
   refine wl_r (o_inc hltm28 hlenm28 rfl rfl rfl) rfl rfl rfl ?_
   refine ss ?_
   exact wk_loopw [(102, 102), (111, 111)] ⟨m28 + 1, _, _, _, rfl, hltm28, hm1, rfl⟩ (by omega)
  ·rw [drop_n hgem28, Mref28_Tiling_l2.eq_1] at hm1
   refine sr ?_
   refine wc_seq ?_
   refine wc_cond_ff (lt_f hgem28) rfl ?_
   refine wc_exit ?_
   refine ss ?_
   cases hm1
   exact wk_cutw [(102, 102)] ⟨_, rfl, rfl⟩
 rintro _ ⟨at36, rfl, rfl⟩
 replace hm := ocbnd_n hm
 refine sr ?_
 refine wl_sg hm ?_ ?_ <;> clear hm <;> intro hm
 ·refine ss ?_
  refine wl_sg hm ?_ ?_ <;> clear hm <;> intro hm
  ·refine ss ?_
   refine wc_cs hm ?_ ?_ <;> clear hm <;> intro hm
   ·refine sr ?_
    refine sx ?_
    cases hm
    exact wk_r
   refine sx ?_
   refine sr ?_
   refine sx ?_
   cases hm
   exact wk_r
  refine ss ?_
  refine wc_cs hm ?_ ?_ <;> clear hm <;> intro hm
  ·refine sr ?_
   refine sx ?_
   cases hm
   exact wk_r
  refine sx ?_
  refine sr ?_
  refine sx ?_
  cases hm
  exact wk_r
 refine ss ?_
 refine wc_cond_f rfl ?_
 refine sx ?_
 refine sr ?_
 refine sx ?_
 cases hm
 exact wk_r

def Mref28_Check (r1 : TReceipt) : Option (TAnswer × Int) :=
 obnd (Mref28_Tiling r1.Query r1.First) fun y2 =>
 sel (!decide (y2 = 0)) (
  some ((TAnswer.mk [] (TFold.mk 0 0 0 0 0 ⟨#[]⟩ ⟨#[]⟩)), y2)) (
  obnd (Mref28_Tiling r1.Query r1.Second) fun y3 =>
  sel (!decide (y3 = 0)) (
   some ((TAnswer.mk [] (TFold.mk 0 0 0 0 0 ⟨#[]⟩ ⟨#[]⟩)), y3)) (
   obnd (Mref28_SameVisits r1.First r1.Second) fun y4 =>
   sel (!y4) (
    some ((TAnswer.mk [] (TFold.mk 0 0 0 0 0 ⟨#[]⟩ ⟨#[]⟩)), 11)) (
    obnd (Mref28_Rows r1.First) fun y5 =>
    obnd (Mref22_Take r1.Query y5) fun y6 =>
    obnd (Mref21_Of y6) fun y7 =>
    some ((TAnswer.mk y6 y7), 0))))
theorem Mref28_Check_sp {r1 : TReceipt} {y : (TAnswer × Int)} (hm : Mref28_Check r1 = some y) : Spec Tryz.prog 28 [.a [vI r1.Query.Kind, .d (lst Rng.ds r1.Query.Ranges), vS r1.Query.Key, vI r1.Query.Count, .d (lst TVisit.ds r1.First), .d (lst TVisit.ds r1.Second)]] [] fun u h => u = .t [.a [.d (lst Kv.ds y.1.Rows), vI y.1.Fold.Count, vI y.1.Fold.Numbers, vI y.1.Fold.Sum, vI y.1.Fold.Low, vI y.1.Fold.High, vS y.1.Fold.First, vS y.1.Fold.Last], vI y.2] ∧ h = [] := by
 refine si Tryz.func28 Tryz.ntmps28 Tryz.results28 fun B w0 ρ0 => ?_
 unfold Mref28_Check at hm
 refine sr ?_
 refine sr ?_
 obtain ⟨y2, hy, hm⟩ := obnd_o hm
 refine wl_cq (Mref28_Tiling_sp (hm := hy)) ?_
 refine sr ?_
 refine wc_cs hm ?_ ?_ <;> clear hm <;> intro hm
 ·refine sr ?_
  refine sx ?_
  cases hm
  exact wk_r
 refine sx ?_
 refine sr ?_
 obtain ⟨y3, hy, hm⟩ := obnd_o hm
 refine wl_cq (Mref28_Tiling_sp (hm := hy)) ?_
 refine sr ?_
 refine wc_cs hm ?_ ?_ <;> clear hm <;> intro hm
 ·refine sr ?_
  refine sx ?_
  cases hm
  exact wk_r
 refine sx ?_
 refine sr ?_
 obtain ⟨y4, hy, hm⟩ := obnd_o hm
 refine wl_cq (Mref28_SameVisits_sp (hm := hy)) ?_
 refine ss ?_
 refine wc_cs hm ?_ ?_ <;> clear hm <;> intro hm
 ·refine sr ?_
  refine sx ?_
  cases hm
  exact wk_r
 refine sx ?_
 refine wc_seq ?_
 refine wc_draw (id := 9) [⟨0, 0, [1]⟩, ⟨1, 1, [32]⟩, ⟨2, 0, [1]⟩, ⟨3, 4, [34]⟩, ⟨4, 12, [35]⟩, ⟨5, 31, [33, 36]⟩, ⟨6, 63, [37]⟩] mixed (by kernel_rfl) ?_
 refine ss ?_
 obtain ⟨y5, hy, hm⟩ := obnd_o hm
 refine wd_cs (Mref28_Rows_sp (hm := hy)) rfl rfl rfl (by repeat (first | exact Vws.nil | apply Vws.cons | exact Vw.nil | exact Vw.d _ | exact Vw.q _ | apply Vw.a)) rfl rfl (by first | exact .no rfl | exact .y rfl rfl rfl rfl) rfl rfl rfl ?_
 refine ss ?_
 obtain ⟨y6, hy, hm⟩ := obnd_o hm
 refine wd_cs (Mref22_Take_sp (hm := hy)) rfl rfl rfl (by repeat (first | exact Vws.nil | apply Vws.cons | exact Vw.nil | exact Vw.d _ | exact Vw.q _ | apply Vw.a)) rfl rfl (by first | exact .no rfl | exact .y rfl rfl rfl rfl) rfl rfl rfl ?_
 refine sr ?_
 obtain ⟨y7, hy, hm⟩ := obnd_o hm
 refine wl_cq (Mref21_Of_sp (hm := hy)) ?_
 refine sx ?_
 cases hm
 exact wk_r

end Go.Proofs.YtohpjdeohpamaaaGreat
