/-
  Lemmas: Models and walks
-/
import Derived.Test.YtlbnhhfaedhgfaaGreatDoorPB22
set_option linter.unusedSimpArgs false
set_option linter.unusedVariables false
namespace Go.Proofs.YtlbnhhfaedhgfaaGreatDoor
open Go.RowKit
set_option maxRecDepth 100000
set_option maxHeartbeats 4000000
attribute [local irreducible] WK WC WL Wk Rel OpD OpV WD WO sel bnd obnd app lget lsl sget ssl scat letg iquo irem Op.bytesLess
attribute [local irreducible] qchk qranges union
def Mref28_Make_l1 : List TWalk → List TVisit → Option (List TVisit)
  | [], r4 =>
  some r4
  | r5 :: xs6, r4 =>
  obnd (app r4 r5.Visits) fun l8 =>
  Mref28_Make_l1 xs6 l8
def Mref28_Make_l2 : List TWalk → List TVisit → Option (List TVisit)
  | [], r10 =>
  some r10
  | r11 :: xs12, r10 =>
  obnd (app r10 r11.Visits) fun l14 =>
  Mref28_Make_l2 xs12 l14
def Mref28_Make (q1 : TQuery) (first2 : List TWalk) (second3 : List TWalk) : Option TReceipt :=
 obnd (
  Mref28_Make_l1 first2 [] : Option (List TVisit)) fun r9 =>
 obnd (
  Mref28_Make_l2 second3 [] : Option (List TVisit)) fun r15 =>
 some (TReceipt.mk q1 r9 r15)
theorem Mref28_Make_sp {q1 : TQuery} {first2 : List TWalk} {second3 : List TWalk} {y : TReceipt} (hm : Mref28_Make q1 first2 second3 = some y) : Spec Tryz.prog 59 [.a [vI q1.Kind, .d (lst Rng.ds q1.Ranges), vS q1.Key, vI q1.Count], .d (lst TWalk.ds first2), .d (lst TWalk.ds second3)] [] fun u h => u = .a [vI y.Query.Kind, .d (lst Rng.ds y.Query.Ranges), vS y.Query.Key, vI y.Query.Count, .d (lst TVisit.ds y.First), .d (lst TVisit.ds y.Second)] ∧ h = [] := by
 refine si Tryz.func59 Tryz.ntmps59 Tryz.results59 fun B w0 ρ0 => ?_
 unfold Mref28_Make at hm
 refine sr ?_
 refine sr ?_
 refine sr ?_
 obtain ⟨mu1, hm1, hm⟩ := obnd_o hm
 refine wc_cut' (fun st => ∃ (r9 : List TVisit), r9 = mu1 ∧ st = ⟨[(2, .d (lst TWalk.ds second3)), (6, .p 106 0), (7, .p 107 0)], [(106, some (.box 81 [vI 0, .d (.c (.slice none 0 0)), vS ⟨#[]⟩, vI 0, .d (.c (.slice none 0 0)), .d (.c (.slice none 0 0))])), (107, some (.box 81 [vI q1.Kind, .d (lst Rng.ds q1.Ranges), vS q1.Key, vI q1.Count, .d (lst TVisit.ds r9), .d (.c (.slice none 0 0))]))]⟩) ?_ ?_
 ·refine wc_block ?_
  refine wc_wk (wk_nilb 107 4 5001 62 12 rfl rfl rfl rfl) ?_
  refine wc_len 14 rfl (fun hlenm7 => ?_)
  refine wc_loopw (fun κ st => ∃ (m7 : Nat) (r4 : List TVisit), κ = first2.length - m7 ∧ m7 ≤ first2.length ∧ Mref28_Make_l1 (first2.drop m7) r4 = some mu1 ∧ st = ⟨[(2, .d (lst TWalk.ds second3)), (6, .p 106 0), (7, .p 107 0), (14, .d (lst TWalk.ds first2)), (15, vI (first2.length : Int)), (16, vI (m7 : Int))], [(106, some (.box 81 [vI 0, .d (.c (.slice none 0 0)), vS ⟨#[]⟩, vI 0, .d (.c (.slice none 0 0)), .d (.c (.slice none 0 0))])), (107, some (.box 81 [vI q1.Kind, .d (lst Rng.ds q1.Ranges), vS q1.Key, vI q1.Count, .h 5001, .d (.c (.slice none 0 0))])), (5001, some (arrT 62 12 TVisit.ds r4))]⟩) [(106, 106), (107, 107), (5001, 5001)] ⟨0, _, rfl, Nat.zero_le _, hm1, rfl⟩ ?_
  rintro κ _ ⟨m7, r4, rfl, hlem7, hm1, rfl⟩
  rcases Nat.lt_or_ge m7 first2.length with hltm7 | hgem7
  ·obtain ⟨r5, hxm7, hdr⟩ := drop_c hltm7
   rw [hdr, Mref28_Make_l1.eq_2] at hm1
   refine sr ?_
   refine wc_seq ?_
   refine wc_cond_tt (lt_t hltm7) rfl ?_
   refine sx ?_
   refine sr ?_
   refine wl_r (o_ixm (ys := [dI r5.Query.Kind, lst Rng.ds r5.Query.Ranges, dS r5.Query.Key, dI r5.Query.Count, lst Rng.ds r5.Todo, lst TVisit.ds r5.Visits]) hxm7 rfl rfl rfl rfl) rfl rfl rfl ?_
   refine sr ?_
   obtain ⟨l8, hy, hm1⟩ := obnd_o hm1
   refine wl_2 (n_app (k' := 124) hy rfl rfl rfl rfl rfl rfl rfl rfl) rfl rfl rfl rfl ?_
   refine sr ?_
   refine wl_r (o_inc hltm7 hlenm7 rfl rfl rfl) rfl rfl rfl ?_
   refine ss ?_
   exact wk_loopw [(106, 106), (107, 107), (5001, 124)] ⟨m7 + 1, _, rfl, hltm7, hm1, rfl⟩ (by omega)
  ·rw [drop_n hgem7, Mref28_Make_l1.eq_1] at hm1
   refine sr ?_
   refine wc_seq ?_
   refine wc_cond_ff (lt_f hgem7) rfl ?_
   refine wc_exit ?_
   refine ss ?_
   cases hm1
   exact wk_cutw [(106, 106), (107, 107)] ⟨_, rfl, rfl⟩
 rintro _ ⟨r9, rfl, rfl⟩
 refine sr ?_
 obtain ⟨mu1, hm1, hm⟩ := obnd_o hm
 refine wc_cut' (fun st => ∃ (r15 : List TVisit), r15 = mu1 ∧ st = ⟨[(6, .p 106 0), (7, .p 107 0)], [(106, some (.box 81 [vI 0, .d (.c (.slice none 0 0)), vS ⟨#[]⟩, vI 0, .d (.c (.slice none 0 0)), .d (.c (.slice none 0 0))])), (107, some (.box 81 [vI q1.Kind, .d (lst Rng.ds q1.Ranges), vS q1.Key, vI q1.Count, .d (lst TVisit.ds r9), .d (lst TVisit.ds r15)]))]⟩) ?_ ?_
 ·refine wc_block ?_
  refine wc_wk (wk_nilb 107 5 5002 62 12 rfl rfl rfl rfl) ?_
  refine wc_len 27 rfl (fun hlenm13 => ?_)
  refine wc_loopw (fun κ st => ∃ (m13 : Nat) (r10 : List TVisit), κ = second3.length - m13 ∧ m13 ≤ second3.length ∧ Mref28_Make_l2 (second3.drop m13) r10 = some mu1 ∧ st = ⟨[(6, .p 106 0), (7, .p 107 0), (27, .d (lst TWalk.ds second3)), (28, vI (second3.length : Int)), (29, vI (m13 : Int))], [(106, some (.box 81 [vI 0, .d (.c (.slice none 0 0)), vS ⟨#[]⟩, vI 0, .d (.c (.slice none 0 0)), .d (.c (.slice none 0 0))])), (107, some (.box 81 [vI q1.Kind, .d (lst Rng.ds q1.Ranges), vS q1.Key, vI q1.Count, .d (lst TVisit.ds r9), .h 5002])), (5002, some (arrT 62 12 TVisit.ds r10))]⟩) [(106, 106), (107, 107), (5002, 5002)] ⟨0, _, rfl, Nat.zero_le _, hm1, rfl⟩ ?_
  rintro κ _ ⟨m13, r10, rfl, hlem13, hm1, rfl⟩
  rcases Nat.lt_or_ge m13 second3.length with hltm13 | hgem13
  ·obtain ⟨r11, hxm13, hdr⟩ := drop_c hltm13
   rw [hdr, Mref28_Make_l2.eq_2] at hm1
   refine sr ?_
   refine wc_seq ?_
   refine wc_cond_tt (lt_t hltm13) rfl ?_
   refine sx ?_
   refine sr ?_
   refine wl_r (o_ixm (ys := [dI r11.Query.Kind, lst Rng.ds r11.Query.Ranges, dS r11.Query.Key, dI r11.Query.Count, lst Rng.ds r11.Todo, lst TVisit.ds r11.Visits]) hxm13 rfl rfl rfl rfl) rfl rfl rfl ?_
   refine sr ?_
   obtain ⟨l14, hy, hm1⟩ := obnd_o hm1
   refine wl_2 (n_app (k' := 137) hy rfl rfl rfl rfl rfl rfl rfl rfl) rfl rfl rfl rfl ?_
   refine sr ?_
   refine wl_r (o_inc hltm13 hlenm13 rfl rfl rfl) rfl rfl rfl ?_
   refine ss ?_
   exact wk_loopw [(106, 106), (107, 107), (5002, 137)] ⟨m13 + 1, _, rfl, hltm13, hm1, rfl⟩ (by omega)
  ·rw [drop_n hgem13, Mref28_Make_l2.eq_1] at hm1
   refine sr ?_
   refine wc_seq ?_
   refine wc_cond_ff (lt_f hgem13) rfl ?_
   refine wc_exit ?_
   refine ss ?_
   cases hm1
   exact wk_cutw [(106, 106), (107, 107)] ⟨_, rfl, rfl⟩
 rintro _ ⟨r15, rfl, rfl⟩
 refine sr ?_
 refine sx ?_
 cases hm
 exact wk_r

def Mref28_Tiling_l1 : List TVisit → Option (Ctl Int Unit)
  | [] =>
  some (Ctl.nxt ())
  | r4 :: xs5 =>
  obnd (
   obnd (Mref28_ValidView r4.View) fun y7 =>
   sel (!y7) (
    some true) (
    bnd (Mref1_Empty r4.Part) fun y8 =>
    sel y8 (
     some true) (
     bnd (Mref28_inside r4.Part r4.View.Interval) fun y9 =>
     some (!y9))) : Option Bool) fun x10 =>
  sel x10 (
   some (Ctl.ret 1)) (
   bnd (Mref20_Within r4.View.Rows r4.Part) fun y11 =>
   sel (!y11) (
    some (Ctl.ret 17)) (
    Mref28_Tiling_l1 xs5))
def Mref28_Tiling_l2 (y12 : List Rng) : List TVisit → Int → ByteArray → Bool → Option (Ctl Int Int)
  | [], at23, pos24, pos25 =>
  some (Ctl.nxt at23)
  | r26 :: xs27, at23, pos24, pos25 =>
  sel (decide (at23 = (y12.length : Int))) (
   some (Ctl.ret 2)) (
   bnd (Mref1_Compare r26.Part.lo (Bnd.mk pos24 pos25)) fun y29 =>
   sel (decide (0 < y29)) (
    some (Ctl.ret 9)) (
    bnd (Mref1_Compare r26.Part.lo (Bnd.mk pos24 pos25)) fun y30 =>
    sel (decide (y30 < 0)) (
     some (Ctl.ret 10)) (
     obnd (lget y12 at23) fun e31 =>
     bnd (Mref1_Compare r26.Part.hi e31.hi) fun y32 =>
     sel (decide (0 < y32)) (
      some (Ctl.ret 2)) (
      obnd (lget y12 at23) fun e33 =>
      bnd (Mref1_Compare r26.Part.hi e33.hi) fun y34 =>
      sel (decide (y34 = 0)) (
       sel (decide (i64w (at23 + 1) < (y12.length : Int))) (
        obnd (lget y12 (i64w (at23 + 1))) fun e35 =>
        Mref28_Tiling_l2 y12 xs27 (i64w (at23 + 1)) e35.lo.key e35.lo.top) (
        Mref28_Tiling_l2 y12 xs27 (i64w (at23 + 1)) r26.Part.hi.key r26.Part.hi.top)) (
       Mref28_Tiling_l2 y12 xs27 at23 r26.Part.hi.key r26.Part.hi.top)))))
def Mref28_Tiling (q1 : TQuery) (l2 : List TVisit) : Option Int :=
 bnd (Mref22_Check q1) fun y3 =>
 sel (!decide (y3 = 0)) (
  some y3) (
  obnd (
   Mref28_Tiling_l1 l2 : Option (Ctl Int Unit)) fun mu => ocbnd mu fun (_ : Unit) =>
  obnd (Mref22_Ranges q1) fun y12 =>
  obnd (Mref28_Rows l2) fun y13 =>
  bnd (Mref22_Enough q1 (y13.length : Int)) fun y14 =>
  obnd (
   sel (decide (0 < (y12.length : Int))) (
    obnd (lget y12 0) fun e15 =>
    some (e15.lo.key, e15.lo.top)) (
    some (⟨#[]⟩, false)) : Option (ByteArray × Bool)) fun (pos16, pos17) =>
  obnd (
   bnd (Mref22_Down q1) fun y18 =>
   sel y18 (
    sel y14 (
     some (decide (0 < (l2.length : Int)))) (
     some false)) (
    some false) : Option Bool) fun x19 =>
  obnd (
   sel x19 (
    obnd (lget l2 0) fun e20 =>
    some (e20.Part.lo.key, e20.Part.lo.top)) (
    some (pos16, pos17)) : Option (ByteArray × Bool)) fun (pos21, pos22) =>
  obnd (
   Mref28_Tiling_l2 y12 l2 0 pos21 pos22 : Option (Ctl Int Int)) fun mu => ocbnd mu fun at36 =>
  sel (decide (at36 < (y12.length : Int))) (
   sel (decide (q1.Kind = 3)) (
    sel (!y14) (
     some 9) (
     some 0)) (
    sel (!false) (
     some 9) (
     some 0))) (
   some 0))
def Mref28_Check (r1 : TReceipt) : Option (TAnswer × Int) :=
 obnd (Mref28_Tiling r1.Query r1.First) fun y2 =>
 sel (!decide (y2 = 0)) (
  some ((TAnswer.mk [] (TFold.mk 0 0 0 0 0 ⟨#[]⟩ ⟨#[]⟩)), y2)) (
  obnd (Mref28_Tiling r1.Query r1.Second) fun y3 =>
  sel (!decide (y3 = 0)) (
   some ((TAnswer.mk [] (TFold.mk 0 0 0 0 0 ⟨#[]⟩ ⟨#[]⟩)), y3)) (
   obnd (Mref28_SameVisits r1.First r1.Second) fun y4 =>
   sel (!y4) (
    some ((TAnswer.mk [] (TFold.mk 0 0 0 0 0 ⟨#[]⟩ ⟨#[]⟩)), 11)) (
    obnd (Mref28_Rows r1.First) fun y5 =>
    obnd (Mref22_Take r1.Query y5) fun y6 =>
    obnd (Mref21_Of y6) fun y7 =>
    some ((TAnswer.mk y6 y7), 0))))
end Go.Proofs.YtlbnhhfaedhgfaaGreatDoor
