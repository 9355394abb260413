/-
  Lemmas: Models and walks: whether receipts are small, and the functions agree.
-/
import Derived.Test.YtlbnhhfaedhgfaaGreatDoorPR28
import Derived.Test.YtlbnhhfaedhgfaaGreatDoorPR29
namespace Go.Proofs.YtlbnhhfaedhgfaaGreatDoor
set_option linter.unusedSimpArgs false
set_option linter.unusedVariables false
open Go.RowKit
set_option maxRecDepth 100000
set_option maxHeartbeats 4000000
attribute [local irreducible] WK WC WL Wk Rel OpD OpV WD WO sel bnd obnd app lget lsl sget ssl scat letg iquo irem Op.bytesLess
attribute [local irreducible] qchk qranges union
def Mlaw29_small_l1 : List TVisit → Ctl Bool Unit
  | [] =>
  Ctl.nxt ()
  | r2 :: xs3 =>
  sel (decide (40 < (r2.View.Rows.length : Int))) (
   Ctl.ret false) (
   Mlaw29_small_l1 xs3)
def Mlaw29_small (l1 : List TVisit) : Bool :=
 bnd (
  Mlaw29_small_l1 l1 : Ctl Bool Unit) fun mu => cbnd mu fun (_ : Unit) =>
 decide ((l1.length : Int) ≤ 20)
theorem Mlaw29_small_sp {l1 : List TVisit} {y : Bool} (hm : Mlaw29_small l1 = y) : Spec Tryz.prog 50 [.d (lst TVisit.ds l1)] [] fun u h => u = vB y ∧ h = [] := by
 refine Spec.intro Tryz.func50 rfl rfl Tryz.ntmps50 Tryz.results50 rfl fun B w0 ρ0 => ?_
 simp only [slots, List.map_nil, List.map_cons, Nat.reduceAdd]
 unfold Mlaw29_small at hm
 have hm0 := hm
 clear hm
 refine sr ?_
 refine sr ?_
 obtain ⟨mu1, hm1, hm0⟩ := bnd_o hm0
 refine wc_cut' (fun st => mu1 = Ctl.nxt () ∧ st = ⟨[(0, .d (lst TVisit.ds l1))], []⟩) ?_ ?_
 ·refine wc_block ?_
  refine wc_len 5 rfl (fun hlenm4 => ?_)
  refine wc_loopw (fun κ st => ∃ (m4 : Nat) , κ = l1.length - m4 ∧ m4 ≤ l1.length ∧ Mlaw29_small_l1 (l1.drop m4) = mu1 ∧ st = ⟨[(0, .d (lst TVisit.ds l1)), (5, .d (lst TVisit.ds l1)), (6, vI (l1.length : Int)), (7, vI (m4 : Int))], []⟩) [] ⟨0, rfl, Nat.zero_le _, hm1, rfl⟩ ?_
  rintro κ _ ⟨m4, rfl, hlem4, hm1, rfl⟩
  rcases Nat.lt_or_ge m4 l1.length with hltm4 | hgem4
  ·obtain ⟨r2, hxm4, hdr⟩ := drop_c hltm4
   rw [hdr, Mlaw29_small_l1.eq_2] at hm1
   refine sr ?_
   refine wc_seq ?_
   refine wc_cond_tt (lt_t hltm4) rfl ?_
   refine sx ?_
   refine sr ?_
   refine wl_r (o_ixm (ys := [dI r2.View.Owner, dS r2.View.Interval.lo.key, dB r2.View.Interval.lo.top, dS r2.View.Interval.hi.key, dB r2.View.Interval.hi.top, dI r2.View.Stamp.Epoch, dI r2.View.Stamp.Version, lst Kv.ds r2.View.Rows, dS r2.Part.lo.key, dB r2.Part.lo.top, dS r2.Part.hi.key, dB r2.Part.hi.top]) hxm4 rfl rfl rfl rfl) rfl rfl rfl ?_
   refine sr ?_
   refine wc_cs hm1 ?_ ?_ <;> clear hm1 <;> intro hm1
   ·refine sr ?_
    refine sx ?_
    subst hm1
    replace hm0 := cbnd_r hm0
    subst hm0
    exact wk_r
   refine sx ?_
   refine sr ?_
   refine wl_r (o_inc hltm4 hlenm4 rfl rfl rfl) rfl rfl rfl ?_
   refine ss ?_
   exact wk_loopw [] ⟨m4 + 1, rfl, hltm4, hm1, rfl⟩ (by omega)
  ·rw [drop_n hgem4, Mlaw29_small_l1.eq_1] at hm1
   refine sr ?_
   refine wc_seq ?_
   refine wc_cond_ff (lt_f hgem4) rfl ?_
   refine wc_exit ?_
   refine ss ?_
   subst hm1
   exact wk_cutw [] ⟨rfl, rfl⟩
 rintro _ ⟨rfl, rfl⟩
 replace hm0 := cbnd_n hm0
 refine sr ?_
 refine sx ?_
 subst hm0
 exact wk_r

def Mlaw29_agree_l1 (r1 : TReceipt) : List TVisit → Int → Option (Ctl Bool Unit)
  | [], i =>
  some (Ctl.nxt ())
  | r4 :: xs5, i =>
  sel (decide (i < (r1.Second.length : Int))) (
   obnd (lget r1.Second i) fun e7 =>
   obnd (lget r1.Second i) fun e8 =>
   obnd (Mreceipt_Same r4 e7) fun y9 =>
   obnd (Mref28_SameVisit r4 e8) fun y10 =>
   sel (!(y9 == y10)) (
    some (Ctl.ret false)) (
    Mlaw29_agree_l1 r1 xs5 (i + 1))) (
   Mlaw29_agree_l1 r1 xs5 (i + 1))
def Mlaw29_agree (r1 : TReceipt) : Option Bool :=
 obnd (Mreceipt_Check r1) fun y2 =>
 obnd (Mref28_Check r1) fun y3 =>
 obnd (
  Mlaw29_agree_l1 r1 r1.First 0 : Option (Ctl Bool Unit)) fun mu => ocbnd mu fun (_ : Unit) =>
 sel (decide (y2.2 = y3.2)) (
  obnd (Mref22_SameAnswer y2.1 y3.1) fun y11 =>
  sel y11 (
   obnd (Mreceipt_Tiling r1.Query r1.First) fun y12 =>
   obnd (Mref28_Tiling r1.Query r1.First) fun y13 =>
   sel (decide (y12 = y13)) (
    obnd (Mreceipt_Tiling r1.Query r1.Second) fun y14 =>
    obnd (Mref28_Tiling r1.Query r1.Second) fun y15 =>
    some (decide (y14 = y15))) (
    some false)) (
   some false)) (
  some false)
theorem Mlaw29_agree_sp {r1 : TReceipt} {y : Bool} (hm : Mlaw29_agree r1 = some y) : Spec Tryz.prog 46 [.a [vI r1.Query.Kind, .d (lst Rng.ds r1.Query.Ranges), vS r1.Query.Key, vI r1.Query.Count, .d (lst TVisit.ds r1.First), .d (lst TVisit.ds r1.Second)]] [] fun u h => u = vB y ∧ h = [] := by
 refine Spec.intro Tryz.func46 rfl rfl Tryz.ntmps46 Tryz.results46 rfl fun B w0 ρ0 => ?_
 simp only [slots, List.map_nil, List.map_cons, Nat.reduceAdd]
 unfold Mlaw29_agree at hm
 have hm0 := hm
 clear hm
 refine sr ?_
 refine sr ?_
 obtain ⟨y2, hy, hm0⟩ := obnd_o hm0
 refine wl_cq (Mreceipt_Check_sp (hm := hy)) ?_
 refine sr ?_
 obtain ⟨y3, hy, hm0⟩ := obnd_o hm0
 refine wl_cq (Mref28_Check_sp (hm := hy)) ?_
 refine sr ?_
 obtain ⟨mu1, hm1, hm0⟩ := obnd_o hm0
 refine wc_cut' (fun st => mu1 = Ctl.nxt () ∧ st = ⟨[(1, .p 101 0), (3, .p 103 0), (4, vI y2.2), (5, .p 105 0), (6, vI y3.2)], [(101, some (.box 81 [vI r1.Query.Kind, .d (lst Rng.ds r1.Query.Ranges), vS r1.Query.Key, vI r1.Query.Count, .d (lst TVisit.ds r1.First), .d (lst TVisit.ds r1.Second)])), (103, some (.box 75 [.d (lst Kv.ds y2.1.Rows), vI y2.1.Fold.Count, vI y2.1.Fold.Numbers, vI y2.1.Fold.Sum, vI y2.1.Fold.Low, vI y2.1.Fold.High, vS y2.1.Fold.First, vS y2.1.Fold.Last])), (105, some (.box 75 [.d (lst Kv.ds y3.1.Rows), vI y3.1.Fold.Count, vI y3.1.Fold.Numbers, vI y3.1.Fold.Sum, vI y3.1.Fold.Low, vI y3.1.Fold.High, vS y3.1.Fold.First, vS y3.1.Fold.Last]))]⟩) ?_ ?_
 ·refine wc_block ?_
  refine wc_len 20 rfl (fun hlenm6 => ?_)
  refine wc_loopw (fun κ st => ∃ (m6 : Nat) , κ = r1.First.length - m6 ∧ m6 ≤ r1.First.length ∧ Mlaw29_agree_l1 r1 (r1.First.drop m6) (m6 : Int) = some mu1 ∧ st = ⟨[(1, .p 101 0), (3, .p 103 0), (4, vI y2.2), (5, .p 105 0), (6, vI y3.2), (20, .d (lst TVisit.ds r1.First)), (21, vI (r1.First.length : Int)), (22, vI (m6 : Int))], [(101, some (.box 81 [vI r1.Query.Kind, .d (lst Rng.ds r1.Query.Ranges), vS r1.Query.Key, vI r1.Query.Count, .d (lst TVisit.ds r1.First), .d (lst TVisit.ds r1.Second)])), (103, some (.box 75 [.d (lst Kv.ds y2.1.Rows), vI y2.1.Fold.Count, vI y2.1.Fold.Numbers, vI y2.1.Fold.Sum, vI y2.1.Fold.Low, vI y2.1.Fold.High, vS y2.1.Fold.First, vS y2.1.Fold.Last])), (105, some (.box 75 [.d (lst Kv.ds y3.1.Rows), vI y3.1.Fold.Count, vI y3.1.Fold.Numbers, vI y3.1.Fold.Sum, vI y3.1.Fold.Low, vI y3.1.Fold.High, vS y3.1.Fold.First, vS y3.1.Fold.Last]))]⟩) [(101, 101), (103, 103), (105, 105)] ⟨0, rfl, Nat.zero_le _, hm1, rfl⟩ ?_
  rintro κ _ ⟨m6, rfl, hlem6, hm1, rfl⟩
  rcases Nat.lt_or_ge m6 r1.First.length with hltm6 | hgem6
  ·obtain ⟨r4, hxm6, hdr⟩ := drop_c hltm6
   rw [hdr, Mlaw29_agree_l1.eq_2] at hm1
   refine sr ?_
   refine wc_seq ?_
   refine wc_cond_tt (lt_t hltm6) rfl ?_
   refine sx ?_
   refine sr ?_
   refine wl_r (o_ixm (ys := [dI r4.View.Owner, dS r4.View.Interval.lo.key, dB r4.View.Interval.lo.top, dS r4.View.Interval.hi.key, dB r4.View.Interval.hi.top, dI r4.View.Stamp.Epoch, dI r4.View.Stamp.Version, lst Kv.ds r4.View.Rows, dS r4.Part.lo.key, dB r4.Part.lo.top, dS r4.Part.hi.key, dB r4.Part.hi.top]) hxm6 rfl rfl rfl rfl) rfl rfl rfl ?_
   refine ss ?_
   refine wc_seq ?_
   refine wc_draw (id := 6) [⟨0, 0, [7]⟩, ⟨1, 0, [1]⟩, ⟨2, 2, [28]⟩, ⟨3, 6, [29]⟩, ⟨4, 15, [27, 30]⟩, ⟨5, 31, [31]⟩, ⟨6, 63, [8, 32]⟩, ⟨7, 63, [1, 32]⟩, ⟨8, 191, [32, 34]⟩, ⟨9, 63, [7, 32]⟩, ⟨10, 959, [32, 35, 36]⟩, ⟨11, 1983, [32, 37]⟩, ⟨13, 63, [8, 32]⟩, ⟨14, 63, [1, 32]⟩, ⟨15, 16447, [32, 41]⟩, ⟨16, 63, [7, 32]⟩, ⟨17, 114751, [32, 42, 43]⟩, ⟨18, 245823, [32, 44]⟩, ⟨12, 4095, [32, 33, 38]⟩, ⟨19, 524287, [32, 40, 45]⟩, ⟨20, 1048575, [32, 39, 46]⟩, ⟨21, 2097151, [32, 47]⟩] mixed (by kernel_rfl) ?_
   refine ss ?_
   refine wd_gp rfl rfl rfl rfl (fun h => ?_) (fun h => ?_)
   ·replace hm1 := sel_t h hm1
    refine ss ?_
    obtain ⟨e7, hy, hm1⟩ := obnd_o hm1
    refine wd_r [] (o_ixg (ys := [dI e7.View.Owner, dS e7.View.Interval.lo.key, dB e7.View.Interval.lo.top, dS e7.View.Interval.hi.key, dB e7.View.Interval.hi.top, dI e7.View.Stamp.Epoch, dI e7.View.Stamp.Version, lst Kv.ds e7.View.Rows, dS e7.Part.lo.key, dB e7.Part.lo.top, dS e7.Part.hi.key, dB e7.Part.hi.top]) hy rfl rfl rfl rfl) rfl (by first | exact .no rfl | exact .y rfl rfl rfl rfl) rfl rfl ?_
    refine ss ?_
    obtain ⟨e8, hy, hm1⟩ := obnd_o hm1
    refine wd_r [] (o_ixg (ys := [dI e8.View.Owner, dS e8.View.Interval.lo.key, dB e8.View.Interval.lo.top, dS e8.View.Interval.hi.key, dB e8.View.Interval.hi.top, dI e8.View.Stamp.Epoch, dI e8.View.Stamp.Version, lst Kv.ds e8.View.Rows, dS e8.Part.lo.key, dB e8.Part.lo.top, dS e8.Part.hi.key, dB e8.Part.hi.top]) hy rfl rfl rfl rfl) rfl (by first | exact .no rfl | exact .y rfl rfl rfl rfl) rfl rfl ?_
    refine ss ?_
    obtain ⟨y9, hy, hm1⟩ := obnd_o hm1
    refine wd_cs (Mreceipt_Same_sp (hm := hy)) rfl rfl rfl (by repeat (first | exact Vws.nil | apply Vws.cons | exact Vw.nil | exact Vw.d _ | exact Vw.q _ | apply Vw.a)) rfl rfl (by first | exact .no rfl | exact .y rfl rfl rfl rfl) rfl rfl rfl ?_
    refine ss ?_
    obtain ⟨y10, hy, hm1⟩ := obnd_o hm1
    refine wd_cs (Mref28_SameVisit_sp (hm := hy)) rfl rfl rfl (by repeat (first | exact Vws.nil | apply Vws.cons | exact Vw.nil | exact Vw.d _ | exact Vw.q _ | apply Vw.a)) rfl rfl (by first | exact .no rfl | exact .y rfl rfl rfl rfl) rfl rfl rfl ?_
    refine ss ?_
    refine wc_cs hm1 ?_ ?_ <;> clear hm1 <;> intro hm1
    ·refine sr ?_
     refine sx ?_
     cases hm1
     replace hm0 := ocbnd_r hm0
     cases hm0
     exact wk_r
    refine sx ?_
    refine sr ?_
    refine wl_r (o_inc hltm6 hlenm6 rfl rfl rfl) rfl rfl rfl ?_
    refine ss ?_
    exact wk_loopw [(101, 101), (103, 103), (105, 105)] ⟨m6 + 1, rfl, hltm6, hm1, rfl⟩ (by omega)
   replace hm1 := sel_f h hm1
   refine ss ?_
   refine wc_cond_f rfl ?_
   refine sx ?_
   refine sr ?_
   refine wl_r (o_inc hltm6 hlenm6 rfl rfl rfl) rfl rfl rfl ?_
   refine ss ?_
   exact wk_loopw [(101, 101), (103, 103), (105, 105)] ⟨m6 + 1, rfl, hltm6, hm1, rfl⟩ (by omega)
  ·rw [drop_n hgem6, Mlaw29_agree_l1.eq_1] at hm1
   refine sr ?_
   refine wc_seq ?_
   refine wc_cond_ff (lt_f hgem6) rfl ?_
   refine wc_exit ?_
   refine ss ?_
   cases hm1
   exact wk_cutw [(101, 101), (103, 103), (105, 105)] ⟨rfl, rfl⟩
 rintro _ ⟨rfl, rfl⟩
 replace hm0 := ocbnd_n hm0
 refine ss ?_
 refine wc_seq ?_
 refine wc_draw (id := 9) [⟨0, 0, [4]⟩, ⟨1, 0, [6]⟩, ⟨2, 3, [50, 51]⟩, ⟨3, 7, [52]⟩, ⟨4, 15, [3, 53]⟩, ⟨5, 15, [5, 53]⟩, ⟨6, 63, [53, 54, 55]⟩, ⟨7, 127, [53, 56]⟩, ⟨8, 255, [57]⟩, ⟨9, 511, [1, 58]⟩, ⟨10, 1023, [58, 59]⟩, ⟨11, 511, [1, 58]⟩, ⟨12, 2559, [58, 61]⟩, ⟨14, 511, [1, 58]⟩, ⟨15, 16895, [58, 64]⟩, ⟨16, 511, [1, 58]⟩, ⟨17, 66047, [58, 66]⟩, ⟨13, 8191, [58, 60, 62]⟩, ⟨18, 262143, [58, 65, 67]⟩, ⟨19, 524287, [58, 63, 68]⟩, ⟨20, 1048575, [58, 69]⟩, ⟨21, 2097151, [70]⟩, ⟨22, 4194303, [1, 71]⟩, ⟨23, 8388607, [71, 72]⟩, ⟨24, 4194303, [1, 71]⟩, ⟨25, 20971519, [71, 74]⟩, ⟨27, 4194303, [1, 71]⟩, ⟨28, 138412031, [71, 77]⟩, ⟨29, 4194303, [1, 71]⟩, ⟨30, 541065215, [71, 79]⟩, ⟨26, 67108863, [71, 73, 75]⟩, ⟨31, 2147483647, [71, 78, 80]⟩, ⟨32, 4294967295, [71, 76, 81]⟩, ⟨33, 8589934591, [71, 82]⟩, ⟨34, 17179869183, [83]⟩] mixed (by kernel_rfl) ?_
 refine ss ?_
 refine wd_gp rfl rfl rfl rfl (fun h => ?_) (fun h => ?_)
 ·replace hm0 := sel_t h hm0
  refine ss ?_
  obtain ⟨y11, hy, hm0⟩ := obnd_o hm0
  refine wd_cs (Mref22_SameAnswer_sp (hm := hy)) rfl rfl rfl (by repeat (first | exact Vws.nil | apply Vws.cons | exact Vw.nil | exact Vw.d _ | exact Vw.q _ | apply Vw.a)) rfl rfl (by first | exact .no rfl | exact .y rfl rfl rfl rfl) rfl rfl rfl ?_
  refine ss ?_
  refine wd_gp rfl rfl rfl rfl (fun h => ?_) (fun h => ?_)
  ·replace hm0 := sel_t h hm0
   refine ss ?_
   obtain ⟨y12, hy, hm0⟩ := obnd_o hm0
   refine wd_cs (Mreceipt_Tiling_sp (hm := hy)) rfl rfl rfl (by repeat (first | exact Vws.nil | apply Vws.cons | exact Vw.nil | exact Vw.d _ | exact Vw.q _ | apply Vw.a)) rfl rfl (by first | exact .no rfl | exact .y rfl rfl rfl rfl) rfl rfl rfl ?_
   refine ss ?_
   obtain ⟨y13, hy, hm0⟩ := obnd_o hm0
   refine wd_cs (Mref28_Tiling_sp (hm := hy)) rfl rfl rfl (by repeat (first | exact Vws.nil | apply Vws.cons | exact Vw.nil | exact Vw.d _ | exact Vw.q _ | apply Vw.a)) rfl rfl (by first | exact .no rfl | exact .y rfl rfl rfl rfl) rfl rfl rfl ?_
   refine ss ?_
   refine wd_gp rfl rfl rfl rfl (fun h => ?_) (fun h => ?_)
   ·replace hm0 := sel_t h hm0
    refine ss ?_
    obtain ⟨y14, hy, hm0⟩ := obnd_o hm0
    refine wd_cs (Mreceipt_Tiling_sp (hm := hy)) rfl rfl rfl (by repeat (first | exact Vws.nil | apply Vws.cons | exact Vw.nil | exact Vw.d _ | exact Vw.q _ | apply Vw.a)) rfl rfl (by first | exact .no rfl | exact .y rfl rfl rfl rfl) rfl rfl rfl ?_
    refine ss ?_
    obtain ⟨y15, hy, hm0⟩ := obnd_o hm0
    refine wd_cs (Mref28_Tiling_sp (hm := hy)) rfl rfl rfl (by repeat (first | exact Vws.nil | apply Vws.cons | exact Vw.nil | exact Vw.d _ | exact Vw.q _ | apply Vw.a)) rfl rfl (by first | exact .no rfl | exact .y rfl rfl rfl rfl) rfl rfl rfl ?_
    refine sx ?_
    cases hm0
    exact wk_r
   replace hm0 := sel_f h hm0
   refine sx ?_
   cases hm0
   exact wk_r
  replace hm0 := sel_f h hm0
  refine sx ?_
  cases hm0
  exact wk_r
 replace hm0 := sel_f h hm0
 refine sx ?_
 cases hm0
 exact wk_r

end Go.Proofs.YtlbnhhfaedhgfaaGreatDoor
