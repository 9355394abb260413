/-
  Lemmas: Models and walks
-/
import Derived.Test.YtohpjdeohpamaaaGreatPA22
import Derived.Test.YtohpjdeohpamaaaGreatPA19
set_option linter.unusedSimpArgs false
set_option linter.unusedVariables false
namespace Go.Proofs.YtohpjdeohpamaaaGreat
open Go.RowKit
set_option maxRecDepth 100000
set_option maxHeartbeats 4000000
attribute [local irreducible] WK WC WL Wk Rel OpD OpV WD WO sel bnd obnd app lget lsl sget ssl scat letg iquo irem Op.bytesLess
attribute [local irreducible] qchk qranges union
def Mwalk_Inside (outer1 : Rng) (inner2 : Rng) : Bool :=
 bnd (Mkeyspace_Empty outer1) fun y3 =>
 sel (!y3) (
  bnd (Mkeyspace_Compare outer1.lo inner2.lo) fun y4 =>
  sel (decide (y4 ≤ 0)) (
   bnd (Mkeyspace_Compare inner2.hi outer1.hi) fun y5 =>
   decide (y5 ≤ 0)) (
   false)) (
  false)
theorem Mwalk_Inside_sp {outer1 : Rng} {inner2 : Rng} {y : Bool} (hm : Mwalk_Inside outer1 inner2 = y) : Spec Tryz.prog 55 [.a [vS outer1.lo.key, vB outer1.lo.top, vS outer1.hi.key, vB outer1.hi.top], .a [vS inner2.lo.key, vB inner2.lo.top, vS inner2.hi.key, vB inner2.hi.top]] [] fun u h => u = vB y ∧ h = [] := by
 refine si Tryz.func55 Tryz.ntmps55 Tryz.results55 fun B w0 ρ0 => ?_
 unfold Mwalk_Inside at hm
 refine sr ?_
 refine sr ?_
 obtain ⟨y3, hy, hm⟩ := bnd_o hm
 refine wl_cq (Mkeyspace_Empty_sp (hm := hy)) ?_
 refine ss ?_
 refine wl_sg hm ?_ ?_ <;> clear hm <;> intro hm
 ·refine ss ?_
  obtain ⟨y4, hy, hm⟩ := bnd_o hm
  refine wl_cq (Mkeyspace_Compare_sp (hm := hy)) ?_
  refine ss ?_
  refine wl_sg hm ?_ ?_ <;> clear hm <;> intro hm
  ·refine ss ?_
   obtain ⟨y5, hy, hm⟩ := bnd_o hm
   refine wl_cq (Mkeyspace_Compare_sp (hm := hy)) ?_
   refine sx ?_
   subst hm
   exact wk_r
  refine sx ?_
  subst hm
  exact wk_r
 refine sx ?_
 subst hm
 exact wk_r

def Mwalk_Rows_l1 : List TVisit → List Kv → Option (List Kv)
  | [], out2 =>
  some out2
  | r3 :: xs4, out2 =>
  obnd (app out2 r3.View.Rows) fun l6 =>
  Mwalk_Rows_l1 xs4 l6
def Mwalk_Rows (w1 : TWalk) : Option (List Kv) :=
 obnd (
  Mwalk_Rows_l1 w1.Visits [] : Option (List Kv)) fun out7 =>
 some out7
theorem Mwalk_Rows_sp {w1 : TWalk} {y : List Kv} (hm : Mwalk_Rows w1 = some y) : Spec Tryz.prog 63 [.a [vI w1.Query.Kind, .d (lst Rng.ds w1.Query.Ranges), vS w1.Query.Key, vI w1.Query.Count, .d (lst Rng.ds w1.Todo), .d (lst TVisit.ds w1.Visits)]] [] fun u h => u = .d (lst Kv.ds y) ∧ h = [] := by
 refine si Tryz.func63 Tryz.ntmps63 Tryz.results63 fun B w0 ρ0 => ?_
 unfold Mwalk_Rows at hm
 refine sr ?_
 refine sr ?_
 refine sr ?_
 obtain ⟨mu1, hm1, hm⟩ := obnd_o hm
 refine wc_cut' (fun st => ∃ (out7 : List Kv), out7 = mu1 ∧ st = ⟨[(3, .d (lst Kv.ds out7))], []⟩) ?_ ?_
 ·refine wc_block ?_
  refine wc_wk (wk_nil 3 5001 54 2 rfl rfl) ?_
  refine wc_len 7 rfl (fun hlenm5 => ?_)
  refine wc_loopw (fun κ st => ∃ (m5 : Nat) (out2 : List Kv), κ = w1.Visits.length - m5 ∧ m5 ≤ w1.Visits.length ∧ Mwalk_Rows_l1 (w1.Visits.drop m5) out2 = some mu1 ∧ st = ⟨[(3, .h 5001), (7, .d (lst TVisit.ds w1.Visits)), (8, vI (w1.Visits.length : Int)), (9, vI (m5 : Int))], [(5001, some (arrT 54 2 Kv.ds out2))]⟩) [(5001, 5001)] ⟨0, _, rfl, Nat.zero_le _, hm1, rfl⟩ ?_
  rintro κ _ ⟨m5, out2, rfl, hlem5, hm1, rfl⟩
  rcases Nat.lt_or_ge m5 w1.Visits.length with hltm5 | hgem5
  ·obtain ⟨r3, hxm5, hdr⟩ := drop_c hltm5
   rw [hdr, Mwalk_Rows_l1.eq_2] at hm1
   refine sr ?_
   refine wc_seq ?_
   refine wc_cond_tt (lt_t hltm5) rfl ?_
   refine sx ?_
   refine sr ?_
   refine wl_r (o_ixm (ys := [dI r3.View.Owner, dS r3.View.Interval.lo.key, dB r3.View.Interval.lo.top, dS r3.View.Interval.hi.key, dB r3.View.Interval.hi.top, dI r3.View.Stamp.Epoch, dI r3.View.Stamp.Version, lst Kv.ds r3.View.Rows, dS r3.Part.lo.key, dB r3.Part.lo.top, dS r3.Part.hi.key, dB r3.Part.hi.top]) hxm5 rfl rfl rfl rfl) rfl rfl rfl ?_
   refine sr ?_
   obtain ⟨l6, hy, hm1⟩ := obnd_o hm1
   refine wl_2 (n_app (k' := 117) hy rfl rfl rfl rfl rfl rfl rfl rfl) rfl rfl rfl rfl ?_
   refine sr ?_
   refine wl_r (o_inc hltm5 hlenm5 rfl rfl rfl) rfl rfl rfl ?_
   refine ss ?_
   exact wk_loopw [(5001, 117)] ⟨m5 + 1, _, rfl, hltm5, hm1, rfl⟩ (by omega)
  ·rw [drop_n hgem5, Mwalk_Rows_l1.eq_1] at hm1
   refine sr ?_
   refine wc_seq ?_
   refine wc_cond_ff (lt_f hgem5) rfl ?_
   refine wc_exit ?_
   refine ss ?_
   cases hm1
   exact wk_cutw [] ⟨_, rfl, rfl⟩
 rintro _ ⟨out7, rfl, rfl⟩
 refine sr ?_
 refine sx ?_
 cases hm
 exact wk_r

def Mwalk_ValidView (v1 : TView) : Option Bool :=
 sel (decide (1 ≤ v1.Owner)) (
  sel (decide (v1.Owner ≤ 2147483647)) (
   bnd (Mkeyspace_Empty v1.Interval) fun y2 =>
   sel (!y2) (
    bnd (Mstamp_Valid v1.Stamp) fun y3 =>
    sel y3 (
     obnd (Mtable_Valid v1.Rows) fun y4 =>
     sel y4 (
      obnd (Mtable_Slice v1.Rows v1.Interval) fun y5 =>
      some (decide ((y5.length : Int) = (v1.Rows.length : Int)))) (
      some false)) (
     some false)) (
    some false)) (
   some false)) (
  some false)
theorem Mwalk_ValidView_sp {v1 : TView} {y : Bool} (hm : Mwalk_ValidView v1 = some y) : Spec Tryz.prog 53 [.a [vI v1.Owner, vS v1.Interval.lo.key, vB v1.Interval.lo.top, vS v1.Interval.hi.key, vB v1.Interval.hi.top, vI v1.Stamp.Epoch, vI v1.Stamp.Version, .d (lst Kv.ds v1.Rows)]] [] fun u h => u = vB y ∧ h = [] := by
 refine si Tryz.func53 Tryz.ntmps53 Tryz.results53 fun B w0 ρ0 => ?_
 unfold Mwalk_ValidView at hm
 refine sr ?_
 refine wc_seq ?_
 refine wc_draw (id := 1) [⟨0, 0, [1]⟩, ⟨1, 1, [3]⟩, ⟨2, 3, [4]⟩, ⟨3, 7, [5]⟩, ⟨4, 15, [1, 6]⟩, ⟨5, 31, [6, 7]⟩, ⟨6, 63, [6, 8]⟩, ⟨7, 127, [6, 9]⟩, ⟨8, 255, [10]⟩, ⟨9, 511, [1, 11]⟩, ⟨10, 1023, [11, 12]⟩, ⟨11, 2047, [11, 13]⟩, ⟨12, 4095, [11, 14]⟩, ⟨13, 8191, [11, 15]⟩, ⟨14, 16383, [16]⟩, ⟨15, 32767, [1, 17]⟩, ⟨16, 65535, [17, 18]⟩, ⟨17, 131071, [17, 19]⟩, ⟨18, 262143, [17, 20]⟩, ⟨19, 524287, [21]⟩, ⟨20, 1048575, [1, 22]⟩, ⟨21, 2097151, [22, 23]⟩, ⟨22, 4194303, [22, 24]⟩, ⟨23, 8388607, [22, 25]⟩, ⟨24, 16777215, [26]⟩, ⟨25, 33554431, [1, 27]⟩, ⟨26, 67108863, [27, 28]⟩, ⟨27, 33554431, [1, 27]⟩, ⟨28, 167772159, [27, 30]⟩, ⟨31, 33554431, [1, 27]⟩, ⟨32, 2181038079, [27, 34]⟩, ⟨33, 6476005375, [27, 35]⟩, ⟨29, 536870911, [27, 29, 31]⟩, ⟨30, 1073741823, [27, 32]⟩, ⟨34, 17179869183, [27, 33, 36]⟩, ⟨35, 34359738367, [27, 37]⟩, ⟨36, 68719476735, [38]⟩] mixed (by kernel_rfl) ?_
 refine ss ?_
 refine wd_gp rfl rfl rfl rfl (fun h => ?_) (fun h => ?_)
 ·replace hm := sel_t h hm
  refine ss ?_
  refine wd_gp rfl rfl rfl rfl (fun h => ?_) (fun h => ?_)
  ·replace hm := sel_t h hm
   refine ss ?_
   obtain ⟨y2, hy, hm⟩ := bnd_o hm
   refine wd_cs (Mkeyspace_Empty_sp (hm := hy)) rfl rfl rfl (by repeat (first | exact Vws.nil | apply Vws.cons | exact Vw.nil | exact Vw.d _ | exact Vw.q _ | apply Vw.a)) rfl rfl (by first | exact .no rfl | exact .y rfl rfl rfl rfl) rfl rfl rfl ?_
   refine ss ?_
   refine wd_gp rfl rfl rfl rfl (fun h => ?_) (fun h => ?_)
   ·replace hm := sel_t h hm
    refine ss ?_
    obtain ⟨y3, hy, hm⟩ := bnd_o hm
    refine wd_cs (Mstamp_Valid_sp (hm := hy)) rfl rfl rfl (by repeat (first | exact Vws.nil | apply Vws.cons | exact Vw.nil | exact Vw.d _ | exact Vw.q _ | apply Vw.a)) rfl rfl (by first | exact .no rfl | exact .y rfl rfl rfl rfl) rfl rfl rfl ?_
    refine ss ?_
    refine wd_gp rfl rfl rfl rfl (fun h => ?_) (fun h => ?_)
    ·replace hm := sel_t h hm
     refine ss ?_
     obtain ⟨y4, hy, hm⟩ := obnd_o hm
     refine wd_cs (Mtable_Valid_sp (hm := hy)) rfl rfl rfl (by repeat (first | exact Vws.nil | apply Vws.cons | exact Vw.nil | exact Vw.d _ | exact Vw.q _ | apply Vw.a)) rfl rfl (by first | exact .no rfl | exact .y rfl rfl rfl rfl) rfl rfl rfl ?_
     refine ss ?_
     refine wd_gp rfl rfl rfl rfl (fun h => ?_) (fun h => ?_)
     ·replace hm := sel_t h hm
      refine ss ?_
      obtain ⟨y5, hy, hm⟩ := obnd_o hm
      refine wd_cs (Mtable_Slice_sp (hm := hy)) rfl rfl rfl (by repeat (first | exact Vws.nil | apply Vws.cons | exact Vw.nil | exact Vw.d _ | exact Vw.q _ | apply Vw.a)) rfl rfl (by first | exact .no rfl | exact .y rfl rfl rfl rfl) rfl rfl rfl ?_
      refine sx ?_
      cases hm
      exact wk_r
     replace hm := sel_f h hm
     refine sx ?_
     cases hm
     exact wk_r
    replace hm := sel_f h hm
    refine sx ?_
    cases hm
    exact wk_r
   replace hm := sel_f h hm
   refine sx ?_
   cases hm
   exact wk_r
  replace hm := sel_f h hm
  refine sx ?_
  cases hm
  exact wk_r
 replace hm := sel_f h hm
 refine sx ?_
 cases hm
 exact wk_r

end Go.Proofs.YtohpjdeohpamaaaGreat
