/-
  Lemmas: Models and walks
-/
import Derived.Test.YtohpjdeohpamaaaGreatPA22
import Derived.Test.YtohpjdeohpamaaaGreatPA19
set_option linter.unusedSimpArgs false
set_option linter.unusedVariables false
namespace Go.Proofs.YtohpjdeohpamaaaGreat
open Go.RowKit
set_option maxRecDepth 100000
set_option maxHeartbeats 4000000
attribute [local irreducible] WK WC WL Wk Rel OpD OpV WD WO sel bnd obnd app lget lsl sget ssl scat letg iquo irem Op.bytesLess
attribute [local irreducible] qchk qranges union
def Mref28_inside (a1 : Rng) (r2 : Rng) : Bool :=
 bnd (Mref1_Compare r2.lo a1.lo) fun y3 =>
 sel (decide (y3 ≤ 0)) (
  bnd (Mref1_Compare a1.hi r2.hi) fun y4 =>
  sel (decide (y4 ≤ 0)) (
   bnd (Mref1_Empty r2) fun y5 =>
   !y5) (
   false)) (
  false)
theorem Mref28_inside_sp {a1 : Rng} {r2 : Rng} {y : Bool} (hm : Mref28_inside a1 r2 = y) : Spec Tryz.prog 69 [.a [vS a1.lo.key, vB a1.lo.top, vS a1.hi.key, vB a1.hi.top], .a [vS r2.lo.key, vB r2.lo.top, vS r2.hi.key, vB r2.hi.top]] [] fun u h => u = vB y ∧ h = [] := by
 refine si Tryz.func69 Tryz.ntmps69 Tryz.results69 fun B w0 ρ0 => ?_
 unfold Mref28_inside at hm
 refine sr ?_
 refine sr ?_
 obtain ⟨y3, hy, hm⟩ := bnd_o hm
 refine wl_cq (Mref1_Compare_sp (hm := hy)) ?_
 refine ss ?_
 refine wl_sg hm ?_ ?_ <;> clear hm <;> intro hm
 ·refine ss ?_
  obtain ⟨y4, hy, hm⟩ := bnd_o hm
  refine wl_cq (Mref1_Compare_sp (hm := hy)) ?_
  refine ss ?_
  refine wl_sg hm ?_ ?_ <;> clear hm <;> intro hm
  ·refine ss ?_
   obtain ⟨y5, hy, hm⟩ := bnd_o hm
   refine wl_cq (Mref1_Empty_sp (hm := hy)) ?_
   refine sx ?_
   subst hm
   exact wk_r
  refine sx ?_
  subst hm
  exact wk_r
 refine sx ?_
 subst hm
 exact wk_r

def Mref28_Rows_l1 : List TVisit → List Kv → Option (List Kv)
  | [], out2 =>
  some out2
  | r3 :: xs4, out2 =>
  obnd (app out2 r3.View.Rows) fun l6 =>
  Mref28_Rows_l1 xs4 l6
def Mref28_Rows (l1 : List TVisit) : Option (List Kv) :=
 obnd (
  Mref28_Rows_l1 l1 [] : Option (List Kv)) fun out7 =>
 some out7
theorem Mref28_Rows_sp {l1 : List TVisit} {y : List Kv} (hm : Mref28_Rows l1 = some y) : Spec Tryz.prog 45 [.d (lst TVisit.ds l1)] [] fun u h => u = .d (lst Kv.ds y) ∧ h = [] := by
 refine si Tryz.func45 Tryz.ntmps45 Tryz.results45 fun B w0 ρ0 => ?_
 unfold Mref28_Rows at hm
 refine sr ?_
 refine sr ?_
 refine sr ?_
 obtain ⟨mu1, hm1, hm⟩ := obnd_o hm
 refine wc_cut' (fun st => ∃ (out7 : List Kv), out7 = mu1 ∧ st = ⟨[(3, .d (lst Kv.ds out7))], []⟩) ?_ ?_
 ·refine wc_block ?_
  refine wc_wk (wk_nil 3 5001 54 2 rfl rfl) ?_
  refine wc_len 6 rfl (fun hlenm5 => ?_)
  refine wc_loopw (fun κ st => ∃ (m5 : Nat) (out2 : List Kv), κ = l1.length - m5 ∧ m5 ≤ l1.length ∧ Mref28_Rows_l1 (l1.drop m5) out2 = some mu1 ∧ st = ⟨[(3, .h 5001), (6, .d (lst TVisit.ds l1)), (7, vI (l1.length : Int)), (8, vI (m5 : Int))], [(5001, some (arrT 54 2 Kv.ds out2))]⟩) [(5001, 5001)] ⟨0, _, rfl, Nat.zero_le _, hm1, rfl⟩ ?_
  rintro κ _ ⟨m5, out2, rfl, hlem5, hm1, rfl⟩
  rcases Nat.lt_or_ge m5 l1.length with hltm5 | hgem5
  ·obtain ⟨r3, hxm5, hdr⟩ := drop_c hltm5
   rw [hdr, Mref28_Rows_l1.eq_2] at hm1
   refine sr ?_
   refine wc_seq ?_
   refine wc_cond_tt (lt_t hltm5) rfl ?_
   refine sx ?_
   refine sr ?_
   refine wl_r (o_ixm (ys := [dI r3.View.Owner, dS r3.View.Interval.lo.key, dB r3.View.Interval.lo.top, dS r3.View.Interval.hi.key, dB r3.View.Interval.hi.top, dI r3.View.Stamp.Epoch, dI r3.View.Stamp.Version, lst Kv.ds r3.View.Rows, dS r3.Part.lo.key, dB r3.Part.lo.top, dS r3.Part.hi.key, dB r3.Part.hi.top]) hxm5 rfl rfl rfl rfl) rfl rfl rfl ?_
   refine sr ?_
   obtain ⟨l6, hy, hm1⟩ := obnd_o hm1
   refine wl_2 (n_app (k' := 116) hy rfl rfl rfl rfl rfl rfl rfl rfl) rfl rfl rfl rfl ?_
   refine sr ?_
   refine wl_r (o_inc hltm5 hlenm5 rfl rfl rfl) rfl rfl rfl ?_
   refine ss ?_
   exact wk_loopw [(5001, 116)] ⟨m5 + 1, _, rfl, hltm5, hm1, rfl⟩ (by omega)
  ·rw [drop_n hgem5, Mref28_Rows_l1.eq_1] at hm1
   refine sr ?_
   refine wc_seq ?_
   refine wc_cond_ff (lt_f hgem5) rfl ?_
   refine wc_exit ?_
   refine ss ?_
   cases hm1
   exact wk_cutw [] ⟨_, rfl, rfl⟩
 rintro _ ⟨out7, rfl, rfl⟩
 refine sr ?_
 refine sx ?_
 cases hm
 exact wk_r

def Mref28_ValidView (v1 : TView) : Option Bool :=
 bnd (Mref24_Number v1.Owner) fun y2 =>
 sel y2 (
  bnd (Mref1_Empty v1.Interval) fun y3 =>
  sel (!y3) (
   bnd (Mref23_Valid v1.Stamp) fun y4 =>
   sel y4 (
    obnd (Mref20_Valid v1.Rows) fun y5 =>
    sel y5 (
     bnd (Mref20_Within v1.Rows v1.Interval) fun y6 =>
     some y6) (
     some false)) (
    some false)) (
   some false)) (
  some false)
theorem Mref28_ValidView_sp {v1 : TView} {y : Bool} (hm : Mref28_ValidView v1 = some y) : Spec Tryz.prog 67 [.a [vI v1.Owner, vS v1.Interval.lo.key, vB v1.Interval.lo.top, vS v1.Interval.hi.key, vB v1.Interval.hi.top, vI v1.Stamp.Epoch, vI v1.Stamp.Version, .d (lst Kv.ds v1.Rows)]] [] fun u h => u = vB y ∧ h = [] := by
 refine si Tryz.func67 Tryz.ntmps67 Tryz.results67 fun B w0 ρ0 => ?_
 unfold Mref28_ValidView at hm
 refine sr ?_
 refine sr ?_
 obtain ⟨y2, hy, hm⟩ := bnd_o hm
 refine wl_cq (Mref24_Number_sp (hm := hy)) ?_
 refine ss ?_
 refine wl_sg hm ?_ ?_ <;> clear hm <;> intro hm
 ·refine ss ?_
  obtain ⟨y3, hy, hm⟩ := bnd_o hm
  refine wl_cq (Mref1_Empty_sp (hm := hy)) ?_
  refine ss ?_
  refine wl_sg hm ?_ ?_ <;> clear hm <;> intro hm
  ·refine ss ?_
   obtain ⟨y4, hy, hm⟩ := bnd_o hm
   refine wl_cq (Mref23_Valid_sp (hm := hy)) ?_
   refine ss ?_
   refine wl_sg hm ?_ ?_ <;> clear hm <;> intro hm
   ·refine ss ?_
    obtain ⟨y5, hy, hm⟩ := obnd_o hm
    refine wl_cq (Mref20_Valid_sp (hm := hy)) ?_
    refine ss ?_
    refine wl_sg hm ?_ ?_ <;> clear hm <;> intro hm
    ·refine ss ?_
     obtain ⟨y6, hy, hm⟩ := bnd_o hm
     refine wl_cq (Mref20_Within_sp (hm := hy)) ?_
     refine sx ?_
     cases hm
     exact wk_r
    refine sx ?_
    cases hm
    exact wk_r
   refine sx ?_
   cases hm
   exact wk_r
  refine sx ?_
  cases hm
  exact wk_r
 refine sx ?_
 cases hm
 exact wk_r

theorem run_eqt44 {w : World} {n : Nat} (a0 b0 : Int) (a1 b1 : Int) : (Op.equalIn (n + 2) 44 (.agg #[.int .i64 a0, .int .i64 a1]) (.agg #[.int .i64 b0, .int .i64 b1])).run Tryz.prog w = .ok (decide (a0 = b0) && decide (a1 = b1)) w := by
  rw [show n + 2 = (n + 1) + 1 from rfl, run_equalIn_struct (P := Tryz.prog) w (n + 1) 44 _ _ (by kernel_rfl) (by kernel_rfl), show (Tryz.prog.fieldsOf 44).toList = [⟨"Epoch", 3, 0, false, "", "", 0⟩, ⟨"Version", 3, 1, false, "", "", 8⟩] from by kernel_rfl]
  simp [Op.eqFields, part, Result.andThen, eqt_if, ba_eqE, run_agg (T := 3) (inferInstance : Ty Tryz.prog 3 _ _), run_size (T := 3) (inferInstance : Ty Tryz.prog 3 _ _), run_equalIn_int (P := Tryz.prog) _ _ 3 .i64 .i64 _ _ (by kernel_rfl)]
  all_goals ((repeat' split) <;> simp_all)
instance eqs44 (a0 b0 : Int) (a1 b1 : Int) : Eqs Tryz.prog 44 [.int .i64 a0, .int .i64 a1] [.int .i64 b0, .int .i64 b1] (decide (a0 = b0) && decide (a1 = b1)) := ⟨by kernel_rfl, fun w => run_eqt44 (n := 9998) a0 b0 a1 b1⟩
def Mref28_SameVisit (a1 : TVisit) (b2 : TVisit) : Option Bool :=
 sel (decide (a1.View.Owner = b2.View.Owner)) (
  sel (decide (a1.View.Stamp.Epoch = b2.View.Stamp.Epoch) && decide (a1.View.Stamp.Version = b2.View.Stamp.Version)) (
   bnd (Mref24_SameRange a1.View.Interval b2.View.Interval) fun y3 =>
   sel y3 (
    bnd (Mref24_SameRange a1.Part b2.Part) fun y4 =>
    sel y4 (
     obnd (Mref20_Same a1.View.Rows b2.View.Rows) fun y5 =>
     some y5) (
     some false)) (
    some false)) (
   some false)) (
  some false)
theorem Mref28_SameVisit_sp {a1 : TVisit} {b2 : TVisit} {y : Bool} (hm : Mref28_SameVisit a1 b2 = some y) : Spec Tryz.prog 75 [.a [vI a1.View.Owner, vS a1.View.Interval.lo.key, vB a1.View.Interval.lo.top, vS a1.View.Interval.hi.key, vB a1.View.Interval.hi.top, vI a1.View.Stamp.Epoch, vI a1.View.Stamp.Version, .d (lst Kv.ds a1.View.Rows), vS a1.Part.lo.key, vB a1.Part.lo.top, vS a1.Part.hi.key, vB a1.Part.hi.top], .a [vI b2.View.Owner, vS b2.View.Interval.lo.key, vB b2.View.Interval.lo.top, vS b2.View.Interval.hi.key, vB b2.View.Interval.hi.top, vI b2.View.Stamp.Epoch, vI b2.View.Stamp.Version, .d (lst Kv.ds b2.View.Rows), vS b2.Part.lo.key, vB b2.Part.lo.top, vS b2.Part.hi.key, vB b2.Part.hi.top]] [] fun u h => u = vB y ∧ h = [] := by
 refine si Tryz.func75 Tryz.ntmps75 Tryz.results75 fun B w0 ρ0 => ?_
 unfold Mref28_SameVisit at hm
 refine sr ?_
 refine sr ?_
 refine wl_sg hm ?_ ?_ <;> clear hm <;> intro hm
 ·refine ss ?_
  refine wl_sg hm ?_ ?_ <;> clear hm <;> intro hm
  ·refine ss ?_
   obtain ⟨y3, hy, hm⟩ := bnd_o hm
   refine wl_cq (Mref24_SameRange_sp (hm := hy)) ?_
   refine ss ?_
   refine wl_sg hm ?_ ?_ <;> clear hm <;> intro hm
   ·refine ss ?_
    obtain ⟨y4, hy, hm⟩ := bnd_o hm
    refine wl_cq (Mref24_SameRange_sp (hm := hy)) ?_
    refine ss ?_
    refine wl_sg hm ?_ ?_ <;> clear hm <;> intro hm
    ·refine ss ?_
     obtain ⟨y5, hy, hm⟩ := obnd_o hm
     refine wl_cq (Mref20_Same_sp (hm := hy)) ?_
     refine sx ?_
     cases hm
     exact wk_r
    refine sx ?_
    cases hm
    exact wk_r
   refine sx ?_
   cases hm
   exact wk_r
  refine sx ?_
  cases hm
  exact wk_r
 refine sx ?_
 cases hm
 exact wk_r

def Mref28_SameVisits_l1 (a1 : List TVisit) (b2 : List TVisit) : List TVisit → Int → Option (Ctl Bool Unit)
  | [], i =>
  some (Ctl.nxt ())
  | r3 :: xs4, i =>
  obnd (lget a1 i) fun e6 =>
  obnd (lget b2 i) fun e7 =>
  obnd (Mref28_SameVisit e6 e7) fun y8 =>
  sel (!y8) (
   some (Ctl.ret false)) (
   Mref28_SameVisits_l1 a1 b2 xs4 (i + 1))
def Mref28_SameVisits (a1 : List TVisit) (b2 : List TVisit) : Option Bool :=
 sel (!decide ((a1.length : Int) = (b2.length : Int))) (
  some false) (
  obnd (
   Mref28_SameVisits_l1 a1 b2 a1 0 : Option (Ctl Bool Unit)) fun mu => ocbnd mu fun (_ : Unit) =>
  some true)
theorem Mref28_SameVisits_sp {a1 : List TVisit} {b2 : List TVisit} {y : Bool} (hm : Mref28_SameVisits a1 b2 = some y) : Spec Tryz.prog 43 [.d (lst TVisit.ds a1), .d (lst TVisit.ds b2)] [] fun u h => u = vB y ∧ h = [] := by
 refine si Tryz.func43 Tryz.ntmps43 Tryz.results43 fun B w0 ρ0 => ?_
 unfold Mref28_SameVisits at hm
 refine sr ?_
 refine sr ?_
 refine wc_cs hm ?_ ?_ <;> clear hm <;> intro hm
 ·refine sr ?_
  refine sx ?_
  cases hm
  exact wk_r
 refine sx ?_
 refine sr ?_
 obtain ⟨mu1, hm1, hm⟩ := obnd_o hm
 refine wc_cut' (fun st => mu1 = Ctl.nxt () ∧ st = ⟨[], []⟩) ?_ ?_
 ·refine wc_block ?_
  refine wc_len 0 rfl (fun hlenm5 => ?_)
  refine wc_loopw (fun κ st => ∃ (m5 : Nat) , κ = a1.length - m5 ∧ m5 ≤ a1.length ∧ Mref28_SameVisits_l1 a1 b2 (a1.drop m5) (m5 : Int) = some mu1 ∧ st = ⟨[(0, .d (lst TVisit.ds a1)), (1, .d (lst TVisit.ds b2)), (12, vI (a1.length : Int)), (13, vI (m5 : Int))], []⟩) [] ⟨0, rfl, Nat.zero_le _, hm1, rfl⟩ ?_
  rintro κ _ ⟨m5, rfl, hlem5, hm1, rfl⟩
  rcases Nat.lt_or_ge m5 a1.length with hltm5 | hgem5
  ·obtain ⟨r3, hxm5, hdr⟩ := drop_c hltm5
   rw [hdr, Mref28_SameVisits_l1.eq_2] at hm1
   refine sr ?_
   refine wc_seq ?_
   refine wc_cond_tt (lt_t hltm5) rfl ?_
   refine sx ?_
   refine sr ?_
   refine wc_seq ?_
   refine wc_draw (id := 6) [⟨0, 0, [0]⟩, ⟨1, 0, [5]⟩, ⟨2, 3, [16, 17]⟩, ⟨3, 7, [18]⟩, ⟨4, 0, [1]⟩, ⟨5, 0, [5]⟩, ⟨6, 48, [20, 21]⟩, ⟨7, 112, [22]⟩, ⟨8, 255, [19, 23]⟩, ⟨9, 511, [24]⟩] mixed (by kernel_rfl) ?_
   refine ss ?_
   obtain ⟨e6, hy, hm1⟩ := obnd_o hm1
   refine wd_r [] (o_ixg (ys := [dI e6.View.Owner, dS e6.View.Interval.lo.key, dB e6.View.Interval.lo.top, dS e6.View.Interval.hi.key, dB e6.View.Interval.hi.top, dI e6.View.Stamp.Epoch, dI e6.View.Stamp.Version, lst Kv.ds e6.View.Rows, dS e6.Part.lo.key, dB e6.Part.lo.top, dS e6.Part.hi.key, dB e6.Part.hi.top]) hy rfl rfl rfl rfl) rfl (by first | exact .no rfl | exact .y rfl rfl rfl rfl) rfl rfl ?_
   refine ss ?_
   obtain ⟨e7, hy, hm1⟩ := obnd_o hm1
   refine wd_r [] (o_ixg (ys := [dI e7.View.Owner, dS e7.View.Interval.lo.key, dB e7.View.Interval.lo.top, dS e7.View.Interval.hi.key, dB e7.View.Interval.hi.top, dI e7.View.Stamp.Epoch, dI e7.View.Stamp.Version, lst Kv.ds e7.View.Rows, dS e7.Part.lo.key, dB e7.Part.lo.top, dS e7.Part.hi.key, dB e7.Part.hi.top]) hy rfl rfl rfl rfl) rfl (by first | exact .no rfl | exact .y rfl rfl rfl rfl) rfl rfl ?_
   refine ss ?_
   obtain ⟨y8, hy, hm1⟩ := obnd_o hm1
   refine wd_cs (Mref28_SameVisit_sp (hm := hy)) rfl rfl rfl (by repeat (first | exact Vws.nil | apply Vws.cons | exact Vw.nil | exact Vw.d _ | exact Vw.q _ | apply Vw.a)) rfl rfl (by first | exact .no rfl | exact .y rfl rfl rfl rfl) rfl rfl rfl ?_
   refine ss ?_
   refine wc_cs hm1 ?_ ?_ <;> clear hm1 <;> intro hm1
   ·refine sr ?_
    refine sx ?_
    cases hm1
    replace hm := ocbnd_r hm
    cases hm
    exact wk_r
   refine sx ?_
   refine sr ?_
   refine wl_r (o_inc hltm5 hlenm5 rfl rfl rfl) rfl rfl rfl ?_
   refine ss ?_
   exact wk_loopw [] ⟨m5 + 1, rfl, hltm5, hm1, rfl⟩ (by omega)
  ·rw [drop_n hgem5, Mref28_SameVisits_l1.eq_1] at hm1
   refine sr ?_
   refine wc_seq ?_
   refine wc_cond_ff (lt_f hgem5) rfl ?_
   refine wc_exit ?_
   refine ss ?_
   cases hm1
   exact wk_cutw [] ⟨rfl, rfl⟩
 rintro _ ⟨rfl, rfl⟩
 replace hm := ocbnd_n hm
 refine sr ?_
 refine sx ?_
 cases hm
 exact wk_r

end Go.Proofs.YtohpjdeohpamaaaGreat
