/-
  Lemmas: Models and walks
-/
import Derived.Test.YtohpjdeohpamaaaGreatPA23
set_option linter.unusedSimpArgs false
set_option linter.unusedVariables false
namespace Go.Proofs.YtohpjdeohpamaaaGreat
open Go.RowKit
set_option maxRecDepth 100000
set_option maxHeartbeats 4000000
attribute [local irreducible] WK WC WL Wk Rel OpD OpV WD WO sel bnd obnd app lget lsl sget ssl scat letg iquo irem Op.bytesLess
attribute [local irreducible] qchk qranges union
def Mreplica_SameRange (a1 : Rng) (b2 : Rng) : Bool :=
 bnd (Mkeyspace_Compare a1.lo b2.lo) fun y3 =>
 sel (decide (y3 = 0)) (
  bnd (Mkeyspace_Compare a1.hi b2.hi) fun y4 =>
  decide (y4 = 0)) (
  false)
theorem Mreplica_SameRange_sp {a1 : Rng} {b2 : Rng} {y : Bool} (hm : Mreplica_SameRange a1 b2 = y) : Spec Tryz.prog 60 [.a [vS a1.lo.key, vB a1.lo.top, vS a1.hi.key, vB a1.hi.top], .a [vS b2.lo.key, vB b2.lo.top, vS b2.hi.key, vB b2.hi.top]] [] fun u h => u = vB y ∧ h = [] := by
 refine si Tryz.func60 Tryz.ntmps60 Tryz.results60 fun B w0 ρ0 => ?_
 unfold Mreplica_SameRange at hm
 refine sr ?_
 refine sr ?_
 obtain ⟨y3, hy, hm⟩ := bnd_o hm
 refine wl_cq (Mkeyspace_Compare_sp (hm := hy)) ?_
 refine ss ?_
 refine wl_sg hm ?_ ?_ <;> clear hm <;> intro hm
 ·refine ss ?_
  obtain ⟨y4, hy, hm⟩ := bnd_o hm
  refine wl_cq (Mkeyspace_Compare_sp (hm := hy)) ?_
  refine sx ?_
  subst hm
  exact wk_r
 refine sx ?_
 subst hm
 exact wk_r

def Mreplica_sameList_api_Row__l1 (a1 : List Kv) (b2 : List Kv) : List Kv → Int → Option (Ctl Bool Unit)
  | [], i =>
  some (Ctl.nxt ())
  | r3 :: xs4, i =>
  obnd (lget a1 i) fun e6 =>
  obnd (lget b2 i) fun e7 =>
  sel (!(decide (e6.key = e7.key) && decide (e6.val = e7.val))) (
   some (Ctl.ret false)) (
   Mreplica_sameList_api_Row__l1 a1 b2 xs4 (i + 1))
def Mreplica_sameList_api_Row_ (a1 : List Kv) (b2 : List Kv) : Option Bool :=
 sel (!decide ((a1.length : Int) = (b2.length : Int))) (
  some false) (
  obnd (
   Mreplica_sameList_api_Row__l1 a1 b2 a1 0 : Option (Ctl Bool Unit)) fun mu => ocbnd mu fun (_ : Unit) =>
  some true)
theorem Mreplica_sameList_api_Row__sp {a1 : List Kv} {b2 : List Kv} {y : Bool} (hm : Mreplica_sameList_api_Row_ a1 b2 = some y) : Spec Tryz.prog 86 [.d (lst Kv.ds a1), .d (lst Kv.ds b2)] [] fun u h => u = vB y ∧ h = [] := by
 refine si Tryz.func86 Tryz.ntmps86 Tryz.results86 fun B w0 ρ0 => ?_
 unfold Mreplica_sameList_api_Row_ at hm
 refine sr ?_
 refine sr ?_
 refine wc_cs hm ?_ ?_ <;> clear hm <;> intro hm
 ·refine sr ?_
  refine sx ?_
  cases hm
  exact wk_r
 refine sx ?_
 refine sr ?_
 obtain ⟨mu1, hm1, hm⟩ := obnd_o hm
 refine wc_cut' (fun st => mu1 = Ctl.nxt () ∧ st = ⟨[], []⟩) ?_ ?_
 ·refine wc_block ?_
  refine wc_len 0 rfl (fun hlenm5 => ?_)
  refine wc_loopw (fun κ st => ∃ (m5 : Nat) , κ = a1.length - m5 ∧ m5 ≤ a1.length ∧ Mreplica_sameList_api_Row__l1 a1 b2 (a1.drop m5) (m5 : Int) = some mu1 ∧ st = ⟨[(0, .d (lst Kv.ds a1)), (1, .d (lst Kv.ds b2)), (12, vI (a1.length : Int)), (13, vI (m5 : Int))], []⟩) [] ⟨0, rfl, Nat.zero_le _, hm1, rfl⟩ ?_
  rintro κ _ ⟨m5, rfl, hlem5, hm1, rfl⟩
  rcases Nat.lt_or_ge m5 a1.length with hltm5 | hgem5
  ·obtain ⟨r3, hxm5, hdr⟩ := drop_c hltm5
   rw [hdr, Mreplica_sameList_api_Row__l1.eq_2] at hm1
   refine sr ?_
   refine wc_seq ?_
   refine wc_cond_tt (lt_t hltm5) rfl ?_
   refine sx ?_
   refine sr ?_
   refine wc_seq ?_
   refine wc_draw (id := 6) [⟨0, 0, [0]⟩, ⟨1, 0, [5]⟩, ⟨2, 3, [16, 17]⟩, ⟨3, 7, [18]⟩, ⟨4, 0, [1]⟩, ⟨5, 0, [5]⟩, ⟨6, 48, [20, 21]⟩, ⟨7, 112, [22]⟩, ⟨8, 255, [19, 23]⟩] mixed (by kernel_rfl) ?_
   refine ss ?_
   obtain ⟨e6, hy, hm1⟩ := obnd_o hm1
   refine wd_r [] (o_ixg (ys := [dS e6.key, dS e6.val]) hy rfl rfl rfl rfl) rfl (by first | exact .no rfl | exact .y rfl rfl rfl rfl) rfl rfl ?_
   refine ss ?_
   obtain ⟨e7, hy, hm1⟩ := obnd_o hm1
   refine wd_r [] (o_ixg (ys := [dS e7.key, dS e7.val]) hy rfl rfl rfl rfl) rfl (by first | exact .no rfl | exact .y rfl rfl rfl rfl) rfl rfl ?_
   refine ss ?_
   refine wc_cs hm1 ?_ ?_ <;> clear hm1 <;> intro hm1
   ·refine sr ?_
    refine sx ?_
    cases hm1
    replace hm := ocbnd_r hm
    cases hm
    exact wk_r
   refine sx ?_
   refine sr ?_
   refine wl_r (o_inc hltm5 hlenm5 rfl rfl rfl) rfl rfl rfl ?_
   refine ss ?_
   exact wk_loopw [] ⟨m5 + 1, rfl, hltm5, hm1, rfl⟩ (by omega)
  ·rw [drop_n hgem5, Mreplica_sameList_api_Row__l1.eq_1] at hm1
   refine sr ?_
   refine wc_seq ?_
   refine wc_cond_ff (lt_f hgem5) rfl ?_
   refine wc_exit ?_
   refine ss ?_
   cases hm1
   exact wk_cutw [] ⟨rfl, rfl⟩
 rintro _ ⟨rfl, rfl⟩
 replace hm := ocbnd_n hm
 refine sr ?_
 refine sx ?_
 cases hm
 exact wk_r

def Mreplica_SameRows (a1 : List Kv) (b2 : List Kv) : Option Bool :=
 obnd (Mreplica_sameList_api_Row_ a1 b2) fun y3 =>
 some y3
theorem Mreplica_SameRows_sp {a1 : List Kv} {b2 : List Kv} {y : Bool} (hm : Mreplica_SameRows a1 b2 = some y) : Spec Tryz.prog 61 [.d (lst Kv.ds a1), .d (lst Kv.ds b2)] [] fun u h => u = vB y ∧ h = [] := by
 refine si Tryz.func61 Tryz.ntmps61 Tryz.results61 fun B w0 ρ0 => ?_
 unfold Mreplica_SameRows at hm
 refine sr ?_
 refine sr ?_
 obtain ⟨y3, hy, hm⟩ := obnd_o hm
 refine wl_cq (Mreplica_sameList_api_Row__sp (hm := hy)) ?_
 refine sx ?_
 cases hm
 exact wk_r

def Mreceipt_rows (l1 : List TVisit) : Option (List Kv) :=
 obnd (Mwalk_Rows (TWalk.mk (TQuery.mk 0 [] ⟨#[]⟩ 0) [] l1)) fun y2 =>
 some y2
theorem Mreceipt_rows_sp {l1 : List TVisit} {y : List Kv} (hm : Mreceipt_rows l1 = some y) : Spec Tryz.prog 36 [.d (lst TVisit.ds l1)] [] fun u h => u = .d (lst Kv.ds y) ∧ h = [] := by
 refine si Tryz.func36 Tryz.ntmps36 Tryz.results36 fun B w0 ρ0 => ?_
 unfold Mreceipt_rows at hm
 refine sr ?_
 refine sr ?_
 obtain ⟨y2, hy, hm⟩ := obnd_o hm
 refine wl_cq (Mwalk_Rows_sp (hm := hy)) ?_
 refine sx ?_
 cases hm
 exact wk_r

theorem run_eqt44 {w : World} {n : Nat} (a0 b0 : Int) (a1 b1 : Int) : (Op.equalIn (n + 2) 44 (.agg #[.int .i64 a0, .int .i64 a1]) (.agg #[.int .i64 b0, .int .i64 b1])).run Tryz.prog w = .ok (decide (a0 = b0) && decide (a1 = b1)) w := by
  rw [show n + 2 = (n + 1) + 1 from rfl, run_equalIn_struct (P := Tryz.prog) w (n + 1) 44 _ _ (by kernel_rfl) (by kernel_rfl), show (Tryz.prog.fieldsOf 44).toList = [⟨"Epoch", 3, 0, false, "", "", 0⟩, ⟨"Version", 3, 1, false, "", "", 8⟩] from by kernel_rfl]
  simp [Op.eqFields, part, Result.andThen, eqt_if, ba_eqE, run_agg (T := 3) (inferInstance : Ty Tryz.prog 3 _ _), run_size (T := 3) (inferInstance : Ty Tryz.prog 3 _ _), run_equalIn_int (P := Tryz.prog) _ _ 3 .i64 .i64 _ _ (by kernel_rfl)]
  all_goals ((repeat' split) <;> simp_all)
instance eqs44 (a0 b0 : Int) (a1 b1 : Int) : Eqs Tryz.prog 44 [.int .i64 a0, .int .i64 a1] [.int .i64 b0, .int .i64 b1] (decide (a0 = b0) && decide (a1 = b1)) := ⟨by kernel_rfl, fun w => run_eqt44 (n := 9998) a0 b0 a1 b1⟩
def Mreceipt_Same (a1 : TVisit) (b2 : TVisit) : Option Bool :=
 sel (decide (a1.View.Owner = b2.View.Owner)) (
  bnd (Mreplica_SameRange a1.View.Interval b2.View.Interval) fun y3 =>
  sel y3 (
   bnd (Mreplica_SameRange a1.Part b2.Part) fun y4 =>
   sel y4 (
    sel (decide (a1.View.Stamp.Epoch = b2.View.Stamp.Epoch) && decide (a1.View.Stamp.Version = b2.View.Stamp.Version)) (
     obnd (Mreplica_SameRows a1.View.Rows b2.View.Rows) fun y5 =>
     some y5) (
     some false)) (
    some false)) (
   some false)) (
  some false)
theorem Mreceipt_Same_sp {a1 : TVisit} {b2 : TVisit} {y : Bool} (hm : Mreceipt_Same a1 b2 = some y) : Spec Tryz.prog 34 [.a [vI a1.View.Owner, vS a1.View.Interval.lo.key, vB a1.View.Interval.lo.top, vS a1.View.Interval.hi.key, vB a1.View.Interval.hi.top, vI a1.View.Stamp.Epoch, vI a1.View.Stamp.Version, .d (lst Kv.ds a1.View.Rows), vS a1.Part.lo.key, vB a1.Part.lo.top, vS a1.Part.hi.key, vB a1.Part.hi.top], .a [vI b2.View.Owner, vS b2.View.Interval.lo.key, vB b2.View.Interval.lo.top, vS b2.View.Interval.hi.key, vB b2.View.Interval.hi.top, vI b2.View.Stamp.Epoch, vI b2.View.Stamp.Version, .d (lst Kv.ds b2.View.Rows), vS b2.Part.lo.key, vB b2.Part.lo.top, vS b2.Part.hi.key, vB b2.Part.hi.top]] [] fun u h => u = vB y ∧ h = [] := by
 refine si Tryz.func34 Tryz.ntmps34 Tryz.results34 fun B w0 ρ0 => ?_
 unfold Mreceipt_Same at hm
 refine sr ?_
 refine sr ?_
 refine wl_sg hm ?_ ?_ <;> clear hm <;> intro hm
 ·refine ss ?_
  obtain ⟨y3, hy, hm⟩ := bnd_o hm
  refine wl_cq (Mreplica_SameRange_sp (hm := hy)) ?_
  refine ss ?_
  refine wl_sg hm ?_ ?_ <;> clear hm <;> intro hm
  ·refine ss ?_
   obtain ⟨y4, hy, hm⟩ := bnd_o hm
   refine wl_cq (Mreplica_SameRange_sp (hm := hy)) ?_
   refine ss ?_
   refine wl_sg hm ?_ ?_ <;> clear hm <;> intro hm
   ·refine ss ?_
    refine wl_sg hm ?_ ?_ <;> clear hm <;> intro hm
    ·refine ss ?_
     obtain ⟨y5, hy, hm⟩ := obnd_o hm
     refine wl_cq (Mreplica_SameRows_sp (hm := hy)) ?_
     refine sx ?_
     cases hm
     exact wk_r
    refine sx ?_
    cases hm
    exact wk_r
   refine sx ?_
   cases hm
   exact wk_r
  refine sx ?_
  cases hm
  exact wk_r
 refine sx ?_
 cases hm
 exact wk_r

def Mreceipt_Tiling_l1 : List TVisit → Option (Ctl Int Unit)
  | [] =>
  some (Ctl.nxt ())
  | r4 :: xs5 =>
  obnd (
   obnd (Mwalk_ValidView r4.View) fun y7 =>
   sel (!y7) (
    some true) (
    bnd (Mkeyspace_Empty r4.Part) fun y8 =>
    sel y8 (
     some true) (
     bnd (Mwalk_Inside r4.View.Interval r4.Part) fun y9 =>
     some (!y9))) : Option Bool) fun x10 =>
  sel x10 (
   some (Ctl.ret 1)) (
   obnd (Mtable_Slice r4.View.Rows r4.Part) fun y11 =>
   sel (!decide ((y11.length : Int) = (r4.View.Rows.length : Int))) (
    some (Ctl.ret 17)) (
    Mreceipt_Tiling_l1 xs5))
def Mreceipt_Tiling_l2 (y12 : List Rng) : List TVisit → Int → ByteArray → Bool → Option (Ctl Int Int)
  | [], i23, position24, position25 =>
  some (Ctl.nxt i23)
  | r26 :: xs27, i23, position24, position25 =>
  sel (decide (i23 = (y12.length : Int))) (
   some (Ctl.ret 2)) (
   bnd (Mkeyspace_Compare r26.Part.lo (Bnd.mk position24 position25)) fun y29 =>
   sel (decide (y29 = 1)) (
    some (Ctl.ret 9)) (
    sel (decide (y29 = (-1))) (
     some (Ctl.ret 10)) (
     obnd (lget y12 i23) fun e30 =>
     bnd (Mkeyspace_Compare r26.Part.hi e30.hi) fun y31 =>
     sel (decide (y31 = 1)) (
      some (Ctl.ret 2)) (
      sel (decide (y31 = 0)) (
       sel (decide (i64w (i23 + 1) < (y12.length : Int))) (
        obnd (lget y12 (i64w (i23 + 1))) fun e32 =>
        Mreceipt_Tiling_l2 y12 xs27 (i64w (i23 + 1)) e32.lo.key e32.lo.top) (
        Mreceipt_Tiling_l2 y12 xs27 (i64w (i23 + 1)) r26.Part.hi.key r26.Part.hi.top)) (
       Mreceipt_Tiling_l2 y12 xs27 i23 r26.Part.hi.key r26.Part.hi.top)))))
def Mreceipt_Tiling (q1 : TQuery) (l2 : List TVisit) : Option Int :=
 obnd (Mquery_Check q1) fun y3 =>
 sel (!decide (y3 = 0)) (
  some y3) (
  obnd (
   Mreceipt_Tiling_l1 l2 : Option (Ctl Int Unit)) fun mu => ocbnd mu fun (_ : Unit) =>
  obnd (Mquery_Ranges q1) fun y12 =>
  obnd (Mreceipt_rows l2) fun y13 =>
  bnd (Mquery_Enough q1 (y13.length : Int)) fun y14 =>
  obnd (
   sel (decide (0 < (y12.length : Int))) (
    obnd (lget y12 0) fun e15 =>
    some (e15.lo.key, e15.lo.top)) (
    some (⟨#[]⟩, false)) : Option (ByteArray × Bool)) fun (position16, position17) =>
  obnd (
   bnd (Mquery_Down q1) fun y18 =>
   sel y18 (
    sel y14 (
     some (decide (0 < (l2.length : Int)))) (
     some false)) (
    some false) : Option Bool) fun x19 =>
  obnd (
   sel x19 (
    obnd (lget l2 0) fun e20 =>
    some (e20.Part.lo.key, e20.Part.lo.top)) (
    some (position16, position17)) : Option (ByteArray × Bool)) fun (position21, position22) =>
  obnd (
   Mreceipt_Tiling_l2 y12 l2 0 position21 position22 : Option (Ctl Int Int)) fun mu => ocbnd mu fun i33 =>
  sel (decide (i33 < (y12.length : Int))) (
   sel (decide (q1.Kind = 3)) (
    sel (!y14) (
     some 9) (
     some 0)) (
    sel (!false) (
     some 9) (
     some 0))) (
   some 0))
theorem Mreceipt_Tiling_sp {q1 : TQuery} {l2 : List TVisit} {y : Int} (hm : Mreceipt_Tiling q1 l2 = some y) : Spec Tryz.prog 33 [.a [vI q1.Kind, .d (lst Rng.ds q1.Ranges), vS q1.Key, vI q1.Count], .d (lst TVisit.ds l2)] [] fun u h => u = vI y ∧ h = [] := by
 refine si Tryz.func33 Tryz.ntmps33 Tryz.results33 fun B w0 ρ0 => ?_
 unfold Mreceipt_Tiling at hm
 refine sr ?_
 refine sr ?_
 obtain ⟨y3, hy, hm⟩ := obnd_o hm
 refine wl_cq (Mquery_Check_sp (hm := hy)) ?_
 refine sr ?_
 refine wc_cs hm ?_ ?_ <;> clear hm <;> intro hm
 ·refine sr ?_
  refine sx ?_
  cases hm
  exact wk_r
 refine sx ?_
 refine sr ?_
 obtain ⟨mu1, hm1, hm⟩ := obnd_o hm
 refine wc_cut' (fun st => mu1 = Ctl.nxt () ∧ st = ⟨[(1, .d (lst TVisit.ds l2)), (2, .p 102 0)], [(102, some (.box 29 [vI q1.Kind, .d (lst Rng.ds q1.Ranges), vS q1.Key, vI q1.Count]))]⟩) ?_ ?_
 ·refine wc_block ?_
  refine wc_len 19 rfl (fun hlenm6 => ?_)
  refine wc_loopw (fun κ st => ∃ (m6 : Nat) , κ = l2.length - m6 ∧ m6 ≤ l2.length ∧ Mreceipt_Tiling_l1 (l2.drop m6) = some mu1 ∧ st = ⟨[(1, .d (lst TVisit.ds l2)), (2, .p 102 0), (19, .d (lst TVisit.ds l2)), (20, vI (l2.length : Int)), (21, vI (m6 : Int))], [(102, some (.box 29 [vI q1.Kind, .d (lst Rng.ds q1.Ranges), vS q1.Key, vI q1.Count]))]⟩) [(102, 102)] ⟨0, rfl, Nat.zero_le _, hm1, rfl⟩ ?_
  rintro κ _ ⟨m6, rfl, hlem6, hm1, rfl⟩
  rcases Nat.lt_or_ge m6 l2.length with hltm6 | hgem6
  ·obtain ⟨r4, hxm6, hdr⟩ := drop_c hltm6
   rw [hdr, Mreceipt_Tiling_l1.eq_2] at hm1
   refine sr ?_
   refine wc_seq ?_
   refine wc_cond_tt (lt_t hltm6) rfl ?_
   refine sx ?_
   refine sr ?_
   refine wl_r (o_ixm (ys := [dI r4.View.Owner, dS r4.View.Interval.lo.key, dB r4.View.Interval.lo.top, dS r4.View.Interval.hi.key, dB r4.View.Interval.hi.top, dI r4.View.Stamp.Epoch, dI r4.View.Stamp.Version, lst Kv.ds r4.View.Rows, dS r4.Part.lo.key, dB r4.Part.lo.top, dS r4.Part.hi.key, dB r4.Part.hi.top]) hxm6 rfl rfl rfl rfl) rfl rfl rfl ?_
   refine ss ?_
   refine wc_seq ?_
   refine wc_seq ?_
   obtain ⟨mu2, hm2, hm1⟩ := obnd_o hm1
   refine wc_cut' (fun st => ∃ (x10 : Bool), x10 = mu2 ∧ st = ⟨[(1, .d (lst TVisit.ds l2)), (2, .p 102 0), (7, .p 107 0), (19, .d (lst TVisit.ds l2)), (20, vI (l2.length : Int)), (21, vI (m6 : Int)), (42, vB x10)], [(102, some (.box 29 [vI q1.Kind, .d (lst Rng.ds q1.Ranges), vS q1.Key, vI q1.Count])), (107, some (.box 48 [vI r4.View.Owner, vS r4.View.Interval.lo.key, vB r4.View.Interval.lo.top, vS r4.View.Interval.hi.key, vB r4.View.Interval.hi.top, vI r4.View.Stamp.Epoch, vI r4.View.Stamp.Version, .d (lst Kv.ds r4.View.Rows), vS r4.Part.lo.key, vB r4.Part.lo.top, vS r4.Part.hi.key, vB r4.Part.hi.top]))]⟩) ?_ ?_
   ·refine sr ?_
    obtain ⟨y7, hy, hm2⟩ := obnd_o hm2
    refine wl_cq (Mwalk_ValidView_sp (hm := hy)) ?_
    refine ss ?_
    refine wl_sg hm2 ?_ ?_ <;> clear hm2 <;> intro hm2
    ·refine ss ?_
     cases hm2
     exact wk_cutw [(102, 102), (107, 107)] ⟨_, rfl, rfl⟩
    refine ss ?_
    obtain ⟨y8, hy, hm2⟩ := bnd_o hm2
    refine wl_cq (Mkeyspace_Empty_sp (hm := hy)) ?_
    refine ss ?_
    refine wl_sg hm2 ?_ ?_ <;> clear hm2 <;> intro hm2
    ·refine ss ?_
     cases hm2
     exact wk_cutw [(102, 102), (107, 107)] ⟨_, rfl, rfl⟩
    refine ss ?_
    obtain ⟨y9, hy, hm2⟩ := bnd_o hm2
    refine wl_cq (Mwalk_Inside_sp (hm := hy)) ?_
    refine ss ?_
    cases hm2
    exact wk_cutw [(102, 102), (107, 107)] ⟨_, rfl, rfl⟩
   rintro _ ⟨x10, rfl, rfl⟩
   refine ss ?_
   refine wc_cs hm1 ?_ ?_ <;> clear hm1 <;> intro hm1
   ·refine sr ?_
    refine sx ?_
    cases hm1
    replace hm := ocbnd_r hm
    cases hm
    exact wk_r
   refine sx ?_
   refine wc_seq ?_
   refine wc_draw (id := 9) [⟨0, 0, [7]⟩, ⟨1, 1, [43]⟩, ⟨2, 3, [44]⟩, ⟨3, 0, [7]⟩, ⟨4, 8, [46]⟩, ⟨7, 0, [7]⟩, ⟨8, 128, [50]⟩, ⟨9, 384, [51]⟩, ⟨10, 896, [52]⟩, ⟨5, 31, [45, 47]⟩, ⟨6, 63, [48]⟩, ⟨11, 2047, [49, 53]⟩] mixed (by kernel_rfl) ?_
   refine ss ?_
   obtain ⟨y11, hy, hm1⟩ := obnd_o hm1
   refine wd_cs (Mtable_Slice_sp (hm := hy)) rfl rfl rfl (by repeat (first | exact Vws.nil | apply Vws.cons | exact Vw.nil | exact Vw.d _ | exact Vw.q _ | apply Vw.a)) rfl rfl (by first | exact .no rfl | exact .y rfl rfl rfl rfl) rfl rfl rfl ?_
   refine ss ?_
   refine wc_cs hm1 ?_ ?_ <;> clear hm1 <;> intro hm1
   ·refine sr ?_
    refine sx ?_
    cases hm1
    replace hm := ocbnd_r hm
    cases hm
    exact wk_r
   refine sx ?_
   refine sr ?_
   refine wl_r (o_inc hltm6 hlenm6 rfl rfl rfl) rfl rfl rfl ?_
   refine ss ?_
   exact wk_loopw [(102, 102)] ⟨m6 + 1, rfl, hltm6, hm1, rfl⟩ (by omega)
  ·rw [drop_n hgem6, Mreceipt_Tiling_l1.eq_1] at hm1
   refine sr ?_
   refine wc_seq ?_
   refine wc_cond_ff (lt_f hgem6) rfl ?_
   refine wc_exit ?_
   refine ss ?_
   cases hm1
   exact wk_cutw [(102, 102)] ⟨rfl, rfl⟩
 rintro _ ⟨rfl, rfl⟩
 replace hm := ocbnd_n hm
 refine ss ?_
 refine wc_seq ?_
 refine wc_draw (id := 12) [⟨0, 0, [2]⟩, ⟨2, 0, [2]⟩, ⟨3, 0, [1]⟩, ⟨1, 1, [56]⟩, ⟨4, 11, [59]⟩, ⟨5, 27, [60]⟩, ⟨6, 63, [58, 61]⟩, ⟨7, 127, [57]⟩, ⟨8, 255, [62]⟩] mixed (by kernel_rfl) ?_
 refine ss ?_
 obtain ⟨y12, hy, hm⟩ := obnd_o hm
 refine wd_cs (Mquery_Ranges_sp (hm := hy)) rfl rfl rfl (by repeat (first | exact Vws.nil | apply Vws.cons | exact Vw.nil | exact Vw.d _ | exact Vw.q _ | apply Vw.a)) rfl rfl (by first | exact .no rfl | exact .y rfl rfl rfl rfl) rfl rfl rfl ?_
 refine ss ?_
 obtain ⟨y13, hy, hm⟩ := obnd_o hm
 refine wd_cs (Mreceipt_rows_sp (hm := hy)) rfl rfl rfl (by repeat (first | exact Vws.nil | apply Vws.cons | exact Vw.nil | exact Vw.d _ | exact Vw.q _ | apply Vw.a)) rfl rfl (by first | exact .no rfl | exact .y rfl rfl rfl rfl) rfl rfl rfl ?_
 refine ss ?_
 obtain ⟨y14, hy, hm⟩ := bnd_o hm
 refine wd_cs (Mquery_Enough_sp (hm := hy)) rfl rfl rfl (by repeat (first | exact Vws.nil | apply Vws.cons | exact Vw.nil | exact Vw.d _ | exact Vw.q _ | apply Vw.a)) rfl rfl (by first | exact .no rfl | exact .y rfl rfl rfl rfl) rfl rfl rfl ?_
 refine sr ?_
 refine sr ?_
 obtain ⟨mu1, hm1, hm⟩ := obnd_o hm
 refine wc_cut' (fun st => ∃ (position16 : ByteArray) (position17 : Bool), mu1 = (position16, position17) ∧ st = ⟨[(1, .d (lst TVisit.ds l2)), (2, .p 102 0), (8, .d (lst Rng.ds y12)), (9, vB y14), (10, vI 0), (11, .p 111 0)], [(102, some (.box 29 [vI q1.Kind, .d (lst Rng.ds q1.Ranges), vS q1.Key, vI q1.Count])), (111, some (.box 40 [vS position16, vB position17]))]⟩) ?_ ?_
 ·refine wc_cs hm1 ?_ ?_ <;> clear hm1 <;> intro hm1
  ·refine sr ?_
   obtain ⟨e15, hy, hm1⟩ := obnd_o hm1
   refine wl_r (o_ixg (ys := [dS e15.lo.key, dB e15.lo.top, dS e15.hi.key, dB e15.hi.top]) hy rfl rfl rfl rfl) rfl rfl rfl ?_
   refine ss ?_
   cases hm1
   exact wk_cutw [(102, 102), (111, 111)] ⟨_, _, rfl, rfl⟩
  refine sx ?_
  cases hm1
  exact wk_cutw [(102, 102), (111, 111)] ⟨_, _, rfl, rfl⟩
 rintro _ ⟨position16, position17, rfl, rfl⟩
 refine ss ?_
 refine wc_seq ?_
 refine wc_seq ?_
 obtain ⟨mu1, hm1, hm⟩ := obnd_o hm
 refine wc_cut' (fun st => ∃ (x19 : Bool), x19 = mu1 ∧ st = ⟨[(1, .d (lst TVisit.ds l2)), (2, .p 102 0), (8, .d (lst Rng.ds y12)), (9, vB y14), (10, vI 0), (11, .p 111 0), (80, vB x19)], [(102, some (.box 29 [vI q1.Kind, .d (lst Rng.ds q1.Ranges), vS q1.Key, vI q1.Count])), (111, some (.box 40 [vS position16, vB position17]))]⟩) ?_ ?_
 ·refine sr ?_
  obtain ⟨y18, hy, hm1⟩ := bnd_o hm1
  refine wl_cq (Mquery_Down_sp (hm := hy)) ?_
  refine ss ?_
  refine wl_sg hm1 ?_ ?_ <;> clear hm1 <;> intro hm1
  ·refine ss ?_
   refine wl_sg hm1 ?_ ?_ <;> clear hm1 <;> intro hm1
   ·refine ss ?_
    cases hm1
    exact wk_cutw [(102, 102), (111, 111)] ⟨_, rfl, rfl⟩
   refine ss ?_
   cases hm1
   exact wk_cutw [(102, 102), (111, 111)] ⟨_, rfl, rfl⟩
  refine ss ?_
  cases hm1
  exact wk_cutw [(102, 102), (111, 111)] ⟨_, rfl, rfl⟩
 rintro _ ⟨x19, rfl, rfl⟩
 refine ss ?_
 obtain ⟨mu1, hm1, hm⟩ := obnd_o hm
 refine wc_cut' (fun st => ∃ (position21 : ByteArray) (position22 : Bool), mu1 = (position21, position22) ∧ st = ⟨[(1, .d (lst TVisit.ds l2)), (2, .p 102 0), (8, .d (lst Rng.ds y12)), (9, vB y14), (10, vI 0), (11, .p 111 0)], [(102, some (.box 29 [vI q1.Kind, .d (lst Rng.ds q1.Ranges), vS q1.Key, vI q1.Count])), (111, some (.box 40 [vS position21, vB position22]))]⟩) ?_ ?_
 ·refine wc_cs hm1 ?_ ?_ <;> clear hm1 <;> intro hm1
  ·refine sr ?_
   obtain ⟨e20, hy, hm1⟩ := obnd_o hm1
   refine wl_r (o_ixg (ys := [dI e20.View.Owner, dS e20.View.Interval.lo.key, dB e20.View.Interval.lo.top, dS e20.View.Interval.hi.key, dB e20.View.Interval.hi.top, dI e20.View.Stamp.Epoch, dI e20.View.Stamp.Version, lst Kv.ds e20.View.Rows, dS e20.Part.lo.key, dB e20.Part.lo.top, dS e20.Part.hi.key, dB e20.Part.hi.top]) hy rfl rfl rfl rfl) rfl rfl rfl ?_
   refine ss ?_
   cases hm1
   exact wk_cutw [(102, 102), (111, 111)] ⟨_, _, rfl, rfl⟩
  refine sx ?_
  cases hm1
  exact wk_cutw [(102, 102), (111, 111)] ⟨_, _, rfl, rfl⟩
 rintro _ ⟨position21, position22, rfl, rfl⟩
 refine sr ?_
 obtain ⟨mu1, hm1, hm⟩ := obnd_o hm
 refine wc_cut' (fun st => ∃ (i33 : Int), mu1 = Ctl.nxt i33 ∧ st = ⟨[(2, .p 102 0), (8, .d (lst Rng.ds y12)), (9, vB y14), (10, vI i33)], [(102, some (.box 29 [vI q1.Kind, .d (lst Rng.ds q1.Ranges), vS q1.Key, vI q1.Count]))]⟩) ?_ ?_
 ·refine wc_block ?_
  refine wc_len 86 rfl (fun hlenm28 => ?_)
  refine wc_loopw (fun κ st => ∃ (m28 : Nat) (i23 : Int) (position24 : ByteArray) (position25 : Bool), κ = l2.length - m28 ∧ m28 ≤ l2.length ∧ Mreceipt_Tiling_l2 y12 (l2.drop m28) i23 position24 position25 = some mu1 ∧ st = ⟨[(2, .p 102 0), (8, .d (lst Rng.ds y12)), (9, vB y14), (10, vI i23), (11, .p 111 0), (86, .d (lst TVisit.ds l2)), (87, vI (l2.length : Int)), (88, vI (m28 : Int))], [(102, some (.box 29 [vI q1.Kind, .d (lst Rng.ds q1.Ranges), vS q1.Key, vI q1.Count])), (111, some (.box 40 [vS position24, vB position25]))]⟩) [(102, 102), (111, 111)] ⟨0, _, _, _, rfl, Nat.zero_le _, hm1, rfl⟩ ?_
  rintro κ _ ⟨m28, i23, position24, position25, rfl, hlem28, hm1, rfl⟩
  rcases Nat.lt_or_ge m28 l2.length with hltm28 | hgem28
  ·obtain ⟨r26, hxm28, hdr⟩ := drop_c hltm28
   rw [hdr, Mreceipt_Tiling_l2.eq_2] at hm1
   refine sr ?_
   refine wc_seq ?_
   refine wc_cond_tt (lt_t hltm28) rfl ?_
   refine sx ?_
   refine sr ?_
   refine wl_r (o_ixm (ys := [dI r26.View.Owner, dS r26.View.Interval.lo.key, dB r26.View.Interval.lo.top, dS r26.View.Interval.hi.key, dB r26.View.Interval.hi.top, dI r26.View.Stamp.Epoch, dI r26.View.Stamp.Version, lst Kv.ds r26.View.Rows, dS r26.Part.lo.key, dB r26.Part.lo.top, dS r26.Part.hi.key, dB r26.Part.hi.top]) hxm28 rfl rfl rfl rfl) rfl rfl rfl ?_
   refine sr ?_
   refine wc_cs hm1 ?_ ?_ <;> clear hm1 <;> intro hm1
   ·refine sr ?_
    refine sx ?_
    cases hm1
    replace hm := ocbnd_r hm
    cases hm
    exact wk_r
   refine sx ?_
   refine sr ?_
   obtain ⟨y29, hy, hm1⟩ := bnd_o hm1
   refine wl_cq (Mkeyspace_Compare_sp (hm := hy)) ?_
   refine sr ?_
   refine wc_cs hm1 ?_ ?_ <;> clear hm1 <;> intro hm1
   ·refine sr ?_
    refine sx ?_
    cases hm1
    replace hm := ocbnd_r hm
    cases hm
    exact wk_r
   refine sr ?_
   refine wc_cs hm1 ?_ ?_ <;> clear hm1 <;> intro hm1
   ·refine sr ?_
    refine sx ?_
    cases hm1
    replace hm := ocbnd_r hm
    cases hm
    exact wk_r
   refine sx ?_
   refine sr ?_
   refine wc_seq ?_
   refine wc_draw (id := 29) [⟨0, 0, [11]⟩, ⟨1, 0, [8]⟩, ⟨2, 0, [10]⟩, ⟨3, 6, [109, 110]⟩, ⟨4, 14, [111]⟩, ⟨5, 30, [112]⟩, ⟨6, 63, [108, 113]⟩] mixed (by kernel_rfl) ?_
   refine ss ?_
   obtain ⟨e30, hy, hm1⟩ := obnd_o hm1
   refine wd_r [] (o_ixg (ys := [dS e30.lo.key, dB e30.lo.top, dS e30.hi.key, dB e30.hi.top]) hy rfl rfl rfl rfl) rfl (by first | exact .no rfl | exact .y rfl rfl rfl rfl) rfl rfl ?_
   refine ss ?_
   obtain ⟨y31, hy, hm1⟩ := bnd_o hm1
   refine wd_cs (Mkeyspace_Compare_sp (hm := hy)) rfl rfl rfl (by repeat (first | exact Vws.nil | apply Vws.cons | exact Vw.nil | exact Vw.d _ | exact Vw.q _ | apply Vw.a)) rfl rfl (by first | exact .no rfl | exact .y rfl rfl rfl rfl) rfl rfl rfl ?_
   refine sr ?_
   refine wc_cs hm1 ?_ ?_ <;> clear hm1 <;> intro hm1
   ·refine sr ?_
    refine sx ?_
    cases hm1
    replace hm := ocbnd_r hm
    cases hm
    exact wk_r
   refine sr ?_
   refine wc_cs hm1 ?_ ?_ <;> clear hm1 <;> intro hm1
   ·refine sr ?_
    refine wl_r (o_add rfl rfl rfl rfl) rfl rfl rfl ?_
    refine sr ?_
    refine wc_cs hm1 ?_ ?_ <;> clear hm1 <;> intro hm1
    ·refine sr ?_
     obtain ⟨e32, hy, hm1⟩ := obnd_o hm1
     refine wl_r (o_ixg (ys := [dS e32.lo.key, dB e32.lo.top, dS e32.hi.key, dB e32.hi.top]) hy rfl rfl rfl rfl) rfl rfl rfl ?_
     refine sr ?_
     refine wl_r (o_inc hltm28 hlenm28 rfl rfl rfl) rfl rfl rfl ?_
     refine ss ?_
     exact wk_loopw [(102, 102), (111, 111)] ⟨m28 + 1, _, _, _, rfl, hltm28, hm1, rfl⟩ (by omega)
    refine sx ?_
    refine sr ?_
    refine wl_r (o_inc hltm28 hlenm28 rfl rfl rfl) rfl rfl rfl ?_
    refine ss ?_
    exact wk_loopw [(102, 102), (111, 111)] ⟨m28 + 1, _, _, _, rfl, hltm28, hm1, rfl⟩ (by omega)
   refine sx ?_
   refine sr ?_
   refine wl_r (o_inc hltm28 hlenm28 rfl rfl rfl) rfl rfl rfl ?_
   refine ss ?_
   exact wk_loopw [(102, 102), (111, 111)] ⟨m28 + 1, _, _, _, rfl, hltm28, hm1, rfl⟩ (by omega)
  ·rw [drop_n hgem28, Mreceipt_Tiling_l2.eq_1] at hm1
   refine sr ?_
   refine wc_seq ?_
   refine wc_cond_ff (lt_f hgem28) rfl ?_
   refine wc_exit ?_
   refine ss ?_
   cases hm1
   exact wk_cutw [(102, 102)] ⟨_, rfl, rfl⟩
 rintro _ ⟨i33, rfl, rfl⟩
 replace hm := ocbnd_n hm
 refine sr ?_
 refine wl_sg hm ?_ ?_ <;> clear hm <;> intro hm
 ·refine ss ?_
  refine wl_sg hm ?_ ?_ <;> clear hm <;> intro hm
  ·refine ss ?_
   refine wc_cs hm ?_ ?_ <;> clear hm <;> intro hm
   ·refine sr ?_
    refine sx ?_
    cases hm
    exact wk_r
   refine sx ?_
   refine sr ?_
   refine sx ?_
   cases hm
   exact wk_r
  refine ss ?_
  refine wc_cs hm ?_ ?_ <;> clear hm <;> intro hm
  ·refine sr ?_
   refine sx ?_
   cases hm
   exact wk_r
  refine sx ?_
  refine sr ?_
  refine sx ?_
  cases hm
  exact wk_r
 refine ss ?_
 refine wc_cond_f rfl ?_
 refine sx ?_
 refine sr ?_
 refine sx ?_
 cases hm
 exact wk_r

def Mreceipt_Check_l1 (r1 : TReceipt) : List (List TVisit) → Option (Ctl (TAnswer × Int) Unit)
  | [] =>
  some (Ctl.nxt ())
  | r2 :: xs3 =>
  obnd (Mreceipt_Tiling r1.Query r2) fun y5 =>
  sel (!decide (y5 = 0)) (
   some (Ctl.ret ((TAnswer.mk [] (TFold.mk 0 0 0 0 0 ⟨#[]⟩ ⟨#[]⟩)), y5))) (
   Mreceipt_Check_l1 r1 xs3)
def Mreceipt_Check_l2 (r1 : TReceipt) : List TVisit → Int → Option (Ctl (TAnswer × Int) Unit)
  | [], i =>
  some (Ctl.nxt ())
  | r6 :: xs7, i =>
  obnd (lget r1.Second i) fun e9 =>
  obnd (Mreceipt_Same r6 e9) fun y10 =>
  sel (!y10) (
   some (Ctl.ret ((TAnswer.mk [] (TFold.mk 0 0 0 0 0 ⟨#[]⟩ ⟨#[]⟩)), 11))) (
   Mreceipt_Check_l2 r1 xs7 (i + 1))
def Mreceipt_Check (r1 : TReceipt) : Option (TAnswer × Int) :=
 obnd (
  Mreceipt_Check_l1 r1 ([r1.First, r1.Second] : List (List TVisit)) : Option (Ctl (TAnswer × Int) Unit)) fun mu => ocbnd mu fun (_ : Unit) =>
 sel (!decide ((r1.First.length : Int) = (r1.Second.length : Int))) (
  some ((TAnswer.mk [] (TFold.mk 0 0 0 0 0 ⟨#[]⟩ ⟨#[]⟩)), 11)) (
  obnd (
   Mreceipt_Check_l2 r1 r1.First 0 : Option (Ctl (TAnswer × Int) Unit)) fun mu => ocbnd mu fun (_ : Unit) =>
  obnd (Mreceipt_rows r1.First) fun y11 =>
  obnd (Mquery_Take r1.Query y11) fun y12 =>
  obnd (Mfold_Of y12) fun y13 =>
  some ((TAnswer.mk y12 y13), 0))
theorem Mreceipt_Check_sp {r1 : TReceipt} {y : (TAnswer × Int)} (hm : Mreceipt_Check r1 = some y) : Spec Tryz.prog 21 [.a [vI r1.Query.Kind, .d (lst Rng.ds r1.Query.Ranges), vS r1.Query.Key, vI r1.Query.Count, .d (lst TVisit.ds r1.First), .d (lst TVisit.ds r1.Second)]] [] fun u h => u = .t [.a [.d (lst Kv.ds y.1.Rows), vI y.1.Fold.Count, vI y.1.Fold.Numbers, vI y.1.Fold.Sum, vI y.1.Fold.Low, vI y.1.Fold.High, vS y.1.Fold.First, vS y.1.Fold.Last], vI y.2] ∧ h = [] := by
 refine si Tryz.func21 Tryz.ntmps21 Tryz.results21 fun B w0 ρ0 => ?_
 unfold Mreceipt_Check at hm
 refine sr ?_
 refine sr ?_
 refine wl_bt (dsL TVisit.ds) [r1.First, r1.Second] rfl rfl (by simp only [flatV, cellsV, List.cons_append, List.nil_append, List.append_nil]; exact rfl) rfl rfl rfl rfl rfl rfl ?_
 refine ss ?_
 obtain ⟨mu1, hm1, hm⟩ := obnd_o hm
 refine wc_cut' (fun st => mu1 = Ctl.nxt () ∧ st = ⟨[(1, .p 101 0), (2, .p 102 0)], [(101, some (.box 32 [vI r1.Query.Kind, .d (lst Rng.ds r1.Query.Ranges), vS r1.Query.Key, vI r1.Query.Count, .d (lst TVisit.ds r1.First), .d (lst TVisit.ds r1.Second)])), (102, some (.box 77 [.d (.c (.slice none 0 0)), vI 0, vI 0, vI 0, vI 0, vI 0, vS ⟨#[]⟩, vS ⟨#[]⟩]))]⟩) ?_ ?_
 ·refine wc_block ?_
  refine wc_len 14 rfl (fun hlenm4 => ?_)
  refine wc_loopw (fun κ st => ∃ (m4 : Nat) , κ = ([r1.First, r1.Second] : List (List TVisit)).length - m4 ∧ m4 ≤ ([r1.First, r1.Second] : List (List TVisit)).length ∧ Mreceipt_Check_l1 r1 (([r1.First, r1.Second] : List (List TVisit)).drop m4) = some mu1 ∧ st = ⟨[(1, .p 101 0), (2, .p 102 0), (14, .d (lst (dsL TVisit.ds) ([r1.First, r1.Second] : List (List TVisit)))), (15, vI (([r1.First, r1.Second] : List (List TVisit)).length : Int)), (16, vI (m4 : Int))], [(101, some (.box 32 [vI r1.Query.Kind, .d (lst Rng.ds r1.Query.Ranges), vS r1.Query.Key, vI r1.Query.Count, .d (lst TVisit.ds r1.First), .d (lst TVisit.ds r1.Second)])), (102, some (.box 77 [.d (.c (.slice none 0 0)), vI 0, vI 0, vI 0, vI 0, vI 0, vS ⟨#[]⟩, vS ⟨#[]⟩]))]⟩) [(101, 101), (102, 102)] ⟨0, rfl, Nat.zero_le _, hm1, rfl⟩ ?_
  rintro κ _ ⟨m4, rfl, hlem4, hm1, rfl⟩
  rcases Nat.lt_or_ge m4 ([r1.First, r1.Second] : List (List TVisit)).length with hltm4 | hgem4
  ·obtain ⟨r2, hxm4, hdr⟩ := drop_c hltm4
   rw [hdr, Mreceipt_Check_l1.eq_2] at hm1
   refine sr ?_
   refine wc_seq ?_
   refine wc_cond_tt (lt_t hltm4) rfl ?_
   refine sx ?_
   refine sr ?_
   refine wl_r (o_ixm (ys := [lst TVisit.ds r2]) hxm4 rfl rfl rfl rfl) rfl rfl rfl ?_
   refine sr ?_
   obtain ⟨y5, hy, hm1⟩ := obnd_o hm1
   refine wl_cq (Mreceipt_Tiling_sp (hm := hy)) ?_
   refine sr ?_
   refine wc_cs hm1 ?_ ?_ <;> clear hm1 <;> intro hm1
   ·refine sr ?_
    refine sx ?_
    cases hm1
    replace hm := ocbnd_r hm
    cases hm
    exact wk_r
   refine sx ?_
   refine sr ?_
   refine wl_r (o_inc hltm4 hlenm4 rfl rfl rfl) rfl rfl rfl ?_
   refine ss ?_
   exact wk_loopw [(101, 101), (102, 102)] ⟨m4 + 1, rfl, hltm4, hm1, rfl⟩ (by omega)
  ·rw [drop_n hgem4, Mreceipt_Check_l1.eq_1] at hm1
   refine sr ?_
   refine wc_seq ?_
   refine wc_cond_ff (lt_f hgem4) rfl ?_
   refine wc_exit ?_
   refine ss ?_
   cases hm1
   exact wk_cutw [(101, 101), (102, 102)] ⟨rfl, rfl⟩
 rintro _ ⟨rfl, rfl⟩
 replace hm := ocbnd_n hm
 refine sr ?_
 refine wc_cs hm ?_ ?_ <;> clear hm <;> intro hm
 ·refine sr ?_
  refine sx ?_
  cases hm
  exact wk_r
 refine sx ?_
 refine sr ?_
 obtain ⟨mu1, hm1, hm⟩ := obnd_o hm
 refine wc_cut' (fun st => mu1 = Ctl.nxt () ∧ st = ⟨[(1, .p 101 0), (2, .p 102 0)], [(101, some (.box 32 [vI r1.Query.Kind, .d (lst Rng.ds r1.Query.Ranges), vS r1.Query.Key, vI r1.Query.Count, .d (lst TVisit.ds r1.First), .d (lst TVisit.ds r1.Second)])), (102, some (.box 77 [.d (.c (.slice none 0 0)), vI 0, vI 0, vI 0, vI 0, vI 0, vS ⟨#[]⟩, vS ⟨#[]⟩]))]⟩) ?_ ?_
 ·refine wc_block ?_
  refine wc_len 38 rfl (fun hlenm8 => ?_)
  refine wc_loopw (fun κ st => ∃ (m8 : Nat) , κ = r1.First.length - m8 ∧ m8 ≤ r1.First.length ∧ Mreceipt_Check_l2 r1 (r1.First.drop m8) (m8 : Int) = some mu1 ∧ st = ⟨[(1, .p 101 0), (2, .p 102 0), (38, .d (lst TVisit.ds r1.First)), (39, vI (r1.First.length : Int)), (40, vI (m8 : Int))], [(101, some (.box 32 [vI r1.Query.Kind, .d (lst Rng.ds r1.Query.Ranges), vS r1.Query.Key, vI r1.Query.Count, .d (lst TVisit.ds r1.First), .d (lst TVisit.ds r1.Second)])), (102, some (.box 77 [.d (.c (.slice none 0 0)), vI 0, vI 0, vI 0, vI 0, vI 0, vS ⟨#[]⟩, vS ⟨#[]⟩]))]⟩) [(101, 101), (102, 102)] ⟨0, rfl, Nat.zero_le _, hm1, rfl⟩ ?_
  rintro κ _ ⟨m8, rfl, hlem8, hm1, rfl⟩
  rcases Nat.lt_or_ge m8 r1.First.length with hltm8 | hgem8
  ·obtain ⟨r6, hxm8, hdr⟩ := drop_c hltm8
   rw [hdr, Mreceipt_Check_l2.eq_2] at hm1
   refine sr ?_
   refine wc_seq ?_
   refine wc_cond_tt (lt_t hltm8) rfl ?_
   refine sx ?_
   refine sr ?_
   refine wl_r (o_ixm (ys := [dI r6.View.Owner, dS r6.View.Interval.lo.key, dB r6.View.Interval.lo.top, dS r6.View.Interval.hi.key, dB r6.View.Interval.hi.top, dI r6.View.Stamp.Epoch, dI r6.View.Stamp.Version, lst Kv.ds r6.View.Rows, dS r6.Part.lo.key, dB r6.Part.lo.top, dS r6.Part.hi.key, dB r6.Part.hi.top]) hxm8 rfl rfl rfl rfl) rfl rfl rfl ?_
   refine ss ?_
   refine wc_seq ?_
   refine wc_draw (id := 13) [⟨0, 0, [8]⟩, ⟨1, 0, [1]⟩, ⟨2, 2, [46]⟩, ⟨3, 0, [7]⟩, ⟨4, 14, [47, 48]⟩, ⟨5, 30, [49]⟩, ⟨6, 63, [45, 50]⟩, ⟨7, 127, [51]⟩] mixed (by kernel_rfl) ?_
   refine ss ?_
   obtain ⟨e9, hy, hm1⟩ := obnd_o hm1
   refine wd_r [] (o_ixg (ys := [dI e9.View.Owner, dS e9.View.Interval.lo.key, dB e9.View.Interval.lo.top, dS e9.View.Interval.hi.key, dB e9.View.Interval.hi.top, dI e9.View.Stamp.Epoch, dI e9.View.Stamp.Version, lst Kv.ds e9.View.Rows, dS e9.Part.lo.key, dB e9.Part.lo.top, dS e9.Part.hi.key, dB e9.Part.hi.top]) hy rfl rfl rfl rfl) rfl (by first | exact .no rfl | exact .y rfl rfl rfl rfl) rfl rfl ?_
   refine ss ?_
   obtain ⟨y10, hy, hm1⟩ := obnd_o hm1
   refine wd_cs (Mreceipt_Same_sp (hm := hy)) rfl rfl rfl (by repeat (first | exact Vws.nil | apply Vws.cons | exact Vw.nil | exact Vw.d _ | exact Vw.q _ | apply Vw.a)) rfl rfl (by first | exact .no rfl | exact .y rfl rfl rfl rfl) rfl rfl rfl ?_
   refine ss ?_
   refine wc_cs hm1 ?_ ?_ <;> clear hm1 <;> intro hm1
   ·refine sr ?_
    refine sx ?_
    cases hm1
    replace hm := ocbnd_r hm
    cases hm
    exact wk_r
   refine sx ?_
   refine sr ?_
   refine wl_r (o_inc hltm8 hlenm8 rfl rfl rfl) rfl rfl rfl ?_
   refine ss ?_
   exact wk_loopw [(101, 101), (102, 102)] ⟨m8 + 1, rfl, hltm8, hm1, rfl⟩ (by omega)
  ·rw [drop_n hgem8, Mreceipt_Check_l2.eq_1] at hm1
   refine sr ?_
   refine wc_seq ?_
   refine wc_cond_ff (lt_f hgem8) rfl ?_
   refine wc_exit ?_
   refine ss ?_
   cases hm1
   exact wk_cutw [(101, 101), (102, 102)] ⟨rfl, rfl⟩
 rintro _ ⟨rfl, rfl⟩
 replace hm := ocbnd_n hm
 refine ss ?_
 refine wc_seq ?_
 refine wc_draw (id := 16) [⟨0, 0, [1]⟩, ⟨1, 1, [55]⟩, ⟨2, 0, [1]⟩, ⟨3, 4, [57]⟩, ⟨4, 12, [58]⟩, ⟨5, 31, [56, 59]⟩, ⟨6, 63, [60]⟩] mixed (by kernel_rfl) ?_
 refine ss ?_
 obtain ⟨y11, hy, hm⟩ := obnd_o hm
 refine wd_cs (Mreceipt_rows_sp (hm := hy)) rfl rfl rfl (by repeat (first | exact Vws.nil | apply Vws.cons | exact Vw.nil | exact Vw.d _ | exact Vw.q _ | apply Vw.a)) rfl rfl (by first | exact .no rfl | exact .y rfl rfl rfl rfl) rfl rfl rfl ?_
 refine ss ?_
 obtain ⟨y12, hy, hm⟩ := obnd_o hm
 refine wd_cs (Mquery_Take_sp (hm := hy)) rfl rfl rfl (by repeat (first | exact Vws.nil | apply Vws.cons | exact Vw.nil | exact Vw.d _ | exact Vw.q _ | apply Vw.a)) rfl rfl (by first | exact .no rfl | exact .y rfl rfl rfl rfl) rfl rfl rfl ?_
 refine sr ?_
 obtain ⟨y13, hy, hm⟩ := obnd_o hm
 refine wl_cq (Mfold_Of_sp (hm := hy)) ?_
 refine sx ?_
 cases hm
 exact wk_r

end Go.Proofs.YtohpjdeohpamaaaGreat
