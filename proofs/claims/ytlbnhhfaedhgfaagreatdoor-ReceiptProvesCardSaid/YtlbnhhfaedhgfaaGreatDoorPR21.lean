/-
  Lemmas: Models and walks: intersections, clones, cuts, what the walks share.
-/
import Derived.Test.YtlbnhhfaedhgfaaGreatDoorPR18
import Derived.Test.YtlbnhhfaedhgfaaGreatDoorPR19
namespace Go.Proofs.YtlbnhhfaedhgfaaGreatDoor
set_option linter.unusedSimpArgs false
set_option linter.unusedVariables false
open Go.RowKit
set_option maxRecDepth 100000
set_option maxHeartbeats 4000000
attribute [local irreducible] WK WC WL Wk Rel OpD OpV WD WO sel bnd obnd app lget lsl sget ssl scat letg iquo irem Op.bytesLess
attribute [local irreducible] qchk qranges union
structure TStamp where
  Epoch : Int
  Version : Int
  deriving DecidableEq
def TStamp.ds (x : TStamp) : List D := [dI x.Epoch, dI x.Version]
instance : Len TStamp.ds 2 := ⟨fun _ => rfl⟩

structure TView where
  Owner : Int
  Interval : Rng
  Stamp : TStamp
  Rows : List Kv
  deriving DecidableEq
def TView.ds (x : TView) : List D := [dI x.Owner, dS x.Interval.lo.key, dB x.Interval.lo.top, dS x.Interval.hi.key, dB x.Interval.hi.top, dI x.Stamp.Epoch, dI x.Stamp.Version, lst Kv.ds x.Rows]
instance : Len TView.ds 8 := ⟨fun _ => rfl⟩

structure TVisit where
  View : TView
  Part : Rng
  deriving DecidableEq
def TVisit.ds (x : TVisit) : List D := [dI x.View.Owner, dS x.View.Interval.lo.key, dB x.View.Interval.lo.top, dS x.View.Interval.hi.key, dB x.View.Interval.hi.top, dI x.View.Stamp.Epoch, dI x.View.Stamp.Version, lst Kv.ds x.View.Rows, dS x.Part.lo.key, dB x.Part.lo.top, dS x.Part.hi.key, dB x.Part.hi.top]
instance : Len TVisit.ds 12 := ⟨fun _ => rfl⟩

structure TReceipt where
  Query : TQuery
  First : List TVisit
  Second : List TVisit
  deriving DecidableEq
def TReceipt.ds (x : TReceipt) : List D := [dI x.Query.Kind, lst Rng.ds x.Query.Ranges, dS x.Query.Key, dI x.Query.Count, lst TVisit.ds x.First, lst TVisit.ds x.Second]
instance : Len TReceipt.ds 6 := ⟨fun _ => rfl⟩

def Mref1_greatest (a1 : Bnd) (b2 : Bnd) : Bnd :=
 bnd (Mref1_Compare a1 b2) fun y3 =>
 sel (decide (0 ≤ y3)) (
  a1) (
  b2)
theorem Mref1_greatest_sp {a1 : Bnd} {b2 : Bnd} {y : Bnd} (hm : Mref1_greatest a1 b2 = y) : Spec Tryz.prog 99 [.a [vS a1.key, vB a1.top], .a [vS b2.key, vB b2.top]] [] fun u h => u = .a [vS y.key, vB y.top] ∧ h = [] := by
 refine Spec.intro Tryz.func99 rfl rfl Tryz.ntmps99 Tryz.results99 rfl fun B w0 ρ0 => ?_
 simp only [slots, List.map_nil, List.map_cons, Nat.reduceAdd]
 unfold Mref1_greatest at hm
 have hm0 := hm
 clear hm
 refine sr ?_
 refine sr ?_
 obtain ⟨y3, hy, hm0⟩ := bnd_o hm0
 refine wl_cq (Mref1_Compare_sp (hm := hy)) ?_
 refine ss ?_
 refine wc_cs hm0 ?_ ?_ <;> clear hm0 <;> intro hm0
 ·refine sr ?_
  refine sx ?_
  subst hm0
  exact wk_r
 refine sx ?_
 refine sr ?_
 refine sx ?_
 subst hm0
 exact wk_r

def Mref1_least (a1 : Bnd) (b2 : Bnd) : Bnd :=
 bnd (Mref1_Compare a1 b2) fun y3 =>
 sel (decide (y3 ≤ 0)) (
  a1) (
  b2)
theorem Mref1_least_sp {a1 : Bnd} {b2 : Bnd} {y : Bnd} (hm : Mref1_least a1 b2 = y) : Spec Tryz.prog 107 [.a [vS a1.key, vB a1.top], .a [vS b2.key, vB b2.top]] [] fun u h => u = .a [vS y.key, vB y.top] ∧ h = [] := by
 refine Spec.intro Tryz.func107 rfl rfl Tryz.ntmps107 Tryz.results107 rfl fun B w0 ρ0 => ?_
 simp only [slots, List.map_nil, List.map_cons, Nat.reduceAdd]
 unfold Mref1_least at hm
 have hm0 := hm
 clear hm
 refine sr ?_
 refine sr ?_
 obtain ⟨y3, hy, hm0⟩ := bnd_o hm0
 refine wl_cq (Mref1_Compare_sp (hm := hy)) ?_
 refine ss ?_
 refine wc_cs hm0 ?_ ?_ <;> clear hm0 <;> intro hm0
 ·refine sr ?_
  refine sx ?_
  subst hm0
  exact wk_r
 refine sx ?_
 refine sr ?_
 refine sx ?_
 subst hm0
 exact wk_r

def Mref1_proper (r1 : Rng) : Rng :=
 bnd (Mref1_Empty r1) fun y2 =>
 sel y2 (
  (Rng.mk (Bnd.mk ⟨#[]⟩ false) (Bnd.mk ⟨#[]⟩ false))) (
  r1)
theorem Mref1_proper_sp {r1 : Rng} {y : Rng} (hm : Mref1_proper r1 = y) : Spec Tryz.prog 106 [.a [vS r1.lo.key, vB r1.lo.top, vS r1.hi.key, vB r1.hi.top]] [] fun u h => u = .a [vS y.lo.key, vB y.lo.top, vS y.hi.key, vB y.hi.top] ∧ h = [] := by
 refine Spec.intro Tryz.func106 rfl rfl Tryz.ntmps106 Tryz.results106 rfl fun B w0 ρ0 => ?_
 simp only [slots, List.map_nil, List.map_cons, Nat.reduceAdd]
 unfold Mref1_proper at hm
 have hm0 := hm
 clear hm
 refine sr ?_
 refine sr ?_
 obtain ⟨y2, hy, hm0⟩ := bnd_o hm0
 refine wl_cq (Mref1_Empty_sp (hm := hy)) ?_
 refine ss ?_
 refine wc_cs hm0 ?_ ?_ <;> clear hm0 <;> intro hm0
 ·refine sr ?_
  refine sx ?_
  subst hm0
  exact wk_r
 refine sx ?_
 refine sr ?_
 refine sx ?_
 subst hm0
 exact wk_r

def Mref1_Intersect (a1 : Rng) (b2 : Rng) : Rng :=
 bnd (
  bnd (Mref1_Empty a1) fun y3 =>
  sel y3 (
   true) (
   bnd (Mref1_Empty b2) fun y4 =>
   y4) : Bool) fun x5 =>
 sel x5 (
  (Rng.mk (Bnd.mk ⟨#[]⟩ false) (Bnd.mk ⟨#[]⟩ false))) (
  bnd (Mref1_greatest a1.lo b2.lo) fun y6 =>
  bnd (Mref1_least a1.hi b2.hi) fun y7 =>
  bnd (Mref1_proper (Rng.mk y6 y7)) fun y8 =>
  y8)
theorem Mref1_Intersect_sp {a1 : Rng} {b2 : Rng} {y : Rng} (hm : Mref1_Intersect a1 b2 = y) : Spec Tryz.prog 41 [.a [vS a1.lo.key, vB a1.lo.top, vS a1.hi.key, vB a1.hi.top], .a [vS b2.lo.key, vB b2.lo.top, vS b2.hi.key, vB b2.hi.top]] [] fun u h => u = .a [vS y.lo.key, vB y.lo.top, vS y.hi.key, vB y.hi.top] ∧ h = [] := by
 refine Spec.intro Tryz.func41 rfl rfl Tryz.ntmps41 Tryz.results41 rfl fun B w0 ρ0 => ?_
 simp only [slots, List.map_nil, List.map_cons, Nat.reduceAdd]
 unfold Mref1_Intersect at hm
 have hm0 := hm
 clear hm
 refine sr ?_
 refine wc_seq ?_
 refine wc_seq ?_
 obtain ⟨mu1, hm1, hm0⟩ := bnd_o hm0
 refine wc_cut' (fun st => ∃ (x5 : Bool), x5 = mu1 ∧ st = ⟨[(2, .p 102 0), (3, .p 103 0), (4, .p 104 0), (10, vB x5)], [(102, some (.box 42 [vS a1.lo.key, vB a1.lo.top, vS a1.hi.key, vB a1.hi.top])), (103, some (.box 42 [vS b2.lo.key, vB b2.lo.top, vS b2.hi.key, vB b2.hi.top])), (104, some (.box 42 [vS ⟨#[]⟩, vB false, vS ⟨#[]⟩, vB false]))]⟩) ?_ ?_
 ·refine sr ?_
  obtain ⟨y3, hy, hm1⟩ := bnd_o hm1
  refine wl_cq (Mref1_Empty_sp (hm := hy)) ?_
  refine ss ?_
  refine wl_sg hm1 ?_ ?_ <;> clear hm1 <;> intro hm1
  ·refine ss ?_
   subst hm1
   exact wk_cutw [(102, 102), (103, 103), (104, 104)] ⟨_, rfl, rfl⟩
  refine ss ?_
  obtain ⟨y4, hy, hm1⟩ := bnd_o hm1
  refine wl_cq (Mref1_Empty_sp (hm := hy)) ?_
  refine ss ?_
  subst hm1
  exact wk_cutw [(102, 102), (103, 103), (104, 104)] ⟨_, rfl, rfl⟩
 rintro _ ⟨x5, rfl, rfl⟩
 refine ss ?_
 refine wc_cs hm0 ?_ ?_ <;> clear hm0 <;> intro hm0
 ·refine sr ?_
  refine sx ?_
  subst hm0
  exact wk_r
 refine sx ?_
 refine wc_seq ?_
 refine wc_draw (id := 3) [⟨0, 0, [2]⟩, ⟨1, 1, [12]⟩, ⟨2, 0, [3]⟩, ⟨3, 4, [14]⟩, ⟨5, 0, [2]⟩, ⟨6, 32, [17]⟩, ⟨7, 0, [3]⟩, ⟨8, 128, [19]⟩, ⟨4, 15, [13, 15]⟩, ⟨9, 511, [18, 20]⟩, ⟨10, 1023, [16, 21]⟩, ⟨11, 2047, [22]⟩, ⟨12, 4095, [4, 23]⟩] mixed (by kernel_rfl) ?_
 refine ss ?_
 obtain ⟨y6, hy, hm0⟩ := bnd_o hm0
 refine wd_cs (Mref1_greatest_sp (hm := hy)) rfl rfl rfl (by repeat (first | exact Vws.nil | apply Vws.cons | exact Vw.nil | exact Vw.d _ | exact Vw.q _ | apply Vw.a)) rfl rfl (by first | exact .no rfl | exact .y rfl rfl rfl rfl) rfl rfl rfl ?_
 refine ss ?_
 obtain ⟨y7, hy, hm0⟩ := bnd_o hm0
 refine wd_cs (Mref1_least_sp (hm := hy)) rfl rfl rfl (by repeat (first | exact Vws.nil | apply Vws.cons | exact Vw.nil | exact Vw.d _ | exact Vw.q _ | apply Vw.a)) rfl rfl (by first | exact .no rfl | exact .y rfl rfl rfl rfl) rfl rfl rfl ?_
 refine ss ?_
 obtain ⟨y8, hy, hm0⟩ := bnd_o hm0
 refine wd_cs (Mref1_proper_sp (hm := hy)) rfl rfl rfl (by repeat (first | exact Vws.nil | apply Vws.cons | exact Vw.nil | exact Vw.d _ | exact Vw.q _ | apply Vw.a)) rfl rfl (by first | exact .no rfl | exact .y rfl rfl rfl rfl) rfl rfl rfl ?_
 refine sx ?_
 subst hm0
 exact wk_r

def Mclone_List_api_Range_ (l1 : List Rng) : Option (List Rng) :=
 obnd (app ([] : List Rng) l1) fun l2 =>
 some l2
theorem Mclone_List_api_Range__sp {l1 : List Rng} {y : List Rng} (hm : Mclone_List_api_Range_ l1 = some y) : Spec Tryz.prog 96 [.d (lst Rng.ds l1)] [] fun u h => u = .d (lst Rng.ds y) ∧ h = [] := by
 refine Spec.intro Tryz.func96 rfl rfl Tryz.ntmps96 Tryz.results96 rfl fun B w0 ρ0 => ?_
 simp only [slots, List.map_nil, List.map_cons, Nat.reduceAdd]
 unfold Mclone_List_api_Range_ at hm
 have hm0 := hm
 clear hm
 refine sr ?_
 refine sr ?_
 obtain ⟨l2, hy, hm0⟩ := obnd_o hm0
 refine wl_1 (n_appn (k := 104) hy rfl rfl rfl rfl rfl rfl) rfl rfl rfl rfl ?_
 refine sx ?_
 cases hm0
 exact wk_r

def Mclone_Query (q1 : TQuery) : Option TQuery :=
 obnd (Mclone_List_api_Range_ q1.Ranges) fun y2 =>
 some (TQuery.mk q1.Kind y2 q1.Key q1.Count)
theorem Mclone_Query_sp {q1 : TQuery} {y : TQuery} (hm : Mclone_Query q1 = some y) : Spec Tryz.prog 95 [.a [vI q1.Kind, .d (lst Rng.ds q1.Ranges), vS q1.Key, vI q1.Count]] [] fun u h => u = .a [vI y.Kind, .d (lst Rng.ds y.Ranges), vS y.Key, vI y.Count] ∧ h = [] := by
 refine Spec.intro Tryz.func95 rfl rfl Tryz.ntmps95 Tryz.results95 rfl fun B w0 ρ0 => ?_
 simp only [slots, List.map_nil, List.map_cons, Nat.reduceAdd]
 unfold Mclone_Query at hm
 have hm0 := hm
 clear hm
 refine sr ?_
 refine sr ?_
 obtain ⟨y2, hy, hm0⟩ := obnd_o hm0
 refine wl_cq (Mclone_List_api_Range__sp (hm := hy)) ?_
 refine sr ?_
 refine sx ?_
 cases hm0
 exact wk_r

def Mclone_View (v1 : TView) : Option TView :=
 obnd (Mclone_List_api_Row_ v1.Rows) fun y2 =>
 some (TView.mk v1.Owner v1.Interval v1.Stamp y2)
theorem Mclone_View_sp {v1 : TView} {y : TView} (hm : Mclone_View v1 = some y) : Spec Tryz.prog 186 [.a [vI v1.Owner, vS v1.Interval.lo.key, vB v1.Interval.lo.top, vS v1.Interval.hi.key, vB v1.Interval.hi.top, vI v1.Stamp.Epoch, vI v1.Stamp.Version, .d (lst Kv.ds v1.Rows)]] [] fun u h => u = .a [vI y.Owner, vS y.Interval.lo.key, vB y.Interval.lo.top, vS y.Interval.hi.key, vB y.Interval.hi.top, vI y.Stamp.Epoch, vI y.Stamp.Version, .d (lst Kv.ds y.Rows)] ∧ h = [] := by
 refine Spec.intro Tryz.func186 rfl rfl Tryz.ntmps186 Tryz.results186 rfl fun B w0 ρ0 => ?_
 simp only [slots, List.map_nil, List.map_cons, Nat.reduceAdd]
 unfold Mclone_View at hm
 have hm0 := hm
 clear hm
 refine sr ?_
 refine sr ?_
 obtain ⟨y2, hy, hm0⟩ := obnd_o hm0
 refine wl_cq (Mclone_List_api_Row__sp (hm := hy)) ?_
 refine sr ?_
 refine sx ?_
 cases hm0
 exact wk_r

def Mclone_List_api_Visit_ (l1 : List TVisit) : Option (List TVisit) :=
 obnd (app ([] : List TVisit) l1) fun l2 =>
 some l2
theorem Mclone_List_api_Visit__so0 {l1 : List TVisit} {y : List TVisit} (hm : Mclone_List_api_Visit_ l1 = some y) : Spec Tryz.prog 185 [.d (lst TVisit.ds l1)] [] fun u h => u = .h 1 ∧ h = [(1, some (arrT 62 12 TVisit.ds y))] := by
 refine Spec.intro Tryz.func185 rfl rfl Tryz.ntmps185 Tryz.results185 rfl fun B w0 ρ0 => ?_
 simp only [slots, List.map_nil, List.map_cons, Nat.reduceAdd]
 unfold Mclone_List_api_Visit_ at hm
 have hm0 := hm
 clear hm
 refine sr ?_
 refine sr ?_
 obtain ⟨l2, hy, hm0⟩ := obnd_o hm0
 refine wl_1 (n_appn (k := 104) hy rfl rfl rfl rfl rfl rfl) rfl rfl rfl rfl ?_
 refine sx ?_
 cases hm0
 exact wk_reti [(1, 104)] ⟨rfl, rfl⟩
def Mclone_Visits_l1 (y2 : List TVisit) : Nat → List TVisit → Int → Option (List TVisit)
  | 0, _, _ => none
  | fuel + 1, l3, x4 =>
  obnd (
   sel (decide (x4 < (y2.length : Int))) (
    some (Ctl.nxt ())) (
    some (Ctl.ret l3)) : Option (Ctl (List TVisit) Unit)) fun mu => ocbnd mu fun (_ : Unit) =>
  obnd (lget l3 x4) fun e5 =>
  obnd (Mclone_View e5.View) fun y6 =>
  obnd (lget l3 x4) fun e7 =>
  bnd ((TVisit.mk y6 e7.Part)) fun e9 =>
  bnd (l3.set (Int.toNat x4) e9) fun l8 =>
  Mclone_Visits_l1 y2 fuel l8 (i64w (x4 + 1))
def Mclone_Visits (l1 : List TVisit) : Option (List TVisit) :=
 obnd (Mclone_List_api_Visit_ l1) fun y2 =>
 obnd (
  Mclone_Visits_l1 y2 FU y2 0 : Option (List TVisit)) fun l10 =>
 some l10
theorem Mclone_Visits_sp {l1 : List TVisit} {y : List TVisit} (hm : Mclone_Visits l1 = some y) : Spec Tryz.prog 157 [.d (lst TVisit.ds l1)] [] fun u h => u = .d (lst TVisit.ds y) ∧ h = [] := by
 refine Spec.intro Tryz.func157 rfl rfl Tryz.ntmps157 Tryz.results157 rfl fun B w0 ρ0 => ?_
 simp only [slots, List.map_nil, List.map_cons, Nat.reduceAdd]
 unfold Mclone_Visits at hm
 have hm0 := hm
 clear hm
 refine sr ?_
 refine sr ?_
 obtain ⟨y2, hy, hm0⟩ := obnd_o hm0
 refine wl_mkn (u' := .h 200501) (h' := [(200501, some (arrT 62 12 TVisit.ds y2))]) (Mclone_List_api_Visit__so0 (hm := hy)) 200500 rfl rfl rfl (by repeat (first | exact Vws.nil | apply Vws.cons | exact Vw.nil | exact Vw.d _ | exact Vw.q _ | apply Vw.a)) rfl (by (try simp only [renH, Option.map_some, Blk.ren, rens_d]); rfl) rfl rfl rfl rfl ?_
 refine sr ?_
 obtain ⟨mu1, hm1, hm0⟩ := obnd_o hm0
 refine wc_cut' (fun st => ∃ (l10 : List TVisit), l10 = mu1 ∧ st = ⟨[(0, .d (lst TVisit.ds l10))], []⟩) ?_ ?_
 ·refine wc_block ?_
  refine wc_loopw (fun κ st => ∃ (l3 : List TVisit) (x4 : Int), Mclone_Visits_l1 y2 κ l3 x4 = some mu1 ∧ st = ⟨[(0, .h 5001), (7, vI (y2.length : Int)), (8, vI x4)], [(5001, some (arrT 62 12 TVisit.ds l3))]⟩) [(5001, 200501)] ⟨_, _, hm1, rfl⟩ ?_
  rintro κ _ ⟨l3, x4, hm1, rfl⟩
  cases κ with
  | zero => rw [Mclone_Visits_l1.eq_1] at hm1; cases hm1
  | succ κ =>
   rw [Mclone_Visits_l1.eq_2] at hm1
   refine sr ?_
   refine wc_seq ?_
   obtain ⟨mu2, hm2, hm1⟩ := obnd_o hm1
   refine wc_cut' (fun st => mu2 = Ctl.nxt () ∧ st = ⟨[(0, .h 5001), (7, vI (y2.length : Int)), (8, vI x4)], [(5001, some (arrT 62 12 TVisit.ds l3))]⟩) ?_ ?_
   ·refine wc_cs hm2 ?_ ?_ <;> clear hm2 <;> intro hm2
    ·refine sx ?_
     cases hm2
     exact wk_cutw [(5001, 5001)] ⟨rfl, rfl⟩
    refine wc_exit ?_
    refine ss ?_
    cases hm2
    replace hm1 := ocbnd_r hm1
    cases hm1
    exact wk_cutw [] ⟨_, rfl, rfl⟩
   rintro _ ⟨rfl, rfl⟩
   replace hm1 := ocbnd_n hm1
   refine sr ?_
   refine sr ?_
   obtain ⟨e5, hy, hm1⟩ := obnd_o hm1
   have hge5 := hy
   refine wl_r (o_ixo hy rfl rfl rfl rfl) rfl rfl rfl ?_
   refine ss ?_
   refine wl_r (o_ldo (k := 5001) (f := TVisit.ds) (zz := 12) (u := .a [vI e5.View.Owner, vS e5.View.Interval.lo.key, vB e5.View.Interval.lo.top, vS e5.View.Interval.hi.key, vB e5.View.Interval.hi.top, vI e5.View.Stamp.Epoch, vI e5.View.Stamp.Version, .d (lst Kv.ds e5.View.Rows)]) (off := 0) hge5 rfl rfl rfl (by exact inferInstance) rfl rfl) rfl rfl rfl ?_
   refine ss ?_
   obtain ⟨y6, hy, hm1⟩ := obnd_o hm1
   refine wl_cq (Mclone_View_sp (hm := hy)) ?_
   refine ss ?_
   obtain ⟨e7, hy, hm1⟩ := obnd_o hm1
   have hge7 := hy
   refine wl_r (o_ixo hy rfl rfl rfl rfl) rfl rfl rfl ?_
   refine ss ?_
   obtain ⟨e9, hy, hm1⟩ := bnd_o hm1
   have hxe9 := hy
   refine ss ?_
   obtain ⟨l8, hy, hm1⟩ := bnd_o hm1
   refine wl_0 (lo := 0) (nn := 0) (o_sto (k := 5001) (f := TVisit.ds) (zz := 12) (off := 0) hge7 hy rfl rfl rfl rfl (by exact inferInstance) rfl (by rw [← hxe9]; rfl)) rfl rfl (fresh0 _ _) ?_
   have hge9 := lget_set hge7 e9
   rw [hy] at hge9
   refine sr ?_
   refine wl_r (o_add rfl rfl rfl rfl) rfl rfl rfl ?_
   refine ss ?_
   exact wk_loopw [(5001, 5001)] ⟨_, _, hm1, rfl⟩ (Nat.lt_succ_self _)
 rintro _ ⟨l10, rfl, rfl⟩
 refine sr ?_
 refine sx ?_
 cases hm0
 exact wk_r

structure TWalk where
  Query : TQuery
  Todo : List Rng
  Visits : List TVisit
  deriving DecidableEq
def TWalk.ds (x : TWalk) : List D := [dI x.Query.Kind, lst Rng.ds x.Query.Ranges, dS x.Query.Key, dI x.Query.Count, lst Rng.ds x.Todo, lst TVisit.ds x.Visits]
instance : Len TWalk.ds 6 := ⟨fun _ => rfl⟩
def Mstamp_Valid (s1 : TStamp) : Bool :=
 sel (decide (0 ≤ s1.Epoch)) (
  sel (decide (s1.Epoch ≤ 1099511627776)) (
   sel (decide (0 ≤ s1.Version)) (
    decide (s1.Version ≤ 1099511627776)) (
    false)) (
   false)) (
  false)
theorem Mstamp_Valid_sp {s1 : TStamp} {y : Bool} (hm : Mstamp_Valid s1 = y) : Spec Tryz.prog 147 [.a [vI s1.Epoch, vI s1.Version]] [] fun u h => u = vB y ∧ h = [] := by
 refine Spec.intro Tryz.func147 rfl rfl Tryz.ntmps147 Tryz.results147 rfl fun B w0 ρ0 => ?_
 simp only [slots, List.map_nil, List.map_cons, Nat.reduceAdd]
 unfold Mstamp_Valid at hm
 have hm0 := hm
 clear hm
 refine sr ?_
 refine sr ?_
 refine wl_sg hm0 ?_ ?_ <;> clear hm0 <;> intro hm0
 ·refine ss ?_
  refine wl_sg hm0 ?_ ?_ <;> clear hm0 <;> intro hm0
  ·refine ss ?_
   refine wl_sg hm0 ?_ ?_ <;> clear hm0 <;> intro hm0
   ·refine sx ?_
    subst hm0
    exact wk_r
   refine sx ?_
   subst hm0
   exact wk_r
  refine sx ?_
  subst hm0
  exact wk_r
 refine sx ?_
 subst hm0
 exact wk_r

def Mref23_Valid (s1 : TStamp) : Bool :=
 sel (decide (0 ≤ s1.Epoch)) (
  sel (decide (s1.Epoch ≤ 1099511627776)) (
   sel (decide (0 ≤ s1.Version)) (
    decide (s1.Version ≤ 1099511627776)) (
    false)) (
   false)) (
  false)
theorem Mref23_Valid_sp {s1 : TStamp} {y : Bool} (hm : Mref23_Valid s1 = y) : Spec Tryz.prog 138 [.a [vI s1.Epoch, vI s1.Version]] [] fun u h => u = vB y ∧ h = [] := by
 refine Spec.intro Tryz.func138 rfl rfl Tryz.ntmps138 Tryz.results138 rfl fun B w0 ρ0 => ?_
 simp only [slots, List.map_nil, List.map_cons, Nat.reduceAdd]
 unfold Mref23_Valid at hm
 have hm0 := hm
 clear hm
 refine sr ?_
 refine sr ?_
 refine wl_sg hm0 ?_ ?_ <;> clear hm0 <;> intro hm0
 ·refine ss ?_
  refine wl_sg hm0 ?_ ?_ <;> clear hm0 <;> intro hm0
  ·refine ss ?_
   refine wl_sg hm0 ?_ ?_ <;> clear hm0 <;> intro hm0
   ·refine sx ?_
    subst hm0
    exact wk_r
   refine sx ?_
   subst hm0
   exact wk_r
  refine sx ?_
  subst hm0
  exact wk_r
 refine sx ?_
 subst hm0
 exact wk_r

def Mref24_Number (n1 : Int) : Bool :=
 sel (decide (1 ≤ n1)) (
  decide (n1 ≤ 2147483647)) (
  false)
theorem Mref24_Number_sp {n1 : Int} {y : Bool} (hm : Mref24_Number n1 = y) : Spec Tryz.prog 140 [vI n1] [] fun u h => u = vB y ∧ h = [] := by
 refine Spec.intro Tryz.func140 rfl rfl Tryz.ntmps140 Tryz.results140 rfl fun B w0 ρ0 => ?_
 simp only [slots, List.map_nil, List.map_cons, Nat.reduceAdd]
 unfold Mref24_Number at hm
 have hm0 := hm
 clear hm
 refine sr ?_
 refine sr ?_
 refine wl_sg hm0 ?_ ?_ <;> clear hm0 <;> intro hm0
 ·refine sx ?_
  subst hm0
  exact wk_r
 refine sx ?_
 subst hm0
 exact wk_r

def Mref24_SameRange (a1 : Rng) (b2 : Rng) : Bool :=
 bnd (Mref1_Compare a1.lo b2.lo) fun y3 =>
 sel (decide (y3 = 0)) (
  bnd (Mref1_Compare a1.hi b2.hi) fun y4 =>
  decide (y4 = 0)) (
  false)
theorem Mref24_SameRange_sp {a1 : Rng} {b2 : Rng} {y : Bool} (hm : Mref24_SameRange a1 b2 = y) : Spec Tryz.prog 39 [.a [vS a1.lo.key, vB a1.lo.top, vS a1.hi.key, vB a1.hi.top], .a [vS b2.lo.key, vB b2.lo.top, vS b2.hi.key, vB b2.hi.top]] [] fun u h => u = vB y ∧ h = [] := by
 refine Spec.intro Tryz.func39 rfl rfl Tryz.ntmps39 Tryz.results39 rfl fun B w0 ρ0 => ?_
 simp only [slots, List.map_nil, List.map_cons, Nat.reduceAdd]
 unfold Mref24_SameRange at hm
 have hm0 := hm
 clear hm
 refine sr ?_
 refine sr ?_
 obtain ⟨y3, hy, hm0⟩ := bnd_o hm0
 refine wl_cq (Mref1_Compare_sp (hm := hy)) ?_
 refine ss ?_
 refine wl_sg hm0 ?_ ?_ <;> clear hm0 <;> intro hm0
 ·refine ss ?_
  obtain ⟨y4, hy, hm0⟩ := bnd_o hm0
  refine wl_cq (Mref1_Compare_sp (hm := hy)) ?_
  refine sx ?_
  subst hm0
  exact wk_r
 refine sx ?_
 subst hm0
 exact wk_r

def Mref20_Within_l1 (r2 : Rng) : List Kv → Ctl Bool Unit
  | [] =>
  Ctl.nxt ()
  | r3 :: xs4 =>
  bnd (Mref1_Contains r2 r3.key) fun y6 =>
  sel (!y6) (
   Ctl.ret false) (
   Mref20_Within_l1 r2 xs4)
def Mref20_Within (t1 : List Kv) (r2 : Rng) : Bool :=
 bnd (
  Mref20_Within_l1 r2 t1 : Ctl Bool Unit) fun mu => cbnd mu fun (_ : Unit) =>
 true
theorem Mref20_Within_sp {t1 : List Kv} {r2 : Rng} {y : Bool} (hm : Mref20_Within t1 r2 = y) : Spec Tryz.prog 139 [.d (lst Kv.ds t1), .a [vS r2.lo.key, vB r2.lo.top, vS r2.hi.key, vB r2.hi.top]] [] fun u h => u = vB y ∧ h = [] := by
 refine Spec.intro Tryz.func139 rfl rfl Tryz.ntmps139 Tryz.results139 rfl fun B w0 ρ0 => ?_
 simp only [slots, List.map_nil, List.map_cons, Nat.reduceAdd]
 unfold Mref20_Within at hm
 have hm0 := hm
 clear hm
 refine sr ?_
 refine sr ?_
 obtain ⟨mu1, hm1, hm0⟩ := bnd_o hm0
 refine wc_cut' (fun st => mu1 = Ctl.nxt () ∧ st = ⟨[], []⟩) ?_ ?_
 ·refine wc_block ?_
  refine wc_len 7 rfl (fun hlenm5 => ?_)
  refine wc_loopw (fun κ st => ∃ (m5 : Nat) , κ = t1.length - m5 ∧ m5 ≤ t1.length ∧ Mref20_Within_l1 r2 (t1.drop m5) = mu1 ∧ st = ⟨[(3, .p 103 0), (7, .d (lst Kv.ds t1)), (8, vI (t1.length : Int)), (9, vI (m5 : Int))], [(103, some (.box 42 [vS r2.lo.key, vB r2.lo.top, vS r2.hi.key, vB r2.hi.top]))]⟩) [(103, 103)] ⟨0, rfl, Nat.zero_le _, hm1, rfl⟩ ?_
  rintro κ _ ⟨m5, rfl, hlem5, hm1, rfl⟩
  rcases Nat.lt_or_ge m5 t1.length with hltm5 | hgem5
  ·obtain ⟨r3, hxm5, hdr⟩ := drop_c hltm5
   rw [hdr, Mref20_Within_l1.eq_2] at hm1
   refine sr ?_
   refine wc_seq ?_
   refine wc_cond_tt (lt_t hltm5) rfl ?_
   refine sx ?_
   refine sr ?_
   refine wl_r (o_ixm (ys := [dS r3.key, dS r3.val]) hxm5 rfl rfl rfl rfl) rfl rfl rfl ?_
   refine sr ?_
   obtain ⟨y6, hy, hm1⟩ := bnd_o hm1
   refine wl_cq (Mref1_Contains_sp (hm := hy)) ?_
   refine ss ?_
   refine wc_cs hm1 ?_ ?_ <;> clear hm1 <;> intro hm1
   ·refine sr ?_
    refine sx ?_
    subst hm1
    replace hm0 := cbnd_r hm0
    subst hm0
    exact wk_r
   refine sx ?_
   refine sr ?_
   refine wl_r (o_inc hltm5 hlenm5 rfl rfl rfl) rfl rfl rfl ?_
   refine ss ?_
   exact wk_loopw [(103, 103)] ⟨m5 + 1, rfl, hltm5, hm1, rfl⟩ (by omega)
  ·rw [drop_n hgem5, Mref20_Within_l1.eq_1] at hm1
   refine sr ?_
   refine wc_seq ?_
   refine wc_cond_ff (lt_f hgem5) rfl ?_
   refine wc_exit ?_
   refine ss ?_
   subst hm1
   exact wk_cutw [] ⟨rfl, rfl⟩
 rintro _ ⟨rfl, rfl⟩
 replace hm0 := cbnd_n hm0
 refine sr ?_
 refine sx ?_
 subst hm0
 exact wk_r

def Mwld_Tape_Cuts_l2 (out6 : List Bnd) (y8 : (Bnd × TTape)) : Nat → List Int → Int → Int → Option (List Int × Int × Int)
  | 0, _, _, _ => none
  | fuel + 1, x9, x10, k11 =>
  sel (decide (0 < k11)) (
   obnd (lget out6 (i64w (k11 - 1))) fun e12 =>
   bnd (Mref1_Compare e12 y8.1) fun y13 =>
   sel (decide (0 < y13)) (
    obnd (Mwld_Tape_Bool (TTape.mk x9 x10) 20) fun y14 =>
    sel (!y14.1) (
     Mwld_Tape_Cuts_l2 out6 y8 fuel y14.2.l y14.2.at_ (i64w (k11 - 1))) (
     some (y14.2.l, y14.2.at_, k11))) (
    some (x9, x10, k11))) (
   some (x9, x10, k11))
def Mwld_Tape_Cuts_l1 : Nat → List Int → Int → List Bnd → Int → Option (List Bnd × List Int × Int)
  | 0, _, _, _, _ => none
  | fuel + 1, x4, x5, out6, i7 =>
  obnd (
   sel (decide (0 < i7)) (
    some (Ctl.nxt ())) (
    some (Ctl.ret (out6, x4, x5))) : Option (Ctl (List Bnd × List Int × Int) Unit)) fun mu => ocbnd mu fun (_ : Unit) =>
  obnd (
   obnd (Mwld_Tape_Bound (TTape.mk x4 x5)) fun y8 =>
   obnd (
    Mwld_Tape_Cuts_l2 out6 y8 FU y8.2.l y8.2.at_ (out6.length : Int) : Option (List Int × Int × Int)) fun (x15, x16, k17) =>
   obnd (
    sel (decide (0 < k17)) (
     obnd (lget out6 (i64w (k17 - 1))) fun e18 =>
     bnd (Mref1_Compare e18 y8.1) fun y19 =>
     sel (decide (y19 = 0)) (
      obnd (Mwld_Tape_Bool (TTape.mk x15 x16) 20) fun y20 =>
      sel (!y20.1) (
       some (y20.2.l, y20.2.at_, true)) (
       bnd (Mref1_ValidBound y8.1) fun y21 =>
       sel (!y21) (
        obnd (Mwld_Tape_Bool y20.2 20) fun y22 =>
        some (y22.2.l, y22.2.at_, !y22.1)) (
        some (y20.2.l, y20.2.at_, false)))) (
      bnd (Mref1_ValidBound y8.1) fun y23 =>
      sel (!y23) (
       obnd (Mwld_Tape_Bool (TTape.mk x15 x16) 20) fun y24 =>
       some (y24.2.l, y24.2.at_, !y24.1)) (
       some (x15, x16, false)))) (
     bnd (Mref1_ValidBound y8.1) fun y25 =>
     sel (!y25) (
      obnd (Mwld_Tape_Bool (TTape.mk x15 x16) 20) fun y26 =>
      some (y26.2.l, y26.2.at_, !y26.1)) (
      some (x15, x16, false))) : Option (List Int × Int × Bool)) fun (x27, x28, x29) =>
   obnd (
    sel x29 (
     some (Ctl.ret (x27, x28, out6))) (
     some (Ctl.nxt ())) : Option (Ctl (List Int × Int × List Bnd) Unit)) fun mu => ocbnd mu fun (_ : Unit) =>
   obnd (lsl out6 0 k17) fun l30 =>
   obnd (app ([] : List Bnd) l30) fun l31 =>
   obnd (app l31 ([y8.1] : List Bnd)) fun l32 =>
   obnd (lsl out6 k17 (out6.length : Int)) fun l33 =>
   obnd (app l32 l33) fun l34 =>
   some (x27, x28, l34) : Option (List Int × Int × List Bnd)) fun (x35, x36, out37) =>
  Mwld_Tape_Cuts_l1 fuel x35 x36 out37 (i64w (i7 - 1))
def Mwld_Tape_Cuts (t1 : TTape) (n2 : Int) : Option (List Bnd × TTape) :=
 obnd (Mwld_Tape_Next t1 (i64w (n2 + 1))) fun y3 =>
 obnd (
  Mwld_Tape_Cuts_l1 FU y3.2.l y3.2.at_ [] y3.1 : Option (List Bnd × List Int × Int)) fun (out38, x39, x40) =>
 some (out38, (TTape.mk x39 x40))
theorem Mwld_Tape_Cuts_sp {t1 : TTape} {n2 : Int} {y : (List Bnd × TTape)} (hm : Mwld_Tape_Cuts t1 n2 = some y) : Spec Tryz.prog 62 [.p 0 0, vI n2] [(0, some (.box 119 [.d (lst dsI t1.l), vI t1.at_]))] fun u h => u = .d (lst Bnd.ds y.1) ∧ h = [(0, some (.box 119 [.d (lst dsI y.2.l), vI y.2.at_]))] := by
 refine Spec.intro Tryz.func62 rfl rfl Tryz.ntmps62 Tryz.results62 rfl fun B w0 ρ0 => ?_
 simp only [slots, List.map_nil, List.map_cons, Nat.reduceAdd]
 unfold Mwld_Tape_Cuts at hm
 have hm0 := hm
 clear hm
 refine sr ?_
 refine sr ?_
 refine sr ?_
 refine wl_r (o_add rfl rfl rfl rfl) rfl rfl rfl ?_
 refine ss ?_
 obtain ⟨y3, hy, hm0⟩ := obnd_o hm0
 refine wl_iq (Mwld_Tape_Next_sp (hm := hy)) 0 ?_
 refine ss ?_
 obtain ⟨mu1, hm1, hm0⟩ := obnd_o hm0
 refine wc_cut' (fun st => ∃ (out38 : List Bnd) (x39 : List Int) (x40 : Int), mu1 = (out38, x39, x40) ∧ st = ⟨[(5, .d (lst Bnd.ds out38))], [(0, some (.box 119 [.d (lst dsI x39), vI x40]))]⟩) ?_ ?_
 ·refine wc_block ?_
  refine wc_loopw (fun κ st => ∃ (x4 : List Int) (x5 : Int) (out6 : List Bnd) (i7 : Int), Mwld_Tape_Cuts_l1 κ x4 x5 out6 i7 = some mu1 ∧ st = ⟨[(0, .p 0 0), (5, .d (lst Bnd.ds out6)), (6, vI i7)], [(0, some (.box 119 [.d (lst dsI x4), vI x5]))]⟩) [(0, 0)] ⟨_, _, _, _, hm1, rfl⟩ ?_
  rintro κ _ ⟨x4, x5, out6, i7, hm1, rfl⟩
  cases κ with
  | zero => rw [Mwld_Tape_Cuts_l1.eq_1] at hm1; cases hm1
  | succ κ =>
   rw [Mwld_Tape_Cuts_l1.eq_2] at hm1
   refine sr ?_
   obtain ⟨mu2, hm2, hm1⟩ := obnd_o hm1
   refine wc_cut' (fun st => mu2 = Ctl.nxt () ∧ st = ⟨[(0, .p 0 0), (5, .d (lst Bnd.ds out6)), (6, vI i7)], [(0, some (.box 119 [.d (lst dsI x4), vI x5]))]⟩) ?_ ?_
   ·refine wc_cs hm2 ?_ ?_ <;> clear hm2 <;> intro hm2
    ·refine sx ?_
     cases hm2
     exact wk_cutw [(0, 0)] ⟨rfl, rfl⟩
    refine wc_exit ?_
    refine ss ?_
    cases hm2
    replace hm1 := ocbnd_r hm1
    cases hm1
    exact wk_cutw [(0, 0)] ⟨_, _, _, rfl, rfl⟩
   rintro _ ⟨rfl, rfl⟩
   replace hm1 := ocbnd_n hm1
   refine ss ?_
   refine wc_seq ?_
   obtain ⟨mu2, hm2, hm1⟩ := obnd_o hm1
   refine wc_cut' (fun st => ∃ (x35 : List Int) (x36 : Int) (out37 : List Bnd), mu2 = (x35, x36, out37) ∧ st = ⟨[(0, .p 0 0), (5, .d (lst Bnd.ds out37)), (6, vI i7)], [(0, some (.box 119 [.d (lst dsI x35), vI x36]))]⟩) ?_ ?_
   ·refine sr ?_
    obtain ⟨y8, hy, hm2⟩ := obnd_o hm2
    refine wl_iq (Mwld_Tape_Bound_sp (hm := hy)) 0 ?_
    refine sr ?_
    refine wc_seq ?_
    obtain ⟨mu3, hm3, hm2⟩ := obnd_o hm2
    refine wc_cut' (fun st => ∃ (x15 : List Int) (x16 : Int) (k17 : Int), mu3 = (x15, x16, k17) ∧ st = ⟨[(0, .p 0 0), (5, .d (lst Bnd.ds out6)), (6, vI i7), (7, .p 107 0), (8, vI k17)], [(0, some (.box 119 [.d (lst dsI x15), vI x16])), (107, some (.box 40 [vS y8.1.key, vB y8.1.top]))]⟩) ?_ ?_
    ·refine wc_block ?_
     refine wc_loopw (fun κ st => ∃ (x9 : List Int) (x10 : Int) (k11 : Int), Mwld_Tape_Cuts_l2 out6 y8 κ x9 x10 k11 = some mu3 ∧ st = ⟨[(0, .p 0 0), (5, .d (lst Bnd.ds out6)), (6, vI i7), (7, .p 107 0), (8, vI k11)], [(0, some (.box 119 [.d (lst dsI x9), vI x10])), (107, some (.box 40 [vS y8.1.key, vB y8.1.top]))]⟩) [(0, 0), (107, 107)] ⟨_, _, _, hm3, rfl⟩ ?_
     rintro κ _ ⟨x9, x10, k11, hm3, rfl⟩
     cases κ with
     | zero => rw [Mwld_Tape_Cuts_l2.eq_1] at hm3; cases hm3
     | succ κ =>
      rw [Mwld_Tape_Cuts_l2.eq_2] at hm3
      refine wc_seq ?_
      refine wc_seq ?_
      refine wc_draw (id := 7) [⟨0, 0, [8]⟩, ⟨1, 1, [21]⟩, ⟨2, 3, [22]⟩, ⟨3, 7, [5, 23]⟩, ⟨4, 7, [8, 23]⟩, ⟨5, 23, [23, 25]⟩, ⟨6, 63, [23, 24, 26]⟩, ⟨7, 127, [23, 27]⟩, ⟨8, 7, [7, 23]⟩, ⟨9, 511, [23, 28, 29]⟩, ⟨10, 1023, [23, 30]⟩, ⟨11, 2047, [23, 31]⟩, ⟨12, 4095, [32]⟩, ⟨13, 8191, [0, 33]⟩, ⟨14, 16383, [33, 34]⟩, ⟨15, 32767, [33, 35]⟩, ⟨16, 65535, [33, 36]⟩] mixed (by kernel_rfl) ?_
      refine ss ?_
      refine wd_gp rfl rfl rfl rfl (fun h => ?_) (fun h => ?_)
      ·replace hm3 := sel_t h hm3
       refine ss ?_
       obtain ⟨e12, hy, hm3⟩ := obnd_o hm3
       refine wd_r [] (o_ixg (ys := [dS e12.key, dB e12.top]) hy rfl rfl rfl rfl) rfl (by first | exact .no rfl | exact .y rfl rfl rfl rfl) rfl rfl ?_
       refine ss ?_
       obtain ⟨y13, hy, hm3⟩ := bnd_o hm3
       refine wd_cs (Mref1_Compare_sp (hm := hy)) rfl rfl rfl (by repeat (first | exact Vws.nil | apply Vws.cons | exact Vw.nil | exact Vw.d _ | exact Vw.q _ | apply Vw.a)) rfl rfl (by first | exact .no rfl | exact .y rfl rfl rfl rfl) rfl rfl rfl ?_
       refine ss ?_
       refine wd_gp rfl rfl rfl rfl (fun h => ?_) (fun h => ?_)
       ·replace hm3 := sel_t h hm3
        refine ss ?_
        obtain ⟨y14, hy, hm3⟩ := obnd_o hm3
        refine wd_io (Mwld_Tape_Bool_sp (hm := hy)) 0 rfl rfl rfl (by repeat (first | exact Vws.nil | apply Vws.cons | exact Vw.nil | exact Vw.d _ | exact Vw.q _ | exact Vw.p rfl | apply Vw.a)) rfl (Vb.box (by repeat (first | exact Vws.nil | apply Vws.cons | exact Vw.nil | exact Vw.d _ | exact Vw.q _ | exact Vw.p rfl | apply Vw.a))) rfl rfl rfl (by first | exact .no rfl | exact .y rfl rfl rfl rfl) rfl rfl rfl rfl ?_
        refine ss ?_
        refine wc_cs hm3 ?_ ?_ <;> clear hm3 <;> intro hm3
        ·refine sx ?_
         refine sr ?_
         exact wk_loopw [(0, 0), (107, 107)] ⟨_, _, _, hm3, rfl⟩ (Nat.lt_succ_self _)
        refine wc_exit ?_
        refine ss ?_
        cases hm3
        exact wk_cutw [(0, 0), (107, 107)] ⟨_, _, _, rfl, rfl⟩
       replace hm3 := sel_f h hm3
       refine ss ?_
       refine wc_cond_f rfl ?_
       refine wc_exit ?_
       refine ss ?_
       cases hm3
       exact wk_cutw [(0, 0), (107, 107)] ⟨_, _, _, rfl, rfl⟩
      replace hm3 := sel_f h hm3
      refine ss ?_
      refine wc_cond_f rfl ?_
      refine wc_exit ?_
      refine ss ?_
      cases hm3
      exact wk_cutw [(0, 0), (107, 107)] ⟨_, _, _, rfl, rfl⟩
    rintro _ ⟨x15, x16, k17, rfl, rfl⟩
    refine ss ?_
    refine wc_seq ?_
    refine wc_seq ?_
    obtain ⟨mu3, hm3, hm2⟩ := obnd_o hm2
    refine wc_cut' (fun st => ∃ (x27 : List Int) (x28 : Int) (x29 : Bool), mu3 = (x27, x28, x29) ∧ st = ⟨[(0, .p 0 0), (5, .d (lst Bnd.ds out6)), (6, vI i7), (7, .p 107 0), (8, vI k17), (66, vB x29)], [(0, some (.box 119 [.d (lst dsI x27), vI x28])), (107, some (.box 40 [vS y8.1.key, vB y8.1.top]))]⟩) ?_ ?_
    ·refine wc_draw (id := 9) [⟨0, 0, [8]⟩, ⟨1, 1, [40]⟩, ⟨2, 3, [41]⟩, ⟨3, 7, [5, 42]⟩, ⟨4, 7, [8, 42]⟩, ⟨5, 23, [42, 44]⟩, ⟨6, 63, [42, 43, 45]⟩, ⟨7, 127, [42, 46]⟩, ⟨8, 7, [7, 42]⟩, ⟨9, 511, [42, 47, 48]⟩, ⟨10, 1023, [42, 49]⟩, ⟨11, 2047, [42, 50]⟩, ⟨12, 4095, [51]⟩, ⟨13, 8191, [0, 52]⟩, ⟨14, 16383, [52, 53]⟩, ⟨15, 32767, [52, 54]⟩, ⟨16, 65535, [52, 55]⟩, ⟨17, 131071, [56]⟩, ⟨18, 262143, [7, 57]⟩, ⟨19, 524287, [57, 58]⟩, ⟨20, 1048575, [57, 59]⟩, ⟨21, 2097151, [57, 60]⟩, ⟨22, 4194303, [0, 61]⟩, ⟨23, 8388607, [61, 62]⟩, ⟨24, 16777215, [61, 63]⟩, ⟨25, 33554431, [57, 61, 64]⟩, ⟨26, 67108863, [57, 65]⟩] mixed (by kernel_rfl) ?_
     refine ss ?_
     refine wd_gp rfl rfl rfl rfl (fun h => ?_) (fun h => ?_)
     ·replace hm3 := sel_t h hm3
      refine ss ?_
      obtain ⟨e18, hy, hm3⟩ := obnd_o hm3
      refine wd_r [] (o_ixg (ys := [dS e18.key, dB e18.top]) hy rfl rfl rfl rfl) rfl (by first | exact .no rfl | exact .y rfl rfl rfl rfl) rfl rfl ?_
      refine ss ?_
      obtain ⟨y19, hy, hm3⟩ := bnd_o hm3
      refine wd_cs (Mref1_Compare_sp (hm := hy)) rfl rfl rfl (by repeat (first | exact Vws.nil | apply Vws.cons | exact Vw.nil | exact Vw.d _ | exact Vw.q _ | apply Vw.a)) rfl rfl (by first | exact .no rfl | exact .y rfl rfl rfl rfl) rfl rfl rfl ?_
      refine ss ?_
      refine wd_gp rfl rfl rfl rfl (fun h => ?_) (fun h => ?_)
      ·replace hm3 := sel_t h hm3
       refine ss ?_
       obtain ⟨y20, hy, hm3⟩ := obnd_o hm3
       refine wd_io (Mwld_Tape_Bool_sp (hm := hy)) 0 rfl rfl rfl (by repeat (first | exact Vws.nil | apply Vws.cons | exact Vw.nil | exact Vw.d _ | exact Vw.q _ | exact Vw.p rfl | apply Vw.a)) rfl (Vb.box (by repeat (first | exact Vws.nil | apply Vws.cons | exact Vw.nil | exact Vw.d _ | exact Vw.q _ | exact Vw.p rfl | apply Vw.a))) rfl rfl rfl (by first | exact .no rfl | exact .y rfl rfl rfl rfl) rfl rfl rfl rfl ?_
       refine ss ?_
       refine wd_gp rfl rfl rfl rfl (fun h => ?_) (fun h => ?_)
       ·replace hm3 := sel_t h hm3
        refine ss ?_
        cases hm3
        exact wk_cutw [(0, 0), (107, 107)] ⟨_, _, _, rfl, rfl⟩
       replace hm3 := sel_f h hm3
       refine ss ?_
       obtain ⟨y21, hy, hm3⟩ := bnd_o hm3
       refine wd_cs (Mref1_ValidBound_sp (hm := hy)) rfl rfl rfl (by repeat (first | exact Vws.nil | apply Vws.cons | exact Vw.nil | exact Vw.d _ | exact Vw.q _ | apply Vw.a)) rfl rfl (by first | exact .no rfl | exact .y rfl rfl rfl rfl) rfl rfl rfl ?_
       refine ss ?_
       refine wd_gp rfl rfl rfl rfl (fun h => ?_) (fun h => ?_)
       ·replace hm3 := sel_t h hm3
        refine ss ?_
        obtain ⟨y22, hy, hm3⟩ := obnd_o hm3
        refine wd_io (Mwld_Tape_Bool_sp (hm := hy)) 0 rfl rfl rfl (by repeat (first | exact Vws.nil | apply Vws.cons | exact Vw.nil | exact Vw.d _ | exact Vw.q _ | exact Vw.p rfl | apply Vw.a)) rfl (Vb.box (by repeat (first | exact Vws.nil | apply Vws.cons | exact Vw.nil | exact Vw.d _ | exact Vw.q _ | exact Vw.p rfl | apply Vw.a))) rfl rfl rfl (by first | exact .no rfl | exact .y rfl rfl rfl rfl) rfl rfl rfl rfl ?_
        refine ss ?_
        cases hm3
        exact wk_cutw [(0, 0), (107, 107)] ⟨_, _, _, rfl, rfl⟩
       replace hm3 := sel_f h hm3
       refine ss ?_
       cases hm3
       exact wk_cutw [(0, 0), (107, 107)] ⟨_, _, _, rfl, rfl⟩
      replace hm3 := sel_f h hm3
      refine ss ?_
      obtain ⟨y23, hy, hm3⟩ := bnd_o hm3
      refine wd_cs (Mref1_ValidBound_sp (hm := hy)) rfl rfl rfl (by repeat (first | exact Vws.nil | apply Vws.cons | exact Vw.nil | exact Vw.d _ | exact Vw.q _ | apply Vw.a)) rfl rfl (by first | exact .no rfl | exact .y rfl rfl rfl rfl) rfl rfl rfl ?_
      refine ss ?_
      refine wd_gp rfl rfl rfl rfl (fun h => ?_) (fun h => ?_)
      ·replace hm3 := sel_t h hm3
       refine ss ?_
       obtain ⟨y24, hy, hm3⟩ := obnd_o hm3
       refine wd_io (Mwld_Tape_Bool_sp (hm := hy)) 0 rfl rfl rfl (by repeat (first | exact Vws.nil | apply Vws.cons | exact Vw.nil | exact Vw.d _ | exact Vw.q _ | exact Vw.p rfl | apply Vw.a)) rfl (Vb.box (by repeat (first | exact Vws.nil | apply Vws.cons | exact Vw.nil | exact Vw.d _ | exact Vw.q _ | exact Vw.p rfl | apply Vw.a))) rfl rfl rfl (by first | exact .no rfl | exact .y rfl rfl rfl rfl) rfl rfl rfl rfl ?_
       refine ss ?_
       cases hm3
       exact wk_cutw [(0, 0), (107, 107)] ⟨_, _, _, rfl, rfl⟩
      replace hm3 := sel_f h hm3
      refine ss ?_
      cases hm3
      exact wk_cutw [(0, 0), (107, 107)] ⟨_, _, _, rfl, rfl⟩
     replace hm3 := sel_f h hm3
     refine ss ?_
     obtain ⟨y25, hy, hm3⟩ := bnd_o hm3
     refine wd_cs (Mref1_ValidBound_sp (hm := hy)) rfl rfl rfl (by repeat (first | exact Vws.nil | apply Vws.cons | exact Vw.nil | exact Vw.d _ | exact Vw.q _ | apply Vw.a)) rfl rfl (by first | exact .no rfl | exact .y rfl rfl rfl rfl) rfl rfl rfl ?_
     refine ss ?_
     refine wd_gp rfl rfl rfl rfl (fun h => ?_) (fun h => ?_)
     ·replace hm3 := sel_t h hm3
      refine ss ?_
      obtain ⟨y26, hy, hm3⟩ := obnd_o hm3
      refine wd_io (Mwld_Tape_Bool_sp (hm := hy)) 0 rfl rfl rfl (by repeat (first | exact Vws.nil | apply Vws.cons | exact Vw.nil | exact Vw.d _ | exact Vw.q _ | exact Vw.p rfl | apply Vw.a)) rfl (Vb.box (by repeat (first | exact Vws.nil | apply Vws.cons | exact Vw.nil | exact Vw.d _ | exact Vw.q _ | exact Vw.p rfl | apply Vw.a))) rfl rfl rfl (by first | exact .no rfl | exact .y rfl rfl rfl rfl) rfl rfl rfl rfl ?_
      refine ss ?_
      cases hm3
      exact wk_cutw [(0, 0), (107, 107)] ⟨_, _, _, rfl, rfl⟩
     replace hm3 := sel_f h hm3
     refine ss ?_
     cases hm3
     exact wk_cutw [(0, 0), (107, 107)] ⟨_, _, _, rfl, rfl⟩
    rintro _ ⟨x27, x28, x29, rfl, rfl⟩
    refine ss ?_
    obtain ⟨mu3, hm3, hm2⟩ := obnd_o hm2
    refine wc_cut' (fun st => mu3 = Ctl.nxt () ∧ st = ⟨[(0, .p 0 0), (5, .d (lst Bnd.ds out6)), (6, vI i7), (7, .p 107 0), (8, vI k17)], [(0, some (.box 119 [.d (lst dsI x27), vI x28])), (107, some (.box 40 [vS y8.1.key, vB y8.1.top]))]⟩) ?_ ?_
    ·refine wc_cs hm3 ?_ ?_ <;> clear hm3 <;> intro hm3
     ·refine wc_exit ?_
      refine ss ?_
      cases hm3
      replace hm2 := ocbnd_r hm2
      cases hm2
      exact wk_cutw [(0, 0)] ⟨_, _, _, rfl, rfl⟩
     refine sx ?_
     cases hm3
     exact wk_cutw [(0, 0), (107, 107)] ⟨rfl, rfl⟩
    rintro _ ⟨rfl, rfl⟩
    replace hm2 := ocbnd_n hm2
    refine ss ?_
    refine wc_draw (id := 10) [⟨0, 0, [5]⟩, ⟨1, 0, [8]⟩, ⟨2, 3, [67, 68]⟩, ⟨3, 7, [69]⟩, ⟨4, 0, [7]⟩, ⟨5, 16, [71]⟩, ⟨6, 63, [70, 72]⟩, ⟨7, 0, [5]⟩, ⟨8, 0, [8]⟩, ⟨9, 384, [74, 75]⟩, ⟨10, 1023, [73, 76]⟩, ⟨11, 2047, [77]⟩] mixed (by kernel_rfl) ?_
    refine ss ?_
    obtain ⟨l30, hy, hm2⟩ := obnd_o hm2
    refine wd_r [] (o_lsl hy rfl rfl rfl rfl) rfl (by first | exact .no rfl | exact .y rfl rfl rfl rfl) rfl rfl ?_
    refine ss ?_
    obtain ⟨l31, hy, hm2⟩ := obnd_o hm2
    refine wd_1 [] (n_appn (k := 170) hy rfl rfl rfl rfl rfl rfl) rfl (by first | exact .no rfl | exact .y rfl rfl rfl rfl) rfl rfl rfl ?_
    refine ss ?_
    refine wd_bt Bnd.ds [y8.1] rfl rfl (by simp only [flatV, cellsV, List.cons_append, List.nil_append, List.append_nil]; exact rfl) rfl rfl rfl rfl (by first | exact .no rfl | exact .y rfl rfl rfl rfl) rfl rfl ?_
    refine ss ?_
    obtain ⟨l32, hy, hm2⟩ := obnd_o hm2
    refine wd_app (k' := 173) hy rfl rfl rfl rfl rfl rfl rfl rfl (by first | exact .no rfl | exact .y rfl rfl rfl rfl) rfl rfl rfl ?_
    refine ss ?_
    obtain ⟨l33, hy, hm2⟩ := obnd_o hm2
    refine wd_r [] (o_lsl hy rfl rfl rfl rfl) rfl (by first | exact .no rfl | exact .y rfl rfl rfl rfl) rfl rfl ?_
    refine ss ?_
    obtain ⟨l34, hy, hm2⟩ := obnd_o hm2
    refine wd_app (k' := 177) hy rfl rfl rfl rfl rfl rfl rfl rfl (by first | exact .no rfl | exact .y rfl rfl rfl rfl) rfl rfl rfl ?_
    refine ss ?_
    cases hm2
    exact wk_cutw [(0, 0)] ⟨_, _, _, rfl, rfl⟩
   rintro _ ⟨x35, x36, out37, rfl, rfl⟩
   refine sr ?_
   exact wk_loopw [(0, 0)] ⟨_, _, _, _, hm1, rfl⟩ (Nat.lt_succ_self _)
 rintro _ ⟨out38, x39, x40, rfl, rfl⟩
 refine sr ?_
 refine sx ?_
 cases hm0
 exact wk_reti [(0, 0)] ⟨rfl, rfl⟩

end Go.Proofs.YtlbnhhfaedhgfaaGreatDoor
