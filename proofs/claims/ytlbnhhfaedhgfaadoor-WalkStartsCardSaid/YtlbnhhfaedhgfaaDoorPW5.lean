/-
  Lemmas: Models and walks: walks of a query through groups (the program's, the reference's), cuts. / Plain laws of the models: clones, starts of walks (the program's, the reference's), equality of walks. / Totality: a model ends, and what holds of its value. / Plain laws of the models: ranges divided at cuts; cuts that the tape makes: they end. / Models and walks: the law WalkStarts. / The law WalkStarts holds of its model.
-/
import Derived.Test.YtlbnhhfaedhgfaaDoorPW4
namespace Go.Proofs.YtlbnhhfaedhgfaaDoor
set_option linter.unusedSimpArgs false
set_option linter.unusedVariables false
open Go.RowKit
set_option maxRecDepth 100000
set_option maxHeartbeats 4000000
attribute [local irreducible] WK WC WL Wk Rel OpD OpV WD WO sel bnd obnd app lget lsl sget ssl scat letg iquo irem Op.bytesLess
attribute [local irreducible] qchk qranges union
def Mkeyspace_greater (a1 : Bnd) (b2 : Bnd) : Bnd :=
  bnd (Mkeyspace_Compare b2 a1) fun y3 =>
  sel (decide (0 < y3)) (
    b2) (
    a1)
theorem Mkeyspace_greater_sp {a1 : Bnd} {b2 : Bnd} {y : Bnd} (hm : Mkeyspace_greater a1 b2 = y) : Spec Tryd.prog 62 [.a [vS a1.key, vB a1.top], .a [vS b2.key, vB b2.top]] [] fun u h => u = .a [vS y.key, vB y.top] ∧ h = [] := by
  refine Spec.intro Tryd.func62 rfl rfl Tryd.ntmps62 Tryd.results62 rfl fun B w0 ρ0 => ?_
  simp only [slots, List.map_nil, List.map_cons, Nat.reduceAdd]
  unfold Mkeyspace_greater at hm
  have hm0 := hm
  clear hm
  refine sr ?_
  refine sr ?_
  obtain ⟨y3, hy, hm0⟩ := bnd_o hm0
  refine wl_cq (Mkeyspace_Compare_sp (hm := hy)) ?_
  refine ss ?_
  refine wc_cs hm0 ?_ ?_ <;> clear hm0 <;> intro hm0
  · refine sr ?_
    refine sx ?_
    subst hm0
    exact wk_ret ⟨rfl, rfl⟩
  refine sx ?_
  refine sr ?_
  refine sx ?_
  subst hm0
  exact wk_ret ⟨rfl, rfl⟩

def Mkeyspace_lesser (a1 : Bnd) (b2 : Bnd) : Bnd :=
  bnd (Mkeyspace_Compare b2 a1) fun y3 =>
  sel (decide (y3 < 0)) (
    b2) (
    a1)
theorem Mkeyspace_lesser_sp {a1 : Bnd} {b2 : Bnd} {y : Bnd} (hm : Mkeyspace_lesser a1 b2 = y) : Spec Tryd.prog 63 [.a [vS a1.key, vB a1.top], .a [vS b2.key, vB b2.top]] [] fun u h => u = .a [vS y.key, vB y.top] ∧ h = [] := by
  refine Spec.intro Tryd.func63 rfl rfl Tryd.ntmps63 Tryd.results63 rfl fun B w0 ρ0 => ?_
  simp only [slots, List.map_nil, List.map_cons, Nat.reduceAdd]
  unfold Mkeyspace_lesser at hm
  have hm0 := hm
  clear hm
  refine sr ?_
  refine sr ?_
  obtain ⟨y3, hy, hm0⟩ := bnd_o hm0
  refine wl_cq (Mkeyspace_Compare_sp (hm := hy)) ?_
  refine ss ?_
  refine wc_cs hm0 ?_ ?_ <;> clear hm0 <;> intro hm0
  · refine sr ?_
    refine sx ?_
    subst hm0
    exact wk_ret ⟨rfl, rfl⟩
  refine sx ?_
  refine sr ?_
  refine sx ?_
  subst hm0
  exact wk_ret ⟨rfl, rfl⟩

def Mkeyspace_Intersect (a1 : Rng) (b2 : Rng) : Rng :=
  bnd (Mkeyspace_greater a1.lo b2.lo) fun y3 =>
  bnd (Mkeyspace_lesser a1.hi b2.hi) fun y4 =>
  bnd (Mkeyspace_Empty a1) fun y5 =>
  sel y5 (
    (Rng.mk (Bnd.mk ⟨#[]⟩ false) (Bnd.mk ⟨#[]⟩ false))) (
    bnd (Mkeyspace_Empty b2) fun y6 =>
    sel y6 (
      (Rng.mk (Bnd.mk ⟨#[]⟩ false) (Bnd.mk ⟨#[]⟩ false))) (
      bnd (Mkeyspace_Empty (Rng.mk y3 y4)) fun y7 =>
      sel y7 (
        (Rng.mk (Bnd.mk ⟨#[]⟩ false) (Bnd.mk ⟨#[]⟩ false))) (
        (Rng.mk y3 y4))))
theorem Mkeyspace_Intersect_sp {a1 : Rng} {b2 : Rng} {y : Rng} (hm : Mkeyspace_Intersect a1 b2 = y) : Spec Tryd.prog 45 [.a [vS a1.lo.key, vB a1.lo.top, vS a1.hi.key, vB a1.hi.top], .a [vS b2.lo.key, vB b2.lo.top, vS b2.hi.key, vB b2.hi.top]] [] fun u h => u = .a [vS y.lo.key, vB y.lo.top, vS y.hi.key, vB y.hi.top] ∧ h = [] := by
  refine Spec.intro Tryd.func45 rfl rfl Tryd.ntmps45 Tryd.results45 rfl fun B w0 ρ0 => ?_
  simp only [slots, List.map_nil, List.map_cons, Nat.reduceAdd]
  unfold Mkeyspace_Intersect at hm
  have hm0 := hm
  clear hm
  refine sr ?_
  refine wc_seq ?_
  refine wc_draw (id := 1) [⟨0, 0, [2]⟩, ⟨1, 1, [6]⟩, ⟨2, 0, [3]⟩, ⟨3, 4, [8]⟩, ⟨5, 0, [2]⟩, ⟨6, 32, [11]⟩, ⟨7, 0, [3]⟩, ⟨8, 128, [13]⟩, ⟨11, 0, []⟩, ⟨4, 15, [7, 9]⟩, ⟨9, 511, [12, 14]⟩, ⟨10, 1023, [10, 15]⟩, ⟨12, 4095, [5, 16]⟩] mixed (by kernel_rfl) ?_
  refine ss ?_
  obtain ⟨y3, hy, hm0⟩ := bnd_o hm0
  refine wd_cs (Mkeyspace_greater_sp (hm := hy)) rfl rfl rfl (by repeat (first | exact Vws.nil | apply Vws.cons | exact Vw.nil | exact Vw.d _ | exact Vw.q _ | apply Vw.a)) rfl rfl (by first | exact .no rfl | exact .y rfl rfl rfl rfl) rfl rfl rfl ?_
  refine ss ?_
  obtain ⟨y4, hy, hm0⟩ := bnd_o hm0
  refine wd_cs (Mkeyspace_lesser_sp (hm := hy)) rfl rfl rfl (by repeat (first | exact Vws.nil | apply Vws.cons | exact Vw.nil | exact Vw.d _ | exact Vw.q _ | apply Vw.a)) rfl rfl (by first | exact .no rfl | exact .y rfl rfl rfl rfl) rfl rfl rfl ?_
  refine sr ?_
  obtain ⟨y5, hy, hm0⟩ := bnd_o hm0
  refine wl_cq (Mkeyspace_Empty_sp (hm := hy)) ?_
  refine ss ?_
  refine wl_sg hm0 ?_ ?_ <;> clear hm0 <;> intro hm0
  · refine ss ?_
    refine wc_cond_t rfl ?_
    refine sr ?_
    refine sx ?_
    subst hm0
    exact wk_ret ⟨rfl, rfl⟩
  refine ss ?_
  obtain ⟨y6, hy, hm0⟩ := bnd_o hm0
  refine wl_cq (Mkeyspace_Empty_sp (hm := hy)) ?_
  refine ss ?_
  refine wl_sg hm0 ?_ ?_ <;> clear hm0 <;> intro hm0
  · refine ss ?_
    refine wc_cond_t rfl ?_
    refine sr ?_
    refine sx ?_
    subst hm0
    exact wk_ret ⟨rfl, rfl⟩
  refine ss ?_
  obtain ⟨y7, hy, hm0⟩ := bnd_o hm0
  refine wl_cq (Mkeyspace_Empty_sp (hm := hy)) ?_
  refine ss ?_
  refine wc_cs hm0 ?_ ?_ <;> clear hm0 <;> intro hm0
  · refine sr ?_
    refine sx ?_
    subst hm0
    exact wk_ret ⟨rfl, rfl⟩
  refine sx ?_
  refine sr ?_
  refine sx ?_
  subst hm0
  exact wk_ret ⟨rfl, rfl⟩

def Mclone_List_api_Range_ (l1 : List Rng) : Option (List Rng) :=
  obnd (app ([] : List Rng) l1) fun l2 =>
  some l2
theorem Mclone_List_api_Range__sp {l1 : List Rng} {y : List Rng} (hm : Mclone_List_api_Range_ l1 = some y) : Spec Tryd.prog 38 [.d (lst Rng.ds l1)] [] fun u h => u = .d (lst Rng.ds y) ∧ h = [] := by
  refine Spec.intro Tryd.func38 rfl rfl Tryd.ntmps38 Tryd.results38 rfl fun B w0 ρ0 => ?_
  simp only [slots, List.map_nil, List.map_cons, Nat.reduceAdd]
  unfold Mclone_List_api_Range_ at hm
  have hm0 := hm
  clear hm
  refine sr ?_
  refine sr ?_
  obtain ⟨l2, hy, hm0⟩ := obnd_o hm0
  refine wl_1 (n_appn (k := 104) hy rfl rfl rfl rfl rfl rfl) rfl rfl rfl rfl ?_
  refine sx ?_
  obtain rfl := Option.some.inj hm0
  exact wk_ret ⟨rfl, rfl⟩

def Mclone_Query (q1 : TQuery) : Option TQuery :=
  obnd (Mclone_List_api_Range_ q1.Ranges) fun y2 =>
  some (TQuery.mk q1.Kind y2 q1.Key q1.Count)
theorem Mclone_Query_sp {q1 : TQuery} {y : TQuery} (hm : Mclone_Query q1 = some y) : Spec Tryd.prog 37 [.a [vI q1.Kind, .d (lst Rng.ds q1.Ranges), vS q1.Key, vI q1.Count]] [] fun u h => u = .a [vI y.Kind, .d (lst Rng.ds y.Ranges), vS y.Key, vI y.Count] ∧ h = [] := by
  refine Spec.intro Tryd.func37 rfl rfl Tryd.ntmps37 Tryd.results37 rfl fun B w0 ρ0 => ?_
  simp only [slots, List.map_nil, List.map_cons, Nat.reduceAdd]
  unfold Mclone_Query at hm
  have hm0 := hm
  clear hm
  refine sr ?_
  refine sr ?_
  obtain ⟨y2, hy, hm0⟩ := obnd_o hm0
  refine wl_cq (Mclone_List_api_Range__sp (hm := hy)) ?_
  refine sr ?_
  refine sx ?_
  obtain rfl := Option.some.inj hm0
  exact wk_ret ⟨rfl, rfl⟩

structure TStamp where
  Epoch : Int
  Version : Int
  deriving DecidableEq
def TStamp.ds (x : TStamp) : List D := [dI x.Epoch, dI x.Version]
instance : Len TStamp.ds 2 := ⟨fun _ => rfl⟩
structure TView where
  Owner : Int
  Interval : Rng
  Stamp : TStamp
  Rows : List Kv
  deriving DecidableEq
def TView.ds (x : TView) : List D := [dI x.Owner, dS x.Interval.lo.key, dB x.Interval.lo.top, dS x.Interval.hi.key, dB x.Interval.hi.top, dI x.Stamp.Epoch, dI x.Stamp.Version, lst Kv.ds x.Rows]
instance : Len TView.ds 8 := ⟨fun _ => rfl⟩
def Mclone_View (v1 : TView) : Option TView :=
  obnd (Mclone_List_api_Row_ v1.Rows) fun y2 =>
  some (TView.mk v1.Owner v1.Interval v1.Stamp y2)
theorem Mclone_View_sp {v1 : TView} {y : TView} (hm : Mclone_View v1 = some y) : Spec Tryd.prog 81 [.a [vI v1.Owner, vS v1.Interval.lo.key, vB v1.Interval.lo.top, vS v1.Interval.hi.key, vB v1.Interval.hi.top, vI v1.Stamp.Epoch, vI v1.Stamp.Version, .d (lst Kv.ds v1.Rows)]] [] fun u h => u = .a [vI y.Owner, vS y.Interval.lo.key, vB y.Interval.lo.top, vS y.Interval.hi.key, vB y.Interval.hi.top, vI y.Stamp.Epoch, vI y.Stamp.Version, .d (lst Kv.ds y.Rows)] ∧ h = [] := by
  refine Spec.intro Tryd.func81 rfl rfl Tryd.ntmps81 Tryd.results81 rfl fun B w0 ρ0 => ?_
  simp only [slots, List.map_nil, List.map_cons, Nat.reduceAdd]
  unfold Mclone_View at hm
  have hm0 := hm
  clear hm
  refine sr ?_
  refine sr ?_
  obtain ⟨y2, hy, hm0⟩ := obnd_o hm0
  refine wl_cq (Mclone_List_api_Row__sp (hm := hy)) ?_
  refine sr ?_
  refine sx ?_
  obtain rfl := Option.some.inj hm0
  exact wk_ret ⟨rfl, rfl⟩

structure TVisit where
  View : TView
  Part : Rng
  deriving DecidableEq
def TVisit.ds (x : TVisit) : List D := [dI x.View.Owner, dS x.View.Interval.lo.key, dB x.View.Interval.lo.top, dS x.View.Interval.hi.key, dB x.View.Interval.hi.top, dI x.View.Stamp.Epoch, dI x.View.Stamp.Version, lst Kv.ds x.View.Rows, dS x.Part.lo.key, dB x.Part.lo.top, dS x.Part.hi.key, dB x.Part.hi.top]
instance : Len TVisit.ds 12 := ⟨fun _ => rfl⟩
def Mclone_List_api_Visit_ (l1 : List TVisit) : Option (List TVisit) :=
  obnd (app ([] : List TVisit) l1) fun l2 =>
  some l2
theorem Mclone_List_api_Visit__so0 {l1 : List TVisit} {y : List TVisit} (hm : Mclone_List_api_Visit_ l1 = some y) : Spec Tryd.prog 80 [.d (lst TVisit.ds l1)] [] fun u h => u = .h 1 ∧ h = [(1, some (arrT 60 12 TVisit.ds y))] := by
  refine Spec.intro Tryd.func80 rfl rfl Tryd.ntmps80 Tryd.results80 rfl fun B w0 ρ0 => ?_
  simp only [slots, List.map_nil, List.map_cons, Nat.reduceAdd]
  unfold Mclone_List_api_Visit_ at hm
  have hm0 := hm
  clear hm
  refine sr ?_
  refine sr ?_
  obtain ⟨l2, hy, hm0⟩ := obnd_o hm0
  refine wl_1 (n_appn (k := 104) hy rfl rfl rfl rfl rfl rfl) rfl rfl rfl rfl ?_
  refine sx ?_
  obtain rfl := Option.some.inj hm0
  exact wk_reti [(1, 104)] ⟨rfl, rfl⟩
def Mclone_Visits_l1 (y2 : List TVisit) : Nat → List TVisit → Int → Option (List TVisit)
  | 0, _, _ => none
  | fuel + 1, l3, x4 =>
    obnd (
      sel (decide (x4 < (y2.length : Int))) (
        some (Ctl.nxt ())) (
        some (Ctl.ret l3)) : Option (Ctl (List TVisit) Unit)) fun mu => ocbnd mu fun (_ : Unit) =>
    obnd (lget l3 x4) fun e5 =>
    obnd (Mclone_View e5.View) fun y6 =>
    obnd (lget l3 x4) fun e7 =>
    bnd ((TVisit.mk y6 e7.Part)) fun e9 =>
    bnd (l3.set (Int.toNat x4) e9) fun l8 =>
    Mclone_Visits_l1 y2 fuel l8 (i64w (x4 + 1))
def Mclone_Visits (l1 : List TVisit) : Option (List TVisit) :=
  obnd (Mclone_List_api_Visit_ l1) fun y2 =>
  obnd (
    Mclone_Visits_l1 y2 FU y2 0 : Option (List TVisit)) fun l10 =>
  some l10
structure TWalk where
  Query : TQuery
  Todo : List Rng
  Visits : List TVisit
  deriving DecidableEq
def TWalk.ds (x : TWalk) : List D := [dI x.Query.Kind, lst Rng.ds x.Query.Ranges, dS x.Query.Key, dI x.Query.Count, lst Rng.ds x.Todo, lst TVisit.ds x.Visits]
instance : Len TWalk.ds 6 := ⟨fun _ => rfl⟩
def Mclone_Walk (w1 : TWalk) : Option TWalk :=
  obnd (Mclone_Query w1.Query) fun y2 =>
  obnd (Mclone_List_api_Range_ w1.Todo) fun y3 =>
  obnd (Mclone_Visits w1.Visits) fun y4 =>
  some (TWalk.mk y2 y3 y4)
def Mstamp_Valid (s1 : TStamp) : Bool :=
  sel (decide (0 ≤ s1.Epoch)) (
    sel (decide (s1.Epoch ≤ 1099511627776)) (
      sel (decide (0 ≤ s1.Version)) (
        decide (s1.Version ≤ 1099511627776)) (
        false)) (
      false)) (
    false)
theorem Mstamp_Valid_sp {s1 : TStamp} {y : Bool} (hm : Mstamp_Valid s1 = y) : Spec Tryd.prog 60 [.a [vI s1.Epoch, vI s1.Version]] [] fun u h => u = vB y ∧ h = [] := by
  refine Spec.intro Tryd.func60 rfl rfl Tryd.ntmps60 Tryd.results60 rfl fun B w0 ρ0 => ?_
  simp only [slots, List.map_nil, List.map_cons, Nat.reduceAdd]
  unfold Mstamp_Valid at hm
  have hm0 := hm
  clear hm
  refine sr ?_
  refine sr ?_
  refine wl_sg hm0 ?_ ?_ <;> clear hm0 <;> intro hm0
  · refine ss ?_
    refine wl_sg hm0 ?_ ?_ <;> clear hm0 <;> intro hm0
    · refine ss ?_
      refine wl_sg hm0 ?_ ?_ <;> clear hm0 <;> intro hm0
      · refine sx ?_
        subst hm0
        exact wk_ret ⟨rfl, rfl⟩
      refine sx ?_
      subst hm0
      exact wk_ret ⟨rfl, rfl⟩
    refine sx ?_
    subst hm0
    exact wk_ret ⟨rfl, rfl⟩
  refine sx ?_
  subst hm0
  exact wk_ret ⟨rfl, rfl⟩

def Mref24_SameRange (a1 : Rng) (b2 : Rng) : Bool :=
  bnd (Mref1_Compare a1.lo b2.lo) fun y3 =>
  sel (decide (y3 = 0)) (
    bnd (Mref1_Compare a1.hi b2.hi) fun y4 =>
    decide (y4 = 0)) (
    false)
theorem Mref24_SameRange_sp {a1 : Rng} {b2 : Rng} {y : Bool} (hm : Mref24_SameRange a1 b2 = y) : Spec Tryd.prog 58 [.a [vS a1.lo.key, vB a1.lo.top, vS a1.hi.key, vB a1.hi.top], .a [vS b2.lo.key, vB b2.lo.top, vS b2.hi.key, vB b2.hi.top]] [] fun u h => u = vB y ∧ h = [] := by
  refine Spec.intro Tryd.func58 rfl rfl Tryd.ntmps58 Tryd.results58 rfl fun B w0 ρ0 => ?_
  simp only [slots, List.map_nil, List.map_cons, Nat.reduceAdd]
  unfold Mref24_SameRange at hm
  have hm0 := hm
  clear hm
  refine sr ?_
  refine sr ?_
  obtain ⟨y3, hy, hm0⟩ := bnd_o hm0
  refine wl_cq (Mref1_Compare_sp (hm := hy)) ?_
  refine ss ?_
  refine wl_sg hm0 ?_ ?_ <;> clear hm0 <;> intro hm0
  · refine ss ?_
    obtain ⟨y4, hy, hm0⟩ := bnd_o hm0
    refine wl_cq (Mref1_Compare_sp (hm := hy)) ?_
    refine sx ?_
    subst hm0
    exact wk_ret ⟨rfl, rfl⟩
  refine sx ?_
  subst hm0
  exact wk_ret ⟨rfl, rfl⟩

def Mwalk_Inside (outer1 : Rng) (inner2 : Rng) : Bool :=
  bnd (Mkeyspace_Empty outer1) fun y3 =>
  sel (!y3) (
    bnd (Mkeyspace_Compare outer1.lo inner2.lo) fun y4 =>
    sel (decide (y4 ≤ 0)) (
      bnd (Mkeyspace_Compare inner2.hi outer1.hi) fun y5 =>
      decide (y5 ≤ 0)) (
      false)) (
    false)
theorem Mwalk_Inside_sp {outer1 : Rng} {inner2 : Rng} {y : Bool} (hm : Mwalk_Inside outer1 inner2 = y) : Spec Tryd.prog 36 [.a [vS outer1.lo.key, vB outer1.lo.top, vS outer1.hi.key, vB outer1.hi.top], .a [vS inner2.lo.key, vB inner2.lo.top, vS inner2.hi.key, vB inner2.hi.top]] [] fun u h => u = vB y ∧ h = [] := by
  refine Spec.intro Tryd.func36 rfl rfl Tryd.ntmps36 Tryd.results36 rfl fun B w0 ρ0 => ?_
  simp only [slots, List.map_nil, List.map_cons, Nat.reduceAdd]
  unfold Mwalk_Inside at hm
  have hm0 := hm
  clear hm
  refine sr ?_
  refine sr ?_
  obtain ⟨y3, hy, hm0⟩ := bnd_o hm0
  refine wl_cq (Mkeyspace_Empty_sp (hm := hy)) ?_
  refine ss ?_
  refine wl_sg hm0 ?_ ?_ <;> clear hm0 <;> intro hm0
  · refine ss ?_
    obtain ⟨y4, hy, hm0⟩ := bnd_o hm0
    refine wl_cq (Mkeyspace_Compare_sp (hm := hy)) ?_
    refine ss ?_
    refine wl_sg hm0 ?_ ?_ <;> clear hm0 <;> intro hm0
    · refine ss ?_
      obtain ⟨y5, hy, hm0⟩ := bnd_o hm0
      refine wl_cq (Mkeyspace_Compare_sp (hm := hy)) ?_
      refine sx ?_
      subst hm0
      exact wk_ret ⟨rfl, rfl⟩
    refine sx ?_
    subst hm0
    exact wk_ret ⟨rfl, rfl⟩
  refine sx ?_
  subst hm0
  exact wk_ret ⟨rfl, rfl⟩

def Mwalk_Start_l2 (r5 : Rng) : List Rng → Bool → Option Bool
  | [], found12 =>
    some found12
  | r13 :: xs14, found12 =>
    sel found12 (
      Mwalk_Start_l2 r5 xs14 true) (
      bnd (Mwalk_Inside r13 r5) fun y16 =>
      Mwalk_Start_l2 r5 xs14 y16)
def Mwalk_Start_l1 (ranges2 : List Rng) (y4 : List Rng) : List Rng → Int → Option (Ctl (TWalk × Int) Unit)
  | [], i =>
    some (Ctl.nxt ())
  | r5 :: xs6, i =>
    obnd (
      bnd (Mkeyspace_Empty r5) fun y8 =>
      sel y8 (
        some (Ctl.ret (Ctl.ret ((TWalk.mk (TQuery.mk 0 [] ⟨#[]⟩ 0) [] []), 1)))) (
        obnd (
          sel (decide (0 < i)) (
            obnd (lget ranges2 (i64w (i - 1))) fun e9 =>
            bnd (Mkeyspace_Compare r5.lo e9.hi) fun y10 =>
            some (decide (y10 < 0))) (
            some false) : Option Bool) fun x11 =>
        sel x11 (
          some (Ctl.ret (Ctl.ret ((TWalk.mk (TQuery.mk 0 [] ⟨#[]⟩ 0) [] []), 8)))) (
          obnd (
            Mwalk_Start_l2 r5 y4 false : Option Bool) fun found17 =>
          sel (!found17) (
            some (Ctl.ret (Ctl.ret ((TWalk.mk (TQuery.mk 0 [] ⟨#[]⟩ 0) [] []), 2)))) (
            some (Ctl.nxt ())))) : Option (Ctl (Ctl (TWalk × Int) Unit) Unit)) fun mu => ocbnd mu fun (_ : Unit) =>
    Mwalk_Start_l1 ranges2 y4 xs6 (i + 1)
def Mwalk_Start (q1 : TQuery) (ranges2 : List Rng) : Option (TWalk × Int) :=
  obnd (Mquery_Check q1) fun y3 =>
  sel (!decide (y3 = 0)) (
    some ((TWalk.mk (TQuery.mk 0 [] ⟨#[]⟩ 0) [] []), y3)) (
    sel (decide (128 < (ranges2.length : Int))) (
      some ((TWalk.mk (TQuery.mk 0 [] ⟨#[]⟩ 0) [] []), 3)) (
      obnd (Mquery_Ranges q1) fun y4 =>
      obnd (
        Mwalk_Start_l1 ranges2 y4 ranges2 0 : Option (Ctl (TWalk × Int) Unit)) fun mu => ocbnd mu fun (_ : Unit) =>
      obnd (Mclone_Query q1) fun y18 =>
      obnd (Mclone_List_api_Range_ ranges2) fun y19 =>
      some ((TWalk.mk y18 y19 []), 0)))
theorem Mwalk_Start_sp {q1 : TQuery} {ranges2 : List Rng} {y : (TWalk × Int)} (hm : Mwalk_Start q1 ranges2 = some y) : Spec Tryd.prog 13 [.a [vI q1.Kind, .d (lst Rng.ds q1.Ranges), vS q1.Key, vI q1.Count], .d (lst Rng.ds ranges2)] [] fun u h => u = .t [.a [vI y.1.Query.Kind, .d (lst Rng.ds y.1.Query.Ranges), vS y.1.Query.Key, vI y.1.Query.Count, .d (lst Rng.ds y.1.Todo), .d (lst TVisit.ds y.1.Visits)], vI y.2] ∧ h = [] := by
  refine Spec.intro Tryd.func13 rfl rfl Tryd.ntmps13 Tryd.results13 rfl fun B w0 ρ0 => ?_
  simp only [slots, List.map_nil, List.map_cons, Nat.reduceAdd]
  unfold Mwalk_Start at hm
  have hm0 := hm
  clear hm
  refine sr ?_
  refine sr ?_
  obtain ⟨y3, hy, hm0⟩ := obnd_o hm0
  refine wl_cq (Mquery_Check_sp (hm := hy)) ?_
  refine sr ?_
  refine wc_cs hm0 ?_ ?_ <;> clear hm0 <;> intro hm0
  · refine sr ?_
    refine sx ?_
    obtain rfl := Option.some.inj hm0
    exact wk_ret ⟨rfl, rfl⟩
  refine sx ?_
  refine sr ?_
  refine wc_cs hm0 ?_ ?_ <;> clear hm0 <;> intro hm0
  · refine sr ?_
    refine sx ?_
    obtain rfl := Option.some.inj hm0
    exact wk_ret ⟨rfl, rfl⟩
  refine sx ?_
  refine sr ?_
  obtain ⟨y4, hy, hm0⟩ := obnd_o hm0
  refine wl_cq (Mquery_Ranges_sp (hm := hy)) ?_
  refine sr ?_
  obtain ⟨mu1, hm1, hm0⟩ := obnd_o hm0
  refine wc_cut' (fun st => mu1 = Ctl.nxt () ∧ st = ⟨[(1, .d (lst Rng.ds ranges2)), (2, .p 102 0), (4, .p 104 0)], [(102, some (.box 25 [vI q1.Kind, .d (lst Rng.ds q1.Ranges), vS q1.Key, vI q1.Count])), (104, some (.box 44 [vI 0, .d (.c (.slice none 0 0)), vS ⟨#[]⟩, vI 0, .d (.c (.slice none 0 0)), .d (.c (.slice none 0 0))]))]⟩) ?_ ?_
  · refine wc_block ?_
    refine wc_len 25 rfl (fun hlenm7 => ?_)
    refine wc_loopw (fun κ st => ∃ (m7 : Nat) , κ = ranges2.length - m7 ∧ m7 ≤ ranges2.length ∧ Mwalk_Start_l1 ranges2 y4 (ranges2.drop m7) (m7 : Int) = some mu1 ∧ st = ⟨[(1, .d (lst Rng.ds ranges2)), (2, .p 102 0), (4, .p 104 0), (7, .d (lst Rng.ds y4)), (25, .d (lst Rng.ds ranges2)), (26, vI (ranges2.length : Int)), (27, vI (m7 : Int))], [(102, some (.box 25 [vI q1.Kind, .d (lst Rng.ds q1.Ranges), vS q1.Key, vI q1.Count])), (104, some (.box 44 [vI 0, .d (.c (.slice none 0 0)), vS ⟨#[]⟩, vI 0, .d (.c (.slice none 0 0)), .d (.c (.slice none 0 0))]))]⟩) [(102, 102), (104, 104)] ⟨0, rfl, Nat.zero_le _, hm1, rfl⟩ ?_
    rintro κ _ ⟨m7, rfl, hlem7, hm1, rfl⟩
    rcases Nat.lt_or_ge m7 ranges2.length with hltm7 | hgem7
    · obtain ⟨r5, hxm7, hdr⟩ := drop_c hltm7
      rw [hdr, Mwalk_Start_l1.eq_2] at hm1
      refine sr ?_
      refine wc_seq ?_
      refine wc_cond_tt (lt_t hltm7) rfl ?_
      refine sx ?_
      refine wc_seq ?_
      obtain ⟨mu2, hm2, hm1⟩ := obnd_o hm1
      refine wc_cut' (fun st => mu2 = Ctl.nxt () ∧ st = ⟨[(1, .d (lst Rng.ds ranges2)), (2, .p 102 0), (4, .p 104 0), (7, .d (lst Rng.ds y4)), (25, .d (lst Rng.ds ranges2)), (26, vI (ranges2.length : Int)), (27, vI (m7 : Int))], [(102, some (.box 25 [vI q1.Kind, .d (lst Rng.ds q1.Ranges), vS q1.Key, vI q1.Count])), (104, some (.box 44 [vI 0, .d (.c (.slice none 0 0)), vS ⟨#[]⟩, vI 0, .d (.c (.slice none 0 0)), .d (.c (.slice none 0 0))]))]⟩) ?_ ?_
      · refine sr ?_
        refine wl_r (o_ixm (ys := [dS r5.lo.key, dB r5.lo.top, dS r5.hi.key, dB r5.hi.top]) hxm7 rfl rfl rfl rfl) rfl rfl rfl ?_
        refine sr ?_
        obtain ⟨y8, hy, hm2⟩ := bnd_o hm2
        refine wl_cq (Mkeyspace_Empty_sp (hm := hy)) ?_
        refine ss ?_
        refine wc_cs hm2 ?_ ?_ <;> clear hm2 <;> intro hm2
        · refine sr ?_
          refine sx ?_
          obtain rfl := Option.some.inj hm2
          replace hm1 := ocbnd_r hm1
          obtain rfl := Option.some.inj hm1
          replace hm0 := ocbnd_r hm0
          obtain rfl := Option.some.inj hm0
          exact wk_ret ⟨rfl, rfl⟩
        refine sx ?_
        refine wc_seq ?_
        refine wc_seq ?_
        obtain ⟨mu3, hm3, hm2⟩ := obnd_o hm2
        refine wc_cut' (fun st => ∃ (x11 : Bool), x11 = mu3 ∧ st = ⟨[(1, .d (lst Rng.ds ranges2)), (2, .p 102 0), (4, .p 104 0), (7, .d (lst Rng.ds y4)), (9, .p 109 0), (25, .d (lst Rng.ds ranges2)), (26, vI (ranges2.length : Int)), (27, vI (m7 : Int)), (48, vB x11)], [(102, some (.box 25 [vI q1.Kind, .d (lst Rng.ds q1.Ranges), vS q1.Key, vI q1.Count])), (104, some (.box 44 [vI 0, .d (.c (.slice none 0 0)), vS ⟨#[]⟩, vI 0, .d (.c (.slice none 0 0)), .d (.c (.slice none 0 0))])), (109, some (.box 38 [vS r5.lo.key, vB r5.lo.top, vS r5.hi.key, vB r5.hi.top]))]⟩) ?_ ?_
        · refine wc_draw (id := 12) [⟨0, 0, [8]⟩, ⟨1, 1, [35]⟩, ⟨2, 3, [36]⟩, ⟨3, 7, [9, 37]⟩, ⟨4, 15, [37, 38]⟩, ⟨5, 7, [1, 37]⟩, ⟨6, 7, [8, 37]⟩, ⟨7, 71, [37, 41]⟩, ⟨8, 231, [37, 40, 42]⟩, ⟨9, 487, [37, 43]⟩, ⟨10, 999, [37, 44]⟩, ⟨11, 2047, [37, 39, 45]⟩, ⟨12, 4095, [37, 46]⟩, ⟨13, 8191, [37, 47]⟩] mixed (by kernel_rfl) ?_
          refine ss ?_
          refine wd_gp rfl rfl rfl rfl (fun h => ?_) (fun h => ?_)
          · replace hm3 := sel_t h hm3
            refine ss ?_
            obtain ⟨e9, hy, hm3⟩ := obnd_o hm3
            refine wd_r [] (o_ixg (ys := [dS e9.lo.key, dB e9.lo.top, dS e9.hi.key, dB e9.hi.top]) hy rfl rfl rfl rfl) rfl (by first | exact .no rfl | exact .y rfl rfl rfl rfl) rfl rfl ?_
            refine ss ?_
            obtain ⟨y10, hy, hm3⟩ := bnd_o hm3
            refine wd_cs (Mkeyspace_Compare_sp (hm := hy)) rfl rfl rfl (by repeat (first | exact Vws.nil | apply Vws.cons | exact Vw.nil | exact Vw.d _ | exact Vw.q _ | apply Vw.a)) rfl rfl (by first | exact .no rfl | exact .y rfl rfl rfl rfl) rfl rfl rfl ?_
            refine ss ?_
            obtain rfl := Option.some.inj hm3
            exact wk_cutw [(102, 102), (104, 104), (109, 109)] ⟨_, rfl, rfl⟩
          replace hm3 := sel_f h hm3
          refine ss ?_
          obtain rfl := Option.some.inj hm3
          exact wk_cutw [(102, 102), (104, 104), (109, 109)] ⟨_, rfl, rfl⟩
        rintro _ ⟨x11, rfl, rfl⟩
        refine ss ?_
        refine wc_cs hm2 ?_ ?_ <;> clear hm2 <;> intro hm2
        · refine sr ?_
          refine sx ?_
          obtain rfl := Option.some.inj hm2
          replace hm1 := ocbnd_r hm1
          obtain rfl := Option.some.inj hm1
          replace hm0 := ocbnd_r hm0
          obtain rfl := Option.some.inj hm0
          exact wk_ret ⟨rfl, rfl⟩
        refine sx ?_
        refine sr ?_
        refine sr ?_
        obtain ⟨mu3, hm3, hm2⟩ := obnd_o hm2
        refine wc_cut' (fun st => ∃ (found17 : Bool), found17 = mu3 ∧ st = ⟨[(1, .d (lst Rng.ds ranges2)), (2, .p 102 0), (4, .p 104 0), (7, .d (lst Rng.ds y4)), (10, vB found17), (25, .d (lst Rng.ds ranges2)), (26, vI (ranges2.length : Int)), (27, vI (m7 : Int))], [(102, some (.box 25 [vI q1.Kind, .d (lst Rng.ds q1.Ranges), vS q1.Key, vI q1.Count])), (104, some (.box 44 [vI 0, .d (.c (.slice none 0 0)), vS ⟨#[]⟩, vI 0, .d (.c (.slice none 0 0)), .d (.c (.slice none 0 0))]))]⟩) ?_ ?_
        · refine wc_block ?_
          refine wc_len 50 rfl (fun hlenm15 => ?_)
          refine wc_loopw (fun κ st => ∃ (m15 : Nat) (found12 : Bool), κ = y4.length - m15 ∧ m15 ≤ y4.length ∧ Mwalk_Start_l2 r5 (y4.drop m15) found12 = some mu3 ∧ st = ⟨[(1, .d (lst Rng.ds ranges2)), (2, .p 102 0), (4, .p 104 0), (7, .d (lst Rng.ds y4)), (9, .p 109 0), (10, vB found12), (25, .d (lst Rng.ds ranges2)), (26, vI (ranges2.length : Int)), (27, vI (m7 : Int)), (50, .d (lst Rng.ds y4)), (51, vI (y4.length : Int)), (52, vI (m15 : Int))], [(102, some (.box 25 [vI q1.Kind, .d (lst Rng.ds q1.Ranges), vS q1.Key, vI q1.Count])), (104, some (.box 44 [vI 0, .d (.c (.slice none 0 0)), vS ⟨#[]⟩, vI 0, .d (.c (.slice none 0 0)), .d (.c (.slice none 0 0))])), (109, some (.box 38 [vS r5.lo.key, vB r5.lo.top, vS r5.hi.key, vB r5.hi.top]))]⟩) [(102, 102), (104, 104), (109, 109)] ⟨0, _, rfl, Nat.zero_le _, hm3, rfl⟩ ?_
          rintro κ _ ⟨m15, found12, rfl, hlem15, hm3, rfl⟩
          rcases Nat.lt_or_ge m15 y4.length with hltm15 | hgem15
          · obtain ⟨r13, hxm15, hdr⟩ := drop_c hltm15
            rw [hdr, Mwalk_Start_l2.eq_2] at hm3
            refine sr ?_
            refine wc_seq ?_
            refine wc_cond_tt (lt_t hltm15) rfl ?_
            refine sx ?_
            refine sr ?_
            refine wl_r (o_ixm (ys := [dS r13.lo.key, dB r13.lo.top, dS r13.hi.key, dB r13.hi.top]) hxm15 rfl rfl rfl rfl) rfl rfl rfl ?_
            refine sr ?_
            refine wl_sg hm3 ?_ ?_ <;> clear hm3 <;> intro hm3
            · refine sr ?_
              refine wl_r (o_inc hltm15 hlenm15 rfl rfl rfl) rfl rfl rfl ?_
              refine ss ?_
              exact wk_loopw [(102, 102), (104, 104), (109, 109)] ⟨m15 + 1, _, rfl, hltm15, hm3, rfl⟩ (by omega)
            refine ss ?_
            obtain ⟨y16, hy, hm3⟩ := bnd_o hm3
            refine wl_cq (Mwalk_Inside_sp (hm := hy)) ?_
            refine sr ?_
            refine wl_r (o_inc hltm15 hlenm15 rfl rfl rfl) rfl rfl rfl ?_
            refine ss ?_
            exact wk_loopw [(102, 102), (104, 104), (109, 109)] ⟨m15 + 1, _, rfl, hltm15, hm3, rfl⟩ (by omega)
          · rw [drop_n hgem15, Mwalk_Start_l2.eq_1] at hm3
            refine sr ?_
            refine wc_seq ?_
            refine wc_cond_ff (lt_f hgem15) rfl ?_
            refine wc_exit ?_
            refine ss ?_
            obtain rfl := Option.some.inj hm3
            exact wk_cutw [(102, 102), (104, 104)] ⟨_, rfl, rfl⟩
        rintro _ ⟨found17, rfl, rfl⟩
        refine sr ?_
        refine wc_cs hm2 ?_ ?_ <;> clear hm2 <;> intro hm2
        · refine sr ?_
          refine sx ?_
          obtain rfl := Option.some.inj hm2
          replace hm1 := ocbnd_r hm1
          obtain rfl := Option.some.inj hm1
          replace hm0 := ocbnd_r hm0
          obtain rfl := Option.some.inj hm0
          exact wk_ret ⟨rfl, rfl⟩
        refine sx ?_
        obtain rfl := Option.some.inj hm2
        exact wk_cutw [(102, 102), (104, 104)] ⟨rfl, rfl⟩
      rintro _ ⟨rfl, rfl⟩
      replace hm1 := ocbnd_n hm1
      refine sr ?_
      refine wl_r (o_inc hltm7 hlenm7 rfl rfl rfl) rfl rfl rfl ?_
      refine ss ?_
      exact wk_loopw [(102, 102), (104, 104)] ⟨m7 + 1, rfl, hltm7, hm1, rfl⟩ (by omega)
    · rw [drop_n hgem7, Mwalk_Start_l1.eq_1] at hm1
      refine sr ?_
      refine wc_seq ?_
      refine wc_cond_ff (lt_f hgem7) rfl ?_
      refine wc_exit ?_
      refine ss ?_
      obtain rfl := Option.some.inj hm1
      exact wk_cutw [(102, 102), (104, 104)] ⟨rfl, rfl⟩
  rintro _ ⟨rfl, rfl⟩
  replace hm0 := ocbnd_n hm0
  refine sr ?_
  obtain ⟨y18, hy, hm0⟩ := obnd_o hm0
  refine wl_cq (Mclone_Query_sp (hm := hy)) ?_
  refine ss ?_
  obtain ⟨y19, hy, hm0⟩ := obnd_o hm0
  refine wl_cq (Mclone_List_api_Range__sp (hm := hy)) ?_
  refine sx ?_
  obtain rfl := Option.some.inj hm0
  exact wk_ret ⟨rfl, rfl⟩

def Mwalk_Rows_l1 : List TVisit → List Kv → Option (List Kv)
  | [], out2 =>
    some out2
  | r3 :: xs4, out2 =>
    obnd (app out2 r3.View.Rows) fun l6 =>
    Mwalk_Rows_l1 xs4 l6
def Mwalk_Rows (w1 : TWalk) : Option (List Kv) :=
  obnd (
    Mwalk_Rows_l1 w1.Visits [] : Option (List Kv)) fun out7 =>
  some out7
theorem Mwalk_Rows_sp {w1 : TWalk} {y : List Kv} (hm : Mwalk_Rows w1 = some y) : Spec Tryd.prog 67 [.a [vI w1.Query.Kind, .d (lst Rng.ds w1.Query.Ranges), vS w1.Query.Key, vI w1.Query.Count, .d (lst Rng.ds w1.Todo), .d (lst TVisit.ds w1.Visits)]] [] fun u h => u = .d (lst Kv.ds y) ∧ h = [] := by
  refine Spec.intro Tryd.func67 rfl rfl Tryd.ntmps67 Tryd.results67 rfl fun B w0 ρ0 => ?_
  simp only [slots, List.map_nil, List.map_cons, Nat.reduceAdd]
  unfold Mwalk_Rows at hm
  have hm0 := hm
  clear hm
  refine sr ?_
  refine sr ?_
  refine sr ?_
  obtain ⟨mu1, hm1, hm0⟩ := obnd_o hm0
  refine wc_cut' (fun st => ∃ (out7 : List Kv), out7 = mu1 ∧ st = ⟨[(3, .d (lst Kv.ds out7))], []⟩) ?_ ?_
  · refine wc_block ?_
    refine wc_wk (wk_nil 3 5001 96 2 rfl rfl) ?_
    refine wc_len 7 rfl (fun hlenm5 => ?_)
    refine wc_loopw (fun κ st => ∃ (m5 : Nat) (out2 : List Kv), κ = w1.Visits.length - m5 ∧ m5 ≤ w1.Visits.length ∧ Mwalk_Rows_l1 (w1.Visits.drop m5) out2 = some mu1 ∧ st = ⟨[(3, .h 5001), (7, .d (lst TVisit.ds w1.Visits)), (8, vI (w1.Visits.length : Int)), (9, vI (m5 : Int))], [(5001, some (arrT 96 2 Kv.ds out2))]⟩) [(5001, 5001)] ⟨0, _, rfl, Nat.zero_le _, hm1, rfl⟩ ?_
    rintro κ _ ⟨m5, out2, rfl, hlem5, hm1, rfl⟩
    rcases Nat.lt_or_ge m5 w1.Visits.length with hltm5 | hgem5
    · obtain ⟨r3, hxm5, hdr⟩ := drop_c hltm5
      rw [hdr, Mwalk_Rows_l1.eq_2] at hm1
      refine sr ?_
      refine wc_seq ?_
      refine wc_cond_tt (lt_t hltm5) rfl ?_
      refine sx ?_
      refine sr ?_
      refine wl_r (o_ixm (ys := [dI r3.View.Owner, dS r3.View.Interval.lo.key, dB r3.View.Interval.lo.top, dS r3.View.Interval.hi.key, dB r3.View.Interval.hi.top, dI r3.View.Stamp.Epoch, dI r3.View.Stamp.Version, lst Kv.ds r3.View.Rows, dS r3.Part.lo.key, dB r3.Part.lo.top, dS r3.Part.hi.key, dB r3.Part.hi.top]) hxm5 rfl rfl rfl rfl) rfl rfl rfl ?_
      refine sr ?_
      obtain ⟨l6, hy, hm1⟩ := obnd_o hm1
      refine wl_2 (n_app (k' := 117) hy rfl rfl rfl rfl rfl rfl rfl rfl) rfl rfl rfl rfl ?_
      refine sr ?_
      refine wl_r (o_inc hltm5 hlenm5 rfl rfl rfl) rfl rfl rfl ?_
      refine ss ?_
      exact wk_loopw [(5001, 117)] ⟨m5 + 1, _, rfl, hltm5, hm1, rfl⟩ (by omega)
    · rw [drop_n hgem5, Mwalk_Rows_l1.eq_1] at hm1
      refine sr ?_
      refine wc_seq ?_
      refine wc_cond_ff (lt_f hgem5) rfl ?_
      refine wc_exit ?_
      refine ss ?_
      obtain rfl := Option.some.inj hm1
      exact wk_cutw [] ⟨_, rfl, rfl⟩
  rintro _ ⟨out7, rfl, rfl⟩
  refine sr ?_
  refine sx ?_
  obtain rfl := Option.some.inj hm0
  exact wk_ret ⟨rfl, rfl⟩

def Mwalk_Done (w1 : TWalk) : Option Bool :=
  sel (decide ((w1.Todo.length : Int) = 0)) (
    some true) (
    obnd (Mwalk_Rows w1) fun y2 =>
    bnd (Mquery_Enough w1.Query (y2.length : Int)) fun y3 =>
    some y3)
theorem Mwalk_Done_sp {w1 : TWalk} {y : Bool} (hm : Mwalk_Done w1 = some y) : Spec Tryd.prog 48 [.a [vI w1.Query.Kind, .d (lst Rng.ds w1.Query.Ranges), vS w1.Query.Key, vI w1.Query.Count, .d (lst Rng.ds w1.Todo), .d (lst TVisit.ds w1.Visits)]] [] fun u h => u = vB y ∧ h = [] := by
  refine Spec.intro Tryd.func48 rfl rfl Tryd.ntmps48 Tryd.results48 rfl fun B w0 ρ0 => ?_
  simp only [slots, List.map_nil, List.map_cons, Nat.reduceAdd]
  unfold Mwalk_Done at hm
  have hm0 := hm
  clear hm
  refine sr ?_
  refine wc_seq ?_
  refine wc_draw (id := 1) [⟨0, 0, [1]⟩, ⟨1, 1, [3]⟩, ⟨2, 3, [4]⟩, ⟨3, 7, [5]⟩, ⟨4, 15, [6]⟩, ⟨5, 31, [1, 7]⟩, ⟨6, 63, [7, 8]⟩, ⟨7, 31, [1, 7]⟩, ⟨8, 159, [7, 10]⟩, ⟨9, 415, [7, 11]⟩, ⟨10, 1023, [7, 9, 12]⟩, ⟨11, 2047, [7, 13]⟩, ⟨12, 4095, [14]⟩] mixed (by kernel_rfl) ?_
  refine ss ?_
  refine wd_gp rfl rfl rfl rfl (fun h => ?_) (fun h => ?_)
  · replace hm0 := sel_t h hm0
    refine sx ?_
    obtain rfl := Option.some.inj hm0
    exact wk_ret ⟨rfl, rfl⟩
  replace hm0 := sel_f h hm0
  refine ss ?_
  obtain ⟨y2, hy, hm0⟩ := obnd_o hm0
  refine wd_cs (Mwalk_Rows_sp (hm := hy)) rfl rfl rfl (by repeat (first | exact Vws.nil | apply Vws.cons | exact Vw.nil | exact Vw.d _ | exact Vw.q _ | apply Vw.a)) rfl rfl (by first | exact .no rfl | exact .y rfl rfl rfl rfl) rfl rfl rfl ?_
  refine ss ?_
  obtain ⟨y3, hy, hm0⟩ := bnd_o hm0
  refine wd_cs (Mquery_Enough_sp (hm := hy)) rfl rfl rfl (by repeat (first | exact Vws.nil | apply Vws.cons | exact Vw.nil | exact Vw.d _ | exact Vw.q _ | apply Vw.a)) rfl rfl (by first | exact .no rfl | exact .y rfl rfl rfl rfl) rfl rfl rfl ?_
  refine sx ?_
  obtain rfl := Option.some.inj hm0
  exact wk_ret ⟨rfl, rfl⟩

def Mwalk_Want (w1 : TWalk) : Option (Rng × Bool) :=
  obnd (Mwalk_Done w1) fun y2 =>
  sel y2 (
    some ((Rng.mk (Bnd.mk ⟨#[]⟩ false) (Bnd.mk ⟨#[]⟩ false)), false)) (
    bnd (Mquery_Down w1.Query) fun y3 =>
    sel y3 (
      obnd (lget w1.Todo (i64w ((w1.Todo.length : Int) - 1))) fun e4 =>
      some (e4, true)) (
      obnd (lget w1.Todo 0) fun e5 =>
      some (e5, true)))
theorem Mwalk_Want_sp {w1 : TWalk} {y : (Rng × Bool)} (hm : Mwalk_Want w1 = some y) : Spec Tryd.prog 18 [.a [vI w1.Query.Kind, .d (lst Rng.ds w1.Query.Ranges), vS w1.Query.Key, vI w1.Query.Count, .d (lst Rng.ds w1.Todo), .d (lst TVisit.ds w1.Visits)]] [] fun u h => u = .t [.a [vS y.1.lo.key, vB y.1.lo.top, vS y.1.hi.key, vB y.1.hi.top], vB y.2] ∧ h = [] := by
  refine Spec.intro Tryd.func18 rfl rfl Tryd.ntmps18 Tryd.results18 rfl fun B w0 ρ0 => ?_
  simp only [slots, List.map_nil, List.map_cons, Nat.reduceAdd]
  unfold Mwalk_Want at hm
  have hm0 := hm
  clear hm
  refine sr ?_
  refine sr ?_
  obtain ⟨y2, hy, hm0⟩ := obnd_o hm0
  refine wl_cq (Mwalk_Done_sp (hm := hy)) ?_
  refine ss ?_
  refine wc_cs hm0 ?_ ?_ <;> clear hm0 <;> intro hm0
  · refine sr ?_
    refine sx ?_
    obtain rfl := Option.some.inj hm0
    exact wk_ret ⟨rfl, rfl⟩
  refine sr ?_
  obtain ⟨y3, hy, hm0⟩ := bnd_o hm0
  refine wl_cq (Mquery_Down_sp (hm := hy)) ?_
  refine ss ?_
  refine wc_cs hm0 ?_ ?_ <;> clear hm0 <;> intro hm0
  · refine sr ?_
    obtain ⟨e4, hy, hm0⟩ := obnd_o hm0
    refine wl_r (o_ixg (ys := [dS e4.lo.key, dB e4.lo.top, dS e4.hi.key, dB e4.hi.top]) hy rfl rfl rfl rfl) rfl rfl rfl ?_
    refine sx ?_
    obtain rfl := Option.some.inj hm0
    exact wk_ret ⟨rfl, rfl⟩
  refine sx ?_
  refine sr ?_
  obtain ⟨e5, hy, hm0⟩ := obnd_o hm0
  refine wl_r (o_ixg (ys := [dS e5.lo.key, dB e5.lo.top, dS e5.hi.key, dB e5.hi.top]) hy rfl rfl rfl rfl) rfl rfl rfl ?_
  refine sx ?_
  obtain rfl := Option.some.inj hm0
  exact wk_ret ⟨rfl, rfl⟩

def Mwalk_ValidView (v1 : TView) : Option Bool :=
  sel (decide (1 ≤ v1.Owner)) (
    sel (decide (v1.Owner ≤ 2147483647)) (
      bnd (Mkeyspace_Empty v1.Interval) fun y2 =>
      sel (!y2) (
        bnd (Mstamp_Valid v1.Stamp) fun y3 =>
        sel y3 (
          obnd (Mtable_Valid v1.Rows) fun y4 =>
          sel y4 (
            obnd (Mtable_Slice v1.Rows v1.Interval) fun y5 =>
            some (decide ((y5.length : Int) = (v1.Rows.length : Int)))) (
            some false)) (
          some false)) (
        some false)) (
      some false)) (
    some false)
theorem Mwalk_ValidView_sp {v1 : TView} {y : Bool} (hm : Mwalk_ValidView v1 = some y) : Spec Tryd.prog 43 [.a [vI v1.Owner, vS v1.Interval.lo.key, vB v1.Interval.lo.top, vS v1.Interval.hi.key, vB v1.Interval.hi.top, vI v1.Stamp.Epoch, vI v1.Stamp.Version, .d (lst Kv.ds v1.Rows)]] [] fun u h => u = vB y ∧ h = [] := by
  refine Spec.intro Tryd.func43 rfl rfl Tryd.ntmps43 Tryd.results43 rfl fun B w0 ρ0 => ?_
  simp only [slots, List.map_nil, List.map_cons, Nat.reduceAdd]
  unfold Mwalk_ValidView at hm
  have hm0 := hm
  clear hm
  refine sr ?_
  refine wc_seq ?_
  refine wc_draw (id := 1) [⟨0, 0, [1]⟩, ⟨1, 1, [3]⟩, ⟨2, 3, [4]⟩, ⟨3, 7, [5]⟩, ⟨4, 15, [1, 6]⟩, ⟨5, 31, [6, 7]⟩, ⟨6, 63, [6, 8]⟩, ⟨7, 127, [6, 9]⟩, ⟨8, 255, [10]⟩, ⟨9, 511, [1, 11]⟩, ⟨10, 1023, [11, 12]⟩, ⟨11, 2047, [11, 13]⟩, ⟨12, 4095, [11, 14]⟩, ⟨13, 8191, [11, 15]⟩, ⟨14, 16383, [16]⟩, ⟨15, 32767, [1, 17]⟩, ⟨16, 65535, [17, 18]⟩, ⟨17, 131071, [17, 19]⟩, ⟨18, 262143, [17, 20]⟩, ⟨19, 524287, [21]⟩, ⟨20, 1048575, [1, 22]⟩, ⟨21, 2097151, [22, 23]⟩, ⟨22, 4194303, [22, 24]⟩, ⟨23, 8388607, [22, 25]⟩, ⟨24, 16777215, [26]⟩, ⟨25, 33554431, [1, 27]⟩, ⟨26, 67108863, [27, 28]⟩, ⟨27, 33554431, [1, 27]⟩, ⟨28, 167772159, [27, 30]⟩, ⟨31, 33554431, [1, 27]⟩, ⟨32, 2181038079, [27, 34]⟩, ⟨33, 6476005375, [27, 35]⟩, ⟨29, 536870911, [27, 29, 31]⟩, ⟨30, 1073741823, [27, 32]⟩, ⟨34, 17179869183, [27, 33, 36]⟩, ⟨35, 34359738367, [27, 37]⟩, ⟨36, 68719476735, [38]⟩] mixed (by kernel_rfl) ?_
  refine ss ?_
  refine wd_gp rfl rfl rfl rfl (fun h => ?_) (fun h => ?_)
  · replace hm0 := sel_t h hm0
    refine ss ?_
    refine wd_gp rfl rfl rfl rfl (fun h => ?_) (fun h => ?_)
    · replace hm0 := sel_t h hm0
      refine ss ?_
      obtain ⟨y2, hy, hm0⟩ := bnd_o hm0
      refine wd_cs (Mkeyspace_Empty_sp (hm := hy)) rfl rfl rfl (by repeat (first | exact Vws.nil | apply Vws.cons | exact Vw.nil | exact Vw.d _ | exact Vw.q _ | apply Vw.a)) rfl rfl (by first | exact .no rfl | exact .y rfl rfl rfl rfl) rfl rfl rfl ?_
      refine ss ?_
      refine wd_gp rfl rfl rfl rfl (fun h => ?_) (fun h => ?_)
      · replace hm0 := sel_t h hm0
        refine ss ?_
        obtain ⟨y3, hy, hm0⟩ := bnd_o hm0
        refine wd_cs (Mstamp_Valid_sp (hm := hy)) rfl rfl rfl (by repeat (first | exact Vws.nil | apply Vws.cons | exact Vw.nil | exact Vw.d _ | exact Vw.q _ | apply Vw.a)) rfl rfl (by first | exact .no rfl | exact .y rfl rfl rfl rfl) rfl rfl rfl ?_
        refine ss ?_
        refine wd_gp rfl rfl rfl rfl (fun h => ?_) (fun h => ?_)
        · replace hm0 := sel_t h hm0
          refine ss ?_
          obtain ⟨y4, hy, hm0⟩ := obnd_o hm0
          refine wd_cs (Mtable_Valid_sp (hm := hy)) rfl rfl rfl (by repeat (first | exact Vws.nil | apply Vws.cons | exact Vw.nil | exact Vw.d _ | exact Vw.q _ | apply Vw.a)) rfl rfl (by first | exact .no rfl | exact .y rfl rfl rfl rfl) rfl rfl rfl ?_
          refine ss ?_
          refine wd_gp rfl rfl rfl rfl (fun h => ?_) (fun h => ?_)
          · replace hm0 := sel_t h hm0
            refine ss ?_
            obtain ⟨y5, hy, hm0⟩ := obnd_o hm0
            refine wd_cs (Mtable_Slice_sp (hm := hy)) rfl rfl rfl (by repeat (first | exact Vws.nil | apply Vws.cons | exact Vw.nil | exact Vw.d _ | exact Vw.q _ | apply Vw.a)) rfl rfl (by first | exact .no rfl | exact .y rfl rfl rfl rfl) rfl rfl rfl ?_
            refine sx ?_
            obtain rfl := Option.some.inj hm0
            exact wk_ret ⟨rfl, rfl⟩
          replace hm0 := sel_f h hm0
          refine sx ?_
          obtain rfl := Option.some.inj hm0
          exact wk_ret ⟨rfl, rfl⟩
        replace hm0 := sel_f h hm0
        refine sx ?_
        obtain rfl := Option.some.inj hm0
        exact wk_ret ⟨rfl, rfl⟩
      replace hm0 := sel_f h hm0
      refine sx ?_
      obtain rfl := Option.some.inj hm0
      exact wk_ret ⟨rfl, rfl⟩
    replace hm0 := sel_f h hm0
    refine sx ?_
    obtain rfl := Option.some.inj hm0
    exact wk_ret ⟨rfl, rfl⟩
  replace hm0 := sel_f h hm0
  refine sx ?_
  obtain rfl := Option.some.inj hm0
  exact wk_ret ⟨rfl, rfl⟩

theorem Mclone_List_api_Range__so0 {l1 : List Rng} {y : List Rng} (hm : Mclone_List_api_Range_ l1 = some y) : Spec Tryd.prog 38 [.d (lst Rng.ds l1)] [] fun u h => u = .h 1 ∧ h = [(1, some (arrT 38 4 Rng.ds y))] := by
  refine Spec.intro Tryd.func38 rfl rfl Tryd.ntmps38 Tryd.results38 rfl fun B w0 ρ0 => ?_
  simp only [slots, List.map_nil, List.map_cons, Nat.reduceAdd]
  unfold Mclone_List_api_Range_ at hm
  have hm0 := hm
  clear hm
  refine sr ?_
  refine sr ?_
  obtain ⟨l2, hy, hm0⟩ := obnd_o hm0
  refine wl_1 (n_appn (k := 104) hy rfl rfl rfl rfl rfl rfl) rfl rfl rfl rfl ?_
  refine sx ?_
  obtain rfl := Option.some.inj hm0
  exact wk_reti [(1, 104)] ⟨rfl, rfl⟩
theorem Mclone_Visits_so0 {l1 : List TVisit} {y : List TVisit} (hm : Mclone_Visits l1 = some y) : Spec Tryd.prog 65 [.d (lst TVisit.ds l1)] [] fun u h => u = .h 1 ∧ h = [(1, some (arrT 60 12 TVisit.ds y))] := by
  refine Spec.intro Tryd.func65 rfl rfl Tryd.ntmps65 Tryd.results65 rfl fun B w0 ρ0 => ?_
  simp only [slots, List.map_nil, List.map_cons, Nat.reduceAdd]
  unfold Mclone_Visits at hm
  have hm0 := hm
  clear hm
  refine sr ?_
  refine sr ?_
  obtain ⟨y2, hy, hm0⟩ := obnd_o hm0
  refine wl_mkn (u' := .h 200501) (h' := [(200501, some (arrT 60 12 TVisit.ds y2))]) (Mclone_List_api_Visit__so0 (hm := hy)) 200500 rfl rfl rfl (by repeat (first | exact Vws.nil | apply Vws.cons | exact Vw.nil | exact Vw.d _ | exact Vw.q _ | apply Vw.a)) rfl (by (try simp only [renH, Option.map_some, Blk.ren, rens_d]); rfl) rfl rfl rfl rfl ?_
  refine sr ?_
  obtain ⟨mu1, hm1, hm0⟩ := obnd_o hm0
  refine wc_cut' (fun st => ∃ (l10 : List TVisit), l10 = mu1 ∧ st = ⟨[(0, .h 5002)], [(5002, some (arrT 60 12 TVisit.ds l10))]⟩) ?_ ?_
  · refine wc_block ?_
    refine wc_loopw (fun κ st => ∃ (l3 : List TVisit) (x4 : Int), Mclone_Visits_l1 y2 κ l3 x4 = some mu1 ∧ st = ⟨[(0, .h 5001), (7, vI (y2.length : Int)), (8, vI x4)], [(5001, some (arrT 60 12 TVisit.ds l3))]⟩) [(5001, 200501)] ⟨_, _, hm1, rfl⟩ ?_
    rintro κ _ ⟨l3, x4, hm1, rfl⟩
    cases κ with
    | zero => rw [Mclone_Visits_l1.eq_1] at hm1; cases hm1
    | succ κ =>
      rw [Mclone_Visits_l1.eq_2] at hm1
      refine sr ?_
      refine wc_seq ?_
      obtain ⟨mu2, hm2, hm1⟩ := obnd_o hm1
      refine wc_cut' (fun st => mu2 = Ctl.nxt () ∧ st = ⟨[(0, .h 5001), (7, vI (y2.length : Int)), (8, vI x4)], [(5001, some (arrT 60 12 TVisit.ds l3))]⟩) ?_ ?_
      · refine wc_cs hm2 ?_ ?_ <;> clear hm2 <;> intro hm2
        · refine sx ?_
          obtain rfl := Option.some.inj hm2
          exact wk_cutw [(5001, 5001)] ⟨rfl, rfl⟩
        refine wc_exit ?_
        refine ss ?_
        obtain rfl := Option.some.inj hm2
        replace hm1 := ocbnd_r hm1
        obtain rfl := Option.some.inj hm1
        exact wk_cutw [(5002, 5001)] ⟨_, rfl, rfl⟩
      rintro _ ⟨rfl, rfl⟩
      replace hm1 := ocbnd_n hm1
      refine sr ?_
      refine sr ?_
      obtain ⟨e5, hy, hm1⟩ := obnd_o hm1
      have hge5 := hy
      refine wl_r (o_ixo hy rfl rfl rfl rfl) rfl rfl rfl ?_
      refine ss ?_
      refine wl_r (o_ldo (k := 5001) (f := TVisit.ds) (zz := 12) (u := .a [vI e5.View.Owner, vS e5.View.Interval.lo.key, vB e5.View.Interval.lo.top, vS e5.View.Interval.hi.key, vB e5.View.Interval.hi.top, vI e5.View.Stamp.Epoch, vI e5.View.Stamp.Version, .d (lst Kv.ds e5.View.Rows)]) (off := 0) hge5 rfl rfl rfl (by exact inferInstance) rfl rfl) rfl rfl rfl ?_
      refine ss ?_
      obtain ⟨y6, hy, hm1⟩ := obnd_o hm1
      refine wl_cq (Mclone_View_sp (hm := hy)) ?_
      refine ss ?_
      obtain ⟨e7, hy, hm1⟩ := obnd_o hm1
      have hge7 := hy
      refine wl_r (o_ixo hy rfl rfl rfl rfl) rfl rfl rfl ?_
      refine ss ?_
      obtain ⟨e9, hy, hm1⟩ := bnd_o hm1
      have hxe9 := hy
      refine ss ?_
      obtain ⟨l8, hy, hm1⟩ := bnd_o hm1
      refine wl_0 (lo := 0) (nn := 0) (o_sto (k := 5001) (f := TVisit.ds) (zz := 12) (off := 0) hge7 hy rfl rfl rfl rfl (by exact inferInstance) rfl (by rw [← hxe9]; rfl)) rfl rfl (fresh0 _ _) ?_
      have hge9 := lget_set hge7 e9
      rw [hy] at hge9
      refine sr ?_
      refine wl_r (o_add rfl rfl rfl rfl) rfl rfl rfl ?_
      refine ss ?_
      exact wk_loopw [(5001, 5001)] ⟨_, _, hm1, rfl⟩ (Nat.lt_succ_self _)
  rintro _ ⟨l10, rfl, rfl⟩
  refine sr ?_
  refine sx ?_
  obtain rfl := Option.some.inj hm0
  exact wk_reti [(1, 5002)] ⟨rfl, rfl⟩
theorem Mclone_Walk_so4_5 {w1 : TWalk} {y : TWalk} (hm : Mclone_Walk w1 = some y) : Spec Tryd.prog 47 [.a [vI w1.Query.Kind, .d (lst Rng.ds w1.Query.Ranges), vS w1.Query.Key, vI w1.Query.Count, .d (lst Rng.ds w1.Todo), .d (lst TVisit.ds w1.Visits)]] [] fun u h => u = .a [vI y.Query.Kind, .d (lst Rng.ds y.Query.Ranges), vS y.Query.Key, vI y.Query.Count, .h 1, .h 2] ∧ h = [(1, some (arrT 38 4 Rng.ds y.Todo)), (2, some (arrT 60 12 TVisit.ds y.Visits))] := by
  refine Spec.intro Tryd.func47 rfl rfl Tryd.ntmps47 Tryd.results47 rfl fun B w0 ρ0 => ?_
  simp only [slots, List.map_nil, List.map_cons, Nat.reduceAdd]
  unfold Mclone_Walk at hm
  have hm0 := hm
  clear hm
  refine sr ?_
  refine wc_seq ?_
  refine wc_draw (id := 1) [⟨0, 0, [1]⟩, ⟨1, 1, [3]⟩, ⟨3, 0, [1]⟩, ⟨4, 8, [6]⟩, ⟨6, 0, [1]⟩, ⟨7, 64, [9]⟩, ⟨2, 3, [4]⟩, ⟨9, 223, [1]⟩, ⟨5, 31, [7]⟩, ⟨8, 255, [10]⟩, ⟨10, 1023, [5, 12]⟩, ⟨11, 2047, [1]⟩, ⟨12, 4095, [8, 13]⟩, ⟨13, 8191, [1]⟩, ⟨14, 16383, [11, 14]⟩] mixed (by kernel_rfl) ?_
  refine ss ?_
  obtain ⟨y2, hy, hm0⟩ := obnd_o hm0
  refine wd_cs (Mclone_Query_sp (hm := hy)) rfl rfl rfl (by repeat (first | exact Vws.nil | apply Vws.cons | exact Vw.nil | exact Vw.d _ | exact Vw.q _ | apply Vw.a)) rfl rfl (by first | exact .no rfl | exact .y rfl rfl rfl rfl) rfl rfl rfl ?_
  refine ss ?_
  obtain ⟨y3, hy, hm0⟩ := obnd_o hm0
  refine wd_mkn (u' := .h 200801) (h' := [(200801, some (arrT 38 4 Rng.ds y3))]) (Mclone_List_api_Range__so0 (hm := hy)) 200800 [200801] rfl rfl rfl rfl (by repeat (first | exact Vws.nil | apply Vws.cons | exact Vw.nil | exact Vw.d _ | exact Vw.q _ | apply Vw.a)) rfl (by (try simp only [renH, Option.map_some, Blk.ren, rens_d]); rfl) rfl (by first | exact .no rfl | exact .y rfl rfl rfl rfl) rfl rfl rfl rfl rfl ?_
  refine ss ?_
  obtain ⟨y4, hy, hm0⟩ := obnd_o hm0
  refine wd_mkn (u' := .h 201101) (h' := [(201101, some (arrT 60 12 TVisit.ds y4))]) (Mclone_Visits_so0 (hm := hy)) 201100 [201101] rfl rfl rfl rfl (by repeat (first | exact Vws.nil | apply Vws.cons | exact Vw.nil | exact Vw.d _ | exact Vw.q _ | apply Vw.a)) rfl (by (try simp only [renH, Option.map_some, Blk.ren, rens_d]); rfl) rfl (by first | exact .no rfl | exact .y rfl rfl rfl rfl) rfl rfl rfl rfl rfl ?_
  refine sr ?_
  refine sx ?_
  obtain rfl := Option.some.inj hm0
  exact wk_reti [(1, 200801), (2, 201101)] ⟨rfl, rfl⟩
def Mwalk_Take (w1 : TWalk) (v2 : TView) : Option (TWalk × Int) :=
  obnd (Mwalk_Want w1) fun y3 =>
  sel (!y3.2) (
    some ((TWalk.mk (TQuery.mk 0 [] ⟨#[]⟩ 0) [] []), 7)) (
    obnd (Mwalk_ValidView v2) fun y4 =>
    sel (!y4) (
      some ((TWalk.mk (TQuery.mk 0 [] ⟨#[]⟩ 0) [] []), 1)) (
      bnd (Mquery_Down w1.Query) fun y5 =>
      obnd (
        sel y5 (
          some (y3.1.hi.key, y3.1.hi.top)) (
          some (y3.1.lo.key, y3.1.lo.top)) : Option (ByteArray × Bool)) fun (end6, end7) =>
      obnd (
        sel (!y5) (
          bnd (Mkeyspace_Compare v2.Interval.lo (Bnd.mk end6 end7)) fun y8 =>
          sel (decide (0 < y8)) (
            some true) (
            bnd (Mkeyspace_Compare v2.Interval.hi (Bnd.mk end6 end7)) fun y9 =>
            sel (decide (y9 ≤ 0)) (
              some true) (
              sel y5 (
                bnd (Mkeyspace_Compare v2.Interval.hi (Bnd.mk end6 end7)) fun y10 =>
                sel (decide (y10 < 0)) (
                  some true) (
                  bnd (Mkeyspace_Compare v2.Interval.lo (Bnd.mk end6 end7)) fun y11 =>
                  some (decide (0 ≤ y11)))) (
                some false)))) (
          sel y5 (
            bnd (Mkeyspace_Compare v2.Interval.hi (Bnd.mk end6 end7)) fun y12 =>
            sel (decide (y12 < 0)) (
              some true) (
              bnd (Mkeyspace_Compare v2.Interval.lo (Bnd.mk end6 end7)) fun y13 =>
              some (decide (0 ≤ y13)))) (
            some false)) : Option Bool) fun x14 =>
      sel x14 (
        some ((TWalk.mk (TQuery.mk 0 [] ⟨#[]⟩ 0) [] []), 12)) (
        bnd (Mkeyspace_Intersect v2.Interval y3.1) fun y15 =>
        obnd (Mtable_Slice v2.Rows y15) fun y16 =>
        obnd (Mclone_Walk w1) fun y17 =>
        obnd (
          sel y5 (
            obnd (app ([(TVisit.mk (TView.mk v2.Owner v2.Interval v2.Stamp y16) y15)] : List TVisit) y17.Visits) fun l18 =>
            obnd (lget y17.Todo (i64w ((y17.Todo.length : Int) - 1))) fun e19 =>
            bnd ((Rng.mk e19.lo y15.lo)) fun e21 =>
            bnd (y17.Todo.set (Int.toNat (i64w ((y17.Todo.length : Int) - 1))) e21) fun l20 =>
            some (l20, l18, i64w ((y17.Todo.length : Int) - 1))) (
            obnd (app y17.Visits ([(TVisit.mk (TView.mk v2.Owner v2.Interval v2.Stamp y16) y15)] : List TVisit)) fun l22 =>
            obnd (lget y17.Todo 0) fun e23 =>
            bnd ((Rng.mk y15.hi e23.hi)) fun e25 =>
            bnd (y17.Todo.set (Int.toNat 0) e25) fun l24 =>
            some (l24, l22, 0)) : Option (List Rng × List TVisit × Int)) fun (w26, w27, at28) =>
        obnd (lget w26 at28) fun e29 =>
        bnd (Mkeyspace_Empty e29) fun y30 =>
        sel y30 (
          obnd (lsl w26 0 at28) fun l31 =>
          obnd (lsl w26 (i64w (at28 + 1)) (w26.length : Int)) fun l32 =>
          obnd (apd w26 l31 l32) fun l33 =>
          some ((TWalk.mk y17.Query l33 w27), 0)) (
          some ((TWalk.mk y17.Query w26 w27), 0)))))
theorem Mwalk_Take_sp {w1 : TWalk} {v2 : TView} {y : (TWalk × Int)} (hm : Mwalk_Take w1 v2 = some y) : Spec Tryd.prog 17 [.a [vI w1.Query.Kind, .d (lst Rng.ds w1.Query.Ranges), vS w1.Query.Key, vI w1.Query.Count, .d (lst Rng.ds w1.Todo), .d (lst TVisit.ds w1.Visits)], .a [vI v2.Owner, vS v2.Interval.lo.key, vB v2.Interval.lo.top, vS v2.Interval.hi.key, vB v2.Interval.hi.top, vI v2.Stamp.Epoch, vI v2.Stamp.Version, .d (lst Kv.ds v2.Rows)]] [] fun u h => u = .t [.a [vI y.1.Query.Kind, .d (lst Rng.ds y.1.Query.Ranges), vS y.1.Query.Key, vI y.1.Query.Count, .d (lst Rng.ds y.1.Todo), .d (lst TVisit.ds y.1.Visits)], vI y.2] ∧ h = [] := by
  refine Spec.intro Tryd.func17 rfl rfl Tryd.ntmps17 Tryd.results17 rfl fun B w0 ρ0 => ?_
  simp only [slots, List.map_nil, List.map_cons, Nat.reduceAdd]
  unfold Mwalk_Take at hm
  have hm0 := hm
  clear hm
  refine sr ?_
  refine sr ?_
  obtain ⟨y3, hy, hm0⟩ := obnd_o hm0
  refine wl_cq (Mwalk_Want_sp (hm := hy)) ?_
  refine sr ?_
  refine wc_cs hm0 ?_ ?_ <;> clear hm0 <;> intro hm0
  · refine sr ?_
    refine sx ?_
    obtain rfl := Option.some.inj hm0
    exact wk_ret ⟨rfl, rfl⟩
  refine sx ?_
  refine sr ?_
  obtain ⟨y4, hy, hm0⟩ := obnd_o hm0
  refine wl_cq (Mwalk_ValidView_sp (hm := hy)) ?_
  refine ss ?_
  refine wc_cs hm0 ?_ ?_ <;> clear hm0 <;> intro hm0
  · refine sr ?_
    refine sx ?_
    obtain rfl := Option.some.inj hm0
    exact wk_ret ⟨rfl, rfl⟩
  refine sx ?_
  refine wc_seq ?_
  refine wc_draw (id := 6) [⟨0, 0, [2]⟩, ⟨1, 1, [26]⟩, ⟨3, 0, [3]⟩, ⟨4, 8, [29]⟩, ⟨5, 0, []⟩, ⟨2, 3, [27]⟩, ⟨6, 39, [28]⟩, ⟨7, 127, [9, 30]⟩] mixed (by kernel_rfl) ?_
  refine ss ?_
  obtain ⟨y5, hy, hm0⟩ := bnd_o hm0
  refine wd_cs (Mquery_Down_sp (hm := hy)) rfl rfl rfl (by repeat (first | exact Vws.nil | apply Vws.cons | exact Vw.nil | exact Vw.d _ | exact Vw.q _ | apply Vw.a)) rfl rfl (by first | exact .no rfl | exact .y rfl rfl rfl rfl) rfl rfl rfl ?_
  refine sr ?_
  refine sr ?_
  obtain ⟨mu1, hm1, hm0⟩ := obnd_o hm0
  refine wc_cut' (fun st => ∃ (end6 : ByteArray) (end7 : Bool), mu1 = (end6, end7) ∧ st = ⟨[(2, .p 102 0), (3, .p 103 0), (4, .p 104 0), (6, .p 106 0), (8, vB y5), (9, .p 109 0), (10, .p 110 0)], [(102, some (.box 44 [vI w1.Query.Kind, .d (lst Rng.ds w1.Query.Ranges), vS w1.Query.Key, vI w1.Query.Count, .d (lst Rng.ds w1.Todo), .d (lst TVisit.ds w1.Visits)])), (103, some (.box 56 [vI v2.Owner, vS v2.Interval.lo.key, vB v2.Interval.lo.top, vS v2.Interval.hi.key, vB v2.Interval.hi.top, vI v2.Stamp.Epoch, vI v2.Stamp.Version, .d (lst Kv.ds v2.Rows)])), (104, some (.box 44 [vI 0, .d (.c (.slice none 0 0)), vS ⟨#[]⟩, vI 0, .d (.c (.slice none 0 0)), .d (.c (.slice none 0 0))])), (106, some (.box 38 [vS y3.1.lo.key, vB y3.1.lo.top, vS y3.1.hi.key, vB y3.1.hi.top])), (109, some (.box 38 [vS v2.Interval.lo.key, vB v2.Interval.lo.top, vS v2.Interval.hi.key, vB v2.Interval.hi.top])), (110, some (.box 36 [vS end6, vB end7]))]⟩) ?_ ?_
  · refine wc_cs hm1 ?_ ?_ <;> clear hm1 <;> intro hm1
    · refine sr ?_
      obtain rfl := Option.some.inj hm1
      exact wk_cutw [(102, 102), (103, 103), (104, 104), (106, 106), (109, 109), (110, 110)] ⟨_, _, rfl, rfl⟩
    refine sx ?_
    obtain rfl := Option.some.inj hm1
    exact wk_cutw [(102, 102), (103, 103), (104, 104), (106, 106), (109, 109), (110, 110)] ⟨_, _, rfl, rfl⟩
  rintro _ ⟨end6, end7, rfl, rfl⟩
  refine ss ?_
  refine wc_seq ?_
  refine wc_seq ?_
  obtain ⟨mu1, hm1, hm0⟩ := obnd_o hm0
  refine wc_cut' (fun st => ∃ (x14 : Bool), x14 = mu1 ∧ st = ⟨[(2, .p 102 0), (3, .p 103 0), (4, .p 104 0), (6, .p 106 0), (8, vB y5), (9, .p 109 0), (68, vB x14)], [(102, some (.box 44 [vI w1.Query.Kind, .d (lst Rng.ds w1.Query.Ranges), vS w1.Query.Key, vI w1.Query.Count, .d (lst Rng.ds w1.Todo), .d (lst TVisit.ds w1.Visits)])), (103, some (.box 56 [vI v2.Owner, vS v2.Interval.lo.key, vB v2.Interval.lo.top, vS v2.Interval.hi.key, vB v2.Interval.hi.top, vI v2.Stamp.Epoch, vI v2.Stamp.Version, .d (lst Kv.ds v2.Rows)])), (104, some (.box 44 [vI 0, .d (.c (.slice none 0 0)), vS ⟨#[]⟩, vI 0, .d (.c (.slice none 0 0)), .d (.c (.slice none 0 0))])), (106, some (.box 38 [vS y3.1.lo.key, vB y3.1.lo.top, vS y3.1.hi.key, vB y3.1.hi.top])), (109, some (.box 38 [vS v2.Interval.lo.key, vB v2.Interval.lo.top, vS v2.Interval.hi.key, vB v2.Interval.hi.top]))]⟩) ?_ ?_
  · refine sr ?_
    refine wl_sg hm1 ?_ ?_ <;> clear hm1 <;> intro hm1
    · refine ss ?_
      obtain ⟨y8, hy, hm1⟩ := bnd_o hm1
      refine wl_cq (Mkeyspace_Compare_sp (hm := hy)) ?_
      refine ss ?_
      refine wl_sg hm1 ?_ ?_ <;> clear hm1 <;> intro hm1
      · refine ss ?_
        obtain rfl := Option.some.inj hm1
        exact wk_cutw [(102, 102), (103, 103), (104, 104), (106, 106), (109, 109)] ⟨_, rfl, rfl⟩
      refine ss ?_
      obtain ⟨y9, hy, hm1⟩ := bnd_o hm1
      refine wl_cq (Mkeyspace_Compare_sp (hm := hy)) ?_
      refine ss ?_
      refine wl_sg hm1 ?_ ?_ <;> clear hm1 <;> intro hm1
      · refine ss ?_
        obtain rfl := Option.some.inj hm1
        exact wk_cutw [(102, 102), (103, 103), (104, 104), (106, 106), (109, 109)] ⟨_, rfl, rfl⟩
      refine ss ?_
      refine wl_sg hm1 ?_ ?_ <;> clear hm1 <;> intro hm1
      · refine ss ?_
        obtain ⟨y10, hy, hm1⟩ := bnd_o hm1
        refine wl_cq (Mkeyspace_Compare_sp (hm := hy)) ?_
        refine ss ?_
        refine wl_sg hm1 ?_ ?_ <;> clear hm1 <;> intro hm1
        · refine ss ?_
          obtain rfl := Option.some.inj hm1
          exact wk_cutw [(102, 102), (103, 103), (104, 104), (106, 106), (109, 109)] ⟨_, rfl, rfl⟩
        refine ss ?_
        obtain ⟨y11, hy, hm1⟩ := bnd_o hm1
        refine wl_cq (Mkeyspace_Compare_sp (hm := hy)) ?_
        refine ss ?_
        obtain rfl := Option.some.inj hm1
        exact wk_cutw [(102, 102), (103, 103), (104, 104), (106, 106), (109, 109)] ⟨_, rfl, rfl⟩
      refine ss ?_
      obtain rfl := Option.some.inj hm1
      exact wk_cutw [(102, 102), (103, 103), (104, 104), (106, 106), (109, 109)] ⟨_, rfl, rfl⟩
    refine ss ?_
    refine wl_sg hm1 ?_ ?_ <;> clear hm1 <;> intro hm1
    · refine ss ?_
      obtain ⟨y12, hy, hm1⟩ := bnd_o hm1
      refine wl_cq (Mkeyspace_Compare_sp (hm := hy)) ?_
      refine ss ?_
      refine wl_sg hm1 ?_ ?_ <;> clear hm1 <;> intro hm1
      · refine ss ?_
        obtain rfl := Option.some.inj hm1
        exact wk_cutw [(102, 102), (103, 103), (104, 104), (106, 106), (109, 109)] ⟨_, rfl, rfl⟩
      refine ss ?_
      obtain ⟨y13, hy, hm1⟩ := bnd_o hm1
      refine wl_cq (Mkeyspace_Compare_sp (hm := hy)) ?_
      refine ss ?_
      obtain rfl := Option.some.inj hm1
      exact wk_cutw [(102, 102), (103, 103), (104, 104), (106, 106), (109, 109)] ⟨_, rfl, rfl⟩
    refine ss ?_
    obtain rfl := Option.some.inj hm1
    exact wk_cutw [(102, 102), (103, 103), (104, 104), (106, 106), (109, 109)] ⟨_, rfl, rfl⟩
  rintro _ ⟨x14, rfl, rfl⟩
  refine ss ?_
  refine wc_cs hm0 ?_ ?_ <;> clear hm0 <;> intro hm0
  · refine sr ?_
    refine sx ?_
    obtain rfl := Option.some.inj hm0
    exact wk_ret ⟨rfl, rfl⟩
  refine sx ?_
  refine sr ?_
  obtain ⟨y15, hy, hm0⟩ := bnd_o hm0
  refine wl_cq (Mkeyspace_Intersect_sp (hm := hy)) ?_
  refine sr ?_
  refine sr ?_
  obtain ⟨y16, hy, hm0⟩ := obnd_o hm0
  refine wl_cq (Mtable_Slice_sp (hm := hy)) ?_
  refine sr ?_
  obtain ⟨y17, hy, hm0⟩ := obnd_o hm0
  refine wl_mkn (u' := .a [vI y17.Query.Kind, .d (lst Rng.ds y17.Query.Ranges), vS y17.Query.Key, vI y17.Query.Count, .h 208301, .h 208302]) (h' := [(208301, some (arrT 38 4 Rng.ds y17.Todo)), (208302, some (arrT 60 12 TVisit.ds y17.Visits))]) (Mclone_Walk_so4_5 (hm := hy)) 208300 rfl rfl rfl (by repeat (first | exact Vws.nil | apply Vws.cons | exact Vw.nil | exact Vw.d _ | exact Vw.q _ | apply Vw.a)) rfl (by (try simp only [renH, Option.map_some, Blk.ren, rens_d]); rfl) rfl rfl rfl rfl ?_
  refine sr ?_
  refine sr ?_
  obtain ⟨mu1, hm1, hm0⟩ := obnd_o hm0
  refine wc_cut' (fun st => ∃ (w26 : List Rng) (w27 : List TVisit) (at28 : Int), mu1 = (w26, w27, at28) ∧ st = ⟨[(2, .p 102 0), (4, .p 104 0), (13, vI at28)], [(102, some (.box 44 [vI y17.Query.Kind, .d (lst Rng.ds y17.Query.Ranges), vS y17.Query.Key, vI y17.Query.Count, .h 5001, .d (lst TVisit.ds w27)])), (104, some (.box 44 [vI 0, .d (.c (.slice none 0 0)), vS ⟨#[]⟩, vI 0, .d (.c (.slice none 0 0)), .d (.c (.slice none 0 0))])), (5001, some (arrT 38 4 Rng.ds w26))]⟩) ?_ ?_
  · refine wc_cs hm1 ?_ ?_ <;> clear hm1 <;> intro hm1
    · refine sr ?_
      refine wc_seq ?_
      refine wc_wkw [(102, 102), (104, 104), (111, 111), (112, 112), (208301, 208301)] ⟨[(2, .p 102 0), (4, .p 104 0), (11, .p 111 0), (12, .p 112 0), (13, vI (i64w ((y17.Todo.length : Int) - 1)))], [(102, some (.box 44 [vI y17.Query.Kind, .d (lst Rng.ds y17.Query.Ranges), vS y17.Query.Key, vI y17.Query.Count, .h 208301, .d (lst TVisit.ds y17.Visits)])), (104, some (.box 44 [vI 0, .d (.c (.slice none 0 0)), vS ⟨#[]⟩, vI 0, .d (.c (.slice none 0 0)), .d (.c (.slice none 0 0))])), (111, some (.box 38 [vS y15.lo.key, vB y15.lo.top, vS y15.hi.key, vB y15.hi.top])), (112, some (.box 60 [vI v2.Owner, vS v2.Interval.lo.key, vB v2.Interval.lo.top, vS v2.Interval.hi.key, vB v2.Interval.hi.top, vI v2.Stamp.Epoch, vI v2.Stamp.Version, .d (lst Kv.ds y16), vS y15.lo.key, vB y15.lo.top, vS y15.hi.key, vB y15.hi.top])), (208301, some (arrT 38 4 Rng.ds y17.Todo))]⟩ ?_
      refine sr ?_
      refine wl_1 (n_bso (k := 190) TVisit.ds [(TVisit.mk (TView.mk v2.Owner v2.Interval v2.Stamp y16) y15)] rfl rfl rfl rfl (by simp only [flatV, cellsV, List.cons_append, List.nil_append, List.append_nil]; exact rfl) rfl rfl) rfl rfl rfl rfl ?_
      refine ss ?_
      obtain ⟨l18, hy, hm1⟩ := obnd_o hm1
      refine wl_2 (n_app (k' := 193) hy rfl rfl rfl rfl rfl rfl rfl rfl) rfl rfl rfl rfl ?_
      refine sr ?_
      obtain ⟨e19, hy, hm1⟩ := obnd_o hm1
      have hge19 := hy
      refine wl_r (o_ixo hy rfl rfl rfl rfl) rfl rfl rfl ?_
      refine ss ?_
      obtain ⟨e21, hy, hm1⟩ := bnd_o hm1
      have hxe21 := hy
      refine ss ?_
      obtain ⟨l20, hy, hm1⟩ := bnd_o hm1
      refine wl_0 (lo := 0) (nn := 0) (o_sto (k := 208301) (f := Rng.ds) (zz := 4) (off := 2) hge19 hy rfl rfl rfl rfl (by exact inferInstance) rfl (by rw [← hxe21]; rfl)) rfl rfl (fresh0 _ _) ?_
      have hge21 := lget_set hge19 e21
      rw [hy] at hge21
      refine ss ?_
      obtain rfl := Option.some.inj hm1
      exact wk_cutw [(102, 102), (104, 104), (5001, 208301)] ⟨_, _, _, rfl, rfl⟩
    refine sr ?_
    refine wl_bt TVisit.ds [(TVisit.mk (TView.mk v2.Owner v2.Interval v2.Stamp y16) y15)] rfl rfl (by simp only [flatV, cellsV, List.cons_append, List.nil_append, List.append_nil]; exact rfl) rfl rfl rfl rfl rfl rfl ?_
    refine ss ?_
    obtain ⟨l22, hy, hm1⟩ := obnd_o hm1
    refine wl_2 (n_app (k' := 206) hy rfl rfl rfl rfl rfl rfl rfl rfl) rfl rfl rfl rfl ?_
    refine sr ?_
    obtain ⟨e23, hy, hm1⟩ := obnd_o hm1
    have hge23 := hy
    refine wl_r (o_ixo hy rfl rfl rfl rfl) rfl rfl rfl ?_
    refine ss ?_
    obtain ⟨e25, hy, hm1⟩ := bnd_o hm1
    have hxe25 := hy
    refine ss ?_
    obtain ⟨l24, hy, hm1⟩ := bnd_o hm1
    refine wl_0 (lo := 0) (nn := 0) (o_sto (k := 208301) (f := Rng.ds) (zz := 4) (off := 0) hge23 hy rfl rfl rfl rfl (by exact inferInstance) rfl (by rw [← hxe25]; rfl)) rfl rfl (fresh0 _ _) ?_
    have hge25 := lget_set hge23 e25
    rw [hy] at hge25
    refine ss ?_
    obtain rfl := Option.some.inj hm1
    exact wk_cutw [(102, 102), (104, 104), (5001, 208301)] ⟨_, _, _, rfl, rfl⟩
  rintro _ ⟨w26, w27, at28, rfl, rfl⟩
  refine sr ?_
  obtain ⟨e29, hy, hm0⟩ := obnd_o hm0
  have hge29 := hy
  refine wl_r (o_ixo hy rfl rfl rfl rfl) rfl rfl rfl ?_
  refine ss ?_
  refine wl_r (o_ldo (k := 5001) (f := Rng.ds) (zz := 4) (u := .a [vS e29.lo.key, vB e29.lo.top, vS e29.hi.key, vB e29.hi.top]) (off := 0) hge29 rfl rfl rfl (by exact inferInstance) rfl rfl) rfl rfl rfl ?_
  refine ss ?_
  obtain ⟨y30, hy, hm0⟩ := bnd_o hm0
  refine wl_cq (Mkeyspace_Empty_sp (hm := hy)) ?_
  refine ss ?_
  refine wc_cs hm0 ?_ ?_ <;> clear hm0 <;> intro hm0
  · refine wc_draw (id := 24) [⟨0, 0, [2]⟩, ⟨1, 1, [121]⟩, ⟨2, 0, [13]⟩, ⟨3, 7, [122, 123]⟩, ⟨4, 0, [2]⟩, ⟨5, 16, [125]⟩, ⟨6, 0, [13]⟩, ⟨7, 64, [127]⟩, ⟨8, 240, [126, 128]⟩, ⟨9, 511, [124, 129]⟩, ⟨10, 1023, [2]⟩, ⟨11, 2047, [130, 131]⟩] mixed (by kernel_rfl) ?_
    refine ss ?_
    obtain ⟨l31, hy, hm0⟩ := obnd_o hm0
    have hvl31 := hy
    refine wd_slv hy rfl rfl rfl rfl rfl rfl (by first | exact .no rfl | exact .y rfl rfl rfl rfl) rfl rfl ?_
    refine ss ?_
    refine wd_r [] (o_add rfl rfl rfl rfl) rfl (by first | exact .no rfl | exact .y rfl rfl rfl rfl) rfl rfl ?_
    refine ss ?_
    obtain ⟨l32, hy, hm0⟩ := obnd_o hm0
    have hvl32 := hy
    refine wd_slv hy rfl rfl rfl rfl rfl rfl (by first | exact .no rfl | exact .y rfl rfl rfl rfl) rfl rfl ?_
    refine ss ?_
    obtain ⟨l33, hy, hm0⟩ := obnd_o hm0
    refine wd_del (k' := 230) hy hvl31 hvl32 rfl rfl rfl rfl rfl rfl rfl (by first | exact .no rfl | exact .y rfl rfl rfl rfl) rfl rfl rfl ?_
    refine sr ?_
    refine sx ?_
    obtain rfl := Option.some.inj hm0
    exact wk_ret ⟨rfl, rfl⟩
  refine sx ?_
  refine sr ?_
  refine sx ?_
  obtain rfl := Option.some.inj hm0
  exact wk_ret ⟨rfl, rfl⟩

def Mref28_inside (a1 : Rng) (r2 : Rng) : Bool :=
  bnd (Mref1_Compare r2.lo a1.lo) fun y3 =>
  sel (decide (y3 ≤ 0)) (
    bnd (Mref1_Compare a1.hi r2.hi) fun y4 =>
    sel (decide (y4 ≤ 0)) (
      bnd (Mref1_Empty r2) fun y5 =>
      !y5) (
      false)) (
    false)
theorem Mref28_inside_sp {a1 : Rng} {r2 : Rng} {y : Bool} (hm : Mref28_inside a1 r2 = y) : Spec Tryd.prog 39 [.a [vS a1.lo.key, vB a1.lo.top, vS a1.hi.key, vB a1.hi.top], .a [vS r2.lo.key, vB r2.lo.top, vS r2.hi.key, vB r2.hi.top]] [] fun u h => u = vB y ∧ h = [] := by
  refine Spec.intro Tryd.func39 rfl rfl Tryd.ntmps39 Tryd.results39 rfl fun B w0 ρ0 => ?_
  simp only [slots, List.map_nil, List.map_cons, Nat.reduceAdd]
  unfold Mref28_inside at hm
  have hm0 := hm
  clear hm
  refine sr ?_
  refine sr ?_
  obtain ⟨y3, hy, hm0⟩ := bnd_o hm0
  refine wl_cq (Mref1_Compare_sp (hm := hy)) ?_
  refine ss ?_
  refine wl_sg hm0 ?_ ?_ <;> clear hm0 <;> intro hm0
  · refine ss ?_
    obtain ⟨y4, hy, hm0⟩ := bnd_o hm0
    refine wl_cq (Mref1_Compare_sp (hm := hy)) ?_
    refine ss ?_
    refine wl_sg hm0 ?_ ?_ <;> clear hm0 <;> intro hm0
    · refine ss ?_
      obtain ⟨y5, hy, hm0⟩ := bnd_o hm0
      refine wl_cq (Mref1_Empty_sp (hm := hy)) ?_
      refine sx ?_
      subst hm0
      exact wk_ret ⟨rfl, rfl⟩
    refine sx ?_
    subst hm0
    exact wk_ret ⟨rfl, rfl⟩
  refine sx ?_
  subst hm0
  exact wk_ret ⟨rfl, rfl⟩

def Mref28_Start_l2 (r4 : Rng) : List Rng → Bool → Option Bool
  | [], ok12 =>
    some ok12
  | r13 :: xs14, ok12 =>
    sel ok12 (
      Mref28_Start_l2 r4 xs14 true) (
      bnd (Mref28_inside r4 r13) fun y16 =>
      Mref28_Start_l2 r4 xs14 y16)
def Mref28_Start_l1 (q1 : TQuery) (ranges2 : List Rng) : List Rng → Int → Option (Ctl (TWalk × Int) Unit)
  | [], i =>
    some (Ctl.nxt ())
  | r4 :: xs5, i =>
    obnd (
      bnd (Mref1_Empty r4) fun y7 =>
      sel y7 (
        some (Ctl.ret (Ctl.ret ((TWalk.mk (TQuery.mk 0 [] ⟨#[]⟩ 0) [] []), 1)))) (
        obnd (
          sel (decide (0 < i)) (
            obnd (lget ranges2 (i64w (i - 1))) fun e8 =>
            bnd (Mref1_Compare r4.lo e8.hi) fun y9 =>
            some (decide (y9 < 0))) (
            some false) : Option Bool) fun x10 =>
        sel x10 (
          some (Ctl.ret (Ctl.ret ((TWalk.mk (TQuery.mk 0 [] ⟨#[]⟩ 0) [] []), 8)))) (
          obnd (Mref22_Ranges q1) fun y11 =>
          obnd (
            Mref28_Start_l2 r4 y11 false : Option Bool) fun ok17 =>
          sel (!ok17) (
            some (Ctl.ret (Ctl.ret ((TWalk.mk (TQuery.mk 0 [] ⟨#[]⟩ 0) [] []), 2)))) (
            some (Ctl.nxt ())))) : Option (Ctl (Ctl (TWalk × Int) Unit) Unit)) fun mu => ocbnd mu fun (_ : Unit) =>
    Mref28_Start_l1 q1 ranges2 xs5 (i + 1)
def Mref28_Start (q1 : TQuery) (ranges2 : List Rng) : Option (TWalk × Int) :=
  bnd (Mref22_Check q1) fun y3 =>
  sel (!decide (y3 = 0)) (
    some ((TWalk.mk (TQuery.mk 0 [] ⟨#[]⟩ 0) [] []), y3)) (
    sel (decide (128 < (ranges2.length : Int))) (
      some ((TWalk.mk (TQuery.mk 0 [] ⟨#[]⟩ 0) [] []), 3)) (
      obnd (
        Mref28_Start_l1 q1 ranges2 ranges2 0 : Option (Ctl (TWalk × Int) Unit)) fun mu => ocbnd mu fun (_ : Unit) =>
      obnd (app ([] : List Rng) ranges2) fun l18 =>
      some ((TWalk.mk q1 l18 []), 0)))
theorem Mref28_Start_sp {q1 : TQuery} {ranges2 : List Rng} {y : (TWalk × Int)} (hm : Mref28_Start q1 ranges2 = some y) : Spec Tryd.prog 14 [.a [vI q1.Kind, .d (lst Rng.ds q1.Ranges), vS q1.Key, vI q1.Count], .d (lst Rng.ds ranges2)] [] fun u h => u = .t [.a [vI y.1.Query.Kind, .d (lst Rng.ds y.1.Query.Ranges), vS y.1.Query.Key, vI y.1.Query.Count, .d (lst Rng.ds y.1.Todo), .d (lst TVisit.ds y.1.Visits)], vI y.2] ∧ h = [] := by
  refine Spec.intro Tryd.func14 rfl rfl Tryd.ntmps14 Tryd.results14 rfl fun B w0 ρ0 => ?_
  simp only [slots, List.map_nil, List.map_cons, Nat.reduceAdd]
  unfold Mref28_Start at hm
  have hm0 := hm
  clear hm
  refine sr ?_
  refine sr ?_
  obtain ⟨y3, hy, hm0⟩ := bnd_o hm0
  refine wl_cq (Mref22_Check_sp (hm := hy)) ?_
  refine sr ?_
  refine wc_cs hm0 ?_ ?_ <;> clear hm0 <;> intro hm0
  · refine sr ?_
    refine sx ?_
    obtain rfl := Option.some.inj hm0
    exact wk_ret ⟨rfl, rfl⟩
  refine sx ?_
  refine sr ?_
  refine wc_cs hm0 ?_ ?_ <;> clear hm0 <;> intro hm0
  · refine sr ?_
    refine sx ?_
    obtain rfl := Option.some.inj hm0
    exact wk_ret ⟨rfl, rfl⟩
  refine sx ?_
  refine sr ?_
  obtain ⟨mu1, hm1, hm0⟩ := obnd_o hm0
  refine wc_cut' (fun st => mu1 = Ctl.nxt () ∧ st = ⟨[(1, .d (lst Rng.ds ranges2)), (2, .p 102 0), (4, .p 104 0)], [(102, some (.box 25 [vI q1.Kind, .d (lst Rng.ds q1.Ranges), vS q1.Key, vI q1.Count])), (104, some (.box 44 [vI 0, .d (.c (.slice none 0 0)), vS ⟨#[]⟩, vI 0, .d (.c (.slice none 0 0)), .d (.c (.slice none 0 0))]))]⟩) ?_ ?_
  · refine wc_block ?_
    refine wc_len 22 rfl (fun hlenm6 => ?_)
    refine wc_loopw (fun κ st => ∃ (m6 : Nat) , κ = ranges2.length - m6 ∧ m6 ≤ ranges2.length ∧ Mref28_Start_l1 q1 ranges2 (ranges2.drop m6) (m6 : Int) = some mu1 ∧ st = ⟨[(1, .d (lst Rng.ds ranges2)), (2, .p 102 0), (4, .p 104 0), (22, .d (lst Rng.ds ranges2)), (23, vI (ranges2.length : Int)), (24, vI (m6 : Int))], [(102, some (.box 25 [vI q1.Kind, .d (lst Rng.ds q1.Ranges), vS q1.Key, vI q1.Count])), (104, some (.box 44 [vI 0, .d (.c (.slice none 0 0)), vS ⟨#[]⟩, vI 0, .d (.c (.slice none 0 0)), .d (.c (.slice none 0 0))]))]⟩) [(102, 102), (104, 104)] ⟨0, rfl, Nat.zero_le _, hm1, rfl⟩ ?_
    rintro κ _ ⟨m6, rfl, hlem6, hm1, rfl⟩
    rcases Nat.lt_or_ge m6 ranges2.length with hltm6 | hgem6
    · obtain ⟨r4, hxm6, hdr⟩ := drop_c hltm6
      rw [hdr, Mref28_Start_l1.eq_2] at hm1
      refine sr ?_
      refine wc_seq ?_
      refine wc_cond_tt (lt_t hltm6) rfl ?_
      refine sx ?_
      refine wc_seq ?_
      obtain ⟨mu2, hm2, hm1⟩ := obnd_o hm1
      refine wc_cut' (fun st => mu2 = Ctl.nxt () ∧ st = ⟨[(1, .d (lst Rng.ds ranges2)), (2, .p 102 0), (4, .p 104 0), (22, .d (lst Rng.ds ranges2)), (23, vI (ranges2.length : Int)), (24, vI (m6 : Int))], [(102, some (.box 25 [vI q1.Kind, .d (lst Rng.ds q1.Ranges), vS q1.Key, vI q1.Count])), (104, some (.box 44 [vI 0, .d (.c (.slice none 0 0)), vS ⟨#[]⟩, vI 0, .d (.c (.slice none 0 0)), .d (.c (.slice none 0 0))]))]⟩) ?_ ?_
      · refine sr ?_
        refine wl_r (o_ixm (ys := [dS r4.lo.key, dB r4.lo.top, dS r4.hi.key, dB r4.hi.top]) hxm6 rfl rfl rfl rfl) rfl rfl rfl ?_
        refine sr ?_
        obtain ⟨y7, hy, hm2⟩ := bnd_o hm2
        refine wl_cq (Mref1_Empty_sp (hm := hy)) ?_
        refine ss ?_
        refine wc_cs hm2 ?_ ?_ <;> clear hm2 <;> intro hm2
        · refine sr ?_
          refine sx ?_
          obtain rfl := Option.some.inj hm2
          replace hm1 := ocbnd_r hm1
          obtain rfl := Option.some.inj hm1
          replace hm0 := ocbnd_r hm0
          obtain rfl := Option.some.inj hm0
          exact wk_ret ⟨rfl, rfl⟩
        refine sx ?_
        refine wc_seq ?_
        refine wc_seq ?_
        obtain ⟨mu3, hm3, hm2⟩ := obnd_o hm2
        refine wc_cut' (fun st => ∃ (x10 : Bool), x10 = mu3 ∧ st = ⟨[(1, .d (lst Rng.ds ranges2)), (2, .p 102 0), (4, .p 104 0), (8, .p 108 0), (22, .d (lst Rng.ds ranges2)), (23, vI (ranges2.length : Int)), (24, vI (m6 : Int)), (45, vB x10)], [(102, some (.box 25 [vI q1.Kind, .d (lst Rng.ds q1.Ranges), vS q1.Key, vI q1.Count])), (104, some (.box 44 [vI 0, .d (.c (.slice none 0 0)), vS ⟨#[]⟩, vI 0, .d (.c (.slice none 0 0)), .d (.c (.slice none 0 0))])), (108, some (.box 38 [vS r4.lo.key, vB r4.lo.top, vS r4.hi.key, vB r4.hi.top]))]⟩) ?_ ?_
        · refine wc_draw (id := 11) [⟨0, 0, [7]⟩, ⟨1, 1, [32]⟩, ⟨2, 3, [33]⟩, ⟨3, 7, [8, 34]⟩, ⟨4, 15, [34, 35]⟩, ⟨5, 7, [1, 34]⟩, ⟨6, 7, [7, 34]⟩, ⟨7, 71, [34, 38]⟩, ⟨8, 231, [34, 37, 39]⟩, ⟨9, 487, [34, 40]⟩, ⟨10, 999, [34, 41]⟩, ⟨11, 2047, [34, 36, 42]⟩, ⟨12, 4095, [34, 43]⟩, ⟨13, 8191, [34, 44]⟩] mixed (by kernel_rfl) ?_
          refine ss ?_
          refine wd_gp rfl rfl rfl rfl (fun h => ?_) (fun h => ?_)
          · replace hm3 := sel_t h hm3
            refine ss ?_
            obtain ⟨e8, hy, hm3⟩ := obnd_o hm3
            refine wd_r [] (o_ixg (ys := [dS e8.lo.key, dB e8.lo.top, dS e8.hi.key, dB e8.hi.top]) hy rfl rfl rfl rfl) rfl (by first | exact .no rfl | exact .y rfl rfl rfl rfl) rfl rfl ?_
            refine ss ?_
            obtain ⟨y9, hy, hm3⟩ := bnd_o hm3
            refine wd_cs (Mref1_Compare_sp (hm := hy)) rfl rfl rfl (by repeat (first | exact Vws.nil | apply Vws.cons | exact Vw.nil | exact Vw.d _ | exact Vw.q _ | apply Vw.a)) rfl rfl (by first | exact .no rfl | exact .y rfl rfl rfl rfl) rfl rfl rfl ?_
            refine ss ?_
            obtain rfl := Option.some.inj hm3
            exact wk_cutw [(102, 102), (104, 104), (108, 108)] ⟨_, rfl, rfl⟩
          replace hm3 := sel_f h hm3
          refine ss ?_
          obtain rfl := Option.some.inj hm3
          exact wk_cutw [(102, 102), (104, 104), (108, 108)] ⟨_, rfl, rfl⟩
        rintro _ ⟨x10, rfl, rfl⟩
        refine ss ?_
        refine wc_cs hm2 ?_ ?_ <;> clear hm2 <;> intro hm2
        · refine sr ?_
          refine sx ?_
          obtain rfl := Option.some.inj hm2
          replace hm1 := ocbnd_r hm1
          obtain rfl := Option.some.inj hm1
          replace hm0 := ocbnd_r hm0
          obtain rfl := Option.some.inj hm0
          exact wk_ret ⟨rfl, rfl⟩
        refine sx ?_
        refine sr ?_
        refine sr ?_
        obtain ⟨y11, hy, hm2⟩ := obnd_o hm2
        refine wl_cq (Mref22_Ranges_sp (hm := hy)) ?_
        refine ss ?_
        obtain ⟨mu3, hm3, hm2⟩ := obnd_o hm2
        refine wc_cut' (fun st => ∃ (ok17 : Bool), ok17 = mu3 ∧ st = ⟨[(1, .d (lst Rng.ds ranges2)), (2, .p 102 0), (4, .p 104 0), (9, vB ok17), (22, .d (lst Rng.ds ranges2)), (23, vI (ranges2.length : Int)), (24, vI (m6 : Int))], [(102, some (.box 25 [vI q1.Kind, .d (lst Rng.ds q1.Ranges), vS q1.Key, vI q1.Count])), (104, some (.box 44 [vI 0, .d (.c (.slice none 0 0)), vS ⟨#[]⟩, vI 0, .d (.c (.slice none 0 0)), .d (.c (.slice none 0 0))]))]⟩) ?_ ?_
        · refine wc_block ?_
          refine wc_len 48 rfl (fun hlenm15 => ?_)
          refine wc_loopw (fun κ st => ∃ (m15 : Nat) (ok12 : Bool), κ = y11.length - m15 ∧ m15 ≤ y11.length ∧ Mref28_Start_l2 r4 (y11.drop m15) ok12 = some mu3 ∧ st = ⟨[(1, .d (lst Rng.ds ranges2)), (2, .p 102 0), (4, .p 104 0), (8, .p 108 0), (9, vB ok12), (22, .d (lst Rng.ds ranges2)), (23, vI (ranges2.length : Int)), (24, vI (m6 : Int)), (48, .d (lst Rng.ds y11)), (49, vI (y11.length : Int)), (50, vI (m15 : Int))], [(102, some (.box 25 [vI q1.Kind, .d (lst Rng.ds q1.Ranges), vS q1.Key, vI q1.Count])), (104, some (.box 44 [vI 0, .d (.c (.slice none 0 0)), vS ⟨#[]⟩, vI 0, .d (.c (.slice none 0 0)), .d (.c (.slice none 0 0))])), (108, some (.box 38 [vS r4.lo.key, vB r4.lo.top, vS r4.hi.key, vB r4.hi.top]))]⟩) [(102, 102), (104, 104), (108, 108)] ⟨0, _, rfl, Nat.zero_le _, hm3, rfl⟩ ?_
          rintro κ _ ⟨m15, ok12, rfl, hlem15, hm3, rfl⟩
          rcases Nat.lt_or_ge m15 y11.length with hltm15 | hgem15
          · obtain ⟨r13, hxm15, hdr⟩ := drop_c hltm15
            rw [hdr, Mref28_Start_l2.eq_2] at hm3
            refine sr ?_
            refine wc_seq ?_
            refine wc_cond_tt (lt_t hltm15) rfl ?_
            refine sx ?_
            refine sr ?_
            refine wl_r (o_ixm (ys := [dS r13.lo.key, dB r13.lo.top, dS r13.hi.key, dB r13.hi.top]) hxm15 rfl rfl rfl rfl) rfl rfl rfl ?_
            refine sr ?_
            refine wl_sg hm3 ?_ ?_ <;> clear hm3 <;> intro hm3
            · refine sr ?_
              refine wl_r (o_inc hltm15 hlenm15 rfl rfl rfl) rfl rfl rfl ?_
              refine ss ?_
              exact wk_loopw [(102, 102), (104, 104), (108, 108)] ⟨m15 + 1, _, rfl, hltm15, hm3, rfl⟩ (by omega)
            refine ss ?_
            obtain ⟨y16, hy, hm3⟩ := bnd_o hm3
            refine wl_cq (Mref28_inside_sp (hm := hy)) ?_
            refine sr ?_
            refine wl_r (o_inc hltm15 hlenm15 rfl rfl rfl) rfl rfl rfl ?_
            refine ss ?_
            exact wk_loopw [(102, 102), (104, 104), (108, 108)] ⟨m15 + 1, _, rfl, hltm15, hm3, rfl⟩ (by omega)
          · rw [drop_n hgem15, Mref28_Start_l2.eq_1] at hm3
            refine sr ?_
            refine wc_seq ?_
            refine wc_cond_ff (lt_f hgem15) rfl ?_
            refine wc_exit ?_
            refine ss ?_
            obtain rfl := Option.some.inj hm3
            exact wk_cutw [(102, 102), (104, 104)] ⟨_, rfl, rfl⟩
        rintro _ ⟨ok17, rfl, rfl⟩
        refine sr ?_
        refine wc_cs hm2 ?_ ?_ <;> clear hm2 <;> intro hm2
        · refine sr ?_
          refine sx ?_
          obtain rfl := Option.some.inj hm2
          replace hm1 := ocbnd_r hm1
          obtain rfl := Option.some.inj hm1
          replace hm0 := ocbnd_r hm0
          obtain rfl := Option.some.inj hm0
          exact wk_ret ⟨rfl, rfl⟩
        refine sx ?_
        obtain rfl := Option.some.inj hm2
        exact wk_cutw [(102, 102), (104, 104)] ⟨rfl, rfl⟩
      rintro _ ⟨rfl, rfl⟩
      replace hm1 := ocbnd_n hm1
      refine sr ?_
      refine wl_r (o_inc hltm6 hlenm6 rfl rfl rfl) rfl rfl rfl ?_
      refine ss ?_
      exact wk_loopw [(102, 102), (104, 104)] ⟨m6 + 1, rfl, hltm6, hm1, rfl⟩ (by omega)
    · rw [drop_n hgem6, Mref28_Start_l1.eq_1] at hm1
      refine sr ?_
      refine wc_seq ?_
      refine wc_cond_ff (lt_f hgem6) rfl ?_
      refine wc_exit ?_
      refine ss ?_
      obtain rfl := Option.some.inj hm1
      exact wk_cutw [(102, 102), (104, 104)] ⟨rfl, rfl⟩
  rintro _ ⟨rfl, rfl⟩
  replace hm0 := ocbnd_n hm0
  refine ss ?_
  refine wc_seq ?_
  refine wc_draw (id := 22) [⟨0, 0, [2]⟩, ⟨1, 0, [1]⟩, ⟨2, 2, [66]⟩, ⟨3, 7, [65, 67]⟩, ⟨4, 15, [4, 68]⟩, ⟨5, 31, []⟩] mixed (by kernel_rfl) ?_
  refine ss ?_
  obtain ⟨l18, hy, hm0⟩ := obnd_o hm0
  refine wd_1 [] (n_appn (k := 167) hy rfl rfl rfl rfl rfl rfl) rfl (by first | exact .no rfl | exact .y rfl rfl rfl rfl) rfl rfl rfl ?_
  refine sx ?_
  obtain rfl := Option.some.inj hm0
  exact wk_ret ⟨rfl, rfl⟩

theorem run_eqt53 {w : World} {n : Nat} (a0 b0 : Int) (a1 b1 : Int) : (Op.equalIn (n + 2) 53 (.agg #[.int .i64 a0, .int .i64 a1]) (.agg #[.int .i64 b0, .int .i64 b1])).run Tryd.prog w = .ok (decide (a0 = b0) && decide (a1 = b1)) w := by
  rw [show n + 2 = (n + 1) + 1 from rfl, run_equalIn_struct (P := Tryd.prog) w (n + 1) 53 _ _ (by kernel_rfl) (by kernel_rfl), show (Tryd.prog.fieldsOf 53).toList = [⟨"Epoch", 3, 0, false, "", "", 0⟩, ⟨"Version", 3, 1, false, "", "", 8⟩] from by kernel_rfl]
  simp [Op.eqFields, part, Result.andThen, eqt_if, ba_eqE, run_agg (T := 3) (inferInstance : Ty Tryd.prog 3 _ _), run_size (T := 3) (inferInstance : Ty Tryd.prog 3 _ _), run_equalIn_int (P := Tryd.prog) _ _ 3 .i64 .i64 _ _ (by kernel_rfl)]
  all_goals ((repeat' split) <;> simp_all)
instance eqs53 (a0 b0 : Int) (a1 b1 : Int) : Eqs Tryd.prog 53 [.int .i64 a0, .int .i64 a1] [.int .i64 b0, .int .i64 b1] (decide (a0 = b0) && decide (a1 = b1)) := ⟨by kernel_rfl, fun w => run_eqt53 (n := 9998) a0 b0 a1 b1⟩
def Mref28_SameVisit (a1 : TVisit) (b2 : TVisit) : Option Bool :=
  sel (decide (a1.View.Owner = b2.View.Owner)) (
    sel (decide (a1.View.Stamp.Epoch = b2.View.Stamp.Epoch) && decide (a1.View.Stamp.Version = b2.View.Stamp.Version)) (
      bnd (Mref24_SameRange a1.View.Interval b2.View.Interval) fun y3 =>
      sel y3 (
        bnd (Mref24_SameRange a1.Part b2.Part) fun y4 =>
        sel y4 (
          obnd (Mref20_Same a1.View.Rows b2.View.Rows) fun y5 =>
          some y5) (
          some false)) (
        some false)) (
      some false)) (
    some false)
theorem Mref28_SameVisit_sp {a1 : TVisit} {b2 : TVisit} {y : Bool} (hm : Mref28_SameVisit a1 b2 = some y) : Spec Tryd.prog 59 [.a [vI a1.View.Owner, vS a1.View.Interval.lo.key, vB a1.View.Interval.lo.top, vS a1.View.Interval.hi.key, vB a1.View.Interval.hi.top, vI a1.View.Stamp.Epoch, vI a1.View.Stamp.Version, .d (lst Kv.ds a1.View.Rows), vS a1.Part.lo.key, vB a1.Part.lo.top, vS a1.Part.hi.key, vB a1.Part.hi.top], .a [vI b2.View.Owner, vS b2.View.Interval.lo.key, vB b2.View.Interval.lo.top, vS b2.View.Interval.hi.key, vB b2.View.Interval.hi.top, vI b2.View.Stamp.Epoch, vI b2.View.Stamp.Version, .d (lst Kv.ds b2.View.Rows), vS b2.Part.lo.key, vB b2.Part.lo.top, vS b2.Part.hi.key, vB b2.Part.hi.top]] [] fun u h => u = vB y ∧ h = [] := by
  refine Spec.intro Tryd.func59 rfl rfl Tryd.ntmps59 Tryd.results59 rfl fun B w0 ρ0 => ?_
  simp only [slots, List.map_nil, List.map_cons, Nat.reduceAdd]
  unfold Mref28_SameVisit at hm
  have hm0 := hm
  clear hm
  refine sr ?_
  refine sr ?_
  refine wl_sg hm0 ?_ ?_ <;> clear hm0 <;> intro hm0
  · refine ss ?_
    refine wl_sg hm0 ?_ ?_ <;> clear hm0 <;> intro hm0
    · refine ss ?_
      obtain ⟨y3, hy, hm0⟩ := bnd_o hm0
      refine wl_cq (Mref24_SameRange_sp (hm := hy)) ?_
      refine ss ?_
      refine wl_sg hm0 ?_ ?_ <;> clear hm0 <;> intro hm0
      · refine ss ?_
        obtain ⟨y4, hy, hm0⟩ := bnd_o hm0
        refine wl_cq (Mref24_SameRange_sp (hm := hy)) ?_
        refine ss ?_
        refine wl_sg hm0 ?_ ?_ <;> clear hm0 <;> intro hm0
        · refine ss ?_
          obtain ⟨y5, hy, hm0⟩ := obnd_o hm0
          refine wl_cq (Mref20_Same_sp (hm := hy)) ?_
          refine sx ?_
          obtain rfl := Option.some.inj hm0
          exact wk_ret ⟨rfl, rfl⟩
        refine sx ?_
        obtain rfl := Option.some.inj hm0
        exact wk_ret ⟨rfl, rfl⟩
      refine sx ?_
      obtain rfl := Option.some.inj hm0
      exact wk_ret ⟨rfl, rfl⟩
    refine sx ?_
    obtain rfl := Option.some.inj hm0
    exact wk_ret ⟨rfl, rfl⟩
  refine sx ?_
  obtain rfl := Option.some.inj hm0
  exact wk_ret ⟨rfl, rfl⟩

def Mref28_SameVisits_l1 (a1 : List TVisit) (b2 : List TVisit) : List TVisit → Int → Option (Ctl Bool Unit)
  | [], i =>
    some (Ctl.nxt ())
  | r3 :: xs4, i =>
    obnd (lget a1 i) fun e6 =>
    obnd (lget b2 i) fun e7 =>
    obnd (Mref28_SameVisit e6 e7) fun y8 =>
    sel (!y8) (
      some (Ctl.ret false)) (
      Mref28_SameVisits_l1 a1 b2 xs4 (i + 1))
def Mref28_SameVisits (a1 : List TVisit) (b2 : List TVisit) : Option Bool :=
  sel (!decide ((a1.length : Int) = (b2.length : Int))) (
    some false) (
    obnd (
      Mref28_SameVisits_l1 a1 b2 a1 0 : Option (Ctl Bool Unit)) fun mu => ocbnd mu fun (_ : Unit) =>
    some true)
theorem Mref28_SameVisits_sp {a1 : List TVisit} {b2 : List TVisit} {y : Bool} (hm : Mref28_SameVisits a1 b2 = some y) : Spec Tryd.prog 42 [.d (lst TVisit.ds a1), .d (lst TVisit.ds b2)] [] fun u h => u = vB y ∧ h = [] := by
  refine Spec.intro Tryd.func42 rfl rfl Tryd.ntmps42 Tryd.results42 rfl fun B w0 ρ0 => ?_
  simp only [slots, List.map_nil, List.map_cons, Nat.reduceAdd]
  unfold Mref28_SameVisits at hm
  have hm0 := hm
  clear hm
  refine sr ?_
  refine sr ?_
  refine wc_cs hm0 ?_ ?_ <;> clear hm0 <;> intro hm0
  · refine sr ?_
    refine sx ?_
    obtain rfl := Option.some.inj hm0
    exact wk_ret ⟨rfl, rfl⟩
  refine sx ?_
  refine sr ?_
  obtain ⟨mu1, hm1, hm0⟩ := obnd_o hm0
  refine wc_cut' (fun st => mu1 = Ctl.nxt () ∧ st = ⟨[], []⟩) ?_ ?_
  · refine wc_block ?_
    refine wc_len 0 rfl (fun hlenm5 => ?_)
    refine wc_loopw (fun κ st => ∃ (m5 : Nat) , κ = a1.length - m5 ∧ m5 ≤ a1.length ∧ Mref28_SameVisits_l1 a1 b2 (a1.drop m5) (m5 : Int) = some mu1 ∧ st = ⟨[(0, .d (lst TVisit.ds a1)), (1, .d (lst TVisit.ds b2)), (12, vI (a1.length : Int)), (13, vI (m5 : Int))], []⟩) [] ⟨0, rfl, Nat.zero_le _, hm1, rfl⟩ ?_
    rintro κ _ ⟨m5, rfl, hlem5, hm1, rfl⟩
    rcases Nat.lt_or_ge m5 a1.length with hltm5 | hgem5
    · obtain ⟨r3, hxm5, hdr⟩ := drop_c hltm5
      rw [hdr, Mref28_SameVisits_l1.eq_2] at hm1
      refine sr ?_
      refine wc_seq ?_
      refine wc_cond_tt (lt_t hltm5) rfl ?_
      refine sx ?_
      refine sr ?_
      refine wc_seq ?_
      refine wc_draw (id := 6) [⟨0, 0, [0]⟩, ⟨1, 0, [5]⟩, ⟨2, 3, [16, 17]⟩, ⟨3, 7, [18]⟩, ⟨4, 0, [1]⟩, ⟨5, 0, [5]⟩, ⟨6, 48, [20, 21]⟩, ⟨7, 112, [22]⟩, ⟨8, 255, [19, 23]⟩, ⟨9, 511, [24]⟩] mixed (by kernel_rfl) ?_
      refine ss ?_
      obtain ⟨e6, hy, hm1⟩ := obnd_o hm1
      refine wd_r [] (o_ixg (ys := [dI e6.View.Owner, dS e6.View.Interval.lo.key, dB e6.View.Interval.lo.top, dS e6.View.Interval.hi.key, dB e6.View.Interval.hi.top, dI e6.View.Stamp.Epoch, dI e6.View.Stamp.Version, lst Kv.ds e6.View.Rows, dS e6.Part.lo.key, dB e6.Part.lo.top, dS e6.Part.hi.key, dB e6.Part.hi.top]) hy rfl rfl rfl rfl) rfl (by first | exact .no rfl | exact .y rfl rfl rfl rfl) rfl rfl ?_
      refine ss ?_
      obtain ⟨e7, hy, hm1⟩ := obnd_o hm1
      refine wd_r [] (o_ixg (ys := [dI e7.View.Owner, dS e7.View.Interval.lo.key, dB e7.View.Interval.lo.top, dS e7.View.Interval.hi.key, dB e7.View.Interval.hi.top, dI e7.View.Stamp.Epoch, dI e7.View.Stamp.Version, lst Kv.ds e7.View.Rows, dS e7.Part.lo.key, dB e7.Part.lo.top, dS e7.Part.hi.key, dB e7.Part.hi.top]) hy rfl rfl rfl rfl) rfl (by first | exact .no rfl | exact .y rfl rfl rfl rfl) rfl rfl ?_
      refine ss ?_
      obtain ⟨y8, hy, hm1⟩ := obnd_o hm1
      refine wd_cs (Mref28_SameVisit_sp (hm := hy)) rfl rfl rfl (by repeat (first | exact Vws.nil | apply Vws.cons | exact Vw.nil | exact Vw.d _ | exact Vw.q _ | apply Vw.a)) rfl rfl (by first | exact .no rfl | exact .y rfl rfl rfl rfl) rfl rfl rfl ?_
      refine ss ?_
      refine wc_cs hm1 ?_ ?_ <;> clear hm1 <;> intro hm1
      · refine sr ?_
        refine sx ?_
        obtain rfl := Option.some.inj hm1
        replace hm0 := ocbnd_r hm0
        obtain rfl := Option.some.inj hm0
        exact wk_ret ⟨rfl, rfl⟩
      refine sx ?_
      refine sr ?_
      refine wl_r (o_inc hltm5 hlenm5 rfl rfl rfl) rfl rfl rfl ?_
      refine ss ?_
      exact wk_loopw [] ⟨m5 + 1, rfl, hltm5, hm1, rfl⟩ (by omega)
    · rw [drop_n hgem5, Mref28_SameVisits_l1.eq_1] at hm1
      refine sr ?_
      refine wc_seq ?_
      refine wc_cond_ff (lt_f hgem5) rfl ?_
      refine wc_exit ?_
      refine ss ?_
      obtain rfl := Option.some.inj hm1
      exact wk_cutw [] ⟨rfl, rfl⟩
  rintro _ ⟨rfl, rfl⟩
  replace hm0 := ocbnd_n hm0
  refine sr ?_
  refine sx ?_
  obtain rfl := Option.some.inj hm0
  exact wk_ret ⟨rfl, rfl⟩

def Mref28_SameRanges_l1 (a1 : List Rng) (b2 : List Rng) : List Rng → Int → Option (Ctl Bool Unit)
  | [], i =>
    some (Ctl.nxt ())
  | r3 :: xs4, i =>
    obnd (lget a1 i) fun e6 =>
    obnd (lget b2 i) fun e7 =>
    bnd (Mref24_SameRange e6 e7) fun y8 =>
    sel (!y8) (
      some (Ctl.ret false)) (
      Mref28_SameRanges_l1 a1 b2 xs4 (i + 1))
def Mref28_SameRanges (a1 : List Rng) (b2 : List Rng) : Option Bool :=
  sel (!decide ((a1.length : Int) = (b2.length : Int))) (
    some false) (
    obnd (
      Mref28_SameRanges_l1 a1 b2 a1 0 : Option (Ctl Bool Unit)) fun mu => ocbnd mu fun (_ : Unit) =>
    some true)
theorem Mref28_SameRanges_sp {a1 : List Rng} {b2 : List Rng} {y : Bool} (hm : Mref28_SameRanges a1 b2 = some y) : Spec Tryd.prog 41 [.d (lst Rng.ds a1), .d (lst Rng.ds b2)] [] fun u h => u = vB y ∧ h = [] := by
  refine Spec.intro Tryd.func41 rfl rfl Tryd.ntmps41 Tryd.results41 rfl fun B w0 ρ0 => ?_
  simp only [slots, List.map_nil, List.map_cons, Nat.reduceAdd]
  unfold Mref28_SameRanges at hm
  have hm0 := hm
  clear hm
  refine sr ?_
  refine sr ?_
  refine wc_cs hm0 ?_ ?_ <;> clear hm0 <;> intro hm0
  · refine sr ?_
    refine sx ?_
    obtain rfl := Option.some.inj hm0
    exact wk_ret ⟨rfl, rfl⟩
  refine sx ?_
  refine sr ?_
  obtain ⟨mu1, hm1, hm0⟩ := obnd_o hm0
  refine wc_cut' (fun st => mu1 = Ctl.nxt () ∧ st = ⟨[], []⟩) ?_ ?_
  · refine wc_block ?_
    refine wc_len 0 rfl (fun hlenm5 => ?_)
    refine wc_loopw (fun κ st => ∃ (m5 : Nat) , κ = a1.length - m5 ∧ m5 ≤ a1.length ∧ Mref28_SameRanges_l1 a1 b2 (a1.drop m5) (m5 : Int) = some mu1 ∧ st = ⟨[(0, .d (lst Rng.ds a1)), (1, .d (lst Rng.ds b2)), (12, vI (a1.length : Int)), (13, vI (m5 : Int))], []⟩) [] ⟨0, rfl, Nat.zero_le _, hm1, rfl⟩ ?_
    rintro κ _ ⟨m5, rfl, hlem5, hm1, rfl⟩
    rcases Nat.lt_or_ge m5 a1.length with hltm5 | hgem5
    · obtain ⟨r3, hxm5, hdr⟩ := drop_c hltm5
      rw [hdr, Mref28_SameRanges_l1.eq_2] at hm1
      refine sr ?_
      refine wc_seq ?_
      refine wc_cond_tt (lt_t hltm5) rfl ?_
      refine sx ?_
      refine sr ?_
      refine wc_seq ?_
      refine wc_draw (id := 6) [⟨0, 0, [0]⟩, ⟨1, 0, [5]⟩, ⟨2, 3, [16, 17]⟩, ⟨3, 7, [18]⟩, ⟨4, 0, [1]⟩, ⟨5, 0, [5]⟩, ⟨6, 48, [20, 21]⟩, ⟨7, 112, [22]⟩, ⟨8, 255, [19, 23]⟩, ⟨9, 511, [24]⟩] mixed (by kernel_rfl) ?_
      refine ss ?_
      obtain ⟨e6, hy, hm1⟩ := obnd_o hm1
      refine wd_r [] (o_ixg (ys := [dS e6.lo.key, dB e6.lo.top, dS e6.hi.key, dB e6.hi.top]) hy rfl rfl rfl rfl) rfl (by first | exact .no rfl | exact .y rfl rfl rfl rfl) rfl rfl ?_
      refine ss ?_
      obtain ⟨e7, hy, hm1⟩ := obnd_o hm1
      refine wd_r [] (o_ixg (ys := [dS e7.lo.key, dB e7.lo.top, dS e7.hi.key, dB e7.hi.top]) hy rfl rfl rfl rfl) rfl (by first | exact .no rfl | exact .y rfl rfl rfl rfl) rfl rfl ?_
      refine ss ?_
      obtain ⟨y8, hy, hm1⟩ := bnd_o hm1
      refine wd_cs (Mref24_SameRange_sp (hm := hy)) rfl rfl rfl (by repeat (first | exact Vws.nil | apply Vws.cons | exact Vw.nil | exact Vw.d _ | exact Vw.q _ | apply Vw.a)) rfl rfl (by first | exact .no rfl | exact .y rfl rfl rfl rfl) rfl rfl rfl ?_
      refine ss ?_
      refine wc_cs hm1 ?_ ?_ <;> clear hm1 <;> intro hm1
      · refine sr ?_
        refine sx ?_
        obtain rfl := Option.some.inj hm1
        replace hm0 := ocbnd_r hm0
        obtain rfl := Option.some.inj hm0
        exact wk_ret ⟨rfl, rfl⟩
      refine sx ?_
      refine sr ?_
      refine wl_r (o_inc hltm5 hlenm5 rfl rfl rfl) rfl rfl rfl ?_
      refine ss ?_
      exact wk_loopw [] ⟨m5 + 1, rfl, hltm5, hm1, rfl⟩ (by omega)
    · rw [drop_n hgem5, Mref28_SameRanges_l1.eq_1] at hm1
      refine sr ?_
      refine wc_seq ?_
      refine wc_cond_ff (lt_f hgem5) rfl ?_
      refine wc_exit ?_
      refine ss ?_
      obtain rfl := Option.some.inj hm1
      exact wk_cutw [] ⟨rfl, rfl⟩
  rintro _ ⟨rfl, rfl⟩
  replace hm0 := ocbnd_n hm0
  refine sr ?_
  refine sx ?_
  obtain rfl := Option.some.inj hm0
  exact wk_ret ⟨rfl, rfl⟩

def Mref28_SameWalk (a1 : TWalk) (b2 : TWalk) : Option Bool :=
  obnd (Mref22_Same a1.Query b2.Query) fun y3 =>
  sel y3 (
    obnd (Mref28_SameRanges a1.Todo b2.Todo) fun y4 =>
    sel y4 (
      obnd (Mref28_SameVisits a1.Visits b2.Visits) fun y5 =>
      some y5) (
      some false)) (
    some false)
theorem Mref28_SameWalk_sp {a1 : TWalk} {b2 : TWalk} {y : Bool} (hm : Mref28_SameWalk a1 b2 = some y) : Spec Tryd.prog 15 [.a [vI a1.Query.Kind, .d (lst Rng.ds a1.Query.Ranges), vS a1.Query.Key, vI a1.Query.Count, .d (lst Rng.ds a1.Todo), .d (lst TVisit.ds a1.Visits)], .a [vI b2.Query.Kind, .d (lst Rng.ds b2.Query.Ranges), vS b2.Query.Key, vI b2.Query.Count, .d (lst Rng.ds b2.Todo), .d (lst TVisit.ds b2.Visits)]] [] fun u h => u = vB y ∧ h = [] := by
  refine Spec.intro Tryd.func15 rfl rfl Tryd.ntmps15 Tryd.results15 rfl fun B w0 ρ0 => ?_
  simp only [slots, List.map_nil, List.map_cons, Nat.reduceAdd]
  unfold Mref28_SameWalk at hm
  have hm0 := hm
  clear hm
  refine sr ?_
  refine sr ?_
  obtain ⟨y3, hy, hm0⟩ := obnd_o hm0
  refine wl_cq (Mref22_Same_sp (hm := hy)) ?_
  refine ss ?_
  refine wl_sg hm0 ?_ ?_ <;> clear hm0 <;> intro hm0
  · refine ss ?_
    obtain ⟨y4, hy, hm0⟩ := obnd_o hm0
    refine wl_cq (Mref28_SameRanges_sp (hm := hy)) ?_
    refine ss ?_
    refine wl_sg hm0 ?_ ?_ <;> clear hm0 <;> intro hm0
    · refine ss ?_
      obtain ⟨y5, hy, hm0⟩ := obnd_o hm0
      refine wl_cq (Mref28_SameVisits_sp (hm := hy)) ?_
      refine sx ?_
      obtain rfl := Option.some.inj hm0
      exact wk_ret ⟨rfl, rfl⟩
    refine sx ?_
    obtain rfl := Option.some.inj hm0
    exact wk_ret ⟨rfl, rfl⟩
  refine sx ?_
  obtain rfl := Option.some.inj hm0
  exact wk_ret ⟨rfl, rfl⟩

def Mref28_Split_l3 (r8 : ByteArray) (r9 : Bool) : List Bnd → ByteArray → Bool → Option (ByteArray × Bool)
  | [], x11, x12 =>
    some (x11, x12)
  | r13 :: xs14, x11, x12 =>
    bnd (Mref1_ValidBound r13) fun y16 =>
    sel y16 (
      bnd (Mref1_Compare r13 (Bnd.mk r8 r9)) fun y17 =>
      sel (decide (0 < y17)) (
        bnd (Mref1_Compare r13 (Bnd.mk x11 x12)) fun y18 =>
        sel (decide (y18 < 0)) (
          Mref28_Split_l3 r8 r9 xs14 r13.key r13.top) (
          Mref28_Split_l3 r8 r9 xs14 x11 x12)) (
        Mref28_Split_l3 r8 r9 xs14 x11 x12)) (
      Mref28_Split_l3 r8 r9 xs14 x11 x12)
def Mref28_Split_l2 (cuts2 : List Bnd) (r4 : Rng) : Nat → List Rng → ByteArray → Bool → Option (List Rng)
  | 0, _, _, _ => none
  | fuel + 1, out7, r8, r9 =>
    bnd (Mref1_Empty (Rng.mk (Bnd.mk r8 r9) r4.hi)) fun y10 =>
    obnd (
      sel (!y10) (
        some (Ctl.nxt ())) (
        some (Ctl.ret out7)) : Option (Ctl (List Rng) Unit)) fun mu => ocbnd mu fun (_ : Unit) =>
    obnd (
      obnd (
        Mref28_Split_l3 r8 r9 cuts2 r4.hi.key r4.hi.top : Option (ByteArray × Bool)) fun (x19, x20) =>
      obnd (app out7 ([(Rng.mk (Bnd.mk r8 r9) (Bnd.mk x19 x20))] : List Rng)) fun l21 =>
      some (l21, x19, x20) : Option (List Rng × ByteArray × Bool)) fun (out22, r23, r24) =>
    Mref28_Split_l2 cuts2 r4 fuel out22 r23 r24
def Mref28_Split_l1 (cuts2 : List Bnd) : List Rng → List Rng → Option (List Rng)
  | [], out3 =>
    some out3
  | r4 :: xs5, out3 =>
    obnd (
      obnd (
        Mref28_Split_l2 cuts2 r4 FU out3 r4.lo.key r4.lo.top : Option (List Rng)) fun out25 =>
      some out25 : Option (List Rng)) fun out26 =>
    Mref28_Split_l1 cuts2 xs5 out26
def Mref28_Split (l1 : List Rng) (cuts2 : List Bnd) : Option (List Rng) :=
  obnd (
    Mref28_Split_l1 cuts2 l1 [] : Option (List Rng)) fun out27 =>
  some out27
def Mwld_Tape_Cuts_l2 (out6 : List Bnd) (y8 : (Bnd × TTape)) : Nat → List Int → Int → Int → Option (List Int × Int × Int)
  | 0, _, _, _ => none
  | fuel + 1, x9, x10, k11 =>
    sel (decide (0 < k11)) (
      obnd (lget out6 (i64w (k11 - 1))) fun e12 =>
      bnd (Mref1_Compare e12 y8.1) fun y13 =>
      sel (decide (0 < y13)) (
        obnd (Mwld_Tape_Bool (TTape.mk x9 x10) 20) fun y14 =>
        sel (!y14.1) (
          Mwld_Tape_Cuts_l2 out6 y8 fuel y14.2.l y14.2.at_ (i64w (k11 - 1))) (
          some (y14.2.l, y14.2.at_, k11))) (
        some (x9, x10, k11))) (
      some (x9, x10, k11))
def Mwld_Tape_Cuts_l1 : Nat → List Int → Int → List Bnd → Int → Option (List Bnd × List Int × Int)
  | 0, _, _, _, _ => none
  | fuel + 1, x4, x5, out6, i7 =>
    obnd (
      sel (decide (0 < i7)) (
        some (Ctl.nxt ())) (
        some (Ctl.ret (out6, x4, x5))) : Option (Ctl (List Bnd × List Int × Int) Unit)) fun mu => ocbnd mu fun (_ : Unit) =>
    obnd (
      obnd (Mwld_Tape_Bound (TTape.mk x4 x5)) fun y8 =>
      obnd (
        Mwld_Tape_Cuts_l2 out6 y8 FU y8.2.l y8.2.at_ (out6.length : Int) : Option (List Int × Int × Int)) fun (x15, x16, k17) =>
      obnd (
        sel (decide (0 < k17)) (
          obnd (lget out6 (i64w (k17 - 1))) fun e18 =>
          bnd (Mref1_Compare e18 y8.1) fun y19 =>
          sel (decide (y19 = 0)) (
            obnd (Mwld_Tape_Bool (TTape.mk x15 x16) 20) fun y20 =>
            sel (!y20.1) (
              some (y20.2.l, y20.2.at_, true)) (
              bnd (Mref1_ValidBound y8.1) fun y21 =>
              sel (!y21) (
                obnd (Mwld_Tape_Bool y20.2 20) fun y22 =>
                some (y22.2.l, y22.2.at_, !y22.1)) (
                some (y20.2.l, y20.2.at_, false)))) (
            bnd (Mref1_ValidBound y8.1) fun y23 =>
            sel (!y23) (
              obnd (Mwld_Tape_Bool (TTape.mk x15 x16) 20) fun y24 =>
              some (y24.2.l, y24.2.at_, !y24.1)) (
              some (x15, x16, false)))) (
          bnd (Mref1_ValidBound y8.1) fun y25 =>
          sel (!y25) (
            obnd (Mwld_Tape_Bool (TTape.mk x15 x16) 20) fun y26 =>
            some (y26.2.l, y26.2.at_, !y26.1)) (
            some (x15, x16, false))) : Option (List Int × Int × Bool)) fun (x27, x28, x29) =>
      obnd (
        sel x29 (
          some (Ctl.ret (x27, x28, out6))) (
          some (Ctl.nxt ())) : Option (Ctl (List Int × Int × List Bnd) Unit)) fun mu => ocbnd mu fun (_ : Unit) =>
      obnd (lsl out6 0 k17) fun l30 =>
      obnd (app ([] : List Bnd) l30) fun l31 =>
      obnd (app l31 ([y8.1] : List Bnd)) fun l32 =>
      obnd (lsl out6 k17 (out6.length : Int)) fun l33 =>
      obnd (app l32 l33) fun l34 =>
      some (x27, x28, l34) : Option (List Int × Int × List Bnd)) fun (x35, x36, out37) =>
    Mwld_Tape_Cuts_l1 fuel x35 x36 out37 (i64w (i7 - 1))
def Mwld_Tape_Cuts (t1 : TTape) (n2 : Int) : Option (List Bnd × TTape) :=
  obnd (Mwld_Tape_Next t1 (i64w (n2 + 1))) fun y3 =>
  obnd (
    Mwld_Tape_Cuts_l1 FU y3.2.l y3.2.at_ [] y3.1 : Option (List Bnd × List Int × Int)) fun (out38, x39, x40) =>
  some (out38, (TTape.mk x39 x40))
theorem Mwld_Tape_Cuts_sp {t1 : TTape} {n2 : Int} {y : (List Bnd × TTape)} (hm : Mwld_Tape_Cuts t1 n2 = some y) : Spec Tryd.prog 9 [.p 0 0, vI n2] [(0, some (.box 62 [.d (lst dsI t1.l), vI t1.at_]))] fun u h => u = .d (lst Bnd.ds y.1) ∧ h = [(0, some (.box 62 [.d (lst dsI y.2.l), vI y.2.at_]))] := by
  refine Spec.intro Tryd.func9 rfl rfl Tryd.ntmps9 Tryd.results9 rfl fun B w0 ρ0 => ?_
  simp only [slots, List.map_nil, List.map_cons, Nat.reduceAdd]
  unfold Mwld_Tape_Cuts at hm
  have hm0 := hm
  clear hm
  refine sr ?_
  refine sr ?_
  refine sr ?_
  refine wl_r (o_add rfl rfl rfl rfl) rfl rfl rfl ?_
  refine ss ?_
  obtain ⟨y3, hy, hm0⟩ := obnd_o hm0
  refine wl_iq (Mwld_Tape_Next_sp (hm := hy)) 0 ?_
  refine ss ?_
  obtain ⟨mu1, hm1, hm0⟩ := obnd_o hm0
  refine wc_cut' (fun st => ∃ (out38 : List Bnd) (x39 : List Int) (x40 : Int), mu1 = (out38, x39, x40) ∧ st = ⟨[(5, .d (lst Bnd.ds out38))], [(0, some (.box 62 [.d (lst dsI x39), vI x40]))]⟩) ?_ ?_
  · refine wc_block ?_
    refine wc_loopw (fun κ st => ∃ (x4 : List Int) (x5 : Int) (out6 : List Bnd) (i7 : Int), Mwld_Tape_Cuts_l1 κ x4 x5 out6 i7 = some mu1 ∧ st = ⟨[(0, .p 0 0), (5, .d (lst Bnd.ds out6)), (6, vI i7)], [(0, some (.box 62 [.d (lst dsI x4), vI x5]))]⟩) [(0, 0)] ⟨_, _, _, _, hm1, rfl⟩ ?_
    rintro κ _ ⟨x4, x5, out6, i7, hm1, rfl⟩
    cases κ with
    | zero => rw [Mwld_Tape_Cuts_l1.eq_1] at hm1; cases hm1
    | succ κ =>
      rw [Mwld_Tape_Cuts_l1.eq_2] at hm1
      refine sr ?_
      obtain ⟨mu2, hm2, hm1⟩ := obnd_o hm1
      refine wc_cut' (fun st => mu2 = Ctl.nxt () ∧ st = ⟨[(0, .p 0 0), (5, .d (lst Bnd.ds out6)), (6, vI i7)], [(0, some (.box 62 [.d (lst dsI x4), vI x5]))]⟩) ?_ ?_
      · refine wc_cs hm2 ?_ ?_ <;> clear hm2 <;> intro hm2
        · refine sx ?_
          obtain rfl := Option.some.inj hm2
          exact wk_cutw [(0, 0)] ⟨rfl, rfl⟩
        refine wc_exit ?_
        refine ss ?_
        obtain rfl := Option.some.inj hm2
        replace hm1 := ocbnd_r hm1
        obtain rfl := Option.some.inj hm1
        exact wk_cutw [(0, 0)] ⟨_, _, _, rfl, rfl⟩
      rintro _ ⟨rfl, rfl⟩
      replace hm1 := ocbnd_n hm1
      refine ss ?_
      refine wc_seq ?_
      obtain ⟨mu2, hm2, hm1⟩ := obnd_o hm1
      refine wc_cut' (fun st => ∃ (x35 : List Int) (x36 : Int) (out37 : List Bnd), mu2 = (x35, x36, out37) ∧ st = ⟨[(0, .p 0 0), (5, .d (lst Bnd.ds out37)), (6, vI i7)], [(0, some (.box 62 [.d (lst dsI x35), vI x36]))]⟩) ?_ ?_
      · refine sr ?_
        obtain ⟨y8, hy, hm2⟩ := obnd_o hm2
        refine wl_iq (Mwld_Tape_Bound_sp (hm := hy)) 0 ?_
        refine sr ?_
        refine wc_seq ?_
        obtain ⟨mu3, hm3, hm2⟩ := obnd_o hm2
        refine wc_cut' (fun st => ∃ (x15 : List Int) (x16 : Int) (k17 : Int), mu3 = (x15, x16, k17) ∧ st = ⟨[(0, .p 0 0), (5, .d (lst Bnd.ds out6)), (6, vI i7), (7, .p 107 0), (8, vI k17)], [(0, some (.box 62 [.d (lst dsI x15), vI x16])), (107, some (.box 36 [vS y8.1.key, vB y8.1.top]))]⟩) ?_ ?_
        · refine wc_block ?_
          refine wc_loopw (fun κ st => ∃ (x9 : List Int) (x10 : Int) (k11 : Int), Mwld_Tape_Cuts_l2 out6 y8 κ x9 x10 k11 = some mu3 ∧ st = ⟨[(0, .p 0 0), (5, .d (lst Bnd.ds out6)), (6, vI i7), (7, .p 107 0), (8, vI k11)], [(0, some (.box 62 [.d (lst dsI x9), vI x10])), (107, some (.box 36 [vS y8.1.key, vB y8.1.top]))]⟩) [(0, 0), (107, 107)] ⟨_, _, _, hm3, rfl⟩ ?_
          rintro κ _ ⟨x9, x10, k11, hm3, rfl⟩
          cases κ with
          | zero => rw [Mwld_Tape_Cuts_l2.eq_1] at hm3; cases hm3
          | succ κ =>
            rw [Mwld_Tape_Cuts_l2.eq_2] at hm3
            refine wc_seq ?_
            refine wc_seq ?_
            refine wc_draw (id := 7) [⟨0, 0, [8]⟩, ⟨1, 1, [21]⟩, ⟨2, 3, [22]⟩, ⟨3, 7, [5, 23]⟩, ⟨4, 7, [8, 23]⟩, ⟨5, 23, [23, 25]⟩, ⟨6, 63, [23, 24, 26]⟩, ⟨7, 127, [23, 27]⟩, ⟨8, 7, [7, 23]⟩, ⟨9, 511, [23, 28, 29]⟩, ⟨10, 1023, [23, 30]⟩, ⟨11, 2047, [23, 31]⟩, ⟨12, 4095, [32]⟩, ⟨13, 8191, [0, 33]⟩, ⟨14, 16383, [33, 34]⟩, ⟨15, 32767, [33, 35]⟩, ⟨16, 65535, [33, 36]⟩] mixed (by kernel_rfl) ?_
            refine ss ?_
            refine wd_gp rfl rfl rfl rfl (fun h => ?_) (fun h => ?_)
            · replace hm3 := sel_t h hm3
              refine ss ?_
              obtain ⟨e12, hy, hm3⟩ := obnd_o hm3
              refine wd_r [] (o_ixg (ys := [dS e12.key, dB e12.top]) hy rfl rfl rfl rfl) rfl (by first | exact .no rfl | exact .y rfl rfl rfl rfl) rfl rfl ?_
              refine ss ?_
              obtain ⟨y13, hy, hm3⟩ := bnd_o hm3
              refine wd_cs (Mref1_Compare_sp (hm := hy)) rfl rfl rfl (by repeat (first | exact Vws.nil | apply Vws.cons | exact Vw.nil | exact Vw.d _ | exact Vw.q _ | apply Vw.a)) rfl rfl (by first | exact .no rfl | exact .y rfl rfl rfl rfl) rfl rfl rfl ?_
              refine ss ?_
              refine wd_gp rfl rfl rfl rfl (fun h => ?_) (fun h => ?_)
              · replace hm3 := sel_t h hm3
                refine ss ?_
                obtain ⟨y14, hy, hm3⟩ := obnd_o hm3
                refine wd_io (Mwld_Tape_Bool_sp (hm := hy)) 0 rfl rfl rfl (by repeat (first | exact Vws.nil | apply Vws.cons | exact Vw.nil | exact Vw.d _ | exact Vw.q _ | exact Vw.p rfl | apply Vw.a)) rfl (Vb.box (by repeat (first | exact Vws.nil | apply Vws.cons | exact Vw.nil | exact Vw.d _ | exact Vw.q _ | exact Vw.p rfl | apply Vw.a))) rfl rfl rfl (by first | exact .no rfl | exact .y rfl rfl rfl rfl) rfl rfl rfl rfl ?_
                refine ss ?_
                refine wc_cs hm3 ?_ ?_ <;> clear hm3 <;> intro hm3
                · refine sx ?_
                  refine sr ?_
                  exact wk_loopw [(0, 0), (107, 107)] ⟨_, _, _, hm3, rfl⟩ (Nat.lt_succ_self _)
                refine wc_exit ?_
                refine ss ?_
                obtain rfl := Option.some.inj hm3
                exact wk_cutw [(0, 0), (107, 107)] ⟨_, _, _, rfl, rfl⟩
              replace hm3 := sel_f h hm3
              refine ss ?_
              refine wc_cond_f rfl ?_
              refine wc_exit ?_
              refine ss ?_
              obtain rfl := Option.some.inj hm3
              exact wk_cutw [(0, 0), (107, 107)] ⟨_, _, _, rfl, rfl⟩
            replace hm3 := sel_f h hm3
            refine ss ?_
            refine wc_cond_f rfl ?_
            refine wc_exit ?_
            refine ss ?_
            obtain rfl := Option.some.inj hm3
            exact wk_cutw [(0, 0), (107, 107)] ⟨_, _, _, rfl, rfl⟩
        rintro _ ⟨x15, x16, k17, rfl, rfl⟩
        refine ss ?_
        refine wc_seq ?_
        refine wc_seq ?_
        obtain ⟨mu3, hm3, hm2⟩ := obnd_o hm2
        refine wc_cut' (fun st => ∃ (x27 : List Int) (x28 : Int) (x29 : Bool), mu3 = (x27, x28, x29) ∧ st = ⟨[(0, .p 0 0), (5, .d (lst Bnd.ds out6)), (6, vI i7), (7, .p 107 0), (8, vI k17), (66, vB x29)], [(0, some (.box 62 [.d (lst dsI x27), vI x28])), (107, some (.box 36 [vS y8.1.key, vB y8.1.top]))]⟩) ?_ ?_
        · refine wc_draw (id := 9) [⟨0, 0, [8]⟩, ⟨1, 1, [40]⟩, ⟨2, 3, [41]⟩, ⟨3, 7, [5, 42]⟩, ⟨4, 7, [8, 42]⟩, ⟨5, 23, [42, 44]⟩, ⟨6, 63, [42, 43, 45]⟩, ⟨7, 127, [42, 46]⟩, ⟨8, 7, [7, 42]⟩, ⟨9, 511, [42, 47, 48]⟩, ⟨10, 1023, [42, 49]⟩, ⟨11, 2047, [42, 50]⟩, ⟨12, 4095, [51]⟩, ⟨13, 8191, [0, 52]⟩, ⟨14, 16383, [52, 53]⟩, ⟨15, 32767, [52, 54]⟩, ⟨16, 65535, [52, 55]⟩, ⟨17, 131071, [56]⟩, ⟨18, 262143, [7, 57]⟩, ⟨19, 524287, [57, 58]⟩, ⟨20, 1048575, [57, 59]⟩, ⟨21, 2097151, [57, 60]⟩, ⟨22, 4194303, [0, 61]⟩, ⟨23, 8388607, [61, 62]⟩, ⟨24, 16777215, [61, 63]⟩, ⟨25, 33554431, [57, 61, 64]⟩, ⟨26, 67108863, [57, 65]⟩] mixed (by kernel_rfl) ?_
          refine ss ?_
          refine wd_gp rfl rfl rfl rfl (fun h => ?_) (fun h => ?_)
          · replace hm3 := sel_t h hm3
            refine ss ?_
            obtain ⟨e18, hy, hm3⟩ := obnd_o hm3
            refine wd_r [] (o_ixg (ys := [dS e18.key, dB e18.top]) hy rfl rfl rfl rfl) rfl (by first | exact .no rfl | exact .y rfl rfl rfl rfl) rfl rfl ?_
            refine ss ?_
            obtain ⟨y19, hy, hm3⟩ := bnd_o hm3
            refine wd_cs (Mref1_Compare_sp (hm := hy)) rfl rfl rfl (by repeat (first | exact Vws.nil | apply Vws.cons | exact Vw.nil | exact Vw.d _ | exact Vw.q _ | apply Vw.a)) rfl rfl (by first | exact .no rfl | exact .y rfl rfl rfl rfl) rfl rfl rfl ?_
            refine ss ?_
            refine wd_gp rfl rfl rfl rfl (fun h => ?_) (fun h => ?_)
            · replace hm3 := sel_t h hm3
              refine ss ?_
              obtain ⟨y20, hy, hm3⟩ := obnd_o hm3
              refine wd_io (Mwld_Tape_Bool_sp (hm := hy)) 0 rfl rfl rfl (by repeat (first | exact Vws.nil | apply Vws.cons | exact Vw.nil | exact Vw.d _ | exact Vw.q _ | exact Vw.p rfl | apply Vw.a)) rfl (Vb.box (by repeat (first | exact Vws.nil | apply Vws.cons | exact Vw.nil | exact Vw.d _ | exact Vw.q _ | exact Vw.p rfl | apply Vw.a))) rfl rfl rfl (by first | exact .no rfl | exact .y rfl rfl rfl rfl) rfl rfl rfl rfl ?_
              refine ss ?_
              refine wd_gp rfl rfl rfl rfl (fun h => ?_) (fun h => ?_)
              · replace hm3 := sel_t h hm3
                refine ss ?_
                obtain rfl := Option.some.inj hm3
                exact wk_cutw [(0, 0), (107, 107)] ⟨_, _, _, rfl, rfl⟩
              replace hm3 := sel_f h hm3
              refine ss ?_
              obtain ⟨y21, hy, hm3⟩ := bnd_o hm3
              refine wd_cs (Mref1_ValidBound_sp (hm := hy)) rfl rfl rfl (by repeat (first | exact Vws.nil | apply Vws.cons | exact Vw.nil | exact Vw.d _ | exact Vw.q _ | apply Vw.a)) rfl rfl (by first | exact .no rfl | exact .y rfl rfl rfl rfl) rfl rfl rfl ?_
              refine ss ?_
              refine wd_gp rfl rfl rfl rfl (fun h => ?_) (fun h => ?_)
              · replace hm3 := sel_t h hm3
                refine ss ?_
                obtain ⟨y22, hy, hm3⟩ := obnd_o hm3
                refine wd_io (Mwld_Tape_Bool_sp (hm := hy)) 0 rfl rfl rfl (by repeat (first | exact Vws.nil | apply Vws.cons | exact Vw.nil | exact Vw.d _ | exact Vw.q _ | exact Vw.p rfl | apply Vw.a)) rfl (Vb.box (by repeat (first | exact Vws.nil | apply Vws.cons | exact Vw.nil | exact Vw.d _ | exact Vw.q _ | exact Vw.p rfl | apply Vw.a))) rfl rfl rfl (by first | exact .no rfl | exact .y rfl rfl rfl rfl) rfl rfl rfl rfl ?_
                refine ss ?_
                obtain rfl := Option.some.inj hm3
                exact wk_cutw [(0, 0), (107, 107)] ⟨_, _, _, rfl, rfl⟩
              replace hm3 := sel_f h hm3
              refine ss ?_
              obtain rfl := Option.some.inj hm3
              exact wk_cutw [(0, 0), (107, 107)] ⟨_, _, _, rfl, rfl⟩
            replace hm3 := sel_f h hm3
            refine ss ?_
            obtain ⟨y23, hy, hm3⟩ := bnd_o hm3
            refine wd_cs (Mref1_ValidBound_sp (hm := hy)) rfl rfl rfl (by repeat (first | exact Vws.nil | apply Vws.cons | exact Vw.nil | exact Vw.d _ | exact Vw.q _ | apply Vw.a)) rfl rfl (by first | exact .no rfl | exact .y rfl rfl rfl rfl) rfl rfl rfl ?_
            refine ss ?_
            refine wd_gp rfl rfl rfl rfl (fun h => ?_) (fun h => ?_)
            · replace hm3 := sel_t h hm3
              refine ss ?_
              obtain ⟨y24, hy, hm3⟩ := obnd_o hm3
              refine wd_io (Mwld_Tape_Bool_sp (hm := hy)) 0 rfl rfl rfl (by repeat (first | exact Vws.nil | apply Vws.cons | exact Vw.nil | exact Vw.d _ | exact Vw.q _ | exact Vw.p rfl | apply Vw.a)) rfl (Vb.box (by repeat (first | exact Vws.nil | apply Vws.cons | exact Vw.nil | exact Vw.d _ | exact Vw.q _ | exact Vw.p rfl | apply Vw.a))) rfl rfl rfl (by first | exact .no rfl | exact .y rfl rfl rfl rfl) rfl rfl rfl rfl ?_
              refine ss ?_
              obtain rfl := Option.some.inj hm3
              exact wk_cutw [(0, 0), (107, 107)] ⟨_, _, _, rfl, rfl⟩
            replace hm3 := sel_f h hm3
            refine ss ?_
            obtain rfl := Option.some.inj hm3
            exact wk_cutw [(0, 0), (107, 107)] ⟨_, _, _, rfl, rfl⟩
          replace hm3 := sel_f h hm3
          refine ss ?_
          obtain ⟨y25, hy, hm3⟩ := bnd_o hm3
          refine wd_cs (Mref1_ValidBound_sp (hm := hy)) rfl rfl rfl (by repeat (first | exact Vws.nil | apply Vws.cons | exact Vw.nil | exact Vw.d _ | exact Vw.q _ | apply Vw.a)) rfl rfl (by first | exact .no rfl | exact .y rfl rfl rfl rfl) rfl rfl rfl ?_
          refine ss ?_
          refine wd_gp rfl rfl rfl rfl (fun h => ?_) (fun h => ?_)
          · replace hm3 := sel_t h hm3
            refine ss ?_
            obtain ⟨y26, hy, hm3⟩ := obnd_o hm3
            refine wd_io (Mwld_Tape_Bool_sp (hm := hy)) 0 rfl rfl rfl (by repeat (first | exact Vws.nil | apply Vws.cons | exact Vw.nil | exact Vw.d _ | exact Vw.q _ | exact Vw.p rfl | apply Vw.a)) rfl (Vb.box (by repeat (first | exact Vws.nil | apply Vws.cons | exact Vw.nil | exact Vw.d _ | exact Vw.q _ | exact Vw.p rfl | apply Vw.a))) rfl rfl rfl (by first | exact .no rfl | exact .y rfl rfl rfl rfl) rfl rfl rfl rfl ?_
            refine ss ?_
            obtain rfl := Option.some.inj hm3
            exact wk_cutw [(0, 0), (107, 107)] ⟨_, _, _, rfl, rfl⟩
          replace hm3 := sel_f h hm3
          refine ss ?_
          obtain rfl := Option.some.inj hm3
          exact wk_cutw [(0, 0), (107, 107)] ⟨_, _, _, rfl, rfl⟩
        rintro _ ⟨x27, x28, x29, rfl, rfl⟩
        refine ss ?_
        obtain ⟨mu3, hm3, hm2⟩ := obnd_o hm2
        refine wc_cut' (fun st => mu3 = Ctl.nxt () ∧ st = ⟨[(0, .p 0 0), (5, .d (lst Bnd.ds out6)), (6, vI i7), (7, .p 107 0), (8, vI k17)], [(0, some (.box 62 [.d (lst dsI x27), vI x28])), (107, some (.box 36 [vS y8.1.key, vB y8.1.top]))]⟩) ?_ ?_
        · refine wc_cs hm3 ?_ ?_ <;> clear hm3 <;> intro hm3
          · refine wc_exit ?_
            refine ss ?_
            obtain rfl := Option.some.inj hm3
            replace hm2 := ocbnd_r hm2
            obtain rfl := Option.some.inj hm2
            exact wk_cutw [(0, 0)] ⟨_, _, _, rfl, rfl⟩
          refine sx ?_
          obtain rfl := Option.some.inj hm3
          exact wk_cutw [(0, 0), (107, 107)] ⟨rfl, rfl⟩
        rintro _ ⟨rfl, rfl⟩
        replace hm2 := ocbnd_n hm2
        refine ss ?_
        refine wc_draw (id := 10) [⟨0, 0, [5]⟩, ⟨1, 0, [8]⟩, ⟨2, 3, [67, 68]⟩, ⟨3, 7, [69]⟩, ⟨4, 0, [7]⟩, ⟨5, 16, [71]⟩, ⟨6, 63, [70, 72]⟩, ⟨7, 0, [5]⟩, ⟨8, 0, [8]⟩, ⟨9, 384, [74, 75]⟩, ⟨10, 1023, [73, 76]⟩, ⟨11, 2047, [77]⟩] mixed (by kernel_rfl) ?_
        refine ss ?_
        obtain ⟨l30, hy, hm2⟩ := obnd_o hm2
        refine wd_r [] (o_lsl hy rfl rfl rfl rfl) rfl (by first | exact .no rfl | exact .y rfl rfl rfl rfl) rfl rfl ?_
        refine ss ?_
        obtain ⟨l31, hy, hm2⟩ := obnd_o hm2
        refine wd_1 [] (n_appn (k := 170) hy rfl rfl rfl rfl rfl rfl) rfl (by first | exact .no rfl | exact .y rfl rfl rfl rfl) rfl rfl rfl ?_
        refine ss ?_
        refine wd_bt Bnd.ds [y8.1] rfl rfl (by simp only [flatV, cellsV, List.cons_append, List.nil_append, List.append_nil]; exact rfl) rfl rfl rfl rfl (by first | exact .no rfl | exact .y rfl rfl rfl rfl) rfl rfl ?_
        refine ss ?_
        obtain ⟨l32, hy, hm2⟩ := obnd_o hm2
        refine wd_app (k' := 173) hy rfl rfl rfl rfl rfl rfl rfl rfl (by first | exact .no rfl | exact .y rfl rfl rfl rfl) rfl rfl rfl ?_
        refine ss ?_
        obtain ⟨l33, hy, hm2⟩ := obnd_o hm2
        refine wd_r [] (o_lsl hy rfl rfl rfl rfl) rfl (by first | exact .no rfl | exact .y rfl rfl rfl rfl) rfl rfl ?_
        refine ss ?_
        obtain ⟨l34, hy, hm2⟩ := obnd_o hm2
        refine wd_app (k' := 177) hy rfl rfl rfl rfl rfl rfl rfl rfl (by first | exact .no rfl | exact .y rfl rfl rfl rfl) rfl rfl rfl ?_
        refine ss ?_
        obtain rfl := Option.some.inj hm2
        exact wk_cutw [(0, 0)] ⟨_, _, _, rfl, rfl⟩
      rintro _ ⟨x35, x36, out37, rfl, rfl⟩
      refine sr ?_
      exact wk_loopw [(0, 0)] ⟨_, _, _, _, hm1, rfl⟩ (Nat.lt_succ_self _)
  rintro _ ⟨out38, x39, x40, rfl, rfl⟩
  refine sr ?_
  refine sx ?_
  obtain rfl := Option.some.inj hm0
  exact wk_reti [(0, 0)] ⟨rfl, rfl⟩

end Go.Proofs.YtlbnhhfaedhgfaaDoor
namespace Go.Proofs.YtlbnhhfaedhgfaaDoor
set_option linter.unusedSimpArgs false
set_option linter.unusedVariables false
open Go.RowKit
theorem eq_clone_Ranges (l : List Rng) (h : l.length ≤ 4294967296) : Mclone_List_api_Range_ l = some l := by
  unfold Mclone_List_api_Range_
  rw [app_le (by simpa using h), obnd_some, List.nil_append]
theorem eq_clone_Query (q : TQuery) (h : q.Ranges.length ≤ 4294967296) : Mclone_Query q = some q := by
  unfold Mclone_Query
  rw [eq_clone_Ranges _ h, obnd_some]
structure okW (w : TWalk) : Prop where
  q : w.Query.Ranges.length ≤ 1000
  todo : w.Todo.length ≤ 1000
  vis : w.Visits.length ≤ 1000
  rows : ∀ v ∈ w.Visits, v.View.Rows.length ≤ 10000
def inside (o i : Rng) : Bool := !emp o && decide (cmp o.lo i.lo ≤ 0) && decide (cmp i.hi o.hi ≤ 0)
theorem eq_walk_Inside (o i : Rng) : Mwalk_Inside o i = inside o i := by
  unfold Mwalk_Inside inside
  simp only [bnd_eq, eq_keyspace_Empty, eq_keyspace_Compare, sel_and, Bool.and_assoc]
theorem eq_ref28_inside (a r : Rng) : Mref28_inside a r = inside r a := by
  unfold Mref28_inside inside
  simp only [bnd_eq, eq_ref1_Empty, eq_ref1_Compare, sel_and]
  cases emp r <;> cases decide (cmp r.lo a.lo ≤ 0) <;> cases decide (cmp a.hi r.hi ≤ 0) <;> rfl
def befr (p : Option Rng) (r : Rng) : Bool := match p with | some x => decide (cmp r.lo x.hi < 0) | none => false
def stErr (all : List Rng) : Option Rng → List Rng → Int
  | _, [] => 0
  | p, r :: l => if emp r = true then 1 else if befr p r = true then 8 else if (all.any fun x => inside x r) = true then stErr all (some r) l else 2
def W0 : TWalk := ⟨⟨0, [], ⟨#[]⟩, 0⟩, [], []⟩
def qch (q : TQuery) : Int := qchk q.Kind q.Ranges q.Key q.Count
def qrg (q : TQuery) : List Rng := qranges q.Kind q.Ranges q.Key q.Count
def startW (q : TQuery) (l : List Rng) : TWalk × Int := if qch q ≠ 0 then (W0, qch q) else if 128 < l.length then (W0, 3) else if stErr (qrg q) none l = 0 then (⟨q, l, []⟩, 0) else (W0, stErr (qrg q) none l)
theorem walk_Start_l2 (r : Rng) : ∀ (l : List Rng) (b : Bool), Mwalk_Start_l2 r l b = some (b || l.any fun x => inside x r)
  | [], b => by simp [Mwalk_Start_l2]
  | x :: l, b => by
    rw [Mwalk_Start_l2.eq_2, bnd_eq, eq_walk_Inside, walk_Start_l2 r l, walk_Start_l2 r l]
    cases b <;> simp [sel_true, sel_false]
theorem ref28_Start_l2 (r : Rng) : ∀ (l : List Rng) (b : Bool), Mref28_Start_l2 r l b = some (b || l.any fun x => inside x r)
  | [], b => by simp [Mref28_Start_l2]
  | x :: l, b => by
    rw [Mref28_Start_l2.eq_2, bnd_eq, eq_ref28_inside, ref28_Start_l2 r l, ref28_Start_l2 r l]
    cases b <;> simp [sel_true, sel_false]
def prevR (rs : List Rng) : Nat → Option Rng
  | 0 => none
  | m + 1 => rs[m]?
def stC (e : Int) : Ctl (TWalk × Int) Unit := if e = 0 then .nxt () else .ret (W0, e)
theorem walk_Start_l1 (rs all : List Rng) (hrs : rs.length ≤ 1000) : ∀ (xs : List Rng) (m : Nat), rs.drop m = xs → m ≤ rs.length → Mwalk_Start_l1 rs all xs (m : Int) = some (stC (stErr all (prevR rs m) xs))
  | [], m, _, _ => rfl
  | r :: xs, m, h, hm => by
    obtain ⟨h1, h2⟩ := drop_get h
    obtain ⟨h3, h4⟩ := List.getElem?_eq_some_iff.1 h1
    have ih := walk_Start_l1 rs all hrs xs (m + 1) h2 h3
    rw [Mwalk_Start_l1.eq_2, bnd_eq, eq_keyspace_Empty, show (m : Int) + 1 = ((m + 1 : Nat) : Int) by omega, ih, stErr.eq_2]
    have hp : (sel (decide ((0 : Int) < (m : Int))) (obnd (lget rs (i64w ((m : Int) - 1))) fun e9 => bnd (Mkeyspace_Compare r.lo e9.hi) fun y10 => some (decide (y10 < 0))) (some false)) = some (befr (prevR rs m) r) := by
      cases m with
      | zero => rfl
      | succ m =>
        rw [decide_eq_true (by omega), sel_true, i64w_id (by omega) (by omega), show ((m + 1 : Nat) : Int) - 1 = (m : Int) by omega, lget_nat, List.getElem?_eq_getElem (by omega), obnd_some, bnd_eq, eq_keyspace_Compare]
        simp only [prevR, befr]
        rw [List.getElem?_eq_getElem (by omega)]
    cases emp r with
    | true => rfl
    | false =>
      simp only [Bool.false_eq_true, if_false]
      rw [sel_false, hp, obnd_some]
      generalize (befr (prevR rs m) r) = b
      cases b with
      | true => rfl
      | false =>
        simp only [Bool.false_eq_true, if_false]
        rw [sel_false, walk_Start_l2, obnd_some, Bool.false_or]
        have e : prevR rs (m + 1) = some r := h1
        rw [e]
        cases (all.any fun x => inside x r) <;> rfl
theorem ref28_Start_l1 (q : TQuery) (hq : q.Ranges.length < 1000000) (rs : List Rng) (hrs : rs.length ≤ 1000) : ∀ (xs : List Rng) (m : Nat), rs.drop m = xs → m ≤ rs.length → Mref28_Start_l1 q rs xs (m : Int) = some (stC (stErr (qrg q) (prevR rs m) xs))
  | [], m, _, _ => rfl
  | r :: xs, m, h, hm => by
    obtain ⟨h1, h2⟩ := drop_get h
    obtain ⟨h3, h4⟩ := List.getElem?_eq_some_iff.1 h1
    have ih := ref28_Start_l1 q hq rs hrs xs (m + 1) h2 h3
    rw [Mref28_Start_l1.eq_2, bnd_eq, eq_ref1_Empty, show (m : Int) + 1 = ((m + 1 : Nat) : Int) by omega, ih, stErr.eq_2]
    have hp : (sel (decide ((0 : Int) < (m : Int))) (obnd (lget rs (i64w ((m : Int) - 1))) fun e9 => bnd (Mref1_Compare r.lo e9.hi) fun y10 => some (decide (y10 < 0))) (some false)) = some (befr (prevR rs m) r) := by
      cases m with
      | zero => rfl
      | succ m =>
        rw [decide_eq_true (by omega), sel_true, i64w_id (by omega) (by omega), show ((m + 1 : Nat) : Int) - 1 = (m : Int) by omega, lget_nat, List.getElem?_eq_getElem (by omega), obnd_some, bnd_eq, eq_ref1_Compare]
        simp only [prevR, befr]
        rw [List.getElem?_eq_getElem (by omega)]
    have hr : Mref22_Ranges q = some (qrg q) := if_pos hq
    cases emp r with
    | true => rfl
    | false =>
      simp only [Bool.false_eq_true, if_false]
      rw [sel_false, hp, obnd_some]
      generalize (befr (prevR rs m) r) = b
      cases b with
      | true => rfl
      | false =>
        simp only [Bool.false_eq_true, if_false]
        rw [sel_false, hr, obnd_some, ref28_Start_l2, obnd_some, Bool.false_or]
        have e : prevR rs (m + 1) = some r := h1
        rw [e]
        cases ((qrg q).any fun x => inside x r) <;> rfl
theorem eq_walk_Start (q : TQuery) (l : List Rng) (hq : q.Ranges.length < 1000000) : Mwalk_Start q l = some (startW q l) := by
  have e1 : Mquery_Check q = some (qch q) := if_pos hq
  have e2 : Mquery_Ranges q = some (qrg q) := if_pos hq
  unfold Mwalk_Start startW
  rw [e1, obnd_some, e2, obnd_some]
  by_cases h1 : qch q = 0
  · rw [decide_eq_true h1, Bool.not_true, sel_false, if_neg (by simpa using h1)]
    by_cases h2 : 128 < l.length
    · rw [decide_eq_true (by omega), sel_true, if_pos h2]; rfl
    · have hl : l.length ≤ 128 := by omega
      have := walk_Start_l1 l (qrg q) (by omega) l 0 rfl (Nat.zero_le _)
      rw [show ((0 : Nat) : Int) = 0 from rfl] at this
      rw [decide_eq_false (by omega), sel_false, if_neg h2, this, obnd_some]
      show ocbnd (stC (stErr (qrg q) none l)) _ = _
      unfold stC
      by_cases h3 : stErr (qrg q) none l = 0
      · rw [if_pos h3, if_pos h3, ocbnd_nxt, eq_clone_Query _ (by omega), obnd_some, eq_clone_Ranges _ (by omega), obnd_some]
      · rw [if_neg h3, if_neg h3, ocbnd_ret]
  · rw [decide_eq_false h1, Bool.not_false, sel_true, if_pos h1]; rfl
theorem eq_ref28_Start (q : TQuery) (l : List Rng) (hq : q.Ranges.length < 1000000) : Mref28_Start q l = some (startW q l) := by
  have e1 : Mref22_Check q = qch q := eq_ref22_Check q
  unfold Mref28_Start startW
  rw [bnd_eq, e1]
  by_cases h1 : qch q = 0
  · rw [decide_eq_true h1, Bool.not_true, sel_false, if_neg (by simpa using h1)]
    by_cases h2 : 128 < l.length
    · rw [decide_eq_true (by omega), sel_true, if_pos h2]; rfl
    · have hl : l.length ≤ 128 := by omega
      have := ref28_Start_l1 q hq l (by omega) l 0 rfl (Nat.zero_le _)
      rw [show ((0 : Nat) : Int) = 0 from rfl] at this
      rw [decide_eq_false (by omega), sel_false, if_neg h2, this, obnd_some]
      show ocbnd (stC (stErr (qrg q) none l)) _ = _
      unfold stC
      by_cases h3 : stErr (qrg q) none l = 0
      · rw [if_pos h3, if_pos h3, ocbnd_nxt, app_le (by simp; omega), obnd_some]; rfl
      · rw [if_neg h3, if_neg h3, ocbnd_ret]
  · rw [decide_eq_false h1, Bool.not_false, sel_true, if_pos h1]; rfl
theorem sameRange_refl (r : Rng) : Mref24_SameRange r r = true := by
  unfold Mref24_SameRange
  simp only [bnd_eq, eq_ref1_Compare, cmp_self]; rfl
theorem sameQuery_l1 (a : TQuery) : ∀ (xs : List Rng) (m : Nat), a.Ranges.drop m = xs → Mref22_Same_l1 a a xs (m : Int) = some (.nxt ())
  | [], _, _ => rfl
  | r :: xs, m, h => by
    obtain ⟨h1, h2⟩ := drop_get h
    rw [Mref22_Same_l1.eq_2]
    simp only [lget_nat, h1, obnd_some, decide_true, Bool.and_self, Bool.not_true, sel_false]
    exact sameQuery_l1 a xs (m + 1) h2
theorem sameQuery_refl (a : TQuery) : Mref22_Same a a = some true := by
  unfold Mref22_Same
  have := sameQuery_l1 a a.Ranges 0 rfl
  rw [show ((0 : Nat) : Int) = 0 from rfl] at this
  simp only [decide_true, Bool.not_true, sel_false, obnd_some, this, ocbnd_nxt]
theorem sameRows_l1 (a : List Kv) : ∀ (xs : List Kv) (m : Nat), a.drop m = xs → Mref20_Same_l1 a a xs (m : Int) = some (.nxt ())
  | [], _, _ => rfl
  | r :: xs, m, h => by
    obtain ⟨h1, h2⟩ := drop_get h
    rw [Mref20_Same_l1.eq_2]
    simp only [lget_nat, h1, obnd_some, decide_true, Bool.and_self, Bool.not_true, sel_false]
    exact sameRows_l1 a xs (m + 1) h2
theorem sameRows_refl (a : List Kv) : Mref20_Same a a = some true := by
  unfold Mref20_Same
  have := sameRows_l1 a a 0 rfl
  rw [show ((0 : Nat) : Int) = 0 from rfl] at this
  simp only [decide_true, Bool.not_true, sel_false, obnd_some, this, ocbnd_nxt]
theorem sameVisit_refl (v : TVisit) : Mref28_SameVisit v v = some true := by
  unfold Mref28_SameVisit
  simp only [decide_true, Bool.and_self, sel_true, bnd_eq, sameRange_refl, sameRows_refl, obnd_some]
theorem sameVisits_l1 (a : List TVisit) : ∀ (xs : List TVisit) (m : Nat), a.drop m = xs → Mref28_SameVisits_l1 a a xs (m : Int) = some (.nxt ())
  | [], _, _ => rfl
  | r :: xs, m, h => by
    obtain ⟨h1, h2⟩ := drop_get h
    rw [Mref28_SameVisits_l1.eq_2]
    simp only [lget_nat, h1, obnd_some, sameVisit_refl, Bool.not_true, sel_false]
    exact sameVisits_l1 a xs (m + 1) h2
theorem sameVisits_refl (a : List TVisit) : Mref28_SameVisits a a = some true := by
  unfold Mref28_SameVisits
  have := sameVisits_l1 a a 0 rfl
  rw [show ((0 : Nat) : Int) = 0 from rfl] at this
  simp only [decide_true, Bool.not_true, sel_false, obnd_some, this, ocbnd_nxt]
theorem sameRanges_l1 (a : List Rng) : ∀ (xs : List Rng) (m : Nat), a.drop m = xs → Mref28_SameRanges_l1 a a xs (m : Int) = some (.nxt ())
  | [], _, _ => rfl
  | r :: xs, m, h => by
    obtain ⟨h1, h2⟩ := drop_get h
    rw [Mref28_SameRanges_l1.eq_2]
    simp only [lget_nat, h1, obnd_some, bnd_eq, sameRange_refl, Bool.not_true, sel_false]
    exact sameRanges_l1 a xs (m + 1) h2
theorem sameRanges_refl (a : List Rng) : Mref28_SameRanges a a = some true := by
  unfold Mref28_SameRanges
  have := sameRanges_l1 a a 0 rfl
  rw [show ((0 : Nat) : Int) = 0 from rfl] at this
  simp only [decide_true, Bool.not_true, sel_false, obnd_some, this, ocbnd_nxt]
theorem sameWalk_refl (w : TWalk) : Mref28_SameWalk w w = some true := by
  unfold Mref28_SameWalk
  simp only [sameQuery_refl, sameRanges_refl, sameVisits_refl, obnd_some, sel_true]
end Go.Proofs.YtlbnhhfaedhgfaaDoor
-- LEFT eq_ref1_Intersect eq_ref1_least eq_ref1_proper
namespace Go.Proofs.YtlbnhhfaedhgfaaDoor
set_option linter.unusedSimpArgs false
set_option linter.unusedVariables false
open Go.RowKit
def Tot {α : Type} (M : Option α) (Q : α → Prop) : Prop := ∃ a, M = some a ∧ Q a
def CtlP {α β : Type} (Q : α → Prop) (R : β → Prop) : Ctl α β → Prop
  | .ret r => Q r
  | .nxt s => R s
section
variable {α β γ : Type} {M : Option α} {P Q : α → Prop} {b : Bool}
theorem tot_some {a : α} (h : Q a) : Tot (some a) Q := ⟨a, rfl, h⟩
theorem tot_mono (h : Tot M P) (hm : ∀ a, P a → Q a) : Tot M Q := by
  obtain ⟨a, e, h⟩ := h
  exact ⟨a, e, hm a h⟩
theorem tot_obnd {k : β → Option α} {N : Option β} {R : β → Prop} (h : Tot N R) (hk : ∀ a, R a → Tot (k a) Q) : Tot (obnd N k) Q := by
  obtain ⟨a, rfl, h⟩ := h
  exact hk a h
theorem tot_bnd {k : β → Option α} {x : β} (h : Tot (k x) Q) : Tot (bnd x k) Q := h
theorem tot_sel {x y : Option α} (h1 : b = true → Tot x Q) (h2 : b = false → Tot y Q) : Tot (sel b x y) Q := by
  cases b with
  | true => exact h1 rfl
  | false => exact h2 rfl
theorem tot_join {N : Option (Ctl α β)} {k : β → Option α} {R : β → Prop} (h : Tot N (CtlP Q R)) (hk : ∀ s, R s → Tot (k s) Q) : Tot (obnd N fun mu => ocbnd mu k) Q := by
  obtain ⟨a, rfl, h⟩ := h
  cases a with
  | ret r => exact tot_some h
  | nxt s => exact hk s h
theorem tot_app {xs ys : List α} {Q : List α → Prop} (h : xs.length + ys.length ≤ 4294967296) (hq : Q (xs ++ ys)) : Tot (app xs ys) Q := ⟨_, app_le h, hq⟩
theorem tot_lget {l : List α} {i : Int} (h0 : 0 ≤ i) (h1 : i < l.length) (hq : ∀ h : i.toNat < l.length, Q l[i.toNat]) : Tot (lget l i) Q := by
  obtain ⟨m, rfl⟩ := Int.eq_ofNat_of_zero_le h0
  have hm : m < l.length := by omega
  exact ⟨l[m], by rw [lget_nat, List.getElem?_eq_getElem hm], hq hm⟩
theorem tot_lsl {l : List α} {Q : List α → Prop} {lo hi : Int} (h : 0 ≤ lo ∧ lo ≤ hi ∧ hi ≤ l.length) (hq : Q ((l.drop lo.toNat).take (hi.toNat - lo.toNat))) : Tot (lsl l lo hi) Q := ⟨_, lsl_le h, hq⟩
theorem tot_i64 {a : Int} (h1 : -9223372036854775808 ≤ a := by omega) (h2 : a ≤ 9223372036854775807 := by omega) : i64w a = a := i64w_id h1 h2
end
section
variable {τ : TTape}
theorem tot_next (h : okT τ) {n : Int} (hn : n ≤ 9223372036854775807) : Tot (Mwld_Tape_Next τ n) fun y => okT y.2 ∧ Cho n y.1 := by
  obtain ⟨x, τ', e, h1, h2⟩ := next_ok h n hn
  exact ⟨_, e, h1, h2⟩
theorem tot_bool (h : okT τ) {n : Int} (hn : n ≤ 9223372036854775807) : Tot (Mwld_Tape_Bool τ n) fun y => okT y.2 := by
  obtain ⟨x, τ', e, h1⟩ := bool_ok h n hn
  exact ⟨_, e, h1⟩
theorem tot_bound (h : okT τ) : Tot (Mwld_Tape_Bound τ) fun y => okT y.2 ∧ y.1.key.size ≤ 65 := by
  obtain ⟨x, τ', e, h1⟩ := bound_ok h
  exact ⟨_, e, h1⟩
theorem tot_range (h : okT τ) : Tot (Mwld_Tape_Range τ) fun y => okT y.2 := by
  obtain ⟨x, τ', e, h1, -⟩ := range_ok h
  exact ⟨_, e, h1⟩
theorem tot_query (h : okT τ) : Tot (Mwld_Tape_Query τ) fun y => okT y.2 ∧ qok y.1 := by
  obtain ⟨x, τ', e, h1, h2⟩ := query_ok h
  exact ⟨_, e, h1, h2⟩
theorem tot_oddQuery (h : okT τ) : Tot (Mwld_Tape_OddQuery τ) fun y => okT y.2 ∧ y.1.Ranges.length ≤ 100 := by
  obtain ⟨x, τ', e, h1, h2⟩ := oddQuery_ok h
  exact ⟨_, e, h1, h2⟩
theorem tot_new (l : List Int) : Tot (Mwld_New l) okT := by
  obtain ⟨τ, e, h⟩ := new_ok l
  exact ⟨_, e, h⟩
end
end Go.Proofs.YtlbnhhfaedhgfaaDoor
-- LEFT tot_oddRows tot_rows tot_rowsIn
namespace Go.Proofs.YtlbnhhfaedhgfaaDoor
set_option linter.unusedSimpArgs false
set_option linter.unusedVariables false
open Go.RowKit
theorem flt_le {α : Type} {p q : α → Bool} (h : ∀ a, p a = true → q a = true) : ∀ l : List α, (l.filter p).length ≤ (l.filter q).length
  | [] => Nat.le_refl _
  | a :: l => by
    have ih := flt_le h l
    rw [List.filter_cons, List.filter_cons]
    cases hp : p a with
    | true => rw [h a hp]; simpa using ih
    | false => cases q a <;> simp <;> omega
theorem flt_lt {α : Type} {p q : α → Bool} (h : ∀ a, p a = true → q a = true) {x : α} (h1 : p x = false) (h2 : q x = true) : ∀ l : List α, x ∈ l → (l.filter p).length < (l.filter q).length
  | [], hx => by simp at hx
  | a :: l, hx => by
    rw [List.filter_cons, List.filter_cons]
    rcases List.mem_cons.1 hx with rfl | hx
    · rw [h1, h2]
      have := flt_le h l
      simp; omega
    · have ih := flt_lt h h1 h2 l hx
      cases hp : p a with
      | true => rw [h a hp]; simpa using ih
      | false => cases q a <;> simp <;> omega
def above (cuts : List Bnd) (b : Bnd) : Nat := (cuts.filter fun c => decide (0 < cmp c b)).length
theorem above_le (cuts : List Bnd) (b : Bnd) : above cuts b ≤ cuts.length := List.length_filter_le _ _
theorem above_lt {cuts : List Bnd} {x b : Bnd} (hx : x ∈ cuts) (h : 0 < cmp x b) : above cuts x < above cuts b := by
  refine flt_lt (fun c hc => ?_) (x := x) ?_ ?_ cuts hx
  · simp only [decide_eq_true_eq] at hc ⊢
    exact (cmp_pos _ _).2 (lt_trans ((cmp_pos _ _).1 h) ((cmp_pos _ _).1 hc))
  · rw [cmp_self]; rfl
  · simpa using h
theorem emp_self (b : Bnd) : emp ⟨b, b⟩ = true := by
  unfold emp
  rw [cmp_self]
  simp
theorem split_l3 (b : Bnd) : ∀ (cs : List Bnd) (x : Bnd), Tot (Mref28_Split_l3 b.key b.top cs x.key x.top) fun y => (⟨y.1, y.2⟩ : Bnd) = x ∨ ((⟨y.1, y.2⟩ : Bnd) ∈ cs ∧ 0 < cmp ⟨y.1, y.2⟩ b)
  | [], x => ⟨_, rfl, .inl rfl⟩
  | c :: cs, x => by
    rw [Mref28_Split_l3.eq_2]
    have h1 := tot_mono (split_l3 b cs x) (Q := fun y => (⟨y.1, y.2⟩ : Bnd) = x ∨ ((⟨y.1, y.2⟩ : Bnd) ∈ c :: cs ∧ 0 < cmp ⟨y.1, y.2⟩ b)) (fun y hy => hy.imp_right fun h => ⟨List.mem_cons_of_mem _ h.1, h.2⟩)
    refine tot_bnd (tot_sel (fun _ => tot_bnd (tot_sel (fun h2 => tot_bnd (tot_sel (fun _ => ?_) fun _ => h1)) fun _ => h1)) fun _ => h1)
    rw [eq_ref1_Compare] at h2
    have h3 : 0 < cmp c b := of_decide_eq_true h2
    refine tot_mono (split_l3 b cs c) fun y hy => .inr ?_
    rcases hy with hy | hy
    · rw [hy]; exact ⟨List.mem_cons_self, h3⟩
    · exact ⟨List.mem_cons_of_mem _ hy.1, hy.2⟩
theorem split_l2 (cuts : List Bnd) (r : Rng) : ∀ (n fuel : Nat) (lo : Bnd) (out : List Rng), above cuts lo ≤ n → n + 2 < fuel → out.length + n ≤ 1000000 → Tot (Mref28_Split_l2 cuts r fuel out lo.key lo.top) fun o => o.length ≤ out.length + n + 1
  | _, 0, _, _, _, h, _ => absurd h (by omega)
  | n, fuel + 1, lo, out, h1, h2, h3 => by
    rw [Mref28_Split_l2.eq_2]
    refine tot_bnd (tot_join (R := fun _ => True) (tot_sel (fun _ => tot_some trivial) fun _ => tot_some (show out.length ≤ out.length + n + 1 by omega)) fun _ _ => ?_)
    refine tot_obnd (R := fun y => y.1.length = out.length + 1 ∧ ((⟨y.2.1, y.2.2⟩ : Bnd) = r.hi ∨ ((⟨y.2.1, y.2.2⟩ : Bnd) ∈ cuts ∧ 0 < cmp ⟨y.2.1, y.2.2⟩ lo))) (tot_obnd (split_l3 lo cuts r.hi) fun y hy => tot_obnd (tot_app (Q := fun l => l.length = out.length + 1) (by simp; omega) (by simp)) fun l hl => tot_some ⟨hl, hy⟩) ?_
    rintro ⟨o, k, t⟩ ⟨g1, g2⟩
    simp only at g1 g2 ⊢
    rcases g2 with g2 | ⟨g2, g3⟩
    · obtain ⟨fuel, rfl⟩ : ∃ f, fuel = f + 1 := ⟨fuel - 1, by omega⟩
      rw [Mref28_Split_l2.eq_2, g2, bnd_eq, eq_ref1_Empty, emp_self]
      exact tot_some (by omega)
    · have g4 := above_lt g2 g3
      obtain ⟨n, rfl⟩ : ∃ f, n = f + 1 := ⟨n - 1, by omega⟩
      exact tot_mono (split_l2 cuts r n fuel ⟨k, t⟩ o (by omega) (by omega) (by omega)) fun o' ho => by omega
theorem split_l1 (cuts : List Bnd) (hc : cuts.length ≤ 1000) : ∀ (l out : List Rng), out.length + l.length * (cuts.length + 1) ≤ 100000 → Tot (Mref28_Split_l1 cuts l out) fun o => o.length ≤ out.length + l.length * (cuts.length + 1)
  | [], out, _ => tot_some (by simp)
  | r :: l, out, h => by
    rw [List.length_cons, Nat.add_mul, Nat.one_mul] at h ⊢
    rw [Mref28_Split_l1.eq_2]
    have ha := above_le cuts r.lo
    refine tot_obnd (R := fun o => o.length ≤ out.length + (cuts.length + 1)) (tot_obnd (tot_mono (split_l2 cuts r cuts.length FU r.lo out ha (by unfold FU; omega) (by omega)) fun o ho => ?_) fun o ho => tot_some ho) fun o ho => tot_mono (split_l1 cuts hc l o (by omega)) fun o' ho' => by omega
    exact ho
theorem split_ok (l : List Rng) (cuts : List Bnd) (hc : cuts.length ≤ 1000) (h : l.length * (cuts.length + 1) ≤ 100000) : Tot (Mref28_Split l cuts) fun o => o.length ≤ l.length * (cuts.length + 1) := by
  unfold Mref28_Split
  exact tot_obnd (split_l1 cuts hc l [] (by simpa using h)) fun o ho => tot_some (by simpa using ho)
theorem cuts_l2 (out : List Bnd) (hout : out.length ≤ 1000) (y : Bnd × TTape) : ∀ (fuel : Nat) (l : List Int) (a : Int) (k : Nat), okT ⟨l, a⟩ → k ≤ out.length → k < fuel → Tot (Mwld_Tape_Cuts_l2 out y fuel l a (k : Int)) fun z => okT ⟨z.1, z.2.1⟩ ∧ 0 ≤ z.2.2 ∧ z.2.2 ≤ out.length
  | 0, _, _, _, _, _, h => absurd h (by omega)
  | fuel + 1, l, a, k, h, hk, hf => by
    rw [Mwld_Tape_Cuts_l2.eq_2]
    have stay : okT ⟨l, a⟩ ∧ 0 ≤ (k : Int) ∧ (k : Int) ≤ out.length := ⟨h, by omega, by omega⟩
    refine tot_sel (fun h1 => ?_) fun _ => tot_some stay
    have h1 : 0 < (k : Int) := of_decide_eq_true h1
    rw [tot_i64]
    refine tot_obnd (tot_lget (Q := fun _ => True) (by omega) (by omega) fun _ => trivial) fun e _ => tot_bnd (tot_sel (fun _ => tot_obnd (tot_bool h (by omega)) fun z hz => tot_sel (fun _ => ?_) fun _ => tot_some ⟨hz, by simp only; omega, by simp only; omega⟩) fun _ => tot_some stay)
    rw [show (k : Int) - 1 = ((k - 1 : Nat) : Int) by omega]
    exact cuts_l2 out hout y fuel _ _ (k - 1) hz (by omega) (by omega)
theorem cuts_l1 : ∀ (fuel : Nat) (l : List Int) (a : Int) (out : List Bnd) (i : Int), okT ⟨l, a⟩ → i.toNat < fuel → i ≤ 100 → (out.length : Int) + max i 0 ≤ 900 → Tot (Mwld_Tape_Cuts_l1 fuel l a out i) fun z => okT ⟨z.2.1, z.2.2⟩ ∧ (z.1.length : Int) ≤ out.length + max i 0
  | 0, _, _, _, _, _, h, _, _ => absurd h (by omega)
  | fuel + 1, l, a, out, i, h, hf, hi, ho => by
    rw [Mwld_Tape_Cuts_l1.eq_2]
    refine tot_join (R := fun _ => 0 < i) (tot_sel (fun h1 => tot_some (show 0 < i from of_decide_eq_true h1)) fun _ => tot_some ⟨h, by simp only; omega⟩) fun _ h1 => ?_
    refine tot_obnd (R := fun z => okT ⟨z.1, z.2.1⟩ ∧ z.2.2.length ≤ out.length + 1) ?_ ?_
    · refine tot_obnd (tot_bound h) fun y hy => tot_obnd (cuts_l2 out (by omega) y FU y.2.l y.2.at_ out.length hy.1 (Nat.le_refl _) (by unfold FU; omega)) ?_
      rintro ⟨l1, a1, k1⟩ ⟨g1, g2, g3⟩
      simp only at g1 g2 g3 ⊢
      refine tot_obnd (R := fun z => okT ⟨z.1, z.2.1⟩) ?_ ?_
      · have tl : ∀ (τ : TTape), okT τ → ∀ b : Bool, Tot (sel b (obnd (Mwld_Tape_Bool τ 20) fun y22 => some (y22.2.l, y22.2.at_, !y22.1)) (some (τ.l, τ.at_, false))) fun z => okT ⟨z.1, z.2.1⟩ := fun τ hτ b => tot_sel (fun _ => tot_obnd (tot_bool hτ (by omega)) fun z hz => tot_some hz) fun _ => tot_some hτ
        refine tot_sel (fun h2 => ?_) fun _ => tot_bnd (tl ⟨l1, a1⟩ g1 _)
        have h2 : 0 < k1 := of_decide_eq_true h2
        rw [tot_i64]
        refine tot_obnd (tot_lget (Q := fun _ => True) (by omega) (by omega) fun _ => trivial) fun e _ => tot_bnd (tot_sel (fun _ => ?_) fun _ => tot_bnd (tl ⟨l1, a1⟩ g1 _))
        exact tot_obnd (tot_bool g1 (by omega)) fun z hz => tot_sel (fun _ => tot_some hz) fun _ => tot_bnd (tl z.2 hz _)
      · rintro ⟨l2, a2, b2⟩ g4
        simp only at g4 ⊢
        refine tot_join (R := fun _ => True) (tot_sel (fun _ => tot_some ⟨g4, by simp only; omega⟩) fun _ => tot_some trivial) fun _ _ => ?_
        refine tot_obnd (tot_lsl (Q := fun l => (l.length : Int) = k1) (by omega) (by simp; omega)) fun l30 e30 => ?_
        refine tot_obnd (tot_app (Q := fun l => (l.length : Int) = k1) (by simp; omega) (by simp; omega)) fun l31 e31 => ?_
        refine tot_obnd (tot_app (Q := fun l => (l.length : Int) = k1 + 1) (by simp; omega) (by simp; omega)) fun l32 e32 => ?_
        refine tot_obnd (tot_lsl (Q := fun l => (l.length : Int) = out.length - k1) (by omega) (by simp; omega)) fun l33 e33 => ?_
        refine tot_obnd (tot_app (Q := fun l => (l.length : Int) = out.length + 1) (by omega) (by simp; omega)) fun l34 e34 => ?_
        exact tot_some ⟨g4, by simp only; omega⟩
    · rintro ⟨l2, a2, o2⟩ ⟨g1, g2⟩
      simp only at g1 g2 ⊢
      rw [tot_i64]
      exact tot_mono (cuts_l1 fuel l2 a2 o2 (i - 1) g1 (by omega) (by omega) (by omega)) fun z hz => ⟨hz.1, by have := hz.2; omega⟩
theorem tot_cuts {τ : TTape} (h : okT τ) {n : Int} (h0 : 0 ≤ n) (hn : n ≤ 50) : Tot (Mwld_Tape_Cuts τ n) fun y => okT y.2 ∧ (y.1.length : Int) ≤ n := by
  unfold Mwld_Tape_Cuts
  rw [tot_i64]
  refine tot_obnd (tot_next h (by omega)) fun y hy => ?_
  obtain ⟨h1, h2⟩ := hy
  unfold Cho at h2
  refine tot_obnd (cuts_l1 FU y.2.l y.2.at_ [] y.1 h1 (by unfold FU; omega) (by omega) (by simp; omega)) ?_
  rintro ⟨o, l, a⟩ ⟨g1, g2⟩
  simp only [List.length_nil] at g1 g2
  exact tot_some ⟨g1, by simp only; omega⟩
end Go.Proofs.YtlbnhhfaedhgfaaDoor
namespace Go.Proofs.YtlbnhhfaedhgfaaDoor
set_option linter.unusedSimpArgs false
set_option linter.unusedVariables false
open Go.RowKit
set_option maxRecDepth 100000
set_option maxHeartbeats 4000000
attribute [local irreducible] WK WC WL Wk Rel OpD OpV WD WO sel bnd obnd app lget lsl sget ssl scat letg iquo irem Op.bytesLess
attribute [local irreducible] qchk qranges union
def Mlaw28_bounds (a1 : ByteArray) (b2 : ByteArray) : Rng :=
  (Rng.mk (Bnd.mk a1 false) (Bnd.mk b2 false))
theorem Mlaw28_bounds_sp {a1 : ByteArray} {b2 : ByteArray} {y : Rng} (hm : Mlaw28_bounds a1 b2 = y) : Spec Tryd.prog 16 [vS a1, vS b2] [] fun u h => u = .a [vS y.lo.key, vB y.lo.top, vS y.hi.key, vB y.hi.top] ∧ h = [] := by
  refine Spec.intro Tryd.func16 rfl rfl Tryd.ntmps16 Tryd.results16 rfl fun B w0 ρ0 => ?_
  simp only [slots, List.map_nil, List.map_cons, Nat.reduceAdd]
  unfold Mlaw28_bounds at hm
  have hm0 := hm
  clear hm
  refine sr ?_
  refine sr ?_
  refine sx ?_
  subst hm0
  exact wk_ret ⟨rfl, rfl⟩

def Mlaw28_awake : Option Bool :=
  bnd (Mlaw28_bounds ⟨#[97]⟩ ⟨#[109]⟩) fun y1 =>
  obnd (Mwalk_Start (TQuery.mk 1 ([y1] : List Rng) ⟨#[]⟩ 0) ([y1] : List Rng)) fun y2 =>
  bnd (Mlaw28_bounds ⟨#[]⟩ ⟨#[102]⟩) fun y3 =>
  obnd (Mwalk_Take y2.1 (TView.mk 3 y3 (TStamp.mk 0 0) [])) fun y4 =>
  obnd (Mwalk_Want y4.1) fun y5 =>
  sel (decide (y2.2 = 0)) (
    sel (decide (y4.2 = 0)) (
      sel (decide ((y4.1.Visits.length : Int) = 1)) (
        obnd (lget y4.1.Visits 0) fun e6 =>
        bnd (Mlaw28_bounds ⟨#[97]⟩ ⟨#[102]⟩) fun y7 =>
        sel (decide (e6.Part.lo.key = y7.lo.key) && decide (e6.Part.lo.top = y7.lo.top) && decide (e6.Part.hi.key = y7.hi.key) && decide (e6.Part.hi.top = y7.hi.top)) (
          sel y5.2 (
            bnd (Mlaw28_bounds ⟨#[102]⟩ ⟨#[109]⟩) fun y8 =>
            some (decide (y5.1.lo.key = y8.lo.key) && decide (y5.1.lo.top = y8.lo.top) && decide (y5.1.hi.key = y8.hi.key) && decide (y5.1.hi.top = y8.hi.top))) (
            some false)) (
          some false)) (
        some false)) (
      some false)) (
    some false)
theorem Mlaw28_awake_sp {y : Bool} (hm : Mlaw28_awake = some y) : Spec Tryd.prog 4 [] [] fun u h => u = vB y ∧ h = [] := by
  refine Spec.intro Tryd.func4 rfl rfl Tryd.ntmps4 Tryd.results4 rfl fun B w0 ρ0 => ?_
  simp only [slots, List.map_nil, List.map_cons, Nat.reduceAdd]
  unfold Mlaw28_awake at hm
  have hm0 := hm
  clear hm
  refine sr ?_
  refine sr ?_
  obtain ⟨y1, hy, hm0⟩ := bnd_o hm0
  refine wl_cq (Mlaw28_bounds_sp (hm := hy)) ?_
  refine sr ?_
  refine wl_bt Rng.ds [y1] rfl rfl (by simp only [flatV, cellsV, List.cons_append, List.nil_append, List.append_nil]; exact rfl) rfl rfl rfl rfl rfl rfl ?_
  refine ss ?_
  refine wl_bt Rng.ds [y1] rfl rfl (by simp only [flatV, cellsV, List.cons_append, List.nil_append, List.append_nil]; exact rfl) rfl rfl rfl rfl rfl rfl ?_
  refine ss ?_
  obtain ⟨y2, hy, hm0⟩ := obnd_o hm0
  refine wl_cq (Mwalk_Start_sp (hm := hy)) ?_
  refine ss ?_
  refine wc_seq ?_
  refine wc_draw (id := 3) [⟨0, 0, [2]⟩, ⟨1, 0, []⟩, ⟨2, 2, [19]⟩, ⟨3, 7, [18, 20]⟩, ⟨4, 15, [21]⟩, ⟨5, 31, [17]⟩, ⟨6, 31, [17]⟩, ⟨7, 63, [2, 22]⟩, ⟨8, 255, [23]⟩] mixed (by kernel_rfl) ?_
  refine ss ?_
  obtain ⟨y3, hy, hm0⟩ := bnd_o hm0
  refine wd_cs (Mlaw28_bounds_sp (hm := hy)) rfl rfl rfl (by repeat (first | exact Vws.nil | apply Vws.cons | exact Vw.nil | exact Vw.d _ | exact Vw.q _ | apply Vw.a)) rfl rfl (by first | exact .no rfl | exact .y rfl rfl rfl rfl) rfl rfl rfl ?_
  refine ss ?_
  obtain ⟨y4, hy, hm0⟩ := obnd_o hm0
  refine wd_cs (Mwalk_Take_sp (hm := hy)) rfl rfl rfl (by repeat (first | exact Vws.nil | apply Vws.cons | exact Vw.nil | exact Vw.d _ | exact Vw.q _ | apply Vw.a)) rfl rfl (by first | exact .no rfl | exact .y rfl rfl rfl rfl) rfl rfl rfl ?_
  refine sr ?_
  obtain ⟨y5, hy, hm0⟩ := obnd_o hm0
  refine wl_cq (Mwalk_Want_sp (hm := hy)) ?_
  refine ss ?_
  refine wc_seq ?_
  refine wc_draw (id := 5) [⟨0, 0, [3]⟩, ⟨1, 1, [29]⟩, ⟨2, 3, [30]⟩, ⟨3, 7, [4, 31]⟩, ⟨4, 15, [31, 32]⟩, ⟨5, 31, [31, 33]⟩, ⟨6, 63, [34]⟩, ⟨7, 127, [2, 35]⟩, ⟨8, 255, [35, 36]⟩, ⟨9, 511, [35, 37]⟩, ⟨10, 1023, [35, 38]⟩, ⟨11, 2047, [35, 39]⟩, ⟨12, 4095, [40]⟩, ⟨13, 8191, [2, 41]⟩, ⟨14, 16383, [41, 42]⟩, ⟨15, 32767, [41, 43]⟩, ⟨16, 65535, [41, 44]⟩, ⟨17, 131071, [41, 45]⟩, ⟨18, 8191, [41]⟩, ⟨19, 524287, [41, 46, 47]⟩, ⟨20, 1048575, [41, 48]⟩, ⟨21, 2097151, [49]⟩, ⟨22, 4194303, [6, 50]⟩, ⟨23, 8388607, [50, 51]⟩, ⟨24, 16777215, [52]⟩, ⟨25, 33554431, [5, 53]⟩, ⟨26, 33554431, [53]⟩, ⟨27, 134217727, [53, 54, 55]⟩, ⟨28, 268435455, [53, 56]⟩, ⟨29, 536870911, [57]⟩] mixed (by kernel_rfl) ?_
  refine ss ?_
  refine wd_gp rfl rfl rfl rfl (fun h => ?_) (fun h => ?_)
  · replace hm0 := sel_t h hm0
    refine ss ?_
    refine wd_gp rfl rfl rfl rfl (fun h => ?_) (fun h => ?_)
    · replace hm0 := sel_t h hm0
      refine ss ?_
      refine wd_gp rfl rfl rfl rfl (fun h => ?_) (fun h => ?_)
      · replace hm0 := sel_t h hm0
        refine ss ?_
        obtain ⟨e6, hy, hm0⟩ := obnd_o hm0
        refine wd_r [] (o_ixg (ys := [dI e6.View.Owner, dS e6.View.Interval.lo.key, dB e6.View.Interval.lo.top, dS e6.View.Interval.hi.key, dB e6.View.Interval.hi.top, dI e6.View.Stamp.Epoch, dI e6.View.Stamp.Version, lst Kv.ds e6.View.Rows, dS e6.Part.lo.key, dB e6.Part.lo.top, dS e6.Part.hi.key, dB e6.Part.hi.top]) hy rfl rfl rfl rfl) rfl (by first | exact .no rfl | exact .y rfl rfl rfl rfl) rfl rfl ?_
        refine ss ?_
        obtain ⟨y7, hy, hm0⟩ := bnd_o hm0
        refine wd_cs (Mlaw28_bounds_sp (hm := hy)) rfl rfl rfl (by repeat (first | exact Vws.nil | apply Vws.cons | exact Vw.nil | exact Vw.d _ | exact Vw.q _ | apply Vw.a)) rfl rfl (by first | exact .no rfl | exact .y rfl rfl rfl rfl) rfl rfl rfl ?_
        refine ss ?_
        refine wd_gp rfl rfl rfl rfl (fun h => ?_) (fun h => ?_)
        · replace hm0 := sel_t h hm0
          refine ss ?_
          refine wd_gp rfl rfl rfl rfl (fun h => ?_) (fun h => ?_)
          · replace hm0 := sel_t h hm0
            refine ss ?_
            obtain ⟨y8, hy, hm0⟩ := bnd_o hm0
            refine wd_cs (Mlaw28_bounds_sp (hm := hy)) rfl rfl rfl (by repeat (first | exact Vws.nil | apply Vws.cons | exact Vw.nil | exact Vw.d _ | exact Vw.q _ | apply Vw.a)) rfl rfl (by first | exact .no rfl | exact .y rfl rfl rfl rfl) rfl rfl rfl ?_
            refine sx ?_
            obtain rfl := Option.some.inj hm0
            exact wk_ret ⟨rfl, rfl⟩
          replace hm0 := sel_f h hm0
          refine sx ?_
          obtain rfl := Option.some.inj hm0
          exact wk_ret ⟨rfl, rfl⟩
        replace hm0 := sel_f h hm0
        refine sx ?_
        obtain rfl := Option.some.inj hm0
        exact wk_ret ⟨rfl, rfl⟩
      replace hm0 := sel_f h hm0
      refine sx ?_
      obtain rfl := Option.some.inj hm0
      exact wk_ret ⟨rfl, rfl⟩
    replace hm0 := sel_f h hm0
    refine sx ?_
    obtain rfl := Option.some.inj hm0
    exact wk_ret ⟨rfl, rfl⟩
  replace hm0 := sel_f h hm0
  refine sx ?_
  obtain rfl := Option.some.inj hm0
  exact wk_ret ⟨rfl, rfl⟩

theorem Mref28_Split_so0 {l1 : List Rng} {cuts2 : List Bnd} {y : List Rng} (hm : Mref28_Split l1 cuts2 = some y) : Spec Tryd.prog 7 [.d (lst Rng.ds l1), .d (lst Bnd.ds cuts2)] [] fun u h => u = .h 1 ∧ h = [(1, some (arrT 38 4 Rng.ds y))] := by
  refine Spec.intro Tryd.func7 rfl rfl Tryd.ntmps7 Tryd.results7 rfl fun B w0 ρ0 => ?_
  simp only [slots, List.map_nil, List.map_cons, Nat.reduceAdd]
  unfold Mref28_Split at hm
  have hm0 := hm
  clear hm
  refine sr ?_
  refine sr ?_
  refine sr ?_
  obtain ⟨mu1, hm1, hm0⟩ := obnd_o hm0
  refine wc_cut' (fun st => ∃ (out27 : List Rng), out27 = mu1 ∧ st = ⟨[(5, .h 5006)], [(5006, some (arrT 38 4 Rng.ds out27))]⟩) ?_ ?_
  · refine wc_block ?_
    refine wc_wk (wk_nil 5 5001 38 4 rfl rfl) ?_
    refine wc_len 11 rfl (fun hlenm6 => ?_)
    refine wc_loopw (fun κ st => ∃ (m6 : Nat) (out3 : List Rng), κ = l1.length - m6 ∧ m6 ≤ l1.length ∧ Mref28_Split_l1 cuts2 (l1.drop m6) out3 = some mu1 ∧ st = ⟨[(1, .d (lst Bnd.ds cuts2)), (5, .h 5001), (11, .d (lst Rng.ds l1)), (12, vI (l1.length : Int)), (13, vI (m6 : Int))], [(5001, some (arrT 38 4 Rng.ds out3))]⟩) [(5001, 5001)] ⟨0, _, rfl, Nat.zero_le _, hm1, rfl⟩ ?_
    rintro κ _ ⟨m6, out3, rfl, hlem6, hm1, rfl⟩
    rcases Nat.lt_or_ge m6 l1.length with hltm6 | hgem6
    · obtain ⟨r4, hxm6, hdr⟩ := drop_c hltm6
      rw [hdr, Mref28_Split_l1.eq_2] at hm1
      refine sr ?_
      refine wc_seq ?_
      refine wc_cond_tt (lt_t hltm6) rfl ?_
      refine sx ?_
      refine wc_seq ?_
      obtain ⟨mu2, hm2, hm1⟩ := obnd_o hm1
      refine wc_cut' (fun st => ∃ (out26 : List Rng), out26 = mu2 ∧ st = ⟨[(1, .d (lst Bnd.ds cuts2)), (5, .h 5005), (11, .d (lst Rng.ds l1)), (12, vI (l1.length : Int)), (13, vI (m6 : Int))], [(5005, some (arrT 38 4 Rng.ds out26))]⟩) ?_ ?_
      · refine sr ?_
        refine wl_r (o_ixm (ys := [dS r4.lo.key, dB r4.lo.top, dS r4.hi.key, dB r4.hi.top]) hxm6 rfl rfl rfl rfl) rfl rfl rfl ?_
        refine ss ?_
        obtain ⟨mu3, hm3, hm2⟩ := obnd_o hm2
        refine wc_cut' (fun st => ∃ (out25 : List Rng), out25 = mu3 ∧ st = ⟨[(1, .d (lst Bnd.ds cuts2)), (5, .h 5004), (11, .d (lst Rng.ds l1)), (12, vI (l1.length : Int)), (13, vI (m6 : Int))], [(5004, some (arrT 38 4 Rng.ds out25))]⟩) ?_ ?_
        · refine wc_block ?_
          refine wc_loopw (fun κ st => ∃ (out7 : List Rng) (r8 : ByteArray) (r9 : Bool), Mref28_Split_l2 cuts2 r4 κ out7 r8 r9 = some mu3 ∧ st = ⟨[(1, .d (lst Bnd.ds cuts2)), (5, .h 5002), (7, .p 107 0), (11, .d (lst Rng.ds l1)), (12, vI (l1.length : Int)), (13, vI (m6 : Int))], [(107, some (.box 38 [vS r8, vB r9, vS r4.hi.key, vB r4.hi.top])), (5002, some (arrT 38 4 Rng.ds out7))]⟩) [(107, 107), (5002, 5001)] ⟨_, _, _, hm3, rfl⟩ ?_
          rintro κ _ ⟨out7, r8, r9, hm3, rfl⟩
          cases κ with
          | zero => rw [Mref28_Split_l2.eq_1] at hm3; cases hm3
          | succ κ =>
            rw [Mref28_Split_l2.eq_2] at hm3
            refine sr ?_
            obtain ⟨y10, hy, hm3⟩ := bnd_o hm3
            refine wl_cq (Mref1_Empty_sp (hm := hy)) ?_
            refine ss ?_
            obtain ⟨mu4, hm4, hm3⟩ := obnd_o hm3
            refine wc_cut' (fun st => mu4 = Ctl.nxt () ∧ st = ⟨[(1, .d (lst Bnd.ds cuts2)), (5, .h 5002), (7, .p 107 0), (11, .d (lst Rng.ds l1)), (12, vI (l1.length : Int)), (13, vI (m6 : Int))], [(107, some (.box 38 [vS r8, vB r9, vS r4.hi.key, vB r4.hi.top])), (5002, some (arrT 38 4 Rng.ds out7))]⟩) ?_ ?_
            · refine wc_cs hm4 ?_ ?_ <;> clear hm4 <;> intro hm4
              · refine sx ?_
                obtain rfl := Option.some.inj hm4
                exact wk_cutw [(107, 107), (5002, 5002)] ⟨rfl, rfl⟩
              refine wc_exit ?_
              refine ss ?_
              obtain rfl := Option.some.inj hm4
              replace hm3 := ocbnd_r hm3
              obtain rfl := Option.some.inj hm3
              exact wk_cutw [(5004, 5002)] ⟨_, rfl, rfl⟩
            rintro _ ⟨rfl, rfl⟩
            replace hm3 := ocbnd_n hm3
            refine ss ?_
            obtain ⟨mu4, hm4, hm3⟩ := obnd_o hm3
            refine wc_cut' (fun st => ∃ (out22 : List Rng) (r23 : ByteArray) (r24 : Bool), mu4 = (out22, r23, r24) ∧ st = ⟨[(1, .d (lst Bnd.ds cuts2)), (5, .h 5003), (7, .p 107 0), (11, .d (lst Rng.ds l1)), (12, vI (l1.length : Int)), (13, vI (m6 : Int))], [(107, some (.box 38 [vS r23, vB r24, vS r4.hi.key, vB r4.hi.top])), (5003, some (arrT 38 4 Rng.ds out22))]⟩) ?_ ?_
            · refine sr ?_
              refine sr ?_
              obtain ⟨mu5, hm5, hm4⟩ := obnd_o hm4
              refine wc_cut' (fun st => ∃ (x19 : ByteArray) (x20 : Bool), mu5 = (x19, x20) ∧ st = ⟨[(1, .d (lst Bnd.ds cuts2)), (5, .h 5002), (7, .p 107 0), (8, .p 108 0), (11, .d (lst Rng.ds l1)), (12, vI (l1.length : Int)), (13, vI (m6 : Int))], [(107, some (.box 38 [vS r8, vB r9, vS r4.hi.key, vB r4.hi.top])), (108, some (.box 38 [vS r8, vB r9, vS x19, vB x20])), (5002, some (arrT 38 4 Rng.ds out7))]⟩) ?_ ?_
              · refine wc_block ?_
                refine wc_len 21 rfl (fun hlenm15 => ?_)
                refine wc_loopw (fun κ st => ∃ (m15 : Nat) (x11 : ByteArray) (x12 : Bool), κ = cuts2.length - m15 ∧ m15 ≤ cuts2.length ∧ Mref28_Split_l3 r8 r9 (cuts2.drop m15) x11 x12 = some mu5 ∧ st = ⟨[(1, .d (lst Bnd.ds cuts2)), (5, .h 5002), (7, .p 107 0), (8, .p 108 0), (11, .d (lst Rng.ds l1)), (12, vI (l1.length : Int)), (13, vI (m6 : Int)), (21, .d (lst Bnd.ds cuts2)), (22, vI (cuts2.length : Int)), (23, vI (m15 : Int))], [(107, some (.box 38 [vS r8, vB r9, vS r4.hi.key, vB r4.hi.top])), (108, some (.box 38 [vS r8, vB r9, vS x11, vB x12])), (5002, some (arrT 38 4 Rng.ds out7))]⟩) [(107, 107), (108, 108), (5002, 5002)] ⟨0, _, _, rfl, Nat.zero_le _, hm5, rfl⟩ ?_
                rintro κ _ ⟨m15, x11, x12, rfl, hlem15, hm5, rfl⟩
                rcases Nat.lt_or_ge m15 cuts2.length with hltm15 | hgem15
                · obtain ⟨r13, hxm15, hdr⟩ := drop_c hltm15
                  rw [hdr, Mref28_Split_l3.eq_2] at hm5
                  refine sr ?_
                  refine wc_seq ?_
                  refine wc_cond_tt (lt_t hltm15) rfl ?_
                  refine sx ?_
                  refine sr ?_
                  refine wl_r (o_ixm (ys := [dS r13.key, dB r13.top]) hxm15 rfl rfl rfl rfl) rfl rfl rfl ?_
                  refine sr ?_
                  obtain ⟨y16, hy, hm5⟩ := bnd_o hm5
                  refine wl_cq (Mref1_ValidBound_sp (hm := hy)) ?_
                  refine ss ?_
                  refine wl_sg hm5 ?_ ?_ <;> clear hm5 <;> intro hm5
                  · refine ss ?_
                    obtain ⟨y17, hy, hm5⟩ := bnd_o hm5
                    refine wl_cq (Mref1_Compare_sp (hm := hy)) ?_
                    refine ss ?_
                    refine wl_sg hm5 ?_ ?_ <;> clear hm5 <;> intro hm5
                    · refine ss ?_
                      obtain ⟨y18, hy, hm5⟩ := bnd_o hm5
                      refine wl_cq (Mref1_Compare_sp (hm := hy)) ?_
                      refine ss ?_
                      refine wc_cs hm5 ?_ ?_ <;> clear hm5 <;> intro hm5
                      · refine sr ?_
                        refine sr ?_
                        refine wl_r (o_inc hltm15 hlenm15 rfl rfl rfl) rfl rfl rfl ?_
                        refine ss ?_
                        exact wk_loopw [(107, 107), (108, 108), (5002, 5002)] ⟨m15 + 1, _, _, rfl, hltm15, hm5, rfl⟩ (by omega)
                      refine sx ?_
                      refine sr ?_
                      refine wl_r (o_inc hltm15 hlenm15 rfl rfl rfl) rfl rfl rfl ?_
                      refine ss ?_
                      exact wk_loopw [(107, 107), (108, 108), (5002, 5002)] ⟨m15 + 1, _, _, rfl, hltm15, hm5, rfl⟩ (by omega)
                    refine ss ?_
                    refine wc_cond_f rfl ?_
                    refine sx ?_
                    refine sr ?_
                    refine wl_r (o_inc hltm15 hlenm15 rfl rfl rfl) rfl rfl rfl ?_
                    refine ss ?_
                    exact wk_loopw [(107, 107), (108, 108), (5002, 5002)] ⟨m15 + 1, _, _, rfl, hltm15, hm5, rfl⟩ (by omega)
                  refine ss ?_
                  refine wc_cond_f rfl ?_
                  refine sx ?_
                  refine sr ?_
                  refine wl_r (o_inc hltm15 hlenm15 rfl rfl rfl) rfl rfl rfl ?_
                  refine ss ?_
                  exact wk_loopw [(107, 107), (108, 108), (5002, 5002)] ⟨m15 + 1, _, _, rfl, hltm15, hm5, rfl⟩ (by omega)
                · rw [drop_n hgem15, Mref28_Split_l3.eq_1] at hm5
                  refine sr ?_
                  refine wc_seq ?_
                  refine wc_cond_ff (lt_f hgem15) rfl ?_
                  refine wc_exit ?_
                  refine ss ?_
                  obtain rfl := Option.some.inj hm5
                  exact wk_cutw [(107, 107), (108, 108), (5002, 5002)] ⟨_, _, rfl, rfl⟩
              rintro _ ⟨x19, x20, rfl, rfl⟩
              refine sr ?_
              refine wl_bt Rng.ds [(Rng.mk (Bnd.mk r8 r9) (Bnd.mk x19 x20))] rfl rfl (by simp only [flatV, cellsV, List.cons_append, List.nil_append, List.append_nil]; exact rfl) rfl rfl rfl rfl rfl rfl ?_
              refine ss ?_
              obtain ⟨l21, hy, hm4⟩ := obnd_o hm4
              refine wl_2 (n_app (k' := 149) hy rfl rfl rfl rfl rfl rfl rfl rfl) rfl rfl rfl rfl ?_
              refine sr ?_
              obtain rfl := Option.some.inj hm4
              exact wk_cutw [(107, 107), (5003, 149)] ⟨_, _, _, rfl, rfl⟩
            rintro _ ⟨out22, r23, r24, rfl, rfl⟩
            refine ss ?_
            exact wk_loopw [(107, 107), (5002, 5003)] ⟨_, _, _, hm3, rfl⟩ (Nat.lt_succ_self _)
        rintro _ ⟨out25, rfl, rfl⟩
        refine ss ?_
        obtain rfl := Option.some.inj hm2
        exact wk_cutw [(5005, 5004)] ⟨_, rfl, rfl⟩
      rintro _ ⟨out26, rfl, rfl⟩
      refine sr ?_
      refine wl_r (o_inc hltm6 hlenm6 rfl rfl rfl) rfl rfl rfl ?_
      refine ss ?_
      exact wk_loopw [(5001, 5005)] ⟨m6 + 1, _, rfl, hltm6, hm1, rfl⟩ (by omega)
    · rw [drop_n hgem6, Mref28_Split_l1.eq_1] at hm1
      refine sr ?_
      refine wc_seq ?_
      refine wc_cond_ff (lt_f hgem6) rfl ?_
      refine wc_exit ?_
      refine ss ?_
      obtain rfl := Option.some.inj hm1
      exact wk_cutw [(5006, 5001)] ⟨_, rfl, rfl⟩
  rintro _ ⟨out27, rfl, rfl⟩
  refine sr ?_
  refine sx ?_
  obtain rfl := Option.some.inj hm0
  exact wk_reti [(1, 5006)] ⟨rfl, rfl⟩
def Mlaw28_WalkStarts_l1 (y24 : (Int × TTape)) : Nat → List Rng → Option (List Rng)
  | 0, _ => none
  | fuel + 1, parts25 =>
    sel (decide ((parts25.length : Int) < i64w (128 + y24.1))) (
      obnd (app parts25 ([(Rng.mk (Bnd.mk ⟨#[]⟩ false) (Bnd.mk ⟨#[]⟩ false))] : List Rng)) fun l26 =>
      Mlaw28_WalkStarts_l1 y24 fuel l26) (
      some parts25)
def Mlaw28_WalkStarts_l3 (r32 : TQuery) : List (List Rng) → Option (Ctl (Ctl (Ctl Bool Unit) Unit) Unit)
  | [] =>
    some (Ctl.nxt ())
  | r36 :: xs37 =>
    obnd (Mwalk_Start r32 r36) fun y39 =>
    obnd (Mref28_Start r32 r36) fun y40 =>
    sel (!decide (y39.2 = y40.2)) (
      some (Ctl.ret (Ctl.ret (Ctl.ret false)))) (
      obnd (Mref28_SameWalk y39.1 y40.1) fun y41 =>
      sel (!y41) (
        some (Ctl.ret (Ctl.ret (Ctl.ret false)))) (
        Mlaw28_WalkStarts_l3 r32 xs37))
def Mlaw28_WalkStarts_l2 (ranges3 : List Rng) (parts30 : List Rng) : List TQuery → Option (Ctl Bool Unit)
  | [] =>
    some (Ctl.nxt ())
  | r32 :: xs33 =>
    obnd (
      obnd (Mref22_Ranges r32) fun y35 =>
      obnd (
        Mlaw28_WalkStarts_l3 r32 ([parts30, ranges3, y35] : List (List Rng)) : Option (Ctl (Ctl (Ctl Bool Unit) Unit) Unit)) fun mu => ocbnd mu fun (_ : Unit) =>
      some (Ctl.nxt ()) : Option (Ctl (Ctl Bool Unit) Unit)) fun mu => ocbnd mu fun (_ : Unit) =>
    Mlaw28_WalkStarts_l2 ranges3 parts30 xs33
def Mlaw28_WalkStarts (l1 : List Int) (raw2 : TQuery) (ranges3 : List Rng) : Option Bool :=
  obnd (
    sel (decide (80 < (raw2.Ranges.length : Int))) (
      some true) (
      some (decide (200 < (ranges3.length : Int)))) : Option Bool) fun x4 =>
  sel x4 (
    obnd (Mlaw28_awake) fun y5 =>
    some y5) (
    obnd (Mwld_New l1) fun y6 =>
    obnd (Mwld_Tape_Query y6) fun y7 =>
    obnd (Mref22_Ranges y7.1) fun y8 =>
    obnd (Mwld_Tape_Cuts y7.2 4) fun y9 =>
    obnd (Mref28_Split y8 y9.1) fun y10 =>
    obnd (Mwld_Tape_Next y9.2 6) fun y11 =>
    obnd (
      sel (decide (y11.1 = 0)) (
        obnd (Mwld_Tape_Range y11.2) fun y12 =>
        obnd (app y10 ([y12.1] : List Rng)) fun l13 =>
        some (y12.2.l, y12.2.at_, l13)) (
        sel (decide (y11.1 = 1)) (
          obnd (Mwld_Tape_Next y11.2 (i64w ((y10.length : Int) + 1))) fun y14 =>
          obnd (lsl y10 y14.1 (y10.length : Int)) fun l15 =>
          some (y14.2.l, y14.2.at_, l15)) (
          sel (decide (y11.1 = 2)) (
            sel (decide (1 < (y10.length : Int))) (
              obnd (lget y10 1) fun e16 =>
              obnd (lget y10 0) fun e17 =>
              obnd (lget y10 0) fun e18 =>
              bnd (e16) fun e20 =>
              bnd (y10.set (Int.toNat 0) e20) fun l19 =>
              obnd (lget l19 1) fun e21 =>
              bnd (e17) fun e23 =>
              bnd (l19.set (Int.toNat 1) e23) fun l22 =>
              some (y11.2.l, y11.2.at_, l22)) (
              some (y11.2.l, y11.2.at_, y10))) (
            sel (decide (y11.1 = 3)) (
              obnd (Mwld_Tape_Next y11.2 2) fun y24 =>
              obnd (
                Mlaw28_WalkStarts_l1 y24 FU y10 : Option (List Rng)) fun parts27 =>
              some (y24.2.l, y24.2.at_, parts27)) (
              some (y11.2.l, y11.2.at_, y10))))) : Option (List Int × Int × List Rng)) fun (x28, x29, parts30) =>
    obnd (Mwld_Tape_OddQuery (TTape.mk x28 x29)) fun y31 =>
    obnd (
      Mlaw28_WalkStarts_l2 ranges3 parts30 ([y7.1, y31.1, raw2] : List TQuery) : Option (Ctl Bool Unit)) fun mu => ocbnd mu fun (_ : Unit) =>
    obnd (Mlaw28_awake) fun y42 =>
    some y42)
theorem Mlaw28_WalkStarts_sp {l1 : List Int} {raw2 : TQuery} {ranges3 : List Rng} {y : Bool} (hm : Mlaw28_WalkStarts l1 raw2 ranges3 = some y) : Spec Tryd.prog 3 [.d (lst dsI l1), .a [vI raw2.Kind, .d (lst Rng.ds raw2.Ranges), vS raw2.Key, vI raw2.Count], .d (lst Rng.ds ranges3)] [] fun u h => u = vB y ∧ h = [] := by
  refine Spec.intro Tryd.func3 rfl rfl Tryd.ntmps3 Tryd.results3 rfl fun B w0 ρ0 => ?_
  simp only [slots, List.map_nil, List.map_cons, Nat.reduceAdd]
  unfold Mlaw28_WalkStarts at hm
  have hm0 := hm
  clear hm
  refine sr ?_
  refine wc_seq ?_
  refine wc_seq ?_
  obtain ⟨mu1, hm1, hm0⟩ := obnd_o hm0
  refine wc_cut' (fun st => ∃ (x4 : Bool), x4 = mu1 ∧ st = ⟨[(0, .d (lst dsI l1)), (2, .d (lst Rng.ds ranges3)), (4, .p 104 0), (27, vB x4)], [(104, some (.box 25 [vI raw2.Kind, .d (lst Rng.ds raw2.Ranges), vS raw2.Key, vI raw2.Count]))]⟩) ?_ ?_
  · refine sr ?_
    refine wl_sg hm1 ?_ ?_ <;> clear hm1 <;> intro hm1
    · refine ss ?_
      obtain rfl := Option.some.inj hm1
      exact wk_cutw [(104, 104)] ⟨_, rfl, rfl⟩
    refine ss ?_
    obtain rfl := Option.some.inj hm1
    exact wk_cutw [(104, 104)] ⟨_, rfl, rfl⟩
  rintro _ ⟨x4, rfl, rfl⟩
  refine ss ?_
  refine wc_cs hm0 ?_ ?_ <;> clear hm0 <;> intro hm0
  · refine sr ?_
    obtain ⟨y5, hy, hm0⟩ := obnd_o hm0
    refine wl_cq (Mlaw28_awake_sp (hm := hy)) ?_
    refine sx ?_
    obtain rfl := Option.some.inj hm0
    exact wk_ret ⟨rfl, rfl⟩
  refine sx ?_
  refine sr ?_
  obtain ⟨y6, hy, hm0⟩ := obnd_o hm0
  refine wl_mkn (u' := .p 203001 0) (h' := [(203001, some (.box 62 [.d (lst dsI y6.l), vI y6.at_]))]) (Mwld_New_sp (hm := hy)) 203000 rfl rfl rfl (by repeat (first | exact Vws.nil | apply Vws.cons | exact Vw.nil | exact Vw.d _ | exact Vw.q _ | apply Vw.a)) rfl (by (try simp only [renH, Option.map_some, Blk.ren, rens_d]); rfl) rfl rfl rfl rfl ?_
  refine sr ?_
  obtain ⟨y7, hy, hm0⟩ := obnd_o hm0
  refine wl_iq (Mwld_Tape_Query_sp (hm := hy)) 203001 ?_
  refine sr ?_
  obtain ⟨y8, hy, hm0⟩ := obnd_o hm0
  refine wl_cq (Mref22_Ranges_sp (hm := hy)) ?_
  refine ss ?_
  obtain ⟨y9, hy, hm0⟩ := obnd_o hm0
  refine wl_iq (Mwld_Tape_Cuts_sp (hm := hy)) 203001 ?_
  refine ss ?_
  obtain ⟨y10, hy, hm0⟩ := obnd_o hm0
  refine wl_mkn (u' := .h 203701) (h' := [(203701, some (arrT 38 4 Rng.ds y10))]) (Mref28_Split_so0 (hm := hy)) 203700 rfl rfl rfl (by repeat (first | exact Vws.nil | apply Vws.cons | exact Vw.nil | exact Vw.d _ | exact Vw.q _ | apply Vw.a)) rfl (by (try simp only [renH, Option.map_some, Blk.ren, rens_d]); rfl) rfl rfl rfl rfl ?_
  refine sr ?_
  obtain ⟨y11, hy, hm0⟩ := obnd_o hm0
  refine wl_iq (Mwld_Tape_Next_sp (hm := hy)) 203001 ?_
  refine ss ?_
  obtain ⟨mu1, hm1, hm0⟩ := obnd_o hm0
  refine wc_cut' (fun st => ∃ (x28 : List Int) (x29 : Int) (parts30 : List Rng), mu1 = (x28, x29, parts30) ∧ st = ⟨[(2, .d (lst Rng.ds ranges3)), (4, .p 104 0), (7, .p 203001 0), (8, .p 108 0), (9, .d (lst Rng.ds parts30))], [(104, some (.box 25 [vI raw2.Kind, .d (lst Rng.ds raw2.Ranges), vS raw2.Key, vI raw2.Count])), (108, some (.box 25 [vI y7.1.Kind, .d (lst Rng.ds y7.1.Ranges), vS y7.1.Key, vI y7.1.Count])), (203001, some (.box 62 [.d (lst dsI x28), vI x29]))]⟩) ?_ ?_
  · refine sr ?_
    refine wc_cs hm1 ?_ ?_ <;> clear hm1 <;> intro hm1
    · refine sr ?_
      obtain ⟨y12, hy, hm1⟩ := obnd_o hm1
      refine wl_iq (Mwld_Tape_Range_sp (hm := hy)) 203001 ?_
      refine ss ?_
      refine wl_bt Rng.ds [y12.1] rfl rfl (by simp only [flatV, cellsV, List.cons_append, List.nil_append, List.append_nil]; exact rfl) rfl rfl rfl rfl rfl rfl ?_
      refine ss ?_
      obtain ⟨l13, hy, hm1⟩ := obnd_o hm1
      refine wl_2 (n_app (k' := 146) hy rfl rfl rfl rfl rfl rfl rfl rfl) rfl rfl rfl rfl ?_
      refine ss ?_
      obtain rfl := Option.some.inj hm1
      exact wk_cutw [(104, 104), (108, 108), (203001, 203001)] ⟨_, _, _, rfl, rfl⟩
    refine sr ?_
    refine wc_cs hm1 ?_ ?_ <;> clear hm1 <;> intro hm1
    · refine wc_wkw [(104, 104), (108, 108), (203001, 203001)] ⟨[(2, .d (lst Rng.ds ranges3)), (4, .p 104 0), (7, .p 203001 0), (8, .p 108 0), (9, .d (lst Rng.ds y10))], [(104, some (.box 25 [vI raw2.Kind, .d (lst Rng.ds raw2.Ranges), vS raw2.Key, vI raw2.Count])), (108, some (.box 25 [vI y7.1.Kind, .d (lst Rng.ds y7.1.Ranges), vS y7.1.Key, vI y7.1.Count])), (203001, some (.box 62 [.d (lst dsI y11.2.l), vI y11.2.at_]))]⟩ ?_
      refine sr ?_
      refine wl_r (o_add rfl rfl rfl rfl) rfl rfl rfl ?_
      refine ss ?_
      obtain ⟨y14, hy, hm1⟩ := obnd_o hm1
      refine wl_iq (Mwld_Tape_Next_sp (hm := hy)) 203001 ?_
      refine ss ?_
      obtain ⟨l15, hy, hm1⟩ := obnd_o hm1
      refine wl_r (o_lsl hy rfl rfl rfl rfl) rfl rfl rfl ?_
      refine ss ?_
      obtain rfl := Option.some.inj hm1
      exact wk_cutw [(104, 104), (108, 108), (203001, 203001)] ⟨_, _, _, rfl, rfl⟩
    refine sr ?_
    refine wc_cs hm1 ?_ ?_ <;> clear hm1 <;> intro hm1
    · refine sr ?_
      refine wc_cs hm1 ?_ ?_ <;> clear hm1 <;> intro hm1
      · refine wc_draw (id := 13) [⟨0, 0, [9]⟩, ⟨1, 0, [9]⟩, ⟨2, 0, [9]⟩, ⟨3, 4, [63]⟩, ⟨4, 12, [64]⟩, ⟨5, 0, [9]⟩, ⟨6, 32, [66]⟩, ⟨7, 96, [67]⟩, ⟨8, 253, [61]⟩, ⟨9, 509, [65, 69]⟩, ⟨10, 1023, [62]⟩, ⟨11, 2047, [68, 70]⟩] mixed (by kernel_rfl) ?_
        refine ss ?_
        obtain ⟨e16, hy, hm1⟩ := obnd_o hm1
        have hge16 := hy
        refine wd_ixo hy rfl rfl rfl rfl rfl (by first | exact .no rfl | exact .y rfl rfl rfl rfl) rfl rfl ?_
        refine ss ?_
        refine wd_ldo (kk := 203701) (f := Rng.ds) (zz := 4) (u := .a [vS e16.lo.key, vB e16.lo.top, vS e16.hi.key, vB e16.hi.top]) (off := 0) hge16 rfl rfl rfl (by exact inferInstance) rfl rfl rfl (by first | exact .no rfl | exact .y rfl rfl rfl rfl) rfl rfl ?_
        refine ss ?_
        obtain ⟨e17, hy, hm1⟩ := obnd_o hm1
        have hge17 := hy
        refine wd_ixo hy rfl rfl rfl rfl rfl (by first | exact .no rfl | exact .y rfl rfl rfl rfl) rfl rfl ?_
        refine ss ?_
        refine wd_ldo (kk := 203701) (f := Rng.ds) (zz := 4) (u := .a [vS e17.lo.key, vB e17.lo.top, vS e17.hi.key, vB e17.hi.top]) (off := 0) hge17 rfl rfl rfl (by exact inferInstance) rfl rfl rfl (by first | exact .no rfl | exact .y rfl rfl rfl rfl) rfl rfl ?_
        refine ss ?_
        obtain ⟨e18, hy, hm1⟩ := obnd_o hm1
        have hge18 := hy
        refine wd_ixo hy rfl rfl rfl rfl rfl (by first | exact .no rfl | exact .y rfl rfl rfl rfl) rfl rfl ?_
        refine ss ?_
        obtain ⟨e20, hy, hm1⟩ := bnd_o hm1
        have hxe20 := hy
        refine ss ?_
        obtain ⟨l19, hy, hm1⟩ := bnd_o hm1
        refine wd_sto (kk := 203701) (f := Rng.ds) (zz := 4) (off := 0) hge18 hy rfl rfl rfl rfl (by exact inferInstance) rfl (by rw [← hxe20]; rfl) rfl (by first | exact .no rfl | exact .y rfl rfl rfl rfl) rfl ?_
        have hge20 := lget_set hge18 e20
        rw [hy] at hge20
        refine ss ?_
        obtain ⟨e21, hy, hm1⟩ := obnd_o hm1
        have hge21 := hy
        refine wd_ixo hy rfl rfl rfl rfl rfl (by first | exact .no rfl | exact .y rfl rfl rfl rfl) rfl rfl ?_
        refine ss ?_
        obtain ⟨e23, hy, hm1⟩ := bnd_o hm1
        have hxe23 := hy
        refine ss ?_
        obtain ⟨l22, hy, hm1⟩ := bnd_o hm1
        refine wd_sto (kk := 203701) (f := Rng.ds) (zz := 4) (off := 0) hge21 hy rfl rfl rfl rfl (by exact inferInstance) rfl (by rw [← hxe23]; rfl) rfl (by first | exact .no rfl | exact .y rfl rfl rfl rfl) rfl ?_
        have hge23 := lget_set hge21 e23
        rw [hy] at hge23
        refine ss ?_
        obtain rfl := Option.some.inj hm1
        exact wk_cutw [(104, 104), (108, 108), (203001, 203001)] ⟨_, _, _, rfl, rfl⟩
      refine sx ?_
      obtain rfl := Option.some.inj hm1
      exact wk_cutw [(104, 104), (108, 108), (203001, 203001)] ⟨_, _, _, rfl, rfl⟩
    refine sr ?_
    refine wc_cs hm1 ?_ ?_ <;> clear hm1 <;> intro hm1
    · refine sr ?_
      obtain ⟨y24, hy, hm1⟩ := obnd_o hm1
      refine wl_iq (Mwld_Tape_Next_sp (hm := hy)) 203001 ?_
      refine ss ?_
      refine wl_r (o_add rfl rfl rfl rfl) rfl rfl rfl ?_
      refine ss ?_
      obtain ⟨mu2, hm2, hm1⟩ := obnd_o hm1
      refine wc_cut' (fun st => ∃ (parts27 : List Rng), parts27 = mu2 ∧ st = ⟨[(2, .d (lst Rng.ds ranges3)), (4, .p 104 0), (7, .p 203001 0), (8, .p 108 0), (9, .d (lst Rng.ds parts27))], [(104, some (.box 25 [vI raw2.Kind, .d (lst Rng.ds raw2.Ranges), vS raw2.Key, vI raw2.Count])), (108, some (.box 25 [vI y7.1.Kind, .d (lst Rng.ds y7.1.Ranges), vS y7.1.Key, vI y7.1.Count])), (203001, some (.box 62 [.d (lst dsI y24.2.l), vI y24.2.at_]))]⟩) ?_ ?_
      · refine wc_block ?_
        refine wc_loopw (fun κ st => ∃ (parts25 : List Rng), Mlaw28_WalkStarts_l1 y24 κ parts25 = some mu2 ∧ st = ⟨[(2, .d (lst Rng.ds ranges3)), (4, .p 104 0), (7, .p 203001 0), (8, .p 108 0), (9, .h 5001), (10, vI (i64w (128 + y24.1)))], [(104, some (.box 25 [vI raw2.Kind, .d (lst Rng.ds raw2.Ranges), vS raw2.Key, vI raw2.Count])), (108, some (.box 25 [vI y7.1.Kind, .d (lst Rng.ds y7.1.Ranges), vS y7.1.Key, vI y7.1.Count])), (5001, some (arrT 38 4 Rng.ds parts25)), (203001, some (.box 62 [.d (lst dsI y24.2.l), vI y24.2.at_]))]⟩) [(104, 104), (108, 108), (5001, 203701), (203001, 203001)] ⟨_, hm2, rfl⟩ ?_
        rintro κ _ ⟨parts25, hm2, rfl⟩
        cases κ with
        | zero => rw [Mlaw28_WalkStarts_l1.eq_1] at hm2; cases hm2
        | succ κ =>
          rw [Mlaw28_WalkStarts_l1.eq_2] at hm2
          refine sr ?_
          refine wc_cs hm2 ?_ ?_ <;> clear hm2 <;> intro hm2
          · refine sx ?_
            refine sr ?_
            refine wl_bt Rng.ds [(Rng.mk (Bnd.mk ⟨#[]⟩ false) (Bnd.mk ⟨#[]⟩ false))] rfl rfl (by simp only [flatV, cellsV, List.cons_append, List.nil_append, List.append_nil]; exact rfl) rfl rfl rfl rfl rfl rfl ?_
            refine ss ?_
            obtain ⟨l26, hy, hm2⟩ := obnd_o hm2
            refine wl_2 (n_app (k' := 183) hy rfl rfl rfl rfl rfl rfl rfl rfl) rfl rfl rfl rfl ?_
            refine ss ?_
            exact wk_loopw [(104, 104), (108, 108), (5001, 183), (203001, 203001)] ⟨_, hm2, rfl⟩ (Nat.lt_succ_self _)
          refine wc_exit ?_
          refine ss ?_
          obtain rfl := Option.some.inj hm2
          exact wk_cutw [(104, 104), (108, 108), (203001, 203001)] ⟨_, rfl, rfl⟩
      rintro _ ⟨parts27, rfl, rfl⟩
      refine ss ?_
      obtain rfl := Option.some.inj hm1
      exact wk_cutw [(104, 104), (108, 108), (203001, 203001)] ⟨_, _, _, rfl, rfl⟩
    refine sx ?_
    obtain rfl := Option.some.inj hm1
    exact wk_cutw [(104, 104), (108, 108), (203001, 203001)] ⟨_, _, _, rfl, rfl⟩
  rintro _ ⟨x28, x29, parts30, rfl, rfl⟩
  refine ss ?_
  refine wc_seq ?_
  refine wc_seq ?_
  refine wc_draw (id := 18) [⟨0, 0, [8]⟩, ⟨1, 0, [7]⟩, ⟨3, 0, [4]⟩, ⟨6, 0, []⟩, ⟨2, 2, [85]⟩, ⟨4, 15, [84, 86, 87]⟩, ⟨5, 31, [88]⟩] mixed (by kernel_rfl) ?_
  refine ss ?_
  obtain ⟨y31, hy, hm0⟩ := obnd_o hm0
  refine wd_io (Mwld_Tape_OddQuery_sp (hm := hy)) 203001 rfl rfl rfl (by repeat (first | exact Vws.nil | apply Vws.cons | exact Vw.nil | exact Vw.d _ | exact Vw.q _ | exact Vw.p rfl | apply Vw.a)) rfl (Vb.box (by repeat (first | exact Vws.nil | apply Vws.cons | exact Vw.nil | exact Vw.d _ | exact Vw.q _ | exact Vw.p rfl | apply Vw.a))) rfl rfl rfl (by first | exact .no rfl | exact .y rfl rfl rfl rfl) rfl rfl rfl rfl ?_
  refine ss ?_
  refine wd_bt TQuery.ds [y7.1, y31.1, raw2] rfl rfl (by simp only [flatV, cellsV, List.cons_append, List.nil_append, List.append_nil]; exact rfl) rfl rfl rfl rfl (by first | exact .no rfl | exact .y rfl rfl rfl rfl) rfl rfl ?_
  refine ss ?_
  obtain ⟨mu1, hm1, hm0⟩ := obnd_o hm0
  refine wc_cut' (fun st => mu1 = Ctl.nxt () ∧ st = ⟨[], []⟩) ?_ ?_
  · refine wc_block ?_
    refine wc_len 88 rfl (fun hlenm34 => ?_)
    refine wc_loopw (fun κ st => ∃ (m34 : Nat) , κ = ([y7.1, y31.1, raw2] : List TQuery).length - m34 ∧ m34 ≤ ([y7.1, y31.1, raw2] : List TQuery).length ∧ Mlaw28_WalkStarts_l2 ranges3 parts30 (([y7.1, y31.1, raw2] : List TQuery).drop m34) = some mu1 ∧ st = ⟨[(2, .d (lst Rng.ds ranges3)), (9, .d (lst Rng.ds parts30)), (88, .d (lst TQuery.ds ([y7.1, y31.1, raw2] : List TQuery))), (89, vI (([y7.1, y31.1, raw2] : List TQuery).length : Int)), (90, vI (m34 : Int))], []⟩) [] ⟨0, rfl, Nat.zero_le _, hm1, rfl⟩ ?_
    rintro κ _ ⟨m34, rfl, hlem34, hm1, rfl⟩
    rcases Nat.lt_or_ge m34 ([y7.1, y31.1, raw2] : List TQuery).length with hltm34 | hgem34
    · obtain ⟨r32, hxm34, hdr⟩ := drop_c hltm34
      rw [hdr, Mlaw28_WalkStarts_l2.eq_2] at hm1
      refine sr ?_
      refine wc_seq ?_
      refine wc_cond_tt (lt_t hltm34) rfl ?_
      refine sx ?_
      refine wc_seq ?_
      obtain ⟨mu2, hm2, hm1⟩ := obnd_o hm1
      refine wc_cut' (fun st => mu2 = Ctl.nxt () ∧ st = ⟨[(2, .d (lst Rng.ds ranges3)), (9, .d (lst Rng.ds parts30)), (88, .d (lst TQuery.ds ([y7.1, y31.1, raw2] : List TQuery))), (89, vI (([y7.1, y31.1, raw2] : List TQuery).length : Int)), (90, vI (m34 : Int))], []⟩) ?_ ?_
      · refine sr ?_
        refine wl_r (o_ixm (ys := [dI r32.Kind, lst Rng.ds r32.Ranges, dS r32.Key, dI r32.Count]) hxm34 rfl rfl rfl rfl) rfl rfl rfl ?_
        refine sr ?_
        obtain ⟨y35, hy, hm2⟩ := obnd_o hm2
        refine wl_cq (Mref22_Ranges_sp (hm := hy)) ?_
        refine ss ?_
        refine wl_bt (dsL Rng.ds) [parts30, ranges3, y35] rfl rfl (by simp only [flatV, cellsV, List.cons_append, List.nil_append, List.append_nil]; exact rfl) rfl rfl rfl rfl rfl rfl ?_
        refine ss ?_
        obtain ⟨mu3, hm3, hm2⟩ := obnd_o hm2
        refine wc_cut' (fun st => mu3 = Ctl.nxt () ∧ st = ⟨[(2, .d (lst Rng.ds ranges3)), (9, .d (lst Rng.ds parts30)), (88, .d (lst TQuery.ds ([y7.1, y31.1, raw2] : List TQuery))), (89, vI (([y7.1, y31.1, raw2] : List TQuery).length : Int)), (90, vI (m34 : Int))], []⟩) ?_ ?_
        · refine wc_block ?_
          refine wc_len 98 rfl (fun hlenm38 => ?_)
          refine wc_loopw (fun κ st => ∃ (m38 : Nat) , κ = ([parts30, ranges3, y35] : List (List Rng)).length - m38 ∧ m38 ≤ ([parts30, ranges3, y35] : List (List Rng)).length ∧ Mlaw28_WalkStarts_l3 r32 (([parts30, ranges3, y35] : List (List Rng)).drop m38) = some mu3 ∧ st = ⟨[(2, .d (lst Rng.ds ranges3)), (9, .d (lst Rng.ds parts30)), (12, .p 112 0), (88, .d (lst TQuery.ds ([y7.1, y31.1, raw2] : List TQuery))), (89, vI (([y7.1, y31.1, raw2] : List TQuery).length : Int)), (90, vI (m34 : Int)), (98, .d (lst (dsL Rng.ds) ([parts30, ranges3, y35] : List (List Rng)))), (99, vI (([parts30, ranges3, y35] : List (List Rng)).length : Int)), (100, vI (m38 : Int))], [(112, some (.box 25 [vI r32.Kind, .d (lst Rng.ds r32.Ranges), vS r32.Key, vI r32.Count]))]⟩) [(112, 112)] ⟨0, rfl, Nat.zero_le _, hm3, rfl⟩ ?_
          rintro κ _ ⟨m38, rfl, hlem38, hm3, rfl⟩
          rcases Nat.lt_or_ge m38 ([parts30, ranges3, y35] : List (List Rng)).length with hltm38 | hgem38
          · obtain ⟨r36, hxm38, hdr⟩ := drop_c hltm38
            rw [hdr, Mlaw28_WalkStarts_l3.eq_2] at hm3
            refine sr ?_
            refine wc_seq ?_
            refine wc_cond_tt (lt_t hltm38) rfl ?_
            refine sx ?_
            refine sr ?_
            refine wl_r (o_ixm (ys := [lst Rng.ds r36]) hxm38 rfl rfl rfl rfl) rfl rfl rfl ?_
            refine sr ?_
            obtain ⟨y39, hy, hm3⟩ := obnd_o hm3
            refine wl_cq (Mwalk_Start_sp (hm := hy)) ?_
            refine sr ?_
            obtain ⟨y40, hy, hm3⟩ := obnd_o hm3
            refine wl_cq (Mref28_Start_sp (hm := hy)) ?_
            refine sr ?_
            refine wl_sg hm3 ?_ ?_ <;> clear hm3 <;> intro hm3
            · refine ss ?_
              refine wc_cond_t rfl ?_
              refine sr ?_
              refine sx ?_
              obtain rfl := Option.some.inj hm3
              replace hm2 := ocbnd_r hm2
              obtain rfl := Option.some.inj hm2
              replace hm1 := ocbnd_r hm1
              obtain rfl := Option.some.inj hm1
              replace hm0 := ocbnd_r hm0
              obtain rfl := Option.some.inj hm0
              exact wk_ret ⟨rfl, rfl⟩
            refine ss ?_
            obtain ⟨y41, hy, hm3⟩ := obnd_o hm3
            refine wl_cq (Mref28_SameWalk_sp (hm := hy)) ?_
            refine ss ?_
            refine wc_cs hm3 ?_ ?_ <;> clear hm3 <;> intro hm3
            · refine sr ?_
              refine sx ?_
              obtain rfl := Option.some.inj hm3
              replace hm2 := ocbnd_r hm2
              obtain rfl := Option.some.inj hm2
              replace hm1 := ocbnd_r hm1
              obtain rfl := Option.some.inj hm1
              replace hm0 := ocbnd_r hm0
              obtain rfl := Option.some.inj hm0
              exact wk_ret ⟨rfl, rfl⟩
            refine sx ?_
            refine sr ?_
            refine wl_r (o_inc hltm38 hlenm38 rfl rfl rfl) rfl rfl rfl ?_
            refine ss ?_
            exact wk_loopw [(112, 112)] ⟨m38 + 1, rfl, hltm38, hm3, rfl⟩ (by omega)
          · rw [drop_n hgem38, Mlaw28_WalkStarts_l3.eq_1] at hm3
            refine sr ?_
            refine wc_seq ?_
            refine wc_cond_ff (lt_f hgem38) rfl ?_
            refine wc_exit ?_
            refine ss ?_
            obtain rfl := Option.some.inj hm3
            exact wk_cutw [] ⟨rfl, rfl⟩
        rintro _ ⟨rfl, rfl⟩
        replace hm2 := ocbnd_n hm2
        refine ss ?_
        obtain rfl := Option.some.inj hm2
        exact wk_cutw [] ⟨rfl, rfl⟩
      rintro _ ⟨rfl, rfl⟩
      replace hm1 := ocbnd_n hm1
      refine sr ?_
      refine wl_r (o_inc hltm34 hlenm34 rfl rfl rfl) rfl rfl rfl ?_
      refine ss ?_
      exact wk_loopw [] ⟨m34 + 1, rfl, hltm34, hm1, rfl⟩ (by omega)
    · rw [drop_n hgem34, Mlaw28_WalkStarts_l2.eq_1] at hm1
      refine sr ?_
      refine wc_seq ?_
      refine wc_cond_ff (lt_f hgem34) rfl ?_
      refine wc_exit ?_
      refine ss ?_
      obtain rfl := Option.some.inj hm1
      exact wk_cutw [] ⟨rfl, rfl⟩
  rintro _ ⟨rfl, rfl⟩
  replace hm0 := ocbnd_n hm0
  refine sr ?_
  obtain ⟨y42, hy, hm0⟩ := obnd_o hm0
  refine wl_cq (Mlaw28_awake_sp (hm := hy)) ?_
  refine sx ?_
  obtain rfl := Option.some.inj hm0
  exact wk_ret ⟨rfl, rfl⟩

end Go.Proofs.YtlbnhhfaedhgfaaDoor
namespace Go.Proofs.YtlbnhhfaedhgfaaDoor
set_option linter.unusedSimpArgs false
set_option linter.unusedVariables false
open Go.RowKit
theorem wawake_ok : Mlaw28_awake = some true := by kernel_rfl
theorem wstarts_l1 (y : Int × TTape) (hy : 0 ≤ y.1 ∧ y.1 ≤ 2) : ∀ (fuel : Nat) (l : List Rng), (128 + y.1 - l.length).toNat < fuel → l.length ≤ 1000 → Tot (Mlaw28_WalkStarts_l1 y fuel l) fun _ => True
  | 0, _, h, _ => absurd h (by omega)
  | fuel + 1, l, h, hl => by
    rw [Mlaw28_WalkStarts_l1.eq_2, tot_i64]
    refine tot_sel (fun h1 => ?_) fun _ => tot_some trivial
    have h1 : (l.length : Int) < 128 + y.1 := of_decide_eq_true h1
    refine tot_obnd (tot_app (Q := fun o => o.length = l.length + 1) (by simp; omega) (by simp)) fun o ho => wstarts_l1 y hy fuel o (by omega) (by omega)
theorem wstarts_l3 (q : TQuery) (hq : q.Ranges.length < 1000000) : ∀ l : List (List Rng), Mlaw28_WalkStarts_l3 q l = some (.nxt ())
  | [] => rfl
  | x :: l => by
    rw [Mlaw28_WalkStarts_l3.eq_2, eq_walk_Start q x hq, eq_ref28_Start q x hq, obnd_some, obnd_some, decide_eq_true rfl, Bool.not_true, sel_false, sameWalk_refl, obnd_some, Bool.not_true, sel_false]
    exact wstarts_l3 q hq l
theorem wstarts_l2 (rs parts : List Rng) : ∀ l : List TQuery, (∀ q ∈ l, q.Ranges.length < 1000000) → Mlaw28_WalkStarts_l2 rs parts l = some (.nxt ())
  | [], _ => rfl
  | q :: l, h => by
    have hq := h q List.mem_cons_self
    have hr : Mref22_Ranges q = some (qrg q) := if_pos hq
    rw [Mlaw28_WalkStarts_l2.eq_2, hr, obnd_some, wstarts_l3 q hq, obnd_some, ocbnd_nxt, obnd_some, ocbnd_nxt]
    exact wstarts_l2 rs parts l fun q hq => h q (List.mem_cons_of_mem _ hq)
theorem mrg_len : ∀ (l : List Rng) (c : Rng), (mrg c l).length ≤ l.length + 1
  | [], c => by simp [mrg]
  | r :: l, c => by
    unfold mrg
    split
    · have := mrg_len l ⟨c.lo, greater c.hi r.hi⟩
      simp; omega
    · have := mrg_len l r
      simp; omega
theorem union_len (l : List Rng) : (union l).length ≤ l.length := by
  unfold union
  have h1 : ((l.filter ne).mergeSort leLo).length ≤ l.length := by rw [List.length_mergeSort]; exact List.length_filter_le _ _
  cases h : (l.filter ne).mergeSort leLo with
  | nil => simp [mrgAll]
  | cons r l' =>
    rw [h] at h1
    have := mrg_len l' r
    simp only [mrgAll, List.length_cons] at h1 ⊢
    omega
theorem qrg_len {q : TQuery} (h : qok q) : (qrg q).length ≤ 4 := by
  obtain ⟨h1, h2, -⟩ := h
  unfold qrg qranges
  rw [if_pos h1]
  refine Nat.le_trans (union_len _) ?_
  unfold qrs
  split
  · exact h2
  · split
    · simp
    · split <;> simp
theorem walkStarts_ok (l : List Int) (raw : TQuery) (rs : List Rng) : Mlaw28_WalkStarts l raw rs = some true := by
  have key : Tot (Mlaw28_WalkStarts l raw rs) fun b => b = true := by
    unfold Mlaw28_WalkStarts
    rw [wawake_ok]
    refine tot_obnd (R := fun b => b = false → raw.Ranges.length ≤ 80) (tot_sel (fun _ => tot_some (by simp)) fun h => tot_some fun _ => by have := of_decide_eq_false h; omega) fun b hb => tot_sel (fun _ => tot_obnd (tot_some (Q := fun b => b = true) rfl) fun b h => tot_some h) fun h => ?_
    have hraw := hb h
    refine tot_obnd (tot_new l) fun τ hτ => tot_obnd (tot_query hτ) fun y7 h7 => ?_
    obtain ⟨g1, g2⟩ := h7
    have g3 := qrg_len g2
    have g4 := g2.2.1
    have hr : Mref22_Ranges y7.1 = some (qrg y7.1) := if_pos (by omega)
    rw [hr, obnd_some]
    refine tot_obnd (tot_cuts g1 (by omega) (by omega)) fun y9 h9 => ?_
    obtain ⟨k1, k2⟩ := h9
    have k3 : (qrg y7.1).length * (y9.1.length + 1) ≤ 4 * 5 := Nat.mul_le_mul g3 (by omega)
    refine tot_obnd (split_ok (qrg y7.1) y9.1 (by omega) (by omega)) fun y10 h10 => tot_obnd (tot_next k1 (by omega)) fun y11 h11 => ?_
    obtain ⟨m1, m2⟩ := h11
    refine tot_obnd (R := fun z => okT ⟨z.1, z.2.1⟩) ?_ ?_
    · refine tot_sel (fun _ => tot_obnd (tot_range m1) fun y12 h12 => tot_obnd (tot_app (Q := fun _ => True) (by simp; omega) trivial) fun _ _ => tot_some h12) fun _ => ?_
      refine tot_sel (fun _ => ?_) fun _ => ?_
      · rw [tot_i64]
        refine tot_obnd (tot_next m1 (by omega)) fun y14 h14 => ?_
        obtain ⟨n1, n2⟩ := h14
        unfold Cho at n2
        exact tot_obnd (tot_lsl (Q := fun _ => True) (by omega) trivial) fun _ _ => tot_some n1
      refine tot_sel (fun _ => ?_) fun _ => ?_
      · refine tot_sel (fun h1 => ?_) fun _ => tot_some m1
        have h1 : 1 < (y10.length : Int) := of_decide_eq_true h1
        have T : ∀ {x : List Rng} {i : Int}, 0 ≤ i → i < x.length → Tot (lget x i) fun _ => True := fun h0 h1 => tot_lget h0 h1 fun _ => trivial
        refine tot_obnd (T (by omega) (by omega)) fun e16 _ => tot_obnd (T (by omega) (by omega)) fun e17 _ => tot_obnd (T (by omega) (by omega)) fun e18 _ => tot_bnd (tot_bnd (tot_obnd (T (by omega) (by simp; omega)) fun e21 _ => tot_bnd (tot_bnd (tot_some m1))))
      refine tot_sel (fun _ => ?_) fun _ => tot_some m1
      refine tot_obnd (tot_next m1 (by omega)) fun y24 h24 => ?_
      obtain ⟨n1, n2⟩ := h24
      unfold Cho at n2
      exact tot_obnd (wstarts_l1 y24 (by omega) FU y10 (by unfold FU; omega) (by omega)) fun _ _ => tot_some n1
    · rintro ⟨l28, a29, parts⟩ hz
      simp only at hz ⊢
      refine tot_obnd (tot_oddQuery hz) fun y31 h31 => ?_
      have h31' := h31.2
      rw [wstarts_l2 rs parts _ (fun q hq => by
        simp only [List.mem_cons, List.not_mem_nil, or_false] at hq
        rcases hq with rfl | rfl | rfl <;> omega), obnd_some, ocbnd_nxt]
      exact tot_obnd (tot_some (Q := fun b => b = true) rfl) fun b h => tot_some h
  obtain ⟨b, e, h⟩ := key
  rw [e, h]
end Go.Proofs.YtlbnhhfaedhgfaaDoor
