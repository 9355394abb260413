/-
  Lemmas: Plain laws of the models: receipts that are small. / Plain laws of the models: the functions agree about a receipt. / Models and walks: the example of chapter 29. / The example of chapter 29.
-/
import Derived.Test.YtlbnhhfaedhgfaaGreatDoorPR30
import Derived.Test.YtlbnhhfaedhgfaaGreatDoorPR31
import Derived.Test.YtlbnhhfaedhgfaaGreatDoorPR28
import Derived.Test.YtlbnhhfaedhgfaaGreatDoorPR24
namespace Go.Proofs.YtlbnhhfaedhgfaaGreatDoor
set_option linter.unusedSimpArgs false
set_option linter.unusedVariables false
open Go.RowKit
theorem small_eq (l : List TVisit) : Mlaw29_small l = ((l.all fun v => decide (v.View.Rows.length ≤ 40)) && decide (l.length ≤ 20)) := by
  have e : ∀ l : List TVisit, Mlaw29_small_l1 l = sel (l.all fun v => decide (v.View.Rows.length ≤ 40)) (.nxt ()) (.ret false) := by
    intro l
    induction l with
    | nil => rfl
    | cons v l ih =>
      rw [Mlaw29_small_l1.eq_2, ih, List.all_cons]
      by_cases h : v.View.Rows.length ≤ 40
      · rw [decide_eq_false (by omega), sel_false, decide_eq_true h, Bool.true_and]
      · rw [decide_eq_true (by omega), sel_true, decide_eq_false h, Bool.false_and]; rfl
  unfold Mlaw29_small
  rw [e, bnd_eq]
  have h2 : decide ((l.length : Int) ≤ 20) = decide (l.length ≤ 20) := decide_eq_decide.2 (by omega)
  rw [h2]
  cases (l.all fun v => decide (v.View.Rows.length ≤ 40)) <;> rfl
theorem small_ok {l : List TVisit} (h : Mlaw29_small l = true) : okC l ∧ l.length ≤ 20 := by
  rw [small_eq] at h
  simp only [Bool.and_eq_true, decide_eq_true_eq, List.all_eq_true] at h
  exact ⟨⟨by omega, fun v hv => by have := h.1 v hv; omega⟩, h.2⟩
theorem Run.okC {t : List Kv} {q : TQuery} {w : TWalk} (h : Run t q w) : Go.Proofs.YtlbnhhfaedhgfaaGreatDoor.okC w.Visits := ⟨h.ok.vis, h.ok.rows⟩
end Go.Proofs.YtlbnhhfaedhgfaaGreatDoor
namespace Go.Proofs.YtlbnhhfaedhgfaaGreatDoor
set_option linter.unusedSimpArgs false
set_option linter.unusedVariables false
open Go.RowKit
theorem ragree_l1 (r : TReceipt) : ∀ (xs : List TVisit) (m : Nat), Mlaw29_agree_l1 r xs (m : Int) = some (.nxt ())
  | [], _ => rfl
  | v :: xs, m => by
    have ih := ragree_l1 r xs (m + 1)
    rw [Mlaw29_agree_l1.eq_2, show (m : Int) + 1 = ((m + 1 : Nat) : Int) by omega, ih]
    by_cases h : m < r.Second.length
    · rw [decide_eq_true (by omega), sel_true, lget_nat, List.getElem?_eq_getElem h, obnd_some, obnd_some, eq_receipt_Same, eq_ref28_SameVisit, obnd_some, obnd_some, beq_self_eq_true, Bool.not_true, sel_false]
    · rw [decide_eq_false (by omega), sel_false]
theorem ragree_ok (r : TReceipt) (hq : r.Query.Ranges.length < 1000000) (h1 : okC r.First) (h2 : okC r.Second) : Mlaw29_agree r = some true := by
  obtain ⟨a, e1, e2, -⟩ := check_eq r hq h1 h2
  unfold Mlaw29_agree
  have := ragree_l1 r r.First 0
  rw [show ((0 : Nat) : Int) = 0 from rfl] at this
  rw [e1, obnd_some, e2, obnd_some, this, obnd_some, ocbnd_nxt, decide_eq_true rfl, sel_true, sameAnswer_refl, obnd_some, sel_true, eq_receipt_Tiling _ hq h1, eq_ref28_Tiling _ hq h1, eq_receipt_Tiling _ hq h2, eq_ref28_Tiling _ hq h2]
  simp only [obnd_some, decide_true, sel_true]
end Go.Proofs.YtlbnhhfaedhgfaaGreatDoor
namespace Go.Proofs.YtlbnhhfaedhgfaaGreatDoor
set_option linter.unusedSimpArgs false
set_option linter.unusedVariables false
open Go.RowKit
set_option maxRecDepth 100000
set_option maxHeartbeats 4000000
attribute [local irreducible] WK WC WL Wk Rel OpD OpV WD WO sel bnd obnd app lget lsl sget ssl scat letg iquo irem Op.bytesLess
attribute [local irreducible] qchk qranges union
def Mlaw29_bounds (a1 : ByteArray) (b2 : ByteArray) : Rng :=
 (Rng.mk (Bnd.mk a1 false) (Bnd.mk b2 false))
theorem Mlaw29_bounds_sp {a1 : ByteArray} {b2 : ByteArray} {y : Rng} (hm : Mlaw29_bounds a1 b2 = y) : Spec Tryz.prog 117 [vS a1, vS b2] [] fun u h => u = .a [vS y.lo.key, vB y.lo.top, vS y.hi.key, vB y.hi.top] ∧ h = [] := by
 refine Spec.intro Tryz.func117 rfl rfl Tryz.ntmps117 Tryz.results117 rfl fun B w0 ρ0 => ?_
 simp only [slots, List.map_nil, List.map_cons, Nat.reduceAdd]
 unfold Mlaw29_bounds at hm
 have hm0 := hm
 clear hm
 refine sr ?_
 refine sr ?_
 refine sx ?_
 subst hm0
 exact wk_r

def Mlaw29_awake : Option Bool :=
 bnd (Mlaw29_bounds ⟨#[97]⟩ ⟨#[102]⟩) fun y1 =>
 bnd (Mlaw29_bounds ⟨#[97]⟩ ⟨#[102]⟩) fun y2 =>
 bnd (Mlaw29_bounds ⟨#[102]⟩ ⟨#[109]⟩) fun y3 =>
 bnd (Mlaw29_bounds ⟨#[102]⟩ ⟨#[109]⟩) fun y4 =>
 bnd (Mlaw29_bounds ⟨#[97]⟩ ⟨#[109]⟩) fun y5 =>
 obnd (Mreceipt_Check (TReceipt.mk (TQuery.mk 1 ([y5] : List Rng) ⟨#[]⟩ 0) ([(TVisit.mk (TView.mk 1 y1 (TStamp.mk 1 4) ([] : List Kv)) y2), (TVisit.mk (TView.mk 2 y3 (TStamp.mk 2 0) ([] : List Kv)) y4)] : List TVisit) ([(TVisit.mk (TView.mk 1 y1 (TStamp.mk 1 4) ([] : List Kv)) y2), (TVisit.mk (TView.mk 2 y3 (TStamp.mk 2 0) ([] : List Kv)) y4)] : List TVisit))) fun y6 =>
 obnd (Mreceipt_Check (TReceipt.mk (TQuery.mk 1 ([y5] : List Rng) ⟨#[]⟩ 0) ([(TVisit.mk (TView.mk 1 y1 (TStamp.mk 1 4) ([] : List Kv)) y2), (TVisit.mk (TView.mk 2 y3 (TStamp.mk 2 0) ([] : List Kv)) y4)] : List TVisit) ([(TVisit.mk (TView.mk 1 y1 (TStamp.mk 1 4) ([] : List Kv)) y2), (TVisit.mk (TView.mk 2 y3 (TStamp.mk 2 1) ([] : List Kv)) y4)] : List TVisit))) fun y7 =>
 sel (decide (y6.2 = 0)) (
  some (decide (y7.2 = 11))) (
  some false)
theorem Mlaw29_awake_sp {y : Bool} (hm : Mlaw29_awake = some y) : Spec Tryz.prog 49 [] [] fun u h => u = vB y ∧ h = [] := by
 refine Spec.intro Tryz.func49 rfl rfl Tryz.ntmps49 Tryz.results49 rfl fun B w0 ρ0 => ?_
 simp only [slots, List.map_nil, List.map_cons, Nat.reduceAdd]
 unfold Mlaw29_awake at hm
 have hm0 := hm
 clear hm
 refine sr ?_
 refine sr ?_
 obtain ⟨y1, hy, hm0⟩ := bnd_o hm0
 refine wl_cq (Mlaw29_bounds_sp (hm := hy)) ?_
 refine ss ?_
 obtain ⟨y2, hy, hm0⟩ := bnd_o hm0
 refine wl_cq (Mlaw29_bounds_sp (hm := hy)) ?_
 refine sr ?_
 obtain ⟨y3, hy, hm0⟩ := bnd_o hm0
 refine wl_cq (Mlaw29_bounds_sp (hm := hy)) ?_
 refine ss ?_
 obtain ⟨y4, hy, hm0⟩ := bnd_o hm0
 refine wl_cq (Mlaw29_bounds_sp (hm := hy)) ?_
 refine sr ?_
 refine sr ?_
 refine sr ?_
 obtain ⟨y5, hy, hm0⟩ := bnd_o hm0
 refine wl_cq (Mlaw29_bounds_sp (hm := hy)) ?_
 refine ss ?_
 refine wl_bt Rng.ds [y5] rfl rfl (by simp only [flatV, cellsV, List.cons_append, List.nil_append, List.append_nil]; exact rfl) rfl rfl rfl rfl rfl rfl ?_
 refine sr ?_
 refine wl_wkw [(101, 101), (102, 102), (103, 103), (104, 104)] ⟨[(1, .p 101 0), (2, .p 102 0), (3, .p 103 0), (4, .p 104 0), (27, .a [vI 1, .d (lst Rng.ds ([y5] : List Rng)), vS ⟨#[]⟩, vI 0]), (28, .a [vI 1, vS y1.lo.key, vB y1.lo.top, vS y1.hi.key, vB y1.hi.top, vI 1, vI 4, .d (lst Kv.ds ([] : List Kv)), vS y2.lo.key, vB y2.lo.top, vS y2.hi.key, vB y2.hi.top]), (29, .a [vI 2, vS y3.lo.key, vB y3.lo.top, vS y3.hi.key, vB y3.hi.top, vI 2, vI 0, .d (lst Kv.ds ([] : List Kv)), vS y4.lo.key, vB y4.lo.top, vS y4.hi.key, vB y4.hi.top])], [(101, some (.box 62 [vI 1, vS y1.lo.key, vB y1.lo.top, vS y1.hi.key, vB y1.hi.top, vI 1, vI 4, .d (.c (.slice none 0 0)), vS y2.lo.key, vB y2.lo.top, vS y2.hi.key, vB y2.hi.top])), (102, some (.box 62 [vI 2, vS y3.lo.key, vB y3.lo.top, vS y3.hi.key, vB y3.hi.top, vI 2, vI 0, .d (.c (.slice none 0 0)), vS y4.lo.key, vB y4.lo.top, vS y4.hi.key, vB y4.hi.top])), (103, some (.box 62 [vI 2, vS y3.lo.key, vB y3.lo.top, vS y3.hi.key, vB y3.hi.top, vI 2, vI 1, .d (.c (.slice none 0 0)), vS y4.lo.key, vB y4.lo.top, vS y4.hi.key, vB y4.hi.top])), (104, some (.box 27 [vI 1, .d (lst Rng.ds ([y5] : List Rng)), vS ⟨#[]⟩, vI 0]))]⟩ ?_
 refine ss ?_
 refine wl_bt TVisit.ds [(TVisit.mk (TView.mk 1 y1 (TStamp.mk 1 4) ([] : List Kv)) y2), (TVisit.mk (TView.mk 2 y3 (TStamp.mk 2 0) ([] : List Kv)) y4)] rfl rfl (by simp only [flatV, cellsV, List.cons_append, List.nil_append, List.append_nil]; exact rfl) rfl rfl rfl rfl rfl rfl ?_
 refine ss ?_
 refine wl_wkw [(101, 101), (102, 102), (103, 103), (104, 104)] ⟨[(1, .p 101 0), (2, .p 102 0), (3, .p 103 0), (4, .p 104 0), (27, .a [vI 1, .d (lst Rng.ds ([y5] : List Rng)), vS ⟨#[]⟩, vI 0]), (30, .d (lst TVisit.ds ([(TVisit.mk (TView.mk 1 y1 (TStamp.mk 1 4) ([] : List Kv)) y2), (TVisit.mk (TView.mk 2 y3 (TStamp.mk 2 0) ([] : List Kv)) y4)] : List TVisit))), (31, .a [vI 1, vS y1.lo.key, vB y1.lo.top, vS y1.hi.key, vB y1.hi.top, vI 1, vI 4, .d (lst Kv.ds ([] : List Kv)), vS y2.lo.key, vB y2.lo.top, vS y2.hi.key, vB y2.hi.top]), (32, .a [vI 2, vS y3.lo.key, vB y3.lo.top, vS y3.hi.key, vB y3.hi.top, vI 2, vI 0, .d (lst Kv.ds ([] : List Kv)), vS y4.lo.key, vB y4.lo.top, vS y4.hi.key, vB y4.hi.top])], [(101, some (.box 62 [vI 1, vS y1.lo.key, vB y1.lo.top, vS y1.hi.key, vB y1.hi.top, vI 1, vI 4, .d (.c (.slice none 0 0)), vS y2.lo.key, vB y2.lo.top, vS y2.hi.key, vB y2.hi.top])), (102, some (.box 62 [vI 2, vS y3.lo.key, vB y3.lo.top, vS y3.hi.key, vB y3.hi.top, vI 2, vI 0, .d (.c (.slice none 0 0)), vS y4.lo.key, vB y4.lo.top, vS y4.hi.key, vB y4.hi.top])), (103, some (.box 62 [vI 2, vS y3.lo.key, vB y3.lo.top, vS y3.hi.key, vB y3.hi.top, vI 2, vI 1, .d (.c (.slice none 0 0)), vS y4.lo.key, vB y4.lo.top, vS y4.hi.key, vB y4.hi.top])), (104, some (.box 27 [vI 1, .d (lst Rng.ds ([y5] : List Rng)), vS ⟨#[]⟩, vI 0]))]⟩ ?_
 refine ss ?_
 refine wl_bt TVisit.ds [(TVisit.mk (TView.mk 1 y1 (TStamp.mk 1 4) ([] : List Kv)) y2), (TVisit.mk (TView.mk 2 y3 (TStamp.mk 2 0) ([] : List Kv)) y4)] rfl rfl (by simp only [flatV, cellsV, List.cons_append, List.nil_append, List.append_nil]; exact rfl) rfl rfl rfl rfl rfl rfl ?_
 refine ss ?_
 obtain ⟨y6, hy, hm0⟩ := obnd_o hm0
 refine wl_cq (Mreceipt_Check_sp (hm := hy)) ?_
 refine sr ?_
 refine wl_wkw [(101, 101), (103, 103)] ⟨[(1, .p 101 0), (3, .p 103 0), (6, vI y6.2), (39, .a [vI 1, .d (lst Rng.ds ([y5] : List Rng)), vS ⟨#[]⟩, vI 0]), (40, .a [vI 1, vS y1.lo.key, vB y1.lo.top, vS y1.hi.key, vB y1.hi.top, vI 1, vI 4, .d (lst Kv.ds ([] : List Kv)), vS y2.lo.key, vB y2.lo.top, vS y2.hi.key, vB y2.hi.top]), (41, .a [vI 2, vS y3.lo.key, vB y3.lo.top, vS y3.hi.key, vB y3.hi.top, vI 2, vI 0, .d (lst Kv.ds ([] : List Kv)), vS y4.lo.key, vB y4.lo.top, vS y4.hi.key, vB y4.hi.top])], [(101, some (.box 62 [vI 1, vS y1.lo.key, vB y1.lo.top, vS y1.hi.key, vB y1.hi.top, vI 1, vI 4, .d (.c (.slice none 0 0)), vS y2.lo.key, vB y2.lo.top, vS y2.hi.key, vB y2.hi.top])), (103, some (.box 62 [vI 2, vS y3.lo.key, vB y3.lo.top, vS y3.hi.key, vB y3.hi.top, vI 2, vI 1, .d (.c (.slice none 0 0)), vS y4.lo.key, vB y4.lo.top, vS y4.hi.key, vB y4.hi.top]))]⟩ ?_
 refine ss ?_
 refine wl_bt TVisit.ds [(TVisit.mk (TView.mk 1 y1 (TStamp.mk 1 4) ([] : List Kv)) y2), (TVisit.mk (TView.mk 2 y3 (TStamp.mk 2 0) ([] : List Kv)) y4)] rfl rfl (by simp only [flatV, cellsV, List.cons_append, List.nil_append, List.append_nil]; exact rfl) rfl rfl rfl rfl rfl rfl ?_
 refine ss ?_
 refine wl_wkw [] ⟨[(6, vI y6.2), (39, .a [vI 1, .d (lst Rng.ds ([y5] : List Rng)), vS ⟨#[]⟩, vI 0]), (42, .d (lst TVisit.ds ([(TVisit.mk (TView.mk 1 y1 (TStamp.mk 1 4) ([] : List Kv)) y2), (TVisit.mk (TView.mk 2 y3 (TStamp.mk 2 0) ([] : List Kv)) y4)] : List TVisit))), (43, .a [vI 1, vS y1.lo.key, vB y1.lo.top, vS y1.hi.key, vB y1.hi.top, vI 1, vI 4, .d (lst Kv.ds ([] : List Kv)), vS y2.lo.key, vB y2.lo.top, vS y2.hi.key, vB y2.hi.top]), (44, .a [vI 2, vS y3.lo.key, vB y3.lo.top, vS y3.hi.key, vB y3.hi.top, vI 2, vI 1, .d (lst Kv.ds ([] : List Kv)), vS y4.lo.key, vB y4.lo.top, vS y4.hi.key, vB y4.hi.top])], []⟩ ?_
 refine ss ?_
 refine wl_bt TVisit.ds [(TVisit.mk (TView.mk 1 y1 (TStamp.mk 1 4) ([] : List Kv)) y2), (TVisit.mk (TView.mk 2 y3 (TStamp.mk 2 1) ([] : List Kv)) y4)] rfl rfl (by simp only [flatV, cellsV, List.cons_append, List.nil_append, List.append_nil]; exact rfl) rfl rfl rfl rfl rfl rfl ?_
 refine ss ?_
 obtain ⟨y7, hy, hm0⟩ := obnd_o hm0
 refine wl_cq (Mreceipt_Check_sp (hm := hy)) ?_
 refine sr ?_
 refine wl_sg hm0 ?_ ?_ <;> clear hm0 <;> intro hm0
 ·refine sx ?_
  cases hm0
  exact wk_r
 refine sx ?_
 cases hm0
 exact wk_r

end Go.Proofs.YtlbnhhfaedhgfaaGreatDoor
namespace Go.Proofs.YtlbnhhfaedhgfaaGreatDoor
set_option linter.unusedSimpArgs false
set_option linter.unusedVariables false
open Go.RowKit
theorem rawake_ok : Mlaw29_awake = some true := by kernel_rfl
end Go.Proofs.YtlbnhhfaedhgfaaGreatDoor
