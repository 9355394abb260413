/-
  Lemmas: Contracts
-/
import Derived.Test.YtlbnhhfaedhgfaaGreatDoorPB10
import Derived.Test.YtlbnhhfaedhgfaaGreatDoorPB12
import Derived.Test.YtlbnhhfaedhgfaaGreatDoorPB14
import Derived.Test.YtlbnhhfaedhgfaaGreatDoorPB18
import Derived.Test.YtlbnhhfaedhgfaaGreatDoorPB9
set_option linter.unusedSimpArgs false
set_option linter.unusedVariables false
namespace Go.Proofs.YtlbnhhfaedhgfaaGreatDoor
open Go.RowKit
attribute [local irreducible] WK WC WL Wk Rel OpD OpV WD WO Op.bytesLess cmp vk vb vld emp contains
set_option maxHeartbeats 4000000 in
instance qcheck_r (k c : Int) (l : List Rng) (key : ByteArray) : Ct Tryz.prog 97 [vQ k l key c] (l.length < 1000000) (vI (qchk k l key c)) := ⟨fun hl => by
  refine Spec.intro Tryz.func97 rfl rfl Tryz.ntmps97 Tryz.results97 rfl fun B w0 ρ0 => ?_; simp only [slots, List.map_nil, List.map_cons, Nat.reduceAdd]
  (repeat' (first | refine sw ?_ | (refine swt ?_; intro x τ hx) | (refine sp ?_ ?_ <;> (intro h; (first | (have h2 : (_ : Bool) = _ := h; clear h2; subst h) | skip); (try simp only [decide_eq_true_eq, decide_eq_false_iff_not, Bool.not_eq_true', Bool.not_eq_false', Kv.eta, Bnd.eta, Rng.eta, tn_sub1] at h); (first | (have h2 : (_ : Bool) = _ := h; clear h2; subst h) | skip))) | fail))
  all_goals (try ((first | refine wk_pure rfl (by first | exact trivial | exact resT_cell rfl rfl (by exact inferInstance) trivial) rfl (by first | exact Vw.fmp rfl rfl rfl | exact Vw.nil | exact Vw.d _ | (repeat (first | exact Vws.nil | apply Vws.cons | exact Vw.nil | exact Vw.d _ | apply Vw.a | apply Vw.t | exact Vw.fh rfl rfl (vws_dm _) | exact Vw.fh rfl rfl Vws.nil)); done) ?_ | refine wk_pure_n rfl (by first | exact trivial | exact resT_cell rfl rfl (by exact inferInstance) trivial) rfl (by first | exact Vw.fmp rfl rfl rfl | exact Vw.nil | exact Vw.d _ | (repeat (first | exact Vws.nil | apply Vws.cons | exact Vw.nil | exact Vw.d _ | apply Vw.a | apply Vw.t | exact Vw.fh rfl rfl (vws_dm _) | exact Vw.fh rfl rfl Vws.nil)); done) ?_); refine ⟨?_, rfl⟩; (try simp only [Bool.not_eq_true, Bool.not_eq_false, decide_eq_true_eq, decide_eq_false_iff_not] at *); first | (simp_all [qchk]; done) | (simp_all [qchk] <;> omega) | grind [qchk]))
  refine wc_loop (fun κ st => ∃ (m : Nat), κ = l.length - m ∧ (m ≤ l.length ∧ ∀ j (h : j < l.length), j < m → vld l[j] = true) ∧ st = ⟨[(1, .p 101 0), (19, .d (lst Rng.ds l)), (20, vI l.length), (21, vI (m : Int))], [(101, some (.box 27 [vI k, .d (lst Rng.ds l), vS key, vI c]))]⟩) (l.length - (0)) ⟨[(1, .p 101 0), (19, .d (lst Rng.ds l)), (20, vI l.length), (21, vI ((0) : Int))], [(101, some (.box 27 [vI k, .d (lst Rng.ds l), vS key, vI c]))]⟩ (wk [(101, 101)] rfl rfl rfl rfl (by repeat (first | refine VH.cons rfl rfl vb_tpb ?_ | refine VH.cons rfl rfl (Vb.ob _) ?_ | exact VS.nil | exact VH.nil | exact Vws.nil | refine VS.cons rfl ?_ ?_ | refine VH.cons rfl rfl (Vb.box ?_) ?_ | refine VH.cons rfl rfl (Vb.arr ?_) ?_ | exact vws_dm _ | refine Vws.cons ?_ ?_ | exact Vw.d _ | exact Vw.p rfl | exact Vw.h rfl | exact Vw.e rfl | exact Vw.s rfl | exact Vw.q _ | refine Vw.a ?_ | refine Vw.t ?_ | exact Vw.nil | exact Vw.fh rfl rfl (vws_dm _) | exact Vw.fe rfl rfl (vws_dm _) (fe_of (by assumption)) | exact Vw.un _)) (by repeat (first | refine VH.cons rfl rfl vb_tpb ?_ | refine VH.cons rfl rfl (Vb.ob _) ?_ | exact VS.nil | exact VH.nil | exact Vws.nil | refine VS.cons rfl ?_ ?_ | refine VH.cons rfl rfl (Vb.box ?_) ?_ | refine VH.cons rfl rfl (Vb.arr ?_) ?_ | exact vws_dm _ | refine Vws.cons ?_ ?_ | exact Vw.d _ | exact Vw.p rfl | exact Vw.h rfl | exact Vw.e rfl | exact Vw.s rfl | exact Vw.q _ | refine Vw.a ?_ | refine Vw.t ?_ | exact Vw.nil | exact Vw.fh rfl rfl (vws_dm _) | exact Vw.fe rfl rfl (vws_dm _) (fe_of (by assumption)) | exact Vw.un _))) ⟨0, rfl, ?_, rfl⟩ ?_; rotate_left; rintro κ _ ⟨m, rfl, hP, rfl⟩; rotate_left
  · exact ⟨by omega, fun j _ h => by omega⟩
  obtain ⟨hm, hP⟩ := hP
  (repeat' (first | refine sw ?_ | (refine swt ?_; intro x τ hx) | (refine sp ?_ ?_ <;> (intro h; (first | (have h2 : (_ : Bool) = _ := h; clear h2; subst h) | skip); (try simp only [decide_eq_true_eq, decide_eq_false_iff_not, Bool.not_eq_true', Bool.not_eq_false', Kv.eta, Bnd.eta, Rng.eta, tn_sub1] at h); (first | (have h2 : (_ : Bool) = _ := h; clear h2; subst h) | skip))) | fail))
  all_goals (try (have hA := all_of hP (by omega)))
  all_goals (try (have hA := all_not (p := vld) (l := l) (m := m) (by omega) (by simp only [Rng.eta, *]; rfl)))
  all_goals (try ((first | refine wk_pure rfl (by first | exact trivial | exact resT_cell rfl rfl (by exact inferInstance) trivial) rfl (by first | exact Vw.fmp rfl rfl rfl | exact Vw.nil | exact Vw.d _ | (repeat (first | exact Vws.nil | apply Vws.cons | exact Vw.nil | exact Vw.d _ | apply Vw.a | apply Vw.t | exact Vw.fh rfl rfl (vws_dm _) | exact Vw.fh rfl rfl Vws.nil)); done) ?_ | refine wk_pure_n rfl (by first | exact trivial | exact resT_cell rfl rfl (by exact inferInstance) trivial) rfl (by first | exact Vw.fmp rfl rfl rfl | exact Vw.nil | exact Vw.d _ | (repeat (first | exact Vws.nil | apply Vws.cons | exact Vw.nil | exact Vw.d _ | apply Vw.a | apply Vw.t | exact Vw.fh rfl rfl (vws_dm _) | exact Vw.fh rfl rfl Vws.nil)); done) ?_); refine ⟨?_, rfl⟩; (try simp only [Bool.not_eq_true, Bool.not_eq_false, decide_eq_true_eq, decide_eq_false_iff_not] at *); first | (simp_all [qchk]; done) | (simp_all [qchk] <;> omega) | grind [qchk]))
  refine wk_loop_n (l.length - (m + 1)) (st' := ⟨[(1, .p 101 0), (19, .d (lst Rng.ds l)), (20, vI l.length), (21, vI ((m + 1) : Int))], [(101, some (.box 27 [vI k, .d (lst Rng.ds l), vS key, vI c]))]⟩) (wk [(101, 101)] rfl rfl rfl rfl (by repeat (first | refine VH.cons rfl rfl vb_tpb ?_ | refine VH.cons rfl rfl (Vb.ob _) ?_ | exact VS.nil | exact VH.nil | exact Vws.nil | refine VS.cons rfl ?_ ?_ | refine VH.cons rfl rfl (Vb.box ?_) ?_ | refine VH.cons rfl rfl (Vb.arr ?_) ?_ | exact vws_dm _ | refine Vws.cons ?_ ?_ | exact Vw.d _ | exact Vw.p rfl | exact Vw.h rfl | exact Vw.e rfl | exact Vw.s rfl | exact Vw.q _ | refine Vw.a ?_ | refine Vw.t ?_ | exact Vw.nil | exact Vw.fh rfl rfl (vws_dm _) | exact Vw.fe rfl rfl (vws_dm _) (fe_of (by assumption)) | exact Vw.un _)) (by repeat (first | refine VH.cons rfl rfl vb_tpb ?_ | refine VH.cons rfl rfl (Vb.ob _) ?_ | exact VS.nil | exact VH.nil | exact Vws.nil | refine VS.cons rfl ?_ ?_ | refine VH.cons rfl rfl (Vb.box ?_) ?_ | refine VH.cons rfl rfl (Vb.arr ?_) ?_ | exact vws_dm _ | refine Vws.cons ?_ ?_ | exact Vw.d _ | exact Vw.p rfl | exact Vw.h rfl | exact Vw.e rfl | exact Vw.s rfl | exact Vw.q _ | refine Vw.a ?_ | refine Vw.t ?_ | exact Vw.nil | exact Vw.fh rfl rfl (vws_dm _) | exact Vw.fe rfl rfl (vws_dm _) (fe_of (by assumption)) | exact Vw.un _))) ?_ ⟨m + 1, rfl, ?_, rfl⟩
  · omega
  · refine ⟨by omega, fun j h1 h2 => ?_⟩
    by_cases e : j = m
    · subst e; assumption
    · exact hP j h1 (by omega)⟩
end Go.Proofs.YtlbnhhfaedhgfaaGreatDoor
namespace Go.Proofs.YtlbnhhfaedhgfaaGreatDoor
open Go.RowKit
def mks : List (Value × Value) := [(.int .i64 1, .func (.func 176) #[] #[]), (.int .i64 2, .func (.func 177) #[] #[]), (.int .i64 3, .func (.func 179) #[] #[]), (.int .i64 4, .func (.func 180) #[] #[])]
theorem mks_nil (k : Int) : isNilF (mget .nilFunc k mks) = decide (k < 1 ∨ 4 < k) := by
  simp only [mks, mget]
  repeat' split
  all_goals (simp only [isNilF]; symm; first | (rw [decide_eq_false]; omega) | (rw [decide_eq_true]; omega))
theorem mks_fn (k : Int) : isFn (mget .nilFunc k mks) = true := by
  simp only [mks, mget]
  repeat' split
  all_goals rfl
attribute [local irreducible] WK WC WL Wk Rel OpD OpV WD WO Op.bytesLess cmp vk vb vld emp contains
instance makers_ct : Ct Tryz.prog 149 [] True (.d (.m mks)) := ⟨fun _ => by
  refine Spec.intro Tryz.func149 rfl rfl Tryz.ntmps149 Tryz.results149 rfl fun B w0 ρ0 => ?_; simp only [slots, List.map_nil, List.map_cons, Nat.reduceAdd]
  (repeat' (first | refine sw ?_ | (refine swt ?_; intro x τ hx) | (refine sp ?_ ?_ <;> (intro h; (first | (have h2 : (_ : Bool) = _ := h; clear h2; subst h) | skip); (try simp only [decide_eq_true_eq, decide_eq_false_iff_not, Bool.not_eq_true', Bool.not_eq_false', Kv.eta, Bnd.eta, Rng.eta, tn_sub1] at h); (first | (have h2 : (_ : Bool) = _ := h; clear h2; subst h) | skip))) | fail))
  all_goals (first | refine wk_pure rfl (by first | exact trivial | exact resT_cell rfl rfl (by exact inferInstance) trivial) rfl (by first | exact Vw.fmp rfl rfl rfl | exact Vw.nil | exact Vw.d _ | (repeat (first | exact Vws.nil | apply Vws.cons | exact Vw.nil | exact Vw.d _ | apply Vw.a | apply Vw.t | exact Vw.fh rfl rfl (vws_dm _) | exact Vw.fh rfl rfl Vws.nil)); done) ?_ | refine wk_pure_n rfl (by first | exact trivial | exact resT_cell rfl rfl (by exact inferInstance) trivial) rfl (by first | exact Vw.fmp rfl rfl rfl | exact Vw.nil | exact Vw.d _ | (repeat (first | exact Vws.nil | apply Vws.cons | exact Vw.nil | exact Vw.d _ | apply Vw.a | apply Vw.t | exact Vw.fh rfl rfl (vws_dm _) | exact Vw.fh rfl rfl Vws.nil)); done) ?_)
  all_goals exact ⟨rfl, rfl⟩⟩
set_option maxHeartbeats 4000000 in
instance qcheck_p (k c : Int) (l : List Rng) (key : ByteArray) : Ct Tryz.prog 90 [vQ k l key c] (l.length < 1000000) (vI (qchk k l key c)) := ⟨fun hl => by
  have hmk := mks_nil k
  have hfn := mks_fn k
  refine Spec.intro Tryz.func90 rfl rfl Tryz.ntmps90 Tryz.results90 rfl fun B w0 ρ0 => ?_; simp only [slots, List.map_nil, List.map_cons, Nat.reduceAdd]
  (repeat' (first | refine sw ?_ | refine wc_draw (id := 1) [⟨1, 0, [1]⟩, ⟨2, 2, [6]⟩, ⟨0, 0, []⟩, ⟨3, 7, [5, 7]⟩, ⟨4, 15, [8]⟩] mixed (by kernel_rfl) ?_ | (refine swt ?_; intro x τ hx) | (refine sp ?_ ?_ <;> (intro h; (first | (have h2 : (_ : Bool) = _ := h; clear h2; subst h) | skip); (try simp only [decide_eq_true_eq, decide_eq_false_iff_not, Bool.not_eq_true', Bool.not_eq_false', Kv.eta, Bnd.eta, Rng.eta, tn_sub1] at h); (first | (have h2 : (_ : Bool) = _ := h; clear h2; subst h) | skip))) | fail))
  all_goals (try simp only [hmk, decide_eq_true_eq, decide_eq_false_iff_not] at *)
  all_goals (try ((first | refine wk_pure rfl (by first | exact trivial | exact resT_cell rfl rfl (by exact inferInstance) trivial) rfl (by first | exact Vw.fmp rfl rfl rfl | exact Vw.nil | exact Vw.d _ | (repeat (first | exact Vws.nil | apply Vws.cons | exact Vw.nil | exact Vw.d _ | apply Vw.a | apply Vw.t | exact Vw.fh rfl rfl (vws_dm _) | exact Vw.fh rfl rfl Vws.nil)); done) ?_ | refine wk_pure_n rfl (by first | exact trivial | exact resT_cell rfl rfl (by exact inferInstance) trivial) rfl (by first | exact Vw.fmp rfl rfl rfl | exact Vw.nil | exact Vw.d _ | (repeat (first | exact Vws.nil | apply Vws.cons | exact Vw.nil | exact Vw.d _ | apply Vw.a | apply Vw.t | exact Vw.fh rfl rfl (vws_dm _) | exact Vw.fh rfl rfl Vws.nil)); done) ?_); refine ⟨?_, rfl⟩; (try simp only [Bool.not_eq_true, Bool.not_eq_false, decide_eq_true_eq, decide_eq_false_iff_not] at *); first | (simp_all [qchk]; done) | (simp_all [qchk] <;> omega) | grind [qchk]))
  refine wc_loop (fun κ st => ∃ (m : Nat), κ = l.length - m ∧ (m ≤ l.length ∧ ∀ j (h : j < l.length), j < m → vld l[j] = true) ∧ st = ⟨[(1, .p 101 0), (15, .d (lst Rng.ds l)), (16, vI l.length), (17, vI (m : Int))], [(101, some (.box 27 [vI k, .d (lst Rng.ds l), vS key, vI c]))]⟩) (l.length - (0)) ⟨[(1, .p 101 0), (15, .d (lst Rng.ds l)), (16, vI l.length), (17, vI ((0) : Int))], [(101, some (.box 27 [vI k, .d (lst Rng.ds l), vS key, vI c]))]⟩ (wk [(101, 101)] rfl rfl rfl rfl (by repeat (first | refine VH.cons rfl rfl vb_tpb ?_ | refine VH.cons rfl rfl (Vb.ob _) ?_ | exact VS.nil | exact VH.nil | exact Vws.nil | refine VS.cons rfl ?_ ?_ | refine VH.cons rfl rfl (Vb.box ?_) ?_ | refine VH.cons rfl rfl (Vb.arr ?_) ?_ | exact vws_dm _ | refine Vws.cons ?_ ?_ | exact Vw.d _ | exact Vw.p rfl | exact Vw.h rfl | exact Vw.e rfl | exact Vw.s rfl | exact Vw.q _ | refine Vw.a ?_ | refine Vw.t ?_ | exact Vw.nil | exact Vw.fh rfl rfl (vws_dm _) | exact Vw.fe rfl rfl (vws_dm _) (fe_of (by assumption)) | exact Vw.un _)) (by repeat (first | refine VH.cons rfl rfl vb_tpb ?_ | refine VH.cons rfl rfl (Vb.ob _) ?_ | exact VS.nil | exact VH.nil | exact Vws.nil | refine VS.cons rfl ?_ ?_ | refine VH.cons rfl rfl (Vb.box ?_) ?_ | refine VH.cons rfl rfl (Vb.arr ?_) ?_ | exact vws_dm _ | refine Vws.cons ?_ ?_ | exact Vw.d _ | exact Vw.p rfl | exact Vw.h rfl | exact Vw.e rfl | exact Vw.s rfl | exact Vw.q _ | refine Vw.a ?_ | refine Vw.t ?_ | exact Vw.nil | exact Vw.fh rfl rfl (vws_dm _) | exact Vw.fe rfl rfl (vws_dm _) (fe_of (by assumption)) | exact Vw.un _))) ⟨0, rfl, ?_, rfl⟩ ?_; rotate_left; rintro κ _ ⟨m, rfl, hP, rfl⟩; rotate_left
  · exact ⟨by omega, fun j _ h => by omega⟩
  obtain ⟨hm, hP⟩ := hP
  (repeat' (first | refine sw ?_ | refine wc_draw (id := 1) [⟨1, 0, [1]⟩, ⟨2, 2, [6]⟩, ⟨0, 0, []⟩, ⟨3, 7, [5, 7]⟩, ⟨4, 15, [8]⟩] mixed (by kernel_rfl) ?_ | (refine swt ?_; intro x τ hx) | (refine sp ?_ ?_ <;> (intro h; (first | (have h2 : (_ : Bool) = _ := h; clear h2; subst h) | skip); (try simp only [decide_eq_true_eq, decide_eq_false_iff_not, Bool.not_eq_true', Bool.not_eq_false', Kv.eta, Bnd.eta, Rng.eta, tn_sub1] at h); (first | (have h2 : (_ : Bool) = _ := h; clear h2; subst h) | skip))) | fail))
  all_goals (try (have hA := all_of hP (by omega)))
  all_goals (try (have hA := all_not (p := vld) (l := l) (m := m) (by omega) (by simp only [Rng.eta, *]; rfl)))
  all_goals (try ((first | refine wk_pure rfl (by first | exact trivial | exact resT_cell rfl rfl (by exact inferInstance) trivial) rfl (by first | exact Vw.fmp rfl rfl rfl | exact Vw.nil | exact Vw.d _ | (repeat (first | exact Vws.nil | apply Vws.cons | exact Vw.nil | exact Vw.d _ | apply Vw.a | apply Vw.t | exact Vw.fh rfl rfl (vws_dm _) | exact Vw.fh rfl rfl Vws.nil)); done) ?_ | refine wk_pure_n rfl (by first | exact trivial | exact resT_cell rfl rfl (by exact inferInstance) trivial) rfl (by first | exact Vw.fmp rfl rfl rfl | exact Vw.nil | exact Vw.d _ | (repeat (first | exact Vws.nil | apply Vws.cons | exact Vw.nil | exact Vw.d _ | apply Vw.a | apply Vw.t | exact Vw.fh rfl rfl (vws_dm _) | exact Vw.fh rfl rfl Vws.nil)); done) ?_); refine ⟨?_, rfl⟩; (try simp only [Bool.not_eq_true, Bool.not_eq_false, decide_eq_true_eq, decide_eq_false_iff_not] at *); first | (simp_all [qchk]; done) | (simp_all [qchk] <;> omega) | grind [qchk]))
  refine wk_loop_n (l.length - (m + 1)) (st' := ⟨[(1, .p 101 0), (15, .d (lst Rng.ds l)), (16, vI l.length), (17, vI ((m + 1) : Int))], [(101, some (.box 27 [vI k, .d (lst Rng.ds l), vS key, vI c]))]⟩) (wk [(101, 101)] rfl rfl rfl rfl (by repeat (first | refine VH.cons rfl rfl vb_tpb ?_ | refine VH.cons rfl rfl (Vb.ob _) ?_ | exact VS.nil | exact VH.nil | exact Vws.nil | refine VS.cons rfl ?_ ?_ | refine VH.cons rfl rfl (Vb.box ?_) ?_ | refine VH.cons rfl rfl (Vb.arr ?_) ?_ | exact vws_dm _ | refine Vws.cons ?_ ?_ | exact Vw.d _ | exact Vw.p rfl | exact Vw.h rfl | exact Vw.e rfl | exact Vw.s rfl | exact Vw.q _ | refine Vw.a ?_ | refine Vw.t ?_ | exact Vw.nil | exact Vw.fh rfl rfl (vws_dm _) | exact Vw.fe rfl rfl (vws_dm _) (fe_of (by assumption)) | exact Vw.un _)) (by repeat (first | refine VH.cons rfl rfl vb_tpb ?_ | refine VH.cons rfl rfl (Vb.ob _) ?_ | exact VS.nil | exact VH.nil | exact Vws.nil | refine VS.cons rfl ?_ ?_ | refine VH.cons rfl rfl (Vb.box ?_) ?_ | refine VH.cons rfl rfl (Vb.arr ?_) ?_ | exact vws_dm _ | refine Vws.cons ?_ ?_ | exact Vw.d _ | exact Vw.p rfl | exact Vw.h rfl | exact Vw.e rfl | exact Vw.s rfl | exact Vw.q _ | refine Vw.a ?_ | refine Vw.t ?_ | exact Vw.nil | exact Vw.fh rfl rfl (vws_dm _) | exact Vw.fe rfl rfl (vws_dm _) (fe_of (by assumption)) | exact Vw.un _))) ?_ ⟨m + 1, rfl, ?_, rfl⟩
  · omega
  · refine ⟨by omega, fun j h1 h2 => ?_⟩
    by_cases e : j = m
    · subst e; assumption
    · exact hP j h1 (by omega)⟩
end Go.Proofs.YtlbnhhfaedhgfaaGreatDoor
namespace Go.Proofs.YtlbnhhfaedhgfaaGreatDoor
open Go.RowKit
def qrs (k : Int) (l : List Rng) (key : ByteArray) : List Rng := if k = 1 then l else if k = 2 then [pfx key] else if k = 3 then [⟨⟨key, false⟩, ⟨⟨#[]⟩, true⟩⟩] else [⟨⟨⟨#[]⟩, false⟩, ⟨key, false⟩⟩]
def qranges (k : Int) (l : List Rng) (key : ByteArray) (c : Int) : List Rng := if qchk k l key c = 0 then union (qrs k l key) else []
theorem qchk_0 {k c : Int} {l : List Rng} {key : ByteArray} (h : qchk k l key c = 0) : (k = 1 ∨ k = 2 ∨ k = 3 ∨ k = 4) ∧ (k ≠ 1 → l = []) ∧ l.length ≤ 64 := by
  unfold qchk at h
  by_cases a1 : k < 1 ∨ 4 < k
  · simp [a1] at h
  by_cases a2 : 64 < l.length
  · simp [a1, a2] at h
  by_cases a3 : l.all vld = false
  · rw [if_neg a1, if_neg a2, if_pos a3] at h; omega
  by_cases a4 : vk key = false ∨ (0 < l.length ∧ k ≠ 1) ∨ (key ≠ ⟨#[]⟩ ∧ k = 1)
  · rw [if_neg a1, if_neg a2, if_neg a3, if_pos a4] at h; omega
  exact ⟨by omega, fun h1 => List.eq_nil_of_length_eq_zero (Nat.eq_zero_of_not_pos fun h2 => a4 (.inr (.inl ⟨h2, h1⟩))), by omega⟩
theorem mrg_len : ∀ (l : List Rng) (c : Rng), (mrg c l).length ≤ l.length + 1
  | [], c => by simp [mrg]
  | r :: l, c => by
    unfold mrg
    split
    · have := mrg_len l ⟨c.lo, greater c.hi r.hi⟩
      simp; omega
    · have := mrg_len l r
      simp; omega
theorem union_len (l : List Rng) : (union l).length ≤ l.length := by
  unfold union
  have h1 : ((l.filter ne).mergeSort leLo).length ≤ l.length := by rw [List.length_mergeSort]; exact List.length_filter_le _ _
  cases h : (l.filter ne).mergeSort leLo with
  | nil => simp [mrgAll]
  | cons r l' =>
    rw [h] at h1
    have := mrg_len l' r
    simp only [mrgAll, List.length_cons] at h1 ⊢
    omega
def qslices (t : List Kv) (rs : List Rng) : List Kv := rs.flatMap fun r => t.filter fun x => contains r x.key
theorem qranges_le (k : Int) (l : List Rng) (key : ByteArray) (c : Int) : (qranges k l key c).length ≤ 64 := by
  unfold qranges
  split
  · rename_i h
    have hq := qchk_0 h
    refine Nat.le_trans (union_len _) ?_
    unfold qrs
    split
    · exact hq.2.2
    split
    · simp
    split <;> simp
  · simp
end Go.Proofs.YtlbnhhfaedhgfaaGreatDoor
namespace Go.Proofs.YtlbnhhfaedhgfaaGreatDoor
open Go.RowKit
attribute [local irreducible] WK WC WL Wk Rel OpD OpV WD WO Op.bytesLess cmp vk vb vld emp contains
attribute [local irreducible] union pfx
instance maker1_p (k c : Int) (l : List Rng) (key : ByteArray) : Ct Tryz.prog 176 [vQ k l key c] True (.d (lst Rng.ds l)) := ⟨fun _ => by
  refine Spec.intro Tryz.func176 rfl rfl Tryz.ntmps176 Tryz.results176 rfl fun B w0 ρ0 => ?_; simp only [slots, List.map_nil, List.map_cons, Nat.reduceAdd]
  (repeat' (first | refine sw ?_ | (refine swt ?_; intro x τ hx) | (refine sp ?_ ?_ <;> (intro h; (first | (have h2 : (_ : Bool) = _ := h; clear h2; subst h) | skip); (try simp only [decide_eq_true_eq, decide_eq_false_iff_not, Bool.not_eq_true', Bool.not_eq_false', Kv.eta, Bnd.eta, Rng.eta, tn_sub1] at h); (first | (have h2 : (_ : Bool) = _ := h; clear h2; subst h) | skip))) | fail))
  all_goals (first | refine wk_pure rfl (by first | exact trivial | exact resT_cell rfl rfl (by exact inferInstance) trivial) rfl (by first | exact Vw.fmp rfl rfl rfl | exact Vw.nil | exact Vw.d _ | (repeat (first | exact Vws.nil | apply Vws.cons | exact Vw.nil | exact Vw.d _ | apply Vw.a | apply Vw.t | exact Vw.fh rfl rfl (vws_dm _) | exact Vw.fh rfl rfl Vws.nil)); done) ?_ | refine wk_pure_n rfl (by first | exact trivial | exact resT_cell rfl rfl (by exact inferInstance) trivial) rfl (by first | exact Vw.fmp rfl rfl rfl | exact Vw.nil | exact Vw.d _ | (repeat (first | exact Vws.nil | apply Vws.cons | exact Vw.nil | exact Vw.d _ | apply Vw.a | apply Vw.t | exact Vw.fh rfl rfl (vws_dm _) | exact Vw.fh rfl rfl Vws.nil)); done) ?_)
  all_goals exact ⟨rfl, rfl⟩⟩
instance maker2_p (k c : Int) (l : List Rng) (key : ByteArray) : Ct Tryz.prog 177 [vQ k l key c] True (.d (lst Rng.ds [pfx key])) := ⟨fun _ => by
  refine Spec.intro Tryz.func177 rfl rfl Tryz.ntmps177 Tryz.results177 rfl fun B w0 ρ0 => ?_; simp only [slots, List.map_nil, List.map_cons, Nat.reduceAdd]
  (repeat' (first | refine wl_bt Rng.ds [pfx key] rfl rfl (by simp only [flatV, cellsV, List.cons_append, List.nil_append, List.append_nil]; exact rfl) rfl rfl rfl rfl rfl rfl ?_ | refine wd_bt Rng.ds [pfx key] rfl rfl (by simp only [flatV, cellsV, List.cons_append, List.nil_append, List.append_nil]; exact rfl) rfl rfl rfl rfl (by first | exact .no rfl | exact .y rfl rfl rfl rfl) rfl rfl ?_ | refine sw ?_ | (refine swt ?_; intro x τ hx) | (refine sp ?_ ?_ <;> (intro h; (first | (have h2 : (_ : Bool) = _ := h; clear h2; subst h) | skip); (try simp only [decide_eq_true_eq, decide_eq_false_iff_not, Bool.not_eq_true', Bool.not_eq_false', Kv.eta, Bnd.eta, Rng.eta, tn_sub1] at h); (first | (have h2 : (_ : Bool) = _ := h; clear h2; subst h) | skip))) | fail))
  all_goals (first | refine wk_pure rfl (by first | exact trivial | exact resT_cell rfl rfl (by exact inferInstance) trivial) rfl (by first | exact Vw.fmp rfl rfl rfl | exact Vw.nil | exact Vw.d _ | (repeat (first | exact Vws.nil | apply Vws.cons | exact Vw.nil | exact Vw.d _ | apply Vw.a | apply Vw.t | exact Vw.fh rfl rfl (vws_dm _) | exact Vw.fh rfl rfl Vws.nil)); done) ?_ | refine wk_pure_n rfl (by first | exact trivial | exact resT_cell rfl rfl (by exact inferInstance) trivial) rfl (by first | exact Vw.fmp rfl rfl rfl | exact Vw.nil | exact Vw.d _ | (repeat (first | exact Vws.nil | apply Vws.cons | exact Vw.nil | exact Vw.d _ | apply Vw.a | apply Vw.t | exact Vw.fh rfl rfl (vws_dm _) | exact Vw.fh rfl rfl Vws.nil)); done) ?_)
  all_goals exact ⟨rfl, rfl⟩⟩
instance maker3_p (k c : Int) (l : List Rng) (key : ByteArray) : Ct Tryz.prog 179 [vQ k l key c] True (.d (lst Rng.ds [⟨⟨key, false⟩, ⟨⟨#[]⟩, true⟩⟩])) := ⟨fun _ => by
  refine Spec.intro Tryz.func179 rfl rfl Tryz.ntmps179 Tryz.results179 rfl fun B w0 ρ0 => ?_; simp only [slots, List.map_nil, List.map_cons, Nat.reduceAdd]
  (repeat' (first | refine wl_bt Rng.ds [⟨⟨key, false⟩, ⟨⟨#[]⟩, true⟩⟩] rfl rfl (by simp only [flatV, cellsV, List.cons_append, List.nil_append, List.append_nil]; exact rfl) rfl rfl rfl rfl rfl rfl ?_ | refine wd_bt Rng.ds [⟨⟨key, false⟩, ⟨⟨#[]⟩, true⟩⟩] rfl rfl (by simp only [flatV, cellsV, List.cons_append, List.nil_append, List.append_nil]; exact rfl) rfl rfl rfl rfl (by first | exact .no rfl | exact .y rfl rfl rfl rfl) rfl rfl ?_ | refine sw ?_ | (refine swt ?_; intro x τ hx) | (refine sp ?_ ?_ <;> (intro h; (first | (have h2 : (_ : Bool) = _ := h; clear h2; subst h) | skip); (try simp only [decide_eq_true_eq, decide_eq_false_iff_not, Bool.not_eq_true', Bool.not_eq_false', Kv.eta, Bnd.eta, Rng.eta, tn_sub1] at h); (first | (have h2 : (_ : Bool) = _ := h; clear h2; subst h) | skip))) | fail))
  all_goals (first | refine wk_pure rfl (by first | exact trivial | exact resT_cell rfl rfl (by exact inferInstance) trivial) rfl (by first | exact Vw.fmp rfl rfl rfl | exact Vw.nil | exact Vw.d _ | (repeat (first | exact Vws.nil | apply Vws.cons | exact Vw.nil | exact Vw.d _ | apply Vw.a | apply Vw.t | exact Vw.fh rfl rfl (vws_dm _) | exact Vw.fh rfl rfl Vws.nil)); done) ?_ | refine wk_pure_n rfl (by first | exact trivial | exact resT_cell rfl rfl (by exact inferInstance) trivial) rfl (by first | exact Vw.fmp rfl rfl rfl | exact Vw.nil | exact Vw.d _ | (repeat (first | exact Vws.nil | apply Vws.cons | exact Vw.nil | exact Vw.d _ | apply Vw.a | apply Vw.t | exact Vw.fh rfl rfl (vws_dm _) | exact Vw.fh rfl rfl Vws.nil)); done) ?_)
  all_goals exact ⟨rfl, rfl⟩⟩
instance maker4_p (k c : Int) (l : List Rng) (key : ByteArray) : Ct Tryz.prog 180 [vQ k l key c] True (.d (lst Rng.ds [⟨⟨⟨#[]⟩, false⟩, ⟨key, false⟩⟩])) := ⟨fun _ => by
  refine Spec.intro Tryz.func180 rfl rfl Tryz.ntmps180 Tryz.results180 rfl fun B w0 ρ0 => ?_; simp only [slots, List.map_nil, List.map_cons, Nat.reduceAdd]
  (repeat' (first | refine wl_bt Rng.ds [⟨⟨⟨#[]⟩, false⟩, ⟨key, false⟩⟩] rfl rfl (by simp only [flatV, cellsV, List.cons_append, List.nil_append, List.append_nil]; exact rfl) rfl rfl rfl rfl rfl rfl ?_ | refine wd_bt Rng.ds [⟨⟨⟨#[]⟩, false⟩, ⟨key, false⟩⟩] rfl rfl (by simp only [flatV, cellsV, List.cons_append, List.nil_append, List.append_nil]; exact rfl) rfl rfl rfl rfl (by first | exact .no rfl | exact .y rfl rfl rfl rfl) rfl rfl ?_ | refine sw ?_ | (refine swt ?_; intro x τ hx) | (refine sp ?_ ?_ <;> (intro h; (first | (have h2 : (_ : Bool) = _ := h; clear h2; subst h) | skip); (try simp only [decide_eq_true_eq, decide_eq_false_iff_not, Bool.not_eq_true', Bool.not_eq_false', Kv.eta, Bnd.eta, Rng.eta, tn_sub1] at h); (first | (have h2 : (_ : Bool) = _ := h; clear h2; subst h) | skip))) | fail))
  all_goals (first | refine wk_pure rfl (by first | exact trivial | exact resT_cell rfl rfl (by exact inferInstance) trivial) rfl (by first | exact Vw.fmp rfl rfl rfl | exact Vw.nil | exact Vw.d _ | (repeat (first | exact Vws.nil | apply Vws.cons | exact Vw.nil | exact Vw.d _ | apply Vw.a | apply Vw.t | exact Vw.fh rfl rfl (vws_dm _) | exact Vw.fh rfl rfl Vws.nil)); done) ?_ | refine wk_pure_n rfl (by first | exact trivial | exact resT_cell rfl rfl (by exact inferInstance) trivial) rfl (by first | exact Vw.fmp rfl rfl rfl | exact Vw.nil | exact Vw.d _ | (repeat (first | exact Vws.nil | apply Vws.cons | exact Vw.nil | exact Vw.d _ | apply Vw.a | apply Vw.t | exact Vw.fh rfl rfl (vws_dm _) | exact Vw.fh rfl rfl Vws.nil)); done) ?_)
  all_goals exact ⟨rfl, rfl⟩⟩
instance qranges_r (k c : Int) (l : List Rng) (key : ByteArray) : Ct Tryz.prog 30 [vQ k l key c] (l.length < 1000000) (.d (lst Rng.ds (qranges k l key c))) := ⟨fun hl => by
  refine Spec.intro Tryz.func30 rfl rfl Tryz.ntmps30 Tryz.results30 rfl fun B w0 ρ0 => ?_; simp only [slots, List.map_nil, List.map_cons, Nat.reduceAdd]
  (repeat' (first | refine wl_bt Rng.ds [pfx key] rfl rfl (by simp only [flatV, cellsV, List.cons_append, List.nil_append, List.append_nil]; exact rfl) rfl rfl rfl rfl rfl rfl ?_ | refine wd_bt Rng.ds [pfx key] rfl rfl (by simp only [flatV, cellsV, List.cons_append, List.nil_append, List.append_nil]; exact rfl) rfl rfl rfl rfl (by first | exact .no rfl | exact .y rfl rfl rfl rfl) rfl rfl ?_ | refine wl_bt Rng.ds [⟨⟨key, false⟩, ⟨⟨#[]⟩, true⟩⟩] rfl rfl (by simp only [flatV, cellsV, List.cons_append, List.nil_append, List.append_nil]; exact rfl) rfl rfl rfl rfl rfl rfl ?_ | refine wd_bt Rng.ds [⟨⟨key, false⟩, ⟨⟨#[]⟩, true⟩⟩] rfl rfl (by simp only [flatV, cellsV, List.cons_append, List.nil_append, List.append_nil]; exact rfl) rfl rfl rfl rfl (by first | exact .no rfl | exact .y rfl rfl rfl rfl) rfl rfl ?_ | refine wl_bt Rng.ds [⟨⟨⟨#[]⟩, false⟩, ⟨key, false⟩⟩] rfl rfl (by simp only [flatV, cellsV, List.cons_append, List.nil_append, List.append_nil]; exact rfl) rfl rfl rfl rfl rfl rfl ?_ | refine wd_bt Rng.ds [⟨⟨⟨#[]⟩, false⟩, ⟨key, false⟩⟩] rfl rfl (by simp only [flatV, cellsV, List.cons_append, List.nil_append, List.append_nil]; exact rfl) rfl rfl rfl rfl (by first | exact .no rfl | exact .y rfl rfl rfl rfl) rfl rfl ?_ | refine sw ?_ | (refine swt ?_; intro x τ hx) | (refine sp ?_ ?_ <;> (intro h; (first | (have h2 : (_ : Bool) = _ := h; clear h2; subst h) | skip); (try simp only [decide_eq_true_eq, decide_eq_false_iff_not, Bool.not_eq_true', Bool.not_eq_false', Kv.eta, Bnd.eta, Rng.eta, tn_sub1] at h); (first | (have h2 : (_ : Bool) = _ := h; clear h2; subst h) | skip))) | fail))
  all_goals (first | refine wk_pure rfl (by first | exact trivial | exact resT_cell rfl rfl (by exact inferInstance) trivial) rfl (by first | exact Vw.fmp rfl rfl rfl | exact Vw.nil | exact Vw.d _ | (repeat (first | exact Vws.nil | apply Vws.cons | exact Vw.nil | exact Vw.d _ | apply Vw.a | apply Vw.t | exact Vw.fh rfl rfl (vws_dm _) | exact Vw.fh rfl rfl Vws.nil)); done) ?_ | refine wk_pure_n rfl (by first | exact trivial | exact resT_cell rfl rfl (by exact inferInstance) trivial) rfl (by first | exact Vw.fmp rfl rfl rfl | exact Vw.nil | exact Vw.d _ | (repeat (first | exact Vws.nil | apply Vws.cons | exact Vw.nil | exact Vw.d _ | apply Vw.a | apply Vw.t | exact Vw.fh rfl rfl (vws_dm _) | exact Vw.fh rfl rfl Vws.nil)); done) ?_)
  all_goals (refine ⟨?_, rfl⟩)
  all_goals first
    | (rw [qranges, if_neg h]; rfl)
    | (have hq := qchk_0 (by assumption)
       rw [qranges, if_pos (by assumption), qrs]
       first | rw [if_pos (by omega)] | rw [if_neg (by omega), if_pos (by omega)] | rw [if_neg (by omega), if_neg (by omega), if_pos (by omega)] | rw [if_neg (by omega), if_neg (by omega), if_neg (by omega)])⟩
instance qranges_p (k c : Int) (l : List Rng) (key : ByteArray) : Ct Tryz.prog 91 [vQ k l key c] (l.length < 1000000) (.d (lst Rng.ds (qranges k l key c))) := ⟨fun hl => by
  refine Spec.intro Tryz.func91 rfl rfl Tryz.ntmps91 Tryz.results91 rfl fun B w0 ρ0 => ?_; simp only [slots, List.map_nil, List.map_cons, Nat.reduceAdd]
  (repeat' (first | refine sw ?_ | refine wc_draw (id := 3) [⟨1, 0, [1]⟩, ⟨2, 2, [7]⟩, ⟨4, 0, [1]⟩, ⟨0, 0, []⟩, ⟨3, 7, [6, 8]⟩, ⟨5, 31, [9, 10]⟩, ⟨6, 63, [11]⟩, ⟨7, 127, [12]⟩] mixed (by kernel_rfl) ?_ | (refine swt ?_; intro x τ hx) | (refine sp ?_ ?_ <;> (intro h; (first | (have h2 : (_ : Bool) = _ := h; clear h2; subst h) | skip); (try simp only [decide_eq_true_eq, decide_eq_false_iff_not, Bool.not_eq_true', Bool.not_eq_false', Kv.eta, Bnd.eta, Rng.eta, tn_sub1] at h); (first | (have h2 : (_ : Bool) = _ := h; clear h2; subst h) | skip))) | fail))
  · (first | refine wk_pure rfl (by first | exact trivial | exact resT_cell rfl rfl (by exact inferInstance) trivial) rfl (by first | exact Vw.fmp rfl rfl rfl | exact Vw.nil | exact Vw.d _ | (repeat (first | exact Vws.nil | apply Vws.cons | exact Vw.nil | exact Vw.d _ | apply Vw.a | apply Vw.t | exact Vw.fh rfl rfl (vws_dm _) | exact Vw.fh rfl rfl Vws.nil)); done) ?_ | refine wk_pure_n rfl (by first | exact trivial | exact resT_cell rfl rfl (by exact inferInstance) trivial) rfl (by first | exact Vw.fmp rfl rfl rfl | exact Vw.nil | exact Vw.d _ | (repeat (first | exact Vws.nil | apply Vws.cons | exact Vw.nil | exact Vw.d _ | apply Vw.a | apply Vw.t | exact Vw.fh rfl rfl (vws_dm _) | exact Vw.fh rfl rfl Vws.nil)); done) ?_)
    refine ⟨?_, rfl⟩
    rw [qranges, if_neg h]; rfl
  have hq := qchk_0 h
  rcases hq.1 with rfl | rfl | rfl | rfl
  all_goals (repeat' (first | refine sw ?_ | refine wc_draw (id := 3) [⟨1, 0, [1]⟩, ⟨2, 2, [7]⟩, ⟨4, 0, [1]⟩, ⟨0, 0, []⟩, ⟨3, 7, [6, 8]⟩, ⟨5, 31, [9, 10]⟩, ⟨6, 63, [11]⟩, ⟨7, 127, [12]⟩] mixed (by kernel_rfl) ?_ | (refine swt ?_; intro x τ hx) | (refine sp ?_ ?_ <;> (intro h; (first | (have h2 : (_ : Bool) = _ := h; clear h2; subst h) | skip); (try simp only [decide_eq_true_eq, decide_eq_false_iff_not, Bool.not_eq_true', Bool.not_eq_false', Kv.eta, Bnd.eta, Rng.eta, tn_sub1] at h); (first | (have h2 : (_ : Bool) = _ := h; clear h2; subst h) | skip))) | fail))
  all_goals (first | refine wk_pure rfl (by first | exact trivial | exact resT_cell rfl rfl (by exact inferInstance) trivial) rfl (by first | exact Vw.fmp rfl rfl rfl | exact Vw.nil | exact Vw.d _ | (repeat (first | exact Vws.nil | apply Vws.cons | exact Vw.nil | exact Vw.d _ | apply Vw.a | apply Vw.t | exact Vw.fh rfl rfl (vws_dm _) | exact Vw.fh rfl rfl Vws.nil)); done) ?_ | refine wk_pure_n rfl (by first | exact trivial | exact resT_cell rfl rfl (by exact inferInstance) trivial) rfl (by first | exact Vw.fmp rfl rfl rfl | exact Vw.nil | exact Vw.d _ | (repeat (first | exact Vws.nil | apply Vws.cons | exact Vw.nil | exact Vw.d _ | apply Vw.a | apply Vw.t | exact Vw.fh rfl rfl (vws_dm _) | exact Vw.fh rfl rfl Vws.nil)); done) ?_)
  all_goals (refine ⟨?_, rfl⟩; rw [qranges, if_pos h, qrs]; first | rw [if_pos (by omega)] | rw [if_neg (by omega), if_pos (by omega)] | rw [if_neg (by omega), if_neg (by omega), if_pos (by omega)] | rw [if_neg (by omega), if_neg (by omega), if_neg (by omega)])⟩
end Go.Proofs.YtlbnhhfaedhgfaaGreatDoor
namespace Go.Proofs.YtlbnhhfaedhgfaaGreatDoor
open Go.RowKit
def Mquery_Check (q : TQuery) : Option Int := if q.Ranges.length < 1000000 then some (qchk q.Kind q.Ranges q.Key q.Count) else none
theorem Mquery_Check_sp {q : TQuery} {y : Int} (hm : Mquery_Check q = some y) : Spec Tryz.prog 90 [vQ q.Kind q.Ranges q.Key q.Count] [] fun u h => u = vI y ∧ h = [] := by
  unfold Mquery_Check at hm
  split at hm
  · obtain rfl := Option.some.inj hm
    exact (qcheck_p _ _ _ _).out (by assumption)
  · cases hm
def Mquery_Ranges (q : TQuery) : Option (List Rng) := if q.Ranges.length < 1000000 then some (qranges q.Kind q.Ranges q.Key q.Count) else none
theorem Mquery_Ranges_sp {q : TQuery} {y : List Rng} (hm : Mquery_Ranges q = some y) : Spec Tryz.prog 91 [vQ q.Kind q.Ranges q.Key q.Count] [] fun u h => u = .d (lst Rng.ds y) ∧ h = [] := by
  unfold Mquery_Ranges at hm
  split at hm
  · obtain rfl := Option.some.inj hm
    exact (inferInstance : Ct Tryz.prog 91 [vQ q.Kind q.Ranges q.Key q.Count] _ _).out (by assumption)
  · cases hm
def Mref22_Ranges (q : TQuery) : Option (List Rng) := if q.Ranges.length < 1000000 then some (qranges q.Kind q.Ranges q.Key q.Count) else none
theorem Mref22_Ranges_sp {q : TQuery} {y : List Rng} (hm : Mref22_Ranges q = some y) : Spec Tryz.prog 30 [vQ q.Kind q.Ranges q.Key q.Count] [] fun u h => u = .d (lst Rng.ds y) ∧ h = [] := by
  unfold Mref22_Ranges at hm
  split at hm
  · obtain rfl := Option.some.inj hm
    exact (inferInstance : Ct Tryz.prog 30 [vQ q.Kind q.Ranges q.Key q.Count] _ _).out (by assumption)
  · cases hm
set_option maxRecDepth 100000
set_option maxHeartbeats 4000000
attribute [local irreducible] WK WC WL Wk Rel OpD OpV WD WO sel bnd obnd app lget lsl sget ssl scat letg iquo irem Op.bytesLess
attribute [local irreducible] qchk qranges union
end Go.Proofs.YtlbnhhfaedhgfaaGreatDoor
namespace Go.Proofs.YtlbnhhfaedhgfaaGreatDoor
open Go.RowKit
theorem i64w_id {a : Int} (h1 : -9223372036854775808 ≤ a) (h2 : a ≤ 9223372036854775807) : i64w a = a := w64 h1 h2
theorem i64w_rng (a : Int) : -9223372036854775808 ≤ i64w a ∧ i64w a ≤ 9223372036854775807 := by
  constructor
  · simp [i64w, IntKind.wrap, IntKind.bits, IntKind.signed]; split <;> omega
  · simp [i64w, IntKind.wrap, IntKind.bits, IntKind.signed]; split <;> omega
theorem i64w_i64w (a : Int) : i64w (i64w a) = i64w a := i64w_id (i64w_rng a).1 (i64w_rng a).2
theorem sel_true {α : Type} (x y : α) : sel true x y = x := rfl
theorem sel_false {α : Type} (x y : α) : sel false x y = y := rfl
theorem sel_and (a b : Bool) : sel a b false = (a && b) := by cases a <;> rfl
theorem sel_or (a b : Bool) : sel a true b = (a || b) := by cases a <;> rfl
theorem eq_keyspace_ValidKey (k : ByteArray) : Mkeyspace_ValidKey k = vk k := by simp [Mkeyspace_ValidKey, vk]; omega
theorem eq_keyspace_ValidBound (b : Bnd) : Mkeyspace_ValidBound b = vb b := by
  simp only [Mkeyspace_ValidBound, bnd_eq, eq_keyspace_ValidKey, vb, sel_and, sel_or]
  congr 2
  rcases b with ⟨⟨⟨l⟩⟩, t⟩
  cases l <;> simp [ByteArray.toList_eq]
theorem eq_keyspace_Compare (a b : Bnd) : Mkeyspace_Compare a b = cmp a b := by
  rcases a with ⟨a, s⟩
  rcases b with ⟨b, t⟩
  have hi := bytesLess_irrefl a.toList
  have hs : bl a b = true → bl b a = false := fun h => by
    cases h2 : bl b a with
    | false => rfl
    | true => have := bytesLess_trans h h2; rw [hi] at this; cases this
  simp only [Mkeyspace_Compare, bnd_eq, sel_ite, cmp, Bnd.lt]
  cases s <;> cases t <;> simp
  all_goals (split <;> simp_all)
theorem eq_keyspace_Valid (r : Rng) : Mkeyspace_Valid r = vld r := by
  simp only [Mkeyspace_Valid, bnd_eq, eq_keyspace_ValidBound, eq_keyspace_Compare, sel_and, vld, Bool.and_assoc]
theorem eq_keyspace_Empty (r : Rng) : Mkeyspace_Empty r = emp r := by
  simp only [Mkeyspace_Empty, bnd_eq, eq_keyspace_Valid, eq_keyspace_Compare, sel_or, emp]
  congr 1
theorem eq_keyspace_Contains (r : Rng) (k : ByteArray) : Mkeyspace_Contains r k = contains r k := by
  simp only [Mkeyspace_Contains, bnd_eq, eq_keyspace_Empty, eq_keyspace_ValidKey, eq_keyspace_Compare, sel_and, contains, Bool.and_assoc]
theorem eq_ref1_ValidKey (k : ByteArray) : Mref1_ValidKey k = vk k := by simp [Mref1_ValidKey, vk]; omega
theorem eq_ref1_ValidBound (b : Bnd) : Mref1_ValidBound b = vb b := by
  simp only [Mref1_ValidBound, bnd_eq, eq_ref1_ValidKey, vb, sel_and, sel_or]
  congr 2
  rcases b with ⟨⟨⟨l⟩⟩, t⟩
  cases l <;> simp [ByteArray.toList_eq]
theorem eq_ref1_Compare (a b : Bnd) : Mref1_Compare a b = cmp a b := by
  rcases a with ⟨a, s⟩
  rcases b with ⟨b, t⟩
  have hi := bytesLess_irrefl a.toList
  have hs : bl a b = true → bl b a = false := fun h => by
    cases h2 : bl b a with
    | false => rfl
    | true => have := bytesLess_trans h h2; rw [hi] at this; cases this
  simp only [Mref1_Compare, bnd_eq, sel_ite, cmp, Bnd.lt]
  cases s <;> cases t <;> simp
  all_goals (split <;> simp_all)
theorem eq_ref1_Valid (r : Rng) : Mref1_Valid r = vld r := by
  simp only [Mref1_Valid, bnd_eq, eq_ref1_ValidBound, eq_ref1_Compare, sel_and, vld, Bool.and_assoc]
theorem eq_ref1_Empty (r : Rng) : Mref1_Empty r = emp r := by
  simp only [Mref1_Empty, bnd_eq, eq_ref1_Valid, eq_ref1_Compare, sel_or, emp]
  congr 1
theorem eq_ref1_Contains (r : Rng) (k : ByteArray) : Mref1_Contains r k = contains r k := by
  simp only [Mref1_Contains, bnd_eq, eq_ref1_Empty, eq_ref1_ValidKey, eq_ref1_Compare, sel_and, contains, Bool.and_assoc]
theorem lget_nat {α : Type} (l : List α) (m : Nat) : lget l (m : Int) = l[m]? := by
  unfold lget; rw [if_pos (by omega)]; simp
theorem app_le {α : Type} {xs ys : List α} (h : xs.length + ys.length ≤ 4294967296) : app xs ys = some (xs ++ ys) := if_pos h
theorem lsl_le {α : Type} {xs : List α} {lo hi : Int} (h : 0 ≤ lo ∧ lo ≤ hi ∧ hi ≤ xs.length) : lsl xs lo hi = some ((xs.drop lo.toNat).take (hi.toNat - lo.toNat)) := if_pos h
theorem eq_table_Slice_l1 (r : Rng) : ∀ (t out : List Kv), t.length + out.length ≤ 4294967296 → Mtable_Slice_l1 r t out = some (out ++ t.filter fun x => contains r x.key)
  | [], out, _ => by simp [Mtable_Slice_l1]
  | x :: t, out, h => by
    simp only [List.length_cons] at h
    rw [Mtable_Slice_l1.eq_2, bnd_eq, sel_ite]
    have hk : (@contains r x.key) = true ∨ contains r x.key = false := by cases contains r x.key <;> simp
    first
      | rw [eq_ref1_Contains]
      | rw [eq_keyspace_Contains]
    rcases hk with hk | hk
    · rw [if_pos hk, app_le (by simp; omega), obnd_some, eq_table_Slice_l1 r t _ (by simp; omega), List.filter_cons, if_pos hk, List.append_assoc]; rfl
    · rw [if_neg (by simp [hk]), eq_table_Slice_l1 r t _ (by omega), List.filter_cons, if_neg (by simp [hk])]
theorem eq_table_Slice (r : Rng) (t : List Kv) (h : t.length ≤ 4294967296) : Mtable_Slice t r = some (t.filter fun x => contains r x.key) := by
  rw [Mtable_Slice, eq_table_Slice_l1 r t [] (by simpa using h), obnd_some]; rfl
theorem eq_ref20_Slice_l1 (r : Rng) : ∀ (t out : List Kv), t.length + out.length ≤ 4294967296 → Mref20_Slice_l1 r t out = some (out ++ t.filter fun x => contains r x.key)
  | [], out, _ => by simp [Mref20_Slice_l1]
  | x :: t, out, h => by
    simp only [List.length_cons] at h
    rw [Mref20_Slice_l1.eq_2, bnd_eq, sel_ite]
    have hk : (@contains r x.key) = true ∨ contains r x.key = false := by cases contains r x.key <;> simp
    first
      | rw [eq_ref1_Contains]
      | rw [eq_keyspace_Contains]
    rcases hk with hk | hk
    · rw [if_pos hk, app_le (by simp; omega), obnd_some, eq_ref20_Slice_l1 r t _ (by simp; omega), List.filter_cons, if_pos hk, List.append_assoc]; rfl
    · rw [if_neg (by simp [hk]), eq_ref20_Slice_l1 r t _ (by omega), List.filter_cons, if_neg (by simp [hk])]
theorem eq_ref20_Slice (r : Rng) (t : List Kv) (h : t.length ≤ 4294967296) : Mref20_Slice t r = some (t.filter fun x => contains r x.key) := by
  rw [Mref20_Slice, eq_ref20_Slice_l1 r t [] (by simpa using h), obnd_some]; rfl
def okT (τ : TTape) : Prop := τ.l.length ≤ 600 ∧ 0 ≤ τ.at_ ∧ τ.at_ ≤ τ.l.length
theorem new_ok (l : List Int) : ∃ τ, Mwld_New l = some τ ∧ okT τ := by
  unfold Mwld_New
  rw [sel_ite]
  split
  · rename_i h
    simp only [decide_eq_true_eq] at h
    rw [lsl_le (by omega), obnd_some]
    exact ⟨_, rfl, by simp [okT]; omega⟩
  · rename_i h
    simp only [decide_eq_true_eq] at h
    exact ⟨_, rfl, by simp [okT]; omega⟩
theorem irem_ne {a b : Int} (h : b ≠ 0) : irem a b = some (a.tmod b) := if_neg h
theorem mod_ok (v n : Int) (h1 : 1 ≤ n) (h2 : n ≤ 9223372036854775807) : ∃ x, Mwld_Mod v n = some x ∧ 0 ≤ x ∧ x < n := by
  have g1 := Int.lt_tmod_of_pos v (show 0 < n by omega)
  have g2 := Int.tmod_lt_of_pos v (show 0 < n by omega)
  unfold Mwld_Mod
  rw [irem_ne (by omega), obnd_some, sel_ite]
  split
  · rename_i h
    simp only [decide_eq_true_eq] at h
    exact ⟨_, rfl, by rw [i64w_id] <;> omega, by rw [i64w_id] <;> omega⟩
  · rename_i h
    simp only [decide_eq_true_eq] at h
    exact ⟨_, rfl, by omega, by omega⟩
def Cho (n r : Int) : Prop := 0 ≤ r ∧ (1 ≤ n → r < n) ∧ (n < 1 → r = 0)
theorem next_ok {τ : TTape} (h : okT τ) (n : Int) (h2 : n ≤ 9223372036854775807) : ∃ x τ', Mwld_Tape_Next τ n = some (x, τ') ∧ okT τ' ∧ Cho n x := by
  obtain ⟨g1, g2, g3⟩ := h
  unfold Mwld_Tape_Next
  simp only [sel_ite]
  by_cases a1 : n < 1
  · simp only [a1, decide_true, if_true, obnd_some]
    exact ⟨_, _, rfl, ⟨g1, g2, g3⟩, by unfold Cho; omega⟩
  by_cases a2 : (τ.l.length : Int) ≤ τ.at_
  · simp only [a1, a2, decide_true, decide_false, Bool.false_eq_true, if_false, if_true, obnd_some]
    exact ⟨_, _, rfl, ⟨g1, g2, g3⟩, by unfold Cho; omega⟩
  · simp only [a1, a2, decide_true, decide_false, Bool.false_eq_true, if_false, obnd_some]
    have e1 : i64w (τ.at_ + 1) = τ.at_ + 1 := i64w_id (by omega) (by omega)
    have e2 : i64w (τ.at_ + 1 - 1) = τ.at_ := by rw [i64w_id (by omega) (by omega)]; omega
    obtain ⟨m, hm⟩ := Int.eq_ofNat_of_zero_le g2
    rw [e1, e2, hm, lget_nat, List.getElem?_eq_getElem (by omega), obnd_some]
    obtain ⟨x, hx, h3, h4⟩ := mod_ok τ.l[m] n (by omega) h2
    rw [hx, obnd_some]
    exact ⟨_, _, rfl, ⟨g1, by simp only; omega, by simp only; omega⟩, by unfold Cho; omega⟩
theorem bool_ok {τ : TTape} (h : okT τ) (n : Int) (h2 : n ≤ 9223372036854775807) : ∃ b τ', Mwld_Tape_Bool τ n = some (b, τ') ∧ okT τ' := by
  obtain ⟨x, τ', e, h', -⟩ := next_ok h n h2
  exact ⟨_, _, by unfold Mwld_Tape_Bool; rw [e, obnd_some], h'⟩
theorem pick_ok {τ : TTape} (h : okT τ) (l : List Int) (h1 : 0 < l.length) (h2 : l.length ≤ 1000) : ∃ x τ', Mwld_Tape_Pick τ l = some (x, τ') ∧ okT τ' ∧ x ∈ l := by
  obtain ⟨x, τ', e, h', h3⟩ := next_ok h (l.length : Int) (by omega)
  unfold Cho at h3
  unfold Mwld_Tape_Pick
  obtain ⟨m, rfl⟩ := Int.eq_ofNat_of_zero_le h3.1
  rw [e, obnd_some]
  simp only
  rw [lget_nat, List.getElem?_eq_getElem (by omega), obnd_some]
  exact ⟨_, _, rfl, h', List.getElem_mem _⟩
theorem scat_le {s t : ByteArray} (h : s.size + t.size ≤ 9223372036854775807) : scat s t = some (s ++ t) := if_pos h
theorem long_l1_ok (s : ByteArray) (n : Int) (hs : s.size ≤ 100) (hn : n ≤ 1000) : ∀ (k fuel : Nat) (out : ByteArray) (i : Int), 0 ≤ i → n - i = k → k < fuel → (out.size : Int) ≤ 100 * i → ∃ r, Mwld_long_l1 s n fuel out i = some r ∧ r.size = out.size + k * s.size
  | _, 0, _, _, _, _, h, _ => absurd h (by omega)
  | 0, fuel + 1, out, i, h0, h1, _, h2 => by
    rw [Mwld_long_l1.eq_2, sel_ite, if_neg (by simp; omega)]
    exact ⟨out, rfl, by simp⟩
  | k + 1, fuel + 1, out, i, h0, h1, h3, h2 => by
    rw [Mwld_long_l1.eq_2, sel_ite, if_pos (by simp; omega), scat_le (by omega), obnd_some, i64w_id (by omega) (by omega)]
    obtain ⟨r, e, h4⟩ := long_l1_ok s n hs hn k fuel (out ++ s) (i + 1) (by omega) (by omega) (by omega) (by rw [ByteArray.size_append]; omega)
    exact ⟨r, e, by rw [h4, ByteArray.size_append, Nat.succ_mul]; omega⟩
theorem long_ok (s : ByteArray) (n : Nat) (hs : s.size ≤ 100) (hn : n ≤ 1000) : ∃ r, Mwld_long s n = some r ∧ r.size = n * s.size := by
  obtain ⟨r, e, h⟩ := long_l1_ok s n hs (by omega) n FU ⟨#[]⟩ 0 (by omega) (by omega) (by unfold FU; omega) (by decide)
  refine ⟨r, by unfold Mwld_long; rw [e, obnd_some], ?_⟩
  rw [h]
  have : (⟨#[]⟩ : ByteArray).size = 0 := rfl
  rw [this]; simp
theorem letg_ok {i : Int} (h : Cho 6 i) : ∃ s, letg i = some s ∧ s.size ≤ 1 := by
  unfold Cho at h
  unfold letg
  rw [if_pos ⟨h.1, h.2.1 (by omega)⟩]
  exact ⟨_, rfl, letter_le _⟩
theorem key_l1_ok : ∀ (fuel : Nat) (l : List Int) (a : Int) (out : ByteArray) (i : Int), okT ⟨l, a⟩ → i.toNat < fuel → i ≤ 3 → (out.size : Int) + max i 0 ≤ 3 → ∃ k l' a', Mwld_Tape_Key_l1 fuel l a out i = some (k, l', a') ∧ okT ⟨l', a'⟩ ∧ k.size ≤ 3
  | 0, _, _, _, _, _, h1, _, _ => absurd h1 (by omega)
  | fuel + 1, l, a, out, i, h, h1, h2, h3 => by
    rw [Mwld_Tape_Key_l1.eq_2, sel_ite]
    by_cases hi : 0 < i
    · simp only [hi, decide_true, if_true, obnd_some, ocbnd_nxt]
      obtain ⟨x, τ', e, h', hx⟩ := next_ok h 6 (by omega)
      rw [e, obnd_some]
      obtain ⟨s, es, hs⟩ := letg_ok hx
      simp only
      rw [es, obnd_some, scat_le (by omega), obnd_some, i64w_id (by omega) (by omega)]
      exact key_l1_ok fuel _ _ _ _ h' (by omega) (by omega) (by rw [ByteArray.size_append]; omega)
    · simp only [hi, decide_false, Bool.false_eq_true, if_false, obnd_some, ocbnd_ret]
      exact ⟨_, _, _, rfl, h, by omega⟩
theorem key_ok {τ : TTape} (h : okT τ) : ∃ k τ', Mwld_Tape_Key τ = some (k, τ') ∧ okT τ' ∧ k.size ≤ 64 := by
  unfold Mwld_Tape_Key
  obtain ⟨x, τ1, e1, h1, hx⟩ := next_ok h 12 (by omega)
  rw [e1, obnd_some, sel_ite]
  simp only
  by_cases c1 : x = 10
  · rw [if_pos (by simpa using c1)]
    obtain ⟨y, τ2, e2, h2, hy⟩ := next_ok h1 6 (by omega)
    rw [e2, obnd_some]
    obtain ⟨s, es, hs⟩ := letg_ok hy
    obtain ⟨r, er, hr⟩ := long_ok s 64 (by omega) (by omega)
    simp only
    rw [es, obnd_some, show (64 : Int) = ((64 : Nat) : Int) from rfl, er, obnd_some]
    exact ⟨_, _, rfl, h2, by rw [hr]; omega⟩
  · rw [if_neg (by simpa using c1), sel_ite]
    by_cases c2 : x = 11
    · rw [if_pos (by simpa using c2)]
      exact ⟨_, _, rfl, h1, by decide⟩
    · rw [if_neg (by simpa using c2)]
      obtain ⟨y, τ2, e2, h2, hy⟩ := next_ok h1 3 (by omega)
      unfold Cho at hy
      rw [e2, obnd_some]
      simp only
      rw [i64w_id (by omega) (by omega)]
      have hz : (⟨#[]⟩ : ByteArray).size = 0 := rfl
      obtain ⟨k, l', a', e, h3, hk⟩ := key_l1_ok FU τ2.l τ2.at_ ⟨#[]⟩ (1 + y) h2 (by unfold FU; omega) (by omega) (by rw [hz]; omega)
      rw [e, obnd_some]
      exact ⟨_, _, rfl, h3, by simp only; omega⟩
theorem oddKey_ok {τ : TTape} (h : okT τ) : ∃ k τ', Mwld_Tape_OddKey τ = some (k, τ') ∧ okT τ' ∧ k.size ≤ 65 := by
  unfold Mwld_Tape_OddKey
  obtain ⟨b, τ1, e1, h1⟩ := bool_ok h 10 (by omega)
  rw [e1, obnd_some, sel_ite]
  simp only
  split
  · obtain ⟨y, τ2, e2, h2, hy⟩ := next_ok h1 6 (by omega)
    rw [e2, obnd_some]
    obtain ⟨s, es, hs⟩ := letg_ok hy
    obtain ⟨r, er, hr⟩ := long_ok s 65 (by omega) (by omega)
    simp only
    rw [es, obnd_some, show (65 : Int) = ((65 : Nat) : Int) from rfl, er, obnd_some]
    exact ⟨_, _, rfl, h2, by rw [hr]; omega⟩
  · obtain ⟨k, τ2, e2, h2, hk⟩ := key_ok h1
    rw [e2, obnd_some]
    exact ⟨_, _, rfl, h2, by simp only; omega⟩
theorem bound_ok {τ : TTape} (h : okT τ) : ∃ b τ', Mwld_Tape_Bound τ = some (b, τ') ∧ okT τ' ∧ b.key.size ≤ 65 := by
  unfold Mwld_Tape_Bound
  obtain ⟨x, τ1, e1, h1, hx⟩ := next_ok h 9 (by omega)
  rw [e1, obnd_some, sel_ite]
  simp only
  split
  · exact ⟨_, _, rfl, h1, by decide⟩
  · rw [sel_ite]
    split
    · obtain ⟨k, τ2, e2, h2, hk⟩ := oddKey_ok h1
      obtain ⟨b, τ3, e3, h3⟩ := bool_ok h2 3 (by omega)
      rw [e2, obnd_some]; simp only; rw [e3, obnd_some]
      exact ⟨_, _, rfl, h3, hk⟩
    · obtain ⟨k, τ2, e2, h2, hk⟩ := key_ok h1
      rw [e2, obnd_some]
      exact ⟨_, _, rfl, h2, by simp only; omega⟩
theorem range_ok {τ : TTape} (h : okT τ) : ∃ r τ', Mwld_Tape_Range τ = some (r, τ') ∧ okT τ' ∧ r.lo.key.size ≤ 65 ∧ r.hi.key.size ≤ 65 := by
  unfold Mwld_Tape_Range
  obtain ⟨a, τ1, e1, h1, ha⟩ := bound_ok h
  obtain ⟨b, τ2, e2, h2, hb⟩ := bound_ok h1
  obtain ⟨c, τ3, e3, h3⟩ := bool_ok h2 6 (by omega)
  rw [e1, obnd_some]; simp only; rw [e2, obnd_some]; simp only; rw [e3, obnd_some]
  simp only [sel_ite]
  repeat' split
  all_goals first | exact ⟨_, _, rfl, h3, ha, hb⟩ | exact ⟨_, _, rfl, h3, hb, ha⟩
theorem proper_ok {τ : TTape} (h : okT τ) : ∃ r τ', Mwld_Tape_Proper τ = some (r, τ') ∧ okT τ' ∧ emp r = false := by
  unfold Mwld_Tape_Proper
  obtain ⟨r, τ1, e1, h1, -⟩ := range_ok h
  rw [e1, obnd_some, bnd_eq, eq_ref1_Empty, sel_ite]
  split
  · exact ⟨_, _, rfl, h1, by kernel_rfl⟩
  · rename_i hne
    exact ⟨_, _, rfl, h1, by simpa using hne⟩
theorem value_ok {τ : TTape} (h : okT τ) : ∃ v τ', Mwld_Tape_Value τ = some (v, τ') ∧ okT τ' ∧ v.size ≤ 64 := by
  unfold Mwld_Tape_Value
  obtain ⟨x, τ1, e1, h1, hx⟩ := next_ok h 9 (by omega)
  rw [e1, obnd_some, sel_ite]
  simp only
  split
  · exact ⟨_, _, rfl, h1, by decide⟩
  rw [sel_ite]
  split
  · obtain ⟨r, er, hr⟩ := long_ok ⟨#[57]⟩ 64 (by decide) (by omega)
    rw [show (64 : Int) = ((64 : Nat) : Int) from rfl, er, obnd_some]
    exact ⟨_, _, rfl, h1, by rw [hr]; decide⟩
  rw [sel_ite]
  split
  · exact ⟨_, _, rfl, h1, by decide⟩
  · obtain ⟨y, τ2, e2, h2, hy⟩ := next_ok h1 6 (by omega)
    unfold Cho at hy
    rw [e2, obnd_some]
    simp only
    obtain ⟨m, rfl⟩ := Int.eq_ofNat_of_zero_le hy.1
    rw [lget_nat]
    have hm : m = 0 ∨ m = 1 ∨ m = 2 ∨ m = 3 ∨ m = 4 ∨ m = 5 := by omega
    rcases hm with rfl | rfl | rfl | rfl | rfl | rfl <;> exact ⟨_, _, rfl, h2, by decide⟩
theorem oddValue_ok {τ : TTape} (h : okT τ) : ∃ v τ', Mwld_Tape_OddValue τ = some (v, τ') ∧ okT τ' ∧ v.size ≤ 65 := by
  unfold Mwld_Tape_OddValue
  obtain ⟨b, τ1, e1, h1⟩ := bool_ok h 12 (by omega)
  rw [e1, obnd_some, sel_ite]
  simp only
  split
  · obtain ⟨r, er, hr⟩ := long_ok ⟨#[118]⟩ 65 (by decide) (by omega)
    rw [show (65 : Int) = ((65 : Nat) : Int) from rfl, er, obnd_some]
    exact ⟨_, _, rfl, h1, by rw [hr]; decide⟩
  · obtain ⟨v, τ2, e2, h2, hv⟩ := value_ok h1
    rw [e2, obnd_some]
    exact ⟨_, _, rfl, h2, by simp only; omega⟩
theorem row_ok {τ : TTape} (h : okT τ) : ∃ r τ', Mwld_Tape_Row τ = some (r, τ') ∧ okT τ' := by
  unfold Mwld_Tape_Row
  obtain ⟨k, τ1, e1, h1, hk⟩ := oddKey_ok h
  obtain ⟨v, τ2, e2, h2, hv⟩ := oddValue_ok h1
  rw [e1, obnd_some]; simp only; rw [e2, obnd_some]
  exact ⟨_, _, rfl, h2⟩
theorem oddRows_ok {τ : TTape} (h : okT τ) (l : List Kv) (hl : l.length ≤ 1000) : ∃ r τ', Mwld_Tape_OddRows τ l = some (r, τ') ∧ okT τ' ∧ r.length ≤ l.length + 1 := by
  unfold Mwld_Tape_OddRows
  rw [app_le (by simp; omega), obnd_some, List.nil_append]
  obtain ⟨b, τ1, e1, h1⟩ := bool_ok h 3 (by omega)
  rw [e1, obnd_some, sel_ite]
  simp only
  have key1 : ∀ {c : Bool} {τ1 : TTape}, okT τ1 → ∃ r τ', (obnd (obnd (Mwld_Tape_Bool τ1 3) fun y17 => sel y17.1 (some (y17.2.l, y17.2.at_, decide (0 < (l.length : Int)))) (some (y17.2.l, y17.2.at_, false))) fun (x18, x19, x20) =>
    sel x20 (
      obnd (Mwld_Tape_Next (TTape.mk x18 x19) (l.length : Int)) fun y21 =>
      obnd (lget l y21.1) fun e22 =>
      obnd (app l ([e22] : List Kv)) fun l23 =>
      some (l23, y21.2)) (
      obnd (Mwld_Tape_Row (TTape.mk x18 x19)) fun y24 =>
      obnd (app l ([y24.1] : List Kv)) fun l25 =>
      some (l25, y24.2))) = some (r, τ') ∧ okT τ' ∧ r.length ≤ l.length + 1 := by
    intro c τ1 h1
    obtain ⟨b2, τ2, e2, h2⟩ := bool_ok h1 3 (by omega)
    have rowc : ∃ r τ', (obnd (Mwld_Tape_Row τ2) fun y24 => obnd (app l ([y24.1] : List Kv)) fun l25 => some (l25, y24.2)) = some (r, τ') ∧ okT τ' ∧ r.length ≤ l.length + 1 := by
      obtain ⟨r, τ3, e3, h3⟩ := row_ok h2
      rw [e3, obnd_some, app_le (by simp; omega), obnd_some]
      exact ⟨_, _, rfl, h3, by simp⟩
    rw [e2, obnd_some, sel_ite]
    simp only
    split
    · rw [obnd_some, sel_ite]
      split
      · rename_i hd
        simp only [decide_eq_true_eq] at hd
        obtain ⟨x, τ3, e3, h3, hx⟩ := next_ok h2 (l.length : Int) (by omega)
        unfold Cho at hx
        obtain ⟨m, rfl⟩ := Int.eq_ofNat_of_zero_le hx.1
        simp only
        rw [e3, obnd_some]
        simp only
        rw [lget_nat, List.getElem?_eq_getElem (by omega), obnd_some, app_le (by simp; omega), obnd_some]
        exact ⟨_, _, rfl, h3, by simp⟩
      · exact rowc
    · rw [obnd_some, sel_ite]
      simp only [Bool.false_eq_true, if_false]
      exact rowc
  split
  · rw [obnd_some, sel_ite]
    split
    · rename_i hd
      simp only [decide_eq_true_eq] at hd
      rw [i64w_id (by omega) (by omega)]
      obtain ⟨x, τ3, e3, h3, hx⟩ := next_ok h1 ((l.length : Int) - 1) (by omega)
      unfold Cho at hx
      obtain ⟨m, rfl⟩ := Int.eq_ofNat_of_zero_le hx.1
      simp only
      rw [e3, obnd_some]
      simp only
      rw [i64w_id (by omega) (by omega), show (m : Int) + 1 = ((m + 1 : Nat) : Int) by omega]
      simp only [lget_nat, bnd_eq]
      rw [List.getElem?_eq_getElem (i := m + 1) (by omega), List.getElem?_eq_getElem (i := m) (by omega)]
      simp only [obnd_some]
      rw [List.getElem?_eq_getElem (i := m + 1) (by simp; omega), obnd_some]
      exact ⟨_, _, rfl, h3, by simp⟩
    · exact key1 (c := b) h1
  · rw [obnd_some, sel_ite]
    simp only [Bool.false_eq_true, if_false]
    exact key1 (c := b) h1
end Go.Proofs.YtlbnhhfaedhgfaaGreatDoor
namespace Go.Proofs.YtlbnhhfaedhgfaaGreatDoor
open Go.RowKit
attribute [local irreducible] tpb
def ins (x : Kv) : List Kv → List Kv
  | [] => [x]
  | r :: t => if bl x.key r.key then x :: r :: t else r :: ins x t
def wthout (k : ByteArray) (l : List Kv) : List Kv := l.filter fun r => !decide (r.key = k)
def wth (x : Kv) (l : List Kv) : List Kv := ins x (wthout x.key l)
theorem ins_len (x : Kv) (l : List Kv) : (ins x l).length = l.length + 1 := by
  induction l with
  | nil => rfl
  | cons r t ih => simp only [ins]; split <;> simp [ih]
theorem wth_len (x : Kv) (l : List Kv) : (wth x l).length ≤ l.length + 1 := by
  rw [wth, ins_len]; have := List.length_filter_le (fun r : Kv => !decide (r.key = x.key)) l; unfold wthout; omega
attribute [local irreducible] WK WC WL Wk Rel OpD OpV WD WO Op.bytesLess cmp vk vb vld emp contains
def put (x : Kv) (l : List Kv) : List Kv × Int := if tvalid l && vrow x then (if 1024 < (wth x l).length then ([], 16) else (wth x l, 0)) else ([], 1)
theorem tvalid_one (x : Kv) : tvalid [x] = vrow x := by
  simp [tvalid, okAt, List.range_succ]
theorem tvalid_iff (l : List Kv) : tvalid l = true ↔ l.length ≤ 1024 ∧ (∀ r ∈ l, vrow r = true) ∧ l.Pairwise (fun a b => bl a.key b.key = true) := by
  constructor
  · intro h
    simp only [tvalid, Bool.and_eq_true, decide_eq_true_eq, List.all_eq_true, List.mem_range] at h
    obtain ⟨h0, h⟩ := h
    have h' : ∀ m (hm : m < l.length), vrow l[m] = true ∧ (m = 0 ∨ bl (l[m - 1]'(by omega)).key l[m].key = true) := fun m hm => by
      have := h m hm
      rw [okAt_eq hm] at this
      simpa using this
    refine ⟨h0, fun r hr => ?_, ?_⟩
    · obtain ⟨m, hm, rfl⟩ := List.mem_iff_getElem.1 hr
      exact (h' m hm).1
    · rw [List.pairwise_iff_getElem]
      intro i j hi hj hij
      obtain ⟨d, rfl⟩ := Nat.exists_eq_add_of_lt hij
      induction d with
      | zero => simpa using (h' (i + 0 + 1) hj).2
      | succ d ih =>
        have h1 := ih (by omega) (by omega)
        have h2 := (h' (i + (d + 1) + 1) hj).2
        simp only [Nat.add_eq_zero_iff, Nat.one_ne_zero, and_false, false_or, Nat.add_sub_cancel] at h2
        exact bytesLess_trans h1 h2
  · rintro ⟨h0, h1, h2⟩
    refine tvalid_t h0 fun j hj => ?_
    rw [okAt_eq hj, h1 _ (List.getElem_mem _)]
    rw [List.pairwise_iff_getElem] at h2
    by_cases e : j = 0
    · simp [e]
    · simp [h2 (j - 1) j (by omega) hj (by omega)]
theorem ins_mem {x r : Kv} {l : List Kv} : r ∈ ins x l ↔ r = x ∨ r ∈ l := by
  induction l with
  | nil => simp [ins]
  | cons a t ih => simp only [ins]; split <;> simp [ih]; grind
theorem ins_pw {x : Kv} {l : List Kv} (h : l.Pairwise (fun a b => bl a.key b.key = true)) (hx : ∀ r ∈ l, r.key ≠ x.key) : (ins x l).Pairwise (fun a b => bl a.key b.key = true) := by
  induction l with
  | nil => simp [ins]
  | cons a t ih =>
    rw [List.pairwise_cons] at h
    simp only [ins]
    split
    · rename_i hb
      rw [List.pairwise_cons]
      refine ⟨fun b hb' => ?_, List.pairwise_cons.2 h⟩
      rcases List.mem_cons.1 hb' with rfl | hb'
      · exact hb
      · exact bytesLess_trans hb (h.1 b hb')
    · rename_i hb
      rw [List.pairwise_cons]
      refine ⟨fun b hb' => ?_, ih h.2 fun r hr => hx r (List.mem_cons_of_mem _ hr)⟩
      rcases ins_mem.1 hb' with rfl | hb'
      · cases hba : bl a.key b.key with
        | true => rfl
        | false => 
          have := bytesLess_total (by simpa using hb) hba
          have h3 := hx a List.mem_cons_self
          exfalso; apply h3
          have h4 := ba_eqE b.key a.key
          simp only [this, BEq.rfl] at h4
          exact (of_decide_eq_true h4.symm).symm
      · exact h.1 b hb'
theorem put_valid {x : Kv} {l : List Kv} (h : tvalid l = true) (hx : vrow x = true) (hl : l.length < 1024) : put x l = (wth x l, 0) ∧ tvalid (wth x l) = true ∧ (wth x l).length ≤ l.length + 1 := by
  have h1 := wth_len x l
  refine ⟨by simp only [put, h, hx, Bool.and_self, if_true]; rw [if_neg (by omega)], ?_, h1⟩
  rw [tvalid_iff] at h ⊢
  obtain ⟨g0, g1, g2⟩ := h
  refine ⟨by omega, fun r hr => ?_, ins_pw (List.Pairwise.filter _ g2) fun r hr => by simpa using (List.mem_filter.1 hr).2⟩
  rcases ins_mem.1 hr with rfl | hr
  · exact hx
  · exact g1 r (List.mem_filter.1 hr).1
theorem contains_lo {r : Rng} (h : emp r = false) : contains r r.lo.key = true := by
  obtain ⟨⟨a, s⟩, ⟨b, t⟩⟩ := r
  have hi := bytesLess_irrefl a.toList
  simp only [emp, contains, vld, vb, vk, cmp, Bnd.lt] at *
  cases s <;> cases t <;> simp_all <;> grind
end Go.Proofs.YtlbnhhfaedhgfaaGreatDoor
