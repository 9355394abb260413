/-
  Lemmas: Contracts
-/
import Derived.Test.YtohpjdeohpamaaaGreatPA10
import Derived.Test.YtohpjdeohpamaaaGreatPA12
import Derived.Test.YtohpjdeohpamaaaGreatPA14
import Derived.Test.YtohpjdeohpamaaaGreatPA18
import Derived.Test.YtohpjdeohpamaaaGreatPA9
set_option linter.unusedSimpArgs false
set_option linter.unusedVariables false
namespace Go.Proofs.YtohpjdeohpamaaaGreat
open Go.RowKit
attribute [local irreducible] WK WC WL Wk Rel OpD OpV WD WO Op.bytesLess cmp vk vb vld emp contains
set_option maxHeartbeats 4000000 in
instance qcheck_r (k c : Int) (l : List Rng) (key : ByteArray) : Ct Tryz.prog 66 [vQ k l key c] (l.length < 1000000) (vI (qchk k l key c)) := ⟨fun hl => by
  refine Spec.intro Tryz.func66 rfl rfl Tryz.ntmps66 Tryz.results66 rfl fun B w0 ρ0 => ?_; simp only [slots, List.map_nil, List.map_cons, Nat.reduceAdd]
  (repeat' (first | refine sw ?_ | (refine swt ?_; intro x τ hx) | (refine sp ?_ ?_ <;> (intro h; (first | (have h2 : (_ : Bool) = _ := h; clear h2; subst h) | skip); (try simp only [decide_eq_true_eq, decide_eq_false_iff_not, Bool.not_eq_true', Bool.not_eq_false', Kv.eta, Bnd.eta, Rng.eta, tn_sub1] at h); (first | (have h2 : (_ : Bool) = _ := h; clear h2; subst h) | skip))) | fail))
  all_goals (try ((first | refine wk_pure rfl (by first | exact trivial | exact resT_cell rfl rfl (by exact inferInstance) trivial) rfl (by first | exact Vw.fmp rfl rfl rfl | exact Vw.nil | exact Vw.d _ | (repeat (first | exact Vws.nil | apply Vws.cons | exact Vw.nil | exact Vw.d _ | apply Vw.a | apply Vw.t | exact Vw.fh rfl rfl (vws_dm _) | exact Vw.fh rfl rfl Vws.nil)); done) ?_ | refine wk_pure_n rfl (by first | exact trivial | exact resT_cell rfl rfl (by exact inferInstance) trivial) rfl (by first | exact Vw.fmp rfl rfl rfl | exact Vw.nil | exact Vw.d _ | (repeat (first | exact Vws.nil | apply Vws.cons | exact Vw.nil | exact Vw.d _ | apply Vw.a | apply Vw.t | exact Vw.fh rfl rfl (vws_dm _) | exact Vw.fh rfl rfl Vws.nil)); done) ?_); refine ⟨?_, rfl⟩; (try simp only [Bool.not_eq_true, Bool.not_eq_false, decide_eq_true_eq, decide_eq_false_iff_not] at *); first | (simp_all [qchk]; done) | (simp_all [qchk] <;> omega) | grind [qchk]))
  refine wc_loop (fun κ st => ∃ (m : Nat), κ = l.length - m ∧ (m ≤ l.length ∧ ∀ j (h : j < l.length), j < m → vld l[j] = true) ∧ st = ⟨[(1, .p 101 0), (19, .d (lst Rng.ds l)), (20, vI l.length), (21, vI (m : Int))], [(101, some (.box 29 [vI k, .d (lst Rng.ds l), vS key, vI c]))]⟩) (l.length - (0)) ⟨[(1, .p 101 0), (19, .d (lst Rng.ds l)), (20, vI l.length), (21, vI ((0) : Int))], [(101, some (.box 29 [vI k, .d (lst Rng.ds l), vS key, vI c]))]⟩ (wk [(101, 101)] rfl rfl rfl rfl (by repeat (first | refine VH.cons rfl rfl vb_tpb ?_ | refine VH.cons0 ?_ | refine VH.cons rfl rfl (Vb.ob _) ?_ | exact VS.nil | exact VH.nil | exact Vws.nil | refine VS.cons rfl ?_ ?_ | refine VH.cons rfl rfl (Vb.box ?_) ?_ | refine VH.cons rfl rfl (Vb.arr ?_) ?_ | exact vws_dm _ | refine Vws.cons ?_ ?_ | exact Vw.d _ | exact Vw.p rfl | exact Vw.h rfl | exact Vw.e rfl | exact Vw.s rfl | exact Vw.q _ | refine Vw.a ?_ | refine Vw.t ?_ | exact Vw.nil | exact Vw.fh rfl rfl (vws_dm _) | exact Vw.fe rfl rfl (vws_dm _) (fe_of (by assumption)) | exact Vw.fe rfl rfl (vws_dm _) (fe_of0 (by assumption)) | refine Vw.fp0 rfl rfl ?_ | exact Vw.mp rfl | refine VH.cons rfl rfl (Vb.mt _ _) ?_ | exact Vw.sc rfl | exact Vw.un _)) (by repeat (first | refine VH.cons rfl rfl vb_tpb ?_ | refine VH.cons0 ?_ | refine VH.cons rfl rfl (Vb.ob _) ?_ | exact VS.nil | exact VH.nil | exact Vws.nil | refine VS.cons rfl ?_ ?_ | refine VH.cons rfl rfl (Vb.box ?_) ?_ | refine VH.cons rfl rfl (Vb.arr ?_) ?_ | exact vws_dm _ | refine Vws.cons ?_ ?_ | exact Vw.d _ | exact Vw.p rfl | exact Vw.h rfl | exact Vw.e rfl | exact Vw.s rfl | exact Vw.q _ | refine Vw.a ?_ | refine Vw.t ?_ | exact Vw.nil | exact Vw.fh rfl rfl (vws_dm _) | exact Vw.fe rfl rfl (vws_dm _) (fe_of (by assumption)) | exact Vw.fe rfl rfl (vws_dm _) (fe_of0 (by assumption)) | refine Vw.fp0 rfl rfl ?_ | exact Vw.mp rfl | refine VH.cons rfl rfl (Vb.mt _ _) ?_ | exact Vw.sc rfl | exact Vw.un _))) ⟨0, rfl, ?_, rfl⟩ ?_; rotate_left; rintro κ _ ⟨m, rfl, hP, rfl⟩; rotate_left
  · exact ⟨by omega, fun j _ h => by omega⟩
  obtain ⟨hm, hP⟩ := hP
  (repeat' (first | refine sw ?_ | (refine swt ?_; intro x τ hx) | (refine sp ?_ ?_ <;> (intro h; (first | (have h2 : (_ : Bool) = _ := h; clear h2; subst h) | skip); (try simp only [decide_eq_true_eq, decide_eq_false_iff_not, Bool.not_eq_true', Bool.not_eq_false', Kv.eta, Bnd.eta, Rng.eta, tn_sub1] at h); (first | (have h2 : (_ : Bool) = _ := h; clear h2; subst h) | skip))) | fail))
  all_goals (try (have hA := all_of hP (by omega)))
  all_goals (try (have hA := all_not (p := vld) (l := l) (m := m) (by omega) (by simp only [Rng.eta, *]; rfl)))
  all_goals (try ((first | refine wk_pure rfl (by first | exact trivial | exact resT_cell rfl rfl (by exact inferInstance) trivial) rfl (by first | exact Vw.fmp rfl rfl rfl | exact Vw.nil | exact Vw.d _ | (repeat (first | exact Vws.nil | apply Vws.cons | exact Vw.nil | exact Vw.d _ | apply Vw.a | apply Vw.t | exact Vw.fh rfl rfl (vws_dm _) | exact Vw.fh rfl rfl Vws.nil)); done) ?_ | refine wk_pure_n rfl (by first | exact trivial | exact resT_cell rfl rfl (by exact inferInstance) trivial) rfl (by first | exact Vw.fmp rfl rfl rfl | exact Vw.nil | exact Vw.d _ | (repeat (first | exact Vws.nil | apply Vws.cons | exact Vw.nil | exact Vw.d _ | apply Vw.a | apply Vw.t | exact Vw.fh rfl rfl (vws_dm _) | exact Vw.fh rfl rfl Vws.nil)); done) ?_); refine ⟨?_, rfl⟩; (try simp only [Bool.not_eq_true, Bool.not_eq_false, decide_eq_true_eq, decide_eq_false_iff_not] at *); first | (simp_all [qchk]; done) | (simp_all [qchk] <;> omega) | grind [qchk]))
  refine wk_loop_n (l.length - (m + 1)) (st' := ⟨[(1, .p 101 0), (19, .d (lst Rng.ds l)), (20, vI l.length), (21, vI ((m + 1) : Int))], [(101, some (.box 29 [vI k, .d (lst Rng.ds l), vS key, vI c]))]⟩) (wk [(101, 101)] rfl rfl rfl rfl (by repeat (first | refine VH.cons rfl rfl vb_tpb ?_ | refine VH.cons0 ?_ | refine VH.cons rfl rfl (Vb.ob _) ?_ | exact VS.nil | exact VH.nil | exact Vws.nil | refine VS.cons rfl ?_ ?_ | refine VH.cons rfl rfl (Vb.box ?_) ?_ | refine VH.cons rfl rfl (Vb.arr ?_) ?_ | exact vws_dm _ | refine Vws.cons ?_ ?_ | exact Vw.d _ | exact Vw.p rfl | exact Vw.h rfl | exact Vw.e rfl | exact Vw.s rfl | exact Vw.q _ | refine Vw.a ?_ | refine Vw.t ?_ | exact Vw.nil | exact Vw.fh rfl rfl (vws_dm _) | exact Vw.fe rfl rfl (vws_dm _) (fe_of (by assumption)) | exact Vw.fe rfl rfl (vws_dm _) (fe_of0 (by assumption)) | refine Vw.fp0 rfl rfl ?_ | exact Vw.mp rfl | refine VH.cons rfl rfl (Vb.mt _ _) ?_ | exact Vw.sc rfl | exact Vw.un _)) (by repeat (first | refine VH.cons rfl rfl vb_tpb ?_ | refine VH.cons0 ?_ | refine VH.cons rfl rfl (Vb.ob _) ?_ | exact VS.nil | exact VH.nil | exact Vws.nil | refine VS.cons rfl ?_ ?_ | refine VH.cons rfl rfl (Vb.box ?_) ?_ | refine VH.cons rfl rfl (Vb.arr ?_) ?_ | exact vws_dm _ | refine Vws.cons ?_ ?_ | exact Vw.d _ | exact Vw.p rfl | exact Vw.h rfl | exact Vw.e rfl | exact Vw.s rfl | exact Vw.q _ | refine Vw.a ?_ | refine Vw.t ?_ | exact Vw.nil | exact Vw.fh rfl rfl (vws_dm _) | exact Vw.fe rfl rfl (vws_dm _) (fe_of (by assumption)) | exact Vw.fe rfl rfl (vws_dm _) (fe_of0 (by assumption)) | refine Vw.fp0 rfl rfl ?_ | exact Vw.mp rfl | refine VH.cons rfl rfl (Vb.mt _ _) ?_ | exact Vw.sc rfl | exact Vw.un _))) ?_ ⟨m + 1, rfl, ?_, rfl⟩
  · omega
  · refine ⟨by omega, fun j h1 h2 => ?_⟩
    by_cases e : j = m
    · subst e; assumption
    · exact hP j h1 (by omega)⟩
end Go.Proofs.YtohpjdeohpamaaaGreat
namespace Go.Proofs.YtohpjdeohpamaaaGreat
open Go.RowKit
def mks : List (Value × Value) := [(.int .i64 1, .func (.func 96) #[] #[]), (.int .i64 2, .func (.func 97) #[] #[]), (.int .i64 3, .func (.func 99) #[] #[]), (.int .i64 4, .func (.func 100) #[] #[])]
theorem mks_nil (k : Int) : isNilF (mget .nilFunc k mks) = decide (k < 1 ∨ 4 < k) := by
  simp only [mks, mget]
  repeat' split
  all_goals (simp only [isNilF]; symm; first | (rw [decide_eq_false]; omega) | (rw [decide_eq_true]; omega))
theorem mks_fn (k : Int) : isFn (mget .nilFunc k mks) = true := by
  simp only [mks, mget]
  repeat' split
  all_goals rfl
attribute [local irreducible] WK WC WL Wk Rel OpD OpV WD WO Op.bytesLess cmp vk vb vld emp contains
instance makers_ct : Ct Tryz.prog 80 [] True (.d (.m mks)) := ⟨fun _ => by
  refine Spec.intro Tryz.func80 rfl rfl Tryz.ntmps80 Tryz.results80 rfl fun B w0 ρ0 => ?_; simp only [slots, List.map_nil, List.map_cons, Nat.reduceAdd]
  (repeat' (first | refine sw ?_ | (refine swt ?_; intro x τ hx) | (refine sp ?_ ?_ <;> (intro h; (first | (have h2 : (_ : Bool) = _ := h; clear h2; subst h) | skip); (try simp only [decide_eq_true_eq, decide_eq_false_iff_not, Bool.not_eq_true', Bool.not_eq_false', Kv.eta, Bnd.eta, Rng.eta, tn_sub1] at h); (first | (have h2 : (_ : Bool) = _ := h; clear h2; subst h) | skip))) | fail))
  all_goals (first | refine wk_pure rfl (by first | exact trivial | exact resT_cell rfl rfl (by exact inferInstance) trivial) rfl (by first | exact Vw.fmp rfl rfl rfl | exact Vw.nil | exact Vw.d _ | (repeat (first | exact Vws.nil | apply Vws.cons | exact Vw.nil | exact Vw.d _ | apply Vw.a | apply Vw.t | exact Vw.fh rfl rfl (vws_dm _) | exact Vw.fh rfl rfl Vws.nil)); done) ?_ | refine wk_pure_n rfl (by first | exact trivial | exact resT_cell rfl rfl (by exact inferInstance) trivial) rfl (by first | exact Vw.fmp rfl rfl rfl | exact Vw.nil | exact Vw.d _ | (repeat (first | exact Vws.nil | apply Vws.cons | exact Vw.nil | exact Vw.d _ | apply Vw.a | apply Vw.t | exact Vw.fh rfl rfl (vws_dm _) | exact Vw.fh rfl rfl Vws.nil)); done) ?_)
  all_goals exact ⟨rfl, rfl⟩⟩
set_option maxHeartbeats 4000000 in
instance qcheck_p (k c : Int) (l : List Rng) (key : ByteArray) : Ct Tryz.prog 52 [vQ k l key c] (l.length < 1000000) (vI (qchk k l key c)) := ⟨fun hl => by
  have hmk := mks_nil k
  have hfn := mks_fn k
  refine Spec.intro Tryz.func52 rfl rfl Tryz.ntmps52 Tryz.results52 rfl fun B w0 ρ0 => ?_; simp only [slots, List.map_nil, List.map_cons, Nat.reduceAdd]
  (repeat' (first | refine sw ?_ | refine wc_draw (id := 1) [⟨1, 0, [1]⟩, ⟨2, 2, [6]⟩, ⟨0, 0, []⟩, ⟨3, 7, [5, 7]⟩, ⟨4, 15, [8]⟩] mixed (by kernel_rfl) ?_ | (refine swt ?_; intro x τ hx) | (refine sp ?_ ?_ <;> (intro h; (first | (have h2 : (_ : Bool) = _ := h; clear h2; subst h) | skip); (try simp only [decide_eq_true_eq, decide_eq_false_iff_not, Bool.not_eq_true', Bool.not_eq_false', Kv.eta, Bnd.eta, Rng.eta, tn_sub1] at h); (first | (have h2 : (_ : Bool) = _ := h; clear h2; subst h) | skip))) | fail))
  all_goals (try simp only [hmk, decide_eq_true_eq, decide_eq_false_iff_not] at *)
  all_goals (try ((first | refine wk_pure rfl (by first | exact trivial | exact resT_cell rfl rfl (by exact inferInstance) trivial) rfl (by first | exact Vw.fmp rfl rfl rfl | exact Vw.nil | exact Vw.d _ | (repeat (first | exact Vws.nil | apply Vws.cons | exact Vw.nil | exact Vw.d _ | apply Vw.a | apply Vw.t | exact Vw.fh rfl rfl (vws_dm _) | exact Vw.fh rfl rfl Vws.nil)); done) ?_ | refine wk_pure_n rfl (by first | exact trivial | exact resT_cell rfl rfl (by exact inferInstance) trivial) rfl (by first | exact Vw.fmp rfl rfl rfl | exact Vw.nil | exact Vw.d _ | (repeat (first | exact Vws.nil | apply Vws.cons | exact Vw.nil | exact Vw.d _ | apply Vw.a | apply Vw.t | exact Vw.fh rfl rfl (vws_dm _) | exact Vw.fh rfl rfl Vws.nil)); done) ?_); refine ⟨?_, rfl⟩; (try simp only [Bool.not_eq_true, Bool.not_eq_false, decide_eq_true_eq, decide_eq_false_iff_not] at *); first | (simp_all [qchk]; done) | (simp_all [qchk] <;> omega) | grind [qchk]))
  refine wc_loop (fun κ st => ∃ (m : Nat), κ = l.length - m ∧ (m ≤ l.length ∧ ∀ j (h : j < l.length), j < m → vld l[j] = true) ∧ st = ⟨[(1, .p 101 0), (15, .d (lst Rng.ds l)), (16, vI l.length), (17, vI (m : Int))], [(101, some (.box 29 [vI k, .d (lst Rng.ds l), vS key, vI c]))]⟩) (l.length - (0)) ⟨[(1, .p 101 0), (15, .d (lst Rng.ds l)), (16, vI l.length), (17, vI ((0) : Int))], [(101, some (.box 29 [vI k, .d (lst Rng.ds l), vS key, vI c]))]⟩ (wk [(101, 101)] rfl rfl rfl rfl (by repeat (first | refine VH.cons rfl rfl vb_tpb ?_ | refine VH.cons0 ?_ | refine VH.cons rfl rfl (Vb.ob _) ?_ | exact VS.nil | exact VH.nil | exact Vws.nil | refine VS.cons rfl ?_ ?_ | refine VH.cons rfl rfl (Vb.box ?_) ?_ | refine VH.cons rfl rfl (Vb.arr ?_) ?_ | exact vws_dm _ | refine Vws.cons ?_ ?_ | exact Vw.d _ | exact Vw.p rfl | exact Vw.h rfl | exact Vw.e rfl | exact Vw.s rfl | exact Vw.q _ | refine Vw.a ?_ | refine Vw.t ?_ | exact Vw.nil | exact Vw.fh rfl rfl (vws_dm _) | exact Vw.fe rfl rfl (vws_dm _) (fe_of (by assumption)) | exact Vw.fe rfl rfl (vws_dm _) (fe_of0 (by assumption)) | refine Vw.fp0 rfl rfl ?_ | exact Vw.mp rfl | refine VH.cons rfl rfl (Vb.mt _ _) ?_ | exact Vw.sc rfl | exact Vw.un _)) (by repeat (first | refine VH.cons rfl rfl vb_tpb ?_ | refine VH.cons0 ?_ | refine VH.cons rfl rfl (Vb.ob _) ?_ | exact VS.nil | exact VH.nil | exact Vws.nil | refine VS.cons rfl ?_ ?_ | refine VH.cons rfl rfl (Vb.box ?_) ?_ | refine VH.cons rfl rfl (Vb.arr ?_) ?_ | exact vws_dm _ | refine Vws.cons ?_ ?_ | exact Vw.d _ | exact Vw.p rfl | exact Vw.h rfl | exact Vw.e rfl | exact Vw.s rfl | exact Vw.q _ | refine Vw.a ?_ | refine Vw.t ?_ | exact Vw.nil | exact Vw.fh rfl rfl (vws_dm _) | exact Vw.fe rfl rfl (vws_dm _) (fe_of (by assumption)) | exact Vw.fe rfl rfl (vws_dm _) (fe_of0 (by assumption)) | refine Vw.fp0 rfl rfl ?_ | exact Vw.mp rfl | refine VH.cons rfl rfl (Vb.mt _ _) ?_ | exact Vw.sc rfl | exact Vw.un _))) ⟨0, rfl, ?_, rfl⟩ ?_; rotate_left; rintro κ _ ⟨m, rfl, hP, rfl⟩; rotate_left
  · exact ⟨by omega, fun j _ h => by omega⟩
  obtain ⟨hm, hP⟩ := hP
  (repeat' (first | refine sw ?_ | refine wc_draw (id := 1) [⟨1, 0, [1]⟩, ⟨2, 2, [6]⟩, ⟨0, 0, []⟩, ⟨3, 7, [5, 7]⟩, ⟨4, 15, [8]⟩] mixed (by kernel_rfl) ?_ | (refine swt ?_; intro x τ hx) | (refine sp ?_ ?_ <;> (intro h; (first | (have h2 : (_ : Bool) = _ := h; clear h2; subst h) | skip); (try simp only [decide_eq_true_eq, decide_eq_false_iff_not, Bool.not_eq_true', Bool.not_eq_false', Kv.eta, Bnd.eta, Rng.eta, tn_sub1] at h); (first | (have h2 : (_ : Bool) = _ := h; clear h2; subst h) | skip))) | fail))
  all_goals (try (have hA := all_of hP (by omega)))
  all_goals (try (have hA := all_not (p := vld) (l := l) (m := m) (by omega) (by simp only [Rng.eta, *]; rfl)))
  all_goals (try ((first | refine wk_pure rfl (by first | exact trivial | exact resT_cell rfl rfl (by exact inferInstance) trivial) rfl (by first | exact Vw.fmp rfl rfl rfl | exact Vw.nil | exact Vw.d _ | (repeat (first | exact Vws.nil | apply Vws.cons | exact Vw.nil | exact Vw.d _ | apply Vw.a | apply Vw.t | exact Vw.fh rfl rfl (vws_dm _) | exact Vw.fh rfl rfl Vws.nil)); done) ?_ | refine wk_pure_n rfl (by first | exact trivial | exact resT_cell rfl rfl (by exact inferInstance) trivial) rfl (by first | exact Vw.fmp rfl rfl rfl | exact Vw.nil | exact Vw.d _ | (repeat (first | exact Vws.nil | apply Vws.cons | exact Vw.nil | exact Vw.d _ | apply Vw.a | apply Vw.t | exact Vw.fh rfl rfl (vws_dm _) | exact Vw.fh rfl rfl Vws.nil)); done) ?_); refine ⟨?_, rfl⟩; (try simp only [Bool.not_eq_true, Bool.not_eq_false, decide_eq_true_eq, decide_eq_false_iff_not] at *); first | (simp_all [qchk]; done) | (simp_all [qchk] <;> omega) | grind [qchk]))
  refine wk_loop_n (l.length - (m + 1)) (st' := ⟨[(1, .p 101 0), (15, .d (lst Rng.ds l)), (16, vI l.length), (17, vI ((m + 1) : Int))], [(101, some (.box 29 [vI k, .d (lst Rng.ds l), vS key, vI c]))]⟩) (wk [(101, 101)] rfl rfl rfl rfl (by repeat (first | refine VH.cons rfl rfl vb_tpb ?_ | refine VH.cons0 ?_ | refine VH.cons rfl rfl (Vb.ob _) ?_ | exact VS.nil | exact VH.nil | exact Vws.nil | refine VS.cons rfl ?_ ?_ | refine VH.cons rfl rfl (Vb.box ?_) ?_ | refine VH.cons rfl rfl (Vb.arr ?_) ?_ | exact vws_dm _ | refine Vws.cons ?_ ?_ | exact Vw.d _ | exact Vw.p rfl | exact Vw.h rfl | exact Vw.e rfl | exact Vw.s rfl | exact Vw.q _ | refine Vw.a ?_ | refine Vw.t ?_ | exact Vw.nil | exact Vw.fh rfl rfl (vws_dm _) | exact Vw.fe rfl rfl (vws_dm _) (fe_of (by assumption)) | exact Vw.fe rfl rfl (vws_dm _) (fe_of0 (by assumption)) | refine Vw.fp0 rfl rfl ?_ | exact Vw.mp rfl | refine VH.cons rfl rfl (Vb.mt _ _) ?_ | exact Vw.sc rfl | exact Vw.un _)) (by repeat (first | refine VH.cons rfl rfl vb_tpb ?_ | refine VH.cons0 ?_ | refine VH.cons rfl rfl (Vb.ob _) ?_ | exact VS.nil | exact VH.nil | exact Vws.nil | refine VS.cons rfl ?_ ?_ | refine VH.cons rfl rfl (Vb.box ?_) ?_ | refine VH.cons rfl rfl (Vb.arr ?_) ?_ | exact vws_dm _ | refine Vws.cons ?_ ?_ | exact Vw.d _ | exact Vw.p rfl | exact Vw.h rfl | exact Vw.e rfl | exact Vw.s rfl | exact Vw.q _ | refine Vw.a ?_ | refine Vw.t ?_ | exact Vw.nil | exact Vw.fh rfl rfl (vws_dm _) | exact Vw.fe rfl rfl (vws_dm _) (fe_of (by assumption)) | exact Vw.fe rfl rfl (vws_dm _) (fe_of0 (by assumption)) | refine Vw.fp0 rfl rfl ?_ | exact Vw.mp rfl | refine VH.cons rfl rfl (Vb.mt _ _) ?_ | exact Vw.sc rfl | exact Vw.un _))) ?_ ⟨m + 1, rfl, ?_, rfl⟩
  · omega
  · refine ⟨by omega, fun j h1 h2 => ?_⟩
    by_cases e : j = m
    · subst e; assumption
    · exact hP j h1 (by omega)⟩
end Go.Proofs.YtohpjdeohpamaaaGreat
namespace Go.Proofs.YtohpjdeohpamaaaGreat
open Go.RowKit
def qrs (k : Int) (l : List Rng) (key : ByteArray) : List Rng := if k = 1 then l else if k = 2 then [pfx key] else if k = 3 then [⟨⟨key, false⟩, ⟨⟨#[]⟩, true⟩⟩] else [⟨⟨⟨#[]⟩, false⟩, ⟨key, false⟩⟩]
def qranges (k : Int) (l : List Rng) (key : ByteArray) (c : Int) : List Rng := if qchk k l key c = 0 then union (qrs k l key) else []
theorem qchk_0 {k c : Int} {l : List Rng} {key : ByteArray} (h : qchk k l key c = 0) : (k = 1 ∨ k = 2 ∨ k = 3 ∨ k = 4) ∧ (k ≠ 1 → l = []) ∧ l.length ≤ 64 := by
  unfold qchk at h
  by_cases a1 : k < 1 ∨ 4 < k
  · simp [a1] at h
  by_cases a2 : 64 < l.length
  · simp [a1, a2] at h
  by_cases a3 : l.all vld = false
  · rw [if_neg a1, if_neg a2, if_pos a3] at h; omega
  by_cases a4 : vk key = false ∨ (0 < l.length ∧ k ≠ 1) ∨ (key ≠ ⟨#[]⟩ ∧ k = 1)
  · rw [if_neg a1, if_neg a2, if_neg a3, if_pos a4] at h; omega
  exact ⟨by omega, fun h1 => List.eq_nil_of_length_eq_zero (Nat.eq_zero_of_not_pos fun h2 => a4 (.inr (.inl ⟨h2, h1⟩))), by omega⟩
theorem mrg_len : ∀ (l : List Rng) (c : Rng), (mrg c l).length ≤ l.length + 1
  | [], c => by simp [mrg]
  | r :: l, c => by
    unfold mrg
    split
    · have := mrg_len l ⟨c.lo, greater c.hi r.hi⟩
      simp; omega
    · have := mrg_len l r
      simp; omega
theorem union_len (l : List Rng) : (union l).length ≤ l.length := by
  unfold union
  have h1 : ((l.filter ne).mergeSort leLo).length ≤ l.length := by rw [List.length_mergeSort]; exact List.length_filter_le _ _
  cases h : (l.filter ne).mergeSort leLo with
  | nil => simp [mrgAll]
  | cons r l' =>
    rw [h] at h1
    have := mrg_len l' r
    simp only [mrgAll, List.length_cons] at h1 ⊢
    omega
def qslices (t : List Kv) (rs : List Rng) : List Kv := rs.flatMap fun r => t.filter fun x => contains r x.key
theorem qranges_le (k : Int) (l : List Rng) (key : ByteArray) (c : Int) : (qranges k l key c).length ≤ 64 := by
  unfold qranges
  split
  · rename_i h
    have hq := qchk_0 h
    refine Nat.le_trans (union_len _) ?_
    unfold qrs
    split
    · exact hq.2.2
    split
    · simp
    split <;> simp
  · simp
end Go.Proofs.YtohpjdeohpamaaaGreat
namespace Go.Proofs.YtohpjdeohpamaaaGreat
open Go.RowKit
attribute [local irreducible] WK WC WL Wk Rel OpD OpV WD WO Op.bytesLess cmp vk vb vld emp contains
attribute [local irreducible] union pfx
instance maker1_p (k c : Int) (l : List Rng) (key : ByteArray) : Ct Tryz.prog 96 [vQ k l key c] True (.d (lst Rng.ds l)) := ⟨fun _ => by
  refine Spec.intro Tryz.func96 rfl rfl Tryz.ntmps96 Tryz.results96 rfl fun B w0 ρ0 => ?_; simp only [slots, List.map_nil, List.map_cons, Nat.reduceAdd]
  (repeat' (first | refine sw ?_ | (refine swt ?_; intro x τ hx) | (refine sp ?_ ?_ <;> (intro h; (first | (have h2 : (_ : Bool) = _ := h; clear h2; subst h) | skip); (try simp only [decide_eq_true_eq, decide_eq_false_iff_not, Bool.not_eq_true', Bool.not_eq_false', Kv.eta, Bnd.eta, Rng.eta, tn_sub1] at h); (first | (have h2 : (_ : Bool) = _ := h; clear h2; subst h) | skip))) | fail))
  all_goals (first | refine wk_pure rfl (by first | exact trivial | exact resT_cell rfl rfl (by exact inferInstance) trivial) rfl (by first | exact Vw.fmp rfl rfl rfl | exact Vw.nil | exact Vw.d _ | (repeat (first | exact Vws.nil | apply Vws.cons | exact Vw.nil | exact Vw.d _ | apply Vw.a | apply Vw.t | exact Vw.fh rfl rfl (vws_dm _) | exact Vw.fh rfl rfl Vws.nil)); done) ?_ | refine wk_pure_n rfl (by first | exact trivial | exact resT_cell rfl rfl (by exact inferInstance) trivial) rfl (by first | exact Vw.fmp rfl rfl rfl | exact Vw.nil | exact Vw.d _ | (repeat (first | exact Vws.nil | apply Vws.cons | exact Vw.nil | exact Vw.d _ | apply Vw.a | apply Vw.t | exact Vw.fh rfl rfl (vws_dm _) | exact Vw.fh rfl rfl Vws.nil)); done) ?_)
  all_goals exact ⟨rfl, rfl⟩⟩
instance maker2_p (k c : Int) (l : List Rng) (key : ByteArray) : Ct Tryz.prog 97 [vQ k l key c] True (.d (lst Rng.ds [pfx key])) := ⟨fun _ => by
  refine Spec.intro Tryz.func97 rfl rfl Tryz.ntmps97 Tryz.results97 rfl fun B w0 ρ0 => ?_; simp only [slots, List.map_nil, List.map_cons, Nat.reduceAdd]
  (repeat' (first | refine wl_bt Rng.ds [pfx key] rfl rfl (by simp only [flatV, cellsV, List.cons_append, List.nil_append, List.append_nil]; exact rfl) rfl rfl rfl rfl rfl rfl ?_ | refine wd_bt Rng.ds [pfx key] rfl rfl (by simp only [flatV, cellsV, List.cons_append, List.nil_append, List.append_nil]; exact rfl) rfl rfl rfl rfl (by first | exact .no rfl | exact .y rfl rfl rfl rfl) rfl rfl ?_ | refine sw ?_ | (refine swt ?_; intro x τ hx) | (refine sp ?_ ?_ <;> (intro h; (first | (have h2 : (_ : Bool) = _ := h; clear h2; subst h) | skip); (try simp only [decide_eq_true_eq, decide_eq_false_iff_not, Bool.not_eq_true', Bool.not_eq_false', Kv.eta, Bnd.eta, Rng.eta, tn_sub1] at h); (first | (have h2 : (_ : Bool) = _ := h; clear h2; subst h) | skip))) | fail))
  all_goals (first | refine wk_pure rfl (by first | exact trivial | exact resT_cell rfl rfl (by exact inferInstance) trivial) rfl (by first | exact Vw.fmp rfl rfl rfl | exact Vw.nil | exact Vw.d _ | (repeat (first | exact Vws.nil | apply Vws.cons | exact Vw.nil | exact Vw.d _ | apply Vw.a | apply Vw.t | exact Vw.fh rfl rfl (vws_dm _) | exact Vw.fh rfl rfl Vws.nil)); done) ?_ | refine wk_pure_n rfl (by first | exact trivial | exact resT_cell rfl rfl (by exact inferInstance) trivial) rfl (by first | exact Vw.fmp rfl rfl rfl | exact Vw.nil | exact Vw.d _ | (repeat (first | exact Vws.nil | apply Vws.cons | exact Vw.nil | exact Vw.d _ | apply Vw.a | apply Vw.t | exact Vw.fh rfl rfl (vws_dm _) | exact Vw.fh rfl rfl Vws.nil)); done) ?_)
  all_goals exact ⟨rfl, rfl⟩⟩
instance maker3_p (k c : Int) (l : List Rng) (key : ByteArray) : Ct Tryz.prog 99 [vQ k l key c] True (.d (lst Rng.ds [⟨⟨key, false⟩, ⟨⟨#[]⟩, true⟩⟩])) := ⟨fun _ => by
  refine Spec.intro Tryz.func99 rfl rfl Tryz.ntmps99 Tryz.results99 rfl fun B w0 ρ0 => ?_; simp only [slots, List.map_nil, List.map_cons, Nat.reduceAdd]
  (repeat' (first | refine wl_bt Rng.ds [⟨⟨key, false⟩, ⟨⟨#[]⟩, true⟩⟩] rfl rfl (by simp only [flatV, cellsV, List.cons_append, List.nil_append, List.append_nil]; exact rfl) rfl rfl rfl rfl rfl rfl ?_ | refine wd_bt Rng.ds [⟨⟨key, false⟩, ⟨⟨#[]⟩, true⟩⟩] rfl rfl (by simp only [flatV, cellsV, List.cons_append, List.nil_append, List.append_nil]; exact rfl) rfl rfl rfl rfl (by first | exact .no rfl | exact .y rfl rfl rfl rfl) rfl rfl ?_ | refine sw ?_ | (refine swt ?_; intro x τ hx) | (refine sp ?_ ?_ <;> (intro h; (first | (have h2 : (_ : Bool) = _ := h; clear h2; subst h) | skip); (try simp only [decide_eq_true_eq, decide_eq_false_iff_not, Bool.not_eq_true', Bool.not_eq_false', Kv.eta, Bnd.eta, Rng.eta, tn_sub1] at h); (first | (have h2 : (_ : Bool) = _ := h; clear h2; subst h) | skip))) | fail))
  all_goals (first | refine wk_pure rfl (by first | exact trivial | exact resT_cell rfl rfl (by exact inferInstance) trivial) rfl (by first | exact Vw.fmp rfl rfl rfl | exact Vw.nil | exact Vw.d _ | (repeat (first | exact Vws.nil | apply Vws.cons | exact Vw.nil | exact Vw.d _ | apply Vw.a | apply Vw.t | exact Vw.fh rfl rfl (vws_dm _) | exact Vw.fh rfl rfl Vws.nil)); done) ?_ | refine wk_pure_n rfl (by first | exact trivial | exact resT_cell rfl rfl (by exact inferInstance) trivial) rfl (by first | exact Vw.fmp rfl rfl rfl | exact Vw.nil | exact Vw.d _ | (repeat (first | exact Vws.nil | apply Vws.cons | exact Vw.nil | exact Vw.d _ | apply Vw.a | apply Vw.t | exact Vw.fh rfl rfl (vws_dm _) | exact Vw.fh rfl rfl Vws.nil)); done) ?_)
  all_goals exact ⟨rfl, rfl⟩⟩
instance maker4_p (k c : Int) (l : List Rng) (key : ByteArray) : Ct Tryz.prog 100 [vQ k l key c] True (.d (lst Rng.ds [⟨⟨⟨#[]⟩, false⟩, ⟨key, false⟩⟩])) := ⟨fun _ => by
  refine Spec.intro Tryz.func100 rfl rfl Tryz.ntmps100 Tryz.results100 rfl fun B w0 ρ0 => ?_; simp only [slots, List.map_nil, List.map_cons, Nat.reduceAdd]
  (repeat' (first | refine wl_bt Rng.ds [⟨⟨⟨#[]⟩, false⟩, ⟨key, false⟩⟩] rfl rfl (by simp only [flatV, cellsV, List.cons_append, List.nil_append, List.append_nil]; exact rfl) rfl rfl rfl rfl rfl rfl ?_ | refine wd_bt Rng.ds [⟨⟨⟨#[]⟩, false⟩, ⟨key, false⟩⟩] rfl rfl (by simp only [flatV, cellsV, List.cons_append, List.nil_append, List.append_nil]; exact rfl) rfl rfl rfl rfl (by first | exact .no rfl | exact .y rfl rfl rfl rfl) rfl rfl ?_ | refine sw ?_ | (refine swt ?_; intro x τ hx) | (refine sp ?_ ?_ <;> (intro h; (first | (have h2 : (_ : Bool) = _ := h; clear h2; subst h) | skip); (try simp only [decide_eq_true_eq, decide_eq_false_iff_not, Bool.not_eq_true', Bool.not_eq_false', Kv.eta, Bnd.eta, Rng.eta, tn_sub1] at h); (first | (have h2 : (_ : Bool) = _ := h; clear h2; subst h) | skip))) | fail))
  all_goals (first | refine wk_pure rfl (by first | exact trivial | exact resT_cell rfl rfl (by exact inferInstance) trivial) rfl (by first | exact Vw.fmp rfl rfl rfl | exact Vw.nil | exact Vw.d _ | (repeat (first | exact Vws.nil | apply Vws.cons | exact Vw.nil | exact Vw.d _ | apply Vw.a | apply Vw.t | exact Vw.fh rfl rfl (vws_dm _) | exact Vw.fh rfl rfl Vws.nil)); done) ?_ | refine wk_pure_n rfl (by first | exact trivial | exact resT_cell rfl rfl (by exact inferInstance) trivial) rfl (by first | exact Vw.fmp rfl rfl rfl | exact Vw.nil | exact Vw.d _ | (repeat (first | exact Vws.nil | apply Vws.cons | exact Vw.nil | exact Vw.d _ | apply Vw.a | apply Vw.t | exact Vw.fh rfl rfl (vws_dm _) | exact Vw.fh rfl rfl Vws.nil)); done) ?_)
  all_goals exact ⟨rfl, rfl⟩⟩
instance qranges_r (k c : Int) (l : List Rng) (key : ByteArray) : Ct Tryz.prog 71 [vQ k l key c] (l.length < 1000000) (.d (lst Rng.ds (qranges k l key c))) := ⟨fun hl => by
  refine Spec.intro Tryz.func71 rfl rfl Tryz.ntmps71 Tryz.results71 rfl fun B w0 ρ0 => ?_; simp only [slots, List.map_nil, List.map_cons, Nat.reduceAdd]
  (repeat' (first | refine wl_bt Rng.ds [pfx key] rfl rfl (by simp only [flatV, cellsV, List.cons_append, List.nil_append, List.append_nil]; exact rfl) rfl rfl rfl rfl rfl rfl ?_ | refine wd_bt Rng.ds [pfx key] rfl rfl (by simp only [flatV, cellsV, List.cons_append, List.nil_append, List.append_nil]; exact rfl) rfl rfl rfl rfl (by first | exact .no rfl | exact .y rfl rfl rfl rfl) rfl rfl ?_ | refine wl_bt Rng.ds [⟨⟨key, false⟩, ⟨⟨#[]⟩, true⟩⟩] rfl rfl (by simp only [flatV, cellsV, List.cons_append, List.nil_append, List.append_nil]; exact rfl) rfl rfl rfl rfl rfl rfl ?_ | refine wd_bt Rng.ds [⟨⟨key, false⟩, ⟨⟨#[]⟩, true⟩⟩] rfl rfl (by simp only [flatV, cellsV, List.cons_append, List.nil_append, List.append_nil]; exact rfl) rfl rfl rfl rfl (by first | exact .no rfl | exact .y rfl rfl rfl rfl) rfl rfl ?_ | refine wl_bt Rng.ds [⟨⟨⟨#[]⟩, false⟩, ⟨key, false⟩⟩] rfl rfl (by simp only [flatV, cellsV, List.cons_append, List.nil_append, List.append_nil]; exact rfl) rfl rfl rfl rfl rfl rfl ?_ | refine wd_bt Rng.ds [⟨⟨⟨#[]⟩, false⟩, ⟨key, false⟩⟩] rfl rfl (by simp only [flatV, cellsV, List.cons_append, List.nil_append, List.append_nil]; exact rfl) rfl rfl rfl rfl (by first | exact .no rfl | exact .y rfl rfl rfl rfl) rfl rfl ?_ | refine sw ?_ | (refine swt ?_; intro x τ hx) | (refine sp ?_ ?_ <;> (intro h; (first | (have h2 : (_ : Bool) = _ := h; clear h2; subst h) | skip); (try simp only [decide_eq_true_eq, decide_eq_false_iff_not, Bool.not_eq_true', Bool.not_eq_false', Kv.eta, Bnd.eta, Rng.eta, tn_sub1] at h); (first | (have h2 : (_ : Bool) = _ := h; clear h2; subst h) | skip))) | fail))
  all_goals (first | refine wk_pure rfl (by first | exact trivial | exact resT_cell rfl rfl (by exact inferInstance) trivial) rfl (by first | exact Vw.fmp rfl rfl rfl | exact Vw.nil | exact Vw.d _ | (repeat (first | exact Vws.nil | apply Vws.cons | exact Vw.nil | exact Vw.d _ | apply Vw.a | apply Vw.t | exact Vw.fh rfl rfl (vws_dm _) | exact Vw.fh rfl rfl Vws.nil)); done) ?_ | refine wk_pure_n rfl (by first | exact trivial | exact resT_cell rfl rfl (by exact inferInstance) trivial) rfl (by first | exact Vw.fmp rfl rfl rfl | exact Vw.nil | exact Vw.d _ | (repeat (first | exact Vws.nil | apply Vws.cons | exact Vw.nil | exact Vw.d _ | apply Vw.a | apply Vw.t | exact Vw.fh rfl rfl (vws_dm _) | exact Vw.fh rfl rfl Vws.nil)); done) ?_)
  all_goals (refine ⟨?_, rfl⟩)
  all_goals first
    | (rw [qranges, if_neg h]; rfl)
    | (have hq := qchk_0 (by assumption)
       rw [qranges, if_pos (by assumption), qrs]
       first | rw [if_pos (by omega)] | rw [if_neg (by omega), if_pos (by omega)] | rw [if_neg (by omega), if_neg (by omega), if_pos (by omega)] | rw [if_neg (by omega), if_neg (by omega), if_neg (by omega)])⟩
instance qranges_p (k c : Int) (l : List Rng) (key : ByteArray) : Ct Tryz.prog 57 [vQ k l key c] (l.length < 1000000) (.d (lst Rng.ds (qranges k l key c))) := ⟨fun hl => by
  refine Spec.intro Tryz.func57 rfl rfl Tryz.ntmps57 Tryz.results57 rfl fun B w0 ρ0 => ?_; simp only [slots, List.map_nil, List.map_cons, Nat.reduceAdd]
  (repeat' (first | refine sw ?_ | refine wc_draw (id := 3) [⟨1, 0, [1]⟩, ⟨2, 2, [7]⟩, ⟨4, 0, [1]⟩, ⟨0, 0, []⟩, ⟨3, 7, [6, 8]⟩, ⟨5, 31, [9, 10]⟩, ⟨6, 63, [11]⟩, ⟨7, 127, [12]⟩] mixed (by kernel_rfl) ?_ | (refine swt ?_; intro x τ hx) | (refine sp ?_ ?_ <;> (intro h; (first | (have h2 : (_ : Bool) = _ := h; clear h2; subst h) | skip); (try simp only [decide_eq_true_eq, decide_eq_false_iff_not, Bool.not_eq_true', Bool.not_eq_false', Kv.eta, Bnd.eta, Rng.eta, tn_sub1] at h); (first | (have h2 : (_ : Bool) = _ := h; clear h2; subst h) | skip))) | fail))
  · (first | refine wk_pure rfl (by first | exact trivial | exact resT_cell rfl rfl (by exact inferInstance) trivial) rfl (by first | exact Vw.fmp rfl rfl rfl | exact Vw.nil | exact Vw.d _ | (repeat (first | exact Vws.nil | apply Vws.cons | exact Vw.nil | exact Vw.d _ | apply Vw.a | apply Vw.t | exact Vw.fh rfl rfl (vws_dm _) | exact Vw.fh rfl rfl Vws.nil)); done) ?_ | refine wk_pure_n rfl (by first | exact trivial | exact resT_cell rfl rfl (by exact inferInstance) trivial) rfl (by first | exact Vw.fmp rfl rfl rfl | exact Vw.nil | exact Vw.d _ | (repeat (first | exact Vws.nil | apply Vws.cons | exact Vw.nil | exact Vw.d _ | apply Vw.a | apply Vw.t | exact Vw.fh rfl rfl (vws_dm _) | exact Vw.fh rfl rfl Vws.nil)); done) ?_)
    refine ⟨?_, rfl⟩
    rw [qranges, if_neg h]; rfl
  have hq := qchk_0 h
  rcases hq.1 with rfl | rfl | rfl | rfl
  all_goals (repeat' (first | refine sw ?_ | refine wc_draw (id := 3) [⟨1, 0, [1]⟩, ⟨2, 2, [7]⟩, ⟨4, 0, [1]⟩, ⟨0, 0, []⟩, ⟨3, 7, [6, 8]⟩, ⟨5, 31, [9, 10]⟩, ⟨6, 63, [11]⟩, ⟨7, 127, [12]⟩] mixed (by kernel_rfl) ?_ | (refine swt ?_; intro x τ hx) | (refine sp ?_ ?_ <;> (intro h; (first | (have h2 : (_ : Bool) = _ := h; clear h2; subst h) | skip); (try simp only [decide_eq_true_eq, decide_eq_false_iff_not, Bool.not_eq_true', Bool.not_eq_false', Kv.eta, Bnd.eta, Rng.eta, tn_sub1] at h); (first | (have h2 : (_ : Bool) = _ := h; clear h2; subst h) | skip))) | fail))
  all_goals (first | refine wk_pure rfl (by first | exact trivial | exact resT_cell rfl rfl (by exact inferInstance) trivial) rfl (by first | exact Vw.fmp rfl rfl rfl | exact Vw.nil | exact Vw.d _ | (repeat (first | exact Vws.nil | apply Vws.cons | exact Vw.nil | exact Vw.d _ | apply Vw.a | apply Vw.t | exact Vw.fh rfl rfl (vws_dm _) | exact Vw.fh rfl rfl Vws.nil)); done) ?_ | refine wk_pure_n rfl (by first | exact trivial | exact resT_cell rfl rfl (by exact inferInstance) trivial) rfl (by first | exact Vw.fmp rfl rfl rfl | exact Vw.nil | exact Vw.d _ | (repeat (first | exact Vws.nil | apply Vws.cons | exact Vw.nil | exact Vw.d _ | apply Vw.a | apply Vw.t | exact Vw.fh rfl rfl (vws_dm _) | exact Vw.fh rfl rfl Vws.nil)); done) ?_)
  all_goals (refine ⟨?_, rfl⟩; rw [qranges, if_pos h, qrs]; first | rw [if_pos (by omega)] | rw [if_neg (by omega), if_pos (by omega)] | rw [if_neg (by omega), if_neg (by omega), if_pos (by omega)] | rw [if_neg (by omega), if_neg (by omega), if_neg (by omega)])⟩
end Go.Proofs.YtohpjdeohpamaaaGreat
namespace Go.Proofs.YtohpjdeohpamaaaGreat
open Go.RowKit
def Mquery_Check (q : TQuery) : Option Int := if q.Ranges.length < 1000000 then some (qchk q.Kind q.Ranges q.Key q.Count) else none
theorem Mquery_Check_sp {q : TQuery} {y : Int} (hm : Mquery_Check q = some y) : Spec Tryz.prog 52 [vQ q.Kind q.Ranges q.Key q.Count] [] fun u h => u = vI y ∧ h = [] := by
  unfold Mquery_Check at hm
  split at hm
  · obtain rfl := Option.some.inj hm
    exact (qcheck_p _ _ _ _).out (by assumption)
  · cases hm
def Mquery_Ranges (q : TQuery) : Option (List Rng) := if q.Ranges.length < 1000000 then some (qranges q.Kind q.Ranges q.Key q.Count) else none
theorem Mquery_Ranges_sp {q : TQuery} {y : List Rng} (hm : Mquery_Ranges q = some y) : Spec Tryz.prog 57 [vQ q.Kind q.Ranges q.Key q.Count] [] fun u h => u = .d (lst Rng.ds y) ∧ h = [] := by
  unfold Mquery_Ranges at hm
  split at hm
  · obtain rfl := Option.some.inj hm
    exact (inferInstance : Ct Tryz.prog 57 [vQ q.Kind q.Ranges q.Key q.Count] _ _).out (by assumption)
  · cases hm
def Mref22_Ranges (q : TQuery) : Option (List Rng) := if q.Ranges.length < 1000000 then some (qranges q.Kind q.Ranges q.Key q.Count) else none
theorem Mref22_Ranges_sp {q : TQuery} {y : List Rng} (hm : Mref22_Ranges q = some y) : Spec Tryz.prog 71 [vQ q.Kind q.Ranges q.Key q.Count] [] fun u h => u = .d (lst Rng.ds y) ∧ h = [] := by
  unfold Mref22_Ranges at hm
  split at hm
  · obtain rfl := Option.some.inj hm
    exact (inferInstance : Ct Tryz.prog 71 [vQ q.Kind q.Ranges q.Key q.Count] _ _).out (by assumption)
  · cases hm
set_option maxRecDepth 100000
set_option maxHeartbeats 4000000
attribute [local irreducible] WK WC WL Wk Rel OpD OpV WD WO sel bnd obnd app lget lsl sget ssl scat letg iquo irem Op.bytesLess
attribute [local irreducible] qchk qranges union
def Mquery_Answer_l1 (t1 : List Kv) : List Rng → List Kv → Option (List Kv)
  | [], rows6 =>
  some rows6
  | r7 :: xs8, rows6 =>
  obnd (Mtable_Slice t1 r7) fun y10 =>
  obnd (app rows6 y10) fun l11 =>
  Mquery_Answer_l1 t1 xs8 l11
def Mquery_Answer (t1 : List Kv) (q2 : TQuery) : Option (TAnswer × Int) :=
 obnd (Mquery_Check q2) fun y3 =>
 sel (!decide (y3 = 0)) (
  some ((TAnswer.mk [] (TFold.mk 0 0 0 0 0 ⟨#[]⟩ ⟨#[]⟩)), y3)) (
  obnd (Mtable_Valid t1) fun y4 =>
  sel (!y4) (
   some ((TAnswer.mk [] (TFold.mk 0 0 0 0 0 ⟨#[]⟩ ⟨#[]⟩)), 1)) (
   obnd (Mquery_Ranges q2) fun y5 =>
   obnd (
    Mquery_Answer_l1 t1 y5 [] : Option (List Kv)) fun rows12 =>
   obnd (Mquery_Take q2 rows12) fun y13 =>
   obnd (Mfold_Of y13) fun y14 =>
   some ((TAnswer.mk y13 y14), 0)))
theorem Mquery_Answer_sp {t1 : List Kv} {q2 : TQuery} {y : (TAnswer × Int)} (hm : Mquery_Answer t1 q2 = some y) : Spec Tryz.prog 38 [.d (lst Kv.ds t1), .a [vI q2.Kind, .d (lst Rng.ds q2.Ranges), vS q2.Key, vI q2.Count]] [] fun u h => u = .t [.a [.d (lst Kv.ds y.1.Rows), vI y.1.Fold.Count, vI y.1.Fold.Numbers, vI y.1.Fold.Sum, vI y.1.Fold.Low, vI y.1.Fold.High, vS y.1.Fold.First, vS y.1.Fold.Last], vI y.2] ∧ h = [] := by
 refine si Tryz.func38 Tryz.ntmps38 Tryz.results38 fun B w0 ρ0 => ?_
 unfold Mquery_Answer at hm
 refine sr ?_
 refine sr ?_
 obtain ⟨y3, hy, hm⟩ := obnd_o hm
 refine wl_cq (Mquery_Check_sp (hm := hy)) ?_
 refine sr ?_
 refine wc_cs hm ?_ ?_ <;> clear hm <;> intro hm
 ·refine sr ?_
  refine sx ?_
  cases hm
  exact wk_r
 refine sx ?_
 refine sr ?_
 obtain ⟨y4, hy, hm⟩ := obnd_o hm
 refine wl_cq (Mtable_Valid_sp (hm := hy)) ?_
 refine ss ?_
 refine wc_cs hm ?_ ?_ <;> clear hm <;> intro hm
 ·refine sr ?_
  refine sx ?_
  cases hm
  exact wk_r
 refine sx ?_
 refine sr ?_
 refine sr ?_
 obtain ⟨y5, hy, hm⟩ := obnd_o hm
 refine wl_cq (Mquery_Ranges_sp (hm := hy)) ?_
 refine ss ?_
 obtain ⟨mu1, hm1, hm⟩ := obnd_o hm
 refine wc_cut' (fun st => ∃ (rows12 : List Kv), rows12 = mu1 ∧ st = ⟨[(3, .p 103 0), (4, .p 104 0), (7, .d (lst Kv.ds rows12))], [(103, some (.box 29 [vI q2.Kind, .d (lst Rng.ds q2.Ranges), vS q2.Key, vI q2.Count])), (104, some (.box 77 [.d (.c (.slice none 0 0)), vI 0, vI 0, vI 0, vI 0, vI 0, vS ⟨#[]⟩, vS ⟨#[]⟩]))]⟩) ?_ ?_
 ·refine wc_block ?_
  refine wc_wk (wk_nil 7 5001 54 2 rfl rfl) ?_
  refine wc_len 21 rfl (fun hlenm9 => ?_)
  refine wc_loopw (fun κ st => ∃ (m9 : Nat) (rows6 : List Kv), κ = y5.length - m9 ∧ m9 ≤ y5.length ∧ Mquery_Answer_l1 t1 (y5.drop m9) rows6 = some mu1 ∧ st = ⟨[(0, .d (lst Kv.ds t1)), (3, .p 103 0), (4, .p 104 0), (7, .h 5001), (21, .d (lst Rng.ds y5)), (22, vI (y5.length : Int)), (23, vI (m9 : Int))], [(103, some (.box 29 [vI q2.Kind, .d (lst Rng.ds q2.Ranges), vS q2.Key, vI q2.Count])), (104, some (.box 77 [.d (.c (.slice none 0 0)), vI 0, vI 0, vI 0, vI 0, vI 0, vS ⟨#[]⟩, vS ⟨#[]⟩])), (5001, some (arrT 54 2 Kv.ds rows6))]⟩) [(103, 103), (104, 104), (5001, 5001)] ⟨0, _, rfl, Nat.zero_le _, hm1, rfl⟩ ?_
  rintro κ _ ⟨m9, rows6, rfl, hlem9, hm1, rfl⟩
  rcases Nat.lt_or_ge m9 y5.length with hltm9 | hgem9
  ·obtain ⟨r7, hxm9, hdr⟩ := drop_c hltm9
   rw [hdr, Mquery_Answer_l1.eq_2] at hm1
   refine sr ?_
   refine wc_seq ?_
   refine wc_cond_tt (lt_t hltm9) rfl ?_
   refine sx ?_
   refine sr ?_
   refine wl_r (o_ixm (ys := [dS r7.lo.key, dB r7.lo.top, dS r7.hi.key, dB r7.hi.top]) hxm9 rfl rfl rfl rfl) rfl rfl rfl ?_
   refine sr ?_
   obtain ⟨y10, hy, hm1⟩ := obnd_o hm1
   refine wl_cq (Mtable_Slice_sp (hm := hy)) ?_
   refine ss ?_
   obtain ⟨l11, hy, hm1⟩ := obnd_o hm1
   refine wl_2 (n_app (k' := 131) hy rfl rfl rfl rfl rfl rfl rfl rfl) rfl rfl rfl rfl ?_
   refine sr ?_
   refine wl_r (o_inc hltm9 hlenm9 rfl rfl rfl) rfl rfl rfl ?_
   refine ss ?_
   exact wk_loopw [(103, 103), (104, 104), (5001, 131)] ⟨m9 + 1, _, rfl, hltm9, hm1, rfl⟩ (by omega)
  ·rw [drop_n hgem9, Mquery_Answer_l1.eq_1] at hm1
   refine sr ?_
   refine wc_seq ?_
   refine wc_cond_ff (lt_f hgem9) rfl ?_
   refine wc_exit ?_
   refine ss ?_
   cases hm1
   exact wk_cutw [(103, 103), (104, 104)] ⟨_, rfl, rfl⟩
 rintro _ ⟨rows12, rfl, rfl⟩
 refine sr ?_
 obtain ⟨y13, hy, hm⟩ := obnd_o hm
 refine wl_cq (Mquery_Take_sp (hm := hy)) ?_
 refine sr ?_
 obtain ⟨y14, hy, hm⟩ := obnd_o hm
 refine wl_cq (Mfold_Of_sp (hm := hy)) ?_
 refine sx ?_
 cases hm
 exact wk_r

def Mref22_Answer_l1 (t1 : List Kv) : List Rng → List Kv → Option (List Kv)
  | [], rows6 =>
  some rows6
  | r7 :: xs8, rows6 =>
  obnd (Mref20_Slice t1 r7) fun y10 =>
  obnd (app rows6 y10) fun l11 =>
  Mref22_Answer_l1 t1 xs8 l11
def Mref22_Answer (t1 : List Kv) (q2 : TQuery) : Option (TAnswer × Int) :=
 bnd (Mref22_Check q2) fun y3 =>
 sel (!decide (y3 = 0)) (
  some ((TAnswer.mk [] (TFold.mk 0 0 0 0 0 ⟨#[]⟩ ⟨#[]⟩)), y3)) (
  obnd (Mref20_Valid t1) fun y4 =>
  sel (!y4) (
   some ((TAnswer.mk [] (TFold.mk 0 0 0 0 0 ⟨#[]⟩ ⟨#[]⟩)), 1)) (
   obnd (Mref22_Ranges q2) fun y5 =>
   obnd (
    Mref22_Answer_l1 t1 y5 [] : Option (List Kv)) fun rows12 =>
   obnd (Mref22_Take q2 rows12) fun y13 =>
   obnd (Mref21_Of y13) fun y14 =>
   some ((TAnswer.mk y13 y14), 0)))
theorem Mref22_Answer_sp {t1 : List Kv} {q2 : TQuery} {y : (TAnswer × Int)} (hm : Mref22_Answer t1 q2 = some y) : Spec Tryz.prog 47 [.d (lst Kv.ds t1), .a [vI q2.Kind, .d (lst Rng.ds q2.Ranges), vS q2.Key, vI q2.Count]] [] fun u h => u = .t [.a [.d (lst Kv.ds y.1.Rows), vI y.1.Fold.Count, vI y.1.Fold.Numbers, vI y.1.Fold.Sum, vI y.1.Fold.Low, vI y.1.Fold.High, vS y.1.Fold.First, vS y.1.Fold.Last], vI y.2] ∧ h = [] := by
 refine si Tryz.func47 Tryz.ntmps47 Tryz.results47 fun B w0 ρ0 => ?_
 unfold Mref22_Answer at hm
 refine sr ?_
 refine sr ?_
 obtain ⟨y3, hy, hm⟩ := bnd_o hm
 refine wl_cq (Mref22_Check_sp (hm := hy)) ?_
 refine sr ?_
 refine wc_cs hm ?_ ?_ <;> clear hm <;> intro hm
 ·refine sr ?_
  refine sx ?_
  cases hm
  exact wk_r
 refine sx ?_
 refine sr ?_
 obtain ⟨y4, hy, hm⟩ := obnd_o hm
 refine wl_cq (Mref20_Valid_sp (hm := hy)) ?_
 refine ss ?_
 refine wc_cs hm ?_ ?_ <;> clear hm <;> intro hm
 ·refine sr ?_
  refine sx ?_
  cases hm
  exact wk_r
 refine sx ?_
 refine sr ?_
 refine sr ?_
 obtain ⟨y5, hy, hm⟩ := obnd_o hm
 refine wl_cq (Mref22_Ranges_sp (hm := hy)) ?_
 refine ss ?_
 obtain ⟨mu1, hm1, hm⟩ := obnd_o hm
 refine wc_cut' (fun st => ∃ (rows12 : List Kv), rows12 = mu1 ∧ st = ⟨[(3, .p 103 0), (4, .p 104 0), (7, .d (lst Kv.ds rows12))], [(103, some (.box 29 [vI q2.Kind, .d (lst Rng.ds q2.Ranges), vS q2.Key, vI q2.Count])), (104, some (.box 77 [.d (.c (.slice none 0 0)), vI 0, vI 0, vI 0, vI 0, vI 0, vS ⟨#[]⟩, vS ⟨#[]⟩]))]⟩) ?_ ?_
 ·refine wc_block ?_
  refine wc_wk (wk_nil 7 5001 54 2 rfl rfl) ?_
  refine wc_len 21 rfl (fun hlenm9 => ?_)
  refine wc_loopw (fun κ st => ∃ (m9 : Nat) (rows6 : List Kv), κ = y5.length - m9 ∧ m9 ≤ y5.length ∧ Mref22_Answer_l1 t1 (y5.drop m9) rows6 = some mu1 ∧ st = ⟨[(0, .d (lst Kv.ds t1)), (3, .p 103 0), (4, .p 104 0), (7, .h 5001), (21, .d (lst Rng.ds y5)), (22, vI (y5.length : Int)), (23, vI (m9 : Int))], [(103, some (.box 29 [vI q2.Kind, .d (lst Rng.ds q2.Ranges), vS q2.Key, vI q2.Count])), (104, some (.box 77 [.d (.c (.slice none 0 0)), vI 0, vI 0, vI 0, vI 0, vI 0, vS ⟨#[]⟩, vS ⟨#[]⟩])), (5001, some (arrT 54 2 Kv.ds rows6))]⟩) [(103, 103), (104, 104), (5001, 5001)] ⟨0, _, rfl, Nat.zero_le _, hm1, rfl⟩ ?_
  rintro κ _ ⟨m9, rows6, rfl, hlem9, hm1, rfl⟩
  rcases Nat.lt_or_ge m9 y5.length with hltm9 | hgem9
  ·obtain ⟨r7, hxm9, hdr⟩ := drop_c hltm9
   rw [hdr, Mref22_Answer_l1.eq_2] at hm1
   refine sr ?_
   refine wc_seq ?_
   refine wc_cond_tt (lt_t hltm9) rfl ?_
   refine sx ?_
   refine sr ?_
   refine wl_r (o_ixm (ys := [dS r7.lo.key, dB r7.lo.top, dS r7.hi.key, dB r7.hi.top]) hxm9 rfl rfl rfl rfl) rfl rfl rfl ?_
   refine sr ?_
   obtain ⟨y10, hy, hm1⟩ := obnd_o hm1
   refine wl_cq (Mref20_Slice_sp (hm := hy)) ?_
   refine ss ?_
   obtain ⟨l11, hy, hm1⟩ := obnd_o hm1
   refine wl_2 (n_app (k' := 131) hy rfl rfl rfl rfl rfl rfl rfl rfl) rfl rfl rfl rfl ?_
   refine sr ?_
   refine wl_r (o_inc hltm9 hlenm9 rfl rfl rfl) rfl rfl rfl ?_
   refine ss ?_
   exact wk_loopw [(103, 103), (104, 104), (5001, 131)] ⟨m9 + 1, _, rfl, hltm9, hm1, rfl⟩ (by omega)
  ·rw [drop_n hgem9, Mref22_Answer_l1.eq_1] at hm1
   refine sr ?_
   refine wc_seq ?_
   refine wc_cond_ff (lt_f hgem9) rfl ?_
   refine wc_exit ?_
   refine ss ?_
   cases hm1
   exact wk_cutw [(103, 103), (104, 104)] ⟨_, rfl, rfl⟩
 rintro _ ⟨rows12, rfl, rfl⟩
 refine sr ?_
 obtain ⟨y13, hy, hm⟩ := obnd_o hm
 refine wl_cq (Mref22_Take_sp (hm := hy)) ?_
 refine sr ?_
 obtain ⟨y14, hy, hm⟩ := obnd_o hm
 refine wl_cq (Mref21_Of_sp (hm := hy)) ?_
 refine sx ?_
 cases hm
 exact wk_r

end Go.Proofs.YtohpjdeohpamaaaGreat
namespace Go.Proofs.YtohpjdeohpamaaaGreat
open Go.RowKit
theorem i64w_id {a : Int} (h1 : -9223372036854775808 ≤ a) (h2 : a ≤ 9223372036854775807) : i64w a = a := w64 h1 h2
theorem i64w_rng (a : Int) : -9223372036854775808 ≤ i64w a ∧ i64w a ≤ 9223372036854775807 := by
  constructor
  · simp [i64w, IntKind.wrap, IntKind.bits, IntKind.signed]; split <;> omega
  · simp [i64w, IntKind.wrap, IntKind.bits, IntKind.signed]; split <;> omega
theorem i64w_i64w (a : Int) : i64w (i64w a) = i64w a := i64w_id (i64w_rng a).1 (i64w_rng a).2
theorem sel_true {α : Type} (x y : α) : sel true x y = x := rfl
theorem sel_false {α : Type} (x y : α) : sel false x y = y := rfl
theorem sel_and (a b : Bool) : sel a b false = (a && b) := by cases a <;> rfl
theorem sel_or (a b : Bool) : sel a true b = (a || b) := by cases a <;> rfl
theorem eq_keyspace_ValidKey (k : ByteArray) : Mkeyspace_ValidKey k = vk k := by simp [Mkeyspace_ValidKey, vk]; omega
theorem eq_keyspace_ValidBound (b : Bnd) : Mkeyspace_ValidBound b = vb b := by
  simp only [Mkeyspace_ValidBound, bnd_eq, eq_keyspace_ValidKey, vb, sel_and, sel_or]
  congr 2
  rcases b with ⟨⟨⟨l⟩⟩, t⟩
  cases l <;> simp [ByteArray.toList_eq]
theorem eq_keyspace_Compare (a b : Bnd) : Mkeyspace_Compare a b = cmp a b := by
  rcases a with ⟨a, s⟩
  rcases b with ⟨b, t⟩
  have hi := bytesLess_irrefl a.toList
  have hs : bl a b = true → bl b a = false := fun h => by
    cases h2 : bl b a with
    | false => rfl
    | true => have := bytesLess_trans h h2; rw [hi] at this; cases this
  simp only [Mkeyspace_Compare, bnd_eq, sel_ite, cmp, Bnd.lt]
  cases s <;> cases t <;> simp
  all_goals (split <;> simp_all)
theorem eq_keyspace_Valid (r : Rng) : Mkeyspace_Valid r = vld r := by
  simp only [Mkeyspace_Valid, bnd_eq, eq_keyspace_ValidBound, eq_keyspace_Compare, sel_and, vld, Bool.and_assoc]
theorem eq_keyspace_Empty (r : Rng) : Mkeyspace_Empty r = emp r := by
  simp only [Mkeyspace_Empty, bnd_eq, eq_keyspace_Valid, eq_keyspace_Compare, sel_or, emp]
  congr 1
theorem eq_keyspace_Contains (r : Rng) (k : ByteArray) : Mkeyspace_Contains r k = contains r k := by
  simp only [Mkeyspace_Contains, bnd_eq, eq_keyspace_Empty, eq_keyspace_ValidKey, eq_keyspace_Compare, sel_and, contains, Bool.and_assoc]
theorem eq_ref1_ValidKey (k : ByteArray) : Mref1_ValidKey k = vk k := by simp [Mref1_ValidKey, vk]; omega
theorem eq_ref1_ValidBound (b : Bnd) : Mref1_ValidBound b = vb b := by
  simp only [Mref1_ValidBound, bnd_eq, eq_ref1_ValidKey, vb, sel_and, sel_or]
  congr 2
  rcases b with ⟨⟨⟨l⟩⟩, t⟩
  cases l <;> simp [ByteArray.toList_eq]
theorem eq_ref1_Compare (a b : Bnd) : Mref1_Compare a b = cmp a b := by
  rcases a with ⟨a, s⟩
  rcases b with ⟨b, t⟩
  have hi := bytesLess_irrefl a.toList
  have hs : bl a b = true → bl b a = false := fun h => by
    cases h2 : bl b a with
    | false => rfl
    | true => have := bytesLess_trans h h2; rw [hi] at this; cases this
  simp only [Mref1_Compare, bnd_eq, sel_ite, cmp, Bnd.lt]
  cases s <;> cases t <;> simp
  all_goals (split <;> simp_all)
theorem eq_ref1_Valid (r : Rng) : Mref1_Valid r = vld r := by
  simp only [Mref1_Valid, bnd_eq, eq_ref1_ValidBound, eq_ref1_Compare, sel_and, vld, Bool.and_assoc]
theorem eq_ref1_Empty (r : Rng) : Mref1_Empty r = emp r := by
  simp only [Mref1_Empty, bnd_eq, eq_ref1_Valid, eq_ref1_Compare, sel_or, emp]
  congr 1
theorem eq_ref1_Contains (r : Rng) (k : ByteArray) : Mref1_Contains r k = contains r k := by
  simp only [Mref1_Contains, bnd_eq, eq_ref1_Empty, eq_ref1_ValidKey, eq_ref1_Compare, sel_and, contains, Bool.and_assoc]
theorem lget_nat {α : Type} (l : List α) (m : Nat) : lget l (m : Int) = l[m]? := by
  unfold lget; rw [if_pos (by omega)]; simp
theorem app_le {α : Type} {xs ys : List α} (h : xs.length + ys.length ≤ 4294967296) : app xs ys = some (xs ++ ys) := if_pos h
theorem lsl_le {α : Type} {xs : List α} {lo hi : Int} (h : 0 ≤ lo ∧ lo ≤ hi ∧ hi ≤ xs.length) : lsl xs lo hi = some ((xs.drop lo.toNat).take (hi.toNat - lo.toNat)) := if_pos h
theorem eq_table_Slice_l1 (r : Rng) : ∀ (t out : List Kv), t.length + out.length ≤ 4294967296 → Mtable_Slice_l1 r t out = some (out ++ t.filter fun x => contains r x.key)
  | [], out, _ => by simp [Mtable_Slice_l1]
  | x :: t, out, h => by
    simp only [List.length_cons] at h
    rw [Mtable_Slice_l1.eq_2, bnd_eq, sel_ite]
    have hk : (@contains r x.key) = true ∨ contains r x.key = false := by cases contains r x.key <;> simp
    first
      | rw [eq_ref1_Contains]
      | rw [eq_keyspace_Contains]
    rcases hk with hk | hk
    · rw [if_pos hk, app_le (by simp; omega), obnd_some, eq_table_Slice_l1 r t _ (by simp; omega), List.filter_cons, if_pos hk, List.append_assoc]; rfl
    · rw [if_neg (by simp [hk]), eq_table_Slice_l1 r t _ (by omega), List.filter_cons, if_neg (by simp [hk])]
theorem eq_table_Slice (r : Rng) (t : List Kv) (h : t.length ≤ 4294967296) : Mtable_Slice t r = some (t.filter fun x => contains r x.key) := by
  rw [Mtable_Slice, eq_table_Slice_l1 r t [] (by simpa using h), obnd_some]; rfl
theorem eq_ref20_Slice_l1 (r : Rng) : ∀ (t out : List Kv), t.length + out.length ≤ 4294967296 → Mref20_Slice_l1 r t out = some (out ++ t.filter fun x => contains r x.key)
  | [], out, _ => by simp [Mref20_Slice_l1]
  | x :: t, out, h => by
    simp only [List.length_cons] at h
    rw [Mref20_Slice_l1.eq_2, bnd_eq, sel_ite]
    have hk : (@contains r x.key) = true ∨ contains r x.key = false := by cases contains r x.key <;> simp
    first
      | rw [eq_ref1_Contains]
      | rw [eq_keyspace_Contains]
    rcases hk with hk | hk
    · rw [if_pos hk, app_le (by simp; omega), obnd_some, eq_ref20_Slice_l1 r t _ (by simp; omega), List.filter_cons, if_pos hk, List.append_assoc]; rfl
    · rw [if_neg (by simp [hk]), eq_ref20_Slice_l1 r t _ (by omega), List.filter_cons, if_neg (by simp [hk])]
theorem eq_ref20_Slice (r : Rng) (t : List Kv) (h : t.length ≤ 4294967296) : Mref20_Slice t r = some (t.filter fun x => contains r x.key) := by
  rw [Mref20_Slice, eq_ref20_Slice_l1 r t [] (by simpa using h), obnd_some]; rfl
end Go.Proofs.YtohpjdeohpamaaaGreat
-- LEFT bool_ok bound_ok key_l1_ok key_ok long_l1_ok long_ok mod_ok new_ok next_ok oddKey_ok oddRows_ok oddValue_ok okT pick_ok proper_ok range_ok row_ok value_ok
namespace Go.Proofs.YtohpjdeohpamaaaGreat
open Go.RowKit
attribute [local irreducible] tpb
def ins (x : Kv) : List Kv → List Kv
  | [] => [x]
  | r :: t => if bl x.key r.key then x :: r :: t else r :: ins x t
def wthout (k : ByteArray) (l : List Kv) : List Kv := l.filter fun r => !decide (r.key = k)
def wth (x : Kv) (l : List Kv) : List Kv := ins x (wthout x.key l)
theorem ins_len (x : Kv) (l : List Kv) : (ins x l).length = l.length + 1 := by
  induction l with
  | nil => rfl
  | cons r t ih => simp only [ins]; split <;> simp [ih]
attribute [local irreducible] WK WC WL Wk Rel OpD OpV WD WO Op.bytesLess cmp vk vb vld emp contains
def put (x : Kv) (l : List Kv) : List Kv × Int := if tvalid l && vrow x then (if 1024 < (wth x l).length then ([], 16) else (wth x l, 0)) else ([], 1)
theorem tvalid_one (x : Kv) : tvalid [x] = vrow x := by
  simp [tvalid, okAt, List.range_succ]
theorem tvalid_iff (l : List Kv) : tvalid l = true ↔ l.length ≤ 1024 ∧ (∀ r ∈ l, vrow r = true) ∧ l.Pairwise (fun a b => bl a.key b.key = true) := by
  constructor
  · intro h
    simp only [tvalid, Bool.and_eq_true, decide_eq_true_eq, List.all_eq_true, List.mem_range] at h
    obtain ⟨h0, h⟩ := h
    have h' : ∀ m (hm : m < l.length), vrow l[m] = true ∧ (m = 0 ∨ bl (l[m - 1]'(by omega)).key l[m].key = true) := fun m hm => by
      have := h m hm
      rw [okAt_eq hm] at this
      simpa using this
    refine ⟨h0, fun r hr => ?_, ?_⟩
    · obtain ⟨m, hm, rfl⟩ := List.mem_iff_getElem.1 hr
      exact (h' m hm).1
    · rw [List.pairwise_iff_getElem]
      intro i j hi hj hij
      obtain ⟨d, rfl⟩ := Nat.exists_eq_add_of_lt hij
      induction d with
      | zero => simpa using (h' (i + 0 + 1) hj).2
      | succ d ih =>
        have h1 := ih (by omega) (by omega)
        have h2 := (h' (i + (d + 1) + 1) hj).2
        simp only [Nat.add_eq_zero_iff, Nat.one_ne_zero, and_false, false_or, Nat.add_sub_cancel] at h2
        exact bytesLess_trans h1 h2
  · rintro ⟨h0, h1, h2⟩
    refine tvalid_t h0 fun j hj => ?_
    rw [okAt_eq hj, h1 _ (List.getElem_mem _)]
    rw [List.pairwise_iff_getElem] at h2
    by_cases e : j = 0
    · simp [e]
    · simp [h2 (j - 1) j (by omega) hj (by omega)]
end Go.Proofs.YtohpjdeohpamaaaGreat
