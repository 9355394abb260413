/-
  Lemmas: Plain laws of the models
-/
import Derived.Test.YtohpjdeohpamaaaGreatDoorPA10
import Derived.Test.YtohpjdeohpamaaaGreatDoorPA12
import Derived.Test.YtohpjdeohpamaaaGreatDoorPA13
import Derived.Test.YtohpjdeohpamaaaGreatDoorPA17
import Derived.Test.YtohpjdeohpamaaaGreatDoorPA9
set_option linter.unusedSimpArgs false
set_option linter.unusedVariables false
namespace Go.Proofs.YtohpjdeohpamaaaGreatDoor
open Go.RowKit
def mks : List (Value × Value) := [(.int .i64 1, .func (.func 161) #[] #[]), (.int .i64 2, .func (.func 162) #[] #[]), (.int .i64 3, .func (.func 164) #[] #[]), (.int .i64 4, .func (.func 165) #[] #[])]
theorem mks_nil (k : Int) : isNilF (mget .nilFunc k mks) = decide (k < 1 ∨ 4 < k) := by
  simp only [mks, mget]
  repeat' split
  all_goals (simp only [isNilF]; symm; first | (rw [decide_eq_false]; omega) | (rw [decide_eq_true]; omega))
theorem mks_fn (k : Int) : isFn (mget .nilFunc k mks) = true := by
  simp only [mks, mget]
  repeat' split
  all_goals rfl
attribute [local irreducible] WK WC WL Wk Rel OpD OpV WD WO Op.bytesLess cmp vk vb vld emp contains
instance makers_ct : Ct Tryz.prog 122 [] True (.d (.m mks)) := ⟨fun _ => by
  refine Spec.intro Tryz.func122 rfl rfl Tryz.ntmps122 Tryz.results122 rfl fun B w0 ρ0 => ?_; simp only [slots, List.map_nil, List.map_cons, Nat.reduceAdd]
  (repeat' (first | refine sw ?_ | (refine swt ?_; intro x τ hx) | (refine sp ?_ ?_ <;> (intro h; (first | (have h2 : (_ : Bool) = _ := h; clear h2; subst h) | skip); (try simp only [decide_eq_true_eq, decide_eq_false_iff_not, Bool.not_eq_true', Bool.not_eq_false', Kv.eta, Bnd.eta, Rng.eta, tn_sub1] at h); (first | (have h2 : (_ : Bool) = _ := h; clear h2; subst h) | skip))) | fail))
  all_goals (first | refine wk_pure rfl (by first | exact trivial | exact resT_cell rfl rfl (by exact inferInstance) trivial) rfl (by first | exact Vw.fmp rfl rfl rfl | exact Vw.nil | exact Vw.d _ | (repeat (first | exact Vws.nil | apply Vws.cons | exact Vw.nil | exact Vw.d _ | apply Vw.a | apply Vw.t | exact Vw.fh rfl rfl (vws_dm _) | exact Vw.fh rfl rfl Vws.nil)); done) ?_ | refine wk_pure_n rfl (by first | exact trivial | exact resT_cell rfl rfl (by exact inferInstance) trivial) rfl (by first | exact Vw.fmp rfl rfl rfl | exact Vw.nil | exact Vw.d _ | (repeat (first | exact Vws.nil | apply Vws.cons | exact Vw.nil | exact Vw.d _ | apply Vw.a | apply Vw.t | exact Vw.fh rfl rfl (vws_dm _) | exact Vw.fh rfl rfl Vws.nil)); done) ?_)
  all_goals exact ⟨rfl, rfl⟩⟩
set_option maxHeartbeats 4000000 in
instance qcheck_p (k c : Int) (l : List Rng) (key : ByteArray) : Ct Tryz.prog 82 [vQ k l key c] (l.length < 1000000) (vI (qchk k l key c)) := ⟨fun hl => by
  have hmk := mks_nil k
  have hfn := mks_fn k
  refine Spec.intro Tryz.func82 rfl rfl Tryz.ntmps82 Tryz.results82 rfl fun B w0 ρ0 => ?_; simp only [slots, List.map_nil, List.map_cons, Nat.reduceAdd]
  (repeat' (first | refine sw ?_ | refine wc_draw (id := 1) [⟨1, 0, [1]⟩, ⟨2, 2, [6]⟩, ⟨0, 0, []⟩, ⟨3, 7, [5, 7]⟩, ⟨4, 15, [8]⟩] mixed (by kernel_rfl) ?_ | (refine swt ?_; intro x τ hx) | (refine sp ?_ ?_ <;> (intro h; (first | (have h2 : (_ : Bool) = _ := h; clear h2; subst h) | skip); (try simp only [decide_eq_true_eq, decide_eq_false_iff_not, Bool.not_eq_true', Bool.not_eq_false', Kv.eta, Bnd.eta, Rng.eta, tn_sub1] at h); (first | (have h2 : (_ : Bool) = _ := h; clear h2; subst h) | skip))) | fail))
  all_goals (try simp only [hmk, decide_eq_true_eq, decide_eq_false_iff_not] at *)
  all_goals (try ((first | refine wk_pure rfl (by first | exact trivial | exact resT_cell rfl rfl (by exact inferInstance) trivial) rfl (by first | exact Vw.fmp rfl rfl rfl | exact Vw.nil | exact Vw.d _ | (repeat (first | exact Vws.nil | apply Vws.cons | exact Vw.nil | exact Vw.d _ | apply Vw.a | apply Vw.t | exact Vw.fh rfl rfl (vws_dm _) | exact Vw.fh rfl rfl Vws.nil)); done) ?_ | refine wk_pure_n rfl (by first | exact trivial | exact resT_cell rfl rfl (by exact inferInstance) trivial) rfl (by first | exact Vw.fmp rfl rfl rfl | exact Vw.nil | exact Vw.d _ | (repeat (first | exact Vws.nil | apply Vws.cons | exact Vw.nil | exact Vw.d _ | apply Vw.a | apply Vw.t | exact Vw.fh rfl rfl (vws_dm _) | exact Vw.fh rfl rfl Vws.nil)); done) ?_); refine ⟨?_, rfl⟩; (try simp only [Bool.not_eq_true, Bool.not_eq_false, decide_eq_true_eq, decide_eq_false_iff_not] at *); first | (simp_all [qchk]; done) | (simp_all [qchk] <;> omega) | grind [qchk]))
  refine wc_loop (fun κ st => ∃ (m : Nat), κ = l.length - m ∧ (m ≤ l.length ∧ ∀ j (h : j < l.length), j < m → vld l[j] = true) ∧ st = ⟨[(1, .p 101 0), (15, .d (lst Rng.ds l)), (16, vI l.length), (17, vI (m : Int))], [(101, some (.box 25 [vI k, .d (lst Rng.ds l), vS key, vI c]))]⟩) (l.length - (0)) ⟨[(1, .p 101 0), (15, .d (lst Rng.ds l)), (16, vI l.length), (17, vI ((0) : Int))], [(101, some (.box 25 [vI k, .d (lst Rng.ds l), vS key, vI c]))]⟩ (wk [(101, 101)] rfl rfl rfl rfl (by repeat (first | refine VH.cons rfl rfl vb_tpb ?_ | refine VH.cons0 ?_ | refine VH.cons rfl rfl (Vb.ob _) ?_ | exact VS.nil | exact VH.nil | exact Vws.nil | refine VS.cons rfl ?_ ?_ | refine VH.cons rfl rfl (Vb.box ?_) ?_ | refine VH.cons rfl rfl (Vb.arr ?_) ?_ | exact vws_dm _ | refine Vws.cons ?_ ?_ | exact Vw.d _ | exact Vw.p rfl | exact Vw.h rfl | exact Vw.e rfl | exact Vw.s rfl | exact Vw.q _ | refine Vw.a ?_ | refine Vw.t ?_ | exact Vw.nil | exact Vw.fh rfl rfl (vws_dm _) | exact Vw.fe rfl rfl (vws_dm _) (fe_of (by assumption)) | exact Vw.fe rfl rfl (vws_dm _) (fe_of0 (by assumption)) | refine Vw.fp0 rfl rfl ?_ | exact Vw.mp rfl | refine VH.cons rfl rfl (Vb.mt _ _) ?_ | exact Vw.sc rfl | exact Vw.un _)) (by repeat (first | refine VH.cons rfl rfl vb_tpb ?_ | refine VH.cons0 ?_ | refine VH.cons rfl rfl (Vb.ob _) ?_ | exact VS.nil | exact VH.nil | exact Vws.nil | refine VS.cons rfl ?_ ?_ | refine VH.cons rfl rfl (Vb.box ?_) ?_ | refine VH.cons rfl rfl (Vb.arr ?_) ?_ | exact vws_dm _ | refine Vws.cons ?_ ?_ | exact Vw.d _ | exact Vw.p rfl | exact Vw.h rfl | exact Vw.e rfl | exact Vw.s rfl | exact Vw.q _ | refine Vw.a ?_ | refine Vw.t ?_ | exact Vw.nil | exact Vw.fh rfl rfl (vws_dm _) | exact Vw.fe rfl rfl (vws_dm _) (fe_of (by assumption)) | exact Vw.fe rfl rfl (vws_dm _) (fe_of0 (by assumption)) | refine Vw.fp0 rfl rfl ?_ | exact Vw.mp rfl | refine VH.cons rfl rfl (Vb.mt _ _) ?_ | exact Vw.sc rfl | exact Vw.un _))) ⟨0, rfl, ?_, rfl⟩ ?_; rotate_left; rintro κ _ ⟨m, rfl, hP, rfl⟩; rotate_left
  · exact ⟨by omega, fun j _ h => by omega⟩
  obtain ⟨hm, hP⟩ := hP
  (repeat' (first | refine sw ?_ | refine wc_draw (id := 1) [⟨1, 0, [1]⟩, ⟨2, 2, [6]⟩, ⟨0, 0, []⟩, ⟨3, 7, [5, 7]⟩, ⟨4, 15, [8]⟩] mixed (by kernel_rfl) ?_ | (refine swt ?_; intro x τ hx) | (refine sp ?_ ?_ <;> (intro h; (first | (have h2 : (_ : Bool) = _ := h; clear h2; subst h) | skip); (try simp only [decide_eq_true_eq, decide_eq_false_iff_not, Bool.not_eq_true', Bool.not_eq_false', Kv.eta, Bnd.eta, Rng.eta, tn_sub1] at h); (first | (have h2 : (_ : Bool) = _ := h; clear h2; subst h) | skip))) | fail))
  all_goals (try (have hA := all_of hP (by omega)))
  all_goals (try (have hA := all_not (p := vld) (l := l) (m := m) (by omega) (by simp only [Rng.eta, *]; rfl)))
  all_goals (try ((first | refine wk_pure rfl (by first | exact trivial | exact resT_cell rfl rfl (by exact inferInstance) trivial) rfl (by first | exact Vw.fmp rfl rfl rfl | exact Vw.nil | exact Vw.d _ | (repeat (first | exact Vws.nil | apply Vws.cons | exact Vw.nil | exact Vw.d _ | apply Vw.a | apply Vw.t | exact Vw.fh rfl rfl (vws_dm _) | exact Vw.fh rfl rfl Vws.nil)); done) ?_ | refine wk_pure_n rfl (by first | exact trivial | exact resT_cell rfl rfl (by exact inferInstance) trivial) rfl (by first | exact Vw.fmp rfl rfl rfl | exact Vw.nil | exact Vw.d _ | (repeat (first | exact Vws.nil | apply Vws.cons | exact Vw.nil | exact Vw.d _ | apply Vw.a | apply Vw.t | exact Vw.fh rfl rfl (vws_dm _) | exact Vw.fh rfl rfl Vws.nil)); done) ?_); refine ⟨?_, rfl⟩; (try simp only [Bool.not_eq_true, Bool.not_eq_false, decide_eq_true_eq, decide_eq_false_iff_not] at *); first | (simp_all [qchk]; done) | (simp_all [qchk] <;> omega) | grind [qchk]))
  refine wk_loop_n (l.length - (m + 1)) (st' := ⟨[(1, .p 101 0), (15, .d (lst Rng.ds l)), (16, vI l.length), (17, vI ((m + 1) : Int))], [(101, some (.box 25 [vI k, .d (lst Rng.ds l), vS key, vI c]))]⟩) (wk [(101, 101)] rfl rfl rfl rfl (by repeat (first | refine VH.cons rfl rfl vb_tpb ?_ | refine VH.cons0 ?_ | refine VH.cons rfl rfl (Vb.ob _) ?_ | exact VS.nil | exact VH.nil | exact Vws.nil | refine VS.cons rfl ?_ ?_ | refine VH.cons rfl rfl (Vb.box ?_) ?_ | refine VH.cons rfl rfl (Vb.arr ?_) ?_ | exact vws_dm _ | refine Vws.cons ?_ ?_ | exact Vw.d _ | exact Vw.p rfl | exact Vw.h rfl | exact Vw.e rfl | exact Vw.s rfl | exact Vw.q _ | refine Vw.a ?_ | refine Vw.t ?_ | exact Vw.nil | exact Vw.fh rfl rfl (vws_dm _) | exact Vw.fe rfl rfl (vws_dm _) (fe_of (by assumption)) | exact Vw.fe rfl rfl (vws_dm _) (fe_of0 (by assumption)) | refine Vw.fp0 rfl rfl ?_ | exact Vw.mp rfl | refine VH.cons rfl rfl (Vb.mt _ _) ?_ | exact Vw.sc rfl | exact Vw.un _)) (by repeat (first | refine VH.cons rfl rfl vb_tpb ?_ | refine VH.cons0 ?_ | refine VH.cons rfl rfl (Vb.ob _) ?_ | exact VS.nil | exact VH.nil | exact Vws.nil | refine VS.cons rfl ?_ ?_ | refine VH.cons rfl rfl (Vb.box ?_) ?_ | refine VH.cons rfl rfl (Vb.arr ?_) ?_ | exact vws_dm _ | refine Vws.cons ?_ ?_ | exact Vw.d _ | exact Vw.p rfl | exact Vw.h rfl | exact Vw.e rfl | exact Vw.s rfl | exact Vw.q _ | refine Vw.a ?_ | refine Vw.t ?_ | exact Vw.nil | exact Vw.fh rfl rfl (vws_dm _) | exact Vw.fe rfl rfl (vws_dm _) (fe_of (by assumption)) | exact Vw.fe rfl rfl (vws_dm _) (fe_of0 (by assumption)) | refine Vw.fp0 rfl rfl ?_ | exact Vw.mp rfl | refine VH.cons rfl rfl (Vb.mt _ _) ?_ | exact Vw.sc rfl | exact Vw.un _))) ?_ ⟨m + 1, rfl, ?_, rfl⟩
  · omega
  · refine ⟨by omega, fun j h1 h2 => ?_⟩
    by_cases e : j = m
    · subst e; assumption
    · exact hP j h1 (by omega)⟩
end Go.Proofs.YtohpjdeohpamaaaGreatDoor
namespace Go.Proofs.YtohpjdeohpamaaaGreatDoor
open Go.RowKit
def qrs (k : Int) (l : List Rng) (key : ByteArray) : List Rng := if k = 1 then l else if k = 2 then [pfx key] else if k = 3 then [⟨⟨key, false⟩, ⟨⟨#[]⟩, true⟩⟩] else [⟨⟨⟨#[]⟩, false⟩, ⟨key, false⟩⟩]
def qranges (k : Int) (l : List Rng) (key : ByteArray) (c : Int) : List Rng := if qchk k l key c = 0 then union (qrs k l key) else []
theorem qchk_0 {k c : Int} {l : List Rng} {key : ByteArray} (h : qchk k l key c = 0) : (k = 1 ∨ k = 2 ∨ k = 3 ∨ k = 4) ∧ (k ≠ 1 → l = []) ∧ l.length ≤ 64 := by
  unfold qchk at h
  by_cases a1 : k < 1 ∨ 4 < k
  · simp [a1] at h
  by_cases a2 : 64 < l.length
  · simp [a1, a2] at h
  by_cases a3 : l.all vld = false
  · rw [if_neg a1, if_neg a2, if_pos a3] at h; omega
  by_cases a4 : vk key = false ∨ (0 < l.length ∧ k ≠ 1) ∨ (key ≠ ⟨#[]⟩ ∧ k = 1)
  · rw [if_neg a1, if_neg a2, if_neg a3, if_pos a4] at h; omega
  exact ⟨by omega, fun h1 => List.eq_nil_of_length_eq_zero (Nat.eq_zero_of_not_pos fun h2 => a4 (.inr (.inl ⟨h2, h1⟩))), by omega⟩
end Go.Proofs.YtohpjdeohpamaaaGreatDoor
namespace Go.Proofs.YtohpjdeohpamaaaGreatDoor
open Go.RowKit
attribute [local irreducible] WK WC WL Wk Rel OpD OpV WD WO Op.bytesLess cmp vk vb vld emp contains
attribute [local irreducible] union pfx
instance maker1_p (k c : Int) (l : List Rng) (key : ByteArray) : Ct Tryz.prog 161 [vQ k l key c] True (.d (lst Rng.ds l)) := ⟨fun _ => by
  refine Spec.intro Tryz.func161 rfl rfl Tryz.ntmps161 Tryz.results161 rfl fun B w0 ρ0 => ?_; simp only [slots, List.map_nil, List.map_cons, Nat.reduceAdd]
  (repeat' (first | refine sw ?_ | (refine swt ?_; intro x τ hx) | (refine sp ?_ ?_ <;> (intro h; (first | (have h2 : (_ : Bool) = _ := h; clear h2; subst h) | skip); (try simp only [decide_eq_true_eq, decide_eq_false_iff_not, Bool.not_eq_true', Bool.not_eq_false', Kv.eta, Bnd.eta, Rng.eta, tn_sub1] at h); (first | (have h2 : (_ : Bool) = _ := h; clear h2; subst h) | skip))) | fail))
  all_goals (first | refine wk_pure rfl (by first | exact trivial | exact resT_cell rfl rfl (by exact inferInstance) trivial) rfl (by first | exact Vw.fmp rfl rfl rfl | exact Vw.nil | exact Vw.d _ | (repeat (first | exact Vws.nil | apply Vws.cons | exact Vw.nil | exact Vw.d _ | apply Vw.a | apply Vw.t | exact Vw.fh rfl rfl (vws_dm _) | exact Vw.fh rfl rfl Vws.nil)); done) ?_ | refine wk_pure_n rfl (by first | exact trivial | exact resT_cell rfl rfl (by exact inferInstance) trivial) rfl (by first | exact Vw.fmp rfl rfl rfl | exact Vw.nil | exact Vw.d _ | (repeat (first | exact Vws.nil | apply Vws.cons | exact Vw.nil | exact Vw.d _ | apply Vw.a | apply Vw.t | exact Vw.fh rfl rfl (vws_dm _) | exact Vw.fh rfl rfl Vws.nil)); done) ?_)
  all_goals exact ⟨rfl, rfl⟩⟩
instance maker2_p (k c : Int) (l : List Rng) (key : ByteArray) : Ct Tryz.prog 162 [vQ k l key c] True (.d (lst Rng.ds [pfx key])) := ⟨fun _ => by
  refine Spec.intro Tryz.func162 rfl rfl Tryz.ntmps162 Tryz.results162 rfl fun B w0 ρ0 => ?_; simp only [slots, List.map_nil, List.map_cons, Nat.reduceAdd]
  (repeat' (first | refine wl_bt Rng.ds [pfx key] rfl rfl (by simp only [flatV, cellsV, List.cons_append, List.nil_append, List.append_nil]; exact rfl) rfl rfl rfl rfl rfl rfl ?_ | refine wd_bt Rng.ds [pfx key] rfl rfl (by simp only [flatV, cellsV, List.cons_append, List.nil_append, List.append_nil]; exact rfl) rfl rfl rfl rfl (by first | exact .no rfl | exact .y rfl rfl rfl rfl) rfl rfl ?_ | refine sw ?_ | (refine swt ?_; intro x τ hx) | (refine sp ?_ ?_ <;> (intro h; (first | (have h2 : (_ : Bool) = _ := h; clear h2; subst h) | skip); (try simp only [decide_eq_true_eq, decide_eq_false_iff_not, Bool.not_eq_true', Bool.not_eq_false', Kv.eta, Bnd.eta, Rng.eta, tn_sub1] at h); (first | (have h2 : (_ : Bool) = _ := h; clear h2; subst h) | skip))) | fail))
  all_goals (first | refine wk_pure rfl (by first | exact trivial | exact resT_cell rfl rfl (by exact inferInstance) trivial) rfl (by first | exact Vw.fmp rfl rfl rfl | exact Vw.nil | exact Vw.d _ | (repeat (first | exact Vws.nil | apply Vws.cons | exact Vw.nil | exact Vw.d _ | apply Vw.a | apply Vw.t | exact Vw.fh rfl rfl (vws_dm _) | exact Vw.fh rfl rfl Vws.nil)); done) ?_ | refine wk_pure_n rfl (by first | exact trivial | exact resT_cell rfl rfl (by exact inferInstance) trivial) rfl (by first | exact Vw.fmp rfl rfl rfl | exact Vw.nil | exact Vw.d _ | (repeat (first | exact Vws.nil | apply Vws.cons | exact Vw.nil | exact Vw.d _ | apply Vw.a | apply Vw.t | exact Vw.fh rfl rfl (vws_dm _) | exact Vw.fh rfl rfl Vws.nil)); done) ?_)
  all_goals exact ⟨rfl, rfl⟩⟩
instance maker3_p (k c : Int) (l : List Rng) (key : ByteArray) : Ct Tryz.prog 164 [vQ k l key c] True (.d (lst Rng.ds [⟨⟨key, false⟩, ⟨⟨#[]⟩, true⟩⟩])) := ⟨fun _ => by
  refine Spec.intro Tryz.func164 rfl rfl Tryz.ntmps164 Tryz.results164 rfl fun B w0 ρ0 => ?_; simp only [slots, List.map_nil, List.map_cons, Nat.reduceAdd]
  (repeat' (first | refine wl_bt Rng.ds [⟨⟨key, false⟩, ⟨⟨#[]⟩, true⟩⟩] rfl rfl (by simp only [flatV, cellsV, List.cons_append, List.nil_append, List.append_nil]; exact rfl) rfl rfl rfl rfl rfl rfl ?_ | refine wd_bt Rng.ds [⟨⟨key, false⟩, ⟨⟨#[]⟩, true⟩⟩] rfl rfl (by simp only [flatV, cellsV, List.cons_append, List.nil_append, List.append_nil]; exact rfl) rfl rfl rfl rfl (by first | exact .no rfl | exact .y rfl rfl rfl rfl) rfl rfl ?_ | refine sw ?_ | (refine swt ?_; intro x τ hx) | (refine sp ?_ ?_ <;> (intro h; (first | (have h2 : (_ : Bool) = _ := h; clear h2; subst h) | skip); (try simp only [decide_eq_true_eq, decide_eq_false_iff_not, Bool.not_eq_true', Bool.not_eq_false', Kv.eta, Bnd.eta, Rng.eta, tn_sub1] at h); (first | (have h2 : (_ : Bool) = _ := h; clear h2; subst h) | skip))) | fail))
  all_goals (first | refine wk_pure rfl (by first | exact trivial | exact resT_cell rfl rfl (by exact inferInstance) trivial) rfl (by first | exact Vw.fmp rfl rfl rfl | exact Vw.nil | exact Vw.d _ | (repeat (first | exact Vws.nil | apply Vws.cons | exact Vw.nil | exact Vw.d _ | apply Vw.a | apply Vw.t | exact Vw.fh rfl rfl (vws_dm _) | exact Vw.fh rfl rfl Vws.nil)); done) ?_ | refine wk_pure_n rfl (by first | exact trivial | exact resT_cell rfl rfl (by exact inferInstance) trivial) rfl (by first | exact Vw.fmp rfl rfl rfl | exact Vw.nil | exact Vw.d _ | (repeat (first | exact Vws.nil | apply Vws.cons | exact Vw.nil | exact Vw.d _ | apply Vw.a | apply Vw.t | exact Vw.fh rfl rfl (vws_dm _) | exact Vw.fh rfl rfl Vws.nil)); done) ?_)
  all_goals exact ⟨rfl, rfl⟩⟩
instance maker4_p (k c : Int) (l : List Rng) (key : ByteArray) : Ct Tryz.prog 165 [vQ k l key c] True (.d (lst Rng.ds [⟨⟨⟨#[]⟩, false⟩, ⟨key, false⟩⟩])) := ⟨fun _ => by
  refine Spec.intro Tryz.func165 rfl rfl Tryz.ntmps165 Tryz.results165 rfl fun B w0 ρ0 => ?_; simp only [slots, List.map_nil, List.map_cons, Nat.reduceAdd]
  (repeat' (first | refine wl_bt Rng.ds [⟨⟨⟨#[]⟩, false⟩, ⟨key, false⟩⟩] rfl rfl (by simp only [flatV, cellsV, List.cons_append, List.nil_append, List.append_nil]; exact rfl) rfl rfl rfl rfl rfl rfl ?_ | refine wd_bt Rng.ds [⟨⟨⟨#[]⟩, false⟩, ⟨key, false⟩⟩] rfl rfl (by simp only [flatV, cellsV, List.cons_append, List.nil_append, List.append_nil]; exact rfl) rfl rfl rfl rfl (by first | exact .no rfl | exact .y rfl rfl rfl rfl) rfl rfl ?_ | refine sw ?_ | (refine swt ?_; intro x τ hx) | (refine sp ?_ ?_ <;> (intro h; (first | (have h2 : (_ : Bool) = _ := h; clear h2; subst h) | skip); (try simp only [decide_eq_true_eq, decide_eq_false_iff_not, Bool.not_eq_true', Bool.not_eq_false', Kv.eta, Bnd.eta, Rng.eta, tn_sub1] at h); (first | (have h2 : (_ : Bool) = _ := h; clear h2; subst h) | skip))) | fail))
  all_goals (first | refine wk_pure rfl (by first | exact trivial | exact resT_cell rfl rfl (by exact inferInstance) trivial) rfl (by first | exact Vw.fmp rfl rfl rfl | exact Vw.nil | exact Vw.d _ | (repeat (first | exact Vws.nil | apply Vws.cons | exact Vw.nil | exact Vw.d _ | apply Vw.a | apply Vw.t | exact Vw.fh rfl rfl (vws_dm _) | exact Vw.fh rfl rfl Vws.nil)); done) ?_ | refine wk_pure_n rfl (by first | exact trivial | exact resT_cell rfl rfl (by exact inferInstance) trivial) rfl (by first | exact Vw.fmp rfl rfl rfl | exact Vw.nil | exact Vw.d _ | (repeat (first | exact Vws.nil | apply Vws.cons | exact Vw.nil | exact Vw.d _ | apply Vw.a | apply Vw.t | exact Vw.fh rfl rfl (vws_dm _) | exact Vw.fh rfl rfl Vws.nil)); done) ?_)
  all_goals exact ⟨rfl, rfl⟩⟩
instance qranges_p (k c : Int) (l : List Rng) (key : ByteArray) : Ct Tryz.prog 83 [vQ k l key c] (l.length < 1000000) (.d (lst Rng.ds (qranges k l key c))) := ⟨fun hl => by
  refine Spec.intro Tryz.func83 rfl rfl Tryz.ntmps83 Tryz.results83 rfl fun B w0 ρ0 => ?_; simp only [slots, List.map_nil, List.map_cons, Nat.reduceAdd]
  (repeat' (first | refine sw ?_ | refine wc_draw (id := 3) [⟨1, 0, [1]⟩, ⟨2, 2, [7]⟩, ⟨4, 0, [1]⟩, ⟨0, 0, []⟩, ⟨3, 7, [6, 8]⟩, ⟨5, 31, [9, 10]⟩, ⟨6, 63, [11]⟩, ⟨7, 127, [12]⟩] mixed (by kernel_rfl) ?_ | (refine swt ?_; intro x τ hx) | (refine sp ?_ ?_ <;> (intro h; (first | (have h2 : (_ : Bool) = _ := h; clear h2; subst h) | skip); (try simp only [decide_eq_true_eq, decide_eq_false_iff_not, Bool.not_eq_true', Bool.not_eq_false', Kv.eta, Bnd.eta, Rng.eta, tn_sub1] at h); (first | (have h2 : (_ : Bool) = _ := h; clear h2; subst h) | skip))) | fail))
  · (first | refine wk_pure rfl (by first | exact trivial | exact resT_cell rfl rfl (by exact inferInstance) trivial) rfl (by first | exact Vw.fmp rfl rfl rfl | exact Vw.nil | exact Vw.d _ | (repeat (first | exact Vws.nil | apply Vws.cons | exact Vw.nil | exact Vw.d _ | apply Vw.a | apply Vw.t | exact Vw.fh rfl rfl (vws_dm _) | exact Vw.fh rfl rfl Vws.nil)); done) ?_ | refine wk_pure_n rfl (by first | exact trivial | exact resT_cell rfl rfl (by exact inferInstance) trivial) rfl (by first | exact Vw.fmp rfl rfl rfl | exact Vw.nil | exact Vw.d _ | (repeat (first | exact Vws.nil | apply Vws.cons | exact Vw.nil | exact Vw.d _ | apply Vw.a | apply Vw.t | exact Vw.fh rfl rfl (vws_dm _) | exact Vw.fh rfl rfl Vws.nil)); done) ?_)
    refine ⟨?_, rfl⟩
    rw [qranges, if_neg h]; rfl
  have hq := qchk_0 h
  rcases hq.1 with rfl | rfl | rfl | rfl
  all_goals (repeat' (first | refine sw ?_ | refine wc_draw (id := 3) [⟨1, 0, [1]⟩, ⟨2, 2, [7]⟩, ⟨4, 0, [1]⟩, ⟨0, 0, []⟩, ⟨3, 7, [6, 8]⟩, ⟨5, 31, [9, 10]⟩, ⟨6, 63, [11]⟩, ⟨7, 127, [12]⟩] mixed (by kernel_rfl) ?_ | (refine swt ?_; intro x τ hx) | (refine sp ?_ ?_ <;> (intro h; (first | (have h2 : (_ : Bool) = _ := h; clear h2; subst h) | skip); (try simp only [decide_eq_true_eq, decide_eq_false_iff_not, Bool.not_eq_true', Bool.not_eq_false', Kv.eta, Bnd.eta, Rng.eta, tn_sub1] at h); (first | (have h2 : (_ : Bool) = _ := h; clear h2; subst h) | skip))) | fail))
  all_goals (first | refine wk_pure rfl (by first | exact trivial | exact resT_cell rfl rfl (by exact inferInstance) trivial) rfl (by first | exact Vw.fmp rfl rfl rfl | exact Vw.nil | exact Vw.d _ | (repeat (first | exact Vws.nil | apply Vws.cons | exact Vw.nil | exact Vw.d _ | apply Vw.a | apply Vw.t | exact Vw.fh rfl rfl (vws_dm _) | exact Vw.fh rfl rfl Vws.nil)); done) ?_ | refine wk_pure_n rfl (by first | exact trivial | exact resT_cell rfl rfl (by exact inferInstance) trivial) rfl (by first | exact Vw.fmp rfl rfl rfl | exact Vw.nil | exact Vw.d _ | (repeat (first | exact Vws.nil | apply Vws.cons | exact Vw.nil | exact Vw.d _ | apply Vw.a | apply Vw.t | exact Vw.fh rfl rfl (vws_dm _) | exact Vw.fh rfl rfl Vws.nil)); done) ?_)
  all_goals (refine ⟨?_, rfl⟩; rw [qranges, if_pos h, qrs]; first | rw [if_pos (by omega)] | rw [if_neg (by omega), if_pos (by omega)] | rw [if_neg (by omega), if_neg (by omega), if_pos (by omega)] | rw [if_neg (by omega), if_neg (by omega), if_neg (by omega)])⟩
end Go.Proofs.YtohpjdeohpamaaaGreatDoor
namespace Go.Proofs.YtohpjdeohpamaaaGreatDoor
open Go.RowKit
def Mquery_Check (q : TQuery) : Option Int := if q.Ranges.length < 1000000 then some (qchk q.Kind q.Ranges q.Key q.Count) else none
theorem Mquery_Check_sp {q : TQuery} {y : Int} (hm : Mquery_Check q = some y) : Spec Tryz.prog 82 [vQ q.Kind q.Ranges q.Key q.Count] [] fun u h => u = vI y ∧ h = [] := by
  unfold Mquery_Check at hm
  split at hm
  · obtain rfl := Option.some.inj hm
    exact (qcheck_p _ _ _ _).out (by assumption)
  · cases hm
def Mquery_Ranges (q : TQuery) : Option (List Rng) := if q.Ranges.length < 1000000 then some (qranges q.Kind q.Ranges q.Key q.Count) else none
theorem Mquery_Ranges_sp {q : TQuery} {y : List Rng} (hm : Mquery_Ranges q = some y) : Spec Tryz.prog 83 [vQ q.Kind q.Ranges q.Key q.Count] [] fun u h => u = .d (lst Rng.ds y) ∧ h = [] := by
  unfold Mquery_Ranges at hm
  split at hm
  · obtain rfl := Option.some.inj hm
    exact (inferInstance : Ct Tryz.prog 83 [vQ q.Kind q.Ranges q.Key q.Count] _ _).out (by assumption)
  · cases hm
def Mref22_Ranges (q : TQuery) : Option (List Rng) := if q.Ranges.length < 1000000 then some (qranges q.Kind q.Ranges q.Key q.Count) else none
set_option maxRecDepth 100000
set_option maxHeartbeats 4000000
attribute [local irreducible] WK WC WL Wk Rel OpD OpV WD WO sel bnd obnd app lget lsl sget ssl scat letg iquo irem Op.bytesLess
attribute [local irreducible] qchk qranges union
def Mquery_Answer_l1 (t1 : List Kv) : List Rng → List Kv → Option (List Kv)
  | [], rows6 =>
  some rows6
  | r7 :: xs8, rows6 =>
  obnd (Mtable_Slice t1 r7) fun y10 =>
  obnd (app rows6 y10) fun l11 =>
  Mquery_Answer_l1 t1 xs8 l11
def Mquery_Answer (t1 : List Kv) (q2 : TQuery) : Option (TAnswer × Int) :=
 obnd (Mquery_Check q2) fun y3 =>
 sel (!decide (y3 = 0)) (
  some ((TAnswer.mk [] (TFold.mk 0 0 0 0 0 ⟨#[]⟩ ⟨#[]⟩)), y3)) (
  obnd (Mtable_Valid t1) fun y4 =>
  sel (!y4) (
   some ((TAnswer.mk [] (TFold.mk 0 0 0 0 0 ⟨#[]⟩ ⟨#[]⟩)), 1)) (
   obnd (Mquery_Ranges q2) fun y5 =>
   obnd (
    Mquery_Answer_l1 t1 y5 [] : Option (List Kv)) fun rows12 =>
   obnd (Mquery_Take q2 rows12) fun y13 =>
   obnd (Mfold_Of y13) fun y14 =>
   some ((TAnswer.mk y13 y14), 0)))
theorem Mquery_Answer_sp {t1 : List Kv} {q2 : TQuery} {y : (TAnswer × Int)} (hm : Mquery_Answer t1 q2 = some y) : Spec Tryz.prog 50 [.d (lst Kv.ds t1), .a [vI q2.Kind, .d (lst Rng.ds q2.Ranges), vS q2.Key, vI q2.Count]] [] fun u h => u = .t [.a [.d (lst Kv.ds y.1.Rows), vI y.1.Fold.Count, vI y.1.Fold.Numbers, vI y.1.Fold.Sum, vI y.1.Fold.Low, vI y.1.Fold.High, vS y.1.Fold.First, vS y.1.Fold.Last], vI y.2] ∧ h = [] := by
 refine si Tryz.func50 Tryz.ntmps50 Tryz.results50 fun B w0 ρ0 => ?_
 unfold Mquery_Answer at hm
 refine sr ?_
 refine sr ?_
 obtain ⟨y3, hy, hm⟩ := obnd_o hm
 refine wl_cq (Mquery_Check_sp (hm := hy)) ?_
 refine sr ?_
 refine wc_cs hm ?_ ?_ <;> clear hm <;> intro hm
 ·refine sr ?_
  refine sx ?_
  cases hm
  exact wk_r
 refine sx ?_
 refine sr ?_
 obtain ⟨y4, hy, hm⟩ := obnd_o hm
 refine wl_cq (Mtable_Valid_sp (hm := hy)) ?_
 refine ss ?_
 refine wc_cs hm ?_ ?_ <;> clear hm <;> intro hm
 ·refine sr ?_
  refine sx ?_
  cases hm
  exact wk_r
 refine sx ?_
 refine sr ?_
 refine sr ?_
 obtain ⟨y5, hy, hm⟩ := obnd_o hm
 refine wl_cq (Mquery_Ranges_sp (hm := hy)) ?_
 refine ss ?_
 obtain ⟨mu1, hm1, hm⟩ := obnd_o hm
 refine wc_cut' (fun st => ∃ (rows12 : List Kv), rows12 = mu1 ∧ st = ⟨[(3, .p 103 0), (4, .p 104 0), (7, .d (lst Kv.ds rows12))], [(103, some (.box 25 [vI q2.Kind, .d (lst Rng.ds q2.Ranges), vS q2.Key, vI q2.Count])), (104, some (.box 30 [.d (.c (.slice none 0 0)), vI 0, vI 0, vI 0, vI 0, vI 0, vS ⟨#[]⟩, vS ⟨#[]⟩]))]⟩) ?_ ?_
 ·refine wc_block ?_
  refine wc_wk (wk_nil 7 5001 81 2 rfl rfl) ?_
  refine wc_len 21 rfl (fun hlenm9 => ?_)
  refine wc_loopw (fun κ st => ∃ (m9 : Nat) (rows6 : List Kv), κ = y5.length - m9 ∧ m9 ≤ y5.length ∧ Mquery_Answer_l1 t1 (y5.drop m9) rows6 = some mu1 ∧ st = ⟨[(0, .d (lst Kv.ds t1)), (3, .p 103 0), (4, .p 104 0), (7, .h 5001), (21, .d (lst Rng.ds y5)), (22, vI (y5.length : Int)), (23, vI (m9 : Int))], [(103, some (.box 25 [vI q2.Kind, .d (lst Rng.ds q2.Ranges), vS q2.Key, vI q2.Count])), (104, some (.box 30 [.d (.c (.slice none 0 0)), vI 0, vI 0, vI 0, vI 0, vI 0, vS ⟨#[]⟩, vS ⟨#[]⟩])), (5001, some (arrT 81 2 Kv.ds rows6))]⟩) [(103, 103), (104, 104), (5001, 5001)] ⟨0, _, rfl, Nat.zero_le _, hm1, rfl⟩ ?_
  rintro κ _ ⟨m9, rows6, rfl, hlem9, hm1, rfl⟩
  rcases Nat.lt_or_ge m9 y5.length with hltm9 | hgem9
  ·obtain ⟨r7, hxm9, hdr⟩ := drop_c hltm9
   rw [hdr, Mquery_Answer_l1.eq_2] at hm1
   refine sr ?_
   refine wc_seq ?_
   refine wc_cond_tt (lt_t hltm9) rfl ?_
   refine sx ?_
   refine sr ?_
   refine wl_r (o_ixm (ys := [dS r7.lo.key, dB r7.lo.top, dS r7.hi.key, dB r7.hi.top]) hxm9 rfl rfl rfl rfl) rfl rfl rfl ?_
   refine sr ?_
   obtain ⟨y10, hy, hm1⟩ := obnd_o hm1
   refine wl_cq (Mtable_Slice_sp (hm := hy)) ?_
   refine ss ?_
   obtain ⟨l11, hy, hm1⟩ := obnd_o hm1
   refine wl_2 (n_app (k' := 131) hy rfl rfl rfl rfl rfl rfl rfl rfl) rfl rfl rfl rfl ?_
   refine sr ?_
   refine wl_r (o_inc hltm9 hlenm9 rfl rfl rfl) rfl rfl rfl ?_
   refine ss ?_
   exact wk_loopw [(103, 103), (104, 104), (5001, 131)] ⟨m9 + 1, _, rfl, hltm9, hm1, rfl⟩ (by omega)
  ·rw [drop_n hgem9, Mquery_Answer_l1.eq_1] at hm1
   refine sr ?_
   refine wc_seq ?_
   refine wc_cond_ff (lt_f hgem9) rfl ?_
   refine wc_exit ?_
   refine ss ?_
   cases hm1
   exact wk_cutw [(103, 103), (104, 104)] ⟨_, rfl, rfl⟩
 rintro _ ⟨rows12, rfl, rfl⟩
 refine sr ?_
 obtain ⟨y13, hy, hm⟩ := obnd_o hm
 refine wl_cq (Mquery_Take_sp (hm := hy)) ?_
 refine sr ?_
 obtain ⟨y14, hy, hm⟩ := obnd_o hm
 refine wl_cq (Mfold_Of_sp (hm := hy)) ?_
 refine sx ?_
 cases hm
 exact wk_r

end Go.Proofs.YtohpjdeohpamaaaGreatDoor
namespace Go.Proofs.YtohpjdeohpamaaaGreatDoor
open Go.RowKit
theorem i64w_id {a : Int} (h1 : -9223372036854775808 ≤ a) (h2 : a ≤ 9223372036854775807) : i64w a = a := w64 h1 h2
theorem sel_true {α : Type} (x y : α) : sel true x y = x := rfl
theorem sel_false {α : Type} (x y : α) : sel false x y = y := rfl
theorem sel_and (a b : Bool) : sel a b false = (a && b) := by cases a <;> rfl
theorem sel_or (a b : Bool) : sel a true b = (a || b) := by cases a <;> rfl
theorem eq_keyspace_ValidKey (k : ByteArray) : Mkeyspace_ValidKey k = vk k := by simp [Mkeyspace_ValidKey, vk]; omega
theorem eq_keyspace_Compare (a b : Bnd) : Mkeyspace_Compare a b = cmp a b := by
  rcases a with ⟨a, s⟩
  rcases b with ⟨b, t⟩
  have hi := bytesLess_irrefl a.toList
  have hs : bl a b = true → bl b a = false := fun h => by
    cases h2 : bl b a with
    | false => rfl
    | true => have := bytesLess_trans h h2; rw [hi] at this; cases this
  simp only [Mkeyspace_Compare, bnd_eq, sel_ite, cmp, Bnd.lt]
  cases s <;> cases t <;> simp
  all_goals (split <;> simp_all)
theorem eq_ref1_ValidKey (k : ByteArray) : Mref1_ValidKey k = vk k := by simp [Mref1_ValidKey, vk]; omega
theorem eq_ref1_ValidBound (b : Bnd) : Mref1_ValidBound b = vb b := by
  simp only [Mref1_ValidBound, bnd_eq, eq_ref1_ValidKey, vb, sel_and, sel_or]
  congr 2
  rcases b with ⟨⟨⟨l⟩⟩, t⟩
  cases l <;> simp [ByteArray.toList_eq]
theorem eq_ref1_Compare (a b : Bnd) : Mref1_Compare a b = cmp a b := by
  rcases a with ⟨a, s⟩
  rcases b with ⟨b, t⟩
  have hi := bytesLess_irrefl a.toList
  have hs : bl a b = true → bl b a = false := fun h => by
    cases h2 : bl b a with
    | false => rfl
    | true => have := bytesLess_trans h h2; rw [hi] at this; cases this
  simp only [Mref1_Compare, bnd_eq, sel_ite, cmp, Bnd.lt]
  cases s <;> cases t <;> simp
  all_goals (split <;> simp_all)
theorem eq_ref1_Valid (r : Rng) : Mref1_Valid r = vld r := by
  simp only [Mref1_Valid, bnd_eq, eq_ref1_ValidBound, eq_ref1_Compare, sel_and, vld, Bool.and_assoc]
theorem eq_ref1_Empty (r : Rng) : Mref1_Empty r = emp r := by
  simp only [Mref1_Empty, bnd_eq, eq_ref1_Valid, eq_ref1_Compare, sel_or, emp]
  congr 1
theorem eq_ref1_Contains (r : Rng) (k : ByteArray) : Mref1_Contains r k = contains r k := by
  simp only [Mref1_Contains, bnd_eq, eq_ref1_Empty, eq_ref1_ValidKey, eq_ref1_Compare, sel_and, contains, Bool.and_assoc]
theorem lget_nat {α : Type} (l : List α) (m : Nat) : lget l (m : Int) = l[m]? := by
  unfold lget; rw [if_pos (by omega)]; simp
theorem app_le {α : Type} {xs ys : List α} (h : xs.length + ys.length ≤ 4294967296) : app xs ys = some (xs ++ ys) := if_pos h
theorem lsl_le {α : Type} {xs : List α} {lo hi : Int} (h : 0 ≤ lo ∧ lo ≤ hi ∧ hi ≤ xs.length) : lsl xs lo hi = some ((xs.drop lo.toNat).take (hi.toNat - lo.toNat)) := if_pos h
def okT (τ : TTape) : Prop := τ.l.length ≤ 600 ∧ 0 ≤ τ.at_ ∧ τ.at_ ≤ τ.l.length
theorem new_ok (l : List Int) : ∃ τ, Mwld_New l = some τ ∧ okT τ := by
  unfold Mwld_New
  rw [sel_ite]
  split
  · rename_i h
    simp only [decide_eq_true_eq] at h
    rw [lsl_le (by omega), obnd_some]
    exact ⟨_, rfl, by simp [okT]; omega⟩
  · rename_i h
    simp only [decide_eq_true_eq] at h
    exact ⟨_, rfl, by simp [okT]; omega⟩
theorem irem_ne {a b : Int} (h : b ≠ 0) : irem a b = some (a.tmod b) := if_neg h
theorem mod_ok (v n : Int) (h1 : 1 ≤ n) (h2 : n ≤ 9223372036854775807) : ∃ x, Mwld_Mod v n = some x ∧ 0 ≤ x ∧ x < n := by
  have g1 := Int.lt_tmod_of_pos v (show 0 < n by omega)
  have g2 := Int.tmod_lt_of_pos v (show 0 < n by omega)
  unfold Mwld_Mod
  rw [irem_ne (by omega), obnd_some, sel_ite]
  split
  · rename_i h
    simp only [decide_eq_true_eq] at h
    exact ⟨_, rfl, by rw [i64w_id] <;> omega, by rw [i64w_id] <;> omega⟩
  · rename_i h
    simp only [decide_eq_true_eq] at h
    exact ⟨_, rfl, by omega, by omega⟩
def Cho (n r : Int) : Prop := 0 ≤ r ∧ (1 ≤ n → r < n) ∧ (n < 1 → r = 0)
theorem next_ok {τ : TTape} (h : okT τ) (n : Int) (h2 : n ≤ 9223372036854775807) : ∃ x τ', Mwld_Tape_Next τ n = some (x, τ') ∧ okT τ' ∧ Cho n x := by
  obtain ⟨g1, g2, g3⟩ := h
  unfold Mwld_Tape_Next
  simp only [sel_ite]
  by_cases a1 : n < 1
  · simp only [a1, decide_true, if_true, obnd_some]
    exact ⟨_, _, rfl, ⟨g1, g2, g3⟩, by unfold Cho; omega⟩
  by_cases a2 : (τ.l.length : Int) ≤ τ.at_
  · simp only [a1, a2, decide_true, decide_false, Bool.false_eq_true, if_false, if_true, obnd_some]
    exact ⟨_, _, rfl, ⟨g1, g2, g3⟩, by unfold Cho; omega⟩
  · simp only [a1, a2, decide_true, decide_false, Bool.false_eq_true, if_false, obnd_some]
    have e1 : i64w (τ.at_ + 1) = τ.at_ + 1 := i64w_id (by omega) (by omega)
    have e2 : i64w (τ.at_ + 1 - 1) = τ.at_ := by rw [i64w_id (by omega) (by omega)]; omega
    obtain ⟨m, hm⟩ := Int.eq_ofNat_of_zero_le g2
    rw [e1, e2, hm, lget_nat, List.getElem?_eq_getElem (by omega), obnd_some]
    obtain ⟨x, hx, h3, h4⟩ := mod_ok τ.l[m] n (by omega) h2
    rw [hx, obnd_some]
    exact ⟨_, _, rfl, ⟨g1, by simp only; omega, by simp only; omega⟩, by unfold Cho; omega⟩
theorem bool_ok {τ : TTape} (h : okT τ) (n : Int) (h2 : n ≤ 9223372036854775807) : ∃ b τ', Mwld_Tape_Bool τ n = some (b, τ') ∧ okT τ' := by
  obtain ⟨x, τ', e, h', -⟩ := next_ok h n h2
  exact ⟨_, _, by unfold Mwld_Tape_Bool; rw [e, obnd_some], h'⟩
theorem scat_le {s t : ByteArray} (h : s.size + t.size ≤ 9223372036854775807) : scat s t = some (s ++ t) := if_pos h
theorem long_l1_ok (s : ByteArray) (n : Int) (hs : s.size ≤ 100) (hn : n ≤ 1000) : ∀ (k fuel : Nat) (out : ByteArray) (i : Int), 0 ≤ i → n - i = k → k < fuel → (out.size : Int) ≤ 100 * i → ∃ r, Mwld_long_l1 s n fuel out i = some r ∧ r.size = out.size + k * s.size
  | _, 0, _, _, _, _, h, _ => absurd h (by omega)
  | 0, fuel + 1, out, i, h0, h1, _, h2 => by
    rw [Mwld_long_l1.eq_2, sel_ite, if_neg (by simp; omega)]
    exact ⟨out, rfl, by simp⟩
  | k + 1, fuel + 1, out, i, h0, h1, h3, h2 => by
    rw [Mwld_long_l1.eq_2, sel_ite, if_pos (by simp; omega), scat_le (by omega), obnd_some, i64w_id (by omega) (by omega)]
    obtain ⟨r, e, h4⟩ := long_l1_ok s n hs hn k fuel (out ++ s) (i + 1) (by omega) (by omega) (by omega) (by rw [ByteArray.size_append]; omega)
    exact ⟨r, e, by rw [h4, ByteArray.size_append, Nat.succ_mul]; omega⟩
theorem long_ok (s : ByteArray) (n : Nat) (hs : s.size ≤ 100) (hn : n ≤ 1000) : ∃ r, Mwld_long s n = some r ∧ r.size = n * s.size := by
  obtain ⟨r, e, h⟩ := long_l1_ok s n hs (by omega) n FU ⟨#[]⟩ 0 (by omega) (by omega) (by unfold FU; omega) (by decide)
  refine ⟨r, by unfold Mwld_long; rw [e, obnd_some], ?_⟩
  rw [h]
  have : (⟨#[]⟩ : ByteArray).size = 0 := rfl
  rw [this]; simp
theorem letg_ok {i : Int} (h : Cho 6 i) : ∃ s, letg i = some s ∧ s.size ≤ 1 := by
  unfold Cho at h
  unfold letg
  rw [if_pos ⟨h.1, h.2.1 (by omega)⟩]
  exact ⟨_, rfl, letter_le _⟩
theorem key_l1_ok : ∀ (fuel : Nat) (l : List Int) (a : Int) (out : ByteArray) (i : Int), okT ⟨l, a⟩ → i.toNat < fuel → i ≤ 3 → (out.size : Int) + max i 0 ≤ 3 → ∃ k l' a', Mwld_Tape_Key_l1 fuel l a out i = some (k, l', a') ∧ okT ⟨l', a'⟩ ∧ k.size ≤ 3
  | 0, _, _, _, _, _, h1, _, _ => absurd h1 (by omega)
  | fuel + 1, l, a, out, i, h, h1, h2, h3 => by
    rw [Mwld_Tape_Key_l1.eq_2, sel_ite]
    by_cases hi : 0 < i
    · simp only [hi, decide_true, if_true, obnd_some, ocbnd_nxt]
      obtain ⟨x, τ', e, h', hx⟩ := next_ok h 6 (by omega)
      rw [e, obnd_some]
      obtain ⟨s, es, hs⟩ := letg_ok hx
      simp only
      rw [es, obnd_some, scat_le (by omega), obnd_some, i64w_id (by omega) (by omega)]
      exact key_l1_ok fuel _ _ _ _ h' (by omega) (by omega) (by rw [ByteArray.size_append]; omega)
    · simp only [hi, decide_false, Bool.false_eq_true, if_false, obnd_some, ocbnd_ret]
      exact ⟨_, _, _, rfl, h, by omega⟩
theorem key_ok {τ : TTape} (h : okT τ) : ∃ k τ', Mwld_Tape_Key τ = some (k, τ') ∧ okT τ' ∧ k.size ≤ 64 := by
  unfold Mwld_Tape_Key
  obtain ⟨x, τ1, e1, h1, hx⟩ := next_ok h 12 (by omega)
  rw [e1, obnd_some, sel_ite]
  simp only
  by_cases c1 : x = 10
  · rw [if_pos (by simpa using c1)]
    obtain ⟨y, τ2, e2, h2, hy⟩ := next_ok h1 6 (by omega)
    rw [e2, obnd_some]
    obtain ⟨s, es, hs⟩ := letg_ok hy
    obtain ⟨r, er, hr⟩ := long_ok s 64 (by omega) (by omega)
    simp only
    rw [es, obnd_some, show (64 : Int) = ((64 : Nat) : Int) from rfl, er, obnd_some]
    exact ⟨_, _, rfl, h2, by rw [hr]; omega⟩
  · rw [if_neg (by simpa using c1), sel_ite]
    by_cases c2 : x = 11
    · rw [if_pos (by simpa using c2)]
      exact ⟨_, _, rfl, h1, by decide⟩
    · rw [if_neg (by simpa using c2)]
      obtain ⟨y, τ2, e2, h2, hy⟩ := next_ok h1 3 (by omega)
      unfold Cho at hy
      rw [e2, obnd_some]
      simp only
      rw [i64w_id (by omega) (by omega)]
      have hz : (⟨#[]⟩ : ByteArray).size = 0 := rfl
      obtain ⟨k, l', a', e, h3, hk⟩ := key_l1_ok FU τ2.l τ2.at_ ⟨#[]⟩ (1 + y) h2 (by unfold FU; omega) (by omega) (by rw [hz]; omega)
      rw [e, obnd_some]
      exact ⟨_, _, rfl, h3, by simp only; omega⟩
theorem value_ok {τ : TTape} (h : okT τ) : ∃ v τ', Mwld_Tape_Value τ = some (v, τ') ∧ okT τ' ∧ v.size ≤ 64 := by
  unfold Mwld_Tape_Value
  obtain ⟨x, τ1, e1, h1, hx⟩ := next_ok h 9 (by omega)
  rw [e1, obnd_some, sel_ite]
  simp only
  split
  · exact ⟨_, _, rfl, h1, by decide⟩
  rw [sel_ite]
  split
  · obtain ⟨r, er, hr⟩ := long_ok ⟨#[57]⟩ 64 (by decide) (by omega)
    rw [show (64 : Int) = ((64 : Nat) : Int) from rfl, er, obnd_some]
    exact ⟨_, _, rfl, h1, by rw [hr]; decide⟩
  rw [sel_ite]
  split
  · exact ⟨_, _, rfl, h1, by decide⟩
  · obtain ⟨y, τ2, e2, h2, hy⟩ := next_ok h1 6 (by omega)
    unfold Cho at hy
    rw [e2, obnd_some]
    simp only
    obtain ⟨m, rfl⟩ := Int.eq_ofNat_of_zero_le hy.1
    rw [lget_nat]
    have hm : m = 0 ∨ m = 1 ∨ m = 2 ∨ m = 3 ∨ m = 4 ∨ m = 5 := by omega
    rcases hm with rfl | rfl | rfl | rfl | rfl | rfl <;> exact ⟨_, _, rfl, h2, by decide⟩
end Go.Proofs.YtohpjdeohpamaaaGreatDoor
namespace Go.Proofs.YtohpjdeohpamaaaGreatDoor
open Go.RowKit
attribute [local irreducible] tpb
def ins (x : Kv) : List Kv → List Kv
  | [] => [x]
  | r :: t => if bl x.key r.key then x :: r :: t else r :: ins x t
def wthout (k : ByteArray) (l : List Kv) : List Kv := l.filter fun r => !decide (r.key = k)
def wth (x : Kv) (l : List Kv) : List Kv := ins x (wthout x.key l)
theorem ins_len (x : Kv) (l : List Kv) : (ins x l).length = l.length + 1 := by
  induction l with
  | nil => rfl
  | cons r t ih => simp only [ins]; split <;> simp [ih]
theorem wth_len (x : Kv) (l : List Kv) : (wth x l).length ≤ l.length + 1 := by
  rw [wth, ins_len]; have := List.length_filter_le (fun r : Kv => !decide (r.key = x.key)) l; unfold wthout; omega
attribute [local irreducible] WK WC WL Wk Rel OpD OpV WD WO Op.bytesLess cmp vk vb vld emp contains
def put (x : Kv) (l : List Kv) : List Kv × Int := if tvalid l && vrow x then (if 1024 < (wth x l).length then ([], 16) else (wth x l, 0)) else ([], 1)
theorem tvalid_one (x : Kv) : tvalid [x] = vrow x := by
  simp [tvalid, okAt, List.range_succ]
theorem tvalid_iff (l : List Kv) : tvalid l = true ↔ l.length ≤ 1024 ∧ (∀ r ∈ l, vrow r = true) ∧ l.Pairwise (fun a b => bl a.key b.key = true) := by
  constructor
  · intro h
    simp only [tvalid, Bool.and_eq_true, decide_eq_true_eq, List.all_eq_true, List.mem_range] at h
    obtain ⟨h0, h⟩ := h
    have h' : ∀ m (hm : m < l.length), vrow l[m] = true ∧ (m = 0 ∨ bl (l[m - 1]'(by omega)).key l[m].key = true) := fun m hm => by
      have := h m hm
      rw [okAt_eq hm] at this
      simpa using this
    refine ⟨h0, fun r hr => ?_, ?_⟩
    · obtain ⟨m, hm, rfl⟩ := List.mem_iff_getElem.1 hr
      exact (h' m hm).1
    · rw [List.pairwise_iff_getElem]
      intro i j hi hj hij
      obtain ⟨d, rfl⟩ := Nat.exists_eq_add_of_lt hij
      induction d with
      | zero => simpa using (h' (i + 0 + 1) hj).2
      | succ d ih =>
        have h1 := ih (by omega) (by omega)
        have h2 := (h' (i + (d + 1) + 1) hj).2
        simp only [Nat.add_eq_zero_iff, Nat.one_ne_zero, and_false, false_or, Nat.add_sub_cancel] at h2
        exact bytesLess_trans h1 h2
  · rintro ⟨h0, h1, h2⟩
    refine tvalid_t h0 fun j hj => ?_
    rw [okAt_eq hj, h1 _ (List.getElem_mem _)]
    rw [List.pairwise_iff_getElem] at h2
    by_cases e : j = 0
    · simp [e]
    · simp [h2 (j - 1) j (by omega) hj (by omega)]
theorem ins_mem {x r : Kv} {l : List Kv} : r ∈ ins x l ↔ r = x ∨ r ∈ l := by
  induction l with
  | nil => simp [ins]
  | cons a t ih => simp only [ins]; split <;> simp [ih]; grind
theorem ins_pw {x : Kv} {l : List Kv} (h : l.Pairwise (fun a b => bl a.key b.key = true)) (hx : ∀ r ∈ l, r.key ≠ x.key) : (ins x l).Pairwise (fun a b => bl a.key b.key = true) := by
  induction l with
  | nil => simp [ins]
  | cons a t ih =>
    rw [List.pairwise_cons] at h
    simp only [ins]
    split
    · rename_i hb
      rw [List.pairwise_cons]
      refine ⟨fun b hb' => ?_, List.pairwise_cons.2 h⟩
      rcases List.mem_cons.1 hb' with rfl | hb'
      · exact hb
      · exact bytesLess_trans hb (h.1 b hb')
    · rename_i hb
      rw [List.pairwise_cons]
      refine ⟨fun b hb' => ?_, ih h.2 fun r hr => hx r (List.mem_cons_of_mem _ hr)⟩
      rcases ins_mem.1 hb' with rfl | hb'
      · cases hba : bl a.key b.key with
        | true => rfl
        | false => 
          have := bytesLess_total (by simpa using hb) hba
          have h3 := hx a List.mem_cons_self
          exfalso; apply h3
          have h4 := ba_eqE b.key a.key
          simp only [this, BEq.rfl] at h4
          exact (of_decide_eq_true h4.symm).symm
      · exact h.1 b hb'
theorem put_valid {x : Kv} {l : List Kv} (h : tvalid l = true) (hx : vrow x = true) (hl : l.length < 1024) : put x l = (wth x l, 0) ∧ tvalid (wth x l) = true ∧ (wth x l).length ≤ l.length + 1 := by
  have h1 := wth_len x l
  refine ⟨by simp only [put, h, hx, Bool.and_self, if_true]; rw [if_neg (by omega)], ?_, h1⟩
  rw [tvalid_iff] at h ⊢
  obtain ⟨g0, g1, g2⟩ := h
  refine ⟨by omega, fun r hr => ?_, ins_pw (List.Pairwise.filter _ g2) fun r hr => by simpa using (List.mem_filter.1 hr).2⟩
  rcases ins_mem.1 hr with rfl | hr
  · exact hx
  · exact g1 r (List.mem_filter.1 hr).1
theorem contains_lo {r : Rng} (h : emp r = false) : contains r r.lo.key = true := by
  obtain ⟨⟨a, s⟩, ⟨b, t⟩⟩ := r
  have hi := bytesLess_irrefl a.toList
  simp only [emp, contains, vld, vb, vk, cmp, Bnd.lt] at *
  cases s <;> cases t <;> simp_all <;> grind
end Go.Proofs.YtohpjdeohpamaaaGreatDoor
namespace Go.Proofs.YtohpjdeohpamaaaGreatDoor
open Go.RowKit
theorem eq_ref20_without_l1 (k : ByteArray) : ∀ (t out : List Kv), t.length + out.length ≤ 4294967296 → Mref20_without_l1 k t out = some (out ++ wthout k t)
  | [], out, _ => by simp [Mref20_without_l1, wthout]
  | x :: t, out, h => by
    simp only [List.length_cons] at h
    rw [Mref20_without_l1.eq_2, sel_ite]
    by_cases hk : x.key = k
    · rw [if_neg (by simp [hk]), eq_ref20_without_l1 k t out (by omega)]; simp [wthout, hk]
    · rw [if_pos (by simp [hk]), app_le (by simp; omega), obnd_some, eq_ref20_without_l1 k t _ (by simp; omega)]; simp [wthout, hk]
theorem eq_ref20_without (k : ByteArray) (t : List Kv) (h : t.length ≤ 4294967296) : Mref20_without t k = some (wthout k t) := by
  rw [Mref20_without, eq_ref20_without_l1 k t [] (by simpa using h), obnd_some]; rfl
theorem eq_ref20_with_l1 (x : Kv) : ∀ (t out : List Kv) (d : Bool), 2 * t.length + out.length + 1 ≤ 4294967296 → ∃ d', Mref20_with_l1 x t out d = some (out ++ (if d then t else (ins x t).take (t.length + d'.toNat)), d') ∧ (d = true → d' = true) ∧ (d = false → d' = false → ins x t = t ++ [x]) := by
  intro t
  induction t with
  | nil =>
    intro out d _
    exact ⟨d, by cases d <;> simp [Mref20_with_l1, ins], fun h => h, fun _ _ => rfl⟩
  | cons r t ih =>
    intro out d h
    simp only [List.length_cons] at h
    rw [Mref20_with_l1.eq_2]
    cases d with
    | true =>
      rw [show (!true) = false from rfl, sel_false, obnd_some, sel_false, app_le (by simp; omega), obnd_some]
      obtain ⟨d', e, h1, h2⟩ := ih (out ++ [r]) true (by simp; omega)
      exact ⟨d', by rw [e]; simp, h1, (fun h => by cases h)⟩
    | false =>
      rw [show (!false) = true from rfl, sel_true, obnd_some, sel_ite]
      by_cases hb : bl x.key r.key = true
      · rw [if_pos hb, app_le (by simp; omega), obnd_some, app_le (by simp; omega), obnd_some]
        obtain ⟨d', e, h1, h2⟩ := ih (out ++ [x] ++ [r]) true (by simp; omega)
        obtain rfl := h1 rfl
        exact ⟨true, by rw [e]; simp [ins, hb], fun _ => rfl, (fun _ h => by cases h)⟩
      · rw [if_neg hb, app_le (by simp; omega), obnd_some]
        obtain ⟨d', e, h1, h2⟩ := ih (out ++ [r]) false (by simp; omega)
        refine ⟨d', ?_, (fun h => by cases h), fun _ h3 => ?_⟩
        · rw [e]; simp [ins, hb, Nat.add_right_comm]
        · simp [ins, hb, h2 rfl h3]
theorem eq_ref20_with (x : Kv) (t : List Kv) (h : 2 * t.length + 10 ≤ 4294967296) : Mref20_with t x = some (wth x t) := by
  have hw : (wthout x.key t).length ≤ t.length := List.length_filter_le _ _
  rw [Mref20_with, eq_ref20_without _ _ (by omega), obnd_some]
  obtain ⟨d', e, h1, h2⟩ := eq_ref20_with_l1 x (wthout x.key t) [] false (by simp; omega)
  rw [e, obnd_some]
  cases d' with
  | true =>
    simp only [Bool.not_true, sel_false, Bool.false_eq_true, if_false, List.nil_append, wth]
    rw [List.take_of_length_le (by rw [ins_len]; simp)]
  | false =>
    simp only [Bool.not_false, sel_true, Bool.false_eq_true, if_false, List.nil_append]
    have hi := h2 rfl rfl
    rw [hi]
    rw [app_le (by simp; omega), obnd_some, wth, hi]
    simp
theorem okAt_cons (t : List Kv) (m : Nat) (r : Kv) (h : t[m]? = some r) : okAt t m = (vrow r && (m == 0 || match t[m - 1]? with | some x => bl x.key r.key | none => false)) := by
  have h2 := (List.getElem?_eq_some_iff.1 h)
  obtain ⟨h3, rfl⟩ := h2
  rw [okAt_eq h3]
  cases m with
  | zero => simp
  | succ m =>
    have : t[m]? = some t[m] := List.getElem?_eq_getElem (by omega)
    simp [this]
theorem drop_get {α : Type} {t xs : List α} {m : Nat} {r : α} (h : t.drop m = r :: xs) : t[m]? = some r ∧ t.drop (m + 1) = xs := by
  constructor
  · rw [← List.head?_drop, h]; rfl
  · rw [← List.tail_drop, h]; rfl
theorem range_all (n m : Nat) (f : Nat → Bool) (h : m < n) : ((List.range' m (n - m)).all f) = (f m && (List.range' (m + 1) (n - (m + 1))).all f) := by
  obtain ⟨k, rfl⟩ := Nat.exists_eq_add_of_lt h
  rw [show m + k + 1 - m = k + 1 by omega, show m + k + 1 - (m + 1) = k by omega, List.range'_succ]
  rfl
theorem eq_ref20_Valid_l1 (t : List Kv) (ht : t.length ≤ 1024) : ∀ (xs : List Kv) (m : Nat), t.drop m = xs → m ≤ t.length → Mref20_Valid_l1 t xs (m : Int) = some (sel ((List.range' m (t.length - m)).all (okAt t)) (.nxt ()) (.ret false))
  | [], m, h, hm => by
    have : t.length - m = 0 := by have := congrArg List.length h; simpa using this
    simp [Mref20_Valid_l1, this, sel_true]
  | r :: xs, m, h, hm => by
    obtain ⟨h1, h2⟩ := drop_get h
    have h3 := (List.getElem?_eq_some_iff.1 h1).1
    have ih := eq_ref20_Valid_l1 t ht xs (m + 1) h2 h3
    rw [Mref20_Valid_l1.eq_2, bnd_eq, range_all _ _ _ h3, okAt_cons t m r h1, eq_ref1_ValidKey, vrow, show (m : Int) + 1 = ((m + 1 : Nat) : Int) by omega, ih]
    have hsz : decide (64 < (r.val.size : Int)) = !decide (r.val.size ≤ 64) := by
      by_cases h : r.val.size ≤ 64
      · have : ¬ 64 < (r.val.size : Int) := by omega
        simp [h, this]
      · have : 64 < (r.val.size : Int) := by omega
        simp [h, this]
    rw [hsz]
    cases vk r.key with
    | false => rfl
    | true =>
      cases decide (r.val.size ≤ 64) with
      | false => rfl
      | true =>
        cases m with
        | zero => rfl
        | succ m =>
          have e1 : i64w (((m + 1 : Nat) : Int) - 1) = (m : Int) := by rw [i64w_id (by omega) (by omega)]; omega
          have e2 : decide ((0 : Int) < ((m + 1 : Nat) : Int)) = true := decide_eq_true (by omega)
          have e3 : t[m + 1 - 1]? = some t[m] := List.getElem?_eq_getElem (by omega)
          rw [e1, e2, e3, lget_nat, List.getElem?_eq_getElem (show m < t.length by omega), obnd_some]
          have e4 : (m + 1 == 0) = false := rfl
          rw [e4]
          simp only
          cases bl t[m].key r.key <;> rfl
theorem eq_ref20_Valid (t : List Kv) : Mref20_Valid t = some (tvalid t) := by
  unfold Mref20_Valid
  rw [sel_ite]
  by_cases h : t.length ≤ 1024
  · rw [if_neg (by simp; omega)]
    have := eq_ref20_Valid_l1 t h t 0 rfl (Nat.zero_le _)
    rw [show ((0 : Nat) : Int) = 0 from rfl] at this
    rw [this, obnd_some, tvalid, List.range_eq_range']
    simp only [Nat.sub_zero, h, decide_true, Bool.true_and]
    cases (List.range' 0 t.length).all (okAt t) <;> rfl
  · rw [if_pos (by simp; omega)]
    simp [tvalid, h]
theorem eq_ref20_Put (t : List Kv) (x : Kv) (h : t.length ≤ 100000) : Mref20_Put t x = some (put x t) := by
  unfold Mref20_Put
  simp only [eq_ref20_Valid, obnd_some, tvalid_one, put]
  cases tvalid t with
  | false => rfl
  | true =>
    cases vrow x with
    | false => rfl
    | true =>
      simp only [Bool.not_true, sel_false, obnd_some, Bool.and_self, if_true]
      rw [eq_ref20_with x t (by omega), obnd_some, sel_ite]
      by_cases hh : 1024 < (wth x t).length
      · rw [if_pos (by simp; omega), if_pos hh]
      · rw [if_neg (by simp; omega), if_neg hh]
theorem contains_vk {r : Rng} {k : ByteArray} (h : contains r k = true) : vk k = true := by
  simp only [contains, Bool.and_eq_true] at h; exact h.1.1.2
theorem keyIn_l1_ok (r : Rng) : ∀ (fuel : Nat) (l : List Int) (a i : Int), okT ⟨l, a⟩ → 0 ≤ i → i ≤ 4 → (4 - i).toNat < fuel → ∃ c, Mwld_Tape_KeyIn_l1 r fuel l a i = some c ∧ ((∃ k τ', c = .ret (k, τ') ∧ okT τ' ∧ contains r k = true) ∨ ∃ l' a', c = .nxt (l', a') ∧ okT ⟨l', a'⟩)
  | 0, _, _, _, _, _, _, h => absurd h (by omega)
  | fuel + 1, l, a, i, h, h0, h4, hf => by
    rw [Mwld_Tape_KeyIn_l1.eq_2, sel_ite]
    by_cases hi : i < 4
    · rw [if_pos (by simpa using hi), obnd_some, ocbnd_nxt]
      obtain ⟨k, τ1, e1, h1, hk⟩ := key_ok h
      rw [e1, obnd_some, bnd_eq, eq_ref1_Contains, sel_ite]
      split
      · exact ⟨_, rfl, .inl ⟨_, _, rfl, h1, by assumption⟩⟩
      · rw [i64w_id (by omega) (by omega)]
        exact keyIn_l1_ok r fuel _ _ _ h1 (by omega) (by omega) (by omega)
    · rw [if_neg (by simpa using hi), obnd_some, ocbnd_ret]
      exact ⟨_, rfl, .inr ⟨_, _, rfl, h⟩⟩
theorem keyIn_ok {τ : TTape} (h : okT τ) (r : Rng) (hr : emp r = false) : ∃ k τ', Mwld_Tape_KeyIn τ r = some (k, τ') ∧ okT τ' ∧ contains r k = true := by
  obtain ⟨c, e, hc⟩ := keyIn_l1_ok r FU τ.l τ.at_ 0 h (by omega) (by omega) (by unfold FU; omega)
  unfold Mwld_Tape_KeyIn
  rw [e, obnd_some]
  rcases hc with ⟨k, τ', rfl, h1, h2⟩ | ⟨l', a', rfl, h1⟩
  · exact ⟨_, _, rfl, h1, h2⟩
  · exact ⟨_, _, rfl, h1, contains_lo hr⟩
theorem rowsIn_l1_ok (r : Rng) (hr : emp r = false) : ∀ (fuel : Nat) (l : List Int) (a : Int) (out : List Kv) (i : Int), okT ⟨l, a⟩ → i.toNat < fuel → tvalid out = true → (∀ x ∈ out, contains r x.key = true) → (out.length : Int) + max i 0 ≤ 1000 →
    ∃ t l' a', Mwld_Tape_RowsIn_l1 r fuel l a out i = some (t, l', a') ∧ okT ⟨l', a'⟩ ∧ tvalid t = true ∧ (∀ x ∈ t, contains r x.key = true) ∧ (t.length : Int) ≤ out.length + max i 0
  | 0, _, _, _, _, _, h, _, _, _ => absurd h (by omega)
  | fuel + 1, l, a, out, i, h, hf, hv, hx, hl => by
    rw [Mwld_Tape_RowsIn_l1.eq_2, sel_ite]
    by_cases hi : 0 < i
    · rw [if_pos (by simpa using hi), obnd_some, ocbnd_nxt]
      obtain ⟨k, τ1, e1, h1, hk⟩ := keyIn_ok h r hr
      obtain ⟨v, τ2, e2, h2, hv2⟩ := value_ok h1
      rw [e1, obnd_some]; simp only; rw [e2, obnd_some]; simp only
      obtain ⟨g1, g2, g3⟩ := put_valid (x := ⟨k, v⟩) hv (by simp [vrow, contains_vk hk, hv2]) (by omega)
      rw [eq_ref20_Put _ _ (by omega), obnd_some, g1, i64w_id (by omega) (by omega)]
      have hmem : ∀ x ∈ wth ⟨k, v⟩ out, contains r x.key = true := fun x hxm => by
        rcases ins_mem.1 hxm with rfl | hxm
        · exact hk
        · exact hx x (List.mem_filter.1 hxm).1
      obtain ⟨t, l', a', e, q1, q2, q3, q4⟩ := rowsIn_l1_ok r hr fuel τ2.l τ2.at_ (wth ⟨k, v⟩ out) (i - 1) h2 (by omega) g2 hmem (by omega)
      exact ⟨t, l', a', e, q1, q2, q3, by omega⟩
    · rw [if_neg (by simpa using hi), obnd_some, ocbnd_ret]
      exact ⟨_, _, _, rfl, h, hv, hx, by omega⟩
theorem rowsIn_ok {τ : TTape} (h : okT τ) (r : Rng) (n : Int) (h0 : 0 ≤ n) (hn : n ≤ 900) : ∃ t τ', Mwld_Tape_RowsIn τ r n = some (t, τ') ∧ okT τ' ∧ tvalid t = true ∧ (∀ x ∈ t, contains r x.key = true) ∧ (t.length : Int) ≤ n := by
  unfold Mwld_Tape_RowsIn
  rw [bnd_eq, eq_ref1_Empty, sel_ite]
  split
  · exact ⟨_, _, rfl, h, by kernel_rfl, by simp, by simpa using h0⟩
  · rename_i hr
    rw [i64w_id (by omega) (by omega)]
    obtain ⟨x, τ1, e1, h1, hx⟩ := next_ok h (n + 1) (by omega)
    unfold Cho at hx
    rw [e1, obnd_some]; simp only
    obtain ⟨t, l', a', e, q1, q2, q3, q4⟩ := rowsIn_l1_ok r (by simpa using hr) FU τ1.l τ1.at_ [] x h1 (by unfold FU; omega) (by kernel_rfl) (by simp) (by simp; omega)
    rw [e, obnd_some]
    simp at q4
    exact ⟨t, _, rfl, q1, q2, q3, by omega⟩
theorem rows_ok {τ : TTape} (h : okT τ) (n : Int) (h0 : 0 ≤ n) (hn : n ≤ 900) : ∃ t τ', Mwld_Tape_Rows τ n = some (t, τ') ∧ okT τ' ∧ tvalid t = true ∧ (t.length : Int) ≤ n := by
  unfold Mwld_Tape_Rows
  obtain ⟨t, τ', e, q1, q2, -, q4⟩ := rowsIn_ok h Mwld_All n h0 hn
  rw [bnd_eq, e, obnd_some]
  exact ⟨_, _, rfl, q1, q2, q4⟩
end Go.Proofs.YtohpjdeohpamaaaGreatDoor
namespace Go.Proofs.YtohpjdeohpamaaaGreatDoor
open Go.RowKit
theorem eq_table_validRow (r : Kv) : Mtable_validRow r = vrow r := by
  unfold Mtable_validRow
  rw [bnd_eq, eq_keyspace_ValidKey, sel_and, vrow]
  congr 1
  simp; omega
theorem eq_table_Valid_l1 (t : List Kv) (ht : t.length ≤ 1024) : ∀ (xs : List Kv) (m : Nat), t.drop m = xs → m ≤ t.length → Mtable_Valid_l1 t xs (m : Int) = some (sel ((List.range' m (t.length - m)).all (okAt t)) (.nxt ()) (.ret false))
  | [], m, h, hm => by
    have : t.length - m = 0 := by have := congrArg List.length h; simpa using this
    simp [Mtable_Valid_l1, this, sel_true]
  | r :: xs, m, h, hm => by
    obtain ⟨h1, h2⟩ := drop_get h
    have h3 := (List.getElem?_eq_some_iff.1 h1).1
    have ih := eq_table_Valid_l1 t ht xs (m + 1) h2 h3
    rw [Mtable_Valid_l1.eq_2, bnd_eq, range_all _ _ _ h3, okAt_cons t m r h1, eq_table_validRow, show (m : Int) + 1 = ((m + 1 : Nat) : Int) by omega, ih]
    cases vrow r with
    | false => rfl
    | true =>
      cases m with
      | zero => rfl
      | succ m =>
        have e1 : i64w (((m + 1 : Nat) : Int) - 1) = (m : Int) := by rw [i64w_id (by omega) (by omega)]; omega
        have e2 : decide ((0 : Int) < ((m + 1 : Nat) : Int)) = true := decide_eq_true (by omega)
        have e3 : t[m + 1 - 1]? = some t[m] := List.getElem?_eq_getElem (by omega)
        rw [e1, e2, e3, lget_nat, List.getElem?_eq_getElem (show m < t.length by omega), obnd_some]
        have e4 : (m + 1 == 0) = false := rfl
        rw [e4]
        simp only
        cases bl t[m].key r.key <;> rfl
theorem eq_table_Valid (t : List Kv) : Mtable_Valid t = some (tvalid t) := by
  unfold Mtable_Valid
  rw [sel_ite]
  by_cases h : t.length ≤ 1024
  · rw [if_neg (by simp; omega)]
    have := eq_table_Valid_l1 t h t 0 rfl (Nat.zero_le _)
    rw [show ((0 : Nat) : Int) = 0 from rfl] at this
    rw [this, obnd_some, tvalid, List.range_eq_range']
    simp only [Nat.sub_zero, h, decide_true, Bool.true_and]
    cases (List.range' 0 t.length).all (okAt t) <;> rfl
  · rw [if_pos (by simp; omega)]
    simp [tvalid, h]
end Go.Proofs.YtohpjdeohpamaaaGreatDoor
namespace Go.Proofs.YtohpjdeohpamaaaGreatDoor
open Go.RowKit
theorem kv_eqb (a b : Kv) : (decide (a.key = b.key) && decide (a.val = b.val)) = decide (a = b) := by
  rcases a with ⟨a1, a2⟩
  rcases b with ⟨b1, b2⟩
  by_cases h1 : a1 = b1 <;> by_cases h2 : a2 = b2 <;> simp [h1, h2]
theorem drop_eq_iff {α : Type} [DecidableEq α] {a b : List α} (h : a.length = b.length) (m : Nat) : decide (a.drop m = b.drop m) = (if hm : m < a.length then decide (a[m] = b[m]'(by omega)) && decide (a.drop (m + 1) = b.drop (m + 1)) else true) := by
  split
  · rename_i hm
    rw [List.drop_eq_getElem_cons hm, List.drop_eq_getElem_cons (l := b) (by omega)]
    simp only [List.cons.injEq, Bool.decide_and]
  · rw [List.drop_eq_nil_of_le (by omega), List.drop_eq_nil_of_le (by omega)]; simp
theorem eq_ref20_Same_l1 (a b : List Kv) (h : a.length = b.length) : ∀ (xs : List Kv) (m : Nat), a.drop m = xs → m ≤ a.length → Mref20_Same_l1 a b xs (m : Int) = some (sel (decide (a.drop m = b.drop m)) (.nxt ()) (.ret false))
  | [], m, h1, hm => by
    have : a.length - m = 0 := by have := congrArg List.length h1; simpa using this
    rw [Mref20_Same_l1.eq_1, drop_eq_iff h, dif_neg (by omega)]; rfl
  | r :: xs, m, h1, hm => by
    obtain ⟨h2, h3⟩ := drop_get h1
    have h4 := (List.getElem?_eq_some_iff.1 h2).1
    rw [Mref20_Same_l1.eq_2, lget_nat, lget_nat, List.getElem?_eq_getElem h4, List.getElem?_eq_getElem (show m < b.length by omega), obnd_some, obnd_some, kv_eqb, show (m : Int) + 1 = ((m + 1 : Nat) : Int) by omega, eq_ref20_Same_l1 a b h xs (m + 1) h3 h4, drop_eq_iff h m, dif_pos h4]
    cases decide (a[m] = b[m]) <;> rfl
theorem eq_ref20_Same (a b : List Kv) : Mref20_Same a b = some (decide (a = b)) := by
  unfold Mref20_Same
  by_cases h : a.length = b.length
  · have := eq_ref20_Same_l1 a b h a 0 rfl (Nat.zero_le _)
    rw [show ((0 : Nat) : Int) = 0 from rfl, List.drop_zero, List.drop_zero] at this
    rw [decide_eq_true (by omega), this]
    cases decide (a = b) <;> rfl
  · have h2 : a ≠ b := fun e => h (by rw [e])
    rw [decide_eq_false (by omega), decide_eq_false h2]; rfl
end Go.Proofs.YtohpjdeohpamaaaGreatDoor
