/-
  Lemmas: Aggregates in the program, of rows whose value is 1. / The length of a union. / An answer of the program (of one row whose value is 1); the examples of the chapter. / The walks of QueryChecks and QueryRanges, over states: they return true. / The walk of QueryRanges, over states: it returns true.
-/
import Derived.Test.YtjnnkpkbgdknmaaDoorB3
import Derived.Test.YtjnnkpkbgdknmaaDoorB5
import Derived.Test.YtjnnkpkbgdknmaaDoorB7
namespace Go.Proofs.YtjnnkpkbgdknmaaDoor
set_option linter.unusedSimpArgs false
set_option linter.unusedVariables false
open Go.RowKit
def one1 : ByteArray := ⟨#[49]⟩
def vFd (f : Fd) : V := .a [vI f.count, vI f.nums, vI f.sum, vI f.low, vI f.high, vS f.first, vS f.last]
def fd1 (k : ByteArray) : Fd := ⟨1, 1, 1, 1, 1, k, k⟩
theorem dec_one : Utf8.decode one1 0 = (49, 1) := by kernel_rfl
theorem size_one : one1.size = 1 := rfl
attribute [local irreducible] WK WC WL Wk Rel OpD OpV WD WO Op.bytesLess cmp vk vb vld emp contains
set_option maxHeartbeats 4000000 in
instance num1_p : Ct Tryd.prog 90 [vS one1] True (.t [vI 1, vB true]) := ⟨fun _ => by
  have hs1 : one1.size = 1 := rfl
  have hg1 : (one1.get! 0).toNat = 49 := rfl
  refine Spec.intro Tryd.func90 rfl rfl Tryd.ntmps90 Tryd.results90 rfl fun B w0 ρ0 => ?_; simp only [slots, List.map_nil, List.map_cons, Nat.reduceAdd]
  (repeat' (first | refine sw ?_ | (refine swt ?_; intro x τ hx) | (refine sp ?_ ?_ <;> (intro h; (first | (have h2 : (_ : Bool) = _ := h; clear h2; subst h) | skip); (try simp only [decide_eq_true_eq, decide_eq_false_iff_not, Bool.not_eq_true', Bool.not_eq_false', Kv.eta, Bnd.eta, Rng.eta, tn_sub1] at h); (first | (have h2 : (_ : Bool) = _ := h; clear h2; subst h) | skip))) | fail))
  refine wc_loop (fun κ st => ∃ (m : Nat), κ = 1 - m ∧ (m ≤ 1) ∧ st = ⟨[(5, vB false), (6, vI (m : Int)), (36, .p 136 0)], [(136, some (.ob (.stringIter one1 m)))]⟩) (1 - (0)) ⟨[(5, vB false), (6, vI ((0) : Int)), (36, .p 136 0)], [(136, some (.ob (.stringIter one1 (0))))]⟩ (wk [(136, 136)] rfl rfl rfl rfl (by repeat (first | refine VH.cons rfl rfl vb_tpb ?_ | refine VH.cons rfl rfl (Vb.ob _) ?_ | exact VS.nil | exact VH.nil | exact Vws.nil | refine VS.cons rfl ?_ ?_ | refine VH.cons rfl rfl (Vb.box ?_) ?_ | refine VH.cons rfl rfl (Vb.arr ?_) ?_ | exact vws_dm _ | refine Vws.cons ?_ ?_ | exact Vw.d _ | exact Vw.p rfl | exact Vw.h rfl | exact Vw.e rfl | exact Vw.s rfl | exact Vw.q _ | refine Vw.a ?_ | refine Vw.t ?_ | exact Vw.nil | exact Vw.fh rfl rfl (vws_dm _) | exact Vw.un _)) (by repeat (first | refine VH.cons rfl rfl vb_tpb ?_ | refine VH.cons rfl rfl (Vb.ob _) ?_ | exact VS.nil | exact VH.nil | exact Vws.nil | refine VS.cons rfl ?_ ?_ | refine VH.cons rfl rfl (Vb.box ?_) ?_ | refine VH.cons rfl rfl (Vb.arr ?_) ?_ | exact vws_dm _ | refine Vws.cons ?_ ?_ | exact Vw.d _ | exact Vw.p rfl | exact Vw.h rfl | exact Vw.e rfl | exact Vw.s rfl | exact Vw.q _ | refine Vw.a ?_ | refine Vw.t ?_ | exact Vw.nil | exact Vw.fh rfl rfl (vws_dm _) | exact Vw.un _))) ⟨0, rfl, ?_, rfl⟩ ?_; rotate_left; rintro κ _ ⟨m, rfl, hP, rfl⟩; rotate_left
  · omega
  have hm : m = 0 ∨ m = 1 := by omega
  have hc := dec_one
  rcases hm with rfl | rfl
  · have h1 : 0 < one1.size := by omega
    (repeat' (first | refine sw ?_ | (refine swt ?_; intro x τ hx) | (refine sp ?_ ?_ <;> (intro h; (first | (have h2 : (_ : Bool) = _ := h; clear h2; subst h) | skip); (try simp only [decide_eq_true_eq, decide_eq_false_iff_not, Bool.not_eq_true', Bool.not_eq_false', Kv.eta, Bnd.eta, Rng.eta, tn_sub1] at h); (first | (have h2 : (_ : Bool) = _ := h; clear h2; subst h) | skip))) | fail))
    all_goals (try (exfalso; omega))
    refine wk_loop_n (1 - (1)) (st' := ⟨[(5, vB false), (6, vI ((1) : Int)), (36, .p 136 0)], [(136, some (.ob (.stringIter one1 (1))))]⟩) (wk [(136, 136)] rfl rfl rfl rfl (by repeat (first | refine VH.cons rfl rfl vb_tpb ?_ | refine VH.cons rfl rfl (Vb.ob _) ?_ | exact VS.nil | exact VH.nil | exact Vws.nil | refine VS.cons rfl ?_ ?_ | refine VH.cons rfl rfl (Vb.box ?_) ?_ | refine VH.cons rfl rfl (Vb.arr ?_) ?_ | exact vws_dm _ | refine Vws.cons ?_ ?_ | exact Vw.d _ | exact Vw.p rfl | exact Vw.h rfl | exact Vw.e rfl | exact Vw.s rfl | exact Vw.q _ | refine Vw.a ?_ | refine Vw.t ?_ | exact Vw.nil | exact Vw.fh rfl rfl (vws_dm _) | exact Vw.un _)) (by repeat (first | refine VH.cons rfl rfl vb_tpb ?_ | refine VH.cons rfl rfl (Vb.ob _) ?_ | exact VS.nil | exact VH.nil | exact Vws.nil | refine VS.cons rfl ?_ ?_ | refine VH.cons rfl rfl (Vb.box ?_) ?_ | refine VH.cons rfl rfl (Vb.arr ?_) ?_ | exact vws_dm _ | refine Vws.cons ?_ ?_ | exact Vw.d _ | exact Vw.p rfl | exact Vw.h rfl | exact Vw.e rfl | exact Vw.s rfl | exact Vw.q _ | refine Vw.a ?_ | refine Vw.t ?_ | exact Vw.nil | exact Vw.fh rfl rfl (vws_dm _) | exact Vw.un _))) ?_ ⟨1, rfl, ?_, rfl⟩
    · omega
    · omega
  · have h1 : ¬ 1 < one1.size := by omega
    (repeat' (first | refine sw ?_ | (refine swt ?_; intro x τ hx) | (refine sp ?_ ?_ <;> (intro h; (first | (have h2 : (_ : Bool) = _ := h; clear h2; subst h) | skip); (try simp only [decide_eq_true_eq, decide_eq_false_iff_not, Bool.not_eq_true', Bool.not_eq_false', Kv.eta, Bnd.eta, Rng.eta, tn_sub1] at h); (first | (have h2 : (_ : Bool) = _ := h; clear h2; subst h) | skip))) | fail))
    all_goals (try (exfalso; omega))
    (first | refine wk_pure rfl (by first | exact trivial | exact resT_cell rfl rfl (by exact inferInstance) trivial) rfl (by first | exact Vw.fmp rfl rfl rfl | exact Vw.nil | exact Vw.d _ | (repeat (first | exact Vws.nil | apply Vws.cons | exact Vw.nil | exact Vw.d _ | apply Vw.a | apply Vw.t | exact Vw.fh rfl rfl (vws_dm _) | exact Vw.fh rfl rfl Vws.nil)); done) ?_ | refine wk_pure_n rfl (by first | exact trivial | exact resT_cell rfl rfl (by exact inferInstance) trivial) rfl (by first | exact Vw.fmp rfl rfl rfl | exact Vw.nil | exact Vw.d _ | (repeat (first | exact Vws.nil | apply Vws.cons | exact Vw.nil | exact Vw.d _ | apply Vw.a | apply Vw.t | exact Vw.fh rfl rfl (vws_dm _) | exact Vw.fh rfl rfl Vws.nil)); done) ?_)
    exact ⟨rfl, rfl⟩⟩
theorem add1_p (k : ByteArray) : Spec Tryd.prog 79 [.p 0 0, .a [vS k, vS one1]] [(0, some (.box 93 [vI 0, vI 0, vI 0, vI 0, vI 0, vS ⟨#[]⟩, vS ⟨#[]⟩]))] fun u h => u = .t [] ∧ h = [(0, some (.box 93 [vI 1, vI 1, vI 1, vI 1, vI 1, vS k, vS k]))] := by
  refine Spec.intro Tryd.func79 rfl rfl Tryd.ntmps79 Tryd.results79 rfl fun B w0 ρ0 => ?_; simp only [slots, List.map_nil, List.map_cons, Nat.reduceAdd]
  (repeat' (first | refine sw ?_ | (refine swt ?_; intro x τ hx) | (refine sp ?_ ?_ <;> (intro h; (first | (have h2 : (_ : Bool) = _ := h; clear h2; subst h) | skip); (try simp only [decide_eq_true_eq, decide_eq_false_iff_not, Bool.not_eq_true', Bool.not_eq_false', Kv.eta, Bnd.eta, Rng.eta, tn_sub1] at h); (first | (have h2 : (_ : Bool) = _ := h; clear h2; subst h) | skip))) | fail))
  exact wk_fn_n (Wk.refl _ _) ⟨[], [(0, 0)], .t [], [(0, some (.box 93 [vI 1, vI 1, vI 1, vI 1, vI 1, vS k, vS k]))], rfl, trivial, rfl, .t .nil, (by repeat (first | refine VH.cons rfl rfl vb_tpb ?_ | refine VH.cons rfl rfl (Vb.ob _) ?_ | exact VS.nil | exact VH.nil | exact Vws.nil | refine VS.cons rfl ?_ ?_ | refine VH.cons rfl rfl (Vb.box ?_) ?_ | refine VH.cons rfl rfl (Vb.arr ?_) ?_ | exact vws_dm _ | refine Vws.cons ?_ ?_ | exact Vw.d _ | exact Vw.p rfl | exact Vw.h rfl | exact Vw.e rfl | exact Vw.s rfl | exact Vw.q _ | refine Vw.a ?_ | refine Vw.t ?_ | exact Vw.nil | exact Vw.fh rfl rfl (vws_dm _) | exact Vw.un _)), rfl, rfl⟩
section
variable {Γ : Cx} {k : Kont} {sl : List (Nat × V)} {hp : Hp} {o : Oper} {ops : Array Oper} {d kt : Nat} {x : Operand} {xs : Array Operand} {ats : Array TypeId} {rest : List Oper} {key : ByteArray}
theorem wl_add1 (hP : Γ.P = Tryd.prog) (hop : o.op = .call { callee := .value x, args := xs, argTypes := ats }) (hx : ev sl x = some (.d (.c (.func (.func 79) #[] #[])))) (ha : evl sl xs.toList = some [.p kt 0, .a [vS key, vS one1]]) (hH : look hp kt = some (some (.box 93 [vI 0, vI 0, vI 0, vI 0, vI 0, vS ⟨#[]⟩, vS ⟨#[]⟩])))
    (hg : o.guard = none) (hd : o.dst = some d) (hdl : Nat.blt d Γ.nt = true) (hf : freshB hp 100000 100 = true) (hk : WL Γ ops rest k ⟨(d, .t []) :: sl, (kt, some (.box 93 [vI 1, vI 1, vI 1, vI 1, vI 1, vS key, vS key])) :: hp⟩) : WL Γ ops (o :: rest) k ⟨sl, hp⟩ := by
  have hal : aliveB hp [(0, kt)] = true := by simp only [aliveB, List.all_cons, List.all_nil, Bool.and_true, hH]
  have h0 : look [(0, kt)] 0 = some kt := rfl
  refine wl_v (o_call 100000 [(0, kt)] (hP ▸ add1_p key) hop hx ha (.cons (.p h0) (.cons (.a (.cons (.d _) (.cons (.d _) .nil))) .nil)) (VH.cons h0 hH (.box (by repeat (first | exact Vws.nil | refine Vws.cons (Vw.d _) ?_))) .nil) hal rfl (by rfl)) hg hd hdl hf ?_
  rintro u h ⟨u0, h0', ⟨rfl, rfl⟩, rfl, rfl⟩
  exact hk
end
instance of_p1 (l : List Kv) : Ct Tryd.prog 53 [.d (rows l)] (∃ k, l = [⟨k, one1⟩]) (.a [vI 1, vI 1, vI 1, vI 1, vI 1, vS (l.headD ⟨⟨#[]⟩, ⟨#[]⟩⟩).key, vS (l.headD ⟨⟨#[]⟩, ⟨#[]⟩⟩).key]) := ⟨fun h0 => by
  obtain ⟨key, rfl⟩ := h0
  refine Spec.intro Tryd.func53 rfl rfl Tryd.ntmps53 Tryd.results53 rfl fun B w0 ρ0 => ?_; simp only [slots, List.map_nil, List.map_cons, Nat.reduceAdd]
  (repeat' (first | refine sw ?_ | (refine swt ?_; intro x τ hx) | (refine sp ?_ ?_ <;> (intro h; (first | (have h2 : (_ : Bool) = _ := h; clear h2; subst h) | skip); (try simp only [decide_eq_true_eq, decide_eq_false_iff_not, Bool.not_eq_true', Bool.not_eq_false', Kv.eta, Bnd.eta, Rng.eta, tn_sub1] at h); (first | (have h2 : (_ : Bool) = _ := h; clear h2; subst h) | skip))) | fail))
  refine wc_loop (fun κ st => ∃ (m : Nat), κ = 1 - m ∧ (m ≤ 1) ∧ st = ⟨[(2, .p 102 0), (3, .p 103 0), (6, .d (rows [⟨key, one1⟩])), (7, vI ((1 : Nat) : Int)), (8, vI (m : Int))], [(102, some (.box 39 [vI 0, vI 0, vI 0, vI 0, vI 0, vS ⟨#[]⟩, vS ⟨#[]⟩])), (103, some (.box 93 (if m = 0 then [vI 0, vI 0, vI 0, vI 0, vI 0, vS ⟨#[]⟩, vS ⟨#[]⟩] else [vI 1, vI 1, vI 1, vI 1, vI 1, vS key, vS key])))]⟩) (1 - (0)) ⟨[(2, .p 102 0), (3, .p 103 0), (6, .d (rows [⟨key, one1⟩])), (7, vI ((1 : Nat) : Int)), (8, vI ((0) : Int))], [(102, some (.box 39 [vI 0, vI 0, vI 0, vI 0, vI 0, vS ⟨#[]⟩, vS ⟨#[]⟩])), (103, some (.box 93 (if (0) = 0 then [vI 0, vI 0, vI 0, vI 0, vI 0, vS ⟨#[]⟩, vS ⟨#[]⟩] else [vI 1, vI 1, vI 1, vI 1, vI 1, vS key, vS key])))]⟩ (wk [(102, 102), (103, 103)] rfl rfl rfl rfl (by repeat (first | refine VH.cons rfl rfl vb_tpb ?_ | refine VH.cons rfl rfl (Vb.ob _) ?_ | exact VS.nil | exact VH.nil | exact Vws.nil | refine VS.cons rfl ?_ ?_ | refine VH.cons rfl rfl (Vb.box ?_) ?_ | refine VH.cons rfl rfl (Vb.arr ?_) ?_ | exact vws_dm _ | refine Vws.cons ?_ ?_ | exact Vw.d _ | exact Vw.p rfl | exact Vw.h rfl | exact Vw.e rfl | exact Vw.s rfl | exact Vw.q _ | refine Vw.a ?_ | refine Vw.t ?_ | exact Vw.nil | exact Vw.fh rfl rfl (vws_dm _) | exact Vw.un _)) (by repeat (first | refine VH.cons rfl rfl vb_tpb ?_ | refine VH.cons rfl rfl (Vb.ob _) ?_ | exact VS.nil | exact VH.nil | exact Vws.nil | refine VS.cons rfl ?_ ?_ | refine VH.cons rfl rfl (Vb.box ?_) ?_ | refine VH.cons rfl rfl (Vb.arr ?_) ?_ | exact vws_dm _ | refine Vws.cons ?_ ?_ | exact Vw.d _ | exact Vw.p rfl | exact Vw.h rfl | exact Vw.e rfl | exact Vw.s rfl | exact Vw.q _ | refine Vw.a ?_ | refine Vw.t ?_ | exact Vw.nil | exact Vw.fh rfl rfl (vws_dm _) | exact Vw.un _))) ⟨0, rfl, ?_, rfl⟩ ?_; rotate_left; rintro κ _ ⟨m, rfl, hP, rfl⟩; rotate_left
  · omega
  have hm : m = 0 ∨ m = 1 := by omega
  rcases hm with rfl | rfl
  · rw [if_pos rfl]
    (repeat' (first | refine wl_r (o_ixe rfl rfl rfl Len.len rfl (by simp) (by simp only [Kv.ds]; exact rfl)) rfl rfl rfl ?_ | refine wl_add1 rfl rfl rfl rfl rfl rfl rfl rfl rfl ?_ | refine sw ?_ | (refine swt ?_; intro x τ hx) | (refine sp ?_ ?_ <;> (intro h; (first | (have h2 : (_ : Bool) = _ := h; clear h2; subst h) | skip); (try simp only [decide_eq_true_eq, decide_eq_false_iff_not, Bool.not_eq_true', Bool.not_eq_false', Kv.eta, Bnd.eta, Rng.eta, tn_sub1] at h); (first | (have h2 : (_ : Bool) = _ := h; clear h2; subst h) | skip))) | fail))
    all_goals (try (exfalso; omega))
    refine wk_loop_n (1 - (1)) (st' := ⟨[(2, .p 102 0), (3, .p 103 0), (6, .d (rows [⟨key, one1⟩])), (7, vI ((1 : Nat) : Int)), (8, vI ((1) : Int))], [(102, some (.box 39 [vI 0, vI 0, vI 0, vI 0, vI 0, vS ⟨#[]⟩, vS ⟨#[]⟩])), (103, some (.box 93 (if (1) = 0 then [vI 0, vI 0, vI 0, vI 0, vI 0, vS ⟨#[]⟩, vS ⟨#[]⟩] else [vI 1, vI 1, vI 1, vI 1, vI 1, vS key, vS key])))]⟩) (wk [(102, 102), (103, 103)] rfl rfl rfl rfl (by repeat (first | refine VH.cons rfl rfl vb_tpb ?_ | refine VH.cons rfl rfl (Vb.ob _) ?_ | exact VS.nil | exact VH.nil | exact Vws.nil | refine VS.cons rfl ?_ ?_ | refine VH.cons rfl rfl (Vb.box ?_) ?_ | refine VH.cons rfl rfl (Vb.arr ?_) ?_ | exact vws_dm _ | refine Vws.cons ?_ ?_ | exact Vw.d _ | exact Vw.p rfl | exact Vw.h rfl | exact Vw.e rfl | exact Vw.s rfl | exact Vw.q _ | refine Vw.a ?_ | refine Vw.t ?_ | exact Vw.nil | exact Vw.fh rfl rfl (vws_dm _) | exact Vw.un _)) (by repeat (first | refine VH.cons rfl rfl vb_tpb ?_ | refine VH.cons rfl rfl (Vb.ob _) ?_ | exact VS.nil | exact VH.nil | exact Vws.nil | refine VS.cons rfl ?_ ?_ | refine VH.cons rfl rfl (Vb.box ?_) ?_ | refine VH.cons rfl rfl (Vb.arr ?_) ?_ | exact vws_dm _ | refine Vws.cons ?_ ?_ | exact Vw.d _ | exact Vw.p rfl | exact Vw.h rfl | exact Vw.e rfl | exact Vw.s rfl | exact Vw.q _ | refine Vw.a ?_ | refine Vw.t ?_ | exact Vw.nil | exact Vw.fh rfl rfl (vws_dm _) | exact Vw.un _))) ?_ ⟨1, rfl, ?_, rfl⟩
    · omega
    · omega
  · rw [if_neg (by omega)]
    (repeat' (first | refine sw ?_ | (refine swt ?_; intro x τ hx) | (refine sp ?_ ?_ <;> (intro h; (first | (have h2 : (_ : Bool) = _ := h; clear h2; subst h) | skip); (try simp only [decide_eq_true_eq, decide_eq_false_iff_not, Bool.not_eq_true', Bool.not_eq_false', Kv.eta, Bnd.eta, Rng.eta, tn_sub1] at h); (first | (have h2 : (_ : Bool) = _ := h; clear h2; subst h) | skip))) | fail))
    all_goals (try (exfalso; omega))
    (first | refine wk_pure rfl (by first | exact trivial | exact resT_cell rfl rfl (by exact inferInstance) trivial) rfl (by first | exact Vw.fmp rfl rfl rfl | exact Vw.nil | exact Vw.d _ | (repeat (first | exact Vws.nil | apply Vws.cons | exact Vw.nil | exact Vw.d _ | apply Vw.a | apply Vw.t | exact Vw.fh rfl rfl (vws_dm _) | exact Vw.fh rfl rfl Vws.nil)); done) ?_ | refine wk_pure_n rfl (by first | exact trivial | exact resT_cell rfl rfl (by exact inferInstance) trivial) rfl (by first | exact Vw.fmp rfl rfl rfl | exact Vw.nil | exact Vw.d _ | (repeat (first | exact Vws.nil | apply Vws.cons | exact Vw.nil | exact Vw.d _ | apply Vw.a | apply Vw.t | exact Vw.fh rfl rfl (vws_dm _) | exact Vw.fh rfl rfl Vws.nil)); done) ?_)
    exact ⟨rfl, rfl⟩⟩
end Go.Proofs.YtjnnkpkbgdknmaaDoor
namespace Go.Proofs.YtjnnkpkbgdknmaaDoor
set_option linter.unusedSimpArgs false
set_option linter.unusedVariables false
open Go.RowKit
theorem union_le (l : List Rng) : (union l).length ≤ l.length := by
  have h1 := mrgAll_le ((l.filter ne).mergeSort leLo)
  rw [List.length_mergeSort] at h1
  exact Nat.le_trans h1 (List.length_filter_le _ _)
end Go.Proofs.YtjnnkpkbgdknmaaDoor
namespace Go.Proofs.YtjnnkpkbgdknmaaDoor
set_option linter.unusedSimpArgs false
set_option linter.unusedVariables false
open Go.RowKit
def qslices (t : List Kv) (rs : List Rng) : List Kv := rs.flatMap fun r => t.filter fun x => contains r x.key
theorem qranges_le (k : Int) (l : List Rng) (key : ByteArray) (c : Int) : (qranges k l key c).length ≤ 64 := by
  unfold qranges
  split
  · rename_i h
    have hq := qchk_0 h
    refine Nat.le_trans (union_le _) ?_
    unfold qrs
    split
    · exact hq.2.2
    split
    · simp
    split <;> simp
  · simp
abbrev kA : ByteArray := ⟨#[97]⟩
abbrev kB : ByteArray := ⟨#[98]⟩
abbrev kC : ByteArray := ⟨#[99]⟩
abbrev kAB : ByteArray := ⟨#[97, 98]⟩
abbrev kAC : ByteArray := ⟨#[97, 99]⟩
def tA : List Kv := [⟨kA, ⟨#[]⟩⟩, ⟨kB, one1⟩, ⟨kC, ⟨#[]⟩⟩]
theorem rA : qranges 2 [] kAB 0 = [⟨⟨kAB, false⟩, ⟨kAC, false⟩⟩] := by kernel_rfl
theorem rB : qranges 4 [] kC 1 = [⟨⟨⟨#[]⟩, false⟩, ⟨kC, false⟩⟩] := by kernel_rfl
theorem tA_valid : tvalid tA = true := by kernel_rfl
theorem tA_rows : qtk 4 1 (qslices tA [⟨⟨⟨#[]⟩, false⟩, ⟨kC, false⟩⟩]) = [⟨kB, one1⟩] := by kernel_rfl
attribute [local irreducible] WK WC WL Wk Rel OpD OpV WD WO Op.bytesLess cmp vk vb vld emp contains
attribute [local irreducible] qchk qranges qtk union pfx tvalid
set_option maxHeartbeats 2000000 in
theorem answer1 (t : List Kv) (k c : Int) (l : List Rng) (key kk : ByteArray) (hl : l.length < 1000000) (ht : t.length ≤ 1024) (h1 : qchk k l key c = 0) (h2 : tvalid t = true) (h3 : qtk k c (qslices t (qranges k l key c)) = [⟨kk, one1⟩]) :
    Spec Tryd.prog 18 [.d (rows t), vQ k l key c] [] fun u h => u = .t [.a [.d (rows [⟨kk, one1⟩]), vI 1, vI 1, vI 1, vI 1, vI 1, vS kk, vS kk], vI 0] ∧ h = [] := by
  have hrl := qranges_le k l key c
  refine Spec.intro Tryd.func18 rfl rfl Tryd.ntmps18 Tryd.results18 rfl fun B w0 ρ0 => ?_; simp only [slots, List.map_nil, List.map_cons, Nat.reduceAdd]
  (repeat' (first | refine sw ?_ | (refine swt ?_; intro x τ hx) | (refine sp ?_ ?_ <;> (intro h; (first | (have h2 : (_ : Bool) = _ := h; clear h2; subst h) | skip); (try simp only [decide_eq_true_eq, decide_eq_false_iff_not, Bool.not_eq_true', Bool.not_eq_false', Kv.eta, Bnd.eta, Rng.eta, tn_sub1] at h); (first | (have h2 : (_ : Bool) = _ := h; clear h2; subst h) | skip))) | fail))
  · exact absurd h1 h
  · rw [h2] at h; cases h
  generalize hR : qranges k l key c = R at *
  refine wc_wk (wk_nil 7 107 59 2 rfl rfl) ?_
  refine wc_loop (fun κ st => ∃ (m : Nat) (out : List Kv), κ = R.length - m ∧ (m ≤ R.length ∧ out.length ≤ m * 1024 ∧ out ++ qslices t (R.drop m) = qslices t R) ∧ st = ⟨[(0, .d (rows t)), (3, .p 103 0), (4, .p 104 0), (7, .h 107), (21, .d (lst Rng.ds R)), (22, vI R.length), (23, vI (m : Int))], [(103, some (.box 25 [vI k, .d (lst Rng.ds l), vS key, vI c])), (104, some (.box 41 [.d (.c (.slice none 0 0)), vI 0, vI 0, vI 0, vI 0, vI 0, vS ⟨#[]⟩, vS ⟨#[]⟩])), (107, some (arrT 59 2 Kv.ds out))]⟩) (R.length - (0)) ⟨[(0, .d (rows t)), (3, .p 103 0), (4, .p 104 0), (7, .h 107), (21, .d (lst Rng.ds R)), (22, vI R.length), (23, vI ((0) : Int))], [(103, some (.box 25 [vI k, .d (lst Rng.ds l), vS key, vI c])), (104, some (.box 41 [.d (.c (.slice none 0 0)), vI 0, vI 0, vI 0, vI 0, vI 0, vS ⟨#[]⟩, vS ⟨#[]⟩])), (107, some (arrT 59 2 Kv.ds ([])))]⟩ (wk [(103, 103), (104, 104), (107, 107)] rfl rfl rfl rfl (by repeat (first | refine VH.cons rfl rfl vb_tpb ?_ | refine VH.cons rfl rfl (Vb.ob _) ?_ | exact VS.nil | exact VH.nil | exact Vws.nil | refine VS.cons rfl ?_ ?_ | refine VH.cons rfl rfl (Vb.box ?_) ?_ | refine VH.cons rfl rfl (Vb.arr ?_) ?_ | exact vws_dm _ | refine Vws.cons ?_ ?_ | exact Vw.d _ | exact Vw.p rfl | exact Vw.h rfl | exact Vw.e rfl | exact Vw.s rfl | exact Vw.q _ | refine Vw.a ?_ | refine Vw.t ?_ | exact Vw.nil | exact Vw.fh rfl rfl (vws_dm _) | exact Vw.un _)) (by repeat (first | refine VH.cons rfl rfl vb_tpb ?_ | refine VH.cons rfl rfl (Vb.ob _) ?_ | exact VS.nil | exact VH.nil | exact Vws.nil | refine VS.cons rfl ?_ ?_ | refine VH.cons rfl rfl (Vb.box ?_) ?_ | refine VH.cons rfl rfl (Vb.arr ?_) ?_ | exact vws_dm _ | refine Vws.cons ?_ ?_ | exact Vw.d _ | exact Vw.p rfl | exact Vw.h rfl | exact Vw.e rfl | exact Vw.s rfl | exact Vw.q _ | refine Vw.a ?_ | refine Vw.t ?_ | exact Vw.nil | exact Vw.fh rfl rfl (vws_dm _) | exact Vw.un _))) ⟨0, [], rfl, ?_, rfl⟩ ?_; rotate_left; rintro κ _ ⟨m, out, rfl, hP, rfl⟩; rotate_left
  · exact ⟨by omega, by simp, by simp⟩
  obtain ⟨hm, ho, hP⟩ := hP
  have hs := drop_step (l := R) (m := m)
  have h3' : ¬ m < R.length → ∃ kk, qtk k c out = [⟨kk, one1⟩] := fun hh => by
    rw [List.drop_eq_nil_of_le (by omega)] at hP
    have : out = qslices t R := by simpa [qslices] using hP
    exact ⟨kk, by rw [this]; exact h3⟩
  (repeat' (first | refine wl_2 (n_append_t rfl rfl (by simp only [Nat.reduceAdd]; exact rfl) rfl rfl rfl Len.len (Nat.le_trans (Nat.mul_le_mul_right _ (Nat.add_le_add_left (List.length_filter_le _ _) _)) (by omega)) (Nat.le_trans (Nat.add_le_add_left (List.length_filter_le _ _) _) (by omega)) rfl) rfl rfl rfl rfl ?_ | refine sw ?_ | (refine swt ?_; intro x τ hx) | (refine sp ?_ ?_ <;> (intro h; (first | (have h2 : (_ : Bool) = _ := h; clear h2; subst h) | skip); (try simp only [decide_eq_true_eq, decide_eq_false_iff_not, Bool.not_eq_true', Bool.not_eq_false', Kv.eta, Bnd.eta, Rng.eta, tn_sub1] at h); (first | (have h2 : (_ : Bool) = _ := h; clear h2; subst h) | skip))) | fail))
  · refine wk_loop_n (R.length - (m + 1)) (st' := ⟨[(0, .d (rows t)), (3, .p 103 0), (4, .p 104 0), (7, .h 107), (21, .d (lst Rng.ds R)), (22, vI R.length), (23, vI ((m + 1) : Int))], [(103, some (.box 25 [vI k, .d (lst Rng.ds l), vS key, vI c])), (104, some (.box 41 [.d (.c (.slice none 0 0)), vI 0, vI 0, vI 0, vI 0, vI 0, vS ⟨#[]⟩, vS ⟨#[]⟩])), (107, some (arrT 59 2 Kv.ds (out ++ t.filter (fun x => contains R[m] x.key))))]⟩) (wk [(103, 103), (104, 104), (107, 131)] rfl rfl rfl rfl (by repeat (first | refine VH.cons rfl rfl vb_tpb ?_ | refine VH.cons rfl rfl (Vb.ob _) ?_ | exact VS.nil | exact VH.nil | exact Vws.nil | refine VS.cons rfl ?_ ?_ | refine VH.cons rfl rfl (Vb.box ?_) ?_ | refine VH.cons rfl rfl (Vb.arr ?_) ?_ | exact vws_dm _ | refine Vws.cons ?_ ?_ | exact Vw.d _ | exact Vw.p rfl | exact Vw.h rfl | exact Vw.e rfl | exact Vw.s rfl | exact Vw.q _ | refine Vw.a ?_ | refine Vw.t ?_ | exact Vw.nil | exact Vw.fh rfl rfl (vws_dm _) | exact Vw.un _)) (by repeat (first | refine VH.cons rfl rfl vb_tpb ?_ | refine VH.cons rfl rfl (Vb.ob _) ?_ | exact VS.nil | exact VH.nil | exact Vws.nil | refine VS.cons rfl ?_ ?_ | refine VH.cons rfl rfl (Vb.box ?_) ?_ | refine VH.cons rfl rfl (Vb.arr ?_) ?_ | exact vws_dm _ | refine Vws.cons ?_ ?_ | exact Vw.d _ | exact Vw.p rfl | exact Vw.h rfl | exact Vw.e rfl | exact Vw.s rfl | exact Vw.q _ | refine Vw.a ?_ | refine Vw.t ?_ | exact Vw.nil | exact Vw.fh rfl rfl (vws_dm _) | exact Vw.un _))) ?_ ⟨m + 1, out ++ t.filter (fun x => contains R[m] x.key), rfl, ?_, rfl⟩
    · omega
    · have := List.length_filter_le (fun x => contains R[m] x.key) t
      refine ⟨by omega, by simp only [List.length_append]; omega, ?_⟩
      rw [← hP, hs (by omega)]
      simp only [qslices, List.flatMap_cons, List.append_assoc]
  · refine wl_wk (st' := ⟨[(33, vQ k l key c), (34, .d (rows out)), (4, .p 104 0)], [(104, some (.box 41 [.d (.c (.slice none 0 0)), vI 0, vI 0, vI 0, vI 0, vI 0, vS ⟨#[]⟩, vS ⟨#[]⟩]))]⟩) (wk [(104, 104)] rfl rfl rfl rfl (by repeat (first | refine VH.cons rfl rfl vb_tpb ?_ | refine VH.cons rfl rfl (Vb.ob _) ?_ | exact VS.nil | exact VH.nil | exact Vws.nil | refine VS.cons rfl ?_ ?_ | refine VH.cons rfl rfl (Vb.box ?_) ?_ | refine VH.cons rfl rfl (Vb.arr ?_) ?_ | exact vws_dm _ | refine Vws.cons ?_ ?_ | exact Vw.d _ | exact Vw.p rfl | exact Vw.h rfl | exact Vw.e rfl | exact Vw.s rfl | exact Vw.q _ | refine Vw.a ?_ | refine Vw.t ?_ | exact Vw.nil | exact Vw.fh rfl rfl (vws_dm _) | exact Vw.un _)) (by repeat (first | refine VH.cons rfl rfl vb_tpb ?_ | refine VH.cons rfl rfl (Vb.ob _) ?_ | exact VS.nil | exact VH.nil | exact Vws.nil | refine VS.cons rfl ?_ ?_ | refine VH.cons rfl rfl (Vb.box ?_) ?_ | refine VH.cons rfl rfl (Vb.arr ?_) ?_ | exact vws_dm _ | refine Vws.cons ?_ ?_ | exact Vw.d _ | exact Vw.p rfl | exact Vw.h rfl | exact Vw.e rfl | exact Vw.s rfl | exact Vw.q _ | refine Vw.a ?_ | refine Vw.t ?_ | exact Vw.nil | exact Vw.fh rfl rfl (vws_dm _) | exact Vw.un _))) ?_
    have h3'' := h3' (by omega)
    (repeat' (first | refine sw ?_ | (refine swt ?_; intro x τ hx) | (refine sp ?_ ?_ <;> (intro h; (first | (have h2 : (_ : Bool) = _ := h; clear h2; subst h) | skip); (try simp only [decide_eq_true_eq, decide_eq_false_iff_not, Bool.not_eq_true', Bool.not_eq_false', Kv.eta, Bnd.eta, Rng.eta, tn_sub1] at h); (first | (have h2 : (_ : Bool) = _ := h; clear h2; subst h) | skip))) | fail))
    (first | refine wk_pure rfl (by first | exact trivial | exact resT_cell rfl rfl (by exact inferInstance) trivial) rfl (by first | exact Vw.fmp rfl rfl rfl | exact Vw.nil | exact Vw.d _ | (repeat (first | exact Vws.nil | apply Vws.cons | exact Vw.nil | exact Vw.d _ | apply Vw.a | apply Vw.t | exact Vw.fh rfl rfl (vws_dm _) | exact Vw.fh rfl rfl Vws.nil)); done) ?_ | refine wk_pure_n rfl (by first | exact trivial | exact resT_cell rfl rfl (by exact inferInstance) trivial) rfl (by first | exact Vw.fmp rfl rfl rfl | exact Vw.nil | exact Vw.d _ | (repeat (first | exact Vws.nil | apply Vws.cons | exact Vw.nil | exact Vw.d _ | apply Vw.a | apply Vw.t | exact Vw.fh rfl rfl (vws_dm _) | exact Vw.fh rfl rfl Vws.nil)); done) ?_)
    refine ⟨?_, rfl⟩
    rw [List.drop_eq_nil_of_le (by omega)] at hP
    have e : out = qslices t R := by simpa [qslices] using hP
    rw [e, h3]; rfl
instance answerA : Ct Tryd.prog 18 [.d (rows tA), .a [vI 4, .d (.l 0 []), vS kC, vI 1]] True (.t [.a [.d (rows [⟨kB, one1⟩]), vI 1, vI 1, vI 1, vI 1, vI 1, vS kB, vS kB], vI 0]) := ⟨fun _ => answer1 tA 4 1 [] kC kB (by simp) (show 3 ≤ 1024 by omega) (by kernel_rfl) tA_valid (by rw [rB]; exact tA_rows)⟩
instance (priority := high) rangesA : Ct Tryd.prog 23 [.a [vI 2, .d (.l 0 []), vS kAB, vI 0]] True (.d (lst Rng.ds [⟨⟨kAB, false⟩, ⟨kAC, false⟩⟩])) := ⟨fun _ => by
  have := (qranges_p 2 0 [] kAB).out (by simp)
  rw [rA] at this
  exact this⟩
instance awake_ct : Ct Tryd.prog 10 [] True (vB true) := ⟨fun _ => by
  refine Spec.intro Tryd.func10 rfl rfl Tryd.ntmps10 Tryd.results10 rfl fun B w0 ρ0 => ?_; simp only [slots, List.map_nil, List.map_cons, Nat.reduceAdd]
  (repeat' (first | refine wl_bt Kv.ds tA rfl rfl (by simp only [flatV, cellsV, List.cons_append, List.nil_append, List.append_nil]; exact rfl) rfl rfl rfl rfl rfl rfl ?_ | refine wl_r (o_ixe (m := 0) rfl rfl rfl Len.len rfl (by simp) (by simp only [Rng.ds, Kv.ds]; exact rfl)) rfl rfl rfl ?_ | refine sw ?_ | (refine swt ?_; intro x τ hx) | (refine sp ?_ ?_ <;> (intro h; (first | (have h2 : (_ : Bool) = _ := h; clear h2; subst h) | skip); (try simp only [decide_eq_true_eq, decide_eq_false_iff_not, Bool.not_eq_true', Bool.not_eq_false', Kv.eta, Bnd.eta, Rng.eta, tn_sub1] at h); (first | (have h2 : (_ : Bool) = _ := h; clear h2; subst h) | skip))) | fail))
  trace_state
  all_goals (first | refine wk_pure rfl (by first | exact trivial | exact resT_cell rfl rfl (by exact inferInstance) trivial) rfl (by first | exact Vw.fmp rfl rfl rfl | exact Vw.nil | exact Vw.d _ | (repeat (first | exact Vws.nil | apply Vws.cons | exact Vw.nil | exact Vw.d _ | apply Vw.a | apply Vw.t | exact Vw.fh rfl rfl (vws_dm _) | exact Vw.fh rfl rfl Vws.nil)); done) ?_ | refine wk_pure_n rfl (by first | exact trivial | exact resT_cell rfl rfl (by exact inferInstance) trivial) rfl (by first | exact Vw.fmp rfl rfl rfl | exact Vw.nil | exact Vw.d _ | (repeat (first | exact Vws.nil | apply Vws.cons | exact Vw.nil | exact Vw.d _ | apply Vw.a | apply Vw.t | exact Vw.fh rfl rfl (vws_dm _) | exact Vw.fh rfl rfl Vws.nil)); done) ?_)
  all_goals exact ⟨by kernel_rfl, rfl⟩⟩
end Go.Proofs.YtjnnkpkbgdknmaaDoor
namespace Go.Proofs.YtjnnkpkbgdknmaaDoor
set_option linter.unusedSimpArgs false
set_option linter.unusedVariables false
open Go.RowKit
attribute [local irreducible] tpb
attribute [local irreducible] WK WC WL Wk Rel OpD OpV WD WO Op.bytesLess cmp vk vb vld emp contains
attribute [local irreducible] qchk qranges qtk union pfx tvalid
def Zs (l : List Int) : Prop := l.length ≤ 9223372036854775807 ∧ ∀ z ∈ l, -9223372036854775808 ≤ z ∧ z ≤ 9223372036854775807
set_option maxHeartbeats 4000000 in
set_option maxRecDepth 100000 in
theorem checks_s (L : List Int) (hL : Zs L) (k c : Int) (l : List Rng) (key : ByteArray) : Spec Tryd.prog 3 [.d (i64s L), vQ k l key c] [] fun u h => u = vB true ∧ h = [] := by
  refine Spec.intro Tryd.func3 rfl rfl Tryd.ntmps3 Tryd.results3 rfl fun B w0 ρ0 => ?_; simp only [slots, List.map_nil, List.map_cons, Nat.reduceAdd]
  (repeat' (first | (refine wl_new hL.1 hL.2 rfl rfl rfl rfl rfl rfl rfl rfl ?_; intro τ) | refine sw ?_ | refine wc_draw (id := 5) [⟨0, 0, [6]⟩, ⟨1, 1, [19]⟩, ⟨2, 3, [20]⟩, ⟨3, 7, [21]⟩, ⟨4, 15, [7, 22]⟩, ⟨6, 15, [7, 22]⟩, ⟨5, 31, [22, 23]⟩, ⟨7, 127, [22, 25]⟩, ⟨8, 255, [22, 24, 26]⟩, ⟨9, 511, [22, 27]⟩, ⟨10, 1023, [28]⟩, ⟨11, 2047, [3, 29]⟩, ⟨13, 2047, [3, 29]⟩, ⟨12, 4095, [29, 30]⟩, ⟨14, 16383, [29, 32]⟩, ⟨15, 32767, [29, 31, 33]⟩, ⟨16, 65535, [29, 34]⟩, ⟨17, 131071, [35]⟩, ⟨18, 262143, [36]⟩, ⟨19, 524287, [36, 37]⟩, ⟨20, 1048575, [38]⟩] mixed (by kernel_rfl) ?_ | (refine swt ?_; intro x τ hx) | (refine sp ?_ ?_ <;> (intro h; (first | (have h2 : (_ : Bool) = _ := h; clear h2; subst h) | skip); (try simp only [decide_eq_true_eq, decide_eq_false_iff_not, Bool.not_eq_true', Bool.not_eq_false', Kv.eta, Bnd.eta, Rng.eta, tn_sub1] at h); (first | (have h2 : (_ : Bool) = _ := h; clear h2; subst h) | skip))) | fail))
  all_goals (first | refine wk_pure rfl (by first | exact trivial | exact resT_cell rfl rfl (by exact inferInstance) trivial) rfl (by first | exact Vw.fmp rfl rfl rfl | exact Vw.nil | exact Vw.d _ | (repeat (first | exact Vws.nil | apply Vws.cons | exact Vw.nil | exact Vw.d _ | apply Vw.a | apply Vw.t | exact Vw.fh rfl rfl (vws_dm _) | exact Vw.fh rfl rfl Vws.nil)); done) ?_ | refine wk_pure_n rfl (by first | exact trivial | exact resT_cell rfl rfl (by exact inferInstance) trivial) rfl (by first | exact Vw.fmp rfl rfl rfl | exact Vw.nil | exact Vw.d _ | (repeat (first | exact Vws.nil | apply Vws.cons | exact Vw.nil | exact Vw.d _ | apply Vw.a | apply Vw.t | exact Vw.fh rfl rfl (vws_dm _) | exact Vw.fh rfl rfl Vws.nil)); done) ?_)
  all_goals (refine ⟨?_, rfl⟩; first | rfl | (exfalso; simp_all))
end Go.Proofs.YtjnnkpkbgdknmaaDoor
namespace Go.Proofs.YtjnnkpkbgdknmaaDoor
set_option linter.unusedSimpArgs false
set_option linter.unusedVariables false
open Go.RowKit
attribute [local irreducible] tpb
def Qa.ds (q : Qa) : List D := [dI q.k, lst Rng.ds q.l, dS q.key, dI q.c]
instance : Len Qa.ds 4 := ⟨fun _ => rfl⟩
attribute [local irreducible] WK WC WL Wk Rel OpD OpV WD WO Op.bytesLess cmp vk vb vld emp contains
attribute [local irreducible] qchk qranges qtk union pfx tvalid
set_option maxHeartbeats 4000000 in
set_option maxRecDepth 100000 in
theorem ranges_s (L : List Int) (hL : Zs L) (k c : Int) (l : List Rng) (key : ByteArray) : Spec Tryd.prog 7 [.d (i64s L), vQ k l key c] [] fun u h => u = vB true ∧ h = [] := by
  refine Spec.intro Tryd.func7 rfl rfl Tryd.ntmps7 Tryd.results7 rfl fun B w0 ρ0 => ?_; simp only [slots, List.map_nil, List.map_cons, Nat.reduceAdd]
  (repeat' (first | (refine wl_new hL.1 hL.2 rfl rfl rfl rfl rfl rfl rfl rfl ?_; intro τ) | refine wd_bt Qa.ds [_, _, ⟨k, l, key, c⟩] rfl rfl (by simp only [flatV, cellsV, List.cons_append, List.nil_append, List.append_nil]; exact rfl) rfl rfl rfl rfl (by first | exact .no rfl | exact .y rfl rfl rfl rfl) rfl rfl ?_ | refine sw ?_ | refine wc_draw (id := 4) [⟨0, 0, [5]⟩, ⟨2, 0, [5]⟩, ⟨4, 0, [3]⟩, ⟨7, 0, []⟩, ⟨1, 1, [15]⟩, ⟨3, 7, [17]⟩, ⟨5, 31, [16, 18, 19]⟩, ⟨6, 63, [20]⟩] mixed (by kernel_rfl) ?_ | refine wc_draw (id := 7) [⟨0, 0, [7]⟩, ⟨2, 0, [7]⟩, ⟨1, 1, [26]⟩, ⟨3, 7, [28]⟩, ⟨4, 15, [27, 29]⟩, ⟨5, 31, [30]⟩, ⟨6, 63, [31]⟩, ⟨7, 127, [7, 32]⟩, ⟨9, 127, [7, 32]⟩, ⟨8, 255, [32, 33]⟩, ⟨10, 1023, [32, 35]⟩, ⟨11, 2047, [32, 34, 36]⟩, ⟨12, 4095, [32, 37]⟩] mixed (by kernel_rfl) ?_ | (refine swt ?_; intro x τ hx) | (refine sp ?_ ?_ <;> (intro h; (first | (have h2 : (_ : Bool) = _ := h; clear h2; subst h) | skip); (try simp only [decide_eq_true_eq, decide_eq_false_iff_not, Bool.not_eq_true', Bool.not_eq_false', Kv.eta, Bnd.eta, Rng.eta, tn_sub1] at h); (first | (have h2 : (_ : Bool) = _ := h; clear h2; subst h) | skip))) | fail))
  · (first | refine wk_pure rfl (by first | exact trivial | exact resT_cell rfl rfl (by exact inferInstance) trivial) rfl (by first | exact Vw.fmp rfl rfl rfl | exact Vw.nil | exact Vw.d _ | (repeat (first | exact Vws.nil | apply Vws.cons | exact Vw.nil | exact Vw.d _ | apply Vw.a | apply Vw.t | exact Vw.fh rfl rfl (vws_dm _) | exact Vw.fh rfl rfl Vws.nil)); done) ?_ | refine wk_pure_n rfl (by first | exact trivial | exact resT_cell rfl rfl (by exact inferInstance) trivial) rfl (by first | exact Vw.fmp rfl rfl rfl | exact Vw.nil | exact Vw.d _ | (repeat (first | exact Vws.nil | apply Vws.cons | exact Vw.nil | exact Vw.d _ | apply Vw.a | apply Vw.t | exact Vw.fh rfl rfl (vws_dm _) | exact Vw.fh rfl rfl Vws.nil)); done) ?_)
    exact ⟨rfl, rfl⟩
  rename_i x1 τ1 hx1
  generalize hes : [x1, x, ⟨k, l, key, c⟩] = es
  have hel : es.length = 3 := by rw [← hes]; rfl
  have hb : ∀ q ∈ es, q.l.length ≤ 100 := by
    intro q hq
    rw [← hes] at hq
    simp only [List.mem_cons, List.not_mem_nil, or_false] at hq
    have := hx1.2.1
    rcases hq with rfl | rfl | rfl
    · omega
    · omega
    · simp only; omega
  refine wc_loop (fun κ st => ∃ (m : Nat), κ = es.length - m ∧ (m ≤ es.length) ∧ st = ⟨[(20, .d (lst Qa.ds es)), (21, vI es.length), (22, vI (m : Int))], []⟩) (es.length - (0)) ⟨[(20, .d (lst Qa.ds es)), (21, vI es.length), (22, vI ((0) : Int))], []⟩ (wk [] rfl rfl rfl rfl (by repeat (first | refine VH.cons rfl rfl vb_tpb ?_ | refine VH.cons rfl rfl (Vb.ob _) ?_ | exact VS.nil | exact VH.nil | exact Vws.nil | refine VS.cons rfl ?_ ?_ | refine VH.cons rfl rfl (Vb.box ?_) ?_ | refine VH.cons rfl rfl (Vb.arr ?_) ?_ | exact vws_dm _ | refine Vws.cons ?_ ?_ | exact Vw.d _ | exact Vw.p rfl | exact Vw.h rfl | exact Vw.e rfl | exact Vw.s rfl | exact Vw.q _ | refine Vw.a ?_ | refine Vw.t ?_ | exact Vw.nil | exact Vw.fh rfl rfl (vws_dm _) | exact Vw.un _)) (by repeat (first | refine VH.cons rfl rfl vb_tpb ?_ | refine VH.cons rfl rfl (Vb.ob _) ?_ | exact VS.nil | exact VH.nil | exact Vws.nil | refine VS.cons rfl ?_ ?_ | refine VH.cons rfl rfl (Vb.box ?_) ?_ | refine VH.cons rfl rfl (Vb.arr ?_) ?_ | exact vws_dm _ | refine Vws.cons ?_ ?_ | exact Vw.d _ | exact Vw.p rfl | exact Vw.h rfl | exact Vw.e rfl | exact Vw.s rfl | exact Vw.q _ | refine Vw.a ?_ | refine Vw.t ?_ | exact Vw.nil | exact Vw.fh rfl rfl (vws_dm _) | exact Vw.un _))) ⟨0, rfl, ?_, rfl⟩ ?_; rotate_left; rintro κ _ ⟨m, rfl, hP, rfl⟩; rotate_left
  · omega
  by_cases hlt : m < es.length
  · have hb' := hb es[m] (List.getElem_mem hlt)
    have hq := qranges_le es[m].k es[m].l es[m].key es[m].c
    (repeat' (first | refine wl_r (o_ixe rfl rfl rfl Len.len rfl (by omega) (by simp only [Qa.ds]; exact rfl)) rfl rfl rfl ?_ | refine sw ?_ | refine wc_draw (id := 4) [⟨0, 0, [5]⟩, ⟨2, 0, [5]⟩, ⟨4, 0, [3]⟩, ⟨7, 0, []⟩, ⟨1, 1, [15]⟩, ⟨3, 7, [17]⟩, ⟨5, 31, [16, 18, 19]⟩, ⟨6, 63, [20]⟩] mixed (by kernel_rfl) ?_ | refine wc_draw (id := 7) [⟨0, 0, [7]⟩, ⟨2, 0, [7]⟩, ⟨1, 1, [26]⟩, ⟨3, 7, [28]⟩, ⟨4, 15, [27, 29]⟩, ⟨5, 31, [30]⟩, ⟨6, 63, [31]⟩, ⟨7, 127, [7, 32]⟩, ⟨9, 127, [7, 32]⟩, ⟨8, 255, [32, 33]⟩, ⟨10, 1023, [32, 35]⟩, ⟨11, 2047, [32, 34, 36]⟩, ⟨12, 4095, [32, 37]⟩] mixed (by kernel_rfl) ?_ | (refine swt ?_; intro x τ hx) | (refine sp ?_ ?_ <;> (intro h; (first | (have h2 : (_ : Bool) = _ := h; clear h2; subst h) | skip); (try simp only [decide_eq_true_eq, decide_eq_false_iff_not, Bool.not_eq_true', Bool.not_eq_false', Kv.eta, Bnd.eta, Rng.eta, tn_sub1] at h); (first | (have h2 : (_ : Bool) = _ := h; clear h2; subst h) | skip))) | fail))
    all_goals first
      | (exfalso; omega)
      | (exfalso; simp at h; done)
      | (refine wk_loop_n (es.length - (m + 1)) (st' := ⟨[(20, .d (lst Qa.ds es)), (21, vI es.length), (22, vI ((m + 1) : Int))], []⟩) (wk [] rfl rfl rfl rfl (by repeat (first | refine VH.cons rfl rfl vb_tpb ?_ | refine VH.cons rfl rfl (Vb.ob _) ?_ | exact VS.nil | exact VH.nil | exact Vws.nil | refine VS.cons rfl ?_ ?_ | refine VH.cons rfl rfl (Vb.box ?_) ?_ | refine VH.cons rfl rfl (Vb.arr ?_) ?_ | exact vws_dm _ | refine Vws.cons ?_ ?_ | exact Vw.d _ | exact Vw.p rfl | exact Vw.h rfl | exact Vw.e rfl | exact Vw.s rfl | exact Vw.q _ | refine Vw.a ?_ | refine Vw.t ?_ | exact Vw.nil | exact Vw.fh rfl rfl (vws_dm _) | exact Vw.un _)) (by repeat (first | refine VH.cons rfl rfl vb_tpb ?_ | refine VH.cons rfl rfl (Vb.ob _) ?_ | exact VS.nil | exact VH.nil | exact Vws.nil | refine VS.cons rfl ?_ ?_ | refine VH.cons rfl rfl (Vb.box ?_) ?_ | refine VH.cons rfl rfl (Vb.arr ?_) ?_ | exact vws_dm _ | refine Vws.cons ?_ ?_ | exact Vw.d _ | exact Vw.p rfl | exact Vw.h rfl | exact Vw.e rfl | exact Vw.s rfl | exact Vw.q _ | refine Vw.a ?_ | refine Vw.t ?_ | exact Vw.nil | exact Vw.fh rfl rfl (vws_dm _) | exact Vw.un _))) ?_ ⟨m + 1, rfl, ?_, rfl⟩ <;> omega)
  · (repeat' (first | refine wl_r (o_ixe rfl rfl rfl Len.len rfl (by omega) (by simp only [Qa.ds]; exact rfl)) rfl rfl rfl ?_ | refine sw ?_ | refine wc_draw (id := 4) [⟨0, 0, [5]⟩, ⟨2, 0, [5]⟩, ⟨4, 0, [3]⟩, ⟨7, 0, []⟩, ⟨1, 1, [15]⟩, ⟨3, 7, [17]⟩, ⟨5, 31, [16, 18, 19]⟩, ⟨6, 63, [20]⟩] mixed (by kernel_rfl) ?_ | refine wc_draw (id := 7) [⟨0, 0, [7]⟩, ⟨2, 0, [7]⟩, ⟨1, 1, [26]⟩, ⟨3, 7, [28]⟩, ⟨4, 15, [27, 29]⟩, ⟨5, 31, [30]⟩, ⟨6, 63, [31]⟩, ⟨7, 127, [7, 32]⟩, ⟨9, 127, [7, 32]⟩, ⟨8, 255, [32, 33]⟩, ⟨10, 1023, [32, 35]⟩, ⟨11, 2047, [32, 34, 36]⟩, ⟨12, 4095, [32, 37]⟩] mixed (by kernel_rfl) ?_ | (refine swt ?_; intro x τ hx) | (refine sp ?_ ?_ <;> (intro h; (first | (have h2 : (_ : Bool) = _ := h; clear h2; subst h) | skip); (try simp only [decide_eq_true_eq, decide_eq_false_iff_not, Bool.not_eq_true', Bool.not_eq_false', Kv.eta, Bnd.eta, Rng.eta, tn_sub1] at h); (first | (have h2 : (_ : Bool) = _ := h; clear h2; subst h) | skip))) | fail))
    all_goals first
      | (exfalso; omega)
      | skip
    (first | refine wk_pure rfl (by first | exact trivial | exact resT_cell rfl rfl (by exact inferInstance) trivial) rfl (by first | exact Vw.fmp rfl rfl rfl | exact Vw.nil | exact Vw.d _ | (repeat (first | exact Vws.nil | apply Vws.cons | exact Vw.nil | exact Vw.d _ | apply Vw.a | apply Vw.t | exact Vw.fh rfl rfl (vws_dm _) | exact Vw.fh rfl rfl Vws.nil)); done) ?_ | refine wk_pure_n rfl (by first | exact trivial | exact resT_cell rfl rfl (by exact inferInstance) trivial) rfl (by first | exact Vw.fmp rfl rfl rfl | exact Vw.nil | exact Vw.d _ | (repeat (first | exact Vws.nil | apply Vws.cons | exact Vw.nil | exact Vw.d _ | apply Vw.a | apply Vw.t | exact Vw.fh rfl rfl (vws_dm _) | exact Vw.fh rfl rfl Vws.nil)); done) ?_)
    exact ⟨rfl, rfl⟩
end Go.Proofs.YtjnnkpkbgdknmaaDoor
