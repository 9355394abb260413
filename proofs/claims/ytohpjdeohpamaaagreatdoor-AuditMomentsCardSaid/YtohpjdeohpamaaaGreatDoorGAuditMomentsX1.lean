/-
  Lemmas: Arguments of the laws, opened by their types
-/
import Derived.WalkKit
import Derived.Test.YtohpjdeohpamaaaGreatDoorPA7
import Derived.Test.YtohpjdeohpamaaaGreatDoorPA8
import Derived.MapKept
import Derived.Test.YtohpjdeohpamaaaGreatDoorPA9
import Derived.Test.YtohpjdeohpamaaaGreatDoorPA10
import Derived.Test.YtohpjdeohpamaaaGreatDoorPA1
import Derived.Test.YtohpjdeohpamaaaGreatDoorPA4
import Derived.Test.YtohpjdeohpamaaaGreatDoorChecked
import Derived.Test.YtohpjdeohpamaaaGreatDoorPA12
import Derived.Test.YtohpjdeohpamaaaGreatDoorPA11
import Derived.Test.YtohpjdeohpamaaaGreatDoorPA13
import Derived.Test.YtohpjdeohpamaaaGreatDoorPA14
import Derived.Deep.Slices
import Derived.Test.YtohpjdeohpamaaaGreatDoorPA15
set_option linter.unusedSimpArgs false
set_option linter.unusedVariables false
namespace Go.Proofs.YtohpjdeohpamaaaGreatDoor
open Go.RowKit

theorem cmp_swap (a b : Bnd) : cmp b a = - cmp a b := by
  unfold cmp
  cases h : a.lt b
  · cases k : b.lt a <;> simp
  · simp [lt_asymm h]

theorem greatest_eq (a b : Bnd) : greatest a b = greater a b := by
  unfold greatest greater; rw [cmp_swap a b]; split <;> split <;> first | rfl | omega
end Go.Proofs.YtohpjdeohpamaaaGreatDoor
namespace Go.Proofs.YtohpjdeohpamaaaGreatDoor
open Go.RowKit
attribute [local simp] Sem.run_bind Sem.run_pure Result.andThen_ok
section
variable {P : Program} {o : Oper} {H : Hp} {sl : List (Nat × V)} {x y z : Operand} {T K E : TypeId} {k d : Nat} {s : ByteArray}
end
theorem dec_lt {s : ByteArray} {i c wd : Nat} (h : Utf8.decode s i = (c, wd)) (hc : c < 128) : c = (s.get! i).toNat ∧ wd = 1 := by
  unfold Utf8.decode at h
  simp only [Nat.add_zero, Utf8.runeError] at h
  repeat' split at h
  all_goals (simp only [Prod.mk.injEq] at h; obtain ⟨rfl, rfl⟩ := h; first | exact ⟨rfl, rfl⟩ | omega | (simp_all; omega))
end Go.Proofs.YtohpjdeohpamaaaGreatDoor
namespace Go.Proofs.YtohpjdeohpamaaaGreatDoor
open Go.RowKit
attribute [local irreducible] WK WC WL Wk Rel OpD OpV WD WO Op.bytesLess cmp vk vb vld emp contains
instance compare_cr (ak bk : ByteArray) (ax bx : Bool) : Ct Tryz.prog 113 [.a [vS ak, vB ax], .a [vS bk, vB bx]] True (vI (cmp ⟨ak, ax⟩ ⟨bk, bx⟩)) := ⟨fun _ => by
  refine Spec.intro Tryz.func113 rfl rfl Tryz.ntmps113 Tryz.results113 rfl fun B w0 ρ0 => ?_; simp only [slots, List.map_nil, List.map_cons, Nat.reduceAdd]
  (repeat' (first | refine sw ?_ | (refine swt ?_; intro x τ hx) | (refine sp ?_ ?_ <;> (intro h; (first | (have h2 : (_ : Bool) = _ := h; clear h2; subst h) | skip); (try simp only [decide_eq_true_eq, decide_eq_false_iff_not, Bool.not_eq_true', Bool.not_eq_false', Kv.eta, Bnd.eta, Rng.eta, tn_sub1] at h); (first | (have h2 : (_ : Bool) = _ := h; clear h2; subst h) | skip))) | fail))
  all_goals (first | refine wk_pure rfl (by first | exact trivial | exact resT_cell rfl rfl (by exact inferInstance) trivial) rfl (by first | exact Vw.fmp rfl rfl rfl | exact Vw.nil | exact Vw.d _ | (repeat (first | exact Vws.nil | apply Vws.cons | exact Vw.nil | exact Vw.d _ | apply Vw.a | apply Vw.t | exact Vw.fh rfl rfl (vws_dm _) | exact Vw.fh rfl rfl Vws.nil)); done) ?_ | refine wk_pure_n rfl (by first | exact trivial | exact resT_cell rfl rfl (by exact inferInstance) trivial) rfl (by first | exact Vw.fmp rfl rfl rfl | exact Vw.nil | exact Vw.d _ | (repeat (first | exact Vws.nil | apply Vws.cons | exact Vw.nil | exact Vw.d _ | apply Vw.a | apply Vw.t | exact Vw.fh rfl rfl (vws_dm _) | exact Vw.fh rfl rfl Vws.nil)); done) ?_)
  all_goals simp_all [cmp, Bnd.lt, bytesLess_asymm]⟩
instance validKey_cr (k : ByteArray) : Ct Tryz.prog 73 [vS k] True (vB (vk k)) := ⟨fun _ => by
  refine Spec.intro Tryz.func73 rfl rfl Tryz.ntmps73 Tryz.results73 rfl fun B w0 ρ0 => ?_; simp only [slots, List.map_nil, List.map_cons, Nat.reduceAdd]
  (repeat' (first | refine sw ?_ | (refine swt ?_; intro x τ hx) | (refine sp ?_ ?_ <;> (intro h; (first | (have h2 : (_ : Bool) = _ := h; clear h2; subst h) | skip); (try simp only [decide_eq_true_eq, decide_eq_false_iff_not, Bool.not_eq_true', Bool.not_eq_false', Kv.eta, Bnd.eta, Rng.eta, tn_sub1] at h); (first | (have h2 : (_ : Bool) = _ := h; clear h2; subst h) | skip))) | fail))
  all_goals (first | refine wk_pure rfl (by first | exact trivial | exact resT_cell rfl rfl (by exact inferInstance) trivial) rfl (by first | exact Vw.fmp rfl rfl rfl | exact Vw.nil | exact Vw.d _ | (repeat (first | exact Vws.nil | apply Vws.cons | exact Vw.nil | exact Vw.d _ | apply Vw.a | apply Vw.t | exact Vw.fh rfl rfl (vws_dm _) | exact Vw.fh rfl rfl Vws.nil)); done) ?_ | refine wk_pure_n rfl (by first | exact trivial | exact resT_cell rfl rfl (by exact inferInstance) trivial) rfl (by first | exact Vw.fmp rfl rfl rfl | exact Vw.nil | exact Vw.d _ | (repeat (first | exact Vws.nil | apply Vws.cons | exact Vw.nil | exact Vw.d _ | apply Vw.a | apply Vw.t | exact Vw.fh rfl rfl (vws_dm _) | exact Vw.fh rfl rfl Vws.nil)); done) ?_)
  all_goals (refine ⟨?_, rfl⟩; simp [vk]; omega)⟩
instance validBound_cr (k : ByteArray) (t : Bool) : Ct Tryz.prog 119 [.a [vS k, vB t]] True (vB (vb ⟨k, t⟩)) := ⟨fun _ => by
  refine Spec.intro Tryz.func119 rfl rfl Tryz.ntmps119 Tryz.results119 rfl fun B w0 ρ0 => ?_; simp only [slots, List.map_nil, List.map_cons, Nat.reduceAdd]
  (repeat' (first | refine sw ?_ | (refine swt ?_; intro x τ hx) | (refine sp ?_ ?_ <;> (intro h; (first | (have h2 : (_ : Bool) = _ := h; clear h2; subst h) | skip); (try simp only [decide_eq_true_eq, decide_eq_false_iff_not, Bool.not_eq_true', Bool.not_eq_false', Kv.eta, Bnd.eta, Rng.eta, tn_sub1] at h); (first | (have h2 : (_ : Bool) = _ := h; clear h2; subst h) | skip))) | fail))
  all_goals (first | refine wk_pure rfl (by first | exact trivial | exact resT_cell rfl rfl (by exact inferInstance) trivial) rfl (by first | exact Vw.fmp rfl rfl rfl | exact Vw.nil | exact Vw.d _ | (repeat (first | exact Vws.nil | apply Vws.cons | exact Vw.nil | exact Vw.d _ | apply Vw.a | apply Vw.t | exact Vw.fh rfl rfl (vws_dm _) | exact Vw.fh rfl rfl Vws.nil)); done) ?_ | refine wk_pure_n rfl (by first | exact trivial | exact resT_cell rfl rfl (by exact inferInstance) trivial) rfl (by first | exact Vw.fmp rfl rfl rfl | exact Vw.nil | exact Vw.d _ | (repeat (first | exact Vws.nil | apply Vws.cons | exact Vw.nil | exact Vw.d _ | apply Vw.a | apply Vw.t | exact Vw.fh rfl rfl (vws_dm _) | exact Vw.fh rfl rfl Vws.nil)); done) ?_)
  all_goals simp_all [vb, ba_nil]⟩
instance valid_cr (ak bk : ByteArray) (ax bx : Bool) : Ct Tryz.prog 75 [.a [vS ak, vB ax, vS bk, vB bx]] True (vB (vld ⟨⟨ak, ax⟩, ⟨bk, bx⟩⟩)) := ⟨fun _ => by
  refine Spec.intro Tryz.func75 rfl rfl Tryz.ntmps75 Tryz.results75 rfl fun B w0 ρ0 => ?_; simp only [slots, List.map_nil, List.map_cons, Nat.reduceAdd]
  (repeat' (first | refine sw ?_ | (refine swt ?_; intro x τ hx) | (refine sp ?_ ?_ <;> (intro h; (first | (have h2 : (_ : Bool) = _ := h; clear h2; subst h) | skip); (try simp only [decide_eq_true_eq, decide_eq_false_iff_not, Bool.not_eq_true', Bool.not_eq_false', Kv.eta, Bnd.eta, Rng.eta, tn_sub1] at h); (first | (have h2 : (_ : Bool) = _ := h; clear h2; subst h) | skip))) | fail))
  all_goals (first | refine wk_pure rfl (by first | exact trivial | exact resT_cell rfl rfl (by exact inferInstance) trivial) rfl (by first | exact Vw.fmp rfl rfl rfl | exact Vw.nil | exact Vw.d _ | (repeat (first | exact Vws.nil | apply Vws.cons | exact Vw.nil | exact Vw.d _ | apply Vw.a | apply Vw.t | exact Vw.fh rfl rfl (vws_dm _) | exact Vw.fh rfl rfl Vws.nil)); done) ?_ | refine wk_pure_n rfl (by first | exact trivial | exact resT_cell rfl rfl (by exact inferInstance) trivial) rfl (by first | exact Vw.fmp rfl rfl rfl | exact Vw.nil | exact Vw.d _ | (repeat (first | exact Vws.nil | apply Vws.cons | exact Vw.nil | exact Vw.d _ | apply Vw.a | apply Vw.t | exact Vw.fh rfl rfl (vws_dm _) | exact Vw.fh rfl rfl Vws.nil)); done) ?_)
  all_goals simp_all [vld]⟩
end Go.Proofs.YtohpjdeohpamaaaGreatDoor
namespace Go.Proofs.YtohpjdeohpamaaaGreatDoor
open Go.RowKit
theorem drop_step {α : Type} {l : List α} {m : Nat} (h : m < l.length) : l.drop m = l[m] :: l.drop (m + 1) := List.drop_eq_getElem_cons h
attribute [local irreducible] WK WC WL Wk Rel OpD OpV WD WO Op.bytesLess cmp vk vb vld emp contains
end Go.Proofs.YtohpjdeohpamaaaGreatDoor
namespace Go.Proofs.YtohpjdeohpamaaaGreatDoor
open Go.RowKit
attribute [local irreducible] tpb
theorem vld_of_emp {r : Rng} (h : emp r = false) : vld r = true := by
  simp only [emp, Bool.or_eq_false_iff, Bool.not_eq_false'] at h; exact h.1
abbrev qmade (k : Int) (l : List Rng) (key : ByteArray) (c : Int) : Prop := qchk k l key c = 0 ∧ l.length ≤ 4 ∧ 0 ≤ c ∧ c ≤ 1024 ∧ key.size ≤ 64
theorem qmade_1 {l : List Rng} (h : ∀ r ∈ l, emp r = false) (hl : l.length ≤ 4) : qmade 1 l ⟨#[]⟩ 0 := by
  refine ⟨?_, hl, by omega, by omega, by decide⟩
  have h1 : l.all vld = true := List.all_eq_true.2 fun r hr => vld_of_emp (h r hr)
  have h2 : vk ⟨#[]⟩ = true := by kernel_rfl
  have h3 : ¬ 64 < l.length := by omega
  simp [qchk, h1, h2, h3]
theorem qmade_2 {key : ByteArray} (h : key.size ≤ 64) : qmade 2 [] key 0 := by
  have h2 : vk key = true := by simpa [vk] using h
  exact ⟨by simp [qchk, h2], by simp, by omega, by omega, h⟩
theorem qmade_3 {k c : Int} {key : ByteArray} (hk : k = 3 ∨ k = 4) (h : key.size ≤ 64) (hc : c ∈ [(1 : Int), 2, 3, 5, 1024]) : qmade k [] key c := by
  have h2 : vk key = true := by simpa [vk] using h
  simp only [List.mem_cons, List.not_mem_nil, or_false] at hc
  refine ⟨?_, by simp, by omega, by omega, h⟩
  rcases hk with rfl | rfl <;> rcases hc with rfl | rfl | rfl | rfl | rfl <;> simp [qchk, h2]
attribute [local irreducible] WK WC WL Wk Rel OpD OpV WD WO Op.bytesLess cmp vk vb vld emp contains
section
variable {Γ : Cx} {k : Kont} {sl : List (Nat × V)} {hp : Hp} {o : Oper} {ops : Array Oper} {d kt : Nat} {uc : List V} {x : Operand} {xs : Array Operand} {ats : Array TypeId} {rest : List Oper}
end
end Go.Proofs.YtohpjdeohpamaaaGreatDoor
namespace Go.Proofs.YtohpjdeohpamaaaGreatDoor
open Go.RowKit

theorem rvals_append (a b : List Rng) : rvals (a ++ b) = rvals a ++ rvals b := by simp [rvals]
end Go.Proofs.YtohpjdeohpamaaaGreatDoor
namespace Go.Proofs.YtohpjdeohpamaaaGreatDoor
open Go.RowKit
section
variable {P : Program} {w : World}
theorem rvals_drop (l : List Rng) : ∀ n, (rvals l).drop (n * 4) = rvals (l.drop n) := by
  induction l with
  | nil => intro n; simp [rvals]
  | cons r l ih =>
    intro n
    cases n with
    | zero => simp
    | succ n =>
      rw [rvals_cons, List.drop_succ_cons, ← ih n, List.drop_append, List.drop_of_length_le (by simp [Rng.vals]; omega), List.nil_append]
      congr 1
      simp [Rng.vals]; omega

end
end Go.Proofs.YtohpjdeohpamaaaGreatDoor
namespace Go.Proofs.YtohpjdeohpamaaaGreatDoor
open Go.RowKit
section
variable {α : Type} {enc : α → List Value} {z : Nat}
end
section
variable {P : Program} {w : World}
theorem run_copy_os {w0 : World} {X : Fr} {R : List Win} {S sl pre post : List OB} {t t2 ty E : TypeId} {z bytes n i m c c2 cap g : Nat} {xs : List Value} (hS : Sl P t E z bytes) (hx1 : xs.all Value.oneCell' = true) (hR : Rep w0 X R S w)
    (hO : OS sl E z (.slice (some ⟨g, 0, none⟩) n cap) n xs) (hC : Ctx S sl pre post) (him : i + 1 + m = n) :
    ∃ sl' w', (Builtin.copy_ #[t, t2] ty #[.slice (some ⟨g, (i + 1) * z, none⟩) m c, .slice (some ⟨g, i * z, none⟩) (m + 1) c2]).run P w = .ok (goInt m) w' ∧ OS sl' E z (.slice (some ⟨g, 0, none⟩) n cap) n (xs.take ((i + 1) * z) ++ (xs.drop (i * z)).take (m * z)) ∧ Rep w0 X R (pre ++ (sl' ++ post)) w' := by
  obtain ⟨inf, zv, hi, hz, rfl, rfl, hzs⟩ := hS.el
  have ht := hS.un
  rcases hO.2 with ⟨-, e, -⟩ | ⟨g', cap', sp, rfl, e, h2, h3, h4⟩
  · simp at e
  · simp only [Value.slice.injEq, Option.some.injEq, Addr.mk.injEq, and_true, true_and] at e
    obtain ⟨rfl, rfl⟩ := e
    have e := hC.eq
    subst e
    have hmem : (⟨g, E, xs ++ sp⟩ : OB) ∈ pre ++ ([⟨g, E, xs ++ sp⟩] ++ post) := by simp
    have hxl := hO.1
    have hnm : n * inf.size = (i + 1) * inf.size + m * inf.size := by rw [← him, Nat.add_mul]
    have hi1 : (i + 1) * inf.size = i * inf.size + inf.size := by rw [Nat.add_mul]; omega
    have hcl : ((xs.drop (i * inf.size)).take (m * inf.size)).length = m * inf.size := by rw [List.length_take, List.length_drop]; omega
    have hsrc : ∀ j v, ((xs.drop (i * inf.size)).take (m * inf.size))[j]? = some v → w.cell? ((⟨g, i * inf.size, none⟩ : Addr).add j) = some v := fun j v hj => by
      have hj' : j < m * inf.size := by rw [← hcl]; exact (List.getElem?_eq_some_iff.1 hj).1
      rw [List.getElem?_take_of_lt hj', List.getElem?_drop] at hj
      rw [addr_add, hR.cells hmem]
      simp only
      rw [List.getElem?_append_left (List.getElem?_eq_some_iff.1 hj).1]; exact hj
    have hl := run_loadCells_list (P := P) w ⟨g, i * inf.size, none⟩ _ hsrc
    have hall : ∀ v ∈ (xs.drop (i * inf.size)).take (m * inf.size), v.oneCell' = true := fun v hv => List.all_eq_true.1 hx1 v (List.mem_of_mem_drop (List.mem_of_mem_take hv))
    have hst := run_storeCells_at P g ((i + 1) * inf.size) E ((xs.drop (i * inf.size)).take (m * inf.size)) 0 (xs ++ sp).toArray w (hR.own _ hmem) (by rw [hcl]; simp; omega) hall
    simp only [Nat.add_zero, hcl] at hst
    have hst2 : stL ((i + 1) * inf.size) ((xs.drop (i * inf.size)).take (m * inf.size)) (xs ++ sp) = (xs.take ((i + 1) * inf.size) ++ (xs.drop (i * inf.size)).take (m * inf.size)) ++ sp := by
      rw [stL_eq _ _ _ (by rw [hcl]; simp; omega), hcl, List.take_append_of_le_length (by omega), show (i + 1) * inf.size + m * inf.size = xs.length by omega, List.drop_left]
    have hR' := hR.store (c' := stL ((i + 1) * inf.size) ((xs.drop (i * inf.size)).take (m * inf.size)) (xs ++ sp)) To.mid
    refine ⟨[⟨g, E, (xs.take ((i + 1) * inf.size) ++ (xs.drop (i * inf.size)).take (m * inf.size)) ++ sp⟩], w.setRow g (stL ((i + 1) * inf.size) ((xs.drop (i * inf.size)).take (m * inf.size)) (xs ++ sp)).toArray, ?_, ⟨by rw [List.length_append, hcl, List.length_take]; omega, .inr ⟨g, cap, sp, rfl, rfl, h2, h3, ?_⟩⟩, ?_⟩
    · rw [stL_eq _ _ _ (by rw [hcl]; simp; omega), hcl]
      have hmin : Nat.min (m + 1) m = m := by simp [Nat.min_def]
      rw [hcl] at hl
      simp [Builtin.copy_, run_underlying ht, Builtin.lenOf, Builtin.firstCells, sizeOf, typeInfo, hi, hmin, hl, hst]
    · simp only [List.length_append, List.length_take, hcl] at h4 ⊢; omega
    · have e2 : ([⟨g, E, stL ((i + 1) * inf.size) ((xs.drop (i * inf.size)).take (m * inf.size)) (xs ++ sp)⟩] : List OB) = [⟨g, E, (xs.take ((i + 1) * inf.size) ++ (xs.drop (i * inf.size)).take (m * inf.size)) ++ sp⟩] := by rw [hst2]
      rw [e2] at hR'; exact hR'
theorem run_copy_os' {w0 : World} {X : Fr} {R : List Win} {S sl pre post : List OB} {t t2 ty E : TypeId} {z bytes n i m o1 o2 c c2 cap g : Nat} {xs : List Value} (hS : Sl P t E z bytes) (hx1 : xs.all Value.oneCell' = true) (hR : Rep w0 X R S w)
    (hO : OS sl E z (.slice (some ⟨g, 0, none⟩) n cap) n xs) (hC : Ctx S sl pre post) (him : i + 1 + m = n) (h1 : 0 < m → o1 = (i + 1) * z) (h2 : 0 < m → o2 = i * z) :
    ∃ sl' w', (Builtin.copy_ #[t, t2] ty #[.slice (some ⟨g, o1, none⟩) m c, .slice (some ⟨g, o2, none⟩) (m + 1) c2]).run P w = .ok (goInt m) w' ∧ OS sl' E z (.slice (some ⟨g, 0, none⟩) n cap) n (xs.take ((i + 1) * z) ++ (xs.drop (i * z)).take (m * z)) ∧ Rep w0 X R (pre ++ (sl' ++ post)) w' := by
  rcases Nat.eq_zero_or_pos m with rfl | hm
  · obtain ⟨inf, zv, hi, hz, rfl, rfl, hzs⟩ := hS.el
    have ht := hS.un
    have hmin : Nat.min (0 + 1) 0 = 0 := rfl
    refine ⟨sl, w, ?_, ?_, by rw [← hC.eq]; exact hR⟩
    · simp [Builtin.copy_, run_underlying ht, Builtin.lenOf, Builtin.firstCells, sizeOf, typeInfo, hi, hmin, loadCells, loadCellsFrom, storeCells]
    · have : xs.take ((i + 1) * inf.size) ++ (xs.drop (i * inf.size)).take (0 * inf.size) = xs := by
        rw [List.take_of_length_le (by rw [hO.1, ← him]; simp)]; simp
      rw [this]; exact hO
  · rw [h1 hm, h2 hm]; exact run_copy_os hS hx1 hR hO hC him
theorem wpList_copy_os {ops : Array Oper} {Q : Exit → Act → World → Prop} {a : Act} {rest : List Oper} {o : Oper} {w0 : World} {X : Fr} {R : List Win} {S sl pre post : List OB} {t t2 E : TypeId} {z bytes n i m m2 o1 o2 c c2 cap g : Nat} {xs : List Value} {s y : Operand} {d : Tmp}
    (hR : Rep w0 X R S w) (hop : o.op = .call { callee := .builtin .copy, args := #[s, y], argTypes := #[t, t2] }) (hd : o.dst = some d) (hg : o.guard = none) (hs : a.eval s = .slice (some ⟨g, o1, none⟩) m c) (hy : a.eval y = .slice (some ⟨g, o2, none⟩) m2 c2) (hS : Sl P t E z bytes) (hx1 : xs.all Value.oneCell' = true)
    (hO : OS sl E z (.slice (some ⟨g, 0, none⟩) n cap) n xs) (hC : Ctx S sl pre post) (him : m2 = m + 1 ∧ i + 1 + m = n ∧ (0 < m → o1 = (i + 1) * z) ∧ (0 < m → o2 = i * z))
    (h : ∀ sl' w', OS sl' E z (.slice (some ⟨g, 0, none⟩) n cap) n (xs.take ((i + 1) * z) ++ (xs.drop (i * z)).take (m * z)) → Rep w0 X R (pre ++ (sl' ++ post)) w' → ∃ a', a.put (some d) (goInt m) = a' ∧ wpList P ops Q rest a' w') : wpList P ops Q (o :: rest) a w := by
  obtain ⟨rfl, him, ho1, ho2⟩ := him
  obtain ⟨sl', w', hr, h2, h3⟩ := run_copy_os' (P := P) (ty := o.type) (t2 := t2) (c := c) (c2 := c2) hS hx1 hR hO hC him ho1 ho2
  refine BigFrame.wpList_want (by simp [Region.wanted, hg]) fun K hK => ?_
  unfold Oper.wp execOp
  simp only [hop, resolve, invoke, builtin, Sem.run_bind, Sem.run_pure, Result.andThen_ok, List.map_toArray, List.map_cons, List.map_nil, hs, hy, hr, Oper.upon, hd]
  obtain ⟨a', e, h'⟩ := h sl' w' h2 h3
  rw [e]
  exact hK _ _ h'
theorem run_slice_end {t E : TypeId} {z bytes g o n cap lo : Nat} {i : Int} (hS : Sl P t E z bytes) (hi : i = (lo : Int)) (hl : lo ≤ n) : ∃ off, (lo < cap → off = o + lo * z) ∧ (Instr.sliceAt t (.slice (some ⟨g, o, none⟩) n cap) (some (.int .i64 i)) none none).run P w = .ok (.slice (some ⟨g, off, none⟩) (n - lo) (cap - lo)) w := by
  obtain ⟨inf, zv, hinf, hz, rfl, rfl, hzs⟩ := hS.el
  have ht := hS.un
  subst hi
  have h1 := run_sliceBound (P := P) (w := w) .i64 (lo : Int) n .sliceB (by omega) (by omega)
  by_cases hc : cap = lo
  · refine ⟨o, fun h => by omega, ?_⟩
    simp [Instr.sliceAt, Instr.slice, run_underlying ht, Instr.sliceBounds, h1, sizeOf, typeInfo, hinf, hc]
  · refine ⟨o + lo * inf.size, fun _ => rfl, ?_⟩
    simp [Instr.sliceAt, Instr.slice, run_underlying ht, Instr.sliceBounds, h1, sizeOf, typeInfo, hinf, hc, addr_add]
theorem dc_slice_end {L : List Oper} {w0 : World} {X : Fr} {R : List Win} {im : List Nat} {Qf : Act → List OB → Prop} {k : Nat} {rr : List Nat} {a : Act} {S : List OB} {op : Oper} {t E : TypeId} {z bytes g o n cap lo : Nat} {i : Int} {x y : Operand}
    (ho : nth L k = some op) (hi : im.contains k = false) (hw : Region.wanted op (yielded L.toArray a.tmps) = true) (hop : op.op = .slice t x (some y) none none) (hx : a.eval x = .slice (some ⟨g, o, none⟩) n cap) (hy : a.eval y = .int .i64 i) (hS : Sl P t E z bytes) (hlo : i = (lo : Int)) (hl : lo ≤ n)
    (h : ∀ off, Hid (lo < cap → off = o + lo * z) → ∃ a', a.put op.dst (.slice (some ⟨g, off, none⟩) (n - lo) (cap - lo)) = a' ∧ DC P L.toArray w0 X R im Qf rr a' S) : DC P L.toArray w0 X R im Qf (k :: rr) a S := by
  obtain ⟨off, h1⟩ : ∃ off, (lo < cap → off = o + lo * z) ∧ ∀ w, (Instr.sliceAt t (.slice (some ⟨g, o, none⟩) n cap) (some (.int .i64 i)) none none).run P w = .ok (.slice (some ⟨g, off, none⟩) (n - lo) (cap - lo)) w := by
    by_cases hc : lo < cap
    · refine ⟨o + lo * z, fun _ => rfl, fun w => ?_⟩
      obtain ⟨off, h1, h2⟩ := run_slice_end (P := P) (w := w) (g := g) (o := o) (cap := cap) hS hlo hl
      rw [h2, h1 hc]
    · by_cases hce : cap = lo
      · refine ⟨o, fun h => absurd h hc, fun w => ?_⟩
        obtain ⟨inf, zv, hinf, hz, rfl, rfl, hzs⟩ := hS.el
        have ht := hS.un
        subst hlo
        have h1 := run_sliceBound (P := P) (w := w) .i64 (lo : Int) n .sliceB (by omega) (by omega)
        simp [Instr.sliceAt, Instr.slice, run_underlying ht, Instr.sliceBounds, h1, sizeOf, typeInfo, hinf, hce]
      · refine ⟨o + lo * z, fun h => absurd h hc, fun w => ?_⟩
        obtain ⟨inf, zv, hinf, hz, rfl, rfl, hzs⟩ := hS.el
        have ht := hS.un
        subst hlo
        have h1 := run_sliceBound (P := P) (w := w) .i64 (lo : Int) n .sliceB (by omega) (by omega)
        simp [Instr.sliceAt, Instr.slice, run_underlying ht, Instr.sliceBounds, h1, sizeOf, typeInfo, hinf, hce, addr_add]
  obtain ⟨a', e, hd⟩ := h off (Lib.hid h1.1)
  refine dc_pure ho hi hw (fun w => ?_) e hd
  unfold execOp
  rw [hop]
  simp [hx, hy, h1.2 w]
end
end Go.Proofs.YtohpjdeohpamaaaGreatDoor
namespace Go.Proofs.YtohpjdeohpamaaaGreatDoor
open Go.RowKit

theorem validKey_r {s : ByteArray} {w : World} :
    Calls Tryz.prog 73 #[.string s] w fun e w' => e = .returned (.bool (vk s)) ∧ w = w' := by
  go_enter Tryz.func73, Tryz.ntmps73
  go_wp2
  go_ret
  exact ⟨ret_bool (vk_eq s), rfl⟩

theorem compare_r {a b : ByteArray} {s t : Bool} {w : World} :
    Calls Tryz.prog 113 #[.agg #[.string a, .bool s], .agg #[.string b, .bool t]] w fun e w' => e = .returned (.int .i64 (cmp ⟨a, s⟩ ⟨b, t⟩)) ∧ Kp [] w w' := by
  go_enter Tryz.func113, Tryz.ntmps113
  go_wp2
  all_goals go_ret
  all_goals refine ⟨ret_int ?_, ((Kp.refl _ _).alloc _).alloc _⟩
  all_goals first | (simp [cmp, Bnd.lt, *]; done) | (rename_i h1 h2; simp [cmp, Bnd.lt, *, bl_gt h1 h2]; done) | (rename_i h1 h2; simp [cmp, Bnd.lt, *, bl_ge h2]; done) | (rename_i h1; simp [cmp, Bnd.lt, *, bl_gt (by simpa using h1.1) h1.2, show Op.bytesLess a.toList b.toList = false by simpa using h1.1]; done) | (rename_i h1 h2; simp [cmp, Bnd.lt, *, bl_ge2 h1 h2]; done)

theorem validBound_r {a : ByteArray} {s : Bool} {w : World} :
    Calls Tryz.prog 119 #[.agg #[.string a, .bool s]] w fun e w' => e = .returned (.bool (vb ⟨a, s⟩)) ∧ Kp [] w w' := by
  go_enter Tryz.func119, Tryz.ntmps119
  go_wp2_with (go_at_call 73; refine (validKey_r).mono ?_; rintro e w' ⟨rfl, rfl⟩)
  all_goals go_ret
  all_goals refine ⟨ret_bool ?_, ((Kp.refl _ _).alloc _)⟩
  all_goals simp [vb, *]

theorem valid_r {a b : ByteArray} {s t : Bool} {w : World} :
    Calls Tryz.prog 75 #[.agg #[.string a, .bool s, .string b, .bool t]] w fun e w' => e = .returned (.bool (vld ⟨⟨a, s⟩, ⟨b, t⟩⟩)) ∧ Kp [] w w' := by
  go_enter Tryz.func75, Tryz.ntmps75
  go_wp2_with (first | (go_at_call 119; refine (validBound_r).mono ?_; rintro e w' ⟨rfl, hb⟩; obtain ⟨hc, hf, hz⟩ := kcell hb) | (go_at_call 113; refine (compare_r).mono ?_; rintro e w' ⟨rfl, hb⟩; obtain ⟨hc, hf, hz⟩ := kcell hb))
  all_goals go_ret
  all_goals refine ⟨ret_bool ?_, ?_⟩
  all_goals first | (simp [vld, *]; done) | (repeat (first | exact Kp.refl _ _ | apply Kp.alloc | apply Kp.drew | apply Kp.drewN | (refine Kp.setCell ?_ (Or.inr (by dsimp only; omega)) _) | (refine Kp.trans ?_ (by assumption))))

theorem empty_r {a b : ByteArray} {s t : Bool} {w : World} :
    Calls Tryz.prog 74 #[.agg #[.string a, .bool s, .string b, .bool t]] w fun e w' => e = .returned (.bool (emp ⟨⟨a, s⟩, ⟨b, t⟩⟩)) ∧ Kp [] w w' := by
  go_enter Tryz.func74, Tryz.ntmps74
  go_wp2_with (first | (go_at_call 75; refine (valid_r).mono ?_; rintro e w' ⟨rfl, hb⟩; obtain ⟨hc, hf, hz⟩ := kcell hb) | (go_at_call 113; refine (compare_r).mono ?_; rintro e w' ⟨rfl, hb⟩; obtain ⟨hc, hf, hz⟩ := kcell hb))
  all_goals go_ret
  all_goals refine ⟨ret_bool ?_, ?_⟩
  all_goals first | (simp [emp, *]; done) | (repeat (first | exact Kp.refl _ _ | apply Kp.alloc | apply Kp.drew | apply Kp.drewN | (refine Kp.setCell ?_ (Or.inr (by dsimp only; omega)) _) | (refine Kp.trans ?_ (by assumption))))

end Go.Proofs.YtohpjdeohpamaaaGreatDoor
namespace Go.Proofs.YtohpjdeohpamaaaGreatDoor
open Go.RowKit

theorem greatest_r {a b : ByteArray} {s t : Bool} {w : World} :
    Calls Tryz.prog 120 #[.agg #[.string a, .bool s], .agg #[.string b, .bool t]] w fun e w' => ∃ m : Bnd, e = .returned (.agg #[.string m.key, .bool m.top]) ∧ Hid (m = greatest ⟨a, s⟩ ⟨b, t⟩) ∧ Kp [] w w' := by
  go_enter Tryz.func120, Tryz.ntmps120
  go_wp2_with (first | (go_at_call 113; refine (compare_r).mono ?_; rintro e w' ⟨rfl, hb⟩; obtain ⟨hc, hf, hz⟩ := kcell hb))
  · exact bodyPost_ret (v := .agg #[.string a, .bool s]) (by simp [results, Tryz.results120, go_sem, *]) rfl ⟨⟨a, s⟩, rfl, by simp [Hid, greatest, *], by (repeat (first | exact Kp.refl _ _ | apply Kp.alloc | apply Kp.drew | apply Kp.drewN | (refine Kp.setCell ?_ (Or.inr (by dsimp only; omega)) _) | (refine Kp.trans ?_ (by assumption))))⟩
  · exact bodyPost_ret (v := .agg #[.string b, .bool t]) (by simp [results, Tryz.results120, go_sem, *]) rfl ⟨⟨b, t⟩, rfl, by unfold Hid greatest; rw [if_neg (by omega)], by (repeat (first | exact Kp.refl _ _ | apply Kp.alloc | apply Kp.drew | apply Kp.drewN | (refine Kp.setCell ?_ (Or.inr (by dsimp only; omega)) _) | (refine Kp.trans ?_ (by assumption))))⟩
end Go.Proofs.YtohpjdeohpamaaaGreatDoor
namespace Go.Proofs.YtohpjdeohpamaaaGreatDoor
open Go.RowKit
attribute [local irreducible] contains emp vld vb vk adj isect hull proper greater lesser greatest least cmp Bnd.lt Op.bytesLess Calls Oper.wp wpList Code.wp Oper.upon
theorem greatest_r_v (a b : Bnd) {w : World} : Calls Tryz.prog 120 #[.agg #[.string a.key, .bool a.top], .agg #[.string b.key, .bool b.top]] w fun e w' => e = .returned (.agg #[.string (greater a b).key, .bool (greater a b).top]) ∧ Kp [] w w' :=
  (greatest_r (w := w)).mono fun e w' ⟨m, he, hm, hk⟩ => ⟨by rw [he, hm, greatest_eq], hk⟩
end Go.Proofs.YtohpjdeohpamaaaGreatDoor
namespace Go.Proofs.YtohpjdeohpamaaaGreatDoor
open Go.RowKit
attribute [local irreducible] contains emp vld vb vk adj isect hull proper greater lesser greatest least cmp Bnd.lt Op.bytesLess Calls Oper.wp wpList Code.wp Oper.upon
theorem empty_r_w (x : Rng) {w : World} : Calls Tryz.prog 74 #[.agg #[.string x.lo.key, .bool x.lo.top, .string x.hi.key, .bool x.hi.top]] w fun e w' => e = .returned (.bool (emp x)) ∧ Kp [] w w' := empty_r
theorem compare_r_w (a b : Bnd) {w : World} : Calls Tryz.prog 113 #[.agg #[.string a.key, .bool a.top], .agg #[.string b.key, .bool b.top]] w fun e w' => e = .returned (.int .i64 (cmp a b)) ∧ Kp [] w w' := compare_r
theorem ins_list {out : List Rng} {z r : Rng} {j m : Nat} (hm : out.length = m) (hj : j ≤ m) : ((out ++ [z]).take (j + 1) ++ ((out ++ [z]).drop j).take (m - j)).set j r = out.take j ++ r :: out.drop j := by
  subst hm
  have h2 : ((out ++ [z]).drop j).take (out.length - j) = out.drop j := by
    rw [List.drop_append_of_le_length hj]; exact List.take_left' (by simp)
  have h1 : ((out ++ [z]).take (j + 1)).set j r = out.take j ++ [r] := by
    have h2 : (out ++ [z]).take (j + 1) = out.take j ++ [(out ++ [z])[j]'(by simp; omega)] := by
      rw [List.take_add_one, List.getElem?_eq_getElem (by simp; omega), List.take_append_of_le_length hj]; rfl
    rw [h2, List.set_append_right _ _ (by simp; omega)]
    simp [Nat.min_eq_left hj]
  rw [h2, List.set_append_left _ _ (by simp; omega), h1, List.append_assoc]; rfl
theorem ins_perm {out : List Rng} {r : Rng} {j : Nat} : (out.take j ++ r :: out.drop j).Perm (out ++ [r]) := by
  refine List.perm_middle.trans ?_
  rw [List.take_append_drop]
  exact (List.perm_append_singleton r out).symm
theorem ins_srt {out : List Rng} {r : Rng} {j : Nat} (hs : Srt out) (h1 : ∀ i x, j ≤ i → out[i]? = some x → r.lo.lt x.lo = true) (h2 : ∀ x, 0 < j → out[j - 1]? = some x → r.lo.lt x.lo = false) (hj : j ≤ out.length) : Srt (out.take j ++ r :: out.drop j) := by
  refine List.pairwise_append.2 ⟨hs.sublist (List.take_sublist _ _), List.pairwise_cons.2 ⟨fun y hy => ?_, hs.sublist (List.drop_sublist _ _)⟩, fun x hx y hy => ?_⟩
  · obtain ⟨i, hi, rfl⟩ := List.mem_iff_getElem.1 hy
    rw [List.getElem_drop]
    exact lt_asymm (h1 (j + i) _ (by omega) (List.getElem?_eq_getElem _))
  · obtain ⟨i, hi, rfl⟩ := List.mem_iff_getElem.1 hx
    have hi' : i < j := by simp at hi; omega
    rw [List.getElem_take]
    have hr : r.lo.lt out[i].lo = false := by
      have h3 := h2 (out[j - 1]'(by omega)) (by omega) (List.getElem?_eq_getElem (by omega))
      by_cases hij : i = j - 1
      · subst hij; exact h3
      · have h4 : leLo out[i] (out[j - 1]'(by omega)) = true := by simp [leLo, List.pairwise_iff_getElem.1 hs i (j - 1) (by omega) (by omega) (by omega)]
        have h5 := leLo_trans _ _ r h4 (by simp [leLo, h3])
        simpa [leLo] using h5
    rcases List.mem_cons.1 hy with rfl | hy
    · exact hr
    · obtain ⟨q, hq, rfl⟩ := List.mem_iff_getElem.1 hy
      rw [List.getElem_drop]
      exact List.pairwise_iff_getElem.1 hs i (j + q) (by omega) (by simp at hq; omega) (by omega)
theorem elem_lo {out : List Rng} {x : Rng} {d : Nat} (hd : out[d]? = some x) : ((rvals out).drop (d * 4)).take 2 = [.string x.lo.key, .bool x.lo.top] :=
  (fl_part rvz (l := out) (k := d) (r := x) hd 0 2 (by decide)).trans rfl
set_option maxRecDepth 100000 in
set_option maxHeartbeats 8000000 in
theorem union_r {p : Option Addr} {n c : Nat} {l : List Rng} {w : World} (h1 : Rd w 4 (.slice p n c) n (rvals l)) (hn : n ≤ 1000000) :
    Calls Tryz.prog 77 #[.slice p n c] w fun e w' => ∃ r sl, e = .returned r ∧ OS sl 77 4 r (union l).length (rvals (union l)) ∧ Rep w nof [] sl w' := by
  have hl : l.length = n := h1.count rvz (by decide)
  have Hu := Lib.hid (fun s hp hs => union_of_sorted (l := l) (s := s) hp hs)
  obtain ⟨tot, htot⟩ : ∃ tot, tot = union l := ⟨_, rfl⟩
  rw [← htot]
  rw [← htot] at Hu
  have Hl := Lib.hid hl
  clear hl htot
  go_enter Tryz.func77, Tryz.ntmps77
  have hR := Rep.refl w
  generalize w = w0 at hR h1
  have hrl := h1.rw
  go_wp2_with fail
  go_loopw [3, 4] (fun v i wr => ∃ k : Nat, ∃ out slo, i = .int .i64 k ∧ k ≤ n ∧ OS slo 77 4 v out.length (rvals out) ∧ Hid (out.Perm ((l.take k).filter ne)) ∧ Hid (Srt out) ∧ Rep w0 nof [] slo wr) (fun _ i _ => n - (intOf i).toNat)
  case atStart => exact ⟨0, [], [], rfl, Nat.zero_le _, OS.nil _ _, Lib.hid (List.Perm.refl _), Lib.hid .nil, hR⟩
  case round =>
    obtain ⟨k, out, slo, rfl, hkn, hO, hP, hS, hR⟩ := hrel
    have hF := hR.fx
    by_cases hlt : k < n
    · have hlt' : (k : Int) < (n : Int) := by omega
      have hk0 : (0 : Int) ≤ (k : Int) := by omega
      obtain ⟨r, hr⟩ : ∃ r, l[k]? = some r := ⟨l[k]'(by rw [Hl.out]; exact hlt), List.getElem?_eq_getElem _⟩
      have hts := take_snoc hr
      obtain ⟨b, o, rfl, hR⟩ := hrl.elem rvz (by decide) hr hR
      have Hr := Lib.hid hts
      clear hts hr
      simp only [Rng.vals] at hR
      have hF := hR.fx
      cases he : emp r
      · have hpl := hP.out.length_eq
        have hml : out.length ≤ n := by rw [hpl]; exact Nat.le_trans (List.length_filter_le _ _) (by rw [List.length_take, Hl.out]; omega)
        obtain ⟨q2, c2, rfl⟩ := hO.val
        obtain ⟨m, hm⟩ : ∃ m, out.length = m := ⟨_, rfl⟩
        rw [hm] at hO hml ⊢
        have Hm := Lib.hid hm
        clear hm hpl
        go_wp2_with (first | (refine wl_ld hR ?_) | (refine wl_st hR ?_; (try clear hF); clear hR; intro w hR; have hF := hR.fx) | (refine wl_mem hR ?_; (try clear hF); clear hR; intro w B hR; have hF := hR.fx) | (go_at_call 74; refine (empty_r_w r).mono ?_; rintro e w ⟨rfl, hb⟩; replace hR := hR.kp0 hb; (try clear hF); clear hb; have hF := hR.fx))
        go_loopw [5] (fun a wr => ∃ j : Nat, a = .int .i64 j ∧ j ≤ m ∧ Hid (∀ i x, j ≤ i → out[i]? = some x → r.lo.lt x.lo = true) ∧ Rep w0 nof [⟨b, o + k * 4, [.string r.lo.key, .bool r.lo.top, .string r.hi.key, .bool r.hi.top]⟩] slo wr) (fun a _ => (intOf a).toNat)
        case atStart => exact ⟨m, rfl, Nat.le_refl _, Lib.hid (fun i x hi hx => by have := (List.getElem?_eq_some_iff.1 hx).1; rw [Hm.out] at this; omega), hR⟩
        case round =>
          obtain ⟨j, rfl, hjm, hA, hR⟩ := hrel
          have hF := hR.fx
          by_cases hj : 0 < j
          · obtain ⟨j, rfl⟩ : ∃ j', j = j' + 1 := ⟨j - 1, by omega⟩
            obtain ⟨x, hx⟩ : ∃ x, out[j]? = some x := ⟨out[j]'(by rw [Hm.out]; omega), List.getElem?_eq_getElem _⟩
            have Hv := Lib.hid (elem_lo hx)
            have Hl4 : Hid (j * 4 + 2 ≤ (rvals out).length) := Lib.hid (by rw [rvals_length, Hm.out]; omega)
            have Hx := Lib.hid hx
            clear hx
            obtain ⟨g, c2, hv2, hc2⟩ := hO.val1 (by omega)
            simp only [Value.slice.injEq, true_and] at hv2
            obtain ⟨rfl, rfl⟩ := hv2
            have hjp : (0 : Int) < (j : Int) + 1 := by omega
            have hj0 : (0 : Int) ≤ (j : Int) := by omega
            have hjm' : (j : Int) < (m : Int) := by omega
            have hwr : IntKind.i64.wrap (j : Int) = j := IntWalk.i64_in _ (by omega)
            by_cases hc : 0 < cmp x.lo r.lo
            · go_upto_region 7 with fail
              refine wp_region_C 16 (0 :: 1 :: 2 :: 3 :: 4 :: 5 :: 6 :: 7 :: 8 :: 9 :: 10 :: 11 :: 12 :: 13 :: 14 :: 15 :: []) [14] hR mixed (by kernel_rfl) ?_; (try clear hF); clear hR; (repeat (first | (refine dc_ld_own rfl rfl rfl rfl hO CtxI.out rfl (by exact inferInstance) (by exact rfl) Hl4.out Hv.out (by simp only [Act.put, List.setIfInBounds_toArray, List.set_cons_zero, List.set_cons_succ, ldW, if_true, Bool.false_eq_true, if_false, List.headD_cons]; exact rfl) ?_) | (refine dk ?_; intro B) | (refine dk_call0 (fun w hR => ?_); first | (go_at_call 113; refine (compare_r_w x.lo r.lo).mono ?_; rintro e w' ⟨rfl, hb⟩; refine ⟨_, rfl, hb, dn ?_⟩; clear hR hb)))); refine dc_nil ?_; intro w hR; have hF := hR.fx; try simp only [List.drop_succ_cons, List.drop_zero]
              go_wp2_with fail
              go_roundw
              case rel => exact ⟨j, rfl, by omega, Lib.hid (fun i y hi hy => by
                by_cases hij : i = j
                · subst hij; rw [Hx.out] at hy; obtain rfl := Option.some.inj hy; exact (cmp_pos _ _).1 hc
                · exact hA.out i y (by omega) hy), hR.sub sub_any sub_any⟩
              case measure => simp [intOf] <;> omega
            · have Hx0 : Hid (r.lo.lt x.lo = false) := Lib.hid (Bool.eq_false_iff.2 fun hq => hc ((cmp_pos _ _).2 hq))
              go_upto_region 7 with fail
              refine wp_region_C 16 (0 :: 1 :: 2 :: 3 :: 4 :: 5 :: 6 :: 7 :: 8 :: 9 :: 10 :: 11 :: 12 :: 13 :: 14 :: 15 :: []) [14] hR mixed (by kernel_rfl) ?_; (try clear hF); clear hR; (repeat (first | (refine dc_ld_own rfl rfl rfl rfl hO CtxI.out rfl (by exact inferInstance) (by exact rfl) Hl4.out Hv.out (by simp only [Act.put, List.setIfInBounds_toArray, List.set_cons_zero, List.set_cons_succ, ldW, if_true, Bool.false_eq_true, if_false, List.headD_cons]; exact rfl) ?_) | (refine dk ?_; intro B) | (refine dk_call0 (fun w hR => ?_); first | (go_at_call 113; refine (compare_r_w x.lo r.lo).mono ?_; rintro e w' ⟨rfl, hb⟩; refine ⟨_, rfl, hb, dn ?_⟩; clear hR hb)))); refine dc_nil ?_; intro w hR; have hF := hR.fx; try simp only [List.drop_succ_cons, List.drop_zero]
              have hwr1 : IntKind.i64.wrap (((j : Int) + 1) + 1) = ((j : Int) + 1) + 1 := IntWalk.i64_in _ (by omega)
              go_upto_region 10 with (first | (refine wl_append hR rfl rfl rfl rfl rfl (hO) (At.rd hR UpI.at rfl) ?_; (try clear hF); clear hR; intro v sl w hO hR; have hF := hR.fx) | (refine wl_ld hR ?_) | (refine wl_st hR ?_; (try clear hF); clear hR; intro w hR; have hF := hR.fx) | (refine wl_mem hR ?_; (try clear hF); clear hR; intro w B9 hR; have hF := hR.fx))
              have hz : rvals out ++ [.string ⟨#[]⟩, .bool false, .string ⟨#[]⟩, .bool false] = rvals (out ++ [zr]) := by simp [rvals, Rng.vals, zr, zb]
              rw [hz] at hO
              clear hz
              obtain ⟨g, c3, rfl, hc3⟩ := hO.val1 (by omega)
              have hi1 : (0 : Int) ≤ ((j : Int) + 1) + 1 := by omega
              have hi2 : ((j : Int) + 1) + 1 ≤ (m : Int) + 1 := by omega
              have hi3 : (0 : Int) ≤ ((j : Int) + 1) := by omega
              have hi4 : ((j : Int) + 1) ≤ (m : Int) + 1 := by omega
              have hi5 : ((j : Int) + 1) < (m : Int) + 1 := by omega
              refine wp_region_C 7 (0 :: 1 :: 2 :: 3 :: 4 :: 5 :: 6 :: []) [] hR mixed (by kernel_rfl) ?_; (try clear hF); clear hR; (repeat (first | (refine dc_slice_end (lo := (j + 1) + 1) rfl rfl rfl rfl rfl rfl (by exact inferInstance) (by omega) (by omega) ?_; intro o1 ho1; refine dn ?_) | (refine dc_slice_end (lo := (j + 1)) rfl rfl rfl rfl rfl rfl (by exact inferInstance) (by omega) (by omega) ?_; intro o2 ho2; refine dn ?_) | (refine dk ?_; intro B))); refine dc_nil ?_; intro w hR; have hF := hR.fx; try simp only [List.drop_succ_cons, List.drop_zero]
              go_wp2_with (first | (refine wpList_copy_os (i := (j + 1)) hR rfl rfl rfl rfl rfl (by exact inferInstance) (rvals_one _) hO CtxI.out ⟨by omega, by omega, fun hh => by have := ho1.out (by omega); omega, fun hh => by have := ho2.out (by omega); omega⟩ ?_; (try clear hF); clear hR; intro sl w hO hR; have hF := hR.fx; refine dn ?_) | (refine wpList_st_os hR rfl rfl rfl hO CtxI.out rfl rfl (by exact inferInstance) (by simp only [List.length_append, List.length_take, List.length_drop, rvals_length, List.length_singleton, Hm.out]; omega) (by exact rfl) ?_; (try clear hF); clear hR; intro sl w hO hR; (try simp only [List.cons_append, List.nil_append] at hR); have hF := hR.fx) | (refine wl_ld hR ?_) | (refine wl_st hR ?_; (try clear hF); clear hR; intro w hR; have hF := hR.fx) | (refine wl_mem hR ?_; (try clear hF); clear hR; intro w B hR; have hF := hR.fx))
              have hst : stL ((j + 1) * 4) [.string r.lo.key, .bool r.lo.top, .string r.hi.key, .bool r.hi.top] ((rvals (out ++ [zr])).take (((j + 1) + 1) * 4) ++ ((rvals (out ++ [zr])).drop ((j + 1) * 4)).take ((m + 1 - ((j + 1) + 1)) * 4)) = rvals (out.take (j + 1) ++ r :: out.drop (j + 1)) := by
                rw [rvals_take, rvals_drop, rvals_take, ← rvals_append, show m + 1 - ((j + 1) + 1) = m - (j + 1) by omega]
                exact (stL_rvals r _ (j + 1) (by simp [Hm.out]; omega)).trans (by rw [ins_list Hm.out (by omega)])
              rw [hst] at hO
              clear hst
              have hlen : (out.take (j + 1) ++ r :: out.drop (j + 1)).length = m + 1 := by simp [Hm.out]; omega
              go_roundw
              case rel =>
                refine ⟨k + 1, out.take (j + 1) ++ r :: out.drop (j + 1), sl, by go_num, by omega, by rw [hlen]; exact hO, Lib.hid ?_, Lib.hid ?_, hR.sub sub_any sub_any⟩
                · rw [Hr.out, List.filter_append, List.filter_cons_of_pos (by simp [ne, he]), List.filter_nil]
                  exact ins_perm.trans (hP.out.append_right [r])
                · exact ins_srt hS.out hA.out (fun y hy0 hy => by rw [show j + 1 - 1 = j by omega, Hx.out] at hy; obtain rfl := Option.some.inj hy; exact Hx0.out) (by rw [Hm.out]; omega)
              case measure => simp [intOf] <;> omega
          · have hnj : ¬ ((0 : Int) < (j : Int)) := by omega
            go_upto_region 7 with fail
            refine wp_region_C 16 (0 :: 1 :: 2 :: 3 :: 4 :: 5 :: 6 :: 7 :: 8 :: 9 :: 10 :: 11 :: 12 :: 13 :: 14 :: 15 :: []) [14] hR mixed (by kernel_rfl) ?_; (try clear hF); clear hR; (repeat (first | (refine dk ?_; intro B) | (refine dk_call0 (fun w hR => ?_); first | (go_at_call 113; refine (compare_r_w r.lo r.lo).mono ?_; rintro e w' ⟨rfl, hb⟩; refine ⟨_, rfl, hb, dn ?_⟩; clear hR hb)))); refine dc_nil ?_; intro w hR; have hF := hR.fx; try simp only [List.drop_succ_cons, List.drop_zero]
            have hwr1 : IntKind.i64.wrap ((j : Int) + 1) = (j : Int) + 1 := IntWalk.i64_in _ (by omega)
            go_upto_region 10 with (first | (refine wl_append hR rfl rfl rfl rfl rfl (hO) (At.rd hR UpI.at rfl) ?_; (try clear hF); clear hR; intro v sl w hO hR; have hF := hR.fx) | (refine wl_ld hR ?_) | (refine wl_st hR ?_; (try clear hF); clear hR; intro w hR; have hF := hR.fx) | (refine wl_mem hR ?_; (try clear hF); clear hR; intro w B9 hR; have hF := hR.fx))
            have hz : rvals out ++ [.string ⟨#[]⟩, .bool false, .string ⟨#[]⟩, .bool false] = rvals (out ++ [zr]) := by simp [rvals, Rng.vals, zr, zb]
            rw [hz] at hO
            clear hz
            obtain ⟨g, c3, rfl, hc3⟩ := hO.val1 (by omega)
            have hi1 : (0 : Int) ≤ (j : Int) + 1 := by omega
            have hi2 : (j : Int) + 1 ≤ (m : Int) + 1 := by omega
            have hi3 : (0 : Int) ≤ (j : Int) := by omega
            have hi4 : (j : Int) ≤ (m : Int) + 1 := by omega
            have hi5 : (j : Int) < (m : Int) + 1 := by omega
            refine wp_region_C 7 (0 :: 1 :: 2 :: 3 :: 4 :: 5 :: 6 :: []) [] hR mixed (by kernel_rfl) ?_; (try clear hF); clear hR; (repeat (first | (refine dc_slice_end (lo := j + 1) rfl rfl rfl rfl rfl rfl (by exact inferInstance) (by omega) (by omega) ?_; intro o1 ho1; refine dn ?_) | (refine dc_slice_end (lo := j) rfl rfl rfl rfl rfl rfl (by exact inferInstance) (by omega) (by omega) ?_; intro o2 ho2; refine dn ?_) | (refine dk ?_; intro B))); refine dc_nil ?_; intro w hR; have hF := hR.fx; try simp only [List.drop_succ_cons, List.drop_zero]
            go_wp2_with (first | (refine wpList_copy_os (i := j) hR rfl rfl rfl rfl rfl (by exact inferInstance) (rvals_one _) hO CtxI.out ⟨by omega, by omega, fun hh => by have := ho1.out (by omega); omega, fun hh => by have := ho2.out (by omega); omega⟩ ?_; (try clear hF); clear hR; intro sl w hO hR; have hF := hR.fx; refine dn ?_) | (refine wpList_st_os hR rfl rfl rfl hO CtxI.out rfl rfl (by exact inferInstance) (by simp only [List.length_append, List.length_take, List.length_drop, rvals_length, List.length_singleton, Hm.out]; omega) (by exact rfl) ?_; (try clear hF); clear hR; intro sl w hO hR; (try simp only [List.cons_append, List.nil_append] at hR); have hF := hR.fx) | (refine wl_ld hR ?_) | (refine wl_st hR ?_; (try clear hF); clear hR; intro w hR; have hF := hR.fx) | (refine wl_mem hR ?_; (try clear hF); clear hR; intro w B hR; have hF := hR.fx))
            have hst : stL (j * 4) [.string r.lo.key, .bool r.lo.top, .string r.hi.key, .bool r.hi.top] ((rvals (out ++ [zr])).take ((j + 1) * 4) ++ ((rvals (out ++ [zr])).drop (j * 4)).take ((m + 1 - (j + 1)) * 4)) = rvals (out.take j ++ r :: out.drop j) := by
              rw [rvals_take, rvals_drop, rvals_take, ← rvals_append, show m + 1 - (j + 1) = m - j by omega]
              exact (stL_rvals r _ j (by simp [Hm.out]; omega)).trans (by rw [ins_list Hm.out (by omega)])
            rw [hst] at hO
            clear hst
            have hlen : (out.take j ++ r :: out.drop j).length = m + 1 := by simp [Hm.out]; omega
            go_roundw
            case rel =>
              refine ⟨k + 1, out.take j ++ r :: out.drop j, sl, by go_num, by omega, by rw [hlen]; exact hO, Lib.hid ?_, Lib.hid ?_, hR.sub sub_any sub_any⟩
              · rw [Hr.out, List.filter_append, List.filter_cons_of_pos (by simp [ne, he]), List.filter_nil]
                exact ins_perm.trans (hP.out.append_right [r])
              · exact ins_srt hS.out hA.out (fun y hy0 hy => absurd hy0 hj) (by rw [Hm.out]; omega)
            case measure => simp [intOf] <;> omega
      · go_wp2_with (first | (refine wl_ld hR ?_) | (refine wl_st hR ?_; (try clear hF); clear hR; intro w hR; have hF := hR.fx) | (refine wl_mem hR ?_; (try clear hF); clear hR; intro w B hR; have hF := hR.fx) | (go_at_call 74; refine (empty_r_w r).mono ?_; rintro e w ⟨rfl, hb⟩; replace hR := hR.kp0 hb; (try clear hF); clear hb; have hF := hR.fx))
        go_roundw
        case rel => exact ⟨k + 1, out, slo, by go_num, by omega, hO, Lib.hid (by rw [Hr.out, List.filter_append, List.filter_cons_of_neg (by simp [ne, he]), List.filter_nil, List.append_nil]; exact hP.out), hS, hR.sub sub_any sub_any⟩
        case measure => simp [intOf] <;> omega
    · obtain rfl : k = n := by omega
      have hpl : out.Perm (l.filter ne) := by have := hP.out; rwa [List.take_of_length_le (by rw [Hl.out]; exact Nat.le_refl _)] at this
      have hm : out.length ≤ k := by rw [hpl.length_eq, ← Hl.out]; exact List.length_filter_le _ _
      have Ht := Lib.hid (Hu.out out hpl hS.out)
      have hrw := hO.rw hR CtxI.out
      have hk1 := hR.kp_nof
      replace hR := hR.rebase0
      clear hO hS hP Hu hpl hrl h1
      obtain ⟨m, hmm⟩ : ∃ m, m = out.length := ⟨_, rfl⟩
      have Hm := Lib.hid hmm
      rw [← hmm] at hrw hm
      obtain ⟨q, cc, hv⟩ : ∃ q cc, u3 = .slice q m cc := by obtain ⟨q, cc, e, -⟩ := hrw.ex; exact ⟨q, cc, e⟩
      subst hv
      clear hmm
      generalize wr = w1 at hR hk1 hrw
      clear hF
      have hF := hR.fx
      go_wp2_with fail
      go_loopw [6, 7] (fun v i wr => ∃ k : Nat, ∃ os slo, i = .int .i64 k ∧ k ≤ m ∧ OS slo 77 4 v os.length (rvals os) ∧ Hid (Mrg os (out.drop k) tot) ∧ Hid (os.length ≤ k) ∧ Rep w1 nof [] slo wr) (fun _ i _ => m - (intOf i).toNat)
      case atStart => exact ⟨0, [], [], rfl, Nat.zero_le _, OS.nil _ _, Lib.hid (.inl ⟨rfl, by rw [List.drop_zero]; exact Ht.out⟩), Lib.hid (Nat.le_refl _), hR⟩
      case round =>
        obtain ⟨k, os, slo, rfl, hkm, hO, hM, hok, hR⟩ := hrel
        have hF := hR.fx
        by_cases hlt : k < m
        · have hlt' : (k : Int) < (m : Int) := by omega
          have hk0 : (0 : Int) ≤ (k : Int) := by omega
          obtain ⟨r, hr⟩ : ∃ r, out[k]? = some r := ⟨out[k]'(by rw [← Hm.out]; exact hlt), List.getElem?_eq_getElem _⟩
          obtain ⟨b, o, rfl, hR⟩ := hrw.elem rvz (by decide) hr hR
          have hdr : out.drop k = r :: out.drop (k + 1) := by
            obtain ⟨g1, g2⟩ := List.getElem?_eq_some_iff.1 hr
            rw [List.drop_eq_getElem_cons g1, g2]
          have Hd := Lib.hid hdr
          clear hdr hr
          simp only [Rng.vals] at hR
          have hF := hR.fx
          rcases hM.out with ⟨hout, htot⟩ | ⟨done, cur, hout, htot⟩
          · subst hout
            have Hg : Hid (Mrg [r] (out.drop (k + 1)) tot) := Lib.hid (.inr ⟨[], r, rfl, by rw [← htot, Hd.out]; rfl⟩)
            clear hM htot Hd
            obtain ⟨q2, c2, rfl⟩ := hO.val
            simp only [List.length_nil] at hO ⊢
            go_upto_region 17 with (first | (refine wl_ld hR ?_) | (refine wl_st hR ?_; (try clear hF); clear hR; intro w hR; have hF := hR.fx) | (refine wl_mem hR ?_; (try clear hF); clear hR; intro w B hR; have hF := hR.fx))
            refine wp_region_C 16 (0 :: 1 :: 2 :: 3 :: 4 :: 5 :: 6 :: 7 :: 8 :: 9 :: 10 :: 11 :: 12 :: 13 :: 14 :: 15 :: []) [14] hR mixed (by kernel_rfl) ?_; (try clear hF); clear hR; (repeat (first | (refine dk ?_; intro B) | (refine dk_call0 (fun w hR => ?_); first | (go_at_call 113; refine (compare_r_w r.lo r.hi).mono ?_; rintro e w' ⟨rfl, hb⟩; refine ⟨_, rfl, hb, dn ?_⟩; clear hR hb)))); refine dc_nil ?_; intro w hR; have hF := hR.fx; try simp only [List.drop_succ_cons, List.drop_zero]
            go_wp2_with (first | (refine wl_append hR rfl rfl rfl rfl rfl (hO) (At.rd hR UpI.at rfl) ?_; (try clear hF); clear hR; intro v sl w hO hR; have hF := hR.fx) | (refine wl_ld hR ?_) | (refine wl_st hR ?_; (try clear hF); clear hR; intro w hR; have hF := hR.fx) | (refine wl_mem hR ?_; (try clear hF); clear hR; intro w B hR; have hF := hR.fx))
            go_roundw
            case rel => exact ⟨k + 1, [r], sl, by go_num, by omega, by simpa [rvals, Rng.vals] using hO, Hg, Lib.hid (by simp), hR.sub sub_any sub_any⟩
            case measure => simp [intOf] <;> omega
          · subst hout
            obtain ⟨d, hd⟩ : ∃ d, done.length = d := ⟨_, rfl⟩
            obtain ⟨g, c2, rfl, hc2⟩ := hO.val1 (by simp)
            have hlen : (done ++ [cur]).length = d + 1 := by simp [hd]
            rw [hlen] at hO hc2 ⊢
            have hok' := hok.out
            rw [hlen] at hok'
            have Hv := Lib.hid (last_hi (cur := cur) hd)
            have Hl4 : Hid (d * 4 + 2 + 2 ≤ (rvals (done ++ [cur])).length) := Lib.hid (by rw [rvals_length, hlen]; omega)
            have hdp : (0 : Int) < (d : Int) + 1 := by omega
            have hdd : (d : Int) < (d : Int) + 1 := by omega
            have hd0 : (0 : Int) ≤ (d : Int) := by omega
            have hwr : IntKind.i64.wrap (d : Int) = d := IntWalk.i64_in _ (by omega)
            by_cases hj : cmp r.lo cur.hi ≤ 0
            · have Hg : Hid (Mrg (done ++ [⟨cur.lo, greater cur.hi r.hi⟩]) (out.drop (k + 1)) tot) := Lib.hid (.inr ⟨done, _, rfl, by rw [← htot, Hd.out, mrg_join hj]⟩)
              clear hM htot Hd
              go_upto_region 17 with (first | (refine wl_ld hR ?_) | (refine wl_st hR ?_; (try clear hF); clear hR; intro w hR; have hF := hR.fx) | (refine wl_mem hR ?_; (try clear hF); clear hR; intro w B hR; have hF := hR.fx))
              refine wp_region_C 16 (0 :: 1 :: 2 :: 3 :: 4 :: 5 :: 6 :: 7 :: 8 :: 9 :: 10 :: 11 :: 12 :: 13 :: 14 :: 15 :: []) [14] hR mixed (by kernel_rfl) ?_; (try clear hF); clear hR; (repeat (first | (refine dc_ld_own rfl rfl rfl rfl hO CtxI.out rfl (by exact inferInstance) (by exact rfl) Hl4.out Hv.out (by simp only [Act.put, List.setIfInBounds_toArray, List.set_cons_zero, List.set_cons_succ, ldW, if_true, Bool.false_eq_true, if_false, List.headD_cons]; exact rfl) ?_) | (refine dk ?_; intro B) | (refine dk_call0 (fun w hR => ?_); first | (go_at_call 113; refine (compare_r_w r.lo cur.hi).mono ?_; rintro e w' ⟨rfl, hb⟩; refine ⟨_, rfl, hb, dn ?_⟩; clear hR hb)))); refine dc_nil ?_; intro w hR; have hF := hR.fx; try simp only [List.drop_succ_cons, List.drop_zero]
              go_upto_region 18 with (first | (refine wl_ld hR ?_) | (refine wl_st hR ?_; (try clear hF); clear hR; intro w hR; have hF := hR.fx) | (refine wl_mem hR ?_; (try clear hF); clear hR; intro w B hR; have hF := hR.fx))
              refine wp_region_C 17 (0 :: 1 :: 2 :: 3 :: 4 :: 5 :: 6 :: 7 :: 8 :: 9 :: 10 :: 11 :: 12 :: 13 :: 14 :: 15 :: 16 :: []) [14] hR mixed (by kernel_rfl) ?_; (try clear hF); clear hR; (repeat (first | (refine dc_ld_own rfl rfl rfl rfl hO CtxI.out rfl (by exact inferInstance) (by exact rfl) Hl4.out Hv.out (by simp only [Act.put, List.setIfInBounds_toArray, List.set_cons_zero, List.set_cons_succ, ldW, if_true, Bool.false_eq_true, if_false, List.headD_cons]; exact rfl) ?_) | (refine dk ?_; intro B) | (refine dk_call0 (fun w hR => ?_); first | (go_at_call 120; refine (greatest_r_v cur.hi r.hi).mono ?_; rintro e w' ⟨rfl, hb⟩; refine ⟨_, rfl, hb, dn ?_⟩; clear hR hb)))); refine dc_nil ?_; intro w hR; have hF := hR.fx; try simp only [List.drop_succ_cons, List.drop_zero]
              go_wp2_with (first | (refine wpList_st_os hR rfl rfl rfl hO CtxI.out rfl rfl (by exact inferInstance) Hl4.out (by exact rfl) ?_; (try clear hF); clear hR; intro sl w hO hR; (try simp only [List.cons_append, List.nil_append] at hR); have hF := hR.fx) | (refine wl_ld hR ?_) | (refine wl_st hR ?_; (try clear hF); clear hR; intro w hR; have hF := hR.fx) | (refine wl_mem hR ?_; (try clear hF); clear hR; intro w B hR; have hF := hR.fx))
              have hst : stL (d * 4 + 2) [.string (greater cur.hi r.hi).key, .bool (greater cur.hi r.hi).top] (rvals (done ++ [cur])) = rvals (done ++ [⟨cur.lo, greater cur.hi r.hi⟩]) := by
                rw [stL_rvals_hi _ _ _ cur (by rw [← hd]; simp), ← hd]; simp
              rw [hst] at hO
              go_roundw
              case rel => exact ⟨k + 1, _, sl, by go_num, by omega, by simpa [hd] using hO, Hg, Lib.hid (by simp [hd]; omega), by simpa only [List.append_nil] using hR.sub sub_any sub_any⟩
              case measure => simp [intOf] <;> omega
            · have Hg : Hid (Mrg ((done ++ [cur]) ++ [r]) (out.drop (k + 1)) tot) := Lib.hid (.inr ⟨done ++ [cur], r, rfl, by rw [← htot, Hd.out, mrg_next hj, List.append_assoc]; rfl⟩)
              clear hM htot Hd
              go_upto_region 17 with (first | (refine wl_ld hR ?_) | (refine wl_st hR ?_; (try clear hF); clear hR; intro w hR; have hF := hR.fx) | (refine wl_mem hR ?_; (try clear hF); clear hR; intro w B hR; have hF := hR.fx))
              refine wp_region_C 16 (0 :: 1 :: 2 :: 3 :: 4 :: 5 :: 6 :: 7 :: 8 :: 9 :: 10 :: 11 :: 12 :: 13 :: 14 :: 15 :: []) [14] hR mixed (by kernel_rfl) ?_; (try clear hF); clear hR; (repeat (first | (refine dc_ld_own rfl rfl rfl rfl hO CtxI.out rfl (by exact inferInstance) (by exact rfl) Hl4.out Hv.out (by simp only [Act.put, List.setIfInBounds_toArray, List.set_cons_zero, List.set_cons_succ, ldW, if_true, Bool.false_eq_true, if_false, List.headD_cons]; exact rfl) ?_) | (refine dk ?_; intro B) | (refine dk_call0 (fun w hR => ?_); first | (go_at_call 113; refine (compare_r_w r.lo cur.hi).mono ?_; rintro e w' ⟨rfl, hb⟩; refine ⟨_, rfl, hb, dn ?_⟩; clear hR hb)))); refine dc_nil ?_; intro w hR; have hF := hR.fx; try simp only [List.drop_succ_cons, List.drop_zero]
              go_wp2_with (first | (refine wl_append hR rfl rfl rfl rfl rfl (hO) (At.rd hR UpI.at rfl) ?_; (try clear hF); clear hR; intro v sl w hO hR; have hF := hR.fx) | (refine wl_ld hR ?_) | (refine wl_st hR ?_; (try clear hF); clear hR; intro w hR; have hF := hR.fx) | (refine wl_mem hR ?_; (try clear hF); clear hR; intro w B hR; have hF := hR.fx))
              go_roundw
              case rel => exact ⟨k + 1, (done ++ [cur]) ++ [r], sl, by go_num, by omega, by simpa [hd, rvals, Rng.vals] using hO, Hg, Lib.hid (by simp [hd]; omega), hR.sub sub_any sub_any⟩
              case measure => simp [intOf] <;> omega
        · obtain rfl : k = m := by omega
          have hf : os = tot := by
            rcases hM.out with ⟨h1, h2⟩ | ⟨done, cur, h1, h2⟩
            · rw [h1, ← h2, List.drop_eq_nil_of_le (by rw [Hm.out]; exact Nat.le_refl _)]; rfl
            · rw [h1, ← h2, List.drop_eq_nil_of_le (by rw [Hm.out]; exact Nat.le_refl _)]; rfl
          subst hf
          go_wp2_with (first | (refine wl_ld hR ?_) | (refine wl_st hR ?_; (try clear hF); clear hR; intro w hR; have hF := hR.fx) | (refine wl_mem hR ?_; (try clear hF); clear hR; intro w B hR; have hF := hR.fx))
          go_ret
          exact ⟨_, _, rfl, hO, hR.back hk1⟩
end Go.Proofs.YtohpjdeohpamaaaGreatDoor
namespace Go.Proofs.YtohpjdeohpamaaaGreatDoor
open Go.RowKit
attribute [local irreducible] contains emp vld vb vk adj isect hull proper greater lesser greatest least cmp Bnd.lt Op.bytesLess Calls Oper.wp wpList Code.wp Oper.upon
theorem dc_conv {P : Program} {L : List Oper} {w0 : World} {X : Fr} {R : List Win} {im : List Nat} {Qf : Act → List OB → Prop} {i : Nat} {r : List Nat} {a a' : Act} {S : List OB} {op : Oper} {s d : TypeId} {x : Operand} {v u : Value}
    (ho : nth L i = some op) (hi : im.contains i = false) (hw : Region.wanted op (yielded L.toArray a.tmps) = true) (hop : op.op = .convert s d x) (hx : a.eval x = v) (hr : ∀ w, Rep w0 X R S w → (convert s d v).run P w = .ok u w) (ha : a.put op.dst u = a')
    (h : DC P L.toArray w0 X R im Qf r a' S) : DC P L.toArray w0 X R im Qf (i :: r) a S := by
  refine dc_read ho hi hw (fun w hR => ?_) ha h
  unfold execOp
  rw [hop]
  simp [hx, hr w hR]
theorem dc_cat {P : Program} {L : List Oper} {w0 : World} {X : Fr} {R : List Win} {im : List Nat} {Qf : Act → List OB → Prop} {i : Nat} {r : List Nat} {a a' : Act} {S : List OB} {op : Oper} {s d : TypeId} {x y : Operand} {s1 s2 : ByteArray}
    (ho : nth L i = some op) (hi : im.contains i = false) (hw : Region.wanted op (yielded L.toArray a.tmps) = true) (hop : op.op = .binOp .add s x y d) (hx : a.eval x = .string s1) (hy : a.eval y = .string s2) (hs : s1.size + s2.size ≤ 9223372036854775807) (ha : a.put op.dst (.string (s1 ++ s2)) = a')
    (h : DC P L.toArray w0 X R im Qf r a' S) : DC P L.toArray w0 X R im Qf (i :: r) a S := by
  refine dc_pure ho hi hw (fun w => ?_) ha h
  unfold execOp
  rw [hop]
  simp [hx, hy, eqGuard, binOp, run_string_add_sum w s1 s2 hs]
theorem conv1 {w : World} {B : Nat} {x : UInt8} {v : Int} (hc : ∀ i, w.cell? ⟨B, i, none⟩ = ([.int .u8 v] : List Value)[i]?) (hv : v = (x.toNat : Int)) : (convert 203 9 (.slice (some ⟨B, 0, none⟩) 1 1)).run Tryz.prog w = .ok (.string ⟨#[x]⟩) w :=
  run_convert_bytes_back (P := Tryz.prog) w 203 9 5 ⟨B, 0, none⟩ 1 [x] Tryz.underlying203 Tryz.underlying5 Tryz.underlying9 fun j hj => by
    obtain rfl : j = 0 := by simp at hj; omega
    rw [addr_add, hc, hv]; rfl
set_option maxRecDepth 100000 in
set_option maxHeartbeats 4000000 in
theorem prefix_r {p : ByteArray} {w : World} :
    Calls Tryz.prog 76 #[.string p] w fun e w' => ∃ m : Rng, e = .returned (.agg #[.string m.lo.key, .bool m.lo.top, .string m.hi.key, .bool m.hi.top]) ∧ Hid (m = pfx p) ∧ Kp [] w w' := by
  go_enter Tryz.func76, Tryz.ntmps76
  have hR := Rep.refl w
  generalize w = w0 at hR
  cases hv : vk p
  · go_wp2_with (first | (refine wl_ld hR ?_) | (refine wl_st hR ?_; (try clear hF); clear hR; intro w hR; have hF := hR.fx) | (refine wl_mem hR ?_; (try clear hF); clear hR; intro w B2 hR; have hF := hR.fx) | (go_at_call 73; refine (validKey_r).mono ?_; rintro e w ⟨rfl, rfl⟩))
    (exact ret_cell hR Tryz.results76 rfl UpI.at (by exact inferInstance) rfl ⟨zr, rfl, by simp [Hid, pfx, hv], hR.kp_nof⟩)
  · go_wp2_with (first | (refine wl_ld hR ?_) | (refine wl_st hR ?_; (try clear hF); clear hR; intro w hR; have hF := hR.fx) | (refine wl_mem hR ?_; (try clear hF); clear hR; intro w B2 hR; have hF := hR.fx) | (go_at_call 73; refine (validKey_r).mono ?_; rintro e w ⟨rfl, rfl⟩))
    have hpl := len_toList p
    have hps : p.size ≤ 64 := by simpa [vk] using hv
    go_loopw [3] (fun v wr => ∃ n : Nat, v = .int .i64 n ∧ n ≤ p.size ∧ Hid (upl (p.toList.take n) = upl p.toList) ∧ Rep w0 nof [] [⟨B2, 77, [.string ⟨#[]⟩, .bool false, .string ⟨#[]⟩, .bool false]⟩] wr) (fun v _ => (intOf v).toNat)
    case atStart => exact ⟨p.size, rfl, Nat.le_refl _, Lib.hid (by rw [List.take_of_length_le (by omega)]), hR⟩
    case round =>
      obtain ⟨n, rfl, hn, hu, hR⟩ := hrel
      have hF := hR.fx
      cases n with
      | zero =>
        have hu' := hu.out
        go_wp2_with (first | (refine wl_ld hR ?_) | (refine wl_st hR ?_; (try clear hF); clear hR; intro w hR; have hF := hR.fx) | (refine wl_mem hR ?_; (try clear hF); clear hR; intro w B hR; have hF := hR.fx))
        have hup : pfx p = ⟨⟨p, false⟩, ⟨⟨#[]⟩, true⟩⟩ := by rw [pfx, if_pos hv, upb, ← hu']; rfl
        (exact ret_cell hR Tryz.results76 rfl UpI.at (by exact inferInstance) rfl ⟨pfx p, by rw [hup], rfl, hR.kp_nof⟩)
      | succ m =>
        have hml : m < p.toList.length := by omega
        have hm0 : (0 : Int) ≤ (m : Int) := by omega
        have hm1 : ((m : Int) < (p.size : Int)) := by omega
        have hm2 : m < p.size := by omega
        have hm3 : ((m : Int) ≤ (p.size : Int)) := by omega
        have hmp : (0 : Int) < (m : Int) + 1 := by omega
        have hwr : IntKind.i64.wrap (m : Int) = m := IntWalk.i64_in _ (by omega)
        have hpm : p[m] = p.toList[m] := by simp [ByteArray.toList_eq]; rfl
        have e := List.take_append_getElem hml
        by_cases h255 : p.toList[m] = 255
        · have hb : ((p[m].toNat : Int) == 255) = true := by rw [hpm, h255]; rfl
          clear hpm
          go_wp2_with (first | (refine wl_ld hR ?_) | (refine wl_st hR ?_; (try clear hF); clear hR; intro w hR; have hF := hR.fx) | (refine wl_mem hR ?_; (try clear hF); clear hR; intro w B hR; have hF := hR.fx))
          go_roundw
          case rel => exact ⟨m, rfl, by omega, Lib.hid (by rw [← hu.out, ← e, h255, upl_255]), hR⟩
          case measure => simp [intOf]
        · have hlast := upl_last (p.toList.take m) h255
          rw [e, hu.out] at hlast
          have hx2 : p[m].toNat < 255 := by
            rw [hpm]
            have := p.toList[m].toNat_lt
            have : p.toList[m].toNat ≠ 255 := fun e => h255 (UInt8.toNat_inj.1 (by simpa using e))
            omega
          have hb : ((p[m].toNat : Int) == 255) = false := beq_eq_false_iff_ne.2 (by omega)
          have hx1 : (p[m] + 1).toNat = p[m].toNat + 1 := by rw [UInt8.toNat_add]; have : (1 : UInt8).toNat = 1 := rfl; omega
          have H8 : Hid (((p[m].toNat : Int) + 1) % 256 = ((p[m] + 1).toNat : Int)) := Lib.hid (by rw [hx1]; omega)
          have hup : pfx p = ⟨⟨p, false⟩, ⟨⟨(p.toList.take m ++ [p[m] + 1]).toArray⟩, false⟩⟩ := by rw [pfx, if_pos hv, upb, hlast, hpm]
          have Hup := Lib.hid hup
          clear hup hlast e hu hx1 hpm
          have Hex : Hid ((p.extract 0 m).size + (⟨#[p[m] + 1]⟩ : ByteArray).size ≤ 9223372036854775807) := Lib.hid (by rw [ByteArray.size_extract]; show _ + 1 ≤ _; omega)
          go_upto_region 8 with (first | (refine wl_ld hR ?_) | (refine wl_st hR ?_; (try clear hF); clear hR; intro w hR; have hF := hR.fx) | (refine wl_mem hR ?_; (try clear hF); clear hR; intro w B hR; have hF := hR.fx))
          refine wp_region_C 16 (0 :: 1 :: 2 :: 3 :: 4 :: 5 :: 6 :: 7 :: 8 :: 9 :: 10 :: 11 :: 12 :: 13 :: 14 :: 15 :: []) [11] hR mixed (by kernel_rfl) ?_; (try clear hF); clear hR; (repeat (first | (refine dc_conv (v := .slice (some ⟨B, 0, none⟩) 1 1) rfl rfl rfl rfl rfl (fun w hR => conv1 (B := B) (x := p[m] + 1) (hR.cells List.mem_cons_self) H8.out) (by simp only [Act.put, List.setIfInBounds_toArray, List.set_cons_zero, List.set_cons_succ]; exact rfl) ?_) | (refine dc_cat rfl rfl rfl rfl rfl rfl Hex.out (by simp only [Act.put, List.setIfInBounds_toArray, List.set_cons_zero, List.set_cons_succ]; exact rfl) ?_) | (refine dk ?_; intro B))); refine dc_nil ?_; intro w hR; have hF := hR.fx; try simp only [List.drop_succ_cons, List.drop_zero]
          go_wp2_with (first | (refine wl_ld hR ?_) | (refine wl_st hR ?_; (try clear hF); clear hR; intro w hR; have hF := hR.fx) | (refine wl_mem hR ?_; (try clear hF); clear hR; intro w B hR; have hF := hR.fx))
          have hk : p.extract 0 m ++ (⟨#[p[m] + 1]⟩ : ByteArray) = ⟨(p.toList.take m ++ [p[m] + 1]).toArray⟩ := by
            apply ba_eq
            simp only [ByteArray.toList_eq, ByteArray.data_append, ByteArray.data_extract, Array.toList_append, Array.toList_extract, Nat.sub_zero, List.extract_eq_take_drop, List.drop_zero]
          (exact ret_cell hR Tryz.results76 rfl UpI.at (by exact inferInstance) rfl ⟨pfx p, by rw [Hup.out, ← hk], rfl, hR.kp_nof⟩)
end Go.Proofs.YtohpjdeohpamaaaGreatDoor
namespace Go.Proofs.YtohpjdeohpamaaaGreatDoor
open Go.RowKit
instance union_cr (l : List Rng) : Ct Tryz.prog 77 [.d (lst Rng.ds l)] (l.length ≤ 1000000) (.d (lst Rng.ds (union l))) := ⟨fun h => union_ct Tryz.func77 rfl rfl l h fun h1 h2 => union_r h1 h2⟩
instance prefix_cr (p : ByteArray) : Ct Tryz.prog 76 [vS p] True (.a [vS (pfx p).lo.key, vB (pfx p).lo.top, vS (pfx p).hi.key, vB (pfx p).hi.top]) := ⟨fun _ => prefix_ct Tryz.func76 rfl rfl p prefix_r⟩
end Go.Proofs.YtohpjdeohpamaaaGreatDoor
namespace Go.Proofs.YtohpjdeohpamaaaGreatDoor
open Go.RowKit
section
variable {α β R S : Type}
theorem cbnd_ret (r : R) (k : S → R) : cbnd (.ret r) k = r := rfl
theorem cbnd_nxt (s : S) (k : S → R) : cbnd (.nxt s) k = k s := rfl
end
section
variable {Γ : Cx} {k : Kont} {st st' : St} {x y : Code} {c : Operand} {b : Bool} {id : Nat}
end
section
variable {P : Program} {o : Oper} {H : Hp} {sl : List (Nat × V)} {x y z : Operand} {T U E t : TypeId} {zz bytes : Nat} {i j : Int} {s s' : ByteArray} {kk : IntKind} {k d k' : Nat}
end
section
variable {Γ : Cx} {P : Program} {k : Kont} {sl : List (Nat × V)} {H hp : Hp} {o : Oper} {ops : Array Oper} {i an d kt : Nat} {ts : List Nat} {r : List PI} {F : List Ft} {f : FuncId} {us uc : List V} {x : Operand} {xs : Array Operand} {ats : Array TypeId} {u u' : V} {rest : List Oper} {blk blk0 blk' blk1 : Blk}
theorem wd_io (hs : Spec Γ.P f us [(0, some blk)] fun u1 h1 => u1 = u ∧ h1 = [(0, some blk')]) (kt : Nat) (hop : o.op = .call { callee := .value x, args := xs, argTypes := ats }) (hx : ev (keep ts sl) x = some (.d (.c (.func (.func f) #[] #[])))) (ha : evl (keep ts sl) xs.toList = some uc) (hv : Vws [] [(0, kt)] uc us)
    (hH : look hp kt = some (some blk0)) (hb : Vb [] [(0, kt)] blk0 blk) (hu : u.ren (rn [(0, kt)] 100000) = u) (hb' : blk'.ren (rn [(0, kt)] 100000) = blk')
    (hd : o.dst = some d) (hw : Wt ops o (keep ts sl) true) (hdl : Nat.blt d Γ.nt = true) (hfr : freshB hp 100000 100 = true) (hf : okF ⟨⟨i, an, ts⟩, [kt], [kt], 100000, 100⟩ F = true) (hnd : (r.all fun q => bitN q.an i) = true)
    (hk : WD Γ ops k r (⟨⟨i, an, ts⟩, [kt], [kt], 100000, 100⟩ :: F) ⟨(d, u) :: sl, (kt, some blk') :: hp⟩) : WO Γ ops k o i an ts r F ⟨sl, hp⟩ :=
  wd_v [kt] [kt] (o_io hs kt hop hx ha hv (by rw [keep1]; exact hH) hb hu hb') hd hw hdl hfr hf hnd (by rintro _ _ ⟨rfl, rfl⟩; exact inW_1 _ _) (by rintro _ _ ⟨rfl, rfl⟩; exact hk)
end
section
variable {Γ : Cx} {P : Program} {k : Kont} {sl : List (Nat × V)} {H hp h h' : Hp} {o : Oper} {ops : Array Oper} {i an d kt : Nat} {ts : List Nat} {r : List PI} {F : List Ft} {f : FuncId} {us uc : List V} {x : Operand} {xs : Array Operand} {ats : Array TypeId} {u u' : V} {rest : List Oper}
theorem o_gen {blk blk0 : Blk} (hs : Spec P f us [(0, some blk)] fun u1 h1 => u1 = u ∧ h1 = h) (kt M : Nat) (hop : o.op = .call { callee := .value x, args := xs, argTypes := ats }) (hx : ev sl x = some (.d (.c (.func (.func f) #[] #[])))) (ha : evl sl xs.toList = some uc) (hv : Vws [] [(0, kt)] uc us)
    (hH : look H kt = some (some blk0)) (hb : Vb [] [(0, kt)] blk0 blk) (hu : u.ren (rn [(0, kt)] M) = u') (hh : renH (rn [(0, kt)] M) h = h') : OpV P o H sl M 100 fun u1 h1 => u1 = u' ∧ h1 = h' := by
  have hal : aliveB H [(0, kt)] = true := by simp only [aliveB, List.all_cons, List.all_nil, Bool.and_true, hH]
  have h0 : look [(0, kt)] 0 = some kt := rfl
  refine (o_call M [(0, kt)] hs hop hx ha hv (VH.cons h0 hH hb VH.nil) hal rfl (by rfl)).mono ?_
  rintro u1 h1 ⟨u0, h0', ⟨rfl, rfl⟩, rfl, rfl⟩
  exact ⟨hu, hh⟩
theorem wl_gen {blk blk0 : Blk} (hs : Spec Γ.P f us [(0, some blk)] fun u1 h1 => u1 = u ∧ h1 = h) (kt M : Nat) (hop : o.op = .call { callee := .value x, args := xs, argTypes := ats }) (hx : ev sl x = some (.d (.c (.func (.func f) #[] #[])))) (ha : evl sl xs.toList = some uc) (hv : Vws [] [(0, kt)] uc us)
    (hH : look hp kt = some (some blk0)) (hb : Vb [] [(0, kt)] blk0 blk) (hu : u.ren (rn [(0, kt)] M) = u') (hh : renH (rn [(0, kt)] M) h = h') (hg : o.guard = none) (hd : o.dst = some d) (hdl : Nat.blt d Γ.nt = true) (hf : freshB hp M 100 = true) (hk : WL Γ ops rest k ⟨(d, u') :: sl, h' ++ hp⟩) : WL Γ ops (o :: rest) k ⟨sl, hp⟩ :=
  wl_v (o_gen hs kt M hop hx ha hv hH hb hu hh) hg hd hdl hf (by rintro _ _ ⟨rfl, rfl⟩; exact hk)
end
section
variable {P : Program} {o : Oper} {H : Hp} {sl : List (Nat × V)} {x y : Operand} {T U E t : TypeId} {zz bytes n off k : Nat} {i : Int} {ag : Bool} {α : Type} {f : α → List D} {xs : List α} {a a' : α} {u : V}
end
section
variable {Γ : Cx} {k : Kont} {sl : List (Nat × V)} {hp : Hp} {o : Oper} {ops : Array Oper} {i an d : Nat} {ts : List Nat} {r : List PI} {F : List Ft} {x y : Operand} {T E t : TypeId} {zz bytes n off kk : Nat} {j : Int} {ag : Bool} {α : Type} {f : α → List D} {xs ys : List α} {a a' : α} {u : V}
end
section
variable {Γ : Cx} {P : Program} {ks : List Nat} {rs : List ResultVar} {Ψ : V → Hp → Prop} {st st' : St} {us : List V} {u : V} {h : Hp} {k : Kont} {n m : Nat}
end
section
variable {Γ : Cx} {k : Kont} {x : Code} {st st' : St} {sl : List (Nat × V)} {hp : Hp} {o : Oper} {ops : Array Oper} {d : Nat} {f : FuncId} {us uc : List V} {y : Operand} {xs : Array Operand} {ats : Array TypeId} {u : V} {rest : List Oper} {blk blk0 blk' : Blk}
end
section
variable {Γ : Cx} {k : Kont} {x y : Code} {st : St} {sl : List (Nat × V)} {hp : Hp} {o oj : Oper} {ops : Array Oper} {rest : List Oper} {c : Operand} {α : Type} {b : Bool} {m n z : α} {j t : Nat} {e : Bool}
end
end Go.Proofs.YtohpjdeohpamaaaGreatDoor
namespace Go.Proofs.YtohpjdeohpamaaaGreatDoor
open Go.ChangeShapes Go.WideShapes Go.ChangeAt Go.RowKit Go.Joins
set_option maxRecDepth 100000
def anyB (_ : Bool) : Prop := True
def szS (s : ByteArray) : Prop := s.size ≤ 9223372036854775807
def allL {α : Type} (I : α → Prop) (l : List α) : Prop := l.length ≤ 9223372036854775807 ∧ ∀ a ∈ l, I a
section
variable {P : Program} {T E : TypeId} {W : World}
theorem opn_bool (h : P.underlying T = some .bool) : Opn P T dsB anyB := ⟨fun hx => by
  obtain ⟨b, rfl, -⟩ := DataW.trod_bool h hx
  exact ⟨b, trivial, .cons (.c rfl) .nil⟩⟩
theorem opn_str (h : P.underlying T = some .string) : Opn P T dsS szS := ⟨fun hx => by
  obtain ⟨s, rfl, -, hs⟩ := DataW.trod_string h hx
  exact ⟨s, hs, .cons (.c rfl) .nil⟩⟩
theorem opn_slice {α : Type} {f : α → List D} {I : α → Prop} {z : Nat} (h : P.underlying T = some (.slice E)) (hc : P.cellsOf E = z) (hz : 0 < z) [hE : Opn P E f I] [hL : Len f z] : Opn P T (dsL f) (allL I) := ⟨fun {H enc W fuel cs x} hxx => by
  rcases Go.Deep.open_slice h hxx with ⟨rfl, -⟩ | ⟨a, len, cap, m, k, D', Pl, rfl, -, hl, hml, hm, -, hx⟩
  · exact ⟨[], ⟨by simp, by simp⟩, .cons (.nil _ _) .nil⟩
  · obtain rfl : m = cap := by simpa using hm
    rw [hc] at hx
    by_cases hm0 : m = 0
    · obtain rfl : len = 0 := by omega
      exact ⟨[], ⟨by simp, by simp⟩, .cons (.nil _ _) .nil⟩
    have each : ∀ i : Nat, ∃ p : α × List Value, i < m → I p.1 ∧ RDs W (fun b => b < W.heap.size) (f p.1) p.2 ∧ p.2.length = z ∧ ∀ j u, p.2[j]? = some u → W.cell? (a.add (i * z + j)) = some u := by
      intro i
      by_cases hi : i < m
      · obtain ⟨cs, h1, h2⟩ := hx i hi
        obtain ⟨b, g1, g2⟩ := hE.out h2
        obtain ⟨-, hlen, hcell⟩ := World.cells?_some h1
        refine ⟨(b, cs), fun _ => ⟨g1, g2, by rw [g2.length, hL.len], fun j u hj => ?_⟩⟩
        have hjz : j < z := by
          have := (List.getElem?_eq_some_iff.1 hj).1
          simp only at this
          rw [g2.length, hL.len] at this; exact this
        rw [← Go.Deep.add_add, hcell j hjz, hj]
      · obtain ⟨cs, h1, h2⟩ := hx 0 (by omega)
        obtain ⟨b, -, -⟩ := hE.out h2
        exact ⟨(b, []), fun h => absurd h hi⟩
    let p : Nat → α × List Value := fun i => Classical.choose (each i)
    have hp : ∀ i, i < m → I (p i).1 ∧ RDs W (fun b => b < W.heap.size) (f (p i).1) (p i).2 ∧ (p i).2.length = z ∧ ∀ j u, (p i).2[j]? = some u → W.cell? (a.add (i * z + j)) = some u := fun i => Classical.choose_spec (each i)
    refine ⟨(List.range len).map fun i => (p i).1, ⟨by simp; unfold maxLen at hml; omega, fun b hb => ?_⟩, ?_⟩
    · obtain ⟨i, hi, rfl⟩ := List.mem_map.1 hb
      exact (hp i (by have := List.mem_range.1 hi; omega)).1
    · by_cases h0 : len = 0
      · subst h0; exact .cons (.nil _ _) .nil
      obtain ⟨b, off, spot⟩ := a
      have hv0 : ∃ u, (p 0).2[0]? = some u := ⟨_, List.getElem?_eq_getElem (by rw [(hp 0 (by omega)).2.2.1]; exact hz)⟩
      obtain ⟨u0, hu0⟩ := hv0
      have hc0 := (hp 0 (by omega)).2.2.2 0 u0 hu0
      have hspot : spot = none := by simpa [Addr.add] using World.cell?_spot hc0
      subst hspot
      have hb : b < W.heap.size := World.block_lt_of_cell? W ⟨b, off + (0 * z + 0), none⟩ (by rw [← Go.WideShapes.add_plain]; exact hc0)
      have hlen : ((List.range len).map fun i => (p i).1).length = len := by simp
      refine .cons ?_ .nil
      rw [show lst f ((List.range len).map fun i => (p i).1) = .l len (((List.range len).map fun i => (p i).1).flatMap f) by unfold lst; rw [hlen]]
      refine RD.l hl (by omega) hb (rds_flat (vs := (List.range len).map fun i => (p i).2) (by simp) fun i x v hx hv => ?_) fun j v hj => ?_
      · rw [List.getElem?_map] at hx hv
        cases hr : (List.range len)[i]? with
        | none => rw [hr] at hx; cases hx
        | some q =>
          rw [hr] at hx hv
          obtain rfl := Option.some.inj hx
          obtain rfl := Option.some.inj hv
          have := List.mem_range.1 (List.mem_of_getElem? hr)
          exact (hp q (by omega)).2.1
      · obtain ⟨u, h1, h2⟩ := flatten_get (z := z) (fun u hu => by
          obtain ⟨i, hi, rfl⟩ := List.mem_map.1 hu
          exact (hp i (by have := List.mem_range.1 hi; omega)).2.2.1) hj
        rw [List.getElem?_map] at h1
        cases hr : (List.range len)[j / z]? with
        | none => rw [hr] at h1; cases h1
        | some q =>
          rw [hr] at h1
          obtain rfl := Option.some.inj h1
          obtain ⟨hq1, hq2⟩ := List.getElem?_eq_some_iff.1 hr
          rw [List.getElem_range] at hq2
          rw [List.length_range] at hq1
          subst hq2
          have := (hp _ (show j / z < m by omega)).2.2.2 _ v h2
          rw [Go.WideShapes.add_plain] at this
          rwa [Nat.mul_comm, Nat.div_add_mod] at this⟩
variable {H : Type} {enc : TypeId × Value → H}
theorem of_field {fs : Array Field} {n : Nat} {cs : List Value} {xs : List (DataW H × List MemPlace)} {α : Type} {f : α → List D} {I : α → Prop} {o c : Nat} (hf : ∀ (i : Nat) (g : Field), fs[i]? = some g → DataW.trod enc P W 0 (fun _ => true) true n g.type ((cs.drop g.offset).take (P.cellsOf g.type)) = xs[i]?)
    (hlen : xs.length = fs.size) (i : Nat) {g : Field} (hg : fs[i]? = some g) (ht : g.type = T) (ho : g.offset = o) (hc : P.cellsOf T = c) [hO : Opn P T f I] : ∃ a : α, I a ∧ RDs W (fun b => b < W.heap.size) (f a) ((cs.drop o).take c) := by
  have h1 := hf i g hg
  have hi : i < xs.length := by rw [hlen]; exact (Array.getElem?_eq_some_iff.1 hg).1
  rw [List.getElem?_eq_getElem hi, ht, ho, hc] at h1
  exact hO.out h1
theorem chain_of {ok : Nat → Prop} {cs : List Value} {xs ys : List D} {o c : Nat} (h1 : RDs W ok xs ((cs.drop o).take c)) (h2 : RDs W ok ys (cs.drop (o + c))) : RDs W ok (xs ++ ys) (cs.drop o) := by
  have := h1.append h2
  rwa [← List.drop_drop, List.take_append_drop] at this
theorem fin_of {ok : Nat → Prop} {cs : List Value} {n : Nat} (hl : cs.length = P.cellsOf T) (hc : P.cellsOf T = n) : RDs W ok [] (cs.drop n) := by
  rw [List.drop_eq_nil_of_le (by omega)]
  exact .nil
theorem rvs_d {ok : Nat → Prop} {ρ : Lc} : ∀ {xs : List D} {vs : List Value}, RDs W ok xs vs → RVs W ok ρ (xs.map .d) vs
  | _, _, .nil => .nil
  | _, _, .cons h t => .cons (.d h) (rvs_d t)
theorem arg_one {α : Type} {f : α → List D} {I : α → Prop} [hO : Opn P T f I] {v : Value} {d : DataW H} {ps : List MemPlace} (hc : v.cells.toList = [v]) (h : DataW.Trod enc P W 0 (fun _ => true) true T v d ps) : ∃ a : α, I a ∧ RDs W (fun b => b < W.heap.size) (f a) [v] := by
  obtain ⟨fuel, h⟩ := h
  rw [hc] at h
  exact hO.out h
theorem arg_agg {α : Type} {f : α → List D} {I : α → Prop} [hO : Opn P T f I] {fs : Array Field} {ρ : Lc} {base : Nat} {v : Value} {d : DataW H} {ps : List MemPlace} (hu : P.underlying T = some (.struct fs)) (hv : Value.okWide P W .any base T v) (h : DataW.Trod enc P W 0 (fun _ => true) true T v d ps) :
    ∃ a : α, I a ∧ RV W (fun b => b < W.heap.size) ρ (.a ((f a).map .d)) v := by
  obtain ⟨cs, rfl, -⟩ := okWide_struct hu hv
  obtain ⟨fuel, h⟩ := h
  obtain ⟨a, h1, h2⟩ := hO.out h
  exact ⟨a, h1, by have := RV.a (rvs_d (ρ := ρ) h2); simpa [Value.cells] using this⟩
end
end Go.Proofs.YtohpjdeohpamaaaGreatDoor
