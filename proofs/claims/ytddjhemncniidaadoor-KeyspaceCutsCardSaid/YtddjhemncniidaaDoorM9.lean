/-
  Plain words: Tiles at the pieces of a cut range, one left out, one taken twice.
-/
import Derived.Test.YtddjhemncniidaaDoorM8
import Derived.Test.YtddjhemncniidaaDoorM2
namespace Go.Proofs.YtddjhemncniidaaDoor
set_option linter.unusedSimpArgs false
set_option linter.unusedVariables false
open Go.RowKit

theorem cut_ne {lo hi : Bnd} {l : List Rng} (h : Cut hi lo l) : l ≠ [] := by cases h <;> simp
theorem cut_head {lo hi : Bnd} {x : Rng} {l : List Rng} (h : Cut hi lo (x :: l)) : x.lo = lo := by cases h <;> rfl
theorem tgo_cut {hi : Bnd} (hh : vb hi = true) : ∀ {lo : Bnd} {l : List Rng} (_ : Cut hi lo l) (_ : vb lo = true) (_ : lo.lt hi = true) (i : Nat), tgo hi lo i l = (((i + l.length : Nat) : Int), 0) := by
  intro lo l h
  induction h with
  | last =>
    rename_i lo
    intro hl hlt i
    have he : emp ⟨lo, hi⟩ = false := (emp_iff _).2 ⟨hl, hh, hlt⟩
    simp [tgo, he, cmp_self]
  | cons h1 h2 h3 hc ih =>
    rename_i lo x l
    intro hl hlt i
    have he : emp ⟨lo, x⟩ = false := (emp_iff _).2 ⟨hl, h3, h1⟩
    have hx : ¬ 0 < cmp x hi := by rw [cmp_pos, lt_asymm h2]; simp
    simp only [tgo, he, Bool.false_eq_true, if_false, cmp_self, Int.lt_irrefl, gt_iff_lt, hx, List.length_cons]
    rw [ih h3 h2 (i + 1)]
    congr 2; omega
theorem tgo_out {hi : Bnd} (hh : vb hi = true) : ∀ {lo : Bnd} {l : List Rng} (_ : Cut hi lo l) (_ : vb lo = true) (_ : lo.lt hi = true) (i k : Nat), k < l.length → tgo hi lo i (l.take k ++ l.drop (k + 1)) = (((i + k : Nat) : Int), 9) := by
  intro lo l h
  induction h with
  | last =>
    rename_i lo
    intro hl hlt i k hk
    obtain rfl : k = 0 := by simp at hk; omega
    have hx : cmp lo hi < 0 := (cmp_neg _ _).2 hlt
    simp [tgo, hx]
  | cons h1 h2 h3 hc ih =>
    rename_i lo x l
    intro hl hlt i k hk
    cases k with
    | zero =>
      cases l with
      | nil => exact absurd rfl (cut_ne hc)
      | cons y l =>
        have hy := cut_head hc
        have he : emp y = false := (cut_pts hh hc h3 h2).1 y List.mem_cons_self
        have hx : 0 < cmp y.lo lo := by rw [hy, cmp_pos]; exact h1
        simp [tgo, he, hx]
    | succ k =>
      have he : emp ⟨lo, x⟩ = false := (emp_iff _).2 ⟨hl, h3, h1⟩
      have hx : ¬ 0 < cmp x hi := by rw [cmp_pos, lt_asymm h2]; simp
      simp only [List.take_succ_cons, List.drop_succ_cons, List.cons_append, tgo, he, Bool.false_eq_true, if_false, cmp_self, Int.lt_irrefl, gt_iff_lt, hx]
      rw [ih h3 h2 (i + 1) k (by simpa using hk)]
      congr 2; omega
theorem tgo_twice {hi : Bnd} (hh : vb hi = true) : ∀ {lo : Bnd} {l : List Rng} (_ : Cut hi lo l) (_ : vb lo = true) (_ : lo.lt hi = true) (i k : Nat) (r : Rng), l[k]? = some r → tgo hi lo i (l.take k ++ r :: l.drop k) = (((i + k + 1 : Nat) : Int), 10) := by
  intro lo l h
  induction h with
  | last =>
    rename_i lo
    intro hl hlt i k r hr
    obtain ⟨hk, hr⟩ := List.getElem?_eq_some_iff.1 hr
    obtain rfl : k = 0 := by simp at hk; omega
    have he : emp ⟨lo, hi⟩ = false := (emp_iff _).2 ⟨hl, hh, hlt⟩
    have h1 : ¬ 0 < cmp lo hi := by rw [cmp_pos, lt_asymm hlt]; simp
    have h2 : cmp lo hi < 0 := (cmp_neg _ _).2 hlt
    simp at hr; subst hr
    simp [tgo, he, cmp_self, h1, h2]
  | cons h1 h2 h3 hc ih =>
    rename_i lo x l
    intro hl hlt i k r hr
    have he : emp ⟨lo, x⟩ = false := (emp_iff _).2 ⟨hl, h3, h1⟩
    have hx : ¬ 0 < cmp x hi := by rw [cmp_pos, lt_asymm h2]; simp
    cases k with
    | zero =>
      obtain rfl : (⟨lo, x⟩ : Rng) = r := by simpa using hr
      have h4 : ¬ 0 < cmp lo x := by rw [cmp_pos, lt_asymm h1]; simp
      have h5 : cmp lo x < 0 := (cmp_neg _ _).2 h1
      simp [tgo, he, cmp_self, hx, h4, h5]
    | succ k =>
      simp only [List.take_succ_cons, List.drop_succ_cons, List.cons_append, tgo, he, Bool.false_eq_true, if_false, cmp_self, Int.lt_irrefl, gt_iff_lt, hx]
      rw [ih h3 h2 (i + 1) k r (by simpa using hr)]
      congr 2; omega
theorem vld_ne {r : Rng} (h : emp r = false) : vld r = true := by
  have h1 := h
  simp only [emp, Bool.or_eq_false_iff, Bool.not_eq_false'] at h1
  exact h1.1
theorem tiles_cut {r : Rng} {l : List Rng} (he : emp r = false) (h : Cut r.hi r.lo l) : tiles l r = (((l.length : Nat) : Int), 0) := by
  obtain ⟨a, b, c⟩ := (emp_iff r).1 he
  rw [tiles, if_pos (vld_ne he), tgo_cut b h a c 0, Nat.zero_add]
theorem tiles_out {r : Rng} {l : List Rng} (he : emp r = false) (h : Cut r.hi r.lo l) {k : Nat} (hk : k < l.length) : tiles (l.take k ++ l.drop (k + 1)) r = (((k : Nat) : Int), 9) := by
  obtain ⟨a, b, c⟩ := (emp_iff r).1 he
  rw [tiles, if_pos (vld_ne he), tgo_out b h a c 0 k hk, Nat.zero_add]
theorem tiles_twice {r : Rng} {l : List Rng} (he : emp r = false) (h : Cut r.hi r.lo l) {k : Nat} {x : Rng} (hk : l[k]? = some x) : tiles (l.take k ++ x :: l.drop k) r = (((k + 1 : Nat) : Int), 10) := by
  obtain ⟨a, b, c⟩ := (emp_iff r).1 he
  rw [tiles, if_pos (vld_ne he), tgo_twice b h a c 0 k x hk, Nat.zero_add]
end Go.Proofs.YtddjhemncniidaaDoor
