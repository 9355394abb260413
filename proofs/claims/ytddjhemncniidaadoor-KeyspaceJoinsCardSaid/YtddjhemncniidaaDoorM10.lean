/-
  Plain words: the two parts into which a range is cut.
-/
import Derived.Test.YtddjhemncniidaaDoorM8
namespace Go.Proofs.YtddjhemncniidaaDoor
set_option linter.unusedSimpArgs false
set_option linter.unusedVariables false
open Go.RowKit
section
variable {r : Rng} {b : Bnd}
theorem part_x (he : emp r = false) (hb : vb b = true) (h1 : r.lo.lt b = true) : emp ⟨r.lo, b⟩ = false := (emp_iff _).2 ⟨((emp_iff r).1 he).1, hb, h1⟩
theorem part_y (he : emp r = false) (hb : vb b = true) (h2 : b.lt r.hi = true) : emp ⟨b, r.hi⟩ = false := (emp_iff _).2 ⟨hb, ((emp_iff r).1 he).2.1, h2⟩
theorem part_adj (he : emp r = false) (hb : vb b = true) (h1 : r.lo.lt b = true) (h2 : b.lt r.hi = true) : adj ⟨r.lo, b⟩ ⟨b, r.hi⟩ = true := by
  simp [adj, part_x he hb h1, part_y he hb h2, cmp_self]
theorem part_nadj (he : emp r = false) : adj ⟨b, r.hi⟩ ⟨r.lo, b⟩ = false := by
  have h := (emp_iff r).1 he
  have : ¬ cmp r.hi r.lo = 0 := fun e => by rw [(cmp_eq0 _ _).1 e |>.2] at h; cases h.2.2
  simp [adj, this]
theorem part_union (he : emp r = false) (hb : vb b = true) (h1 : r.lo.lt b = true) (h2 : b.lt r.hi = true) : union [⟨b, r.hi⟩, ⟨r.lo, b⟩] = [r] :=
  union_two ((emp_iff r).1 he).1 hb ((emp_iff r).1 he).2.1 h1 h2
theorem part_isect (he : emp r = false) (hb : vb b = true) (h1 : r.lo.lt b = true) (h2 : b.lt r.hi = true) : isect ⟨r.lo, b⟩ ⟨b, r.hi⟩ = zr := by
  rw [isect_ne (part_x he hb h1) (part_y he hb h2)]
  simp only [greater_if, lesser_if, h1, if_true, lt_asymm h2, Bool.false_eq_true, if_false, lt_irrefl]
theorem part_hull (he : emp r = false) (hb : vb b = true) (h1 : r.lo.lt b = true) (h2 : b.lt r.hi = true) : hull ⟨r.lo, b⟩ ⟨b, r.hi⟩ = r := by
  rw [hull_ne (part_x he hb h1) (part_y he hb h2)]
  simp only [greater_if, lesser_if, lt_asymm h1, h2, if_true, Bool.false_eq_true, if_false]
theorem part_hull' (he : emp r = false) (hb : vb b = true) (h1 : r.lo.lt b = true) (h2 : b.lt r.hi = true) : hull ⟨b, r.hi⟩ ⟨r.lo, b⟩ = r := by
  rw [hull_ne (part_y he hb h2) (part_x he hb h1)]
  simp only [greater_if, lesser_if, h1, lt_asymm h2, if_true, Bool.false_eq_true, if_false]
theorem part_isx (he : emp r = false) (hb : vb b = true) (h1 : r.lo.lt b = true) (h2 : b.lt r.hi = true) : isect r ⟨r.lo, b⟩ = ⟨r.lo, b⟩ := by
  rw [isect_ne he (part_x he hb h1)]
  simp only [greater_if, lesser_if, h1, h2, if_true, lt_irrefl, Bool.false_eq_true, if_false]
theorem part_isy (he : emp r = false) (hb : vb b = true) (h1 : r.lo.lt b = true) (h2 : b.lt r.hi = true) : isect r ⟨b, r.hi⟩ = ⟨b, r.hi⟩ := by
  rw [isect_ne he (part_y he hb h2)]
  simp only [greater_if, lesser_if, h1, h2, if_true, lt_irrefl, Bool.false_eq_true, if_false]
theorem part_subx (he : emp r = false) (hb : vb b = true) (h1 : r.lo.lt b = true) (h2 : b.lt r.hi = true) : subtract r ⟨r.lo, b⟩ = [⟨b, r.hi⟩] := by
  have e : emp ⟨r.lo, r.lo⟩ = true := by simp [emp, cmp_self]
  have e2 := part_y he hb h2
  unfold subtract
  rw [part_isx he hb h1 h2, he, part_x he hb h1]
  simp [e, e2]
theorem part_suby (he : emp r = false) (hb : vb b = true) (h1 : r.lo.lt b = true) (h2 : b.lt r.hi = true) : subtract r ⟨b, r.hi⟩ = [⟨r.lo, b⟩] := by
  have e : emp ⟨r.hi, r.hi⟩ = true := by simp [emp, cmp_self]
  have e2 := part_x he hb h1
  unfold subtract
  rw [part_isy he hb h1 h2, he, part_y he hb h2]
  simp [e, e2]
end
end Go.Proofs.YtddjhemncniidaaDoor
