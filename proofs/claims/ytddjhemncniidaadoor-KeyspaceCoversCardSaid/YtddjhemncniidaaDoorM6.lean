/-
  Plain laws: which keys intersections, hulls and differences contain.
-/
import Derived.Test.YtddjhemncniidaaDoorM5
namespace Go.Proofs.YtddjhemncniidaaDoor
set_option linter.unusedSimpArgs false
set_option linter.unusedVariables false
open Go.RowKit

theorem contains_lt (r : Rng) (k : ByteArray) : contains r k = (!emp r && vk k && !(Bnd.lt ⟨k, false⟩ r.lo) && Bnd.lt ⟨k, false⟩ r.hi) := by
  unfold contains
  have h1 := cmp_pos r.lo ⟨k, false⟩
  have h2 := cmp_neg ⟨k, false⟩ r.hi
  rw [Bool.eq_iff_iff]
  simp only [Bool.and_eq_true, decide_eq_true_eq, Bool.not_eq_true']
  constructor
  · rintro ⟨⟨⟨a, b⟩, c⟩, d⟩
    refine ⟨⟨⟨a, b⟩, ?_⟩, h2.1 d⟩
    cases e : Bnd.lt ⟨k, false⟩ r.lo with
    | false => rfl
    | true => have := h1.2 e; omega
  · rintro ⟨⟨⟨a, b⟩, c⟩, d⟩
    refine ⟨⟨⟨a, b⟩, ?_⟩, h2.2 d⟩
    have : ¬ 0 < cmp r.lo ⟨k, false⟩ := fun g => by rw [h1.1 g] at c; cases c
    omega
theorem contains_mk {x y : Bnd} (hx : vb x = true) (hy : vb y = true) (k : ByteArray) : contains ⟨x, y⟩ k = (vk k && !(Bnd.lt ⟨k, false⟩ x) && Bnd.lt ⟨k, false⟩ y) := by
  rw [contains_lt]
  cases h : emp ⟨x, y⟩
  · simp
  · rw [emp_mk hx hy] at h
    simp only [Bool.not_eq_true'] at h
    simp only [Bool.not_true, Bool.false_and]
    cases hk : vk k
    · rfl
    · have hv : vb ⟨k, false⟩ = true := by simp [vb, hk]
      cases h1 : Bnd.lt ⟨k, false⟩ x
      · cases h2 : Bnd.lt ⟨k, false⟩ y
        · rfl
        · have := le_lt hv hx h1 h2
          rw [this] at h; cases h
      · rfl
theorem contains_zr (k : ByteArray) : contains zr k = false := by rw [contains_lt, emp_zr]; rfl
theorem contains_emp {r : Rng} (h : emp r = true) (k : ByteArray) : contains r k = false := by rw [contains_lt, h]; rfl
theorem contains_ne {r : Rng} (h : emp r = false) (k : ByteArray) : contains r k = (vk k && !(Bnd.lt ⟨k, false⟩ r.lo) && Bnd.lt ⟨k, false⟩ r.hi) := by rw [contains_lt, h]; rfl
theorem contains_isect (a b : Rng) (k : ByteArray) : contains (isect a b) k = (contains a k && contains b k) := by
  cases ha : emp a
  · cases hb : emp b
    · have ha' := (emp_iff a).1 ha
      have hb' := (emp_iff b).1 hb
      have vg := greater_vb ha'.1 hb'.1
      have vl := lesser_vb ha'.2.1 hb'.2.1
      have e : contains (isect a b) k = contains ⟨greater a.lo b.lo, lesser a.hi b.hi⟩ k := by
        rw [isect_ne ha hb]
        cases h : (greater a.lo b.lo).lt (lesser a.hi b.hi)
        · rw [if_neg (by simp), contains_zr, contains_emp]
          rw [emp_mk vg vl, h]; rfl
        · rw [if_pos rfl]
      rw [e, contains_mk vg vl, contains_ne ha, contains_ne hb, greater_if, lesser_if]
      cases hk : vk k
      · simp
      · have hv : vb ⟨k, false⟩ = true := by simp [vb, hk]
        grind [lt_total, lt_trans, lt_asymm]
    · rw [isect_er hb, contains_zr, contains_emp hb, Bool.and_false]
  · rw [isect_el ha, contains_zr, contains_emp ha, Bool.false_and]
theorem contains_hull {a b : Rng} {k : ByteArray} (h : (contains a k || contains b k) = true) : contains (hull a b) k = true := by
  cases ha : emp a
  · cases hb : emp b
    · have ha' := (emp_iff a).1 ha
      have hb' := (emp_iff b).1 hb
      rw [hull_ne ha hb, contains_mk (lesser_vb ha'.1 hb'.1) (greater_vb ha'.2.1 hb'.2.1), lesser_if, greater_if]
      rw [contains_ne ha, contains_ne hb] at h
      cases hk : vk k
      · simp [hk] at h
      · have hv : vb ⟨k, false⟩ = true := by simp [vb, hk]
        generalize (⟨k, false⟩ : Bnd) = K at *
        have i1 : b.lo.lt a.lo = true → K.lt b.lo = true → K.lt a.lo = true := fun h1 h2 => lt_trans h2 h1
        have i2 : b.lo.lt a.lo = false → K.lt a.lo = true → K.lt b.lo = true := fun h1 h2 => lt_le ha'.1 hb'.1 h2 h1
        have i3 : a.hi.lt b.hi = true → K.lt a.hi = true → K.lt b.hi = true := fun h1 h2 => lt_trans h2 h1
        have i4 : a.hi.lt b.hi = false → K.lt b.hi = true → K.lt a.hi = true := fun h1 h2 => lt_le hb'.2.1 ha'.2.1 h2 h1
        clear ha' hb' ha hb hv
        simp only [hk, Bool.true_and] at h ⊢
        cases e1 : b.lo.lt a.lo <;> cases e2 : a.hi.lt b.hi <;> simp only [e1, e2, if_true, if_false, Bool.false_eq_true, true_implies, false_implies, reduceCtorEq] at i1 i2 i3 i4 ⊢ <;>
          (generalize K.lt a.lo = k1 at *; generalize K.lt a.hi = k2 at *; generalize K.lt b.lo = k3 at *; generalize K.lt b.hi = k4 at *; clear e1 e2 hk; revert k1 k2 k3 k4; decide)
    · rw [contains_emp hb, Bool.or_false] at h
      simp [hull, ha, hb, h]
  · rw [contains_emp ha, Bool.false_or] at h
    cases hb : emp b
    · simp [hull, ha, hb, h]
    · rw [contains_emp hb] at h; cases h
theorem countP_filter_emp (l : List Rng) (k : ByteArray) : (l.filter fun r => !emp r).countP (contains · k) = l.countP (contains · k) := by
  induction l with
  | nil => rfl
  | cons r l ih =>
    rw [List.filter_cons]
    cases h : emp r
    · simp only [Bool.not_false, if_true, List.countP_cons, ih]
    · simp only [Bool.not_true, Bool.false_eq_true, if_false, List.countP_cons, ih, contains_emp h]; rfl
theorem count_subtract (a b : Rng) (k : ByteArray) : (subtract a b).countP (contains · k) = if contains a k && !contains b k then 1 else 0 := by
  have hi := contains_isect a b k
  unfold subtract
  cases ha : emp a
  · simp only [Bool.false_eq_true, if_false]
    cases hm : emp (isect a b)
    · simp only [Bool.false_eq_true, if_false]
      rw [countP_filter_emp]
      have hb : emp b = false := by
        cases h : emp b with
        | false => rfl
        | true => rw [isect_er h, emp_zr] at hm; cases hm
      have ha' := (emp_iff a).1 ha
      have hb' := (emp_iff b).1 hb
      have hm' := (emp_iff _).1 hm
      have vg := greater_vb ha'.1 hb'.1
      have vl := lesser_vb ha'.2.1 hb'.2.1
      have e : isect a b = ⟨greater a.lo b.lo, lesser a.hi b.hi⟩ := by
        rw [isect_ne ha hb] at hm ⊢
        cases h : (greater a.lo b.lo).lt (lesser a.hi b.hi)
        · rw [h, if_neg (by simp), emp_zr] at hm; cases hm
        · rw [if_pos rfl]
      rw [e] at hm'
      rw [e]
      simp only [List.countP_cons, List.countP_nil] at *
      rw [contains_mk ha'.1 vg, contains_mk vl ha'.2.1, contains_ne ha, contains_ne hb]
      cases hk : vk k
      · simp
      · have hv : vb ⟨k, false⟩ = true := by simp [vb, hk]
        have h3 := hm'.2.2
        generalize (⟨k, false⟩ : Bnd) = K at *
        simp only [greater_if, lesser_if] at h3 vg vl ⊢
        have i1 : a.lo.lt b.lo = true → K.lt a.lo = true → K.lt b.lo = true := fun h1 h2 => lt_trans h2 h1
        have i2 : a.lo.lt b.lo = false → K.lt b.lo = true → K.lt a.lo = true := fun h1 h2 => lt_le hb'.1 ha'.1 h2 h1
        have i3 : b.hi.lt a.hi = true → K.lt b.hi = true → K.lt a.hi = true := fun h1 h2 => lt_trans h2 h1
        have i4 : b.hi.lt a.hi = false → K.lt a.hi = true → K.lt b.hi = true := fun h1 h2 => lt_le ha'.2.1 hb'.2.1 h2 h1
        have i5 : K.lt a.lo = true → K.lt a.hi = true := fun h1 => lt_trans h1 ha'.2.2
        have i6 : K.lt b.lo = true → K.lt b.hi = true := fun h1 => lt_trans h1 hb'.2.2
        have i7 : (if a.lo.lt b.lo = true then b.lo else a.lo).lt (if b.hi.lt a.hi = true then b.hi else a.hi) = true → K.lt (if a.lo.lt b.lo = true then b.lo else a.lo) = true → K.lt (if b.hi.lt a.hi = true then b.hi else a.hi) = true := fun h1 h2 => lt_trans h2 h1
        replace i7 := i7 h3
        clear ha' hb' ha hb hv hm hm' hi h3 vg vl e
        cases e1 : a.lo.lt b.lo <;> cases e2 : b.hi.lt a.hi <;> simp only [e1, e2, hk, if_true, if_false, Bool.false_eq_true, true_implies, false_implies, reduceCtorEq, Bool.true_and] at i1 i2 i3 i4 i7 ⊢ <;>
          (generalize K.lt a.lo = k1 at *; generalize K.lt a.hi = k2 at *; generalize K.lt b.lo = k3 at *; generalize K.lt b.hi = k4 at *; clear e1 e2 hk; revert k1 k2 k3 k4; decide)
    · simp only [if_true, List.countP_cons, List.countP_nil]
      rw [contains_emp hm] at hi
      cases h1 : contains a k <;> cases h2 : contains b k <;> simp_all
  · simp [contains_emp ha]
end Go.Proofs.YtddjhemncniidaaDoor
