/-
  Plain laws of bounds and ranges: a linear order, meets and joins.
-/
import Derived.Test.YtddjhemncniidaaDoorM1
namespace Go.Proofs.YtddjhemncniidaaDoor
set_option linter.unusedSimpArgs false
set_option linter.unusedVariables false
open Go.RowKit

theorem ba_eq {a b : ByteArray} (h : a.toList = b.toList) : a = b := by
  rw [ByteArray.toList_eq, ByteArray.toList_eq] at h
  apply ByteArray.ext
  exact Array.ext' h
theorem lt_irrefl (a : Bnd) : a.lt a = false := by simp [Bnd.lt, bytesLess_irrefl]
theorem lt_trans {a b c : Bnd} (h : a.lt b = true) (k : b.lt c = true) : a.lt c = true := by
  simp only [Bnd.lt, Bool.and_eq_true, Bool.or_eq_true, Bool.not_eq_true'] at *
  obtain ⟨h1, h2⟩ := h
  obtain ⟨k1, k2⟩ := k
  refine ⟨h1, ?_⟩
  rcases h2 with h2 | h2
  · rw [k1] at h2; cases h2
  · rcases k2 with k2 | k2
    · exact Or.inl k2
    · exact Or.inr (bytesLess_trans h2 k2)
theorem lt_total {a b : Bnd} (ha : vb a = true) (hb : vb b = true) (h : a.lt b = false) (k : b.lt a = false) : a = b := by
  obtain ⟨ak, at'⟩ := a
  obtain ⟨bk, bt⟩ := b
  simp only [vb, Bool.and_eq_true, Bool.or_eq_true, Bool.not_eq_true'] at ha hb
  simp only [Bnd.lt, Bool.and_eq_false_iff, Bool.not_eq_false', Bool.or_eq_false_iff] at h k
  cases at' <;> cases bt <;> simp at h k ha hb
  · have := bytesLess_total h k; rw [ba_eq this]
  · rw [ba_eq (ha.2.trans hb.2.symm)]
theorem emp_iff (r : Rng) : emp r = false ↔ vb r.lo = true ∧ vb r.hi = true ∧ r.lo.lt r.hi = true := by
  simp only [emp, vld, Bool.or_eq_false_iff, Bool.not_eq_false', Bool.and_eq_true, decide_eq_true_eq, beq_eq_false_iff_ne]
  have h1 := cmp_neg r.lo r.hi; have h2 := cmp_rng r.lo r.hi
  constructor
  · rintro ⟨⟨⟨a, b⟩, c⟩, d⟩; exact ⟨a, b, h1.1 (by omega)⟩
  · rintro ⟨a, b, c⟩; have := h1.2 c; exact ⟨⟨⟨a, b⟩, by omega⟩, by omega⟩
theorem greater_if (a b : Bnd) : greater a b = if a.lt b then b else a := by
  unfold greater; have := cmp_pos b a
  by_cases h : a.lt b = true
  · rw [if_pos (this.2 h), if_pos h]
  · rw [if_neg (fun e => h (this.1 e)), if_neg h]
theorem lesser_if (a b : Bnd) : lesser a b = if b.lt a then b else a := by
  unfold lesser; have := cmp_neg b a
  by_cases h : b.lt a = true
  · rw [if_pos (this.2 h), if_pos h]
  · rw [if_neg (fun e => h (this.1 e)), if_neg h]

theorem greater_vb {a b : Bnd} (ha : vb a = true) (hb : vb b = true) : vb (greater a b) = true := by rw [greater_if]; split <;> assumption
theorem lesser_vb {a b : Bnd} (ha : vb a = true) (hb : vb b = true) : vb (lesser a b) = true := by rw [lesser_if]; split <;> assumption
theorem greater_comm {a b : Bnd} (ha : vb a = true) (hb : vb b = true) : greater a b = greater b a := by
  rw [greater_if, greater_if]; grind [lt_asymm, lt_total]
theorem lesser_comm {a b : Bnd} (ha : vb a = true) (hb : vb b = true) : lesser a b = lesser b a := by
  rw [lesser_if, lesser_if]; grind [lt_asymm, lt_total]
theorem greater_assoc {a b c : Bnd} (ha : vb a = true) (hb : vb b = true) (hc : vb c = true) : greater (greater a b) c = greater a (greater b c) := by
  simp only [greater_if]; grind [lt_asymm, lt_total, lt_trans]
theorem lesser_assoc {a b c : Bnd} (ha : vb a = true) (hb : vb b = true) (hc : vb c = true) : lesser (lesser a b) c = lesser a (lesser b c) := by
  simp only [lesser_if]; grind [lt_asymm, lt_total, lt_trans]
theorem greater_self (a : Bnd) : greater a a = a := by rw [greater_if]; split <;> rfl
theorem lesser_self (a : Bnd) : lesser a a = a := by rw [lesser_if]; split <;> rfl
theorem greater_lesser (a b : Bnd) : greater a (lesser a b) = a := by simp only [greater_if, lesser_if]; grind [lt_asymm]
theorem lesser_greater (a b : Bnd) : lesser a (greater a b) = a := by simp only [greater_if, lesser_if]; grind [lt_asymm]
theorem le_lt {a b c : Bnd} (ha : vb a = true) (hb : vb b = true) (h : a.lt b = false) (k : a.lt c = true) : b.lt c = true := by grind [lt_total, lt_trans]
theorem lt_le {a b c : Bnd} (hb : vb b = true) (hc : vb c = true) (h : a.lt b = true) (k : c.lt b = false) : a.lt c = true := by grind [lt_total, lt_trans]
theorem emp_zr : emp zr = true := by kernel_rfl
theorem emp_mk {x y : Bnd} (hx : vb x = true) (hy : vb y = true) : emp ⟨x, y⟩ = !x.lt y := by
  cases h : x.lt y
  · cases e : emp ⟨x, y⟩ with
    | true => rfl
    | false => have := ((emp_iff _).1 e).2.2; rw [h] at this; cases this
  · exact (emp_iff _).2 ⟨hx, hy, h⟩
theorem isect_ne {a b : Rng} (ha : emp a = false) (hb : emp b = false) : isect a b = if (greater a.lo b.lo).lt (lesser a.hi b.hi) then ⟨greater a.lo b.lo, lesser a.hi b.hi⟩ else zr := by
  have ha' := (emp_iff a).1 ha
  have hb' := (emp_iff b).1 hb
  rw [isect, ha, hb, emp_mk (greater_vb ha'.1 hb'.1) (lesser_vb ha'.2.1 hb'.2.1)]
  cases (greater a.lo b.lo).lt (lesser a.hi b.hi) <;> rfl
theorem isect_el {a b : Rng} (h : emp a = true) : isect a b = zr := by simp [isect, h]
theorem isect_er {a b : Rng} (h : emp b = true) : isect a b = zr := by simp [isect, h]
theorem isect_zr (c : Rng) : isect zr c = zr := by simp [isect, emp_zr]
theorem isect_zr' (c : Rng) : isect c zr = zr := by simp [isect, emp_zr]
theorem isect_comm {a b : Rng} (ha : emp a = false) (hb : emp b = false) : isect a b = isect b a := by
  have ha' := (emp_iff a).1 ha
  have hb' := (emp_iff b).1 hb
  rw [isect_ne ha hb, isect_ne hb ha, greater_comm ha'.1 hb'.1, lesser_comm ha'.2.1 hb'.2.1]
theorem isect_left {a b c : Rng} (ha : emp a = false) (hb : emp b = false) (hc : emp c = false) :
    isect (isect a b) c = if (greater (greater a.lo b.lo) c.lo).lt (lesser (lesser a.hi b.hi) c.hi) then ⟨greater (greater a.lo b.lo) c.lo, lesser (lesser a.hi b.hi) c.hi⟩ else zr := by
  have ha' := (emp_iff a).1 ha
  have hb' := (emp_iff b).1 hb
  have hc' := (emp_iff c).1 hc
  have vg := greater_vb ha'.1 hb'.1
  have vl := lesser_vb ha'.2.1 hb'.2.1
  rw [isect_ne ha hb]
  cases h : (greater a.lo b.lo).lt (lesser a.hi b.hi)
  · rw [if_neg (by simp), isect_zr, if_neg]
    simp only [Bool.not_eq_true]
    rw [greater_if (greater a.lo b.lo), lesser_if (lesser a.hi b.hi)]
    grind [lt_total, lt_trans, lt_asymm, lt_irrefl]
  · rw [if_pos rfl, isect_ne (by rw [emp_mk vg vl, h]; rfl) hc]
theorem isect_assoc {a b c : Rng} (ha : emp a = false) (hb : emp b = false) (hc : emp c = false) : isect (isect a b) c = isect a (isect b c) := by
  have ha' := (emp_iff a).1 ha
  have hb' := (emp_iff b).1 hb
  have hc' := (emp_iff c).1 hc
  have e : isect a (isect b c) = isect (isect b c) a := by
    cases h : emp (isect b c)
    · exact isect_comm ha h
    · rw [isect_er h, isect_el h]
  rw [e, isect_left ha hb hc, isect_left hb hc ha, greater_assoc ha'.1 hb'.1 hc'.1, lesser_assoc ha'.2.1 hb'.2.1 hc'.2.1,
    greater_comm ha'.1 (greater_vb hb'.1 hc'.1), lesser_comm ha'.2.1 (lesser_vb hb'.2.1 hc'.2.1)]
theorem isect_self {a : Rng} (ha : emp a = false) : isect a a = a := by
  have ha' := (emp_iff a).1 ha
  rw [isect_ne ha ha, greater_self, lesser_self, if_pos ha'.2.2]
theorem hull_ne {a b : Rng} (ha : emp a = false) (hb : emp b = false) : hull a b = ⟨lesser a.lo b.lo, greater a.hi b.hi⟩ := by simp [hull, ha, hb]
theorem emp_hull {a b : Rng} (ha : emp a = false) (hb : emp b = false) : emp (hull a b) = false := by
  have ha' := (emp_iff a).1 ha
  have hb' := (emp_iff b).1 hb
  rw [hull_ne ha hb, emp_mk (lesser_vb ha'.1 hb'.1) (greater_vb ha'.2.1 hb'.2.1), lesser_if, greater_if]
  grind [lt_total, lt_trans, lt_asymm, lt_irrefl]
theorem hull_comm {a b : Rng} (ha : emp a = false) (hb : emp b = false) : hull a b = hull b a := by
  have ha' := (emp_iff a).1 ha
  have hb' := (emp_iff b).1 hb
  rw [hull_ne ha hb, hull_ne hb ha, greater_comm ha'.2.1 hb'.2.1, lesser_comm ha'.1 hb'.1]
theorem hull_assoc {a b c : Rng} (ha : emp a = false) (hb : emp b = false) (hc : emp c = false) : hull (hull a b) c = hull a (hull b c) := by
  have ha' := (emp_iff a).1 ha
  have hb' := (emp_iff b).1 hb
  have hc' := (emp_iff c).1 hc
  rw [hull_ne (emp_hull ha hb) hc, hull_ne ha (emp_hull hb hc), hull_ne ha hb, hull_ne hb hc]
  simp only
  rw [lesser_assoc ha'.1 hb'.1 hc'.1, greater_assoc ha'.2.1 hb'.2.1 hc'.2.1]
theorem hull_self {a : Rng} (ha : emp a = false) : hull a a = a := by rw [hull_ne ha ha, lesser_self, greater_self]
theorem isect_hull {a b : Rng} (ha : emp a = false) (hb : emp b = false) : isect a (hull a b) = a := by
  have ha' := (emp_iff a).1 ha
  rw [isect_ne ha (emp_hull ha hb), hull_ne ha hb]
  simp only
  rw [greater_lesser, lesser_greater, if_pos ha'.2.2]
theorem hull_isect {a b : Rng} (ha : emp a = false) (hb : emp b = false) : hull a (isect a b) = a := by
  have ha' := (emp_iff a).1 ha
  have hb' := (emp_iff b).1 hb
  rw [isect_ne ha hb]
  cases h : (greater a.lo b.lo).lt (lesser a.hi b.hi)
  · rw [if_neg (by simp)]; simp [hull, ha, emp_zr]
  · rw [if_pos rfl, hull_ne ha (by rw [emp_mk (greater_vb ha'.1 hb'.1) (lesser_vb ha'.2.1 hb'.2.1), h]; rfl)]
    simp only
    rw [lesser_greater, greater_lesser]
end Go.Proofs.YtddjhemncniidaaDoor
