/-
  Plain laws of a prefix: the range of the keys that begin with it.
-/
import Derived.Test.YtddjhemncniidaaDoorM3
namespace Go.Proofs.YtddjhemncniidaaDoor
set_option linter.unusedSimpArgs false
set_option linter.unusedVariables false
open Go.RowKit

/-- The least list of bytes behind all that begin with the given one. -/
def upl : List UInt8 → Option (List UInt8)
  | [] => none
  | x :: r => match upl r with
    | some r' => some (x :: r')
    | none => if x = 255 then none else some [x + 1]

theorem upl_255 : ∀ q : List UInt8, upl (q ++ [255]) = upl q
  | [] => rfl
  | x :: r => by rw [List.cons_append, upl, upl, upl_255 r]
theorem upl_last (q : List UInt8) {x : UInt8} (hx : x ≠ 255) : upl (q ++ [x]) = some (q ++ [x + 1]) := by
  induction q with
  | nil => simp [upl, hx]
  | cons y r ih => rw [List.cons_append, upl, ih]; rfl

theorem u8_succ {x y : UInt8} (hx : x ≠ 255) : (y < x + 1) = (y ≤ x) := by
  have h : x.toNat < 255 := by
    have := x.toNat_lt
    have : x.toNat ≠ 255 := fun e => hx (UInt8.toNat_inj.1 (by simpa using e))
    omega
  rw [UInt8.lt_iff_toNat_lt, UInt8.le_iff_toNat_le, UInt8.toNat_add]
  simp only [UInt8.toNat_one, eq_iff_iff]
  rw [Nat.mod_eq_of_lt (by omega)]; omega

theorem upl_prefix : ∀ p k : List UInt8, (Op.bytesLess k p = false ∧ ∀ u, upl p = some u → Op.bytesLess k u = true) ↔ p.isPrefixOf k = true
  | [], k => by simp [upl, Op.bytesLess]
  | x :: r, [] => by simp [Op.bytesLess]
  | x :: r, y :: s => by
    have ih := upl_prefix r s
    rw [List.isPrefixOf_cons_cons, Bool.and_eq_true, ← ih, upl]
    simp only [Op.bytesLess, Bool.or_eq_false_iff, decide_eq_false_iff_not, Bool.and_eq_false_iff, beq_eq_false_iff_ne, beq_iff_eq]
    cases hu : upl r with
    | some r' =>
      simp only [Option.some.injEq, forall_eq', Op.bytesLess, Bool.or_eq_true, decide_eq_true_eq, Bool.and_eq_true, beq_iff_eq, UInt8.lt_iff_toNat_lt]
      constructor
      · rintro ⟨⟨h1, h2⟩, h3⟩
        have e : x = y := by apply UInt8.toNat_inj.1; rcases h3 with h3 | ⟨h3, -⟩ <;> first | omega | (rw [h3])
        subst e
        exact ⟨rfl, h2.resolve_left (fun h => h rfl), (h3.resolve_left (by omega)).2⟩
      · rintro ⟨rfl, h2, h3⟩
        exact ⟨⟨by omega, Or.inr h2⟩, Or.inr ⟨rfl, h3⟩⟩
    | none =>
      by_cases hx : x = 255
      · subst hx
        simp only [if_pos]
        constructor
        · rintro ⟨⟨h1, h2⟩, -⟩
          have e : 255 = y := by
            apply UInt8.toNat_inj.1
            have := y.toNat_lt
            simp only [UInt8.lt_iff_toNat_lt] at h1
            have : (255 : UInt8).toNat = 255 := rfl
            omega
          subst e
          exact ⟨rfl, h2.resolve_left (fun h => h rfl), fun _ h => by cases h⟩
        · rintro ⟨rfl, h2, -⟩
          exact ⟨⟨by simp, Or.inr h2⟩, fun _ h => by cases h⟩
      · rw [if_neg hx]
        simp only [Option.some.injEq, forall_eq', Op.bytesLess, Bool.or_eq_true, decide_eq_true_eq, Bool.and_false, Bool.false_eq_true, or_false, u8_succ hx]
        constructor
        · rintro ⟨⟨h1, h2⟩, h3⟩
          have e : x = y := by
            apply UInt8.toNat_inj.1
            simp only [UInt8.lt_iff_toNat_lt, UInt8.le_iff_toNat_le] at h1 h3
            omega
          subst e
          exact ⟨rfl, h2.resolve_left (fun h => h rfl), fun _ h => by cases h⟩
        · rintro ⟨rfl, h2, -⟩
          exact ⟨⟨by simp, Or.inr h2⟩, by simp⟩

def upb (p : ByteArray) : Bnd := match upl p.toList with
  | some u => ⟨⟨u.toArray⟩, false⟩
  | none => ⟨⟨#[]⟩, true⟩
def pfx (p : ByteArray) : Rng := if vk p then ⟨⟨p, false⟩, upb p⟩ else zr

theorem toList_mk (u : List UInt8) : (⟨u.toArray⟩ : ByteArray).toList = u := by rw [ByteArray.toList_eq]
theorem len_toList (p : ByteArray) : p.toList.length = p.size := by rw [ByteArray.toList_eq]; exact Array.length_toList
theorem upl_len : ∀ (p u : List UInt8), upl p = some u → u.length ≤ p.length
  | [], _, h => by cases h
  | x :: r, u, h => by
    rw [upl] at h
    cases hu : upl r with
    | some r' => rw [hu] at h; cases h; have := upl_len r r' hu; simp; omega
    | none =>
      rw [hu] at h; simp only at h
      split at h
      · cases h
      · cases h; simp
theorem upb_vb {p : ByteArray} (h : vk p = true) : vb (upb p) = true := by
  unfold upb
  simp only [vk, decide_eq_true_eq] at h
  cases hu : upl p.toList with
  | none => simp only [vb]; rw [ByteArray.toList_eq]; rfl
  | some u =>
    have := upl_len _ _ hu
    rw [len_toList] at this
    simp only [vb, vk, Bool.not_false, Bool.true_or, Bool.and_true, decide_eq_true_eq]
    show (⟨u.toArray⟩ : ByteArray).size ≤ 64
    rw [← len_toList, toList_mk]; omega
theorem lt_upb (k p : ByteArray) : Bnd.lt ⟨k, false⟩ (upb p) = true ↔ ∀ u, upl p.toList = some u → Op.bytesLess k.toList u = true := by
  unfold upb
  cases hu : upl p.toList with
  | none => simp [Bnd.lt]
  | some u => simp [Bnd.lt]
theorem prefix_self (l : List UInt8) : l.isPrefixOf l = true := by simp
theorem emp_pfx {p : ByteArray} (h : vk p = true) : emp (pfx p) = false := by
  have vl : vb ⟨p, false⟩ = true := by simp [vb, h]
  rw [pfx, if_pos h, emp_mk vl (upb_vb h), (lt_upb p p).2 ((upl_prefix _ _).2 (prefix_self p.toList)).2]; rfl
theorem contains_pfx {p k : ByteArray} (h : vk p = true) : contains (pfx p) k = (p.toList.isPrefixOf k.toList && vk k) := by
  rw [contains, emp_pfx h, pfx, if_pos h]
  have e := upl_prefix p.toList k.toList
  have c1 := cmp_pos ⟨p, false⟩ ⟨k, false⟩
  have c2 := cmp_neg ⟨k, false⟩ (upb p)
  rw [lt_upb] at c2
  simp only [Bnd.lt, Bool.not_false, Bool.false_or, Bool.true_and] at c1
  rw [Bool.eq_iff_iff]
  simp only [Bool.and_eq_true, decide_eq_true_eq, Bool.not_false, true_and]
  rw [← e, c2]
  constructor
  · rintro ⟨⟨a, b⟩, c⟩
    refine ⟨⟨?_, c⟩, a⟩
    cases hh : Op.bytesLess k.toList p.toList with
    | false => rfl
    | true => have := c1.2 hh; omega
  · rintro ⟨⟨a, c⟩, b⟩
    refine ⟨⟨b, ?_⟩, c⟩
    have : ¬ (0 < cmp ⟨p, false⟩ ⟨k, false⟩) := fun g => by rw [c1.1 g] at a; cases a
    omega

theorem less_append : ∀ (p s : List UInt8), Op.bytesLess (p ++ s) p = false
  | [], _ => by simp [Op.bytesLess]
  | x :: r, s => by simp [Op.bytesLess, less_append r s]
/-- The upper end of a longer prefix does not lie behind that of the shorter one. -/
theorem upl_append : ∀ (p s : List UInt8), ∀ u, upl p = some u → ∃ v, upl (p ++ s) = some v ∧ Op.bytesLess u v = false
  | [], _, _, h => by cases h
  | x :: r, s, u, h => by
    rw [upl] at h
    rw [List.cons_append, upl]
    cases hu : upl r with
    | some r' =>
      rw [hu] at h; cases h
      obtain ⟨v, hv, hl⟩ := upl_append r s r' hu
      exact ⟨x :: v, by rw [hv], by simp [Op.bytesLess, hl]⟩
    | none =>
      rw [hu] at h; simp only at h
      split at h
      · cases h
      · rename_i hx
        cases h
        cases hv : upl (r ++ s) with
        | none => exact ⟨[x + 1], by simp [hx], by simp [Op.bytesLess]⟩
        | some w =>
          refine ⟨x :: w, rfl, ?_⟩
          have : x < x + 1 := by rw [u8_succ hx]; simp
          simp only [Op.bytesLess, Bool.or_eq_false_iff, decide_eq_false_iff_not, Bool.and_eq_false_iff, beq_eq_false_iff_ne]
          simp only [UInt8.lt_iff_toNat_lt] at *
          exact ⟨by omega, Or.inl fun e => by rw [e] at this; omega⟩
theorem upb_le {p e : ByteArray} {s : List UInt8} (he : e.toList = p.toList ++ s) : Bnd.lt (upb p) (upb e) = false := by
  unfold upb
  cases hu : upl p.toList with
  | none => rfl
  | some u =>
    obtain ⟨v, hv, hl⟩ := upl_append p.toList s u hu
    rw [he, hv]
    simp [Bnd.lt, hl]
theorem isect_pfx {p e : ByteArray} {s : List UInt8} (hp : vk p = true) (hv : vk e = true) (he : e.toList = p.toList ++ s) : isect (pfx p) (pfx e) = pfx e := by
  have h3 := ((emp_iff (pfx e)).1 (emp_pfx hv)).2.2
  rw [isect_ne (emp_pfx hp) (emp_pfx hv), greater_if, lesser_if]
  rw [pfx, pfx, if_pos hp, if_pos hv] at *
  have e1 : Bnd.lt ⟨e, false⟩ ⟨p, false⟩ = false := by simp [Bnd.lt, he, less_append]
  simp only
  have g : (if Bnd.lt ⟨p, false⟩ ⟨e, false⟩ then (⟨e, false⟩ : Bnd) else ⟨p, false⟩) = ⟨e, false⟩ := by
    cases hh : Bnd.lt ⟨p, false⟩ ⟨e, false⟩
    · rw [if_neg (by simp)]
      exact lt_total (by simp [vb, hp]) (by simp [vb, hv]) hh e1
    · rw [if_pos rfl]
  have l : (if (upb e).lt (upb p) then upb e else upb p) = upb e := by
    cases hh : (upb e).lt (upb p)
    · rw [if_neg (by simp)]
      exact lt_total (upb_vb hp) (upb_vb hv) (upb_le he) hh
    · rw [if_pos rfl]
  rw [g, l, if_pos h3]
end Go.Proofs.YtddjhemncniidaaDoor
