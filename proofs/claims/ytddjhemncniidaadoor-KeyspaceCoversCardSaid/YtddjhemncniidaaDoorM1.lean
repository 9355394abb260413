/-
  Plain words on bounds and ranges of keys: no program in sight.
-/
import Derived.WalkKit
namespace Go.Proofs.YtddjhemncniidaaDoor
set_option linter.unusedSimpArgs false
set_option linter.unusedVariables false
open Go.RowKit

structure Bnd where
  key : ByteArray
  top : Bool
structure Rng where
  lo : Bnd
  hi : Bnd

abbrev bl (a b : ByteArray) : Bool := Op.bytesLess a.toList b.toList

theorem bytesLess_irrefl : ∀ l : List UInt8, Op.bytesLess l l = false
  | [] => rfl
  | a :: x => by simp [Op.bytesLess, bytesLess_irrefl x]
theorem bytesLess_asymm : ∀ {a b : List UInt8}, Op.bytesLess a b = true → Op.bytesLess b a = false
  | _, [], h => by simp [Op.bytesLess] at h
  | [], _ :: _, _ => rfl
  | a :: x, b :: y, h => by
    simp only [Op.bytesLess, Bool.or_eq_true, Bool.and_eq_true, decide_eq_true_eq, beq_iff_eq] at h
    rcases h with h | ⟨h, h2⟩
    · simp only [Op.bytesLess, Bool.or_eq_false_iff, decide_eq_false_iff_not, Bool.and_eq_false_iff, beq_eq_false_iff_ne]
      refine ⟨by simp only [UInt8.lt_iff_toNat_lt] at *; omega, Or.inl fun e => ?_⟩
      subst e; simp at h
    · subst h; simp [Op.bytesLess, bytesLess_asymm h2]
theorem bytesLess_trans : ∀ {a b c : List UInt8}, Op.bytesLess a b = true → Op.bytesLess b c = true → Op.bytesLess a c = true
  | _, _, [], _, h => by simp [Op.bytesLess] at h
  | _, [], _ :: _, h, _ => by simp [Op.bytesLess] at h
  | [], _ :: _, _ :: _, _, _ => rfl
  | a :: x, b :: y, c :: z, h, k => by
    simp only [Op.bytesLess, Bool.or_eq_true, Bool.and_eq_true, decide_eq_true_eq, beq_iff_eq] at h k ⊢
    rcases h with h | ⟨rfl, h2⟩
    · rcases k with k | ⟨rfl, k2⟩
      · left; simp only [UInt8.lt_iff_toNat_lt] at *; omega
      · left; exact h
    · rcases k with k | ⟨rfl, k2⟩
      · left; exact k
      · right; exact ⟨rfl, bytesLess_trans h2 k2⟩
theorem bytesLess_total : ∀ {a b : List UInt8}, Op.bytesLess a b = false → Op.bytesLess b a = false → a = b
  | [], [], _, _ => rfl
  | [], _ :: _, h, _ => by simp [Op.bytesLess] at h
  | _ :: _, [], _, h => by simp [Op.bytesLess] at h
  | a :: x, b :: y, h, k => by
    simp only [Op.bytesLess, Bool.or_eq_false_iff, decide_eq_false_iff_not, Bool.and_eq_false_iff, beq_eq_false_iff_ne] at h k
    have e : a = b := by
      apply UInt8.toNat_inj.1
      have h1 := h.1; have k1 := k.1
      simp only [UInt8.lt_iff_toNat_lt] at h1 k1; omega
    subst e
    have h2 := h.2.resolve_left (fun h => h rfl)
    have k2 := k.2.resolve_left (fun h => h rfl)
    rw [bytesLess_total h2 k2]

def Bnd.lt (a b : Bnd) : Bool := !a.top && (b.top || Op.bytesLess a.key.toList b.key.toList)
def cmp (a b : Bnd) : Int := if a.lt b then -1 else if b.lt a then 1 else 0
def vk (k : ByteArray) : Bool := decide (k.size ≤ 64)
def vb (b : Bnd) : Bool := vk b.key && (!b.top || b.key.toList.isEmpty)
def vld (r : Rng) : Bool := vb r.lo && vb r.hi && decide (cmp r.lo r.hi ≤ 0)
def emp (r : Rng) : Bool := !vld r || cmp r.lo r.hi == 0
def contains (r : Rng) (k : ByteArray) : Bool := !emp r && vk k && decide (cmp r.lo ⟨k, false⟩ ≤ 0) && decide (cmp ⟨k, false⟩ r.hi < 0)

theorem cmp_self (a : Bnd) : cmp a a = 0 := by
  have : a.lt a = false := by simp [Bnd.lt, bytesLess_irrefl]
  simp [cmp, this]
theorem lt_asymm {a b : Bnd} (h : a.lt b = true) : b.lt a = false := by
  simp only [Bnd.lt, Bool.and_eq_true, Bool.or_eq_true, Bool.not_eq_true'] at h
  obtain ⟨h1, h2⟩ := h
  rcases h2 with h2 | h2
  · simp [Bnd.lt, h2]
  · simp [Bnd.lt, h1, bytesLess_asymm h2]
theorem cmp_neg (a b : Bnd) : cmp a b < 0 ↔ a.lt b = true := by
  unfold cmp; split
  · simp [*]
  · split <;> simp [*]
theorem cmp_pos (a b : Bnd) : 0 < cmp a b ↔ b.lt a = true := by
  unfold cmp; split
  · rename_i h; simp [lt_asymm h]
  · split <;> simp [*]
theorem cmp_eq0 (a b : Bnd) : cmp a b = 0 ↔ a.lt b = false ∧ b.lt a = false := by
  unfold cmp; split
  · simp [*]
  · split <;> simp [*]
theorem cmp_rng (a b : Bnd) : cmp a b = -1 ∨ cmp a b = 0 ∨ cmp a b = 1 := by
  unfold cmp; split
  · simp
  · split <;> simp
theorem cmp_swap (a b : Bnd) : cmp b a = - cmp a b := by
  unfold cmp
  cases h : a.lt b
  · cases k : b.lt a <;> simp
  · simp [lt_asymm h]

def adj (a b : Rng) : Bool := !emp a && !emp b && cmp a.hi b.lo == 0
def greater (a b : Bnd) : Bnd := if cmp b a > 0 then b else a
def lesser (a b : Bnd) : Bnd := if cmp b a < 0 then b else a
def greatest (a b : Bnd) : Bnd := if cmp a b ≥ 0 then a else b
def least (a b : Bnd) : Bnd := if cmp a b ≤ 0 then a else b
theorem greatest_eq (a b : Bnd) : greatest a b = greater a b := by
  unfold greatest greater; rw [cmp_swap a b]; split <;> split <;> first | rfl | omega
theorem least_eq (a b : Bnd) : least a b = lesser a b := by
  unfold least lesser; rw [cmp_swap a b]; split <;> split <;> first | rfl | omega

def zb : Bnd := ⟨⟨#[]⟩, false⟩
def zr : Rng := ⟨zb, zb⟩
def isect (a b : Rng) : Rng := if emp a || emp b || emp ⟨greater a.lo b.lo, lesser a.hi b.hi⟩ then zr else ⟨greater a.lo b.lo, lesser a.hi b.hi⟩
def hull (a b : Rng) : Rng := if emp a && emp b then zr else if emp a then b else if emp b then a else ⟨lesser a.lo b.lo, greater a.hi b.hi⟩
def proper (r : Rng) : Rng := if emp r then zr else r

end Go.Proofs.YtddjhemncniidaaDoor
