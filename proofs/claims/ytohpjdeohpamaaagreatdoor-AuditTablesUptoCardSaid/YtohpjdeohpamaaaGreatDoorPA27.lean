/-
  Lemmas: Plain laws of the models
-/
import Derived.Test.YtohpjdeohpamaaaGreatDoorPA18
import Derived.Test.YtohpjdeohpamaaaGreatDoorPA22
import Derived.Test.YtohpjdeohpamaaaGreatDoorPA26
import Derived.Test.YtohpjdeohpamaaaGreatDoorPA9
import Derived.Test.YtohpjdeohpamaaaGreatDoorPA12
import Derived.Test.YtohpjdeohpamaaaGreatDoorPA20
import Derived.Test.YtohpjdeohpamaaaGreatDoorPA23
import Derived.Test.YtohpjdeohpamaaaGreatDoorPA21
import Derived.Test.YtohpjdeohpamaaaGreatDoorPA24
import Derived.Test.YtohpjdeohpamaaaGreatDoorPA25
set_option linter.unusedSimpArgs false
set_option linter.unusedVariables false
namespace Go.Proofs.YtohpjdeohpamaaaGreatDoor
open Go.RowKit
def vwr (w : TWrite) : Bool := vk w.Key && decide (w.Value.size ≤ 64) && (!w.Delete || decide (w.Value = ⟨#[]⟩))
theorem eq_ref20_ValidWrite (w : TWrite) : Mref20_ValidWrite w = vwr w := by
  unfold Mref20_ValidWrite
  simp only [bnd_eq, eq_ref1_ValidKey, vwr]
  have : decide ((w.Value.size : Int) ≤ 64) = decide (w.Value.size ≤ 64) := by congr 1; simp; omega
  rw [this]
  cases vk w.Key <;> cases decide (w.Value.size ≤ 64) <;> cases w.Delete <;> rfl
theorem bl_irr (k : ByteArray) : bl k k = false := bytesLess_irrefl _
theorem part_at (k : ByteArray) : ∀ {t : List Kv}, t.Pairwise (fun a b => bl a.key b.key = true) → ∃ A B, t = A ++ B ∧ (∀ r ∈ A, bl r.key k = true) ∧ ∀ r ∈ B, bl r.key k = false
  | [], _ => ⟨[], [], rfl, by simp, by simp⟩
  | r :: t, h => by
    rw [List.pairwise_cons] at h
    cases hb : bl r.key k with
    | true =>
      obtain ⟨A, B, rfl, hA, hB⟩ := part_at k h.2
      exact ⟨r :: A, B, rfl, fun x hx => by rcases List.mem_cons.1 hx with rfl | hx; exact hb; exact hA x hx, hB⟩
    | false =>
      refine ⟨[], r :: t, rfl, by simp, fun x hx => ?_⟩
      rcases List.mem_cons.1 hx with rfl | hx
      · exact hb
      · cases hc : bl x.key k with
        | false => rfl
        | true => rw [show bl r.key k = true from bytesLess_trans (h.1 x hx) hc] at hb; cases hb
def aplW (t : List Kv) (w : TWrite) : List Kv × Int := if vwr w = true then (if w.Delete = true then (wthout w.Key t, 0) else put ⟨w.Key, w.Value⟩ t) else ([], 1)
def actl : List TWrite → List Kv → Ctl (List Kv × Int) (List Kv)
  | [], t => .nxt t
  | w :: ws, t => if (aplW t w).2 = 0 then actl ws (aplW t w).1 else .ret ([], (aplW t w).2)
def applyW (t : List Kv) (l : List TWrite) : List Kv × Int := if tvalid t = true then (match actl l t with | .nxt t' => (t', 0) | .ret r => r) else ([], 1)
theorem bl_ne {a b : ByteArray} (h : bl a b = true) : a ≠ b := fun e => by subst e; rw [bl_irr] at h; cases h
theorem bl_asymm {a b : ByteArray} (h : bl a b = true) : bl b a = false := by
  cases h2 : bl b a with
  | false => rfl
  | true => have : bl a a = true := bytesLess_trans h h2; rw [bl_irr] at this; cases this
theorem ba_of {a b : ByteArray} (h : a.toList = b.toList) : a = b := by
  have h4 := ba_eqE a b
  simp only [h, BEq.rfl] at h4
  exact of_decide_eq_true h4.symm
theorem bl_tri {a b : ByteArray} (h : bl a b = false) : a = b ∨ bl b a = true := by
  cases h2 : bl b a with
  | true => exact .inr rfl
  | false => exact .inl (ba_of (bytesLess_total h h2))
structure Parts (k : ByteArray) (t A : List Kv) (b : Option Kv) (C : List Kv) : Prop where
  eq : t = A ++ (b.toList ++ C)
  lo : ∀ r ∈ A, bl r.key k = true
  mid : ∀ r, b = some r → r.key = k
  hi : ∀ r ∈ C, bl k r.key = true
theorem parts (k : ByteArray) {t : List Kv} (h : t.Pairwise (fun a b => bl a.key b.key = true)) : ∃ A b C, Parts k t A b C := by
  obtain ⟨A, B, rfl, hA, hB⟩ := part_at k h
  have hBp := (List.pairwise_append.1 h).2.1
  cases B with
  | nil => exact ⟨A, none, [], by simp, hA, by simp, by simp⟩
  | cons b C =>
    rw [List.pairwise_cons] at hBp
    rcases bl_tri (hB b List.mem_cons_self) with e | e
    · exact ⟨A, some b, C, rfl, hA, fun r hr => by cases hr; exact e, fun r hr => by rw [← e]; exact hBp.1 r hr⟩
    · refine ⟨A, none, b :: C, by simp, hA, by simp, fun r hr => ?_⟩
      rcases List.mem_cons.1 hr with rfl | hr
      · exact e
      · exact bytesLess_trans e (hBp.1 r hr)
section
variable {k : ByteArray} {t A C : List Kv} {b : Option Kv}
theorem Parts.without (h : Parts k t A b C) : wthout k t = A ++ C := by
  have hA : A.filter (fun r => !decide (r.key = k)) = A := List.filter_eq_self.2 fun r hr => by simp [bl_ne (h.lo r hr)]
  have hC : C.filter (fun r => !decide (r.key = k)) = C := List.filter_eq_self.2 fun r hr => by simp [(bl_ne (h.hi r hr)).symm]
  have hb : b.toList.filter (fun r => !decide (r.key = k)) = [] := by
    cases b with
    | none => rfl
    | some r => simp [h.mid r rfl]
  rw [h.eq, wthout, List.filter_append, List.filter_append, hA, hb, hC, List.nil_append]
theorem ins_at (x : Kv) : ∀ (A : List Kv), (∀ r ∈ A, bl r.key x.key = true) → (∀ r ∈ C, bl x.key r.key = true) → ins x (A ++ C) = A ++ x :: C
  | [], _, hC => by
    cases C with
    | nil => rfl
    | cons c C => simp [ins, hC c List.mem_cons_self]
  | a :: A, hA, hC => by
    have := bl_asymm (hA a List.mem_cons_self)
    simp only [List.cons_append, ins, this]
    rw [ins_at x A (fun r hr => hA r (List.mem_cons_of_mem _ hr)) hC]
    rfl
theorem Parts.wth (h : Parts k t A b C) (v : ByteArray) : Go.Proofs.YtohpjdeohpamaaaGreatDoor.wth ⟨k, v⟩ t = A ++ ⟨k, v⟩ :: C := by
  rw [Go.Proofs.YtohpjdeohpamaaaGreatDoor.wth, show (⟨k, v⟩ : Kv).key = k from rfl, h.without, ins_at ⟨k, v⟩ A h.lo h.hi]
theorem Parts.len (h : Parts k t A b C) : t.length = A.length + (b.toList.length + C.length) := by rw [h.eq]; simp
theorem Parts.valid (h : Parts k t A b C) (ht : tvalid t = true) : tvalid (A ++ C) = true := by
  rw [← h.without]
  rw [tvalid_iff] at ht ⊢
  exact ⟨Nat.le_trans (List.length_filter_le _ _) ht.1, fun r hr => ht.2.1 r (List.mem_filter.1 hr).1, List.Pairwise.filter _ ht.2.2⟩
theorem Parts.validx (h : Parts k t A b C) (ht : tvalid t = true) {v : ByteArray} (hv : vrow ⟨k, v⟩ = true) (hl : A.length + C.length < 1024) : tvalid (A ++ ⟨k, v⟩ :: C) = true := by
  have h1 := h.valid ht
  rw [tvalid_iff] at h1 ⊢
  obtain ⟨-, g1, g2⟩ := h1
  rw [List.pairwise_append] at g2
  refine ⟨by simp; omega, fun r hr => ?_, ?_⟩
  · rcases List.mem_append.1 hr with hr | hr
    · exact g1 r (List.mem_append_left _ hr)
    · rcases List.mem_cons.1 hr with rfl | hr
      · exact hv
      · exact g1 r (List.mem_append_right _ hr)
  · rw [List.pairwise_append, List.pairwise_cons]
    refine ⟨g2.1, ⟨h.hi, g2.2.1⟩, fun a ha c hc => ?_⟩
    rcases List.mem_cons.1 hc with rfl | hc
    · exact h.lo a ha
    · exact g2.2.2 a ha c hc
end
theorem vwr_row {w : TWrite} (h : vwr w = true) : vrow ⟨w.Key, w.Value⟩ = true := by
  simp only [vwr, Bool.and_eq_true] at h
  simp [vrow, h.1.1, of_decide_eq_true h.1.2]
theorem aplW_valid {t : List Kv} {w : TWrite} (ht : tvalid t = true) (h : (aplW t w).2 = 0) : tvalid (aplW t w).1 = true := by
  obtain ⟨A, b, C, hp⟩ := parts w.Key ((tvalid_iff t).1 ht).2.2
  unfold aplW at h ⊢
  by_cases hw : vwr w = true
  · rw [if_pos hw] at h ⊢
    by_cases hd : w.Delete = true
    · rw [if_pos hd] at h ⊢
      simp only [hp.without]; exact hp.valid ht
    · rw [if_neg hd] at h ⊢
      simp only [put, ht, vwr_row hw, Bool.and_self, if_true, hp.wth] at h ⊢
      split at h
      · cases h
      · rename_i hl
        rw [if_neg hl]
        exact hp.validx ht (vwr_row hw) (by simp at hl; omega)
  · rw [if_neg hw] at h; cases h
theorem ref20_Do (t : List Kv) (w : TWrite) (ht : tvalid t = true) : Mref20_Do t w = some (aplW t w) := by
  have hl := ((tvalid_iff t).1 ht).1
  unfold Mref20_Do aplW
  rw [bnd_eq, eq_ref20_ValidWrite]
  cases vwr w with
  | false => rfl
  | true =>
    simp only [Bool.not_true, sel_false, if_true]
    cases w.Delete with
    | true => simp only [sel_true, if_true]; rw [eq_ref20_without _ _ (by omega), obnd_some]
    | false => simp only [sel_false]; rw [eq_ref20_Put _ _ (by omega), obnd_some]; rfl
theorem ref20_Apply_l1 : ∀ (l : List TWrite) (t : List Kv), tvalid t = true → Mref20_Apply_l1 l t = some (actl l t)
  | [], t, _ => rfl
  | w :: ws, t, ht => by
    rw [Mref20_Apply_l1, ref20_Do t w ht, obnd_some, actl]
    by_cases h0 : (aplW t w).2 = 0
    · rw [if_pos h0, decide_eq_true h0]
      exact ref20_Apply_l1 ws _ (aplW_valid ht h0)
    · rw [if_neg h0, decide_eq_false h0]; rfl
theorem actl_valid : ∀ {l : List TWrite} {t t' : List Kv}, tvalid t = true → actl l t = .nxt t' → tvalid t' = true
  | [], t, t', ht, h => by cases h; exact ht
  | w :: ws, t, t', ht, h => by
    rw [actl] at h
    split at h
    · exact actl_valid (aplW_valid ht (by assumption)) h
    · cases h
theorem actl_ret : ∀ {l : List TWrite} {t : List Kv} {r : List Kv × Int}, actl l t = .ret r → r.1 = [] ∧ r.2 ≠ 0
  | [], t, r, h => by cases h
  | w :: ws, t, r, h => by
    rw [actl] at h
    split at h
    · exact actl_ret h
    · cases h; exact ⟨rfl, by assumption⟩
theorem apply_valid {t : List Kv} {l : List TWrite} (h : (applyW t l).2 = 0) : tvalid (applyW t l).1 = true := by
  unfold applyW at h ⊢
  by_cases ht : tvalid t = true
  · rw [if_pos ht] at h ⊢
    cases e : actl l t with
    | nxt t' => exact actl_valid ht e
    | ret r => rw [e] at h; exact absurd h (actl_ret e).2
  · rw [if_neg ht] at h; cases h
theorem eq_ref20_Apply (t : List Kv) (l : List TWrite) : Mref20_Apply t l = some (applyW t l) := by
  unfold Mref20_Apply applyW
  rw [eq_ref20_Valid, obnd_some]
  cases ht : tvalid t with
  | false => rfl
  | true =>
    simp only [Bool.not_true, sel_false, if_true]
    rw [ref20_Apply_l1 l t ht, obnd_some]
    cases e : actl l t with
    | ret r => rfl
    | nxt t' =>
      have hl := ((tvalid_iff t').1 (actl_valid ht e)).1
      show obnd (app [] t') _ = _
      rw [app_le (by simp; omega), obnd_some]; rfl
end Go.Proofs.YtohpjdeohpamaaaGreatDoor
namespace Go.Proofs.YtohpjdeohpamaaaGreatDoor
open Go.RowKit
def dval (d : ByteArray) : Nat → Nat
  | 0 => 0
  | k + 1 => dval d k * 10 + ((d.get! k).toNat - 48)
def isD (d : ByteArray) (k : Nat) : Prop := 48 ≤ (d.get! k).toNat ∧ (d.get! k).toNat ≤ 57
def allD (d : ByteArray) : Prop := ∀ k, k < d.size → isD d k
def badN (mn : Bool) (d : ByteArray) : Prop := d.size = 0 ∨ 13 < d.size ∨ ((d.get! 0).toNat = 48 ∧ (1 < d.size ∨ mn = true)) ∨ ¬ allD d ∨ 1000000000000 < dval d d.size
open Classical in
noncomputable def numD (mn : Bool) (d : ByteArray) : Int × Bool :=
  if badN mn d then (0, false) else (if mn then - (dval d d.size : Int) else dval d d.size, true)
noncomputable def num (s : ByteArray) : Int × Bool := if 1 < s.size ∧ (s.get! 0).toNat = 45 then numD true (s.extract 1 s.size) else numD false s
attribute [local irreducible] WK WC WL Wk Rel OpD OpV WD WO Op.bytesLess cmp vk vb vld emp contains
attribute [local irreducible] numD num
end Go.Proofs.YtohpjdeohpamaaaGreatDoor
namespace Go.Proofs.YtohpjdeohpamaaaGreatDoor
open Go.RowKit
abbrev kAB : ByteArray := ⟨#[97, 98]⟩
abbrev kAC : ByteArray := ⟨#[97, 99]⟩
theorem rA : qranges 2 [] kAB 0 = [⟨⟨kAB, false⟩, ⟨kAC, false⟩⟩] := by kernel_rfl
attribute [local irreducible] WK WC WL Wk Rel OpD OpV WD WO Op.bytesLess cmp vk vb vld emp contains
attribute [local irreducible] qchk qranges qtk union pfx tvalid
instance (priority := high) rangesA : Ct Tryz.prog 83 [.a [vI 2, .d (.l 0 []), vS kAB, vI 0]] True (.d (lst Rng.ds [⟨⟨kAB, false⟩, ⟨kAC, false⟩⟩])) := ⟨fun _ => by
  have := (qranges_p 2 0 [] kAB).out (by simp)
  rw [rA] at this
  exact this⟩
end Go.Proofs.YtohpjdeohpamaaaGreatDoor
namespace Go.Proofs.YtohpjdeohpamaaaGreatDoor
open Go.RowKit
structure okW (w : TWalk) : Prop where
  q : w.Query.Ranges.length ≤ 1000
  todo : w.Todo.length ≤ 1000
  vis : w.Visits.length ≤ 1000
  rows : ∀ v ∈ w.Visits, v.View.Rows.length ≤ 10000
def W0 : TWalk := ⟨⟨0, [], ⟨#[]⟩, 0⟩, [], []⟩
end Go.Proofs.YtohpjdeohpamaaaGreatDoor
-- LEFT clone_Visits_l1 eq_clone_Query eq_clone_Ranges eq_clone_View eq_clone_Visits eq_clone_Walk eq_keyspace_Intersect eq_keyspace_lesser eq_ref28_Start eq_walk_Start ref28_Start_l1 ref28_Start_l2 sameRanges_l1 sameRanges_refl sameWalk_refl walk_Start_l1 walk_Start_l2
namespace Go.Proofs.YtohpjdeohpamaaaGreatDoor
open Go.RowKit
def tabl : List TRecord → List Kv → List (List Kv) → Ctl (List (List Kv) × Int) (List (List Kv))
  | [], _, out => .nxt out
  | r :: rs, t, out => if r.Kind = 1 then (if (applyW t r.Writes).2 = 0 then tabl rs (applyW t r.Writes).1 (out ++ [(applyW t r.Writes).1]) else .ret ([], (applyW t r.Writes).2)) else tabl rs t (out ++ [t])
def tabs (t : List Kv) (l : List TRecord) : List (List Kv) × Int := if 4096 < l.length then ([], 3) else if tvalid t = true then (match tabl l t [] with | .nxt o => (o, 0) | .ret r => r) else ([], 1)
def momW (q : TQuery) (a : TAnswer) : List (List Kv) → Int → Ctl (Int × Bool) Unit
  | [], _ => .nxt ()
  | t :: ts, i => if (Mquery_Answer t q) = some (a, 0) then .ret (i, true) else momW q a ts (i + 1)
def mom (q : TQuery) (a : TAnswer) (ts : List (List Kv)) : Int × Bool := match momW q a ts 0 with | .ret r => r | .nxt _ => (0, false)
end Go.Proofs.YtohpjdeohpamaaaGreatDoor
namespace Go.Proofs.YtohpjdeohpamaaaGreatDoor
open Go.RowKit
def Tot {α : Type} (M : Option α) (Q : α → Prop) : Prop := ∃ a, M = some a ∧ Q a
section
variable {α β γ : Type} {M : Option α} {P Q : α → Prop} {b : Bool}
theorem tot_some {a : α} (h : Q a) : Tot (some a) Q := ⟨a, rfl, h⟩
theorem tot_obnd {k : β → Option α} {N : Option β} {R : β → Prop} (h : Tot N R) (hk : ∀ a, R a → Tot (k a) Q) : Tot (obnd N k) Q := by
  obtain ⟨a, rfl, h⟩ := h
  exact hk a h
theorem tot_sel {x y : Option α} (h1 : b = true → Tot x Q) (h2 : b = false → Tot y Q) : Tot (sel b x y) Q := by
  cases b with
  | true => exact h1 rfl
  | false => exact h2 rfl
theorem tot_lget {l : List α} {i : Int} (h0 : 0 ≤ i) (h1 : i < l.length) (hq : ∀ h : i.toNat < l.length, Q l[i.toNat]) : Tot (lget l i) Q := by
  obtain ⟨m, rfl⟩ := Int.eq_ofNat_of_zero_le h0
  have hm : m < l.length := by omega
  exact ⟨l[m], by rw [lget_nat, List.getElem?_eq_getElem hm], hq hm⟩
end
section
variable {τ : TTape}
theorem tot_next (h : okT τ) {n : Int} (hn : n ≤ 9223372036854775807) : Tot (Mwld_Tape_Next τ n) fun y => okT y.2 ∧ Cho n y.1 := by
  obtain ⟨x, τ', e, h1, h2⟩ := next_ok h n hn
  exact ⟨_, e, h1, h2⟩
theorem tot_bool (h : okT τ) {n : Int} (hn : n ≤ 9223372036854775807) : Tot (Mwld_Tape_Bool τ n) fun y => okT y.2 := by
  obtain ⟨x, τ', e, h1⟩ := bool_ok h n hn
  exact ⟨_, e, h1⟩
theorem tot_rows (h : okT τ) {n : Int} (h0 : 0 ≤ n) (hn : n ≤ 900) : Tot (Mwld_Tape_Rows τ n) fun y => okT y.2 ∧ tvalid y.1 = true ∧ (y.1.length : Int) ≤ n := by
  obtain ⟨x, τ', e, h3⟩ := rows_ok h n h0 hn
  exact ⟨_, e, h3⟩
end
end Go.Proofs.YtohpjdeohpamaaaGreatDoor
namespace Go.Proofs.YtohpjdeohpamaaaGreatDoor
open Go.RowKit
def stOk (s : TStamp) : Bool := decide (0 ≤ s.Epoch) && decide (s.Epoch ≤ 1099511627776) && decide (0 ≤ s.Version) && decide (s.Version ≤ 1099511627776)
def numOk (n : Int) : Bool := decide (1 ≤ n) && decide (n ≤ 2147483647)
def validV (v : TView) : Bool := numOk v.Owner && !emp v.Interval && stOk v.Stamp && tvalid v.Rows && v.Rows.all fun x => contains v.Interval x.key
end Go.Proofs.YtohpjdeohpamaaaGreatDoor
-- LEFT eq_walk_Done eq_walk_Take eq_walk_Want
namespace Go.Proofs.YtohpjdeohpamaaaGreatDoor
open Go.RowKit
structure okC (l : List TVisit) : Prop where
  vis : l.length ≤ 1000
  rows : ∀ v ∈ l, v.View.Rows.length ≤ 10000
theorem okC.w {l : List TVisit} (h : okC l) : okW ⟨⟨0, [], ⟨#[]⟩, 0⟩, [], l⟩ := ⟨by simp, by simp, h.vis, h.rows⟩
end Go.Proofs.YtohpjdeohpamaaaGreatDoor
namespace Go.Proofs.YtohpjdeohpamaaaGreatDoor
open Go.RowKit
def noA : TAnswer := ⟨[], ⟨0, 0, 0, 0, 0, ⟨#[]⟩, ⟨#[]⟩⟩⟩
end Go.Proofs.YtohpjdeohpamaaaGreatDoor
-- LEFT make_eq sameReceipt_refl visits_l1
namespace Go.Proofs.YtohpjdeohpamaaaGreatDoor
open Go.RowKit
section
variable {α : Type}
end
def getW (k : ByteArray) : List Kv → ByteArray × Bool
  | [] => (⟨#[]⟩, false)
  | r :: t => if r.key = k then (r.val, true) else getW k t
def ckA (r : TReceipt) : TAnswer × Int := (Mref28_Check r).getD (noA, 0)
structure okR (r : TReceipt) : Prop where
  q : r.Query.Ranges.length < 1000000
  f : okC r.First
  s : okC r.Second
structure AS where
  now : List Kv
  tabs : List (List Kv)
  bg : Int → Option (Int × TQuery)
  en : Int → Bool
def AS.push (s : AS) (t : List Kv) : AS := { s with now := t, tabs := s.tabs ++ [t] }
def recW (s : AS) (i : Int) (r : TRecord) : Int × AS :=
  if r.Kind = 1 then (if (applyW s.now r.Writes).2 = 0 then (0, s.push (applyW s.now r.Writes).1) else ((applyW s.now r.Writes).2, s))
  else if r.Kind = 2 then (if getW r.Key s.now = (r.Value, r.Has) then (0, s.push s.now) else (11, s))
  else if r.Kind = 3 then (match s.bg r.Query with
    | some _ => (7, s)
    | none => (0, { s.push s.now with bg := fun q => if q = r.Query then some (i, r.Receipt.Query) else s.bg q }))
  else if r.Kind = 4 then (match s.bg r.Query with
    | none => (7, s)
    | some p => if s.en r.Query = true ∨ p.2 ≠ r.Receipt.Query then (7, s) else if (ckA r.Receipt).2 ≠ 0 then ((ckA r.Receipt).2, s) else
        if (mom r.Receipt.Query (ckA r.Receipt).1 (s.tabs.drop p.1.toNat ++ [s.now])).2 = true then (0, { s.push s.now with en := fun q => if q = r.Query then true else s.en q }) else (11, s))
  else (1, s)
structure RepA (s : AS) (a : Tauditor) : Prop where
  now : a.now = s.now
  tabs : a.tables = s.tabs
  has : ∀ q, mhas q a.begun = (s.bg q).isSome
  bg : ∀ q p, s.bg q = some p → mlk 0 q a.begun = p.1 ∧ mlk ⟨0, [], ⟨#[]⟩, 0⟩ q a.asked = p.2
  en : ∀ q, mlk false q a.ended = s.en q
structure okA (s : AS) (i : Int) : Prop where
  val : tvalid s.now = true
  len : (s.tabs.length : Int) = i
  top : i ≤ 5000
  bg : ∀ q p, s.bg q = some p → 0 ≤ p.1 ∧ p.1 ≤ i
theorem okA.step {s : AS} {i : Int} (h : okA s i) (hi : i < 5000) {r : TRecord} (h0 : (recW s i r).1 = 0) : okA (recW s i r).2 (i + 1) := by
  have hl := h.len
  have push : ∀ t, tvalid t = true → okA (s.push t) (i + 1) := fun t ht => ⟨ht, by simp [AS.push]; omega, by omega, fun q p hp => by have := h.bg q p hp; omega⟩
  unfold recW at h0 ⊢
  by_cases k1 : r.Kind = 1
  · rw [if_pos k1] at h0 ⊢
    split at h0
    · rename_i e; rw [if_pos e]; exact push _ (apply_valid e)
    · rename_i e; exact absurd h0 e
  rw [if_neg k1] at h0 ⊢
  by_cases k2 : r.Kind = 2
  · rw [if_pos k2] at h0 ⊢
    split at h0
    · rename_i e; rw [if_pos e]; exact push _ h.val
    · cases h0
  rw [if_neg k2] at h0 ⊢
  by_cases k3 : r.Kind = 3
  · rw [if_pos k3] at h0 ⊢
    cases hb : s.bg r.Query with
    | some p => rw [hb] at h0; cases h0
    | none =>
      simp only
      have := push _ h.val
      refine ⟨this.val, this.len, this.top, fun q p hp => ?_⟩
      simp only at hp
      split at hp
      · cases hp; simp only; omega
      · have := h.bg q p hp; omega
  rw [if_neg k3] at h0 ⊢
  by_cases k4 : r.Kind = 4
  · rw [if_pos k4] at h0 ⊢
    cases hb : s.bg r.Query with
    | none => rw [hb] at h0; cases h0
    | some p =>
      rw [hb] at h0
      simp only at h0 ⊢
      split at h0
      · cases h0
      · rename_i e1
        rw [if_neg e1]
        split at h0
        · rename_i e2; exact absurd h0 e2
        · rename_i e2
          rw [if_neg e2]
          split at h0
          · rename_i e3
            rw [if_pos e3]
            have := push _ h.val
            exact ⟨this.val, this.len, this.top, this.bg⟩
          · cases h0
  · rw [if_neg k4] at h0; cases h0
end Go.Proofs.YtohpjdeohpamaaaGreatDoor
namespace Go.Proofs.YtohpjdeohpamaaaGreatDoor
open Go.RowKit
def Tl (t : List Kv) : Bnd → List TView → Bnd → Prop
  | a, [], b => a = b
  | a, v :: l, b => v.Interval.lo = a ∧ emp v.Interval = false ∧ validV v = true ∧ v.Rows = t.filter (fun x => contains v.Interval x.key) ∧ Tl t v.Interval.hi l b
theorem Tl.snoc {t : List Kv} {v : TView} : ∀ {l : List TView} {a b : Bnd}, Tl t a l b → v.Interval.lo = b → emp v.Interval = false → validV v = true → v.Rows = t.filter (fun x => contains v.Interval x.key) → Tl t a (l ++ [v]) v.Interval.hi
  | [], a, b, h, h1, h2, h3, h4 => ⟨by rw [h1]; exact h.symm, h2, h3, h4, rfl⟩
  | x :: l, a, b, ⟨g1, g2, g3, g4, g5⟩, h1, h2, h3, h4 => ⟨g1, g2, g3, g4, g5.snoc h1 h2 h3 h4⟩
theorem Tl.mem {t : List Kv} : ∀ {l : List TView} {a b : Bnd}, Tl t a l b → ∀ v ∈ l, validV v = true ∧ v.Rows = t.filter (fun x => contains v.Interval x.key) ∧ emp v.Interval = false
  | [], _, _, _, _, hv => by simp at hv
  | x :: l, a, b, ⟨g1, g2, g3, g4, g5⟩, v, hv => by
    rcases List.mem_cons.1 hv with rfl | hv
    · exact ⟨g3, g4, g2⟩
    · exact g5.mem v hv
def Sh (gs : List TGroup) (vs : List TView) : Prop := gs.map Mref25_View = vs.map fun v => some (v, 0)
theorem Sh.len {gs : List TGroup} {vs : List TView} (h : Sh gs vs) : gs.length = vs.length := by
  have := congrArg List.length h
  simpa using this
def topB : Bnd := ⟨⟨#[]⟩, true⟩
end Go.Proofs.YtohpjdeohpamaaaGreatDoor
-- LEFT net_l1 tot_net views_l1
namespace Go.Proofs.YtohpjdeohpamaaaGreatDoor
open Go.RowKit
def goodV (vs : List TView) : Prop := vs ≠ [] ∧ vs.length ≤ 100 ∧ ∀ v ∈ vs, v.Rows.length ≤ 8
theorem Tl.good {t : List Kv} (ht : t.length ≤ 8) {vs : List TView} (hl : vs.length ≤ 100) (h : Tl t zb vs topB) : goodV vs := by
  refine ⟨fun e => ?_, hl, fun v hv => ?_⟩
  · subst e
    have : zb.top = topB.top := congrArg Bnd.top h
    cases this
  · rw [(h.mem v hv).2.1]
    exact Nat.le_trans (List.length_filter_le _ _) ht
end Go.Proofs.YtohpjdeohpamaaaGreatDoor
-- LEFT serve_l1 tot_oddStamp tot_serve tot_stamp tot_view wawake_ok2
