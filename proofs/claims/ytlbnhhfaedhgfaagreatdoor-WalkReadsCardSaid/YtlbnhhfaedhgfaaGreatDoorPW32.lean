/-
  Lemmas: The number that a value is: plain, and in the reference. / Plain laws of the models: numbers and aggregates: the program's are the reference's. / Plain laws of the models: what is taken of rows; answers of the reference. / Plain words: the rows of ranges in order: what the parts of a walk's visits show. / Plain laws of the models: a walk through a net goes on until it is done; the rows that it shows.
-/
import Derived.Test.YtlbnhhfaedhgfaaGreatDoorPW10
import Derived.Test.YtlbnhhfaedhgfaaGreatDoorPW20
import Derived.Test.YtlbnhhfaedhgfaaGreatDoorPW29
namespace Go.Proofs.YtlbnhhfaedhgfaaGreatDoor
set_option linter.unusedSimpArgs false
set_option linter.unusedVariables false
open Go.RowKit
def dval (d : ByteArray) : Nat → Nat
  | 0 => 0
  | k + 1 => dval d k * 10 + ((d.get! k).toNat - 48)
def isD (d : ByteArray) (k : Nat) : Prop := 48 ≤ (d.get! k).toNat ∧ (d.get! k).toNat ≤ 57
def allD (d : ByteArray) : Prop := ∀ k, k < d.size → isD d k
def badN (mn : Bool) (d : ByteArray) : Prop := d.size = 0 ∨ 13 < d.size ∨ ((d.get! 0).toNat = 48 ∧ (1 < d.size ∨ mn = true)) ∨ ¬ allD d ∨ 1000000000000 < dval d d.size
open Classical in
noncomputable def numD (mn : Bool) (d : ByteArray) : Int × Bool :=
  if badN mn d then (0, false) else (if mn then - (dval d d.size : Int) else dval d d.size, true)
noncomputable def num (s : ByteArray) : Int × Bool := if 1 < s.size ∧ (s.get! 0).toNat = 45 then numD true (s.extract 1 s.size) else numD false s
theorem numD_f {mn : Bool} {d : ByteArray} (h : badN mn d) : numD mn d = (0, false) := if_pos h
theorem numD_t {mn : Bool} {d : ByteArray} (h : ¬ badN mn d) : numD mn d = (if mn then - (dval d d.size : Int) else dval d d.size, true) := if_neg h
theorem dval_lt {d : ByteArray} : ∀ {k : Nat}, (∀ j, j < k → isD d j) → dval d k < 10 ^ k
  | 0, _ => by simp [dval]
  | k + 1, h => by
    have h1 := dval_lt (k := k) fun j hj => h j (by omega)
    have h2 := h k (by omega)
    unfold isD at h2
    rw [dval, Nat.pow_succ]; omega
theorem dval_mono {d : ByteArray} {k m : Nat} (h : k ≤ m) : dval d k ≤ dval d m := by
  induction m with
  | zero => rw [Nat.le_zero.1 h]; exact Nat.le_refl _
  | succ m ih =>
    rcases Nat.lt_or_ge k (m + 1) with h1 | h1
    · have := ih (by omega); rw [dval]; omega
    · rw [show k = m + 1 by omega]; exact Nat.le_refl _
theorem dval_big {d : ByteArray} (h0 : 49 ≤ (d.get! 0).toNat) : ∀ {k : Nat}, 10 ^ k ≤ dval d (k + 1)
  | 0 => by simp [dval]; omega
  | k + 1 => by
    have := dval_big h0 (k := k)
    rw [dval, Nat.pow_succ]; omega
theorem dval_13 {d : ByteArray} {k : Nat} (h : ∀ j, j < k → isD d j) (hk : k ≤ 13) : dval d k < 10000000000000 := by
  have h1 := dval_lt h
  have h2 : 10 ^ k ≤ 10 ^ 13 := Nat.pow_le_pow_right (by decide) hk
  omega
theorem badN_1 {mn : Bool} {d : ByteArray} (h : d.size = 0) : badN mn d := .inl h
theorem badN_2 {mn : Bool} {d : ByteArray} (h : 13 < d.size) : badN mn d := .inr (.inl h)
theorem badN_4 {mn : Bool} {d : ByteArray} (k : Nat) (h : k < d.size) (h1 : ¬ isD d k) : badN mn d := .inr (.inr (.inr (.inl fun h2 => h1 (h2 k h))))
theorem badN_5 {mn : Bool} {d : ByteArray} (h : 1000000000000 < dval d d.size) : badN mn d := .inr (.inr (.inr (.inr h)))
theorem get_lt (d : ByteArray) (m : Nat) : (d.get! m).toNat < 256 := (d.get! m).toNat_lt
attribute [local irreducible] WK WC WL Wk Rel OpD OpV WD WO Op.bytesLess cmp vk vb vld emp contains
attribute [local irreducible] numD num
theorem good_num {mn : Bool} {d : ByteArray} (h1 : d.size ≠ 0) (h2 : d.size ≤ 13) (h3 : (d.get! 0).toNat = 48 → d.size ≤ 1 ∧ mn = false) (h4 : ∀ j, j < d.size → isD d j) (h5 : dval d d.size ≤ 1000000000000) : ¬ badN mn d := by
  rintro (h | h | ⟨h, h'⟩ | h | h)
  · exact h1 h
  · omega
  · obtain ⟨g1, g2⟩ := h3 h
    rcases h' with h' | h'
    · omega
    · rw [g2] at h'; cases h'
  · exact h h4
  · omega
end Go.Proofs.YtlbnhhfaedhgfaaGreatDoor
namespace Go.Proofs.YtlbnhhfaedhgfaaGreatDoor
set_option linter.unusedSimpArgs false
set_option linter.unusedVariables false
open Go.RowKit
theorem sget_lt {s : ByteArray} {m : Nat} (h : m < s.size) : sget s (m : Int) = some ((s.get! m).toNat : Int) := by
  unfold sget; rw [if_pos (by omega)]; simp
theorem dec_ascii {s : ByteArray} {i : Nat} (h : i < s.size) (hb : (s.get! i).toNat < 128) : Utf8.decode s i = ((s.get! i).toNat, 1) := by
  unfold Utf8.decode
  simp only [Nat.add_zero, Utf8.runeError]
  rw [if_pos (by simpa using hb)]
theorem obnd_if {α β : Type} {p : Prop} [Decidable p] (a b : α) (k : α → Option β) : obnd (if p then some a else some b) k = k (if p then a else b) := by split <;> rfl
theorem i32w_id {a : Int} (h1 : -2147483648 ≤ a) (h2 : a ≤ 2147483647) : IntKind.i32.wrap a = a := wi32 h1 h2
theorem u8w_id {a : Int} (h1 : 0 ≤ a) (h2 : a ≤ 255) : IntKind.u8.wrap a = a := wu8 h1 h2
theorem ref21_num_l1 (s : ByteArray) (hs : s.size ≤ 13) : ∀ (fuel m : Nat), s.size - m < fuel → m ≤ s.size → (∀ j, j < m → isD s j) →
    Mref21_Number_l1 s fuel (dval s m : Int) (m : Int) = some (open Classical in if allD s then .nxt (dval s s.size : Int) else .ret (0, false))
  | 0, _, h, _, _ => absurd h (by omega)
  | fuel + 1, m, h, hm, hd => by
    rw [Mref21_Number_l1.eq_2, sel_ite]
    by_cases hi : m < s.size
    · rw [if_pos (by simpa using hi), obnd_some, ocbnd_nxt, sget_lt hi]
      simp only [obnd_some]
      have hb := get_lt s m
      have hv := dval_13 hd (by omega)
      by_cases hdm : isD s m
      · have hdm' := hdm
        unfold isD at hdm'
        have e1 : decide (((s.get! m).toNat : Int) < 48) = false := decide_eq_false (by omega)
        have e2 : decide (57 < ((s.get! m).toNat : Int)) = false := decide_eq_false (by omega)
        rw [e1, sel_false, e2, obnd_some, sel_false, u8w_id (by omega) (by omega), i64w_id (a := 10 * (dval s m : Int)) (by omega) (by omega), i64w_id (a := ((s.get! m).toNat : Int) - 48) (by omega) (by omega), i64w_id (by omega) (by omega), i64w_id (by omega) (by omega)]
        have := ref21_num_l1 s hs fuel (m + 1) (by omega) (by omega) (fun j hj => by
          rcases Nat.lt_or_ge j m with h1 | h1
          · exact hd j h1
          · rw [show j = m by omega]; exact hdm)
        have e3 : ((dval s (m + 1) : Nat) : Int) = 10 * (dval s m : Int) + (((s.get! m).toNat : Int) - 48) := by rw [dval]; omega
        rw [e3] at this
        rw [← this]; congr 1
      · have hna : ¬ allD s := fun h => hdm (h m hi)
        rw [if_neg hna]
        unfold isD at hdm
        by_cases h48 : ((s.get! m).toNat : Int) < 48
        · rw [decide_eq_true h48, sel_true, obnd_some, sel_true]
        · rw [decide_eq_false h48, sel_false, obnd_some, decide_eq_true (by omega), sel_true]
    · rw [if_neg (by simpa using hi), obnd_some, ocbnd_ret]
      obtain rfl : m = s.size := by omega
      rw [if_pos (show allD s from fun k hk => hd k hk)]
theorem fold_num_l1 (s : ByteArray) (hs : s.size ≤ 4000000000) : ∀ (fuel m : Nat), s.size - m < fuel → m ≤ s.size → (∀ j, j < m → isD s j) → dval s m ≤ 1000000000000 →
    Mfold_Number_l1 s fuel (dval s m : Int) m = some (open Classical in if allD s ∧ dval s s.size ≤ 1000000000000 then .nxt (dval s s.size : Int) else .ret (0, false))
  | 0, _, h, _, _, _ => absurd h (by omega)
  | fuel + 1, m, h, hm, hd, hv => by
    rw [Mfold_Number_l1.eq_2, sel_ite]
    by_cases hi : m < s.size
    · rw [if_pos (by simpa using hi), bnd_eq]
      have hb := get_lt s m
      by_cases hdm : isD s m
      · have hdm' := hdm
        unfold isD at hdm'
        rw [dec_ascii hi (by omega)]
        have e1 : decide (((s.get! m).toNat : Int) < 48) = false := decide_eq_false (by omega)
        have e2 : decide (57 < ((s.get! m).toNat : Int)) = false := decide_eq_false (by omega)
        simp only
        rw [e1, sel_false, e2, obnd_some, sel_false, i32w_id (by omega) (by omega), i64w_id (a := (dval s m : Int) * 10) (by omega) (by omega), i64w_id (a := ((s.get! m).toNat : Int) - 48) (by omega) (by omega), i64w_id (by omega) (by omega)]
        have e3 : ((dval s (m + 1) : Nat) : Int) = (dval s m : Int) * 10 + (((s.get! m).toNat : Int) - 48) := by rw [dval]; omega
        rw [← e3, sel_ite]
        by_cases hbig : dval s (m + 1) ≤ 1000000000000
        · rw [if_neg (by simp; omega)]
          exact fold_num_l1 s hs fuel (m + 1) (by omega) (by omega) (fun j hj => by
            rcases Nat.lt_or_ge j m with h1 | h1
            · exact hd j h1
            · rw [show j = m by omega]; exact hdm) hbig
        · rw [if_pos (by simp; omega), if_neg]
          rintro ⟨-, h2⟩
          have := dval_mono (d := s) (show m + 1 ≤ s.size by omega)
          omega
      · have hna : ¬ (allD s ∧ dval s s.size ≤ 1000000000000) := fun h => hdm (h.1 m hi)
        rw [if_neg hna]
        have hrej : (Utf8.decode s m).1 < 48 ∨ 57 < (Utf8.decode s m).1 := by
          apply Classical.byContradiction
          intro hc
          have := dec_lt (s := s) (i := m) (c := (Utf8.decode s m).1) (wd := (Utf8.decode s m).2) rfl (by omega)
          apply hdm
          unfold isD
          omega
        by_cases h48 : ((Utf8.decode s m).1 : Int) < 48
        · rw [decide_eq_true h48, sel_true, obnd_some, sel_true]
        · rw [decide_eq_false h48, sel_false, obnd_some, decide_eq_true (by omega), sel_true]
    · rw [if_neg (by simpa using hi)]
      obtain rfl : m = s.size := by omega
      rw [if_pos (show allD s ∧ dval s s.size ≤ 1000000000000 from ⟨fun k hk => hd k hk, hv⟩)]
theorem ba_size0 {s : ByteArray} : s = ⟨#[]⟩ ↔ s.size = 0 := by
  constructor
  · rintro rfl; rfl
  · intro h
    obtain ⟨d⟩ := s
    have : d = #[] := Array.eq_empty_of_size_eq_zero h
    rw [this]
theorem num_tail (s : ByteArray) (hs : s.size ≤ 4000000000) (neg : Bool) :
    (obnd (sel (decide (s = ⟨#[]⟩)) (some true) (obnd (sget s 0) fun b7 => sel (decide (b7 = 48)) (sel (decide (1 < (s.size : Int))) (some true) (some neg)) (some false)) : Option Bool) fun x8 =>
      sel x8 (some (0, false)) (obnd (Mfold_Number_l1 s FU 0 0 : Option (Ctl (Int × Bool) Int)) fun mu => ocbnd mu fun n13 => sel neg (some (i64w (-n13), true)) (some (n13, true)))) =
    some (numD neg s) ∧
    (obnd (sel (decide ((s.size : Int) = 0)) (some true) (sel (decide (13 < (s.size : Int))) (some true) (obnd (sget s 0) fun b7 => sel (decide (b7 = 48)) (sel (decide (1 < (s.size : Int))) (some true) (some neg)) (some false))) : Option Bool) fun x8 =>
      sel x8 (some (0, false)) (obnd (Mref21_Number_l1 s FU 0 0 : Option (Ctl (Int × Bool) Int)) fun mu => ocbnd mu fun n15 => sel (decide (1000000000000 < n15)) (some (0, false)) (sel neg (some (i64w (-n15), true)) (some (n15, true))))) =
    some (numD neg s) := by
  by_cases h0 : s.size = 0
  · rw [decide_eq_true (ba_size0.2 h0), sel_true, obnd_some, sel_true, decide_eq_true (by omega), sel_true, obnd_some, sel_true, numD_f (badN_1 h0)]
    exact ⟨rfl, rfl⟩
  have hp := fold_num_l1 s hs FU 0 (by unfold FU; omega) (Nat.zero_le _) (fun j h => absurd h (by omega)) (by simp [dval])
  have e0 : ((dval s 0 : Nat) : Int) = 0 := rfl
  rw [e0] at hp
  have es := sget_lt (s := s) (m := 0) (by omega)
  rw [show ((0 : Nat) : Int) = 0 from rfl] at es
  rw [decide_eq_false (fun h => h0 (ba_size0.1 h)), decide_eq_false (show ¬ (s.size : Int) = 0 by omega), sel_false, sel_false, es, obnd_some]
  have hb := get_lt s 0
  -- a leading nought
  by_cases hz : (s.get! 0).toNat = 48 ∧ (1 < s.size ∨ neg = true)
  · have hbad : badN neg s := .inr (.inr (.inl hz))
    have e1 : decide (((s.get! 0).toNat : Int) = 48) = true := decide_eq_true (by omega)
    have e2 : sel (decide (1 < (s.size : Int))) (some true) (some neg) = some true := by
      by_cases h1 : 1 < s.size
      · rw [decide_eq_true (by omega), sel_true]
      · rw [decide_eq_false (by omega), sel_false, hz.2.resolve_left h1]
    rw [e1, sel_true, e2, obnd_some, sel_true, numD_f hbad]
    refine ⟨rfl, ?_⟩
    by_cases h13 : 13 < s.size
    · rw [decide_eq_true (by omega), sel_true, obnd_some, sel_true]
    · rw [decide_eq_false (by omega), sel_false, obnd_some, sel_true]
  · have e3 : sel (decide (((s.get! 0).toNat : Int) = 48)) (sel (decide (1 < (s.size : Int))) (some true) (some neg)) (some false) = some false := by
      by_cases h48 : (s.get! 0).toNat = 48
      · have h1 : ¬ 1 < s.size := fun h => hz ⟨h48, .inl h⟩
        have h2 : neg = false := by cases neg with
          | false => rfl
          | true => exact absurd ⟨h48, .inr rfl⟩ hz
        rw [decide_eq_true (by omega), sel_true, decide_eq_false (by omega), sel_false, h2]
      · rw [decide_eq_false (by omega), sel_false]
    rw [e3, obnd_some, sel_false, hp, obnd_some]
    by_cases h13 : 13 < s.size
    · rw [decide_eq_true (by omega), sel_true, obnd_some, sel_true, numD_f (badN_2 h13)]
      refine ⟨?_, rfl⟩
      rw [if_neg, ocbnd_ret]
      rintro ⟨ha, hv⟩
      have h49 : 49 ≤ (s.get! 0).toNat := by
        have h1 := ha 0 (by omega)
        unfold isD at h1
        have h2 : (s.get! 0).toNat ≠ 48 := fun h => hz ⟨h, .inl (by omega)⟩
        omega
      have h3 : 10 ^ 13 ≤ dval s 14 := dval_big h49 (k := 13)
      have h4 := dval_mono (d := s) (show 14 ≤ s.size by omega)
      omega
    · have hr := ref21_num_l1 s (by omega) FU 0 (by unfold FU; omega) (Nat.zero_le _) (fun j h => absurd h (by omega))
      rw [e0, show ((0 : Nat) : Int) = 0 from rfl] at hr
      rw [decide_eq_false (by omega), sel_false, obnd_some, sel_false, hr, obnd_some]
      by_cases ha : allD s
      · by_cases hv : dval s s.size ≤ 1000000000000
        · have hg : ¬ badN neg s := good_num h0 (by omega) (fun h => ⟨by
            apply Classical.byContradiction; intro h1; exact hz ⟨h, .inl (by omega)⟩, by
            cases neg with
            | false => rfl
            | true => exact absurd ⟨h, .inr rfl⟩ hz⟩) ha hv
          rw [if_pos ⟨ha, hv⟩, if_pos ha, ocbnd_nxt, ocbnd_nxt, numD_t hg, decide_eq_false (by omega), sel_false]
          cases neg with
          | false => exact ⟨rfl, rfl⟩
          | true => rw [sel_true, i64w_id (by omega) (by omega)]; exact ⟨rfl, rfl⟩
        · rw [if_neg (fun h => hv h.2), if_pos ha, ocbnd_ret, ocbnd_nxt, numD_f (badN_5 (by omega)), decide_eq_true (by omega), sel_true]
          exact ⟨rfl, rfl⟩
      · have hbad : badN neg s := .inr (.inr (.inr (.inl ha)))
        rw [if_neg (fun h => ha h.1), if_neg ha, ocbnd_ret, ocbnd_ret, numD_f hbad]
        exact ⟨rfl, rfl⟩
def NB (r : Int × Bool) : Prop := -1000000000000 ≤ r.1 ∧ r.1 ≤ 1000000000000
theorem numD_nb (mn : Bool) (d : ByteArray) : NB (numD mn d) := by
  by_cases h : badN mn d
  · rw [numD_f h]; exact ⟨by simp, by simp⟩
  · rw [numD_t h]
    have : dval d d.size ≤ 1000000000000 := by
      apply Classical.byContradiction; intro hc; exact h (badN_5 (by omega))
    unfold NB
    cases mn <;> simp <;> omega
theorem number_eq (s : ByteArray) (hs : s.size ≤ 4000000000) : ∃ r, Mfold_Number s = some r ∧ Mref21_Number s = some r ∧ NB r := by
  have key : ∀ b c : Bool, (sel (decide (0 < (s.size : Int))) (obnd (sget s 0) fun b2 => some (decide (b2 = 45))) (some false)) = some b → (sel (decide (1 < (s.size : Int))) (obnd (sget s 0) fun b2 => some (decide (b2 = 45))) (some false)) = some c →
      (b = false → c = false) → (b = true → 0 < s.size) → (b = true → c = false → s.size = 1 ∧ (s.get! 0).toNat = 45) → ∃ r, Mfold_Number s = some r ∧ Mref21_Number s = some r ∧ NB r := by
    intro b c hb hc h1 h2 h3
    unfold Mfold_Number Mref21_Number
    rw [hb, hc, obnd_some, obnd_some]
    cases b with
    | false =>
      rw [h1 rfl, sel_false, obnd_some]
      exact ⟨_, (num_tail s hs false).1, (num_tail s hs false).2, numD_nb _ _⟩
    | true =>
      have e : ssl s 1 (s.size : Int) = some (s.extract 1 s.size) := by
        have := h2 rfl
        unfold ssl; rw [if_pos (by omega)]; simp
      rw [e, obnd_some, sel_true, obnd_some]
      have hz : (s.extract 1 s.size).size = s.size - 1 := by simp [ByteArray.size_extract]
      cases c with
      | true =>
        rw [sel_true, obnd_some]
        exact ⟨_, (num_tail _ (by omega) true).1, (num_tail _ (by omega) true).2, numD_nb _ _⟩
      | false =>
        obtain ⟨g1, g2⟩ := h3 rfl rfl
        rw [sel_false, obnd_some]
        refine ⟨_, (num_tail _ (by omega) true).1, ?_, numD_nb _ _⟩
        refine (num_tail s hs false).2.trans ?_
        rw [numD_f (mn := false) (d := s) (badN_4 0 (by omega) (by unfold isD; omega)), numD_f (mn := true) (d := s.extract 1 s.size) (badN_1 (by omega))]
  by_cases h0 : s.size = 0
  · refine key false false ?_ ?_ (fun h => h) (fun h => by cases h) (fun h => by cases h)
    · rw [decide_eq_false (by omega), sel_false]
    · rw [decide_eq_false (by omega), sel_false]
  have es := sget_lt (s := s) (m := 0) (by omega)
  rw [show ((0 : Nat) : Int) = 0 from rfl] at es
  by_cases h1 : 1 < s.size
  · refine key (decide (((s.get! 0).toNat : Int) = 45)) (decide (((s.get! 0).toNat : Int) = 45)) ?_ ?_ (fun h => h) (fun _ => by omega) (fun h h' => by rw [h] at h'; cases h')
    · rw [decide_eq_true (by omega), sel_true, es, obnd_some]
    · rw [decide_eq_true (by omega), sel_true, es, obnd_some]
  · refine key (decide (((s.get! 0).toNat : Int) = 45)) false ?_ ?_ (fun _ => rfl) (fun _ => by omega) (fun h _ => ⟨by omega, by have := of_decide_eq_true h; omega⟩)
    · rw [decide_eq_true (by omega), sel_true, es, obnd_some]
    · rw [decide_eq_false (by omega), sel_false]
def sumF (s : TFold) : Tsum := ⟨s.Count, s.Numbers, s.Sum, s.Low, s.High, s.First, s.Last⟩
def fok (k : Nat) (f : TFold) : Prop := 0 ≤ f.Count ∧ f.Count ≤ k ∧ 0 ≤ f.Numbers ∧ f.Numbers ≤ k ∧ i64w f.Sum = f.Sum ∧ (f.Numbers = 0 → f.Low = 0 ∧ f.High = 0)
theorem add_eq (k : Nat) (f : TFold) (hk : k < 1000000000) (hf : fok k f) (r : Kv) (hr : r.val.size ≤ 4000000000) : ∃ g o, Mfold_sum_add (sumF f) r = some (sumF g) ∧ Mref21_one r = some o ∧ Mref21_Join f o = g ∧ fok (k + 1) g := by
  obtain ⟨n, e1, e2, -⟩ := number_eq r.val hr
  obtain ⟨n, b⟩ := n
  obtain ⟨c, m, s, lo, hi, fi, la⟩ := f
  obtain ⟨g1, g2, g3, g4, g5, g6⟩ := hf
  simp only at g1 g2 g3 g4 g5 g6
  cases b with
  | false =>
    refine ⟨⟨c + 1, m, s, lo, hi, if c = 0 then r.key else fi, r.key⟩, ⟨1, 0, 0, 0, 0, r.key, r.key⟩, ?_, ?_, ?_, ?_⟩
    · dsimp only [Mfold_sum_add, sumF]
      simp only [e1, sel_ite, decide_eq_true_eq, obnd_if, obnd_some, Bool.not_false, if_true]
      rw [i64w_id (a := c + 1) (by omega) (by omega)]
    · simp only [Mref21_one, e2, sel_ite, obnd_some, Bool.false_eq_true, if_false]
    · simp only [Mref21_Join, bnd_eq, sel_ite, Int.add_zero, g5, decide_eq_true_eq]
      rw [i64w_id (a := c + 1) (by omega) (by omega), i64w_id (a := m) (by omega) (by omega)]
      by_cases hm : m = 0
      · obtain ⟨rfl, rfl⟩ := g6 hm
        subst hm
        simp
      · simp [hm]
    · refine ⟨?_, ?_, ?_, ?_, g5, g6⟩ <;> simp only <;> omega
  | true =>
    refine ⟨⟨c + 1, m + 1, i64w (s + n), if m = 0 ∨ n < lo then n else lo, if m = 0 ∨ hi < n then n else hi, if c = 0 then r.key else fi, r.key⟩, ⟨1, 1, n, n, n, r.key, r.key⟩, ?_, ?_, ?_, ?_⟩
    · dsimp only [Mfold_sum_add, sumF]
      simp only [e1, sel_ite, decide_eq_true_eq, obnd_if, obnd_some, Bool.not_true, Bool.false_eq_true, if_false]
      rw [i64w_id (a := c + 1) (by omega) (by omega), i64w_id (a := m + 1) (by omega) (by omega)]
      by_cases hm : m = 0
      · simp [hm]
      · simp [hm]
    · simp only [Mref21_one, e2, sel_ite, obnd_some, if_true]
    · simp only [Mref21_Join, bnd_eq, sel_ite, decide_eq_true_eq]
      rw [i64w_id (a := c + 1) (by omega) (by omega), i64w_id (a := m + 1) (by omega) (by omega)]
      by_cases hm : m = 0
      · simp [hm]
      · have hlo : min lo n = if n < lo then n else lo := by split <;> omega
        have hhi : max hi n = if hi < n then n else hi := by split <;> omega
        simp [hm, hlo, hhi]
    · refine ⟨?_, ?_, ?_, ?_, i64w_i64w _, ?_⟩ <;> simp only <;> omega
theorem of_l1_eq : ∀ (l : List Kv) (k : Nat) (f : TFold), k + l.length < 1000000000 → fok k f → (∀ r ∈ l, r.val.size ≤ 4000000000) →
    ∃ g : TFold, fok (k + l.length) g ∧ Mfold_Of_l1 l f.Count f.Numbers f.Sum f.Low f.High f.First f.Last = some (g.Count, g.Numbers, g.Sum, g.Low, g.High, g.First, g.Last) ∧ Mref21_Of_l1 l f.Count f.Numbers f.Sum f.Low f.High f.First f.Last = some (g.Count, g.Numbers, g.Sum, g.Low, g.High, g.First, g.Last)
  | [], k, f, _, hf, _ => ⟨f, hf, rfl, rfl⟩
  | r :: l, k, f, hk, hf, hr => by
    simp only [List.length_cons] at hk
    obtain ⟨g, o, e1, e2, e3, e4⟩ := add_eq k f (by omega) hf r (hr r List.mem_cons_self)
    obtain ⟨q, h0, h1, h2⟩ := of_l1_eq l (k + 1) g (by omega) e4 fun x hx => hr x (List.mem_cons_of_mem _ hx)
    refine ⟨q, by rw [List.length_cons, show k + (l.length + 1) = k + 1 + l.length by omega]; exact h0, ?_, ?_⟩
    · rw [Mfold_Of_l1.eq_2]
      have : (Tsum.mk f.Count f.Numbers f.Sum f.Low f.High f.First f.Last) = sumF f := rfl
      rw [this, e1, obnd_some]
      exact h1
    · rw [Mref21_Of_l1.eq_2, e2, obnd_some, bnd_eq]
      have : (TFold.mk f.Count f.Numbers f.Sum f.Low f.High f.First f.Last) = f := rfl
      rw [this, e3]
      exact h2
theorem of_eq (l : List Kv) (hl : l.length < 1000000000) (hr : ∀ r ∈ l, r.val.size ≤ 4000000000) : ∃ g, Mfold_Of l = some g ∧ Mref21_Of l = some g ∧ fok l.length g := by
  obtain ⟨g, h0, h1, h2⟩ := of_l1_eq l 0 ⟨0, 0, 0, 0, 0, ⟨#[]⟩, ⟨#[]⟩⟩ (by omega) ⟨by simp, by simp, by simp, by simp, by kernel_rfl, fun _ => ⟨rfl, rfl⟩⟩ hr
  refine ⟨g, ?_, ?_, by simpa using h0⟩
  · unfold Mfold_Of; rw [h1, obnd_some]
  · unfold Mref21_Of; rw [h2, obnd_some]
end Go.Proofs.YtlbnhhfaedhgfaaGreatDoor
namespace Go.Proofs.YtlbnhhfaedhgfaaGreatDoor
set_option linter.unusedSimpArgs false
set_option linter.unusedVariables false
open Go.RowKit
theorem take_eq (q : TQuery) (l : List Kv) (h : l.length ≤ 1000000000) : Mquery_Take q l = some (qtk q.Kind q.Count l) ∧ Mref22_Take q l = some (qtk q.Kind q.Count l) := by
  have hmm : min (max q.Count 0) (l.length : Int) = max 0 (min q.Count (l.length : Int)) := by omega
  unfold Mquery_Take Mref22_Take Mclone_List_api_Row_ qtk
  rw [hmm]
  generalize hn : max 0 (min q.Count (l.length : Int)) = n
  simp only [sel_ite, decide_eq_true_eq]
  by_cases h3 : q.Kind = 3
  · rw [if_pos h3, if_pos h3, if_pos h3, lsl_le (by omega), obnd_some, app_le (by simp; omega)]
    simp [obnd_some, app_le, show l.length ≤ 4294967296 by omega, show min n.toNat l.length ≤ 4294967296 by omega]
  · rw [if_neg h3, if_neg h3, if_neg h3]
    by_cases h4 : q.Kind = 4
    · rw [if_pos h4, if_pos h4, if_pos h4, i64w_id (by omega) (by omega), lsl_le (by omega), obnd_some, app_le (by simp; omega)]
      simp only [obnd_some, List.nil_append]
      have e : ((l.length : Int) - n).toNat = l.length - n.toNat := by omega
      rw [e, List.take_of_length_le (by simp)]
      refine ⟨rfl, ?_⟩
      rw [app_le (by simp; omega)]; rfl
    · rw [if_neg h4, if_neg h4, if_neg h4, app_le (by simp; omega)]
      simp [obnd_some]
theorem eq_ref22_Answer_l1 (t : List Kv) (ht : t.length ≤ 1024) : ∀ (rs : List Rng) (out : List Kv), out.length + rs.length * 1024 ≤ 1000000000 → Mref22_Answer_l1 t rs out = some (out ++ qslices t rs)
  | [], out, _ => by simp [Mref22_Answer_l1, qslices]
  | r :: rs, out, h => by
    have hf := List.length_filter_le (fun x : Kv => contains r x.key) t
    rw [Mref22_Answer_l1.eq_2, eq_ref20_Slice _ _ (by omega), obnd_some, app_le (by omega), obnd_some, eq_ref22_Answer_l1 t ht rs _ (by simp at h ⊢; omega)]
    simp [qslices]
theorem qtk_sub (k c : Int) (l : List Kv) : ∀ r ∈ qtk k c l, r ∈ l := by
  intro r h
  unfold qtk at h
  split at h
  · exact List.mem_of_mem_take h
  split at h
  · exact List.mem_of_mem_drop h
  · exact h
theorem qslices_sub (t : List Kv) (rs : List Rng) : ∀ r ∈ qslices t rs, r ∈ t := by
  intro r h
  simp only [qslices, List.mem_flatMap, List.mem_filter] at h
  obtain ⟨_, _, h, _⟩ := h
  exact h
theorem qslices_len (t : List Kv) (rs : List Rng) : (qslices t rs).length ≤ rs.length * t.length := by
  induction rs with
  | nil => simp [qslices]
  | cons r rs ih =>
    have hf := List.length_filter_le (fun x : Kv => contains r x.key) t
    simp only [qslices, List.flatMap_cons, List.length_append, List.length_cons, Nat.succ_mul] at ih ⊢
    omega
theorem answer_ref (t : List Kv) (q : TQuery) (hq : q.Ranges.length < 1000000) (h0 : qchk q.Kind q.Ranges q.Key q.Count = 0) (hv : tvalid t = true) : ∃ a, Mref22_Answer t q = some (a, 0) ∧ a.Rows = qtk q.Kind q.Count (qslices t (qranges q.Kind q.Ranges q.Key q.Count)) ∧ Mfold_Of a.Rows = some a.Fold ∧ Mref21_Of a.Rows = some a.Fold := by
  unfold Mref22_Answer
  rw [bnd_eq, eq_ref22_Check, (eq_ranges q hq).2, eq_ref20_Valid, decide_eq_true h0, hv]
  simp only [Bool.not_true, sel_false, obnd_some]
  have ht := (tvalid_iff t).1 hv
  have hrl := qranges_le q.Kind q.Ranges q.Key q.Count
  generalize qranges q.Kind q.Ranges q.Key q.Count = R at hrl ⊢
  have hsl := qslices_len t R
  have hsz : (qslices t R).length ≤ 64 * 1024 := Nat.le_trans hsl (Nat.mul_le_mul hrl ht.1)
  rw [eq_ref22_Answer_l1 t ht.1 R [] (by simp; omega), obnd_some, List.nil_append]
  have k2 := (take_eq q (qslices t R) (by omega)).2
  rw [k2, obnd_some]
  have hlen : (qtk q.Kind q.Count (qslices t R)).length ≤ (qslices t R).length := by
    unfold qtk; split
    · simp; omega
    split
    · simp
    · exact Nat.le_refl _
  obtain ⟨g, e1, e2, -⟩ := of_eq (qtk q.Kind q.Count (qslices t R)) (by omega) (fun r hr => by
    have h1 := ht.2.1 r (qslices_sub _ _ r (qtk_sub _ _ _ r hr))
    simp only [vrow, Bool.and_eq_true, decide_eq_true_eq] at h1
    omega)
  rw [e2]
  exact ⟨_, rfl, rfl, e1, e2⟩
end Go.Proofs.YtlbnhhfaedhgfaaGreatDoor
namespace Go.Proofs.YtlbnhhfaedhgfaaGreatDoor
set_option linter.unusedSimpArgs false
set_option linter.unusedVariables false
open Go.RowKit
theorem flt_or {t : List Kv} {p q : Kv → Bool} (ht : t.Pairwise fun a b => bl a.key b.key = true) (h : ∀ x y, p x = true → q y = true → bl x.key y.key = true) : t.filter p ++ t.filter q = t.filter fun x => p x || q x := by
  induction t with
  | nil => rfl
  | cons x t ih =>
    obtain ⟨h1, h2⟩ := List.pairwise_cons.1 ht
    rw [List.filter_cons, List.filter_cons, List.filter_cons]
    have irr : ∀ k : ByteArray, bl k k = false := fun k => bytesLess_irrefl k.toList
    have tr : ∀ a b c : ByteArray, bl a b = true → bl b c = true → bl a c = true := fun a b c g1 g2 => bytesLess_trans g1 g2
    cases hp : p x with
    | true =>
      have hq : q x = false := by
        cases hq : q x with
        | false => rfl
        | true => have := h x x hp hq; rw [irr] at this; cases this
      simp only [hq, Bool.true_or, if_true, Bool.false_eq_true, if_false, List.cons_append]
      rw [ih h2]
    | false =>
      cases hq : q x with
      | false =>
        simp only [Bool.or_self, Bool.false_eq_true, if_false]
        exact ih h2
      | true =>
        have none : t.filter p = [] := List.filter_eq_nil_iff.2 fun y hy hpy => by
          have g1 := h1 y hy
          have g2 := h y x hpy hq
          have := tr _ _ _ g1 g2
          rw [irr] at this; cases this
        simp only [Bool.false_or, if_true, Bool.false_eq_true, if_false]
        rw [none, List.nil_append]
        have e : t.filter (fun x => p x || q x) = t.filter q := by
          have := ih h2
          rw [none, List.nil_append] at this
          exact this.symm
        rw [e]
theorem contains_lo' {r : Rng} {k : ByteArray} (h : contains r k = true) : emp r = false ∧ vk k = true ∧ Bnd.lt ⟨k, false⟩ r.lo = false ∧ Bnd.lt ⟨k, false⟩ r.hi = true := by
  cases he : emp r with
  | true => rw [contains_emp he] at h; cases h
  | false => exact ⟨rfl, (contains_pt he k).1 h⟩
theorem bl_lt (a b : ByteArray) : Bnd.lt ⟨a, false⟩ ⟨b, false⟩ = bl a b := by simp [Bnd.lt, bl]
theorem qslices_any {t : List Kv} (ht : tvalid t = true) : ∀ {l : List Rng}, (∀ r ∈ l, emp r = false) → l.Pairwise (fun a b => b.lo.lt a.hi = false) → qslices t l = t.filter fun x => l.any fun r => contains r x.key
  | [], _, _ => by simp [qslices]
  | r :: l, h1, h2 => by
    obtain ⟨s1, s2⟩ := List.pairwise_cons.1 h2
    have ih := qslices_any ht (l := l) (fun x hx => h1 x (List.mem_cons_of_mem _ hx)) s2
    have e : qslices t (r :: l) = t.filter (fun x => contains r x.key) ++ qslices t l := by simp [qslices]
    rw [e, ih, flt_or ((tvalid_iff t).1 ht).2.2 (q := fun x => l.any fun r => contains r x.key) fun x y hx hy => ?_]
    · simp only [List.any_cons]
    · obtain ⟨c, hc, hcy⟩ := List.any_eq_true.1 hy
      obtain ⟨g1, g2, g3, g4⟩ := contains_lo' hx
      obtain ⟨k1, k2, k3, k4⟩ := contains_lo' hcy
      have v1 := (emp_iff r).1 g1
      have v2 := (emp_iff c).1 k1
      have hs := s1 c hc
      have vy : vb ⟨y.key, false⟩ = true := by simp [vb, k2]
      have a1 : Bnd.lt ⟨x.key, false⟩ c.lo = true := lt_le v1.2.1 v2.1 g4 hs
      have a2 : Bnd.lt ⟨x.key, false⟩ ⟨y.key, false⟩ = true := lt_le v2.1 vy a1 k3
      rwa [bl_lt] at a2
theorem any_pts {l m : List Rng} (h1 : ∀ r ∈ l, emp r = false) (h2 : ∀ r ∈ m, emp r = false) (h : ∀ b, vb b = true → (Pt l b ↔ Pt m b)) {k : ByteArray} (hk : vk k = true) : (l.any fun r => contains r k) = m.any fun r => contains r k := by
  have a1 := any_pt (l := l) hk
  have a2 := any_pt (l := m) hk
  rw [filter_ne h1] at a1
  rw [filter_ne h2] at a2
  have := h ⟨k, false⟩ (by simp [vb, hk])
  rw [Bool.eq_iff_iff, a1, a2]; exact this
theorem Gd.slices {t : List Kv} (ht : tvalid t = true) {l m : List Rng} (g : Gd l m) (hm : Nrm m) : qslices t l = qslices t m := by
  rw [qslices_any ht g.ne g.srt, qslices_any ht hm.ne (hm.gap.imp fun g => lt_asymm g)]
  refine List.filter_congr fun x hx => ?_
  have hv := ((tvalid_iff t).1 ht).2.1 x hx
  simp only [vrow, Bool.and_eq_true] at hv
  exact any_pts g.ne hm.ne g.pts hv.1
theorem qslices_app (t : List Kv) (a b : List Rng) : qslices t (a ++ b) = qslices t a ++ qslices t b := by simp [qslices]
theorem Tl.pts {t : List Kv} : ∀ {l : List TView} {a b : Bnd}, Tl t a l b → vb a = true → b.lt a = false ∧ vb b = true ∧ (∀ v ∈ l, v.Interval.lo.lt a = false) ∧ (l.map (·.Interval)).Pairwise (fun x y => y.lo.lt x.hi = false) ∧ ∀ k, vb k = true → (Pt (l.map (·.Interval)) k ↔ k.lt a = false ∧ k.lt b = true)
  | [], a, b, h, ha => by
    obtain rfl : a = b := h
    refine ⟨lt_irrefl _, ha, by simp, by simp, fun k hk => ?_⟩
    constructor
    · intro h; exact absurd h pt_nil
    · rintro ⟨h1, h2⟩; rw [h1] at h2; cases h2
  | v :: l, a, b, ⟨g1, g2, g3, g4, g5⟩, ha => by
    obtain ⟨e1, e2, e3⟩ := (emp_iff v.Interval).1 g2
    obtain ⟨i1, i2, i3, i4, i5⟩ := g5.pts e2
    rw [← g1]
    have hb : v.Interval.lo.lt b = true := by
      cases hh : v.Interval.lo.lt b with
      | true => rfl
      | false =>
        exfalso
        cases h2 : b.lt v.Interval.lo with
        | true => rw [lt_trans h2 e3] at i1; cases i1
        | false =>
          have e := lt_total e1 i2 hh h2
          rw [← e, e3] at i1; cases i1
    refine ⟨lt_asymm hb, i2, fun x hx => ?_, ?_, fun k hk => ?_⟩
    · rcases List.mem_cons.1 hx with rfl | hx
      · exact lt_irrefl _
      · have h1 := i3 x hx
        cases hh : x.Interval.lo.lt v.Interval.lo with
        | false => rfl
        | true => rw [lt_trans hh e3] at h1; cases h1
    · rw [List.map_cons, List.pairwise_cons]
      refine ⟨fun x hx => ?_, i4⟩
      obtain ⟨y, hy, rfl⟩ := List.mem_map.1 hx
      exact i3 y hy
    · rw [List.map_cons, pt_cons, i5 k hk]
      constructor
      · rintro (⟨h1, h2⟩ | ⟨h1, h2⟩)
        · refine ⟨h1, ?_⟩
          cases hh : k.lt b with
          | true => rfl
          | false =>
            have h3 := lt_le e2 i2 h2 i1
            rw [h3] at hh; cases hh
        · refine ⟨?_, h2⟩
          cases hh : k.lt v.Interval.lo with
          | false => rfl
          | true => rw [lt_trans hh e3] at h1; cases h1
      · rintro ⟨h1, h2⟩
        cases hh : k.lt v.Interval.hi with
        | true => exact .inl ⟨h1, rfl⟩
        | false => exact .inr ⟨rfl, h2⟩
theorem lt_top (k : ByteArray) : Bnd.lt ⟨k, false⟩ topB = true := by simp [Bnd.lt, topB]
theorem zb_le (k : ByteArray) : Bnd.lt ⟨k, false⟩ zb = false := by
  show Bnd.lt ⟨k, false⟩ ⟨⟨#[]⟩, false⟩ = false
  have e : (⟨#[]⟩ : ByteArray).toList = [] := by kernel_rfl
  simp only [Bnd.lt, Bool.not_false, Bool.true_and, Bool.false_or]
  rw [e]
  cases k.toList <;> rfl
theorem vb_zb : vb zb = true := by kernel_rfl
theorem Tl.rows {t : List Kv} (ht : tvalid t = true) {vs : List TView} (h : Tl t zb vs topB) : vs.flatMap (·.Rows) = t := by
  obtain ⟨-, -, -, h4, h5⟩ := h.pts vb_zb
  have e : vs.flatMap (·.Rows) = qslices t (vs.map (·.Interval)) := by
    unfold qslices
    rw [List.flatMap_map]
    have : ∀ l : List TView, (∀ v ∈ l, v ∈ vs) → l.flatMap (·.Rows) = l.flatMap fun v => t.filter fun x => contains v.Interval x.key := fun l => by
      induction l with
      | nil => intro _; rfl
      | cons v l ih =>
        intro hl
        rw [List.flatMap_cons, List.flatMap_cons, ih fun x hx => hl x (List.mem_cons_of_mem _ hx), (h.mem v (hl v List.mem_cons_self)).2.1]
    exact this vs fun _ h => h
  have hne : ∀ r ∈ vs.map (·.Interval), emp r = false := fun r hr => by
    obtain ⟨v, hv, rfl⟩ := List.mem_map.1 hr
    exact (h.mem v hv).2.2
  rw [e, qslices_any ht hne h4]
  refine List.filter_eq_self.2 fun x hx => ?_
  have hv := ((tvalid_iff t).1 ht).2.1 x hx
  simp only [vrow, Bool.and_eq_true] at hv
  have := any_pt (l := vs.map (·.Interval)) hv.1
  rw [filter_ne hne] at this
  exact this.2 ((h5 ⟨x.key, false⟩ (by simp [vb, hv.1])).2 ⟨zb_le _, lt_top _⟩)
end Go.Proofs.YtlbnhhfaedhgfaaGreatDoor
namespace Go.Proofs.YtlbnhhfaedhgfaaGreatDoor
set_option linter.unusedSimpArgs false
set_option linter.unusedVariables false
open Go.RowKit
theorem lget_z {α : Type} (x : α) (t : List α) : lget (x :: t) 0 = some x := by
  have := lget_nat (x :: t) 0
  rw [show ((0 : Nat) : Int) = 0 from rfl] at this
  rw [this]; rfl
theorem lget_e {α : Type} (i : List α) (x : α) (h : i.length ≤ 100000) : lget (i ++ [x]) (i64w (((i ++ [x]).length : Int) - 1)) = some x := by
  rw [List.length_append, List.length_singleton, i64w_id (by omega) (by omega), show ((i.length + 1 : Nat) : Int) - 1 = (i.length : Int) by omega, lget_nat]; simp
theorem ov {a b : Rng} (ha : emp a = false) (hb : emp b = false) : emp (isect a b) = false ↔ a.lo.lt b.hi = true ∧ b.lo.lt a.hi = true := by
  obtain ⟨a1, a2, a3⟩ := (emp_iff a).1 ha
  obtain ⟨b1, b2, b3⟩ := (emp_iff b).1 hb
  have e : (greater a.lo b.lo).lt (lesser a.hi b.hi) = true ↔ a.lo.lt b.hi = true ∧ b.lo.lt a.hi = true := by
    rw [greater_if, lesser_if]
    cases h1 : a.lo.lt b.lo <;> cases h2 : b.hi.lt a.hi <;> simp only [Bool.false_eq_true, if_true, if_false]
    · constructor
      · intro h
        refine ⟨?_, le_lt a1 b1 h1 h⟩
        cases hh : a.lo.lt b.hi with
        | true => rfl
        | false =>
          have := le_lt a1 b2 hh h
          rw [this] at h2; cases h2
      · rintro ⟨_, _⟩; exact a3
    · constructor
      · intro h; exact ⟨h, le_lt a1 b1 h1 (lt_trans h h2)⟩
      · rintro ⟨h, _⟩; exact h
    · constructor
      · intro h; exact ⟨lt_trans h1 b3, h⟩
      · rintro ⟨_, h⟩; exact h
    · constructor
      · intro _; exact ⟨lt_trans h1 b3, lt_trans b3 h2⟩
      · intro _; exact b3
  rw [isect_ne ha hb]
  cases h : (greater a.lo b.lo).lt (lesser a.hi b.hi) with
  | true =>
    rw [h] at e
    simp only [if_true]
    rw [emp_mk (greater_vb a1 b1) (lesser_vb a2 b2), h]
    exact ⟨fun _ => e.1 rfl, fun _ => rfl⟩
  | false =>
    rw [h] at e
    simp only [Bool.false_eq_true, if_false, emp_zr]
    exact ⟨(fun h => by cases h), fun h => absurd (e.2 h) (by simp)⟩
def cnt (vs : List TView) (r : Rng) : Nat := (vs.filter fun v => !emp (isect v.Interval r)).length
def cntL (vs : List TView) (l : List Rng) : Nat := (l.map (cnt vs)).foldr (· + ·) 0
theorem cnt_le (vs : List TView) (r : Rng) : cnt vs r ≤ vs.length := List.length_filter_le _ _
theorem cntL_app (vs : List TView) : ∀ a b : List Rng, cntL vs (a ++ b) = cntL vs a + cntL vs b
  | [], b => by simp [cntL]
  | r :: a, b => by
    have := cntL_app vs a b
    simp only [cntL, List.cons_append, List.map_cons, List.foldr_cons] at this ⊢
    omega
theorem cntL_one (vs : List TView) (r : Rng) : cntL vs [r] = cnt vs r := by simp [cntL]
theorem cntL_cons (vs : List TView) (r : Rng) (a : List Rng) : cntL vs (r :: a) = cnt vs r + cntL vs a := by simp [cntL]
theorem cntL_le (vs : List TView) : ∀ l : List Rng, cntL vs l ≤ l.length * vs.length
  | [] => by simp [cntL]
  | r :: l => by
    rw [cntL_cons, List.length_cons, Nat.succ_mul]
    have := cnt_le vs r
    have := cntL_le vs l
    omega
theorem cnt_lt {vs : List TView} {v : TView} (hv : v ∈ vs) (hne : ∀ u ∈ vs, emp u.Interval = false) {x y : Rng} (hx : emp x = false) (hy : emp y = false) (h1 : emp (isect v.Interval x) = false) (h2 : emp (isect v.Interval y) = true) (hsub : ∀ u ∈ vs, emp (isect u.Interval y) = false → emp (isect u.Interval x) = false) : cnt vs y < cnt vs x := by
  unfold cnt
  have key : ∀ l : List TView, (∀ u ∈ l, u ∈ vs) → (l.filter fun v => !emp (isect v.Interval y)).length ≤ (l.filter fun v => !emp (isect v.Interval x)).length ∧ (v ∈ l → (l.filter fun v => !emp (isect v.Interval y)).length < (l.filter fun v => !emp (isect v.Interval x)).length) := by
    intro l
    induction l with
    | nil => intro _; exact ⟨Nat.le_refl _, fun h => by simp at h⟩
    | cons u l ih =>
      intro hl
      obtain ⟨i1, i2⟩ := ih fun z hz => hl z (List.mem_cons_of_mem _ hz)
      have hu := hl u List.mem_cons_self
      rw [List.filter_cons, List.filter_cons]
      cases he : emp (isect u.Interval y) with
      | false =>
        rw [hsub u hu he]
        simp only [Bool.not_false, if_true, List.length_cons]
        refine ⟨by omega, fun hm => ?_⟩
        rcases List.mem_cons.1 hm with rfl | hm
        · rw [h2] at he; cases he
        · have := i2 hm; omega
      | true =>
        cases he2 : emp (isect u.Interval x) with
        | false =>
          simp only [Bool.not_true, Bool.not_false, Bool.false_eq_true, if_false, if_true, List.length_cons]
          exact ⟨by omega, fun _ => by omega⟩
        | true =>
          simp only [Bool.not_true, Bool.false_eq_true, if_false]
          refine ⟨i1, fun hm => ?_⟩
          rcases List.mem_cons.1 hm with rfl | hm
          · rw [h1] at he2; cases he2
          · exact i2 hm
  exact (key vs fun _ h => h).2 hv
theorem cut_cnt {vs : List TView} {y : Rng} : cntL vs (cutT y) = if emp y = true then 0 else cnt vs y := by
  unfold cutT
  split
  · rfl
  · exact cntL_one _ _
theorem zb_low (b : Bnd) : b.lt zb = false := by
  show b.lt ⟨⟨#[]⟩, false⟩ = false
  have e : (⟨#[]⟩ : ByteArray).toList = [] := by kernel_rfl
  simp only [Bnd.lt, Bool.false_or]
  rw [e]
  cases b.key.toList <;> simp [Op.bytesLess]
theorem top_high (b : Bnd) : topB.lt b = false := by simp [Bnd.lt, topB]
theorem lt_top' {a b : Bnd} (h : a.lt b = true) : a.lt topB = true := by
  cases ht : a.top with
  | true => rw [Bnd.lt, ht] at h; simp at h
  | false => simp [Bnd.lt, topB, ht]
theorem Tl.up {t : List Kv} {k : Bnd} : ∀ {l : List TView} {a b : Bnd}, Tl t a l b → k.lt a = false → k.lt b = true → ∃ v ∈ l, k.lt v.Interval.lo = false ∧ k.lt v.Interval.hi = true
  | [], a, b, h, h1, h2 => by
    obtain rfl : a = b := h
    rw [h1] at h2; cases h2
  | v :: l, a, b, ⟨g1, _, _, _, g5⟩, h1, h2 => by
    cases hh : k.lt v.Interval.hi with
    | true => exact ⟨v, List.mem_cons_self, by rw [g1]; exact h1, hh⟩
    | false =>
      obtain ⟨u, hu, h3⟩ := g5.up hh h2
      exact ⟨u, List.mem_cons_of_mem _ hu, h3⟩
theorem Tl.dn {t : List Kv} {k : Bnd} : ∀ {l : List TView} {a b : Bnd}, Tl t a l b → a.lt k = true → b.lt k = false → ∃ v ∈ l, v.Interval.lo.lt k = true ∧ v.Interval.hi.lt k = false
  | [], a, b, h, h1, h2 => by
    obtain rfl : a = b := h
    rw [h1] at h2; cases h2
  | v :: l, a, b, ⟨g1, _, _, _, g5⟩, h1, h2 => by
    cases hh : v.Interval.hi.lt k with
    | false => exact ⟨v, List.mem_cons_self, by rw [g1]; exact h1, hh⟩
    | true =>
      obtain ⟨u, hu, h3⟩ := g5.dn hh h2
      exact ⟨u, List.mem_cons_of_mem _ hu, h3⟩
theorem miss_up' {x i : Rng} (h1 : x.lo.lt i.lo = false) (h2 : x.lo.lt i.hi = true) : missV false x i = false := by
  unfold missV
  rw [if_neg (by simp), decide_eq_false, decide_eq_false]
  · rfl
  · intro hh
    have := (cmp_pos i.hi x.lo).2 h2
    omega
  · intro hh
    rw [(cmp_pos _ _).1 hh] at h1; cases h1
theorem miss_dn' {x i : Rng} (h1 : i.hi.lt x.hi = false) (h2 : i.lo.lt x.hi = true) : missV true x i = false := by
  unfold missV
  rw [if_pos rfl, decide_eq_false, decide_eq_false]
  · rfl
  · intro hh
    have := (cmp_neg i.lo x.hi).2 h2
    omega
  · intro hh
    rw [(cmp_neg _ _).1 hh] at h1; cases h1
theorem some_view {t : List Kv} {vs : List TView} (h : Tl t zb vs topB) {x : Rng} (hx : emp x = false) (d : Bool) : ∃ v ∈ vs, missV d x v.Interval = false := by
  obtain ⟨a1, a2, a3⟩ := (emp_iff x).1 hx
  cases d with
  | false =>
    obtain ⟨v, hv, h1, h2⟩ := h.up (k := x.lo) (zb_low _) (lt_top' a3)
    exact ⟨v, hv, miss_up' h1 h2⟩
  | true =>
    have hz : zb.lt x.hi = true := le_lt a1 vb_zb (zb_low _) a3
    obtain ⟨v, hv, h1, h2⟩ := h.dn (k := x.hi) hz (top_high _)
    exact ⟨v, hv, miss_dn' h2 h1⟩
theorem step_cnt {vs : List TView} (hne : ∀ u ∈ vs, emp u.Interval = false) {w : TWalk} {x : Rng} (hx : emp x = false) (hw : wantW w = (x, true)) {v : TView} (hv : v ∈ vs) (hm : missV (downQ w.Query) x v.Interval = false) :
    cntL vs (stepW w v x (isect v.Interval x)).Todo < cntL vs w.Todo ∧ emp (isect (isect v.Interval x) x) = false := by
  have hi := hne v hv
  have hd : doneW w = false := want_of (by rw [hw])
  have ht := notDone hd
  have e1 := want_1 (w := w) (by rw [hw])
  rw [hw] at e1
  obtain ⟨a1, a2, a3⟩ := (emp_iff x).1 hx
  obtain ⟨b1, b2, b3⟩ := (emp_iff v.Interval).1 hi
  cases hq : downQ w.Query with
  | false =>
    rw [hq] at hm e1
    obtain ⟨z, r, e2⟩ := cons_of ht
    obtain rfl : x = z := by rw [e2] at e1; exact e1
    obtain ⟨k1, k2⟩ := miss_up hm
    have hov : emp (isect v.Interval x) = false := (ov hi hx).2 ⟨le_lt a1 b1 k1 a3, k2⟩
    obtain ⟨h, e, j1, j2, j3⟩ := isect_up hi hx k1 k2
    have hh : h = lesser v.Interval.hi x.hi := by
      have := isect_ne hi hx
      rw [e] at this
      split at this
      · exact congrArg Rng.hi this
      · exfalso
        rw [e, this, emp_zr] at hov; cases hov
    refine ⟨?_, ?_⟩
    · unfold stepW
      rw [if_neg (by simp [hq]), e, e2]
      simp only [List.tail_cons]
      rw [cntL_app, cntL_cons, cut_cnt]
      have one : 0 < cnt vs x := by
        unfold cnt
        exact List.length_pos_iff.2 (List.ne_nil_of_mem (List.mem_filter.2 ⟨hv, by simp [hov]⟩))
      split
      · omega
      · rename_i hne2
        have he : emp ⟨h, x.hi⟩ = false := by simpa using hne2
        have h3 : h.lt x.hi = true := ((emp_iff _).1 he).2.2
        have hi2 : h = v.Interval.hi := by
          rw [hh, lesser_if]
          split
          · rename_i h4
            rw [hh, lesser_if, if_pos h4, lt_irrefl] at h3; cases h3
          · rfl
        have := cnt_lt hv hne hx he hov (by
          cases h5 : emp (isect v.Interval ⟨h, x.hi⟩) with
          | true => rfl
          | false =>
            have := ((ov hi he).1 h5).2
            simp only [hi2, lt_irrefl] at this; cases this) (fun u hu h5 => by
          obtain ⟨g1, g2⟩ := (ov (hne u hu) he).1 h5
          exact (ov (hne u hu) hx).2 ⟨g1, lt_trans j2 g2⟩)
        omega
    · have hp : emp ⟨x.lo, h⟩ = false := by rw [emp_mk a1 j1, j2]; rfl
      rw [e]
      exact (ov hp hx).2 ⟨a3, j2⟩
  | true =>
    rw [hq] at hm e1
    obtain ⟨i, z, e2⟩ := snoc_of ht
    obtain rfl : x = z := by
      rw [e2] at e1
      simp only [pickW, if_true, List.getLast?_concat] at e1
      exact e1
    obtain ⟨k1, k2⟩ := miss_dn hm
    have hov : emp (isect v.Interval x) = false := (ov hi hx).2 ⟨k2, lt_le a2 b2 a3 k1⟩
    obtain ⟨h, e, j1, j2, j3⟩ := isect_dn hi hx k1 k2
    have hh : h = greater v.Interval.lo x.lo := by
      have := isect_ne hi hx
      rw [e] at this
      split at this
      · exact congrArg Rng.lo this
      · exfalso
        rw [e, this, emp_zr] at hov; cases hov
    refine ⟨?_, ?_⟩
    · unfold stepW
      rw [if_pos hq, e, e2]
      simp only [List.dropLast_concat]
      rw [cntL_app, cntL_app, cut_cnt, cntL_one]
      have one : 0 < cnt vs x := by
        unfold cnt
        exact List.length_pos_iff.2 (List.ne_nil_of_mem (List.mem_filter.2 ⟨hv, by simp [hov]⟩))
      split
      · omega
      · rename_i hne2
        have he : emp ⟨x.lo, h⟩ = false := by simpa using hne2
        have h3 : x.lo.lt h = true := ((emp_iff _).1 he).2.2
        have hi2 : h = v.Interval.lo := by
          rw [hh, greater_if]
          split
          · rename_i h4
            rw [hh, greater_if, if_pos h4, lt_irrefl] at h3; cases h3
          · rfl
        have := cnt_lt hv hne hx he hov (by
          cases h5 : emp (isect v.Interval ⟨x.lo, h⟩) with
          | true => rfl
          | false =>
            have := ((ov hi he).1 h5).1
            simp only [hi2, lt_irrefl] at this; cases this) (fun u hu h5 => by
          obtain ⟨g1, g2⟩ := (ov (hne u hu) he).1 h5
          exact (ov (hne u hu) hx).2 ⟨lt_trans g1 j3, g2⟩)
        omega
    · have hp : emp ⟨h, x.hi⟩ = false := by rw [emp_mk j1 a2, j3]; rfl
      rw [e]
      exact (ov hp hx).2 ⟨j3, a3⟩
def RI (t : List Kv) (w : TWalk) : Prop := ∀ u ∈ w.Visits, u.View.Rows = t.filter fun x => contains u.Part x.key
theorem RI.rows {t : List Kv} {w : TWalk} (h : RI t w) : rowsW w.Visits = qslices t (w.Visits.map (·.Part)) := by
  unfold rowsW qslices
  rw [List.flatMap_map]
  have : ∀ l : List TVisit, (∀ u ∈ l, u ∈ w.Visits) → (l.flatMap fun v => v.View.Rows) = l.flatMap fun u => t.filter fun x => contains u.Part x.key := fun l => by
    induction l with
    | nil => intro _; rfl
    | cons u l ih =>
      intro hl
      rw [List.flatMap_cons, List.flatMap_cons, ih fun x hx => hl x (List.mem_cons_of_mem _ hx), h u (hl u List.mem_cons_self)]
  exact this _ fun _ h => h
theorem RI.step {t : List Kv} {w : TWalk} (h : RI t w) {v : TView} (hv : v.Rows = t.filter fun x => contains v.Interval x.key) (x : Rng) : RI t (stepW w v x (isect v.Interval x)) := by
  have key : (visitV v (isect v.Interval x)).View.Rows = t.filter fun z => contains (visitV v (isect v.Interval x)).Part z.key := by
    unfold visitV
    simp only
    rw [hv, List.filter_filter]
    refine List.filter_congr fun z _ => ?_
    rw [contains_isect]
    cases contains v.Interval z.key <;> simp
  unfold stepW
  split
  · intro u hu
    rcases List.mem_cons.1 hu with rfl | hu
    · exact key
    · exact h u hu
  · intro u hu
    rcases List.mem_append.1 hu with hu | hu
    · exact h u hu
    · rw [List.mem_singleton.1 hu]; exact key
theorem done_rows {t : List Kv} (ht : tvalid t = true) {w : TWalk} {q : TQuery} (hq : w.Query = q) (hr : RI t w) (hg : Gd (partsW w) (qrg q)) (hd : doneW w = true) : qtk q.Kind q.Count (rowsW w.Visits) = qtk q.Kind q.Count (qslices t (qrg q)) := by
  have e := hg.slices ht (qrg_nrm q)
  have er := hr.rows
  rw [← e]
  unfold partsW
  rw [hq]
  unfold doneW at hd
  rw [hq] at hd
  cases hT : w.Todo with
  | nil =>
    rw [er]
    split <;> simp
  | cons a l =>
    rw [hT] at hd
    have hd : enough q ((rowsW w.Visits).length : Int) = true := hd
    unfold enough at hd
    simp only [Bool.and_eq_true, Bool.or_eq_true, decide_eq_true_eq] at hd
    obtain ⟨hk, hc⟩ := hd
    rw [← hT]
    by_cases h4 : q.Kind = 4
    · have hdn : downQ q = true := decide_eq_true h4
      rw [if_pos hdn, qslices_app, ← er]
      unfold qtk
      rw [if_neg (by omega), if_pos h4, if_neg (by omega), if_pos h4]
      generalize qslices t w.Todo = B at *
      generalize rowsW w.Visits = A at *
      have e1 : (max 0 (min q.Count (A.length : Int))).toNat = (max 0 q.Count).toNat := by omega
      have e2 : (max 0 (min q.Count ((B ++ A).length : Int))).toNat = (max 0 q.Count).toNat := by simp only [List.length_append]; omega
      rw [e1, e2]
      have e3 : (B ++ A).length - (max 0 q.Count).toNat = B.length + (A.length - (max 0 q.Count).toNat) := by rw [List.length_append]; omega
      rw [e3, List.drop_length_add_append]
    · have h3 : q.Kind = 3 := by omega
      have hdn : ¬ downQ q = true := by unfold downQ; simp [h4]
      rw [if_neg hdn, qslices_app, ← er]
      unfold qtk
      rw [if_pos h3, if_pos h3]
      generalize qslices t w.Todo = B at *
      generalize rowsW w.Visits = A at *
      have e1 : (max 0 (min q.Count (A.length : Int))).toNat = (max 0 q.Count).toNat := by omega
      have e2 : (max 0 (min q.Count ((A ++ B).length : Int))).toNat = (max 0 q.Count).toNat := by simp only [List.length_append]; omega
      rw [e1, e2, List.take_append_of_le_length (by omega)]
end Go.Proofs.YtlbnhhfaedhgfaaGreatDoor
