/-
  Lemmas: Plain laws of the models: numbers and aggregates: the program's are the reference's. / Aggregates in the program, of rows whose value is 1. / The length of a union. / An answer of the program (of one row whose value is 1); the examples of the chapter. / Plain laws of the models: answers: the program's are the reference's. / The laws of chapter 22 hold of their models.
-/
import Derived.Test.YtjnnkpkbgdknmaaDoorPS8
import Derived.Test.YtjnnkpkbgdknmaaDoorPS3
import Derived.Test.YtjnnkpkbgdknmaaDoorPS4
import Derived.Test.YtjnnkpkbgdknmaaDoorPS7
namespace Go.Proofs.YtjnnkpkbgdknmaaDoor
set_option linter.unusedSimpArgs false
set_option linter.unusedVariables false
open Go.RowKit
theorem sget_lt {s : ByteArray} {m : Nat} (h : m < s.size) : sget s (m : Int) = some ((s.get! m).toNat : Int) := by
  unfold sget; rw [if_pos (by omega)]; simp
theorem dec_ascii {s : ByteArray} {i : Nat} (h : i < s.size) (hb : (s.get! i).toNat < 128) : Utf8.decode s i = ((s.get! i).toNat, 1) := by
  unfold Utf8.decode
  simp only [Nat.add_zero, Utf8.runeError]
  rw [if_pos (by simpa using hb)]
theorem obnd_if {α β : Type} {p : Prop} [Decidable p] (a b : α) (k : α → Option β) : obnd (if p then some a else some b) k = k (if p then a else b) := by split <;> rfl
theorem i32w_id {a : Int} (h1 : -2147483648 ≤ a) (h2 : a ≤ 2147483647) : IntKind.i32.wrap a = a := wi32 h1 h2
theorem u8w_id {a : Int} (h1 : 0 ≤ a) (h2 : a ≤ 255) : IntKind.u8.wrap a = a := wu8 h1 h2
theorem ref21_num_l1 (s : ByteArray) (hs : s.size ≤ 13) : ∀ (fuel m : Nat), s.size - m < fuel → m ≤ s.size → (∀ j, j < m → isD s j) →
    Mref21_Number_l1 s fuel (dval s m : Int) (m : Int) = some (open Classical in if allD s then .nxt (dval s s.size : Int) else .ret (0, false))
  | 0, _, h, _, _ => absurd h (by omega)
  | fuel + 1, m, h, hm, hd => by
    rw [Mref21_Number_l1.eq_2, sel_ite]
    by_cases hi : m < s.size
    · rw [if_pos (by simpa using hi), obnd_some, ocbnd_nxt, sget_lt hi]
      simp only [obnd_some]
      have hb := get_lt s m
      have hv := dval_13 hd (by omega)
      by_cases hdm : isD s m
      · have hdm' := hdm
        unfold isD at hdm'
        have e1 : decide (((s.get! m).toNat : Int) < 48) = false := decide_eq_false (by omega)
        have e2 : decide (57 < ((s.get! m).toNat : Int)) = false := decide_eq_false (by omega)
        rw [e1, sel_false, e2, obnd_some, sel_false, u8w_id (by omega) (by omega), i64w_id (a := 10 * (dval s m : Int)) (by omega) (by omega), i64w_id (a := ((s.get! m).toNat : Int) - 48) (by omega) (by omega), i64w_id (by omega) (by omega), i64w_id (by omega) (by omega)]
        have := ref21_num_l1 s hs fuel (m + 1) (by omega) (by omega) (fun j hj => by
          rcases Nat.lt_or_ge j m with h1 | h1
          · exact hd j h1
          · rw [show j = m by omega]; exact hdm)
        have e3 : ((dval s (m + 1) : Nat) : Int) = 10 * (dval s m : Int) + (((s.get! m).toNat : Int) - 48) := by rw [dval]; omega
        rw [e3] at this
        rw [← this]; congr 1
      · have hna : ¬ allD s := fun h => hdm (h m hi)
        rw [if_neg hna]
        unfold isD at hdm
        by_cases h48 : ((s.get! m).toNat : Int) < 48
        · rw [decide_eq_true h48, sel_true, obnd_some, sel_true]
        · rw [decide_eq_false h48, sel_false, obnd_some, decide_eq_true (by omega), sel_true]
    · rw [if_neg (by simpa using hi), obnd_some, ocbnd_ret]
      obtain rfl : m = s.size := by omega
      rw [if_pos (show allD s from fun k hk => hd k hk)]
theorem fold_num_l1 (s : ByteArray) (hs : s.size ≤ 4000000000) : ∀ (fuel m : Nat), s.size - m < fuel → m ≤ s.size → (∀ j, j < m → isD s j) → dval s m ≤ 1000000000000 →
    Mfold_Number_l1 s fuel (dval s m : Int) m = some (open Classical in if allD s ∧ dval s s.size ≤ 1000000000000 then .nxt (dval s s.size : Int) else .ret (0, false))
  | 0, _, h, _, _, _ => absurd h (by omega)
  | fuel + 1, m, h, hm, hd, hv => by
    rw [Mfold_Number_l1.eq_2, sel_ite]
    by_cases hi : m < s.size
    · rw [if_pos (by simpa using hi), bnd_eq]
      have hb := get_lt s m
      by_cases hdm : isD s m
      · have hdm' := hdm
        unfold isD at hdm'
        rw [dec_ascii hi (by omega)]
        have e1 : decide (((s.get! m).toNat : Int) < 48) = false := decide_eq_false (by omega)
        have e2 : decide (57 < ((s.get! m).toNat : Int)) = false := decide_eq_false (by omega)
        simp only
        rw [e1, sel_false, e2, obnd_some, sel_false, i32w_id (by omega) (by omega), i64w_id (a := (dval s m : Int) * 10) (by omega) (by omega), i64w_id (a := ((s.get! m).toNat : Int) - 48) (by omega) (by omega), i64w_id (by omega) (by omega)]
        have e3 : ((dval s (m + 1) : Nat) : Int) = (dval s m : Int) * 10 + (((s.get! m).toNat : Int) - 48) := by rw [dval]; omega
        rw [← e3, sel_ite]
        by_cases hbig : dval s (m + 1) ≤ 1000000000000
        · rw [if_neg (by simp; omega)]
          exact fold_num_l1 s hs fuel (m + 1) (by omega) (by omega) (fun j hj => by
            rcases Nat.lt_or_ge j m with h1 | h1
            · exact hd j h1
            · rw [show j = m by omega]; exact hdm) hbig
        · rw [if_pos (by simp; omega), if_neg]
          rintro ⟨-, h2⟩
          have := dval_mono (d := s) (show m + 1 ≤ s.size by omega)
          omega
      · have hna : ¬ (allD s ∧ dval s s.size ≤ 1000000000000) := fun h => hdm (h.1 m hi)
        rw [if_neg hna]
        have hrej : (Utf8.decode s m).1 < 48 ∨ 57 < (Utf8.decode s m).1 := by
          apply Classical.byContradiction
          intro hc
          have := dec_lt (s := s) (i := m) (c := (Utf8.decode s m).1) (wd := (Utf8.decode s m).2) rfl (by omega)
          apply hdm
          unfold isD
          omega
        by_cases h48 : ((Utf8.decode s m).1 : Int) < 48
        · rw [decide_eq_true h48, sel_true, obnd_some, sel_true]
        · rw [decide_eq_false h48, sel_false, obnd_some, decide_eq_true (by omega), sel_true]
    · rw [if_neg (by simpa using hi)]
      obtain rfl : m = s.size := by omega
      rw [if_pos (show allD s ∧ dval s s.size ≤ 1000000000000 from ⟨fun k hk => hd k hk, hv⟩)]
theorem ba_size0 {s : ByteArray} : s = ⟨#[]⟩ ↔ s.size = 0 := by
  constructor
  · rintro rfl; rfl
  · intro h
    obtain ⟨d⟩ := s
    have : d = #[] := Array.eq_empty_of_size_eq_zero h
    rw [this]
theorem num_tail (s : ByteArray) (hs : s.size ≤ 4000000000) (neg : Bool) :
    (obnd (sel (decide (s = ⟨#[]⟩)) (some true) (obnd (sget s 0) fun b7 => sel (decide (b7 = 48)) (sel (decide (1 < (s.size : Int))) (some true) (some neg)) (some false)) : Option Bool) fun x8 =>
      sel x8 (some (0, false)) (obnd (Mfold_Number_l1 s FU 0 0 : Option (Ctl (Int × Bool) Int)) fun mu => ocbnd mu fun n13 => sel neg (some (i64w (-n13), true)) (some (n13, true)))) =
    some (numD neg s) ∧
    (obnd (sel (decide ((s.size : Int) = 0)) (some true) (sel (decide (13 < (s.size : Int))) (some true) (obnd (sget s 0) fun b7 => sel (decide (b7 = 48)) (sel (decide (1 < (s.size : Int))) (some true) (some neg)) (some false))) : Option Bool) fun x8 =>
      sel x8 (some (0, false)) (obnd (Mref21_Number_l1 s FU 0 0 : Option (Ctl (Int × Bool) Int)) fun mu => ocbnd mu fun n15 => sel (decide (1000000000000 < n15)) (some (0, false)) (sel neg (some (i64w (-n15), true)) (some (n15, true))))) =
    some (numD neg s) := by
  by_cases h0 : s.size = 0
  · rw [decide_eq_true (ba_size0.2 h0), sel_true, obnd_some, sel_true, decide_eq_true (by omega), sel_true, obnd_some, sel_true, numD_f (badN_1 h0)]
    exact ⟨rfl, rfl⟩
  have hp := fold_num_l1 s hs FU 0 (by unfold FU; omega) (Nat.zero_le _) (fun j h => absurd h (by omega)) (by simp [dval])
  have e0 : ((dval s 0 : Nat) : Int) = 0 := rfl
  rw [e0] at hp
  have es := sget_lt (s := s) (m := 0) (by omega)
  rw [show ((0 : Nat) : Int) = 0 from rfl] at es
  rw [decide_eq_false (fun h => h0 (ba_size0.1 h)), decide_eq_false (show ¬ (s.size : Int) = 0 by omega), sel_false, sel_false, es, obnd_some]
  have hb := get_lt s 0
  -- a leading nought
  by_cases hz : (s.get! 0).toNat = 48 ∧ (1 < s.size ∨ neg = true)
  · have hbad : badN neg s := .inr (.inr (.inl hz))
    have e1 : decide (((s.get! 0).toNat : Int) = 48) = true := decide_eq_true (by omega)
    have e2 : sel (decide (1 < (s.size : Int))) (some true) (some neg) = some true := by
      by_cases h1 : 1 < s.size
      · rw [decide_eq_true (by omega), sel_true]
      · rw [decide_eq_false (by omega), sel_false, hz.2.resolve_left h1]
    rw [e1, sel_true, e2, obnd_some, sel_true, numD_f hbad]
    refine ⟨rfl, ?_⟩
    by_cases h13 : 13 < s.size
    · rw [decide_eq_true (by omega), sel_true, obnd_some, sel_true]
    · rw [decide_eq_false (by omega), sel_false, obnd_some, sel_true]
  · have e3 : sel (decide (((s.get! 0).toNat : Int) = 48)) (sel (decide (1 < (s.size : Int))) (some true) (some neg)) (some false) = some false := by
      by_cases h48 : (s.get! 0).toNat = 48
      · have h1 : ¬ 1 < s.size := fun h => hz ⟨h48, .inl h⟩
        have h2 : neg = false := by cases neg with
          | false => rfl
          | true => exact absurd ⟨h48, .inr rfl⟩ hz
        rw [decide_eq_true (by omega), sel_true, decide_eq_false (by omega), sel_false, h2]
      · rw [decide_eq_false (by omega), sel_false]
    rw [e3, obnd_some, sel_false, hp, obnd_some]
    by_cases h13 : 13 < s.size
    · rw [decide_eq_true (by omega), sel_true, obnd_some, sel_true, numD_f (badN_2 h13)]
      refine ⟨?_, rfl⟩
      rw [if_neg, ocbnd_ret]
      rintro ⟨ha, hv⟩
      have h49 : 49 ≤ (s.get! 0).toNat := by
        have h1 := ha 0 (by omega)
        unfold isD at h1
        have h2 : (s.get! 0).toNat ≠ 48 := fun h => hz ⟨h, .inl (by omega)⟩
        omega
      have h3 : 10 ^ 13 ≤ dval s 14 := dval_big h49 (k := 13)
      have h4 := dval_mono (d := s) (show 14 ≤ s.size by omega)
      omega
    · have hr := ref21_num_l1 s (by omega) FU 0 (by unfold FU; omega) (Nat.zero_le _) (fun j h => absurd h (by omega))
      rw [e0, show ((0 : Nat) : Int) = 0 from rfl] at hr
      rw [decide_eq_false (by omega), sel_false, obnd_some, sel_false, hr, obnd_some]
      by_cases ha : allD s
      · by_cases hv : dval s s.size ≤ 1000000000000
        · have hg : ¬ badN neg s := good_num h0 (by omega) (fun h => ⟨by
            apply Classical.byContradiction; intro h1; exact hz ⟨h, .inl (by omega)⟩, by
            cases neg with
            | false => rfl
            | true => exact absurd ⟨h, .inr rfl⟩ hz⟩) ha hv
          rw [if_pos ⟨ha, hv⟩, if_pos ha, ocbnd_nxt, ocbnd_nxt, numD_t hg, decide_eq_false (by omega), sel_false]
          cases neg with
          | false => exact ⟨rfl, rfl⟩
          | true => rw [sel_true, i64w_id (by omega) (by omega)]; exact ⟨rfl, rfl⟩
        · rw [if_neg (fun h => hv h.2), if_pos ha, ocbnd_ret, ocbnd_nxt, numD_f (badN_5 (by omega)), decide_eq_true (by omega), sel_true]
          exact ⟨rfl, rfl⟩
      · have hbad : badN neg s := .inr (.inr (.inr (.inl ha)))
        rw [if_neg (fun h => ha h.1), if_neg ha, ocbnd_ret, ocbnd_ret, numD_f hbad]
        exact ⟨rfl, rfl⟩
theorem number_eq (s : ByteArray) (hs : s.size ≤ 4000000000) : ∃ r, Mfold_Number s = some r ∧ Mref21_Number s = some r := by
  have key : ∀ b c : Bool, (sel (decide (0 < (s.size : Int))) (obnd (sget s 0) fun b2 => some (decide (b2 = 45))) (some false)) = some b → (sel (decide (1 < (s.size : Int))) (obnd (sget s 0) fun b2 => some (decide (b2 = 45))) (some false)) = some c →
      (b = false → c = false) → (b = true → 0 < s.size) → (b = true → c = false → s.size = 1 ∧ (s.get! 0).toNat = 45) → ∃ r, Mfold_Number s = some r ∧ Mref21_Number s = some r := by
    intro b c hb hc h1 h2 h3
    unfold Mfold_Number Mref21_Number
    rw [hb, hc, obnd_some, obnd_some]
    cases b with
    | false =>
      rw [h1 rfl, sel_false, obnd_some]
      exact ⟨_, (num_tail s hs false).1, (num_tail s hs false).2⟩
    | true =>
      have e : ssl s 1 (s.size : Int) = some (s.extract 1 s.size) := by
        have := h2 rfl
        unfold ssl; rw [if_pos (by omega)]; simp
      rw [e, obnd_some, sel_true, obnd_some]
      have hz : (s.extract 1 s.size).size = s.size - 1 := by simp [ByteArray.size_extract]
      cases c with
      | true =>
        rw [sel_true, obnd_some]
        exact ⟨_, (num_tail _ (by omega) true).1, (num_tail _ (by omega) true).2⟩
      | false =>
        obtain ⟨g1, g2⟩ := h3 rfl rfl
        rw [sel_false, obnd_some]
        refine ⟨_, (num_tail _ (by omega) true).1, ?_⟩
        refine (num_tail s hs false).2.trans ?_
        rw [numD_f (mn := false) (d := s) (badN_4 0 (by omega) (by unfold isD; omega)), numD_f (mn := true) (d := s.extract 1 s.size) (badN_1 (by omega))]
  by_cases h0 : s.size = 0
  · refine key false false ?_ ?_ (fun h => h) (fun h => by cases h) (fun h => by cases h)
    · rw [decide_eq_false (by omega), sel_false]
    · rw [decide_eq_false (by omega), sel_false]
  have es := sget_lt (s := s) (m := 0) (by omega)
  rw [show ((0 : Nat) : Int) = 0 from rfl] at es
  by_cases h1 : 1 < s.size
  · refine key (decide (((s.get! 0).toNat : Int) = 45)) (decide (((s.get! 0).toNat : Int) = 45)) ?_ ?_ (fun h => h) (fun _ => by omega) (fun h h' => by rw [h] at h'; cases h')
    · rw [decide_eq_true (by omega), sel_true, es, obnd_some]
    · rw [decide_eq_true (by omega), sel_true, es, obnd_some]
  · refine key (decide (((s.get! 0).toNat : Int) = 45)) false ?_ ?_ (fun _ => rfl) (fun _ => by omega) (fun h _ => ⟨by omega, by have := of_decide_eq_true h; omega⟩)
    · rw [decide_eq_true (by omega), sel_true, es, obnd_some]
    · rw [decide_eq_false (by omega), sel_false]
def sumF (s : TFold) : Tsum := ⟨s.Count, s.Numbers, s.Sum, s.Low, s.High, s.First, s.Last⟩
def fok (k : Nat) (f : TFold) : Prop := 0 ≤ f.Count ∧ f.Count ≤ k ∧ 0 ≤ f.Numbers ∧ f.Numbers ≤ k ∧ i64w f.Sum = f.Sum ∧ (f.Numbers = 0 → f.Low = 0 ∧ f.High = 0)
theorem add_eq (k : Nat) (f : TFold) (hk : k < 1000000000) (hf : fok k f) (r : Kv) (hr : r.val.size ≤ 4000000000) : ∃ g o, Mfold_sum_add (sumF f) r = some (sumF g) ∧ Mref21_one r = some o ∧ Mref21_Join f o = g ∧ fok (k + 1) g := by
  obtain ⟨n, e1, e2⟩ := number_eq r.val hr
  obtain ⟨n, b⟩ := n
  obtain ⟨c, m, s, lo, hi, fi, la⟩ := f
  obtain ⟨g1, g2, g3, g4, g5, g6⟩ := hf
  simp only at g1 g2 g3 g4 g5 g6
  cases b with
  | false =>
    refine ⟨⟨c + 1, m, s, lo, hi, if c = 0 then r.key else fi, r.key⟩, ⟨1, 0, 0, 0, 0, r.key, r.key⟩, ?_, ?_, ?_, ?_⟩
    · dsimp only [Mfold_sum_add, sumF]
      simp only [e1, sel_ite, decide_eq_true_eq, obnd_if, obnd_some, Bool.not_false, if_true]
      rw [i64w_id (a := c + 1) (by omega) (by omega)]
    · simp only [Mref21_one, e2, sel_ite, obnd_some, Bool.false_eq_true, if_false]
    · simp only [Mref21_Join, bnd_eq, sel_ite, Int.add_zero, g5, decide_eq_true_eq]
      rw [i64w_id (a := c + 1) (by omega) (by omega), i64w_id (a := m) (by omega) (by omega)]
      by_cases hm : m = 0
      · obtain ⟨rfl, rfl⟩ := g6 hm
        subst hm
        simp
      · simp [hm]
    · refine ⟨?_, ?_, ?_, ?_, g5, g6⟩ <;> simp only <;> omega
  | true =>
    refine ⟨⟨c + 1, m + 1, i64w (s + n), if m = 0 ∨ n < lo then n else lo, if m = 0 ∨ hi < n then n else hi, if c = 0 then r.key else fi, r.key⟩, ⟨1, 1, n, n, n, r.key, r.key⟩, ?_, ?_, ?_, ?_⟩
    · dsimp only [Mfold_sum_add, sumF]
      simp only [e1, sel_ite, decide_eq_true_eq, obnd_if, obnd_some, Bool.not_true, Bool.false_eq_true, if_false]
      rw [i64w_id (a := c + 1) (by omega) (by omega), i64w_id (a := m + 1) (by omega) (by omega)]
      by_cases hm : m = 0
      · simp [hm]
      · simp [hm]
    · simp only [Mref21_one, e2, sel_ite, obnd_some, if_true]
    · simp only [Mref21_Join, bnd_eq, sel_ite, decide_eq_true_eq]
      rw [i64w_id (a := c + 1) (by omega) (by omega), i64w_id (a := m + 1) (by omega) (by omega)]
      by_cases hm : m = 0
      · simp [hm]
      · have hlo : min lo n = if n < lo then n else lo := by split <;> omega
        have hhi : max hi n = if hi < n then n else hi := by split <;> omega
        simp [hm, hlo, hhi]
    · refine ⟨?_, ?_, ?_, ?_, i64w_i64w _, ?_⟩ <;> simp only <;> omega
theorem of_l1_eq : ∀ (l : List Kv) (k : Nat) (f : TFold), k + l.length < 1000000000 → fok k f → (∀ r ∈ l, r.val.size ≤ 4000000000) →
    ∃ g : TFold, fok (k + l.length) g ∧ Mfold_Of_l1 l f.Count f.Numbers f.Sum f.Low f.High f.First f.Last = some (g.Count, g.Numbers, g.Sum, g.Low, g.High, g.First, g.Last) ∧ Mref21_Of_l1 l f.Count f.Numbers f.Sum f.Low f.High f.First f.Last = some (g.Count, g.Numbers, g.Sum, g.Low, g.High, g.First, g.Last)
  | [], k, f, _, hf, _ => ⟨f, hf, rfl, rfl⟩
  | r :: l, k, f, hk, hf, hr => by
    simp only [List.length_cons] at hk
    obtain ⟨g, o, e1, e2, e3, e4⟩ := add_eq k f (by omega) hf r (hr r List.mem_cons_self)
    obtain ⟨q, h0, h1, h2⟩ := of_l1_eq l (k + 1) g (by omega) e4 fun x hx => hr x (List.mem_cons_of_mem _ hx)
    refine ⟨q, by rw [List.length_cons, show k + (l.length + 1) = k + 1 + l.length by omega]; exact h0, ?_, ?_⟩
    · rw [Mfold_Of_l1.eq_2]
      have : (Tsum.mk f.Count f.Numbers f.Sum f.Low f.High f.First f.Last) = sumF f := rfl
      rw [this, e1, obnd_some]
      exact h1
    · rw [Mref21_Of_l1.eq_2, e2, obnd_some, bnd_eq]
      have : (TFold.mk f.Count f.Numbers f.Sum f.Low f.High f.First f.Last) = f := rfl
      rw [this, e3]
      exact h2
theorem of_eq (l : List Kv) (hl : l.length < 1000000000) (hr : ∀ r ∈ l, r.val.size ≤ 4000000000) : ∃ g, Mfold_Of l = some g ∧ Mref21_Of l = some g ∧ fok l.length g := by
  obtain ⟨g, h0, h1, h2⟩ := of_l1_eq l 0 ⟨0, 0, 0, 0, 0, ⟨#[]⟩, ⟨#[]⟩⟩ (by omega) ⟨by simp, by simp, by simp, by simp, by kernel_rfl, fun _ => ⟨rfl, rfl⟩⟩ hr
  refine ⟨g, ?_, ?_, by simpa using h0⟩
  · unfold Mfold_Of; rw [h1, obnd_some]
  · unfold Mref21_Of; rw [h2, obnd_some]
end Go.Proofs.YtjnnkpkbgdknmaaDoor
namespace Go.Proofs.YtjnnkpkbgdknmaaDoor
set_option linter.unusedSimpArgs false
set_option linter.unusedVariables false
open Go.RowKit
def one1 : ByteArray := ⟨#[49]⟩
theorem dec_one : Utf8.decode one1 0 = (49, 1) := by kernel_rfl
attribute [local irreducible] WK WC WL Wk Rel OpD OpV WD WO Op.bytesLess cmp vk vb vld emp contains
set_option maxHeartbeats 4000000 in
instance num1_p : Ct Tryd.prog 90 [vS one1] True (.t [vI 1, vB true]) := ⟨fun _ => by
  have hs1 : one1.size = 1 := rfl
  have hg1 : (one1.get! 0).toNat = 49 := rfl
  refine Spec.intro Tryd.func90 rfl rfl Tryd.ntmps90 Tryd.results90 rfl fun B w0 ρ0 => ?_; simp only [slots, List.map_nil, List.map_cons, Nat.reduceAdd]
  (repeat' (first | refine sw ?_ | (refine swt ?_; intro x τ hx) | (refine sp ?_ ?_ <;> (intro h; (first | (have h2 : (_ : Bool) = _ := h; clear h2; subst h) | skip); (try simp only [decide_eq_true_eq, decide_eq_false_iff_not, Bool.not_eq_true', Bool.not_eq_false', Kv.eta, Bnd.eta, Rng.eta, tn_sub1] at h); (first | (have h2 : (_ : Bool) = _ := h; clear h2; subst h) | skip))) | fail))
  refine wc_loop (fun κ st => ∃ (m : Nat), κ = 1 - m ∧ (m ≤ 1) ∧ st = ⟨[(5, vB false), (6, vI (m : Int)), (36, .p 136 0)], [(136, some (.ob (.stringIter one1 m)))]⟩) (1 - (0)) ⟨[(5, vB false), (6, vI ((0) : Int)), (36, .p 136 0)], [(136, some (.ob (.stringIter one1 (0))))]⟩ (wk [(136, 136)] rfl rfl rfl rfl (by repeat (first | refine VH.cons rfl rfl vb_tpb ?_ | refine VH.cons rfl rfl (Vb.ob _) ?_ | exact VS.nil | exact VH.nil | exact Vws.nil | refine VS.cons rfl ?_ ?_ | refine VH.cons rfl rfl (Vb.box ?_) ?_ | refine VH.cons rfl rfl (Vb.arr ?_) ?_ | exact vws_dm _ | refine Vws.cons ?_ ?_ | exact Vw.d _ | exact Vw.p rfl | exact Vw.h rfl | exact Vw.e rfl | exact Vw.s rfl | exact Vw.q _ | refine Vw.a ?_ | refine Vw.t ?_ | exact Vw.nil | exact Vw.fh rfl rfl (vws_dm _) | exact Vw.un _)) (by repeat (first | refine VH.cons rfl rfl vb_tpb ?_ | refine VH.cons rfl rfl (Vb.ob _) ?_ | exact VS.nil | exact VH.nil | exact Vws.nil | refine VS.cons rfl ?_ ?_ | refine VH.cons rfl rfl (Vb.box ?_) ?_ | refine VH.cons rfl rfl (Vb.arr ?_) ?_ | exact vws_dm _ | refine Vws.cons ?_ ?_ | exact Vw.d _ | exact Vw.p rfl | exact Vw.h rfl | exact Vw.e rfl | exact Vw.s rfl | exact Vw.q _ | refine Vw.a ?_ | refine Vw.t ?_ | exact Vw.nil | exact Vw.fh rfl rfl (vws_dm _) | exact Vw.un _))) ⟨0, rfl, ?_, rfl⟩ ?_; rotate_left; rintro κ _ ⟨m, rfl, hP, rfl⟩; rotate_left
  · omega
  have hm : m = 0 ∨ m = 1 := by omega
  have hc := dec_one
  rcases hm with rfl | rfl
  · have h1 : 0 < one1.size := by omega
    (repeat' (first | refine sw ?_ | (refine swt ?_; intro x τ hx) | (refine sp ?_ ?_ <;> (intro h; (first | (have h2 : (_ : Bool) = _ := h; clear h2; subst h) | skip); (try simp only [decide_eq_true_eq, decide_eq_false_iff_not, Bool.not_eq_true', Bool.not_eq_false', Kv.eta, Bnd.eta, Rng.eta, tn_sub1] at h); (first | (have h2 : (_ : Bool) = _ := h; clear h2; subst h) | skip))) | fail))
    all_goals (try (exfalso; omega))
    refine wk_loop_n (1 - (1)) (st' := ⟨[(5, vB false), (6, vI ((1) : Int)), (36, .p 136 0)], [(136, some (.ob (.stringIter one1 (1))))]⟩) (wk [(136, 136)] rfl rfl rfl rfl (by repeat (first | refine VH.cons rfl rfl vb_tpb ?_ | refine VH.cons rfl rfl (Vb.ob _) ?_ | exact VS.nil | exact VH.nil | exact Vws.nil | refine VS.cons rfl ?_ ?_ | refine VH.cons rfl rfl (Vb.box ?_) ?_ | refine VH.cons rfl rfl (Vb.arr ?_) ?_ | exact vws_dm _ | refine Vws.cons ?_ ?_ | exact Vw.d _ | exact Vw.p rfl | exact Vw.h rfl | exact Vw.e rfl | exact Vw.s rfl | exact Vw.q _ | refine Vw.a ?_ | refine Vw.t ?_ | exact Vw.nil | exact Vw.fh rfl rfl (vws_dm _) | exact Vw.un _)) (by repeat (first | refine VH.cons rfl rfl vb_tpb ?_ | refine VH.cons rfl rfl (Vb.ob _) ?_ | exact VS.nil | exact VH.nil | exact Vws.nil | refine VS.cons rfl ?_ ?_ | refine VH.cons rfl rfl (Vb.box ?_) ?_ | refine VH.cons rfl rfl (Vb.arr ?_) ?_ | exact vws_dm _ | refine Vws.cons ?_ ?_ | exact Vw.d _ | exact Vw.p rfl | exact Vw.h rfl | exact Vw.e rfl | exact Vw.s rfl | exact Vw.q _ | refine Vw.a ?_ | refine Vw.t ?_ | exact Vw.nil | exact Vw.fh rfl rfl (vws_dm _) | exact Vw.un _))) ?_ ⟨1, rfl, ?_, rfl⟩
    · omega
    · omega
  · have h1 : ¬ 1 < one1.size := by omega
    (repeat' (first | refine sw ?_ | (refine swt ?_; intro x τ hx) | (refine sp ?_ ?_ <;> (intro h; (first | (have h2 : (_ : Bool) = _ := h; clear h2; subst h) | skip); (try simp only [decide_eq_true_eq, decide_eq_false_iff_not, Bool.not_eq_true', Bool.not_eq_false', Kv.eta, Bnd.eta, Rng.eta, tn_sub1] at h); (first | (have h2 : (_ : Bool) = _ := h; clear h2; subst h) | skip))) | fail))
    all_goals (try (exfalso; omega))
    (first | refine wk_pure rfl (by first | exact trivial | exact resT_cell rfl rfl (by exact inferInstance) trivial) rfl (by first | exact Vw.fmp rfl rfl rfl | exact Vw.nil | exact Vw.d _ | (repeat (first | exact Vws.nil | apply Vws.cons | exact Vw.nil | exact Vw.d _ | apply Vw.a | apply Vw.t | exact Vw.fh rfl rfl (vws_dm _) | exact Vw.fh rfl rfl Vws.nil)); done) ?_ | refine wk_pure_n rfl (by first | exact trivial | exact resT_cell rfl rfl (by exact inferInstance) trivial) rfl (by first | exact Vw.fmp rfl rfl rfl | exact Vw.nil | exact Vw.d _ | (repeat (first | exact Vws.nil | apply Vws.cons | exact Vw.nil | exact Vw.d _ | apply Vw.a | apply Vw.t | exact Vw.fh rfl rfl (vws_dm _) | exact Vw.fh rfl rfl Vws.nil)); done) ?_)
    exact ⟨rfl, rfl⟩⟩
theorem add1_p (k : ByteArray) : Spec Tryd.prog 79 [.p 0 0, .a [vS k, vS one1]] [(0, some (.box 93 [vI 0, vI 0, vI 0, vI 0, vI 0, vS ⟨#[]⟩, vS ⟨#[]⟩]))] fun u h => u = .t [] ∧ h = [(0, some (.box 93 [vI 1, vI 1, vI 1, vI 1, vI 1, vS k, vS k]))] := by
  refine Spec.intro Tryd.func79 rfl rfl Tryd.ntmps79 Tryd.results79 rfl fun B w0 ρ0 => ?_; simp only [slots, List.map_nil, List.map_cons, Nat.reduceAdd]
  (repeat' (first | refine sw ?_ | (refine swt ?_; intro x τ hx) | (refine sp ?_ ?_ <;> (intro h; (first | (have h2 : (_ : Bool) = _ := h; clear h2; subst h) | skip); (try simp only [decide_eq_true_eq, decide_eq_false_iff_not, Bool.not_eq_true', Bool.not_eq_false', Kv.eta, Bnd.eta, Rng.eta, tn_sub1] at h); (first | (have h2 : (_ : Bool) = _ := h; clear h2; subst h) | skip))) | fail))
  exact wk_fn_n (Wk.refl _ _) ⟨[], [(0, 0)], .t [], [(0, some (.box 93 [vI 1, vI 1, vI 1, vI 1, vI 1, vS k, vS k]))], rfl, trivial, rfl, .t .nil, (by repeat (first | refine VH.cons rfl rfl vb_tpb ?_ | refine VH.cons rfl rfl (Vb.ob _) ?_ | exact VS.nil | exact VH.nil | exact Vws.nil | refine VS.cons rfl ?_ ?_ | refine VH.cons rfl rfl (Vb.box ?_) ?_ | refine VH.cons rfl rfl (Vb.arr ?_) ?_ | exact vws_dm _ | refine Vws.cons ?_ ?_ | exact Vw.d _ | exact Vw.p rfl | exact Vw.h rfl | exact Vw.e rfl | exact Vw.s rfl | exact Vw.q _ | refine Vw.a ?_ | refine Vw.t ?_ | exact Vw.nil | exact Vw.fh rfl rfl (vws_dm _) | exact Vw.un _)), rfl, rfl⟩
section
variable {Γ : Cx} {k : Kont} {sl : List (Nat × V)} {hp : Hp} {o : Oper} {ops : Array Oper} {d kt : Nat} {x : Operand} {xs : Array Operand} {ats : Array TypeId} {rest : List Oper} {key : ByteArray}
theorem wl_add1 (hP : Γ.P = Tryd.prog) (hop : o.op = .call { callee := .value x, args := xs, argTypes := ats }) (hx : ev sl x = some (.d (.c (.func (.func 79) #[] #[])))) (ha : evl sl xs.toList = some [.p kt 0, .a [vS key, vS one1]]) (hH : look hp kt = some (some (.box 93 [vI 0, vI 0, vI 0, vI 0, vI 0, vS ⟨#[]⟩, vS ⟨#[]⟩])))
    (hg : o.guard = none) (hd : o.dst = some d) (hdl : Nat.blt d Γ.nt = true) (hf : freshB hp 100000 100 = true) (hk : WL Γ ops rest k ⟨(d, .t []) :: sl, (kt, some (.box 93 [vI 1, vI 1, vI 1, vI 1, vI 1, vS key, vS key])) :: hp⟩) : WL Γ ops (o :: rest) k ⟨sl, hp⟩ := by
  have hal : aliveB hp [(0, kt)] = true := by simp only [aliveB, List.all_cons, List.all_nil, Bool.and_true, hH]
  have h0 : look [(0, kt)] 0 = some kt := rfl
  refine wl_v (o_call 100000 [(0, kt)] (hP ▸ add1_p key) hop hx ha (.cons (.p h0) (.cons (.a (.cons (.d _) (.cons (.d _) .nil))) .nil)) (VH.cons h0 hH (.box (by repeat (first | exact Vws.nil | refine Vws.cons (Vw.d _) ?_))) .nil) hal rfl (by rfl)) hg hd hdl hf ?_
  rintro u h ⟨u0, h0', ⟨rfl, rfl⟩, rfl, rfl⟩
  exact hk
end
instance of_p1 (l : List Kv) : Ct Tryd.prog 53 [.d (rows l)] (∃ k, l = [⟨k, one1⟩]) (.a [vI 1, vI 1, vI 1, vI 1, vI 1, vS (l.headD ⟨⟨#[]⟩, ⟨#[]⟩⟩).key, vS (l.headD ⟨⟨#[]⟩, ⟨#[]⟩⟩).key]) := ⟨fun h0 => by
  obtain ⟨key, rfl⟩ := h0
  refine Spec.intro Tryd.func53 rfl rfl Tryd.ntmps53 Tryd.results53 rfl fun B w0 ρ0 => ?_; simp only [slots, List.map_nil, List.map_cons, Nat.reduceAdd]
  (repeat' (first | refine sw ?_ | (refine swt ?_; intro x τ hx) | (refine sp ?_ ?_ <;> (intro h; (first | (have h2 : (_ : Bool) = _ := h; clear h2; subst h) | skip); (try simp only [decide_eq_true_eq, decide_eq_false_iff_not, Bool.not_eq_true', Bool.not_eq_false', Kv.eta, Bnd.eta, Rng.eta, tn_sub1] at h); (first | (have h2 : (_ : Bool) = _ := h; clear h2; subst h) | skip))) | fail))
  refine wc_loop (fun κ st => ∃ (m : Nat), κ = 1 - m ∧ (m ≤ 1) ∧ st = ⟨[(2, .p 102 0), (3, .p 103 0), (6, .d (rows [⟨key, one1⟩])), (7, vI ((1 : Nat) : Int)), (8, vI (m : Int))], [(102, some (.box 39 [vI 0, vI 0, vI 0, vI 0, vI 0, vS ⟨#[]⟩, vS ⟨#[]⟩])), (103, some (.box 93 (if m = 0 then [vI 0, vI 0, vI 0, vI 0, vI 0, vS ⟨#[]⟩, vS ⟨#[]⟩] else [vI 1, vI 1, vI 1, vI 1, vI 1, vS key, vS key])))]⟩) (1 - (0)) ⟨[(2, .p 102 0), (3, .p 103 0), (6, .d (rows [⟨key, one1⟩])), (7, vI ((1 : Nat) : Int)), (8, vI ((0) : Int))], [(102, some (.box 39 [vI 0, vI 0, vI 0, vI 0, vI 0, vS ⟨#[]⟩, vS ⟨#[]⟩])), (103, some (.box 93 (if (0) = 0 then [vI 0, vI 0, vI 0, vI 0, vI 0, vS ⟨#[]⟩, vS ⟨#[]⟩] else [vI 1, vI 1, vI 1, vI 1, vI 1, vS key, vS key])))]⟩ (wk [(102, 102), (103, 103)] rfl rfl rfl rfl (by repeat (first | refine VH.cons rfl rfl vb_tpb ?_ | refine VH.cons rfl rfl (Vb.ob _) ?_ | exact VS.nil | exact VH.nil | exact Vws.nil | refine VS.cons rfl ?_ ?_ | refine VH.cons rfl rfl (Vb.box ?_) ?_ | refine VH.cons rfl rfl (Vb.arr ?_) ?_ | exact vws_dm _ | refine Vws.cons ?_ ?_ | exact Vw.d _ | exact Vw.p rfl | exact Vw.h rfl | exact Vw.e rfl | exact Vw.s rfl | exact Vw.q _ | refine Vw.a ?_ | refine Vw.t ?_ | exact Vw.nil | exact Vw.fh rfl rfl (vws_dm _) | exact Vw.un _)) (by repeat (first | refine VH.cons rfl rfl vb_tpb ?_ | refine VH.cons rfl rfl (Vb.ob _) ?_ | exact VS.nil | exact VH.nil | exact Vws.nil | refine VS.cons rfl ?_ ?_ | refine VH.cons rfl rfl (Vb.box ?_) ?_ | refine VH.cons rfl rfl (Vb.arr ?_) ?_ | exact vws_dm _ | refine Vws.cons ?_ ?_ | exact Vw.d _ | exact Vw.p rfl | exact Vw.h rfl | exact Vw.e rfl | exact Vw.s rfl | exact Vw.q _ | refine Vw.a ?_ | refine Vw.t ?_ | exact Vw.nil | exact Vw.fh rfl rfl (vws_dm _) | exact Vw.un _))) ⟨0, rfl, ?_, rfl⟩ ?_; rotate_left; rintro κ _ ⟨m, rfl, hP, rfl⟩; rotate_left
  · omega
  have hm : m = 0 ∨ m = 1 := by omega
  rcases hm with rfl | rfl
  · rw [if_pos rfl]
    (repeat' (first | refine wl_r (o_ixe rfl rfl rfl Len.len rfl (by simp) (by simp only [Kv.ds]; exact rfl)) rfl rfl rfl ?_ | refine wl_add1 rfl rfl rfl rfl rfl rfl rfl rfl rfl ?_ | refine sw ?_ | (refine swt ?_; intro x τ hx) | (refine sp ?_ ?_ <;> (intro h; (first | (have h2 : (_ : Bool) = _ := h; clear h2; subst h) | skip); (try simp only [decide_eq_true_eq, decide_eq_false_iff_not, Bool.not_eq_true', Bool.not_eq_false', Kv.eta, Bnd.eta, Rng.eta, tn_sub1] at h); (first | (have h2 : (_ : Bool) = _ := h; clear h2; subst h) | skip))) | fail))
    all_goals (try (exfalso; omega))
    refine wk_loop_n (1 - (1)) (st' := ⟨[(2, .p 102 0), (3, .p 103 0), (6, .d (rows [⟨key, one1⟩])), (7, vI ((1 : Nat) : Int)), (8, vI ((1) : Int))], [(102, some (.box 39 [vI 0, vI 0, vI 0, vI 0, vI 0, vS ⟨#[]⟩, vS ⟨#[]⟩])), (103, some (.box 93 (if (1) = 0 then [vI 0, vI 0, vI 0, vI 0, vI 0, vS ⟨#[]⟩, vS ⟨#[]⟩] else [vI 1, vI 1, vI 1, vI 1, vI 1, vS key, vS key])))]⟩) (wk [(102, 102), (103, 103)] rfl rfl rfl rfl (by repeat (first | refine VH.cons rfl rfl vb_tpb ?_ | refine VH.cons rfl rfl (Vb.ob _) ?_ | exact VS.nil | exact VH.nil | exact Vws.nil | refine VS.cons rfl ?_ ?_ | refine VH.cons rfl rfl (Vb.box ?_) ?_ | refine VH.cons rfl rfl (Vb.arr ?_) ?_ | exact vws_dm _ | refine Vws.cons ?_ ?_ | exact Vw.d _ | exact Vw.p rfl | exact Vw.h rfl | exact Vw.e rfl | exact Vw.s rfl | exact Vw.q _ | refine Vw.a ?_ | refine Vw.t ?_ | exact Vw.nil | exact Vw.fh rfl rfl (vws_dm _) | exact Vw.un _)) (by repeat (first | refine VH.cons rfl rfl vb_tpb ?_ | refine VH.cons rfl rfl (Vb.ob _) ?_ | exact VS.nil | exact VH.nil | exact Vws.nil | refine VS.cons rfl ?_ ?_ | refine VH.cons rfl rfl (Vb.box ?_) ?_ | refine VH.cons rfl rfl (Vb.arr ?_) ?_ | exact vws_dm _ | refine Vws.cons ?_ ?_ | exact Vw.d _ | exact Vw.p rfl | exact Vw.h rfl | exact Vw.e rfl | exact Vw.s rfl | exact Vw.q _ | refine Vw.a ?_ | refine Vw.t ?_ | exact Vw.nil | exact Vw.fh rfl rfl (vws_dm _) | exact Vw.un _))) ?_ ⟨1, rfl, ?_, rfl⟩
    · omega
    · omega
  · rw [if_neg (by omega)]
    (repeat' (first | refine sw ?_ | (refine swt ?_; intro x τ hx) | (refine sp ?_ ?_ <;> (intro h; (first | (have h2 : (_ : Bool) = _ := h; clear h2; subst h) | skip); (try simp only [decide_eq_true_eq, decide_eq_false_iff_not, Bool.not_eq_true', Bool.not_eq_false', Kv.eta, Bnd.eta, Rng.eta, tn_sub1] at h); (first | (have h2 : (_ : Bool) = _ := h; clear h2; subst h) | skip))) | fail))
    all_goals (try (exfalso; omega))
    (first | refine wk_pure rfl (by first | exact trivial | exact resT_cell rfl rfl (by exact inferInstance) trivial) rfl (by first | exact Vw.fmp rfl rfl rfl | exact Vw.nil | exact Vw.d _ | (repeat (first | exact Vws.nil | apply Vws.cons | exact Vw.nil | exact Vw.d _ | apply Vw.a | apply Vw.t | exact Vw.fh rfl rfl (vws_dm _) | exact Vw.fh rfl rfl Vws.nil)); done) ?_ | refine wk_pure_n rfl (by first | exact trivial | exact resT_cell rfl rfl (by exact inferInstance) trivial) rfl (by first | exact Vw.fmp rfl rfl rfl | exact Vw.nil | exact Vw.d _ | (repeat (first | exact Vws.nil | apply Vws.cons | exact Vw.nil | exact Vw.d _ | apply Vw.a | apply Vw.t | exact Vw.fh rfl rfl (vws_dm _) | exact Vw.fh rfl rfl Vws.nil)); done) ?_)
    exact ⟨rfl, rfl⟩⟩
end Go.Proofs.YtjnnkpkbgdknmaaDoor
namespace Go.Proofs.YtjnnkpkbgdknmaaDoor
set_option linter.unusedSimpArgs false
set_option linter.unusedVariables false
open Go.RowKit
theorem union_le (l : List Rng) : (union l).length ≤ l.length := by
  have h1 := mrgAll_le ((l.filter ne).mergeSort leLo)
  rw [List.length_mergeSort] at h1
  exact Nat.le_trans h1 (List.length_filter_le _ _)
end Go.Proofs.YtjnnkpkbgdknmaaDoor
namespace Go.Proofs.YtjnnkpkbgdknmaaDoor
set_option linter.unusedSimpArgs false
set_option linter.unusedVariables false
open Go.RowKit
def qslices (t : List Kv) (rs : List Rng) : List Kv := rs.flatMap fun r => t.filter fun x => contains r x.key
theorem qranges_le (k : Int) (l : List Rng) (key : ByteArray) (c : Int) : (qranges k l key c).length ≤ 64 := by
  unfold qranges
  split
  · rename_i h
    have hq := qchk_0 h
    refine Nat.le_trans (union_le _) ?_
    unfold qrs
    split
    · exact hq.2.2
    split
    · simp
    split <;> simp
  · simp
abbrev kA : ByteArray := ⟨#[97]⟩
abbrev kB : ByteArray := ⟨#[98]⟩
abbrev kC : ByteArray := ⟨#[99]⟩
abbrev kAB : ByteArray := ⟨#[97, 98]⟩
abbrev kAC : ByteArray := ⟨#[97, 99]⟩
def tA : List Kv := [⟨kA, ⟨#[]⟩⟩, ⟨kB, one1⟩, ⟨kC, ⟨#[]⟩⟩]
theorem rA : qranges 2 [] kAB 0 = [⟨⟨kAB, false⟩, ⟨kAC, false⟩⟩] := by kernel_rfl
theorem rB : qranges 4 [] kC 1 = [⟨⟨⟨#[]⟩, false⟩, ⟨kC, false⟩⟩] := by kernel_rfl
theorem tA_valid : tvalid tA = true := by kernel_rfl
theorem tA_rows : qtk 4 1 (qslices tA [⟨⟨⟨#[]⟩, false⟩, ⟨kC, false⟩⟩]) = [⟨kB, one1⟩] := by kernel_rfl
attribute [local irreducible] WK WC WL Wk Rel OpD OpV WD WO Op.bytesLess cmp vk vb vld emp contains
attribute [local irreducible] qchk qranges qtk union pfx tvalid
set_option maxHeartbeats 2000000 in
theorem answer1 (t : List Kv) (k c : Int) (l : List Rng) (key kk : ByteArray) (hl : l.length < 1000000) (ht : t.length ≤ 1024) (h1 : qchk k l key c = 0) (h2 : tvalid t = true) (h3 : qtk k c (qslices t (qranges k l key c)) = [⟨kk, one1⟩]) :
    Spec Tryd.prog 18 [.d (rows t), vQ k l key c] [] fun u h => u = .t [.a [.d (rows [⟨kk, one1⟩]), vI 1, vI 1, vI 1, vI 1, vI 1, vS kk, vS kk], vI 0] ∧ h = [] := by
  have hrl := qranges_le k l key c
  refine Spec.intro Tryd.func18 rfl rfl Tryd.ntmps18 Tryd.results18 rfl fun B w0 ρ0 => ?_; simp only [slots, List.map_nil, List.map_cons, Nat.reduceAdd]
  (repeat' (first | refine sw ?_ | (refine swt ?_; intro x τ hx) | (refine sp ?_ ?_ <;> (intro h; (first | (have h2 : (_ : Bool) = _ := h; clear h2; subst h) | skip); (try simp only [decide_eq_true_eq, decide_eq_false_iff_not, Bool.not_eq_true', Bool.not_eq_false', Kv.eta, Bnd.eta, Rng.eta, tn_sub1] at h); (first | (have h2 : (_ : Bool) = _ := h; clear h2; subst h) | skip))) | fail))
  · exact absurd h1 h
  · rw [h2] at h; cases h
  generalize hR : qranges k l key c = R at *
  refine wc_wk (wk_nil 7 107 59 2 rfl rfl) ?_
  refine wc_loop (fun κ st => ∃ (m : Nat) (out : List Kv), κ = R.length - m ∧ (m ≤ R.length ∧ out.length ≤ m * 1024 ∧ out ++ qslices t (R.drop m) = qslices t R) ∧ st = ⟨[(0, .d (rows t)), (3, .p 103 0), (4, .p 104 0), (7, .h 107), (21, .d (lst Rng.ds R)), (22, vI R.length), (23, vI (m : Int))], [(103, some (.box 25 [vI k, .d (lst Rng.ds l), vS key, vI c])), (104, some (.box 41 [.d (.c (.slice none 0 0)), vI 0, vI 0, vI 0, vI 0, vI 0, vS ⟨#[]⟩, vS ⟨#[]⟩])), (107, some (arrT 59 2 Kv.ds out))]⟩) (R.length - (0)) ⟨[(0, .d (rows t)), (3, .p 103 0), (4, .p 104 0), (7, .h 107), (21, .d (lst Rng.ds R)), (22, vI R.length), (23, vI ((0) : Int))], [(103, some (.box 25 [vI k, .d (lst Rng.ds l), vS key, vI c])), (104, some (.box 41 [.d (.c (.slice none 0 0)), vI 0, vI 0, vI 0, vI 0, vI 0, vS ⟨#[]⟩, vS ⟨#[]⟩])), (107, some (arrT 59 2 Kv.ds ([])))]⟩ (wk [(103, 103), (104, 104), (107, 107)] rfl rfl rfl rfl (by repeat (first | refine VH.cons rfl rfl vb_tpb ?_ | refine VH.cons rfl rfl (Vb.ob _) ?_ | exact VS.nil | exact VH.nil | exact Vws.nil | refine VS.cons rfl ?_ ?_ | refine VH.cons rfl rfl (Vb.box ?_) ?_ | refine VH.cons rfl rfl (Vb.arr ?_) ?_ | exact vws_dm _ | refine Vws.cons ?_ ?_ | exact Vw.d _ | exact Vw.p rfl | exact Vw.h rfl | exact Vw.e rfl | exact Vw.s rfl | exact Vw.q _ | refine Vw.a ?_ | refine Vw.t ?_ | exact Vw.nil | exact Vw.fh rfl rfl (vws_dm _) | exact Vw.un _)) (by repeat (first | refine VH.cons rfl rfl vb_tpb ?_ | refine VH.cons rfl rfl (Vb.ob _) ?_ | exact VS.nil | exact VH.nil | exact Vws.nil | refine VS.cons rfl ?_ ?_ | refine VH.cons rfl rfl (Vb.box ?_) ?_ | refine VH.cons rfl rfl (Vb.arr ?_) ?_ | exact vws_dm _ | refine Vws.cons ?_ ?_ | exact Vw.d _ | exact Vw.p rfl | exact Vw.h rfl | exact Vw.e rfl | exact Vw.s rfl | exact Vw.q _ | refine Vw.a ?_ | refine Vw.t ?_ | exact Vw.nil | exact Vw.fh rfl rfl (vws_dm _) | exact Vw.un _))) ⟨0, [], rfl, ?_, rfl⟩ ?_; rotate_left; rintro κ _ ⟨m, out, rfl, hP, rfl⟩; rotate_left
  · exact ⟨by omega, by simp, by simp⟩
  obtain ⟨hm, ho, hP⟩ := hP
  have hs := drop_step (l := R) (m := m)
  have h3' : ¬ m < R.length → ∃ kk, qtk k c out = [⟨kk, one1⟩] := fun hh => by
    rw [List.drop_eq_nil_of_le (by omega)] at hP
    have : out = qslices t R := by simpa [qslices] using hP
    exact ⟨kk, by rw [this]; exact h3⟩
  (repeat' (first | refine wl_2 (n_append_t rfl rfl (by simp only [Nat.reduceAdd]; exact rfl) rfl rfl rfl Len.len (Nat.le_trans (Nat.mul_le_mul_right _ (Nat.add_le_add_left (List.length_filter_le _ _) _)) (by omega)) (Nat.le_trans (Nat.add_le_add_left (List.length_filter_le _ _) _) (by omega)) rfl) rfl rfl rfl rfl ?_ | refine sw ?_ | (refine swt ?_; intro x τ hx) | (refine sp ?_ ?_ <;> (intro h; (first | (have h2 : (_ : Bool) = _ := h; clear h2; subst h) | skip); (try simp only [decide_eq_true_eq, decide_eq_false_iff_not, Bool.not_eq_true', Bool.not_eq_false', Kv.eta, Bnd.eta, Rng.eta, tn_sub1] at h); (first | (have h2 : (_ : Bool) = _ := h; clear h2; subst h) | skip))) | fail))
  · refine wk_loop_n (R.length - (m + 1)) (st' := ⟨[(0, .d (rows t)), (3, .p 103 0), (4, .p 104 0), (7, .h 107), (21, .d (lst Rng.ds R)), (22, vI R.length), (23, vI ((m + 1) : Int))], [(103, some (.box 25 [vI k, .d (lst Rng.ds l), vS key, vI c])), (104, some (.box 41 [.d (.c (.slice none 0 0)), vI 0, vI 0, vI 0, vI 0, vI 0, vS ⟨#[]⟩, vS ⟨#[]⟩])), (107, some (arrT 59 2 Kv.ds (out ++ t.filter (fun x => contains R[m] x.key))))]⟩) (wk [(103, 103), (104, 104), (107, 131)] rfl rfl rfl rfl (by repeat (first | refine VH.cons rfl rfl vb_tpb ?_ | refine VH.cons rfl rfl (Vb.ob _) ?_ | exact VS.nil | exact VH.nil | exact Vws.nil | refine VS.cons rfl ?_ ?_ | refine VH.cons rfl rfl (Vb.box ?_) ?_ | refine VH.cons rfl rfl (Vb.arr ?_) ?_ | exact vws_dm _ | refine Vws.cons ?_ ?_ | exact Vw.d _ | exact Vw.p rfl | exact Vw.h rfl | exact Vw.e rfl | exact Vw.s rfl | exact Vw.q _ | refine Vw.a ?_ | refine Vw.t ?_ | exact Vw.nil | exact Vw.fh rfl rfl (vws_dm _) | exact Vw.un _)) (by repeat (first | refine VH.cons rfl rfl vb_tpb ?_ | refine VH.cons rfl rfl (Vb.ob _) ?_ | exact VS.nil | exact VH.nil | exact Vws.nil | refine VS.cons rfl ?_ ?_ | refine VH.cons rfl rfl (Vb.box ?_) ?_ | refine VH.cons rfl rfl (Vb.arr ?_) ?_ | exact vws_dm _ | refine Vws.cons ?_ ?_ | exact Vw.d _ | exact Vw.p rfl | exact Vw.h rfl | exact Vw.e rfl | exact Vw.s rfl | exact Vw.q _ | refine Vw.a ?_ | refine Vw.t ?_ | exact Vw.nil | exact Vw.fh rfl rfl (vws_dm _) | exact Vw.un _))) ?_ ⟨m + 1, out ++ t.filter (fun x => contains R[m] x.key), rfl, ?_, rfl⟩
    · omega
    · have := List.length_filter_le (fun x => contains R[m] x.key) t
      refine ⟨by omega, by simp only [List.length_append]; omega, ?_⟩
      rw [← hP, hs (by omega)]
      simp only [qslices, List.flatMap_cons, List.append_assoc]
  · refine wl_wk (st' := ⟨[(33, vQ k l key c), (34, .d (rows out)), (4, .p 104 0)], [(104, some (.box 41 [.d (.c (.slice none 0 0)), vI 0, vI 0, vI 0, vI 0, vI 0, vS ⟨#[]⟩, vS ⟨#[]⟩]))]⟩) (wk [(104, 104)] rfl rfl rfl rfl (by repeat (first | refine VH.cons rfl rfl vb_tpb ?_ | refine VH.cons rfl rfl (Vb.ob _) ?_ | exact VS.nil | exact VH.nil | exact Vws.nil | refine VS.cons rfl ?_ ?_ | refine VH.cons rfl rfl (Vb.box ?_) ?_ | refine VH.cons rfl rfl (Vb.arr ?_) ?_ | exact vws_dm _ | refine Vws.cons ?_ ?_ | exact Vw.d _ | exact Vw.p rfl | exact Vw.h rfl | exact Vw.e rfl | exact Vw.s rfl | exact Vw.q _ | refine Vw.a ?_ | refine Vw.t ?_ | exact Vw.nil | exact Vw.fh rfl rfl (vws_dm _) | exact Vw.un _)) (by repeat (first | refine VH.cons rfl rfl vb_tpb ?_ | refine VH.cons rfl rfl (Vb.ob _) ?_ | exact VS.nil | exact VH.nil | exact Vws.nil | refine VS.cons rfl ?_ ?_ | refine VH.cons rfl rfl (Vb.box ?_) ?_ | refine VH.cons rfl rfl (Vb.arr ?_) ?_ | exact vws_dm _ | refine Vws.cons ?_ ?_ | exact Vw.d _ | exact Vw.p rfl | exact Vw.h rfl | exact Vw.e rfl | exact Vw.s rfl | exact Vw.q _ | refine Vw.a ?_ | refine Vw.t ?_ | exact Vw.nil | exact Vw.fh rfl rfl (vws_dm _) | exact Vw.un _))) ?_
    have h3'' := h3' (by omega)
    (repeat' (first | refine sw ?_ | (refine swt ?_; intro x τ hx) | (refine sp ?_ ?_ <;> (intro h; (first | (have h2 : (_ : Bool) = _ := h; clear h2; subst h) | skip); (try simp only [decide_eq_true_eq, decide_eq_false_iff_not, Bool.not_eq_true', Bool.not_eq_false', Kv.eta, Bnd.eta, Rng.eta, tn_sub1] at h); (first | (have h2 : (_ : Bool) = _ := h; clear h2; subst h) | skip))) | fail))
    (first | refine wk_pure rfl (by first | exact trivial | exact resT_cell rfl rfl (by exact inferInstance) trivial) rfl (by first | exact Vw.fmp rfl rfl rfl | exact Vw.nil | exact Vw.d _ | (repeat (first | exact Vws.nil | apply Vws.cons | exact Vw.nil | exact Vw.d _ | apply Vw.a | apply Vw.t | exact Vw.fh rfl rfl (vws_dm _) | exact Vw.fh rfl rfl Vws.nil)); done) ?_ | refine wk_pure_n rfl (by first | exact trivial | exact resT_cell rfl rfl (by exact inferInstance) trivial) rfl (by first | exact Vw.fmp rfl rfl rfl | exact Vw.nil | exact Vw.d _ | (repeat (first | exact Vws.nil | apply Vws.cons | exact Vw.nil | exact Vw.d _ | apply Vw.a | apply Vw.t | exact Vw.fh rfl rfl (vws_dm _) | exact Vw.fh rfl rfl Vws.nil)); done) ?_)
    refine ⟨?_, rfl⟩
    rw [List.drop_eq_nil_of_le (by omega)] at hP
    have e : out = qslices t R := by simpa [qslices] using hP
    rw [e, h3]; rfl
instance answerA : Ct Tryd.prog 18 [.d (rows tA), .a [vI 4, .d (.l 0 []), vS kC, vI 1]] True (.t [.a [.d (rows [⟨kB, one1⟩]), vI 1, vI 1, vI 1, vI 1, vI 1, vS kB, vS kB], vI 0]) := ⟨fun _ => answer1 tA 4 1 [] kC kB (by simp) (show 3 ≤ 1024 by omega) (by kernel_rfl) tA_valid (by rw [rB]; exact tA_rows)⟩
instance (priority := high) rangesA : Ct Tryd.prog 23 [.a [vI 2, .d (.l 0 []), vS kAB, vI 0]] True (.d (lst Rng.ds [⟨⟨kAB, false⟩, ⟨kAC, false⟩⟩])) := ⟨fun _ => by
  have := (qranges_p 2 0 [] kAB).out (by simp)
  rw [rA] at this
  exact this⟩
instance awake_ct : Ct Tryd.prog 10 [] True (vB true) := ⟨fun _ => by
  refine Spec.intro Tryd.func10 rfl rfl Tryd.ntmps10 Tryd.results10 rfl fun B w0 ρ0 => ?_; simp only [slots, List.map_nil, List.map_cons, Nat.reduceAdd]
  (repeat' (first | refine wl_bt Kv.ds tA rfl rfl (by simp only [flatV, cellsV, List.cons_append, List.nil_append, List.append_nil]; exact rfl) rfl rfl rfl rfl rfl rfl ?_ | refine wl_r (o_ixe (m := 0) rfl rfl rfl Len.len rfl (by simp) (by simp only [Rng.ds, Kv.ds]; exact rfl)) rfl rfl rfl ?_ | refine sw ?_ | (refine swt ?_; intro x τ hx) | (refine sp ?_ ?_ <;> (intro h; (first | (have h2 : (_ : Bool) = _ := h; clear h2; subst h) | skip); (try simp only [decide_eq_true_eq, decide_eq_false_iff_not, Bool.not_eq_true', Bool.not_eq_false', Kv.eta, Bnd.eta, Rng.eta, tn_sub1] at h); (first | (have h2 : (_ : Bool) = _ := h; clear h2; subst h) | skip))) | fail))
  trace_state
  all_goals (first | refine wk_pure rfl (by first | exact trivial | exact resT_cell rfl rfl (by exact inferInstance) trivial) rfl (by first | exact Vw.fmp rfl rfl rfl | exact Vw.nil | exact Vw.d _ | (repeat (first | exact Vws.nil | apply Vws.cons | exact Vw.nil | exact Vw.d _ | apply Vw.a | apply Vw.t | exact Vw.fh rfl rfl (vws_dm _) | exact Vw.fh rfl rfl Vws.nil)); done) ?_ | refine wk_pure_n rfl (by first | exact trivial | exact resT_cell rfl rfl (by exact inferInstance) trivial) rfl (by first | exact Vw.fmp rfl rfl rfl | exact Vw.nil | exact Vw.d _ | (repeat (first | exact Vws.nil | apply Vws.cons | exact Vw.nil | exact Vw.d _ | apply Vw.a | apply Vw.t | exact Vw.fh rfl rfl (vws_dm _) | exact Vw.fh rfl rfl Vws.nil)); done) ?_)
  all_goals exact ⟨by kernel_rfl, rfl⟩⟩
end Go.Proofs.YtjnnkpkbgdknmaaDoor
namespace Go.Proofs.YtjnnkpkbgdknmaaDoor
set_option linter.unusedSimpArgs false
set_option linter.unusedVariables false
open Go.RowKit
theorem awake_ok : Mlaw22_awake = some true := by kernel_rfl
theorem eq_table_validRow (r : Kv) : Mtable_validRow r = vrow r := by
  unfold Mtable_validRow
  rw [bnd_eq, eq_keyspace_ValidKey, sel_and, vrow]
  congr 1
  simp; omega
theorem eq_table_Valid_l1 (t : List Kv) (ht : t.length ≤ 1024) : ∀ (xs : List Kv) (m : Nat), t.drop m = xs → m ≤ t.length → Mtable_Valid_l1 t xs (m : Int) = some (sel ((List.range' m (t.length - m)).all (okAt t)) (.nxt ()) (.ret false))
  | [], m, h, hm => by
    have : t.length - m = 0 := by have := congrArg List.length h; simpa using this
    simp [Mtable_Valid_l1, this, sel_true]
  | r :: xs, m, h, hm => by
    obtain ⟨h1, h2⟩ := drop_get h
    have h3 := (List.getElem?_eq_some_iff.1 h1).1
    have ih := eq_table_Valid_l1 t ht xs (m + 1) h2 h3
    rw [Mtable_Valid_l1.eq_2, bnd_eq, range_all _ _ _ h3, okAt_cons t m r h1, eq_table_validRow, show (m : Int) + 1 = ((m + 1 : Nat) : Int) by omega, ih]
    cases vrow r with
    | false => rfl
    | true =>
      cases m with
      | zero => rfl
      | succ m =>
        have e1 : i64w (((m + 1 : Nat) : Int) - 1) = (m : Int) := by rw [i64w_id (by omega) (by omega)]; omega
        have e2 : decide ((0 : Int) < ((m + 1 : Nat) : Int)) = true := decide_eq_true (by omega)
        have e3 : t[m + 1 - 1]? = some t[m] := List.getElem?_eq_getElem (by omega)
        rw [e1, e2, e3, lget_nat, List.getElem?_eq_getElem (show m < t.length by omega), obnd_some]
        have e4 : (m + 1 == 0) = false := rfl
        rw [e4]
        simp only
        cases bl t[m].key r.key <;> rfl
theorem eq_table_Valid (t : List Kv) : Mtable_Valid t = some (tvalid t) := by
  unfold Mtable_Valid
  rw [sel_ite]
  by_cases h : t.length ≤ 1024
  · rw [if_neg (by simp; omega)]
    have := eq_table_Valid_l1 t h t 0 rfl (Nat.zero_le _)
    rw [show ((0 : Nat) : Int) = 0 from rfl] at this
    rw [this, obnd_some, tvalid, List.range_eq_range']
    simp only [Nat.sub_zero, h, decide_true, Bool.true_and]
    cases (List.range' 0 t.length).all (okAt t) <;> rfl
  · rw [if_pos (by simp; omega)]
    simp [tvalid, h]
theorem eq_ref22_Check_l1 : ∀ l : List Rng, Mref22_Check_l1 l = sel (l.all vld) (.nxt ()) (.ret 1)
  | [] => rfl
  | r :: l => by
    rw [Mref22_Check_l1.eq_2, bnd_eq, eq_ref1_Valid, eq_ref22_Check_l1 l, List.all_cons]
    cases vld r <;> rfl
theorem eq_ref22_Check (q : TQuery) : Mref22_Check q = qchk q.Kind q.Ranges q.Key q.Count := by
  obtain ⟨k, l, key, c⟩ := q
  unfold Mref22_Check qchk
  simp only [bnd_eq, eq_ref22_Check_l1, eq_ref1_ValidKey, sel_ite, decide_eq_true_eq, Bool.not_eq_true', decide_eq_false_iff_not]
  by_cases a1 : k < 1 ∨ 4 < k
  · rcases a1 with a1 | a1
    · simp [a1]
    · have : ¬ k < 1 := by omega
      simp [a1, this]
  have b1 : ¬ k < 1 := by omega
  have b2 : ¬ 4 < k := by omega
  by_cases a2 : 64 < l.length
  · have : 64 < (l.length : Int) := by omega
    simp [b1, b2, a2, this]
  have b3 : ¬ 64 < (l.length : Int) := by omega
  cases hv : l.all vld with
  | false => simp [b1, b2, a2, b3, hv, cbnd_ret]
  | true =>
    simp only [b1, b2, a2, b3, hv, if_true, if_false, cbnd_nxt, Bool.false_eq_true, or_self, decide_false]
    have hl : (0 < (l.length : Int)) ↔ 0 < l.length := by omega
    by_cases h1 : vk key = false
    · simp [h1]
    · have h1' : vk key = true := by simpa using h1
      by_cases h2 : 0 < l.length <;> by_cases h3 : k = 1 <;> by_cases h4 : key = ⟨#[]⟩ <;> by_cases h5 : k = 3 <;> by_cases h6 : k = 4 <;> first
        | (exfalso; omega)
        | (simp [h1', h2, h3, h4, h5, h6] <;> (repeat' split) <;> first | rfl | omega | (simp_all; done) | (simp_all; omega))
theorem eq_query_Check (q : TQuery) (h : q.Ranges.length < 1000000) : Mquery_Check q = some (qchk q.Kind q.Ranges q.Key q.Count) := if_pos h
theorem eq_ranges (q : TQuery) (h : q.Ranges.length < 1000000) : Mquery_Ranges q = some (qranges q.Kind q.Ranges q.Key q.Count) ∧ Mref22_Ranges q = some (qranges q.Kind q.Ranges q.Key q.Count) := ⟨if_pos h, if_pos h⟩
theorem take_eq (q : TQuery) (l : List Kv) (h : l.length ≤ 1000000000) : Mquery_Take q l = some (qtk q.Kind q.Count l) ∧ Mref22_Take q l = some (qtk q.Kind q.Count l) := by
  have hmm : min (max q.Count 0) (l.length : Int) = max 0 (min q.Count (l.length : Int)) := by omega
  unfold Mquery_Take Mref22_Take Mclone_List_api_Row_ qtk
  rw [hmm]
  generalize hn : max 0 (min q.Count (l.length : Int)) = n
  simp only [sel_ite, decide_eq_true_eq]
  by_cases h3 : q.Kind = 3
  · rw [if_pos h3, if_pos h3, if_pos h3, lsl_le (by omega), obnd_some, app_le (by simp; omega)]
    simp [obnd_some, app_le, show l.length ≤ 4294967296 by omega, show min n.toNat l.length ≤ 4294967296 by omega]
  · rw [if_neg h3, if_neg h3, if_neg h3]
    by_cases h4 : q.Kind = 4
    · rw [if_pos h4, if_pos h4, if_pos h4, i64w_id (by omega) (by omega), lsl_le (by omega), obnd_some, app_le (by simp; omega)]
      simp only [obnd_some, List.nil_append]
      have e : ((l.length : Int) - n).toNat = l.length - n.toNat := by omega
      rw [e, List.take_of_length_le (by simp)]
      refine ⟨rfl, ?_⟩
      rw [app_le (by simp; omega)]; rfl
    · rw [if_neg h4, if_neg h4, if_neg h4, app_le (by simp; omega)]
      simp [obnd_some]
theorem eq_query_Answer_l1 (t : List Kv) (ht : t.length ≤ 1024) : ∀ (rs : List Rng) (out : List Kv), out.length + rs.length * 1024 ≤ 1000000000 → Mquery_Answer_l1 t rs out = some (out ++ qslices t rs)
  | [], out, _ => by simp [Mquery_Answer_l1, qslices]
  | r :: rs, out, h => by
    have hf := List.length_filter_le (fun x : Kv => contains r x.key) t
    rw [Mquery_Answer_l1.eq_2, eq_table_Slice _ _ (by omega), obnd_some, app_le (by omega), obnd_some, eq_query_Answer_l1 t ht rs _ (by simp at h ⊢; omega)]
    simp [qslices]
theorem eq_ref22_Answer_l1 (t : List Kv) (ht : t.length ≤ 1024) : ∀ (rs : List Rng) (out : List Kv), out.length + rs.length * 1024 ≤ 1000000000 → Mref22_Answer_l1 t rs out = some (out ++ qslices t rs)
  | [], out, _ => by simp [Mref22_Answer_l1, qslices]
  | r :: rs, out, h => by
    have hf := List.length_filter_le (fun x : Kv => contains r x.key) t
    rw [Mref22_Answer_l1.eq_2, eq_ref20_Slice _ _ (by omega), obnd_some, app_le (by omega), obnd_some, eq_ref22_Answer_l1 t ht rs _ (by simp at h ⊢; omega)]
    simp [qslices]
theorem qtk_sub (k c : Int) (l : List Kv) : ∀ r ∈ qtk k c l, r ∈ l := by
  intro r h
  unfold qtk at h
  split at h
  · exact List.mem_of_mem_take h
  split at h
  · exact List.mem_of_mem_drop h
  · exact h
theorem qslices_sub (t : List Kv) (rs : List Rng) : ∀ r ∈ qslices t rs, r ∈ t := by
  intro r h
  simp only [qslices, List.mem_flatMap, List.mem_filter] at h
  obtain ⟨_, _, h, _⟩ := h
  exact h
theorem qslices_len (t : List Kv) (rs : List Rng) : (qslices t rs).length ≤ rs.length * t.length := by
  induction rs with
  | nil => simp [qslices]
  | cons r rs ih =>
    have hf := List.length_filter_le (fun x : Kv => contains r x.key) t
    simp only [qslices, List.flatMap_cons, List.length_append, List.length_cons, Nat.succ_mul] at ih ⊢
    omega
theorem answer_eq (t : List Kv) (q : TQuery) (hq : q.Ranges.length < 1000000) : ∃ a e, Mquery_Answer t q = some (a, e) ∧ Mref22_Answer t q = some (a, e) ∧
    e = (if qchk q.Kind q.Ranges q.Key q.Count = 0 then (if tvalid t then 0 else 1) else qchk q.Kind q.Ranges q.Key q.Count) ∧
    (e = 0 → a.Rows = qtk q.Kind q.Count (qslices t (qranges q.Kind q.Ranges q.Key q.Count)) ∧ Mfold_Of a.Rows = some a.Fold ∧ Mref21_Of a.Rows = some a.Fold) := by
  unfold Mquery_Answer Mref22_Answer
  rw [eq_query_Check q hq, obnd_some, bnd_eq, eq_ref22_Check, (eq_ranges q hq).1, (eq_ranges q hq).2, eq_table_Valid, eq_ref20_Valid]
  by_cases h0 : qchk q.Kind q.Ranges q.Key q.Count = 0
  · rw [decide_eq_true h0, if_pos h0]
    simp only [Bool.not_true, sel_false, obnd_some]
    cases hv : tvalid t with
    | false => exact ⟨_, _, rfl, rfl, rfl, fun h => by cases h⟩
    | true =>
      simp only [Bool.not_true, sel_false, if_true]
      have ht := (tvalid_iff t).1 hv
      have hrl := qranges_le q.Kind q.Ranges q.Key q.Count
      generalize qranges q.Kind q.Ranges q.Key q.Count = R at hrl ⊢
      have hsl := qslices_len t R
      have hsz : (qslices t R).length ≤ 64 * 1024 := Nat.le_trans hsl (Nat.mul_le_mul hrl ht.1)
      rw [eq_query_Answer_l1 t ht.1 R [] (by simp; omega), eq_ref22_Answer_l1 t ht.1 R [] (by simp; omega), obnd_some, obnd_some, List.nil_append]
      obtain ⟨k1, k2⟩ := take_eq q (qslices t R) (by omega)
      rw [k1, k2, obnd_some, obnd_some]
      have hlen : (qtk q.Kind q.Count (qslices t R)).length ≤ (qslices t R).length := by
        unfold qtk; split
        · simp; omega
        split
        · simp
        · exact Nat.le_refl _
      obtain ⟨g, e1, e2, -⟩ := of_eq (qtk q.Kind q.Count (qslices t R)) (by omega) (fun r hr => by
        have h1 := ht.2.1 r (qslices_sub _ _ r (qtk_sub _ _ _ r hr))
        simp only [vrow, Bool.and_eq_true, decide_eq_true_eq] at h1
        omega)
      rw [e1, e2]
      exact ⟨_, _, rfl, rfl, rfl, fun _ => ⟨rfl, e1, e2⟩⟩
  · rw [decide_eq_false h0, if_neg h0]
    simp only [Bool.not_false, sel_true]
    exact ⟨_, _, rfl, rfl, rfl, fun h => absurd h h0⟩
end Go.Proofs.YtjnnkpkbgdknmaaDoor
namespace Go.Proofs.YtjnnkpkbgdknmaaDoor
set_option linter.unusedSimpArgs false
set_option linter.unusedVariables false
open Go.RowKit
theorem range_eqb (a b : Rng) : (decide (a.lo.key = b.lo.key) && decide (a.lo.top = b.lo.top) && decide (a.hi.key = b.hi.key) && decide (a.hi.top = b.hi.top)) = decide (a = b) := by
  rcases a with ⟨⟨a1, a2⟩, ⟨a3, a4⟩⟩
  rcases b with ⟨⟨b1, b2⟩, ⟨b3, b4⟩⟩
  simp [Bool.and_assoc]
theorem kv_eqb (a b : Kv) : (decide (a.key = b.key) && decide (a.val = b.val)) = decide (a = b) := by
  rcases a with ⟨a1, a2⟩
  rcases b with ⟨b1, b2⟩
  by_cases h1 : a1 = b1 <;> by_cases h2 : a2 = b2 <;> simp [h1, h2]
theorem drop_eq_iff {α : Type} [DecidableEq α] {a b : List α} (h : a.length = b.length) (m : Nat) : decide (a.drop m = b.drop m) = (if hm : m < a.length then decide (a[m] = b[m]'(by omega)) && decide (a.drop (m + 1) = b.drop (m + 1)) else true) := by
  split
  · rename_i hm
    rw [List.drop_eq_getElem_cons hm, List.drop_eq_getElem_cons (l := b) (by omega)]
    simp only [List.cons.injEq, Bool.decide_and]
  · rw [List.drop_eq_nil_of_le (by omega), List.drop_eq_nil_of_le (by omega)]; simp
theorem eq_ref20_Same_l1 (a b : List Kv) (h : a.length = b.length) : ∀ (xs : List Kv) (m : Nat), a.drop m = xs → m ≤ a.length → Mref20_Same_l1 a b xs (m : Int) = some (sel (decide (a.drop m = b.drop m)) (.nxt ()) (.ret false))
  | [], m, h1, hm => by
    have : a.length - m = 0 := by have := congrArg List.length h1; simpa using this
    rw [Mref20_Same_l1.eq_1, drop_eq_iff h, dif_neg (by omega)]; rfl
  | r :: xs, m, h1, hm => by
    obtain ⟨h2, h3⟩ := drop_get h1
    have h4 := (List.getElem?_eq_some_iff.1 h2).1
    rw [Mref20_Same_l1.eq_2, lget_nat, lget_nat, List.getElem?_eq_getElem h4, List.getElem?_eq_getElem (show m < b.length by omega), obnd_some, obnd_some, kv_eqb, show (m : Int) + 1 = ((m + 1 : Nat) : Int) by omega, eq_ref20_Same_l1 a b h xs (m + 1) h3 h4, drop_eq_iff h m, dif_pos h4]
    cases decide (a[m] = b[m]) <;> rfl
theorem eq_ref20_Same (a b : List Kv) : Mref20_Same a b = some (decide (a = b)) := by
  unfold Mref20_Same
  by_cases h : a.length = b.length
  · have := eq_ref20_Same_l1 a b h a 0 rfl (Nat.zero_le _)
    rw [show ((0 : Nat) : Int) = 0 from rfl, List.drop_zero, List.drop_zero] at this
    rw [decide_eq_true (by omega), this]
    cases decide (a = b) <;> rfl
  · have h2 : a ≠ b := fun e => h (by rw [e])
    rw [decide_eq_false (by omega), decide_eq_false h2]; rfl
theorem sameAnswer_refl (a : TAnswer) : Mref22_SameAnswer a a = some true := by
  unfold Mref22_SameAnswer
  rw [eq_ref20_Same]
  simp [obnd_some, sel_true]
theorem qanswers_l2 (q : TQuery) (hq : q.Ranges.length < 1000000) : ∀ l : List (List Kv), Mlaw22_QueryAnswers_l2 q l = some (.nxt ())
  | [] => rfl
  | t :: l => by
    obtain ⟨a, e, e1, e2, -⟩ := answer_eq t q hq
    rw [Mlaw22_QueryAnswers_l2.eq_2, e1, e2, obnd_some, obnd_some, decide_eq_true rfl]
    simp only [Bool.not_true, sel_false]
    rw [sameAnswer_refl, obnd_some]
    simp only [Bool.not_true, sel_false]
    exact qanswers_l2 q hq l
theorem qanswers_l1 (rows : List Kv) (y : List Kv × TTape) (hy : y.1.length ≤ 100) : ∀ (l : List TQuery) (x : List Int) (a : Int), okT ⟨x, a⟩ → (∀ q ∈ l, q.Ranges.length < 1000000) → Mlaw22_QueryAnswers_l1 rows y l x a = some (.nxt ())
  | [], _, _, _, _ => rfl
  | q :: l, x, a, h, hl => by
    rw [Mlaw22_QueryAnswers_l1.eq_2]
    obtain ⟨r, τ1, e1, h1, -⟩ := oddRows_ok h y.1 (by omega)
    rw [e1, obnd_some, qanswers_l2 q (hl q List.mem_cons_self), obnd_some, ocbnd_nxt, obnd_some, ocbnd_nxt]
    exact qanswers_l1 rows y hy l _ _ h1 fun q hq => hl q (List.mem_cons_of_mem _ hq)
theorem queryAnswers_ok (l : List Int) (raw : TQuery) (rows : List Kv) : Mlaw22_QueryAnswers l raw rows = some true := by
  unfold Mlaw22_QueryAnswers
  rw [awake_ok]
  have hc : ∃ b, (sel (decide (60 < (rows.length : Int))) (some true) (some (decide (100 < (raw.Ranges.length : Int))))) = some b ∧ (b = false → raw.Ranges.length ≤ 100) := by
    rw [sel_ite]; split
    · exact ⟨_, rfl, fun h => by cases h⟩
    · exact ⟨_, rfl, fun h => by have := of_decide_eq_false h; omega⟩
  obtain ⟨b, e0, hb⟩ := hc
  rw [e0, obnd_some]
  cases b with
  | true => rfl
  | false =>
    rw [sel_false]
    have hraw := hb rfl
    obtain ⟨τ, e, h⟩ := new_ok l
    obtain ⟨t, τ1, e1, h1, -, ht⟩ := rows_ok h 10 (by omega) (by omega)
    obtain ⟨q1, τ2, e2, h2, g2⟩ := query_ok h1
    obtain ⟨q2, τ3, e3, h3, g3⟩ := query_ok h2
    obtain ⟨q3, τ4, e4, h4, g4⟩ := oddQuery_ok h3
    rw [e, obnd_some, e1, obnd_some]
    simp only
    rw [e2, obnd_some]; simp only
    rw [e3, obnd_some]; simp only
    rw [e4, obnd_some]; simp only
    rw [qanswers_l1 rows (t, τ1) (by simp only; omega) _ _ _ h4 (fun q hq => by
      have g2' := g2.2.1
      have g3' := g3.2.1
      simp only [List.mem_cons, List.not_mem_nil, or_false] at hq
      rcases hq with rfl | rfl | rfl | rfl <;> omega), obnd_some, ocbnd_nxt, obnd_some]
theorem obnd_ok {α β : Type} {M : Option α} {k : α → Option β} {z : β} (h : ∃ r, M = some r) (hk : ∀ r, k r = some z) : obnd M k = some z := by
  obtain ⟨r, rfl⟩ := h
  exact hk r
def first_query (a b : TQuery) (xs : List Rng) (i : Int) := Mquery_Same_l1 b xs i
def first_ref22 (a b : TQuery) (xs : List Rng) (i : Int) := Mref22_Same_l1 a b xs i
theorem eq_query_Same_l1 (a b : TQuery) (h : a.Ranges.length = b.Ranges.length) : ∀ (xs : List Rng) (m : Nat), a.Ranges.drop m = xs → m ≤ a.Ranges.length → (first_query a b xs (m : Int)) = some (sel (decide (a.Ranges.drop m = b.Ranges.drop m)) (.nxt ()) (.ret false))
  | [], m, h1, hm => by
    have : a.Ranges.length - m = 0 := by have := congrArg List.length h1; simpa using this
    rw [drop_eq_iff h, dif_neg (by omega)]; rfl
  | r :: xs, m, h1, hm => by
    obtain ⟨h2, h3⟩ := drop_get h1
    obtain ⟨h4, h5⟩ := List.getElem?_eq_some_iff.1 h2
    have ih := eq_query_Same_l1 a b h xs (m + 1) h3 h4
    unfold first_query at ih ⊢
    rw [Mquery_Same_l1.eq_2]
    simp only [lget_nat]
    rw [List.getElem?_eq_getElem (show m < b.Ranges.length by omega)]
    try rw [List.getElem?_eq_getElem h4]
    simp only [obnd_some, range_eqb]
    rw [show (m : Int) + 1 = ((m + 1 : Nat) : Int) by omega, ih, drop_eq_iff h m, dif_pos h4]
    try rw [← h5]
    cases decide (a.Ranges[m] = b.Ranges[m]) <;> rfl
theorem eq_query_Same (a b : TQuery) : Mquery_Same a b = some (decide (a = b)) := by
  unfold Mquery_Same
  have hb : (sel (!decide (a.Kind = b.Kind)) (some true) (sel (!decide (a.Key = b.Key)) (some true) (sel (!decide (a.Count = b.Count)) (some true) (some (!decide ((a.Ranges.length : Int) = (b.Ranges.length : Int))))))) = some (!(decide (a.Kind = b.Kind) && decide (a.Key = b.Key) && decide (a.Count = b.Count) && decide (a.Ranges.length = b.Ranges.length))) := by
    have : decide ((a.Ranges.length : Int) = (b.Ranges.length : Int)) = decide (a.Ranges.length = b.Ranges.length) := decide_eq_decide.2 (by omega)
    rw [this]
    cases decide (a.Kind = b.Kind) <;> cases decide (a.Key = b.Key) <;> cases decide (a.Count = b.Count) <;> rfl
  rw [hb, obnd_some]
  by_cases h1 : a.Kind = b.Kind
  · by_cases h2 : a.Key = b.Key
    · by_cases h3 : a.Count = b.Count
      · by_cases h4 : a.Ranges.length = b.Ranges.length
        · have := eq_query_Same_l1 a b h4 a.Ranges 0 rfl (Nat.zero_le _)
          unfold first_query at this
          rw [show ((0 : Nat) : Int) = 0 from rfl, List.drop_zero, List.drop_zero] at this
          rw [this]
          simp only [h1, h2, h3, h4, decide_true, Bool.and_self, Bool.not_true, sel_false, obnd_some]
          have e : decide (a = b) = decide (a.Ranges = b.Ranges) := by
            obtain ⟨k, l, key, c⟩ := a
            obtain ⟨k', l', key', c'⟩ := b
            simp only at h1 h2 h3
            subst h1 h2 h3
            simp
          rw [e]
          cases decide (a.Ranges = b.Ranges) <;> rfl
        · have : a ≠ b := fun e => h4 (by rw [e])
          simp [h4, this, sel_true]
      · have : a ≠ b := fun e => h3 (by rw [e])
        simp [h3, this, sel_true]
    · have : a ≠ b := fun e => h2 (by rw [e])
      simp [h2, this, sel_true]
  · have : a ≠ b := fun e => h1 (by rw [e])
    simp [h1, this, sel_true]
theorem eq_ref22_Same_l1 (a b : TQuery) (h : a.Ranges.length = b.Ranges.length) : ∀ (xs : List Rng) (m : Nat), a.Ranges.drop m = xs → m ≤ a.Ranges.length → (first_ref22 a b xs (m : Int)) = some (sel (decide (a.Ranges.drop m = b.Ranges.drop m)) (.nxt ()) (.ret false))
  | [], m, h1, hm => by
    have : a.Ranges.length - m = 0 := by have := congrArg List.length h1; simpa using this
    rw [drop_eq_iff h, dif_neg (by omega)]; rfl
  | r :: xs, m, h1, hm => by
    obtain ⟨h2, h3⟩ := drop_get h1
    obtain ⟨h4, h5⟩ := List.getElem?_eq_some_iff.1 h2
    have ih := eq_ref22_Same_l1 a b h xs (m + 1) h3 h4
    unfold first_ref22 at ih ⊢
    rw [Mref22_Same_l1.eq_2]
    simp only [lget_nat]
    rw [List.getElem?_eq_getElem (show m < b.Ranges.length by omega)]
    try rw [List.getElem?_eq_getElem h4]
    simp only [obnd_some, range_eqb]
    rw [show (m : Int) + 1 = ((m + 1 : Nat) : Int) by omega, ih, drop_eq_iff h m, dif_pos h4]
    try rw [← h5]
    cases decide (a.Ranges[m] = b.Ranges[m]) <;> rfl
theorem eq_ref22_Same (a b : TQuery) : Mref22_Same a b = some (decide (a = b)) := by
  unfold Mref22_Same
  have hb : (sel (!decide (a.Kind = b.Kind)) (some true) (sel (!decide (a.Key = b.Key)) (some true) (sel (!decide (a.Count = b.Count)) (some true) (some (!decide ((a.Ranges.length : Int) = (b.Ranges.length : Int))))))) = some (!(decide (a.Kind = b.Kind) && decide (a.Key = b.Key) && decide (a.Count = b.Count) && decide (a.Ranges.length = b.Ranges.length))) := by
    have : decide ((a.Ranges.length : Int) = (b.Ranges.length : Int)) = decide (a.Ranges.length = b.Ranges.length) := decide_eq_decide.2 (by omega)
    rw [this]
    cases decide (a.Kind = b.Kind) <;> cases decide (a.Key = b.Key) <;> cases decide (a.Count = b.Count) <;> rfl
  rw [hb, obnd_some]
  by_cases h1 : a.Kind = b.Kind
  · by_cases h2 : a.Key = b.Key
    · by_cases h3 : a.Count = b.Count
      · by_cases h4 : a.Ranges.length = b.Ranges.length
        · have := eq_ref22_Same_l1 a b h4 a.Ranges 0 rfl (Nat.zero_le _)
          unfold first_ref22 at this
          rw [show ((0 : Nat) : Int) = 0 from rfl, List.drop_zero, List.drop_zero] at this
          rw [this]
          simp only [h1, h2, h3, h4, decide_true, Bool.and_self, Bool.not_true, sel_false, obnd_some]
          have e : decide (a = b) = decide (a.Ranges = b.Ranges) := by
            obtain ⟨k, l, key, c⟩ := a
            obtain ⟨k', l', key', c'⟩ := b
            simp only at h1 h2 h3
            subst h1 h2 h3
            simp
          rw [e]
          cases decide (a.Ranges = b.Ranges) <;> rfl
        · have : a ≠ b := fun e => h4 (by rw [e])
          simp [h4, this, sel_true]
      · have : a ≠ b := fun e => h3 (by rw [e])
        simp [h3, this, sel_true]
    · have : a ≠ b := fun e => h2 (by rw [e])
      simp [h2, this, sel_true]
  · have : a ≠ b := fun e => h1 (by rw [e])
    simp [h1, this, sel_true]
theorem querySame_ok (a b : TQuery) (l : List Int) : Mlaw22_QuerySame a b l = some true := by
  unfold Mlaw22_QuerySame
  simp only [awake_ok, eq_query_Same, eq_ref22_Same]
  have hc : ∃ c, (sel (decide (100 < (a.Ranges.length : Int))) (some true) (some (decide (100 < (b.Ranges.length : Int))))) = some c := by
    rw [sel_ite]; split <;> exact ⟨_, rfl⟩
  obtain ⟨c, e0⟩ := hc
  rw [e0, obnd_some]
  cases c with
  | true => rfl
  | false =>
    rw [sel_false]
    obtain ⟨τ, e, h⟩ := new_ok l
    obtain ⟨q1, τ1, e1, h1, g1⟩ := query_ok h
    obtain ⟨q2, τ2, e2, h2, g2⟩ := oddQuery_ok h1
    obtain ⟨x, τ3, e3, h3, -⟩ := next_ok h2 5 (by omega)
    rw [e, obnd_some, e1, obnd_some]; simp only
    rw [e2, obnd_some]; simp only
    rw [e3, obnd_some]; simp only
    obtain ⟨k1, k2, k3, k4, k5⟩ := g1
    refine obnd_ok ?_ (fun r => by simp [obnd_some, sel_true])
    simp only [sel_ite]
    split
    · exact ⟨_, rfl⟩
    split
    · rw [scat_le (by have : (⟨#[97]⟩ : ByteArray).size = 1 := rfl; omega)]; exact ⟨_, rfl⟩
    split
    · rw [app_le (by simp; omega), obnd_some, app_le (by simp; omega)]; exact ⟨_, rfl⟩
    split
    · rw [app_le (by simp; omega), obnd_some]
      split
      · rename_i hh
        simp only [List.nil_append, decide_eq_true_eq] at hh ⊢
        have e0 := lget_nat q1.Ranges 0
        rw [show ((0 : Nat) : Int) = 0 from rfl, List.getElem?_eq_getElem (by omega)] at e0
        rw [e0, obnd_some]
        have hv : q1.Ranges.all vld = true := by
          unfold qchk at k1
          by_cases a1 : q1.Kind < 1 ∨ 4 < q1.Kind
          · simp [a1] at k1
          by_cases a2 : 64 < q1.Ranges.length
          · simp [a1, a2] at k1
          cases hv : q1.Ranges.all vld with
          | true => rfl
          | false => rw [if_neg a1, if_neg a2, if_pos hv] at k1; omega
        have hvk : q1.Ranges[0].hi.key.size ≤ 64 := by
          have := List.all_eq_true.1 hv _ (List.getElem_mem (show 0 < q1.Ranges.length by omega))
          simp only [vld, vb, vk, Bool.and_eq_true, decide_eq_true_eq] at this
          exact this.1.2.1
        rw [scat_le (by have : (⟨#[97]⟩ : ByteArray).size = 1 := rfl; omega), obnd_some, obnd_some]
        exact ⟨_, rfl⟩
      · exact ⟨_, rfl⟩
    · exact ⟨_, rfl⟩
end Go.Proofs.YtjnnkpkbgdknmaaDoor
