/-
  Lemmas: Plain laws of the audit
-/
import Derived.Test.YtohpjdeohpamaaaGreatPA20
import Derived.Test.YtohpjdeohpamaaaGreatPA25
import Derived.Test.YtohpjdeohpamaaaGreatPA29
import Derived.Test.YtohpjdeohpamaaaGreatPA10
import Derived.Test.YtohpjdeohpamaaaGreatPA19
import Derived.Test.YtohpjdeohpamaaaGreatPA13
import Derived.Test.YtohpjdeohpamaaaGreatPA23
import Derived.Test.YtohpjdeohpamaaaGreatPA26
set_option linter.unusedSimpArgs false
set_option linter.unusedVariables false
namespace Go.Proofs.YtohpjdeohpamaaaGreat
open Go.RowKit
def vwr (w : TWrite) : Bool := vk w.Key && decide (w.Value.size ≤ 64) && (!w.Delete || decide (w.Value = ⟨#[]⟩))
theorem eq_table_ValidWrite (w : TWrite) : Mtable_ValidWrite w = vwr w := by
  unfold Mtable_ValidWrite
  simp only [bnd_eq, eq_keyspace_ValidKey, vwr]
  have : decide ((w.Value.size : Int) ≤ 64) = decide (w.Value.size ≤ 64) := by congr 1; simp; omega
  rw [this]
  cases vk w.Key <;> cases decide (w.Value.size ≤ 64) <;> cases w.Delete <;> rfl
theorem eq_ref20_ValidWrite (w : TWrite) : Mref20_ValidWrite w = vwr w := by
  unfold Mref20_ValidWrite
  simp only [bnd_eq, eq_ref1_ValidKey, vwr]
  have : decide ((w.Value.size : Int) ≤ 64) = decide (w.Value.size ≤ 64) := by congr 1; simp; omega
  rw [this]
  cases vk w.Key <;> cases decide (w.Value.size ≤ 64) <;> cases w.Delete <;> rfl
theorem bl_irr (k : ByteArray) : bl k k = false := bytesLess_irrefl _
theorem part_at (k : ByteArray) : ∀ {t : List Kv}, t.Pairwise (fun a b => bl a.key b.key = true) → ∃ A B, t = A ++ B ∧ (∀ r ∈ A, bl r.key k = true) ∧ ∀ r ∈ B, bl r.key k = false
  | [], _ => ⟨[], [], rfl, by simp, by simp⟩
  | r :: t, h => by
    rw [List.pairwise_cons] at h
    cases hb : bl r.key k with
    | true =>
      obtain ⟨A, B, rfl, hA, hB⟩ := part_at k h.2
      exact ⟨r :: A, B, rfl, fun x hx => by rcases List.mem_cons.1 hx with rfl | hx; exact hb; exact hA x hx, hB⟩
    | false =>
      refine ⟨[], r :: t, rfl, by simp, fun x hx => ?_⟩
      rcases List.mem_cons.1 hx with rfl | hx
      · exact hb
      · cases hc : bl x.key k with
        | false => rfl
        | true => rw [show bl r.key k = true from bytesLess_trans (h.1 x hx) hc] at hb; cases hb
theorem half {i j : Int} (h0 : 0 ≤ i) (h1 : i ≤ j) (h2 : j ≤ 2147483648) : i64w (shrI .u64 (IntKind.u64.wrap (i64w (i + j))) 1) = (i + j) / 2 := by
  rw [show i64w (i + j) = i + j from i64w_id (by omega) (by omega)]
  have e : IntKind.u64.wrap (i + j) = i + j := by
    have : IntKind.u64.wrap (i + j) = (i + j) % 18446744073709551616 := rfl
    rw [this]; omega
  rw [e]
  have e2 : shrI .u64 (i + j) 1 = (i + j) / 2 := by
    have : shrI .u64 (i + j) 1 = (i + j).fdiv 2 := rfl
    rw [this, Int.fdiv_eq_ediv_of_nonneg _ (by omega)]
  rw [e2, i64w_id (by omega) (by omega)]
theorem search_l1 (g : Int → Option Bool) (n a : Int) (hn : n ≤ 1073741824) (hg : ∀ i, 0 ≤ i → i < n → g i = some (decide (a ≤ i))) : ∀ (fuel : Nat) (i j : Int), 0 ≤ i → i ≤ a → a ≤ j → j ≤ n → (j - i).toNat < fuel → Msort_Search_l1 g fuel i j = some a
  | 0, _, _, _, _, _, _, h => by omega
  | fuel + 1, i, j, h0, h1, h2, h3, hf => by
    rw [Msort_Search_l1]
    by_cases hij : i < j
    · rw [decide_eq_true hij, sel_true, obnd_some]
      show obnd (g (i64w (shrI .u64 (IntKind.u64.wrap (i64w (i + j))) 1))) _ = _
      rw [half h0 (by omega) (by omega), hg _ (by omega) (by omega), obnd_some]
      by_cases hc : a ≤ (i + j) / 2
      · rw [decide_eq_true hc]
        exact search_l1 g n a hn hg fuel _ _ (by omega) (by omega) (by omega) (by omega) (by omega)
      · rw [decide_eq_false hc]
        show Msort_Search_l1 g fuel (i64w ((i + j) / 2 + 1)) j = some a
        rw [i64w_id (by omega) (by omega)]
        exact search_l1 g n a hn hg fuel _ _ (by omega) (by omega) (by omega) (by omega) (by omega)
    · rw [decide_eq_false hij, sel_false, obnd_some]
      have : i = a := by omega
      subst this; rfl
theorem eq_search (g : Int → Option Bool) (n a : Int) (h0 : 0 ≤ a) (h1 : a ≤ n) (hn : n ≤ 100000) (hg : ∀ i, 0 ≤ i → i < n → g i = some (decide (a ≤ i))) : Msort_Search n g = some a := by
  unfold Msort_Search
  rw [search_l1 g n a (by omega) hg FU 0 n (by omega) h0 h1 (Int.le_refl _) (by simp only [FU]; omega), obnd_some]
theorem cmp_keys (a b : ByteArray) : decide (0 ≤ cmp ⟨a, false⟩ ⟨b, false⟩) = !bl a b := by
  unfold cmp
  simp only [Bnd.lt]
  cases h1 : bl a b
  · cases h2 : bl b a <;> simp [h1, h2]
  · have : bl b a = false := by
      cases h2 : bl b a with
      | false => rfl
      | true => have : bl a a = true := bytesLess_trans h1 h2; rw [bl_irr] at this; cases this
    simp [h1, this]
theorem eq_tplace (k : ByteArray) (A B : List Kv) (hA : ∀ r ∈ A, bl r.key k = true) (hB : ∀ r ∈ B, bl r.key k = false) (hl : (A ++ B).length ≤ 100000) : Mtable_place (A ++ B) ⟨k, false⟩ = some (A.length : Int) := by
  unfold Mtable_place
  rw [eq_search _ _ (A.length : Int) (by omega) (by rw [List.length_append]; omega) (by omega) fun i h0 h1 => ?_, obnd_some]
  unfold Mtable_place_1
  obtain ⟨m, rfl⟩ : ∃ m : Nat, i = m := ⟨i.toNat, by omega⟩
  have hm : m < (A ++ B).length := by omega
  rw [lget_nat, List.getElem?_eq_getElem hm, obnd_some, bnd_eq, eq_keyspace_Compare, cmp_keys]
  congr 1
  by_cases c : m < A.length
  · rw [List.getElem_append_left c, hA _ (List.getElem_mem _), decide_eq_false (by omega)]; rfl
  · rw [List.getElem_append_right (by omega), hB _ (List.getElem_mem _), decide_eq_true (by omega)]; rfl
def aplW (t : List Kv) (w : TWrite) : List Kv × Int := if vwr w = true then (if w.Delete = true then (wthout w.Key t, 0) else put ⟨w.Key, w.Value⟩ t) else ([], 1)
def actl : List TWrite → List Kv → Ctl (List Kv × Int) (List Kv)
  | [], t => .nxt t
  | w :: ws, t => if (aplW t w).2 = 0 then actl ws (aplW t w).1 else .ret ([], (aplW t w).2)
def applyW (t : List Kv) (l : List TWrite) : List Kv × Int := if tvalid t = true then (match actl l t with | .nxt t' => (t', 0) | .ret r => r) else ([], 1)
theorem bl_ne {a b : ByteArray} (h : bl a b = true) : a ≠ b := fun e => by subst e; rw [bl_irr] at h; cases h
theorem bl_asymm {a b : ByteArray} (h : bl a b = true) : bl b a = false := by
  cases h2 : bl b a with
  | false => rfl
  | true => have : bl a a = true := bytesLess_trans h h2; rw [bl_irr] at this; cases this
theorem ba_of {a b : ByteArray} (h : a.toList = b.toList) : a = b := by
  have h4 := ba_eqE a b
  simp only [h, BEq.rfl] at h4
  exact of_decide_eq_true h4.symm
theorem bl_tri {a b : ByteArray} (h : bl a b = false) : a = b ∨ bl b a = true := by
  cases h2 : bl b a with
  | true => exact .inr rfl
  | false => exact .inl (ba_of (bytesLess_total h h2))
structure Parts (k : ByteArray) (t A : List Kv) (b : Option Kv) (C : List Kv) : Prop where
  eq : t = A ++ (b.toList ++ C)
  lo : ∀ r ∈ A, bl r.key k = true
  mid : ∀ r, b = some r → r.key = k
  hi : ∀ r ∈ C, bl k r.key = true
theorem parts (k : ByteArray) {t : List Kv} (h : t.Pairwise (fun a b => bl a.key b.key = true)) : ∃ A b C, Parts k t A b C := by
  obtain ⟨A, B, rfl, hA, hB⟩ := part_at k h
  have hBp := (List.pairwise_append.1 h).2.1
  cases B with
  | nil => exact ⟨A, none, [], by simp, hA, by simp, by simp⟩
  | cons b C =>
    rw [List.pairwise_cons] at hBp
    rcases bl_tri (hB b List.mem_cons_self) with e | e
    · exact ⟨A, some b, C, rfl, hA, fun r hr => by cases hr; exact e, fun r hr => by rw [← e]; exact hBp.1 r hr⟩
    · refine ⟨A, none, b :: C, by simp, hA, by simp, fun r hr => ?_⟩
      rcases List.mem_cons.1 hr with rfl | hr
      · exact e
      · exact bytesLess_trans e (hBp.1 r hr)
section
variable {k : ByteArray} {t A C : List Kv} {b : Option Kv}
theorem Parts.without (h : Parts k t A b C) : wthout k t = A ++ C := by
  have hA : A.filter (fun r => !decide (r.key = k)) = A := List.filter_eq_self.2 fun r hr => by simp [bl_ne (h.lo r hr)]
  have hC : C.filter (fun r => !decide (r.key = k)) = C := List.filter_eq_self.2 fun r hr => by simp [(bl_ne (h.hi r hr)).symm]
  have hb : b.toList.filter (fun r => !decide (r.key = k)) = [] := by
    cases b with
    | none => rfl
    | some r => simp [h.mid r rfl]
  rw [h.eq, wthout, List.filter_append, List.filter_append, hA, hb, hC, List.nil_append]
theorem ins_at (x : Kv) : ∀ (A : List Kv), (∀ r ∈ A, bl r.key x.key = true) → (∀ r ∈ C, bl x.key r.key = true) → ins x (A ++ C) = A ++ x :: C
  | [], _, hC => by
    cases C with
    | nil => rfl
    | cons c C => simp [ins, hC c List.mem_cons_self]
  | a :: A, hA, hC => by
    have := bl_asymm (hA a List.mem_cons_self)
    simp only [List.cons_append, ins, this]
    rw [ins_at x A (fun r hr => hA r (List.mem_cons_of_mem _ hr)) hC]
    rfl
theorem Parts.wth (h : Parts k t A b C) (v : ByteArray) : Go.Proofs.YtohpjdeohpamaaaGreat.wth ⟨k, v⟩ t = A ++ ⟨k, v⟩ :: C := by
  rw [Go.Proofs.YtohpjdeohpamaaaGreat.wth, show (⟨k, v⟩ : Kv).key = k from rfl, h.without, ins_at ⟨k, v⟩ A h.lo h.hi]
theorem Parts.len (h : Parts k t A b C) : t.length = A.length + (b.toList.length + C.length) := by rw [h.eq]; simp
theorem Parts.valid (h : Parts k t A b C) (ht : tvalid t = true) : tvalid (A ++ C) = true := by
  rw [← h.without]
  rw [tvalid_iff] at ht ⊢
  exact ⟨Nat.le_trans (List.length_filter_le _ _) ht.1, fun r hr => ht.2.1 r (List.mem_filter.1 hr).1, List.Pairwise.filter _ ht.2.2⟩
theorem Parts.validx (h : Parts k t A b C) (ht : tvalid t = true) {v : ByteArray} (hv : vrow ⟨k, v⟩ = true) (hl : A.length + C.length < 1024) : tvalid (A ++ ⟨k, v⟩ :: C) = true := by
  have h1 := h.valid ht
  rw [tvalid_iff] at h1 ⊢
  obtain ⟨-, g1, g2⟩ := h1
  rw [List.pairwise_append] at g2
  refine ⟨by simp; omega, fun r hr => ?_, ?_⟩
  · rcases List.mem_append.1 hr with hr | hr
    · exact g1 r (List.mem_append_left _ hr)
    · rcases List.mem_cons.1 hr with rfl | hr
      · exact hv
      · exact g1 r (List.mem_append_right _ hr)
  · rw [List.pairwise_append, List.pairwise_cons]
    refine ⟨g2.1, ⟨h.hi, g2.2.1⟩, fun a ha c hc => ?_⟩
    rcases List.mem_cons.1 hc with rfl | hc
    · exact h.lo a ha
    · exact g2.2.2 a ha c hc
end
theorem vwr_row {w : TWrite} (h : vwr w = true) : vrow ⟨w.Key, w.Value⟩ = true := by
  simp only [vwr, Bool.and_eq_true] at h
  simp [vrow, h.1.1, of_decide_eq_true h.1.2]
theorem aplW_valid {t : List Kv} {w : TWrite} (ht : tvalid t = true) (h : (aplW t w).2 = 0) : tvalid (aplW t w).1 = true := by
  obtain ⟨A, b, C, hp⟩ := parts w.Key ((tvalid_iff t).1 ht).2.2
  unfold aplW at h ⊢
  by_cases hw : vwr w = true
  · rw [if_pos hw] at h ⊢
    by_cases hd : w.Delete = true
    · rw [if_pos hd] at h ⊢
      simp only [hp.without]; exact hp.valid ht
    · rw [if_neg hd] at h ⊢
      simp only [put, ht, vwr_row hw, Bool.and_self, if_true, hp.wth] at h ⊢
      split at h
      · cases h
      · rename_i hl
        rw [if_neg hl]
        exact hp.validx ht (vwr_row hw) (by simp at hl; omega)
  · rw [if_neg hw] at h; cases h
theorem lget_mid (A C : List Kv) (r : Kv) : lget (A ++ r :: C) (A.length : Int) = some r := by
  rw [lget_nat, List.getElem?_append_right (Nat.le_refl _)]; simp
theorem set_mid (A C : List Kv) (r x : Kv) : (A ++ r :: C).set A.length x = A ++ x :: C := by
  rw [List.set_append_right _ _ (Nat.le_refl _)]; simp
theorem cpy_mid (A B : List Kv) (e : Kv) : ∃ x, cpy (A ++ (B ++ [e])) (A.length + 1) A.length B.length = A ++ x :: B := by
  obtain ⟨x, D, hx⟩ : ∃ x D, B ++ [e] = x :: D := by
    cases B with
    | nil => exact ⟨e, [], rfl⟩
    | cons b B => exact ⟨b, B ++ [e], rfl⟩
  refine ⟨x, ?_⟩
  have hl : D.length = B.length := by have := congrArg List.length hx; simpa using this.symm
  unfold cpy
  have h1 : (A ++ (B ++ [e])).take (A.length + 1) = A ++ [x] := by
    rw [hx, List.take_append, List.take_of_length_le (by omega)]; simp
  have h2 : ((A ++ (B ++ [e])).drop A.length).take B.length = B := by
    rw [List.drop_append]; simp
  have h3 : (A ++ (B ++ [e])).drop (A.length + 1 + B.length) = [] := List.drop_eq_nil_of_le (by simp; omega)
  rw [h1, h2, h3]; simp
theorem table_Apply_l1 : ∀ (l : List TWrite) (t : List Kv), tvalid t = true → Mtable_Apply_l1 l t = some (actl l t)
  | [], t, _ => rfl
  | w :: ws, t, ht => by
    have ih := fun h0 => table_Apply_l1 ws (aplW t w).1 (aplW_valid ht h0)
    obtain ⟨A, b, C, hp⟩ := parts w.Key ((tvalid_iff t).1 ht).2.2
    have hlen := hp.len
    have hmax := ((tvalid_iff t).1 ht).1
    rw [Mtable_Apply_l1, bnd_eq, eq_table_ValidWrite]
    by_cases hw : vwr w = true
    case neg =>
      have hw' : vwr w = false := by simpa using hw
      simp only [hw', Bool.not_false, sel_true, actl, aplW]
      simp
    have hpl : Mtable_place t (Bnd.mk w.Key false) = some (A.length : Int) := by
      rw [hp.eq]
      refine eq_tplace _ _ _ hp.lo (fun r hr => ?_) (by rw [← hp.eq]; omega)
      rcases List.mem_append.1 hr with hr | hr
      · have : b = some r := by simpa using hr
        rw [hp.mid r this]; exact bytesLess_irrefl _
      · exact bl_asymm (hp.hi r hr)
    simp only [hw, Bool.not_true, sel_false]
    rw [hpl, obnd_some]
    have hst : aplW t w = if w.Delete = true then (A ++ C, 0) else if 1024 < (A ++ ⟨w.Key, w.Value⟩ :: C).length then ([], 16) else (A ++ ⟨w.Key, w.Value⟩ :: C, 0) := by
      simp only [aplW, hw, if_true, hp.without, put, ht, vwr_row hw, Bool.and_self, hp.wth]
    rw [actl]
    cases b with
    | some r =>
      have hk := hp.mid r rfl
      have he : t = A ++ r :: C := hp.eq
      simp only [Option.toList_some, List.length_cons, List.length_nil] at hlen
      rw [decide_eq_true (show (A.length : Int) < (t.length : Int) by omega), sel_true, he, lget_mid, obnd_some, decide_eq_true hk, obnd_some, ← he]
      by_cases hd : w.Delete = true
      · rw [hd] at hst ⊢
        rw [if_pos rfl] at hst
        rw [hst] at ih ⊢
        simp only [sel_true, obnd_some, if_true]
        rw [lsl_le (show 0 ≤ (0 : Int) ∧ (0 : Int) ≤ A.length ∧ (A.length : Int) ≤ t.length by omega), obnd_some, i64w_id (by omega) (by omega), lsl_le (show 0 ≤ (A.length : Int) + 1 ∧ (A.length : Int) + 1 ≤ t.length ∧ (t.length : Int) ≤ t.length by omega), obnd_some]
        have e1 : (t.drop (0 : Int).toNat).take ((A.length : Int).toNat - (0 : Int).toNat) = A := by rw [he]; simp
        have e2 : (t.drop ((A.length : Int) + 1).toNat).take ((t.length : Int).toNat - ((A.length : Int) + 1).toNat) = C := by
          have h1 : ((A.length : Int) + 1).toNat = A.length + 1 := by omega
          have h2 : (t.length : Int).toNat - (A.length + 1) = C.length := by omega
          rw [h1, h2, he, List.drop_append, List.drop_eq_nil_of_le (by omega)]; simp
        rw [e1, e2]
        have e3 : apd t A C = some (A ++ C) := by unfold apd; rw [if_pos (by omega)]
        rw [e3, obnd_some]
        exact ih rfl
      · have hd' : w.Delete = false := by simpa using hd
        rw [hd'] at hst ⊢
        rw [if_neg (by simp), if_neg (by simp; omega)] at hst
        rw [hst] at ih ⊢
        simp only [sel_false, sel_true, obnd_some, bnd_eq, if_true]
        rw [he, Int.toNat_natCast, set_mid, hk]
        exact ih rfl
    | none =>
      have he : t = A ++ C := by have := hp.eq; simpa using this
      simp only [Option.toList_none, List.length_nil, Nat.zero_add] at hlen
      have hf : (sel (decide ((A.length : Int) < (t.length : Int))) (obnd (lget t (A.length : Int)) fun e11 => some (decide (e11.key = w.Key))) (some false) : Option Bool) = some false := by
        cases C with
        | nil => rw [decide_eq_false (by simp at hlen; omega)]; rfl
        | cons c C =>
          rw [decide_eq_true (by simp at hlen; omega), he, lget_mid, sel_true, obnd_some, decide_eq_false (bl_ne (hp.hi c List.mem_cons_self)).symm]
      rw [hf, obnd_some]
      by_cases hd : w.Delete = true
      · rw [hd] at hst ⊢
        rw [if_pos rfl, ← he] at hst
        rw [hst] at ih ⊢
        simp only [sel_true, obnd_some, sel_false, if_true]
        exact ih rfl
      · have hd' : w.Delete = false := by simpa using hd
        rw [hd'] at hst ⊢
        rw [if_neg (by simp)] at hst
        simp only [sel_false, obnd_some]
        by_cases hfull : t.length = 1024
        · rw [decide_eq_true (by omega), sel_true]
          rw [if_pos (by simp; omega)] at hst
          rw [hst]
          simp
        · rw [decide_eq_false (by omega), sel_false]
          rw [if_neg (by simp; omega)] at hst
          rw [hst] at ih ⊢
          simp only [if_true]
          rw [app_le (by simp; omega), obnd_some]
          generalize hE : (⟨⟨#[]⟩, ⟨#[]⟩⟩ : Kv) = E
          have hL : (t ++ [E]).length = t.length + 1 := by simp
          rw [i64w_id (by omega) (by omega), lsl_le (by rw [hL]; omega), obnd_some, lsl_le (by rw [hL]; omega), obnd_some, bnd_eq]
          have e1 : (((t ++ [E]).drop ((A.length : Int) + 1).toNat).take (((t ++ [E]).length : Int).toNat - ((A.length : Int) + 1).toNat)).length = C.length := by
            rw [List.length_take, List.length_drop, hL]; omega
          have e2 : (((t ++ [E]).drop (A.length : Int).toNat).take (((t ++ [E]).length : Int).toNat - (A.length : Int).toNat)).length = C.length + 1 := by
            rw [List.length_take, List.length_drop, hL]; omega
          rw [e1, e2, show min (C.length + 1) C.length = C.length by omega, show ((A.length : Int) + 1).toNat = A.length + 1 by omega, Int.toNat_natCast]
          obtain ⟨x, hx⟩ := cpy_mid A C E
          rw [he, List.append_assoc, hx, lget_mid, obnd_some, bnd_eq, bnd_eq, set_mid]
          exact ih rfl
theorem ref20_Do (t : List Kv) (w : TWrite) (ht : tvalid t = true) : Mref20_Do t w = some (aplW t w) := by
  have hl := ((tvalid_iff t).1 ht).1
  unfold Mref20_Do aplW
  rw [bnd_eq, eq_ref20_ValidWrite]
  cases vwr w with
  | false => rfl
  | true =>
    simp only [Bool.not_true, sel_false, if_true]
    cases w.Delete with
    | true => simp only [sel_true, if_true]; rw [eq_ref20_without _ _ (by omega), obnd_some]
    | false => simp only [sel_false]; rw [eq_ref20_Put _ _ (by omega), obnd_some]; rfl
theorem ref20_Apply_l1 : ∀ (l : List TWrite) (t : List Kv), tvalid t = true → Mref20_Apply_l1 l t = some (actl l t)
  | [], t, _ => rfl
  | w :: ws, t, ht => by
    rw [Mref20_Apply_l1, ref20_Do t w ht, obnd_some, actl]
    by_cases h0 : (aplW t w).2 = 0
    · rw [if_pos h0, decide_eq_true h0]
      exact ref20_Apply_l1 ws _ (aplW_valid ht h0)
    · rw [if_neg h0, decide_eq_false h0]; rfl
theorem actl_valid : ∀ {l : List TWrite} {t t' : List Kv}, tvalid t = true → actl l t = .nxt t' → tvalid t' = true
  | [], t, t', ht, h => by cases h; exact ht
  | w :: ws, t, t', ht, h => by
    rw [actl] at h
    split at h
    · exact actl_valid (aplW_valid ht (by assumption)) h
    · cases h
theorem actl_ret : ∀ {l : List TWrite} {t : List Kv} {r : List Kv × Int}, actl l t = .ret r → r.1 = [] ∧ r.2 ≠ 0
  | [], t, r, h => by cases h
  | w :: ws, t, r, h => by
    rw [actl] at h
    split at h
    · exact actl_ret h
    · cases h; exact ⟨rfl, by assumption⟩
theorem apply_valid {t : List Kv} {l : List TWrite} (h : (applyW t l).2 = 0) : tvalid (applyW t l).1 = true := by
  unfold applyW at h ⊢
  by_cases ht : tvalid t = true
  · rw [if_pos ht] at h ⊢
    cases e : actl l t with
    | nxt t' => exact actl_valid ht e
    | ret r => rw [e] at h; exact absurd h (actl_ret e).2
  · rw [if_neg ht] at h; cases h
theorem eq_table_Apply (t : List Kv) (l : List TWrite) : Mtable_Apply t l = some (applyW t l) := by
  unfold Mtable_Apply applyW
  rw [eq_table_Valid, obnd_some]
  cases ht : tvalid t with
  | false => rfl
  | true =>
    have hl := ((tvalid_iff t).1 ht).1
    simp only [Bool.not_true, sel_false, if_true]
    rw [app_le (by simp; omega), obnd_some, List.nil_append, table_Apply_l1 l t ht, obnd_some]
    cases actl l t <;> rfl
theorem eq_ref20_Apply (t : List Kv) (l : List TWrite) : Mref20_Apply t l = some (applyW t l) := by
  unfold Mref20_Apply applyW
  rw [eq_ref20_Valid, obnd_some]
  cases ht : tvalid t with
  | false => rfl
  | true =>
    simp only [Bool.not_true, sel_false, if_true]
    rw [ref20_Apply_l1 l t ht, obnd_some]
    cases e : actl l t with
    | ret r => rfl
    | nxt t' =>
      have hl := ((tvalid_iff t').1 (actl_valid ht e)).1
      show obnd (app [] t') _ = _
      rw [app_le (by simp; omega), obnd_some]; rfl
end Go.Proofs.YtohpjdeohpamaaaGreat
namespace Go.Proofs.YtohpjdeohpamaaaGreat
open Go.RowKit
def dval (d : ByteArray) : Nat → Nat
  | 0 => 0
  | k + 1 => dval d k * 10 + ((d.get! k).toNat - 48)
def isD (d : ByteArray) (k : Nat) : Prop := 48 ≤ (d.get! k).toNat ∧ (d.get! k).toNat ≤ 57
def allD (d : ByteArray) : Prop := ∀ k, k < d.size → isD d k
def badN (mn : Bool) (d : ByteArray) : Prop := d.size = 0 ∨ 13 < d.size ∨ ((d.get! 0).toNat = 48 ∧ (1 < d.size ∨ mn = true)) ∨ ¬ allD d ∨ 1000000000000 < dval d d.size
open Classical in
noncomputable def numD (mn : Bool) (d : ByteArray) : Int × Bool :=
  if badN mn d then (0, false) else (if mn then - (dval d d.size : Int) else dval d d.size, true)
noncomputable def num (s : ByteArray) : Int × Bool := if 1 < s.size ∧ (s.get! 0).toNat = 45 then numD true (s.extract 1 s.size) else numD false s
theorem numD_f {mn : Bool} {d : ByteArray} (h : badN mn d) : numD mn d = (0, false) := if_pos h
theorem numD_t {mn : Bool} {d : ByteArray} (h : ¬ badN mn d) : numD mn d = (if mn then - (dval d d.size : Int) else dval d d.size, true) := if_neg h
theorem dval_lt {d : ByteArray} : ∀ {k : Nat}, (∀ j, j < k → isD d j) → dval d k < 10 ^ k
  | 0, _ => by simp [dval]
  | k + 1, h => by
    have h1 := dval_lt (k := k) fun j hj => h j (by omega)
    have h2 := h k (by omega)
    unfold isD at h2
    rw [dval, Nat.pow_succ]; omega
theorem dval_mono {d : ByteArray} {k m : Nat} (h : k ≤ m) : dval d k ≤ dval d m := by
  induction m with
  | zero => rw [Nat.le_zero.1 h]; exact Nat.le_refl _
  | succ m ih =>
    rcases Nat.lt_or_ge k (m + 1) with h1 | h1
    · have := ih (by omega); rw [dval]; omega
    · rw [show k = m + 1 by omega]; exact Nat.le_refl _
theorem dval_big {d : ByteArray} (h0 : 49 ≤ (d.get! 0).toNat) : ∀ {k : Nat}, 10 ^ k ≤ dval d (k + 1)
  | 0 => by simp [dval]; omega
  | k + 1 => by
    have := dval_big h0 (k := k)
    rw [dval, Nat.pow_succ]; omega
theorem dval_13 {d : ByteArray} {k : Nat} (h : ∀ j, j < k → isD d j) (hk : k ≤ 13) : dval d k < 10000000000000 := by
  have h1 := dval_lt h
  have h2 : 10 ^ k ≤ 10 ^ 13 := Nat.pow_le_pow_right (by decide) hk
  omega
theorem badN_1 {mn : Bool} {d : ByteArray} (h : d.size = 0) : badN mn d := .inl h
theorem badN_2 {mn : Bool} {d : ByteArray} (h : 13 < d.size) : badN mn d := .inr (.inl h)
theorem badN_4 {mn : Bool} {d : ByteArray} (k : Nat) (h : k < d.size) (h1 : ¬ isD d k) : badN mn d := .inr (.inr (.inr (.inl fun h2 => h1 (h2 k h))))
theorem badN_5 {mn : Bool} {d : ByteArray} (h : 1000000000000 < dval d d.size) : badN mn d := .inr (.inr (.inr (.inr h)))
theorem get_lt (d : ByteArray) (m : Nat) : (d.get! m).toNat < 256 := (d.get! m).toNat_lt
attribute [local irreducible] WK WC WL Wk Rel OpD OpV WD WO Op.bytesLess cmp vk vb vld emp contains
attribute [local irreducible] numD num
theorem good_num {mn : Bool} {d : ByteArray} (h1 : d.size ≠ 0) (h2 : d.size ≤ 13) (h3 : (d.get! 0).toNat = 48 → d.size ≤ 1 ∧ mn = false) (h4 : ∀ j, j < d.size → isD d j) (h5 : dval d d.size ≤ 1000000000000) : ¬ badN mn d := by
  rintro (h | h | ⟨h, h'⟩ | h | h)
  · exact h1 h
  · omega
  · obtain ⟨g1, g2⟩ := h3 h
    rcases h' with h' | h'
    · omega
    · rw [g2] at h'; cases h'
  · exact h h4
  · omega
end Go.Proofs.YtohpjdeohpamaaaGreat
namespace Go.Proofs.YtohpjdeohpamaaaGreat
open Go.RowKit
theorem sget_lt {s : ByteArray} {m : Nat} (h : m < s.size) : sget s (m : Int) = some ((s.get! m).toNat : Int) := by
  unfold sget; rw [if_pos (by omega)]; simp
theorem dec_ascii {s : ByteArray} {i : Nat} (h : i < s.size) (hb : (s.get! i).toNat < 128) : Utf8.decode s i = ((s.get! i).toNat, 1) := by
  unfold Utf8.decode
  simp only [Nat.add_zero, Utf8.runeError]
  rw [if_pos (by simpa using hb)]
theorem obnd_if {α β : Type} {p : Prop} [Decidable p] (a b : α) (k : α → Option β) : obnd (if p then some a else some b) k = k (if p then a else b) := by split <;> rfl
theorem i32w_id {a : Int} (h1 : -2147483648 ≤ a) (h2 : a ≤ 2147483647) : IntKind.i32.wrap a = a := wi32 h1 h2
theorem u8w_id {a : Int} (h1 : 0 ≤ a) (h2 : a ≤ 255) : IntKind.u8.wrap a = a := wu8 h1 h2
theorem ref21_num_l1 (s : ByteArray) (hs : s.size ≤ 13) : ∀ (fuel m : Nat), s.size - m < fuel → m ≤ s.size → (∀ j, j < m → isD s j) →
    Mref21_Number_l1 s fuel (dval s m : Int) (m : Int) = some (open Classical in if allD s then .nxt (dval s s.size : Int) else .ret (0, false))
  | 0, _, h, _, _ => absurd h (by omega)
  | fuel + 1, m, h, hm, hd => by
    rw [Mref21_Number_l1.eq_2, sel_ite]
    by_cases hi : m < s.size
    · rw [if_pos (by simpa using hi), obnd_some, ocbnd_nxt, sget_lt hi]
      simp only [obnd_some]
      have hb := get_lt s m
      have hv := dval_13 hd (by omega)
      by_cases hdm : isD s m
      · have hdm' := hdm
        unfold isD at hdm'
        have e1 : decide (((s.get! m).toNat : Int) < 48) = false := decide_eq_false (by omega)
        have e2 : decide (57 < ((s.get! m).toNat : Int)) = false := decide_eq_false (by omega)
        rw [e1, sel_false, e2, obnd_some, sel_false, u8w_id (by omega) (by omega), i64w_id (a := 10 * (dval s m : Int)) (by omega) (by omega), i64w_id (a := ((s.get! m).toNat : Int) - 48) (by omega) (by omega), i64w_id (by omega) (by omega), i64w_id (by omega) (by omega)]
        have := ref21_num_l1 s hs fuel (m + 1) (by omega) (by omega) (fun j hj => by
          rcases Nat.lt_or_ge j m with h1 | h1
          · exact hd j h1
          · rw [show j = m by omega]; exact hdm)
        have e3 : ((dval s (m + 1) : Nat) : Int) = 10 * (dval s m : Int) + (((s.get! m).toNat : Int) - 48) := by rw [dval]; omega
        rw [e3] at this
        rw [← this]; congr 1
      · have hna : ¬ allD s := fun h => hdm (h m hi)
        rw [if_neg hna]
        unfold isD at hdm
        by_cases h48 : ((s.get! m).toNat : Int) < 48
        · rw [decide_eq_true h48, sel_true, obnd_some, sel_true]
        · rw [decide_eq_false h48, sel_false, obnd_some, decide_eq_true (by omega), sel_true]
    · rw [if_neg (by simpa using hi), obnd_some, ocbnd_ret]
      obtain rfl : m = s.size := by omega
      rw [if_pos (show allD s from fun k hk => hd k hk)]
theorem fold_num_l1 (s : ByteArray) (hs : s.size ≤ 4000000000) : ∀ (fuel m : Nat), s.size - m < fuel → m ≤ s.size → (∀ j, j < m → isD s j) → dval s m ≤ 1000000000000 →
    Mfold_Number_l1 s fuel (dval s m : Int) m = some (open Classical in if allD s ∧ dval s s.size ≤ 1000000000000 then .nxt (dval s s.size : Int) else .ret (0, false))
  | 0, _, h, _, _, _ => absurd h (by omega)
  | fuel + 1, m, h, hm, hd, hv => by
    rw [Mfold_Number_l1.eq_2, sel_ite]
    by_cases hi : m < s.size
    · rw [if_pos (by simpa using hi), bnd_eq]
      have hb := get_lt s m
      by_cases hdm : isD s m
      · have hdm' := hdm
        unfold isD at hdm'
        rw [dec_ascii hi (by omega)]
        have e1 : decide (((s.get! m).toNat : Int) < 48) = false := decide_eq_false (by omega)
        have e2 : decide (57 < ((s.get! m).toNat : Int)) = false := decide_eq_false (by omega)
        simp only
        rw [e1, sel_false, e2, obnd_some, sel_false, i32w_id (by omega) (by omega), i64w_id (a := (dval s m : Int) * 10) (by omega) (by omega), i64w_id (a := ((s.get! m).toNat : Int) - 48) (by omega) (by omega), i64w_id (by omega) (by omega)]
        have e3 : ((dval s (m + 1) : Nat) : Int) = (dval s m : Int) * 10 + (((s.get! m).toNat : Int) - 48) := by rw [dval]; omega
        rw [← e3, sel_ite]
        by_cases hbig : dval s (m + 1) ≤ 1000000000000
        · rw [if_neg (by simp; omega)]
          exact fold_num_l1 s hs fuel (m + 1) (by omega) (by omega) (fun j hj => by
            rcases Nat.lt_or_ge j m with h1 | h1
            · exact hd j h1
            · rw [show j = m by omega]; exact hdm) hbig
        · rw [if_pos (by simp; omega), if_neg]
          rintro ⟨-, h2⟩
          have := dval_mono (d := s) (show m + 1 ≤ s.size by omega)
          omega
      · have hna : ¬ (allD s ∧ dval s s.size ≤ 1000000000000) := fun h => hdm (h.1 m hi)
        rw [if_neg hna]
        have hrej : (Utf8.decode s m).1 < 48 ∨ 57 < (Utf8.decode s m).1 := by
          apply Classical.byContradiction
          intro hc
          have := dec_lt (s := s) (i := m) (c := (Utf8.decode s m).1) (wd := (Utf8.decode s m).2) rfl (by omega)
          apply hdm
          unfold isD
          omega
        by_cases h48 : ((Utf8.decode s m).1 : Int) < 48
        · rw [decide_eq_true h48, sel_true, obnd_some, sel_true]
        · rw [decide_eq_false h48, sel_false, obnd_some, decide_eq_true (by omega), sel_true]
    · rw [if_neg (by simpa using hi)]
      obtain rfl : m = s.size := by omega
      rw [if_pos (show allD s ∧ dval s s.size ≤ 1000000000000 from ⟨fun k hk => hd k hk, hv⟩)]
theorem ba_size0 {s : ByteArray} : s = ⟨#[]⟩ ↔ s.size = 0 := by
  constructor
  · rintro rfl; rfl
  · intro h
    obtain ⟨d⟩ := s
    have : d = #[] := Array.eq_empty_of_size_eq_zero h
    rw [this]
theorem num_tail (s : ByteArray) (hs : s.size ≤ 4000000000) (neg : Bool) :
    (obnd (sel (decide (s = ⟨#[]⟩)) (some true) (obnd (sget s 0) fun b7 => sel (decide (b7 = 48)) (sel (decide (1 < (s.size : Int))) (some true) (some neg)) (some false)) : Option Bool) fun x8 =>
      sel x8 (some (0, false)) (obnd (Mfold_Number_l1 s FU 0 0 : Option (Ctl (Int × Bool) Int)) fun mu => ocbnd mu fun n13 => sel neg (some (i64w (-n13), true)) (some (n13, true)))) =
    some (numD neg s) ∧
    (obnd (sel (decide ((s.size : Int) = 0)) (some true) (sel (decide (13 < (s.size : Int))) (some true) (obnd (sget s 0) fun b7 => sel (decide (b7 = 48)) (sel (decide (1 < (s.size : Int))) (some true) (some neg)) (some false))) : Option Bool) fun x8 =>
      sel x8 (some (0, false)) (obnd (Mref21_Number_l1 s FU 0 0 : Option (Ctl (Int × Bool) Int)) fun mu => ocbnd mu fun n15 => sel (decide (1000000000000 < n15)) (some (0, false)) (sel neg (some (i64w (-n15), true)) (some (n15, true))))) =
    some (numD neg s) := by
  by_cases h0 : s.size = 0
  · rw [decide_eq_true (ba_size0.2 h0), sel_true, obnd_some, sel_true, decide_eq_true (by omega), sel_true, obnd_some, sel_true, numD_f (badN_1 h0)]
    exact ⟨rfl, rfl⟩
  have hp := fold_num_l1 s hs FU 0 (by unfold FU; omega) (Nat.zero_le _) (fun j h => absurd h (by omega)) (by simp [dval])
  have e0 : ((dval s 0 : Nat) : Int) = 0 := rfl
  rw [e0] at hp
  have es := sget_lt (s := s) (m := 0) (by omega)
  rw [show ((0 : Nat) : Int) = 0 from rfl] at es
  rw [decide_eq_false (fun h => h0 (ba_size0.1 h)), decide_eq_false (show ¬ (s.size : Int) = 0 by omega), sel_false, sel_false, es, obnd_some]
  have hb := get_lt s 0
  -- a leading nought
  by_cases hz : (s.get! 0).toNat = 48 ∧ (1 < s.size ∨ neg = true)
  · have hbad : badN neg s := .inr (.inr (.inl hz))
    have e1 : decide (((s.get! 0).toNat : Int) = 48) = true := decide_eq_true (by omega)
    have e2 : sel (decide (1 < (s.size : Int))) (some true) (some neg) = some true := by
      by_cases h1 : 1 < s.size
      · rw [decide_eq_true (by omega), sel_true]
      · rw [decide_eq_false (by omega), sel_false, hz.2.resolve_left h1]
    rw [e1, sel_true, e2, obnd_some, sel_true, numD_f hbad]
    refine ⟨rfl, ?_⟩
    by_cases h13 : 13 < s.size
    · rw [decide_eq_true (by omega), sel_true, obnd_some, sel_true]
    · rw [decide_eq_false (by omega), sel_false, obnd_some, sel_true]
  · have e3 : sel (decide (((s.get! 0).toNat : Int) = 48)) (sel (decide (1 < (s.size : Int))) (some true) (some neg)) (some false) = some false := by
      by_cases h48 : (s.get! 0).toNat = 48
      · have h1 : ¬ 1 < s.size := fun h => hz ⟨h48, .inl h⟩
        have h2 : neg = false := by cases neg with
          | false => rfl
          | true => exact absurd ⟨h48, .inr rfl⟩ hz
        rw [decide_eq_true (by omega), sel_true, decide_eq_false (by omega), sel_false, h2]
      · rw [decide_eq_false (by omega), sel_false]
    rw [e3, obnd_some, sel_false, hp, obnd_some]
    by_cases h13 : 13 < s.size
    · rw [decide_eq_true (by omega), sel_true, obnd_some, sel_true, numD_f (badN_2 h13)]
      refine ⟨?_, rfl⟩
      rw [if_neg, ocbnd_ret]
      rintro ⟨ha, hv⟩
      have h49 : 49 ≤ (s.get! 0).toNat := by
        have h1 := ha 0 (by omega)
        unfold isD at h1
        have h2 : (s.get! 0).toNat ≠ 48 := fun h => hz ⟨h, .inl (by omega)⟩
        omega
      have h3 : 10 ^ 13 ≤ dval s 14 := dval_big h49 (k := 13)
      have h4 := dval_mono (d := s) (show 14 ≤ s.size by omega)
      omega
    · have hr := ref21_num_l1 s (by omega) FU 0 (by unfold FU; omega) (Nat.zero_le _) (fun j h => absurd h (by omega))
      rw [e0, show ((0 : Nat) : Int) = 0 from rfl] at hr
      rw [decide_eq_false (by omega), sel_false, obnd_some, sel_false, hr, obnd_some]
      by_cases ha : allD s
      · by_cases hv : dval s s.size ≤ 1000000000000
        · have hg : ¬ badN neg s := good_num h0 (by omega) (fun h => ⟨by
            apply Classical.byContradiction; intro h1; exact hz ⟨h, .inl (by omega)⟩, by
            cases neg with
            | false => rfl
            | true => exact absurd ⟨h, .inr rfl⟩ hz⟩) ha hv
          rw [if_pos ⟨ha, hv⟩, if_pos ha, ocbnd_nxt, ocbnd_nxt, numD_t hg, decide_eq_false (by omega), sel_false]
          cases neg with
          | false => exact ⟨rfl, rfl⟩
          | true => rw [sel_true, i64w_id (by omega) (by omega)]; exact ⟨rfl, rfl⟩
        · rw [if_neg (fun h => hv h.2), if_pos ha, ocbnd_ret, ocbnd_nxt, numD_f (badN_5 (by omega)), decide_eq_true (by omega), sel_true]
          exact ⟨rfl, rfl⟩
      · have hbad : badN neg s := .inr (.inr (.inr (.inl ha)))
        rw [if_neg (fun h => ha h.1), if_neg ha, ocbnd_ret, ocbnd_ret, numD_f hbad]
        exact ⟨rfl, rfl⟩
def NB (r : Int × Bool) : Prop := -1000000000000 ≤ r.1 ∧ r.1 ≤ 1000000000000
theorem numD_nb (mn : Bool) (d : ByteArray) : NB (numD mn d) := by
  by_cases h : badN mn d
  · rw [numD_f h]; exact ⟨by simp, by simp⟩
  · rw [numD_t h]
    have : dval d d.size ≤ 1000000000000 := by
      apply Classical.byContradiction; intro hc; exact h (badN_5 (by omega))
    unfold NB
    cases mn <;> simp <;> omega
theorem number_eq (s : ByteArray) (hs : s.size ≤ 4000000000) : ∃ r, Mfold_Number s = some r ∧ Mref21_Number s = some r ∧ NB r := by
  have key : ∀ b c : Bool, (sel (decide (0 < (s.size : Int))) (obnd (sget s 0) fun b2 => some (decide (b2 = 45))) (some false)) = some b → (sel (decide (1 < (s.size : Int))) (obnd (sget s 0) fun b2 => some (decide (b2 = 45))) (some false)) = some c →
      (b = false → c = false) → (b = true → 0 < s.size) → (b = true → c = false → s.size = 1 ∧ (s.get! 0).toNat = 45) → ∃ r, Mfold_Number s = some r ∧ Mref21_Number s = some r ∧ NB r := by
    intro b c hb hc h1 h2 h3
    unfold Mfold_Number Mref21_Number
    rw [hb, hc, obnd_some, obnd_some]
    cases b with
    | false =>
      rw [h1 rfl, sel_false, obnd_some]
      exact ⟨_, (num_tail s hs false).1, (num_tail s hs false).2, numD_nb _ _⟩
    | true =>
      have e : ssl s 1 (s.size : Int) = some (s.extract 1 s.size) := by
        have := h2 rfl
        unfold ssl; rw [if_pos (by omega)]; simp
      rw [e, obnd_some, sel_true, obnd_some]
      have hz : (s.extract 1 s.size).size = s.size - 1 := by simp [ByteArray.size_extract]
      cases c with
      | true =>
        rw [sel_true, obnd_some]
        exact ⟨_, (num_tail _ (by omega) true).1, (num_tail _ (by omega) true).2, numD_nb _ _⟩
      | false =>
        obtain ⟨g1, g2⟩ := h3 rfl rfl
        rw [sel_false, obnd_some]
        refine ⟨_, (num_tail _ (by omega) true).1, ?_, numD_nb _ _⟩
        refine (num_tail s hs false).2.trans ?_
        rw [numD_f (mn := false) (d := s) (badN_4 0 (by omega) (by unfold isD; omega)), numD_f (mn := true) (d := s.extract 1 s.size) (badN_1 (by omega))]
  by_cases h0 : s.size = 0
  · refine key false false ?_ ?_ (fun h => h) (fun h => by cases h) (fun h => by cases h)
    · rw [decide_eq_false (by omega), sel_false]
    · rw [decide_eq_false (by omega), sel_false]
  have es := sget_lt (s := s) (m := 0) (by omega)
  rw [show ((0 : Nat) : Int) = 0 from rfl] at es
  by_cases h1 : 1 < s.size
  · refine key (decide (((s.get! 0).toNat : Int) = 45)) (decide (((s.get! 0).toNat : Int) = 45)) ?_ ?_ (fun h => h) (fun _ => by omega) (fun h h' => by rw [h] at h'; cases h')
    · rw [decide_eq_true (by omega), sel_true, es, obnd_some]
    · rw [decide_eq_true (by omega), sel_true, es, obnd_some]
  · refine key (decide (((s.get! 0).toNat : Int) = 45)) false ?_ ?_ (fun _ => rfl) (fun _ => by omega) (fun h _ => ⟨by omega, by have := of_decide_eq_true h; omega⟩)
    · rw [decide_eq_true (by omega), sel_true, es, obnd_some]
    · rw [decide_eq_false (by omega), sel_false]
def sumF (s : TFold) : Tsum := ⟨s.Count, s.Numbers, s.Sum, s.Low, s.High, s.First, s.Last⟩
def fok (k : Nat) (f : TFold) : Prop := 0 ≤ f.Count ∧ f.Count ≤ k ∧ 0 ≤ f.Numbers ∧ f.Numbers ≤ k ∧ i64w f.Sum = f.Sum ∧ (f.Numbers = 0 → f.Low = 0 ∧ f.High = 0)
theorem add_eq (k : Nat) (f : TFold) (hk : k < 1000000000) (hf : fok k f) (r : Kv) (hr : r.val.size ≤ 4000000000) : ∃ g o, Mfold_sum_add (sumF f) r = some (sumF g) ∧ Mref21_one r = some o ∧ Mref21_Join f o = g ∧ fok (k + 1) g := by
  obtain ⟨n, e1, e2, -⟩ := number_eq r.val hr
  obtain ⟨n, b⟩ := n
  obtain ⟨c, m, s, lo, hi, fi, la⟩ := f
  obtain ⟨g1, g2, g3, g4, g5, g6⟩ := hf
  simp only at g1 g2 g3 g4 g5 g6
  cases b with
  | false =>
    refine ⟨⟨c + 1, m, s, lo, hi, if c = 0 then r.key else fi, r.key⟩, ⟨1, 0, 0, 0, 0, r.key, r.key⟩, ?_, ?_, ?_, ?_⟩
    · dsimp only [Mfold_sum_add, sumF]
      simp only [e1, sel_ite, decide_eq_true_eq, obnd_if, obnd_some, Bool.not_false, if_true]
      rw [i64w_id (a := c + 1) (by omega) (by omega)]
    · simp only [Mref21_one, e2, sel_ite, obnd_some, Bool.false_eq_true, if_false]
    · simp only [Mref21_Join, bnd_eq, sel_ite, Int.add_zero, g5, decide_eq_true_eq]
      rw [i64w_id (a := c + 1) (by omega) (by omega), i64w_id (a := m) (by omega) (by omega)]
      by_cases hm : m = 0
      · obtain ⟨rfl, rfl⟩ := g6 hm
        subst hm
        simp
      · simp [hm]
    · refine ⟨?_, ?_, ?_, ?_, g5, g6⟩ <;> simp only <;> omega
  | true =>
    refine ⟨⟨c + 1, m + 1, i64w (s + n), if m = 0 ∨ n < lo then n else lo, if m = 0 ∨ hi < n then n else hi, if c = 0 then r.key else fi, r.key⟩, ⟨1, 1, n, n, n, r.key, r.key⟩, ?_, ?_, ?_, ?_⟩
    · dsimp only [Mfold_sum_add, sumF]
      simp only [e1, sel_ite, decide_eq_true_eq, obnd_if, obnd_some, Bool.not_true, Bool.false_eq_true, if_false]
      rw [i64w_id (a := c + 1) (by omega) (by omega), i64w_id (a := m + 1) (by omega) (by omega)]
      by_cases hm : m = 0
      · simp [hm]
      · simp [hm]
    · simp only [Mref21_one, e2, sel_ite, obnd_some, if_true]
    · simp only [Mref21_Join, bnd_eq, sel_ite, decide_eq_true_eq]
      rw [i64w_id (a := c + 1) (by omega) (by omega), i64w_id (a := m + 1) (by omega) (by omega)]
      by_cases hm : m = 0
      · simp [hm]
      · have hlo : min lo n = if n < lo then n else lo := by split <;> omega
        have hhi : max hi n = if hi < n then n else hi := by split <;> omega
        simp [hm, hlo, hhi]
    · refine ⟨?_, ?_, ?_, ?_, i64w_i64w _, ?_⟩ <;> simp only <;> omega
theorem of_l1_eq : ∀ (l : List Kv) (k : Nat) (f : TFold), k + l.length < 1000000000 → fok k f → (∀ r ∈ l, r.val.size ≤ 4000000000) →
    ∃ g : TFold, fok (k + l.length) g ∧ Mfold_Of_l1 l f.Count f.Numbers f.Sum f.Low f.High f.First f.Last = some (g.Count, g.Numbers, g.Sum, g.Low, g.High, g.First, g.Last) ∧ Mref21_Of_l1 l f.Count f.Numbers f.Sum f.Low f.High f.First f.Last = some (g.Count, g.Numbers, g.Sum, g.Low, g.High, g.First, g.Last)
  | [], k, f, _, hf, _ => ⟨f, hf, rfl, rfl⟩
  | r :: l, k, f, hk, hf, hr => by
    simp only [List.length_cons] at hk
    obtain ⟨g, o, e1, e2, e3, e4⟩ := add_eq k f (by omega) hf r (hr r List.mem_cons_self)
    obtain ⟨q, h0, h1, h2⟩ := of_l1_eq l (k + 1) g (by omega) e4 fun x hx => hr x (List.mem_cons_of_mem _ hx)
    refine ⟨q, by rw [List.length_cons, show k + (l.length + 1) = k + 1 + l.length by omega]; exact h0, ?_, ?_⟩
    · rw [Mfold_Of_l1.eq_2]
      have : (Tsum.mk f.Count f.Numbers f.Sum f.Low f.High f.First f.Last) = sumF f := rfl
      rw [this, e1, obnd_some]
      exact h1
    · rw [Mref21_Of_l1.eq_2, e2, obnd_some, bnd_eq]
      have : (TFold.mk f.Count f.Numbers f.Sum f.Low f.High f.First f.Last) = f := rfl
      rw [this, e3]
      exact h2
theorem of_eq (l : List Kv) (hl : l.length < 1000000000) (hr : ∀ r ∈ l, r.val.size ≤ 4000000000) : ∃ g, Mfold_Of l = some g ∧ Mref21_Of l = some g ∧ fok l.length g := by
  obtain ⟨g, h0, h1, h2⟩ := of_l1_eq l 0 ⟨0, 0, 0, 0, 0, ⟨#[]⟩, ⟨#[]⟩⟩ (by omega) ⟨by simp, by simp, by simp, by simp, by kernel_rfl, fun _ => ⟨rfl, rfl⟩⟩ hr
  refine ⟨g, ?_, ?_, by simpa using h0⟩
  · unfold Mfold_Of; rw [h1, obnd_some]
  · unfold Mref21_Of; rw [h2, obnd_some]
end Go.Proofs.YtohpjdeohpamaaaGreat
namespace Go.Proofs.YtohpjdeohpamaaaGreat
open Go.RowKit
theorem take_eq (q : TQuery) (l : List Kv) (h : l.length ≤ 1000000000) : Mquery_Take q l = some (qtk q.Kind q.Count l) ∧ Mref22_Take q l = some (qtk q.Kind q.Count l) := by
  have hmm : min (max q.Count 0) (l.length : Int) = max 0 (min q.Count (l.length : Int)) := by omega
  unfold Mquery_Take Mref22_Take Mclone_List_api_Row_ qtk
  rw [hmm]
  generalize hn : max 0 (min q.Count (l.length : Int)) = n
  simp only [sel_ite, decide_eq_true_eq]
  by_cases h3 : q.Kind = 3
  · rw [if_pos h3, if_pos h3, if_pos h3, lsl_le (by omega), obnd_some, app_le (by simp; omega)]
    simp [obnd_some, app_le, show l.length ≤ 4294967296 by omega, show min n.toNat l.length ≤ 4294967296 by omega]
  · rw [if_neg h3, if_neg h3, if_neg h3]
    by_cases h4 : q.Kind = 4
    · rw [if_pos h4, if_pos h4, if_pos h4, i64w_id (by omega) (by omega), lsl_le (by omega), obnd_some, app_le (by simp; omega)]
      simp only [obnd_some, List.nil_append]
      have e : ((l.length : Int) - n).toNat = l.length - n.toNat := by omega
      rw [e, List.take_of_length_le (by simp)]
      refine ⟨rfl, ?_⟩
      rw [app_le (by simp; omega)]; rfl
    · rw [if_neg h4, if_neg h4, if_neg h4, app_le (by simp; omega)]
      simp [obnd_some]
theorem eq_ref22_Answer_l1 (t : List Kv) (ht : t.length ≤ 1024) : ∀ (rs : List Rng) (out : List Kv), out.length + rs.length * 1024 ≤ 1000000000 → Mref22_Answer_l1 t rs out = some (out ++ qslices t rs)
  | [], out, _ => by simp [Mref22_Answer_l1, qslices]
  | r :: rs, out, h => by
    have hf := List.length_filter_le (fun x : Kv => contains r x.key) t
    rw [Mref22_Answer_l1.eq_2, eq_ref20_Slice _ _ (by omega), obnd_some, app_le (by omega), obnd_some, eq_ref22_Answer_l1 t ht rs _ (by simp at h ⊢; omega)]
    simp [qslices]
theorem qtk_sub (k c : Int) (l : List Kv) : ∀ r ∈ qtk k c l, r ∈ l := by
  intro r h
  unfold qtk at h
  split at h
  · exact List.mem_of_mem_take h
  split at h
  · exact List.mem_of_mem_drop h
  · exact h
theorem qslices_sub (t : List Kv) (rs : List Rng) : ∀ r ∈ qslices t rs, r ∈ t := by
  intro r h
  simp only [qslices, List.mem_flatMap, List.mem_filter] at h
  obtain ⟨_, _, h, _⟩ := h
  exact h
theorem qslices_len (t : List Kv) (rs : List Rng) : (qslices t rs).length ≤ rs.length * t.length := by
  induction rs with
  | nil => simp [qslices]
  | cons r rs ih =>
    have hf := List.length_filter_le (fun x : Kv => contains r x.key) t
    simp only [qslices, List.flatMap_cons, List.length_append, List.length_cons, Nat.succ_mul] at ih ⊢
    omega
end Go.Proofs.YtohpjdeohpamaaaGreat
namespace Go.Proofs.YtohpjdeohpamaaaGreat
open Go.RowKit
abbrev kAB : ByteArray := ⟨#[97, 98]⟩
abbrev kAC : ByteArray := ⟨#[97, 99]⟩
theorem rA : qranges 2 [] kAB 0 = [⟨⟨kAB, false⟩, ⟨kAC, false⟩⟩] := by kernel_rfl
attribute [local irreducible] WK WC WL Wk Rel OpD OpV WD WO Op.bytesLess cmp vk vb vld emp contains
attribute [local irreducible] qchk qranges qtk union pfx tvalid
instance (priority := high) rangesA : Ct Tryz.prog 57 [.a [vI 2, .d (.l 0 []), vS kAB, vI 0]] True (.d (lst Rng.ds [⟨⟨kAB, false⟩, ⟨kAC, false⟩⟩])) := ⟨fun _ => by
  have := (qranges_p 2 0 [] kAB).out (by simp)
  rw [rA] at this
  exact this⟩
end Go.Proofs.YtohpjdeohpamaaaGreat
namespace Go.Proofs.YtohpjdeohpamaaaGreat
open Go.RowKit
theorem eq_query_Answer_l1 (t : List Kv) (ht : t.length ≤ 1024) : ∀ (rs : List Rng) (out : List Kv), out.length + rs.length * 1024 ≤ 1000000000 → Mquery_Answer_l1 t rs out = some (out ++ qslices t rs)
  | [], out, _ => by simp [Mquery_Answer_l1, qslices]
  | r :: rs, out, h => by
    have hf := List.length_filter_le (fun x : Kv => contains r x.key) t
    rw [Mquery_Answer_l1.eq_2, eq_table_Slice _ _ (by omega), obnd_some, app_le (by omega), obnd_some, eq_query_Answer_l1 t ht rs _ (by simp at h ⊢; omega)]
    simp [qslices]
theorem answer_eq (t : List Kv) (q : TQuery) (hq : q.Ranges.length < 1000000) : ∃ a e, Mquery_Answer t q = some (a, e) ∧ Mref22_Answer t q = some (a, e) ∧
    e = (if qchk q.Kind q.Ranges q.Key q.Count = 0 then (if tvalid t then 0 else 1) else qchk q.Kind q.Ranges q.Key q.Count) ∧
    (e = 0 → a.Rows = qtk q.Kind q.Count (qslices t (qranges q.Kind q.Ranges q.Key q.Count)) ∧ Mfold_Of a.Rows = some a.Fold ∧ Mref21_Of a.Rows = some a.Fold) := by
  unfold Mquery_Answer Mref22_Answer
  rw [eq_query_Check q hq, obnd_some, bnd_eq, eq_ref22_Check, (eq_ranges q hq).1, (eq_ranges q hq).2, eq_table_Valid, eq_ref20_Valid]
  by_cases h0 : qchk q.Kind q.Ranges q.Key q.Count = 0
  · rw [decide_eq_true h0, if_pos h0]
    simp only [Bool.not_true, sel_false, obnd_some]
    cases hv : tvalid t with
    | false => exact ⟨_, _, rfl, rfl, rfl, fun h => by cases h⟩
    | true =>
      simp only [Bool.not_true, sel_false, if_true]
      have ht := (tvalid_iff t).1 hv
      have hrl := qranges_le q.Kind q.Ranges q.Key q.Count
      generalize qranges q.Kind q.Ranges q.Key q.Count = R at hrl ⊢
      have hsl := qslices_len t R
      have hsz : (qslices t R).length ≤ 64 * 1024 := Nat.le_trans hsl (Nat.mul_le_mul hrl ht.1)
      rw [eq_query_Answer_l1 t ht.1 R [] (by simp; omega), eq_ref22_Answer_l1 t ht.1 R [] (by simp; omega), obnd_some, obnd_some, List.nil_append]
      obtain ⟨k1, k2⟩ := take_eq q (qslices t R) (by omega)
      rw [k1, k2, obnd_some, obnd_some]
      have hlen : (qtk q.Kind q.Count (qslices t R)).length ≤ (qslices t R).length := by
        unfold qtk; split
        · simp; omega
        split
        · simp
        · exact Nat.le_refl _
      obtain ⟨g, e1, e2, -⟩ := of_eq (qtk q.Kind q.Count (qslices t R)) (by omega) (fun r hr => by
        have h1 := ht.2.1 r (qslices_sub _ _ r (qtk_sub _ _ _ r hr))
        simp only [vrow, Bool.and_eq_true, decide_eq_true_eq] at h1
        omega)
      rw [e1, e2]
      exact ⟨_, _, rfl, rfl, rfl, fun _ => ⟨rfl, e1, e2⟩⟩
  · rw [decide_eq_false h0, if_neg h0]
    simp only [Bool.not_false, sel_true]
    exact ⟨_, _, rfl, rfl, rfl, fun h => absurd h h0⟩
end Go.Proofs.YtohpjdeohpamaaaGreat
-- LEFT awake_ok
namespace Go.Proofs.YtohpjdeohpamaaaGreat
open Go.RowKit
structure okW (w : TWalk) : Prop where
  q : w.Query.Ranges.length ≤ 1000
  todo : w.Todo.length ≤ 1000
  vis : w.Visits.length ≤ 1000
  rows : ∀ v ∈ w.Visits, v.View.Rows.length ≤ 10000
def inside (o i : Rng) : Bool := !emp o && decide (cmp o.lo i.lo ≤ 0) && decide (cmp i.hi o.hi ≤ 0)
theorem eq_walk_Inside (o i : Rng) : Mwalk_Inside o i = inside o i := by
  unfold Mwalk_Inside inside
  simp only [bnd_eq, eq_keyspace_Empty, eq_keyspace_Compare, sel_and, Bool.and_assoc]
theorem eq_ref28_inside (a r : Rng) : Mref28_inside a r = inside r a := by
  unfold Mref28_inside inside
  simp only [bnd_eq, eq_ref1_Empty, eq_ref1_Compare, sel_and]
  cases emp r <;> cases decide (cmp r.lo a.lo ≤ 0) <;> cases decide (cmp a.hi r.hi ≤ 0) <;> rfl
def W0 : TWalk := ⟨⟨0, [], ⟨#[]⟩, 0⟩, [], []⟩
def qch (q : TQuery) : Int := qchk q.Kind q.Ranges q.Key q.Count
def qrg (q : TQuery) : List Rng := qranges q.Kind q.Ranges q.Key q.Count
end Go.Proofs.YtohpjdeohpamaaaGreat
-- LEFT clone_Visits_l1 eq_clone_Query eq_clone_Ranges eq_clone_View eq_clone_Visits eq_clone_Walk eq_keyspace_Intersect eq_keyspace_lesser eq_ref1_Intersect eq_ref1_least eq_ref1_proper eq_ref28_Start eq_walk_Start ref28_Start_l1 ref28_Start_l2 sameRanges_l1 sameRanges_refl sameWalk_refl walk_Start_l1 walk_Start_l2
namespace Go.Proofs.YtohpjdeohpamaaaGreat
open Go.RowKit
def tabl : List TRecord → List Kv → List (List Kv) → Ctl (List (List Kv) × Int) (List (List Kv))
  | [], _, out => .nxt out
  | r :: rs, t, out => if r.Kind = 1 then (if (applyW t r.Writes).2 = 0 then tabl rs (applyW t r.Writes).1 (out ++ [(applyW t r.Writes).1]) else .ret ([], (applyW t r.Writes).2)) else tabl rs t (out ++ [t])
def tabs (t : List Kv) (l : List TRecord) : List (List Kv) × Int := if 4096 < l.length then ([], 3) else if tvalid t = true then (match tabl l t [] with | .nxt o => (o, 0) | .ret r => r) else ([], 1)
theorem sameAnswer_eq (a b : TAnswer) : Mref22_SameAnswer a b = some (decide (a = b)) := by
  unfold Mref22_SameAnswer
  rw [eq_ref20_Same, obnd_some]
  obtain ⟨r1, ⟨c1, n1, s1, l1, h1, f1, t1⟩⟩ := a
  obtain ⟨r2, ⟨c2, n2, s2, l2, h2, f2, t2⟩⟩ := b
  by_cases h : r1 = r2
  · subst h; simp [sel_true, Bool.and_assoc]
  · simp [h, sel_false]
def momW (q : TQuery) (a : TAnswer) : List (List Kv) → Int → Ctl (Int × Bool) Unit
  | [], _ => .nxt ()
  | t :: ts, i => if (Mquery_Answer t q) = some (a, 0) then .ret (i, true) else momW q a ts (i + 1)
theorem mom_rows (a : TAnswer) (l : List Kv) (h : l.length = a.Rows.length) : ∀ (xs : List Kv) (m : Nat), l.drop m = xs → m ≤ l.length → Maudit_Moment_l2 a xs (m : Int) = some (sel (decide (l.drop m = a.Rows.drop m)) (.nxt ()) (.ret (.nxt ())))
  | [], m, hd, hm => by
    have h1 : l.length ≤ m := by simpa using hd
    rw [Maudit_Moment_l2, List.drop_eq_nil_of_le h1, List.drop_eq_nil_of_le (by omega)]; rfl
  | x :: xs, m, hd, hm => by
    obtain ⟨h1, h2⟩ := drop_get hd
    have hlt : m < l.length := (List.getElem?_eq_some_iff.1 h1).1
    have hlt' : m < a.Rows.length := by omega
    have hx : l[m] = x := (List.getElem?_eq_some_iff.1 h1).2
    rw [Maudit_Moment_l2, lget_nat, List.getElem?_eq_getElem hlt', obnd_some, kv_eqb, drop_step hlt, drop_step hlt', hx]
    by_cases e : x = a.Rows[m]
    · rw [decide_eq_true e]
      simp only [Bool.not_true, sel_false]
      have := mom_rows a l h xs (m + 1) h2 (by omega)
      rw [show ((m + 1 : Nat) : Int) = (m : Int) + 1 by omega] at this
      rw [this, e]
      congr 2
      simp only [decide_eq_decide]
      constructor
      · intro h; rw [h]
      · intro h; exact (List.cons.inj h).2
    · rw [decide_eq_false e, decide_eq_false (by intro h; exact e (List.cons.inj h).1)]; rfl
theorem fold_eqb (f g : TFold) : (decide (f.Count = g.Count) && decide (f.Numbers = g.Numbers) && decide (f.Sum = g.Sum) && decide (f.Low = g.Low) && decide (f.High = g.High) && decide (f.First = g.First) && decide (f.Last = g.Last)) = decide (f = g) := by
  obtain ⟨c1, n1, s1, l1, h1, f1, t1⟩ := f
  obtain ⟨c2, n2, s2, l2, h2, f2, t2⟩ := g
  simp [Bool.and_assoc]
theorem audit_Moment_l1 (q : TQuery) (a : TAnswer) (hq : q.Ranges.length < 1000000) : ∀ (ts : List (List Kv)) (i : Int), Maudit_Moment_l1 q a ts i = some (momW q a ts i)
  | [], i => rfl
  | t :: ts, i => by
    have ih := audit_Moment_l1 q a hq ts (i + 1)
    obtain ⟨b, e, h1, -, -, -⟩ := answer_eq t q hq
    rw [Maudit_Moment_l1, momW, h1, obnd_some]
    simp only
    rw [fold_eqb]
    have hnx : ∀ c : Bool, (b, e) ≠ (a, (0 : Int)) → (c = true → ∃ u : Unit, True) → True := fun _ _ _ => trivial
    by_cases he : e = 0
    · subst he
      simp only [decide_true, Bool.not_true, sel_false]
      by_cases hl : b.Rows.length = a.Rows.length
      · rw [decide_eq_true (show (b.Rows.length : Int) = (a.Rows.length : Int) by omega)]
        simp only [Bool.not_true, sel_false]
        by_cases hf : b.Fold = a.Fold
        · rw [decide_eq_true hf]
          simp only [Bool.not_true, obnd_some, sel_false]
          have := mom_rows a b.Rows hl b.Rows 0 rfl (Nat.zero_le _)
          rw [show ((0 : Nat) : Int) = 0 from rfl] at this
          show obnd (obnd (Maudit_Moment_l2 a b.Rows 0) _) _ = _
          rw [this]
          simp only [List.drop_zero, obnd_some]
          by_cases hr : b.Rows = a.Rows
          · rw [decide_eq_true hr, if_pos (by rw [show b = a by cases a; cases b; simp_all])]; rfl
          · rw [decide_eq_false hr, if_neg (by intro h; simp only [Option.some.injEq, Prod.mk.injEq] at h; exact hr (by rw [h.1]))]
            exact ih
        · rw [decide_eq_false hf, if_neg (by intro h; simp only [Option.some.injEq, Prod.mk.injEq] at h; exact hf (by rw [h.1]))]
          exact ih
      · rw [decide_eq_false (show ¬ (b.Rows.length : Int) = (a.Rows.length : Int) by omega), if_neg (by intro h; simp only [Option.some.injEq, Prod.mk.injEq] at h; exact hl (by rw [h.1]))]
        exact ih
    · rw [decide_eq_false he, if_neg (by intro h; simp only [Option.some.injEq, Prod.mk.injEq] at h; exact he h.2)]
      exact ih
theorem ref37_Moment_l1 (q : TQuery) (a : TAnswer) (hq : q.Ranges.length < 1000000) : ∀ (ts : List (List Kv)) (i : Int), Mref37_Moment_l1 q a ts i = some (momW q a ts i)
  | [], i => rfl
  | t :: ts, i => by
    have ih := ref37_Moment_l1 q a hq ts (i + 1)
    obtain ⟨b, e, h1, h2, -, -⟩ := answer_eq t q hq
    rw [Mref37_Moment_l1, momW, h1, h2, obnd_some]
    by_cases he : e = 0
    · subst he
      simp only [decide_true, sel_true]
      rw [sameAnswer_eq, obnd_some]
      by_cases hr : a = b
      · rw [decide_eq_true hr, if_pos (by rw [hr])]; rfl
      · rw [decide_eq_false hr, if_neg (by intro h; simp only [Option.some.injEq, Prod.mk.injEq] at h; exact hr h.1.symm)]
        exact ih
    · rw [decide_eq_false he, if_neg (by intro h; simp only [Option.some.injEq, Prod.mk.injEq] at h; exact he h.2)]
      exact ih
def mom (q : TQuery) (a : TAnswer) (ts : List (List Kv)) : Int × Bool := match momW q a ts 0 with | .ret r => r | .nxt _ => (0, false)
theorem eq_audit_Moment (q : TQuery) (a : TAnswer) (ts : List (List Kv)) (hq : q.Ranges.length < 1000000) : Maudit_Moment q a ts = some (mom q a ts) := by
  unfold Maudit_Moment mom
  rw [audit_Moment_l1 q a hq, obnd_some]
  cases momW q a ts 0 <;> rfl
theorem eq_ref37_Moment (q : TQuery) (a : TAnswer) (ts : List (List Kv)) (hq : q.Ranges.length < 1000000) : Mref37_Moment q a ts = some (mom q a ts) := by
  unfold Mref37_Moment mom
  rw [ref37_Moment_l1 q a hq, obnd_some]
  cases momW q a ts 0 <;> rfl
end Go.Proofs.YtohpjdeohpamaaaGreat
-- LEFT audit_Tables_l1 eq_audit_Tables eq_ref37_Tables ref37_Tables_l1 sameTables_l1 sameTables_refl
