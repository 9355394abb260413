/-
  Lemmas: Plain laws of the models
-/
import Derived.Test.YtohpjdeohpamaaaGreatPA19
import Derived.Test.YtohpjdeohpamaaaGreatPA10
set_option linter.unusedSimpArgs false
set_option linter.unusedVariables false
namespace Go.Proofs.YtohpjdeohpamaaaGreat
open Go.RowKit
theorem eq_ref20_without_l1 (k : ByteArray) : ∀ (t out : List Kv), t.length + out.length ≤ 4294967296 → Mref20_without_l1 k t out = some (out ++ wthout k t)
  | [], out, _ => by simp [Mref20_without_l1, wthout]
  | x :: t, out, h => by
    simp only [List.length_cons] at h
    rw [Mref20_without_l1.eq_2, sel_ite]
    by_cases hk : x.key = k
    · rw [if_neg (by simp [hk]), eq_ref20_without_l1 k t out (by omega)]; simp [wthout, hk]
    · rw [if_pos (by simp [hk]), app_le (by simp; omega), obnd_some, eq_ref20_without_l1 k t _ (by simp; omega)]; simp [wthout, hk]
theorem eq_ref20_without (k : ByteArray) (t : List Kv) (h : t.length ≤ 4294967296) : Mref20_without t k = some (wthout k t) := by
  rw [Mref20_without, eq_ref20_without_l1 k t [] (by simpa using h), obnd_some]; rfl
theorem eq_ref20_with_l1 (x : Kv) : ∀ (t out : List Kv) (d : Bool), 2 * t.length + out.length + 1 ≤ 4294967296 → ∃ d', Mref20_with_l1 x t out d = some (out ++ (if d then t else (ins x t).take (t.length + d'.toNat)), d') ∧ (d = true → d' = true) ∧ (d = false → d' = false → ins x t = t ++ [x]) := by
  intro t
  induction t with
  | nil =>
    intro out d _
    exact ⟨d, by cases d <;> simp [Mref20_with_l1, ins], fun h => h, fun _ _ => rfl⟩
  | cons r t ih =>
    intro out d h
    simp only [List.length_cons] at h
    rw [Mref20_with_l1.eq_2]
    cases d with
    | true =>
      rw [show (!true) = false from rfl, sel_false, obnd_some, sel_false, app_le (by simp; omega), obnd_some]
      obtain ⟨d', e, h1, h2⟩ := ih (out ++ [r]) true (by simp; omega)
      exact ⟨d', by rw [e]; simp, h1, (fun h => by cases h)⟩
    | false =>
      rw [show (!false) = true from rfl, sel_true, obnd_some, sel_ite]
      by_cases hb : bl x.key r.key = true
      · rw [if_pos hb, app_le (by simp; omega), obnd_some, app_le (by simp; omega), obnd_some]
        obtain ⟨d', e, h1, h2⟩ := ih (out ++ [x] ++ [r]) true (by simp; omega)
        obtain rfl := h1 rfl
        exact ⟨true, by rw [e]; simp [ins, hb], fun _ => rfl, (fun _ h => by cases h)⟩
      · rw [if_neg hb, app_le (by simp; omega), obnd_some]
        obtain ⟨d', e, h1, h2⟩ := ih (out ++ [r]) false (by simp; omega)
        refine ⟨d', ?_, (fun h => by cases h), fun _ h3 => ?_⟩
        · rw [e]; simp [ins, hb, Nat.add_right_comm]
        · simp [ins, hb, h2 rfl h3]
theorem eq_ref20_with (x : Kv) (t : List Kv) (h : 2 * t.length + 10 ≤ 4294967296) : Mref20_with t x = some (wth x t) := by
  have hw : (wthout x.key t).length ≤ t.length := List.length_filter_le _ _
  rw [Mref20_with, eq_ref20_without _ _ (by omega), obnd_some]
  obtain ⟨d', e, h1, h2⟩ := eq_ref20_with_l1 x (wthout x.key t) [] false (by simp; omega)
  rw [e, obnd_some]
  cases d' with
  | true =>
    simp only [Bool.not_true, sel_false, Bool.false_eq_true, if_false, List.nil_append, wth]
    rw [List.take_of_length_le (by rw [ins_len]; simp)]
  | false =>
    simp only [Bool.not_false, sel_true, Bool.false_eq_true, if_false, List.nil_append]
    have hi := h2 rfl rfl
    rw [hi]
    rw [app_le (by simp; omega), obnd_some, wth, hi]
    simp
theorem okAt_cons (t : List Kv) (m : Nat) (r : Kv) (h : t[m]? = some r) : okAt t m = (vrow r && (m == 0 || match t[m - 1]? with | some x => bl x.key r.key | none => false)) := by
  have h2 := (List.getElem?_eq_some_iff.1 h)
  obtain ⟨h3, rfl⟩ := h2
  rw [okAt_eq h3]
  cases m with
  | zero => simp
  | succ m =>
    have : t[m]? = some t[m] := List.getElem?_eq_getElem (by omega)
    simp [this]
theorem drop_get {α : Type} {t xs : List α} {m : Nat} {r : α} (h : t.drop m = r :: xs) : t[m]? = some r ∧ t.drop (m + 1) = xs := by
  constructor
  · rw [← List.head?_drop, h]; rfl
  · rw [← List.tail_drop, h]; rfl
theorem range_all (n m : Nat) (f : Nat → Bool) (h : m < n) : ((List.range' m (n - m)).all f) = (f m && (List.range' (m + 1) (n - (m + 1))).all f) := by
  obtain ⟨k, rfl⟩ := Nat.exists_eq_add_of_lt h
  rw [show m + k + 1 - m = k + 1 by omega, show m + k + 1 - (m + 1) = k by omega, List.range'_succ]
  rfl
theorem eq_ref20_Valid_l1 (t : List Kv) (ht : t.length ≤ 1024) : ∀ (xs : List Kv) (m : Nat), t.drop m = xs → m ≤ t.length → Mref20_Valid_l1 t xs (m : Int) = some (sel ((List.range' m (t.length - m)).all (okAt t)) (.nxt ()) (.ret false))
  | [], m, h, hm => by
    have : t.length - m = 0 := by have := congrArg List.length h; simpa using this
    simp [Mref20_Valid_l1, this, sel_true]
  | r :: xs, m, h, hm => by
    obtain ⟨h1, h2⟩ := drop_get h
    have h3 := (List.getElem?_eq_some_iff.1 h1).1
    have ih := eq_ref20_Valid_l1 t ht xs (m + 1) h2 h3
    rw [Mref20_Valid_l1.eq_2, bnd_eq, range_all _ _ _ h3, okAt_cons t m r h1, eq_ref1_ValidKey, vrow, show (m : Int) + 1 = ((m + 1 : Nat) : Int) by omega, ih]
    have hsz : decide (64 < (r.val.size : Int)) = !decide (r.val.size ≤ 64) := by
      by_cases h : r.val.size ≤ 64
      · have : ¬ 64 < (r.val.size : Int) := by omega
        simp [h, this]
      · have : 64 < (r.val.size : Int) := by omega
        simp [h, this]
    rw [hsz]
    cases vk r.key with
    | false => rfl
    | true =>
      cases decide (r.val.size ≤ 64) with
      | false => rfl
      | true =>
        cases m with
        | zero => rfl
        | succ m =>
          have e1 : i64w (((m + 1 : Nat) : Int) - 1) = (m : Int) := by rw [i64w_id (by omega) (by omega)]; omega
          have e2 : decide ((0 : Int) < ((m + 1 : Nat) : Int)) = true := decide_eq_true (by omega)
          have e3 : t[m + 1 - 1]? = some t[m] := List.getElem?_eq_getElem (by omega)
          rw [e1, e2, e3, lget_nat, List.getElem?_eq_getElem (show m < t.length by omega), obnd_some]
          have e4 : (m + 1 == 0) = false := rfl
          rw [e4]
          simp only
          cases bl t[m].key r.key <;> rfl
theorem eq_ref20_Valid (t : List Kv) : Mref20_Valid t = some (tvalid t) := by
  unfold Mref20_Valid
  rw [sel_ite]
  by_cases h : t.length ≤ 1024
  · rw [if_neg (by simp; omega)]
    have := eq_ref20_Valid_l1 t h t 0 rfl (Nat.zero_le _)
    rw [show ((0 : Nat) : Int) = 0 from rfl] at this
    rw [this, obnd_some, tvalid, List.range_eq_range']
    simp only [Nat.sub_zero, h, decide_true, Bool.true_and]
    cases (List.range' 0 t.length).all (okAt t) <;> rfl
  · rw [if_pos (by simp; omega)]
    simp [tvalid, h]
theorem eq_ref20_Put (t : List Kv) (x : Kv) (h : t.length ≤ 100000) : Mref20_Put t x = some (put x t) := by
  unfold Mref20_Put
  simp only [eq_ref20_Valid, obnd_some, tvalid_one, put]
  cases tvalid t with
  | false => rfl
  | true =>
    cases vrow x with
    | false => rfl
    | true =>
      simp only [Bool.not_true, sel_false, obnd_some, Bool.and_self, if_true]
      rw [eq_ref20_with x t (by omega), obnd_some, sel_ite]
      by_cases hh : 1024 < (wth x t).length
      · rw [if_pos (by simp; omega), if_pos hh]
      · rw [if_neg (by simp; omega), if_neg hh]
end Go.Proofs.YtohpjdeohpamaaaGreat
-- LEFT keyIn_l1_ok keyIn_ok oddQuery_l1_ok oddQuery_ok query_l1_ok query_ok rowsIn_l1_ok rowsIn_ok rows_ok
namespace Go.Proofs.YtohpjdeohpamaaaGreat
open Go.RowKit
theorem eq_ref22_Check_l1 : ∀ l : List Rng, Mref22_Check_l1 l = sel (l.all vld) (.nxt ()) (.ret 1)
  | [] => rfl
  | r :: l => by
    rw [Mref22_Check_l1.eq_2, bnd_eq, eq_ref1_Valid, eq_ref22_Check_l1 l, List.all_cons]
    cases vld r <;> rfl
theorem eq_ref22_Check (q : TQuery) : Mref22_Check q = qchk q.Kind q.Ranges q.Key q.Count := by
  obtain ⟨k, l, key, c⟩ := q
  unfold Mref22_Check qchk
  simp only [bnd_eq, eq_ref22_Check_l1, eq_ref1_ValidKey, sel_ite, decide_eq_true_eq, Bool.not_eq_true', decide_eq_false_iff_not]
  by_cases a1 : k < 1 ∨ 4 < k
  · rcases a1 with a1 | a1
    · simp [a1]
    · have : ¬ k < 1 := by omega
      simp [a1, this]
  have b1 : ¬ k < 1 := by omega
  have b2 : ¬ 4 < k := by omega
  by_cases a2 : 64 < l.length
  · have : 64 < (l.length : Int) := by omega
    simp [b1, b2, a2, this]
  have b3 : ¬ 64 < (l.length : Int) := by omega
  cases hv : l.all vld with
  | false => simp [b1, b2, a2, b3, hv, cbnd_ret]
  | true =>
    simp only [b1, b2, a2, b3, hv, if_true, if_false, cbnd_nxt, Bool.false_eq_true, or_self, decide_false]
    have hl : (0 < (l.length : Int)) ↔ 0 < l.length := by omega
    by_cases h1 : vk key = false
    · simp [h1]
    · have h1' : vk key = true := by simpa using h1
      by_cases h2 : 0 < l.length <;> by_cases h3 : k = 1 <;> by_cases h4 : key = ⟨#[]⟩ <;> by_cases h5 : k = 3 <;> by_cases h6 : k = 4 <;> first
        | (exfalso; omega)
        | (simp [h1', h2, h3, h4, h5, h6] <;> (repeat' split) <;> first | rfl | omega | (simp_all; done) | (simp_all; omega))
theorem eq_query_Check (q : TQuery) (h : q.Ranges.length < 1000000) : Mquery_Check q = some (qchk q.Kind q.Ranges q.Key q.Count) := if_pos h
theorem eq_ranges (q : TQuery) (h : q.Ranges.length < 1000000) : Mquery_Ranges q = some (qranges q.Kind q.Ranges q.Key q.Count) ∧ Mref22_Ranges q = some (qranges q.Kind q.Ranges q.Key q.Count) := ⟨if_pos h, if_pos h⟩
theorem eq_table_validRow (r : Kv) : Mtable_validRow r = vrow r := by
  unfold Mtable_validRow
  rw [bnd_eq, eq_keyspace_ValidKey, sel_and, vrow]
  congr 1
  simp; omega
theorem eq_table_Valid_l1 (t : List Kv) (ht : t.length ≤ 1024) : ∀ (xs : List Kv) (m : Nat), t.drop m = xs → m ≤ t.length → Mtable_Valid_l1 t xs (m : Int) = some (sel ((List.range' m (t.length - m)).all (okAt t)) (.nxt ()) (.ret false))
  | [], m, h, hm => by
    have : t.length - m = 0 := by have := congrArg List.length h; simpa using this
    simp [Mtable_Valid_l1, this, sel_true]
  | r :: xs, m, h, hm => by
    obtain ⟨h1, h2⟩ := drop_get h
    have h3 := (List.getElem?_eq_some_iff.1 h1).1
    have ih := eq_table_Valid_l1 t ht xs (m + 1) h2 h3
    rw [Mtable_Valid_l1.eq_2, bnd_eq, range_all _ _ _ h3, okAt_cons t m r h1, eq_table_validRow, show (m : Int) + 1 = ((m + 1 : Nat) : Int) by omega, ih]
    cases vrow r with
    | false => rfl
    | true =>
      cases m with
      | zero => rfl
      | succ m =>
        have e1 : i64w (((m + 1 : Nat) : Int) - 1) = (m : Int) := by rw [i64w_id (by omega) (by omega)]; omega
        have e2 : decide ((0 : Int) < ((m + 1 : Nat) : Int)) = true := decide_eq_true (by omega)
        have e3 : t[m + 1 - 1]? = some t[m] := List.getElem?_eq_getElem (by omega)
        rw [e1, e2, e3, lget_nat, List.getElem?_eq_getElem (show m < t.length by omega), obnd_some]
        have e4 : (m + 1 == 0) = false := rfl
        rw [e4]
        simp only
        cases bl t[m].key r.key <;> rfl
theorem eq_table_Valid (t : List Kv) : Mtable_Valid t = some (tvalid t) := by
  unfold Mtable_Valid
  rw [sel_ite]
  by_cases h : t.length ≤ 1024
  · rw [if_neg (by simp; omega)]
    have := eq_table_Valid_l1 t h t 0 rfl (Nat.zero_le _)
    rw [show ((0 : Nat) : Int) = 0 from rfl] at this
    rw [this, obnd_some, tvalid, List.range_eq_range']
    simp only [Nat.sub_zero, h, decide_true, Bool.true_and]
    cases (List.range' 0 t.length).all (okAt t) <;> rfl
  · rw [if_pos (by simp; omega)]
    simp [tvalid, h]
end Go.Proofs.YtohpjdeohpamaaaGreat
namespace Go.Proofs.YtohpjdeohpamaaaGreat
open Go.RowKit
theorem range_eqb (a b : Rng) : (decide (a.lo.key = b.lo.key) && decide (a.lo.top = b.lo.top) && decide (a.hi.key = b.hi.key) && decide (a.hi.top = b.hi.top)) = decide (a = b) := by
  rcases a with ⟨⟨a1, a2⟩, ⟨a3, a4⟩⟩
  rcases b with ⟨⟨b1, b2⟩, ⟨b3, b4⟩⟩
  simp [Bool.and_assoc]
theorem kv_eqb (a b : Kv) : (decide (a.key = b.key) && decide (a.val = b.val)) = decide (a = b) := by
  rcases a with ⟨a1, a2⟩
  rcases b with ⟨b1, b2⟩
  by_cases h1 : a1 = b1 <;> by_cases h2 : a2 = b2 <;> simp [h1, h2]
theorem drop_eq_iff {α : Type} [DecidableEq α] {a b : List α} (h : a.length = b.length) (m : Nat) : decide (a.drop m = b.drop m) = (if hm : m < a.length then decide (a[m] = b[m]'(by omega)) && decide (a.drop (m + 1) = b.drop (m + 1)) else true) := by
  split
  · rename_i hm
    rw [List.drop_eq_getElem_cons hm, List.drop_eq_getElem_cons (l := b) (by omega)]
    simp only [List.cons.injEq, Bool.decide_and]
  · rw [List.drop_eq_nil_of_le (by omega), List.drop_eq_nil_of_le (by omega)]; simp
theorem eq_ref20_Same_l1 (a b : List Kv) (h : a.length = b.length) : ∀ (xs : List Kv) (m : Nat), a.drop m = xs → m ≤ a.length → Mref20_Same_l1 a b xs (m : Int) = some (sel (decide (a.drop m = b.drop m)) (.nxt ()) (.ret false))
  | [], m, h1, hm => by
    have : a.length - m = 0 := by have := congrArg List.length h1; simpa using this
    rw [Mref20_Same_l1.eq_1, drop_eq_iff h, dif_neg (by omega)]; rfl
  | r :: xs, m, h1, hm => by
    obtain ⟨h2, h3⟩ := drop_get h1
    have h4 := (List.getElem?_eq_some_iff.1 h2).1
    rw [Mref20_Same_l1.eq_2, lget_nat, lget_nat, List.getElem?_eq_getElem h4, List.getElem?_eq_getElem (show m < b.length by omega), obnd_some, obnd_some, kv_eqb, show (m : Int) + 1 = ((m + 1 : Nat) : Int) by omega, eq_ref20_Same_l1 a b h xs (m + 1) h3 h4, drop_eq_iff h m, dif_pos h4]
    cases decide (a[m] = b[m]) <;> rfl
theorem eq_ref20_Same (a b : List Kv) : Mref20_Same a b = some (decide (a = b)) := by
  unfold Mref20_Same
  by_cases h : a.length = b.length
  · have := eq_ref20_Same_l1 a b h a 0 rfl (Nat.zero_le _)
    rw [show ((0 : Nat) : Int) = 0 from rfl, List.drop_zero, List.drop_zero] at this
    rw [decide_eq_true (by omega), this]
    cases decide (a = b) <;> rfl
  · have h2 : a ≠ b := fun e => h (by rw [e])
    rw [decide_eq_false (by omega), decide_eq_false h2]; rfl
end Go.Proofs.YtohpjdeohpamaaaGreat
