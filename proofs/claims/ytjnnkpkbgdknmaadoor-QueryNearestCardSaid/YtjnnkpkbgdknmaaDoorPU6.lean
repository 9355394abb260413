/-
  Lemmas: Plain laws of the models: the tape's tables and queries. / The number that a value is: plain, and in the reference. / Plain laws of the models: numbers and aggregates: the program's are the reference's. / Aggregates in the program, of rows whose value is 1. / The length of a union. / An answer of the program (of one row whose value is 1); the examples of the chapter. / Plain laws of the models: answers: the program's are the reference's. / The laws of chapter 22 hold of their models. / QueryNearest holds of its model. / QueryUnion holds of its model.
-/
import Derived.Test.YtjnnkpkbgdknmaaDoorPU5
import Derived.Test.YtjnnkpkbgdknmaaDoorPU2
import Derived.Test.YtjnnkpkbgdknmaaDoorPU3
namespace Go.Proofs.YtjnnkpkbgdknmaaDoor
set_option linter.unusedSimpArgs false
set_option linter.unusedVariables false
open Go.RowKit
theorem eq_ref20_without_l1 (k : ByteArray) : ∀ (t out : List Kv), t.length + out.length ≤ 4294967296 → Mref20_without_l1 k t out = some (out ++ wthout k t)
  | [], out, _ => by simp [Mref20_without_l1, wthout]
  | x :: t, out, h => by
    simp only [List.length_cons] at h
    rw [Mref20_without_l1.eq_2, sel_ite]
    by_cases hk : x.key = k
    · rw [if_neg (by simp [hk]), eq_ref20_without_l1 k t out (by omega)]; simp [wthout, hk]
    · rw [if_pos (by simp [hk]), app_le (by simp; omega), obnd_some, eq_ref20_without_l1 k t _ (by simp; omega)]; simp [wthout, hk]
theorem eq_ref20_without (k : ByteArray) (t : List Kv) (h : t.length ≤ 4294967296) : Mref20_without t k = some (wthout k t) := by
  rw [Mref20_without, eq_ref20_without_l1 k t [] (by simpa using h), obnd_some]; rfl
theorem eq_ref20_with_l1 (x : Kv) : ∀ (t out : List Kv) (d : Bool), 2 * t.length + out.length + 1 ≤ 4294967296 → ∃ d', Mref20_with_l1 x t out d = some (out ++ (if d then t else (ins x t).take (t.length + d'.toNat)), d') ∧ (d = true → d' = true) ∧ (d = false → d' = false → ins x t = t ++ [x]) := by
  intro t
  induction t with
  | nil =>
    intro out d _
    exact ⟨d, by cases d <;> simp [Mref20_with_l1, ins], fun h => h, fun _ _ => rfl⟩
  | cons r t ih =>
    intro out d h
    simp only [List.length_cons] at h
    rw [Mref20_with_l1.eq_2]
    cases d with
    | true =>
      rw [show (!true) = false from rfl, sel_false, obnd_some, sel_false, app_le (by simp; omega), obnd_some]
      obtain ⟨d', e, h1, h2⟩ := ih (out ++ [r]) true (by simp; omega)
      exact ⟨d', by rw [e]; simp, h1, (fun h => by cases h)⟩
    | false =>
      rw [show (!false) = true from rfl, sel_true, obnd_some, sel_ite]
      by_cases hb : bl x.key r.key = true
      · rw [if_pos hb, app_le (by simp; omega), obnd_some, app_le (by simp; omega), obnd_some]
        obtain ⟨d', e, h1, h2⟩ := ih (out ++ [x] ++ [r]) true (by simp; omega)
        obtain rfl := h1 rfl
        exact ⟨true, by rw [e]; simp [ins, hb], fun _ => rfl, (fun _ h => by cases h)⟩
      · rw [if_neg hb, app_le (by simp; omega), obnd_some]
        obtain ⟨d', e, h1, h2⟩ := ih (out ++ [r]) false (by simp; omega)
        refine ⟨d', ?_, (fun h => by cases h), fun _ h3 => ?_⟩
        · rw [e]; simp [ins, hb, Nat.add_right_comm]
        · simp [ins, hb, h2 rfl h3]
theorem eq_ref20_with (x : Kv) (t : List Kv) (h : 2 * t.length + 10 ≤ 4294967296) : Mref20_with t x = some (wth x t) := by
  have hw : (wthout x.key t).length ≤ t.length := List.length_filter_le _ _
  rw [Mref20_with, eq_ref20_without _ _ (by omega), obnd_some]
  obtain ⟨d', e, h1, h2⟩ := eq_ref20_with_l1 x (wthout x.key t) [] false (by simp; omega)
  rw [e, obnd_some]
  cases d' with
  | true =>
    simp only [Bool.not_true, sel_false, Bool.false_eq_true, if_false, List.nil_append, wth]
    rw [List.take_of_length_le (by rw [ins_len]; simp)]
  | false =>
    simp only [Bool.not_false, sel_true, Bool.false_eq_true, if_false, List.nil_append]
    have hi := h2 rfl rfl
    rw [hi]
    rw [app_le (by simp; omega), obnd_some, wth, hi]
    simp
theorem okAt_cons (t : List Kv) (m : Nat) (r : Kv) (h : t[m]? = some r) : okAt t m = (vrow r && (m == 0 || match t[m - 1]? with | some x => bl x.key r.key | none => false)) := by
  have h2 := (List.getElem?_eq_some_iff.1 h)
  obtain ⟨h3, rfl⟩ := h2
  rw [okAt_eq h3]
  cases m with
  | zero => simp
  | succ m =>
    have : t[m]? = some t[m] := List.getElem?_eq_getElem (by omega)
    simp [this]
theorem drop_get {α : Type} {t xs : List α} {m : Nat} {r : α} (h : t.drop m = r :: xs) : t[m]? = some r ∧ t.drop (m + 1) = xs := by
  constructor
  · rw [← List.head?_drop, h]; rfl
  · rw [← List.tail_drop, h]; rfl
theorem range_all (n m : Nat) (f : Nat → Bool) (h : m < n) : ((List.range' m (n - m)).all f) = (f m && (List.range' (m + 1) (n - (m + 1))).all f) := by
  obtain ⟨k, rfl⟩ := Nat.exists_eq_add_of_lt h
  rw [show m + k + 1 - m = k + 1 by omega, show m + k + 1 - (m + 1) = k by omega, List.range'_succ]
  rfl
theorem eq_ref20_Valid_l1 (t : List Kv) (ht : t.length ≤ 1024) : ∀ (xs : List Kv) (m : Nat), t.drop m = xs → m ≤ t.length → Mref20_Valid_l1 t xs (m : Int) = some (sel ((List.range' m (t.length - m)).all (okAt t)) (.nxt ()) (.ret false))
  | [], m, h, hm => by
    have : t.length - m = 0 := by have := congrArg List.length h; simpa using this
    simp [Mref20_Valid_l1, this, sel_true]
  | r :: xs, m, h, hm => by
    obtain ⟨h1, h2⟩ := drop_get h
    have h3 := (List.getElem?_eq_some_iff.1 h1).1
    have ih := eq_ref20_Valid_l1 t ht xs (m + 1) h2 h3
    rw [Mref20_Valid_l1.eq_2, bnd_eq, range_all _ _ _ h3, okAt_cons t m r h1, eq_ref1_ValidKey, vrow, show (m : Int) + 1 = ((m + 1 : Nat) : Int) by omega, ih]
    have hsz : decide (64 < (r.val.size : Int)) = !decide (r.val.size ≤ 64) := by
      by_cases h : r.val.size ≤ 64
      · have : ¬ 64 < (r.val.size : Int) := by omega
        simp [h, this]
      · have : 64 < (r.val.size : Int) := by omega
        simp [h, this]
    rw [hsz]
    cases vk r.key with
    | false => rfl
    | true =>
      cases decide (r.val.size ≤ 64) with
      | false => rfl
      | true =>
        cases m with
        | zero => rfl
        | succ m =>
          have e1 : i64w (((m + 1 : Nat) : Int) - 1) = (m : Int) := by rw [i64w_id (by omega) (by omega)]; omega
          have e2 : decide ((0 : Int) < ((m + 1 : Nat) : Int)) = true := decide_eq_true (by omega)
          have e3 : t[m + 1 - 1]? = some t[m] := List.getElem?_eq_getElem (by omega)
          rw [e1, e2, e3, lget_nat, List.getElem?_eq_getElem (show m < t.length by omega), obnd_some]
          have e4 : (m + 1 == 0) = false := rfl
          rw [e4]
          simp only
          cases bl t[m].key r.key <;> rfl
theorem eq_ref20_Valid (t : List Kv) : Mref20_Valid t = some (tvalid t) := by
  unfold Mref20_Valid
  rw [sel_ite]
  by_cases h : t.length ≤ 1024
  · rw [if_neg (by simp; omega)]
    have := eq_ref20_Valid_l1 t h t 0 rfl (Nat.zero_le _)
    rw [show ((0 : Nat) : Int) = 0 from rfl] at this
    rw [this, obnd_some, tvalid, List.range_eq_range']
    simp only [Nat.sub_zero, h, decide_true, Bool.true_and]
    cases (List.range' 0 t.length).all (okAt t) <;> rfl
  · rw [if_pos (by simp; omega)]
    simp [tvalid, h]
theorem eq_ref20_Put (t : List Kv) (x : Kv) (h : t.length ≤ 100000) : Mref20_Put t x = some (put x t) := by
  unfold Mref20_Put
  simp only [eq_ref20_Valid, obnd_some, tvalid_one, put]
  cases tvalid t with
  | false => rfl
  | true =>
    cases vrow x with
    | false => rfl
    | true =>
      simp only [Bool.not_true, sel_false, obnd_some, Bool.and_self, if_true]
      rw [eq_ref20_with x t (by omega), obnd_some, sel_ite]
      by_cases hh : 1024 < (wth x t).length
      · rw [if_pos (by simp; omega), if_pos hh]
      · rw [if_neg (by simp; omega), if_neg hh]
theorem contains_vk {r : Rng} {k : ByteArray} (h : contains r k = true) : vk k = true := by
  simp only [contains, Bool.and_eq_true] at h; exact h.1.1.2
theorem keyIn_l1_ok (r : Rng) : ∀ (fuel : Nat) (l : List Int) (a i : Int), okT ⟨l, a⟩ → 0 ≤ i → i ≤ 4 → (4 - i).toNat < fuel → ∃ c, Mwld_Tape_KeyIn_l1 r fuel l a i = some c ∧ ((∃ k τ', c = .ret (k, τ') ∧ okT τ' ∧ contains r k = true) ∨ ∃ l' a', c = .nxt (l', a') ∧ okT ⟨l', a'⟩)
  | 0, _, _, _, _, _, _, h => absurd h (by omega)
  | fuel + 1, l, a, i, h, h0, h4, hf => by
    rw [Mwld_Tape_KeyIn_l1.eq_2, sel_ite]
    by_cases hi : i < 4
    · rw [if_pos (by simpa using hi), obnd_some, ocbnd_nxt]
      obtain ⟨k, τ1, e1, h1, hk⟩ := key_ok h
      rw [e1, obnd_some, bnd_eq, eq_ref1_Contains, sel_ite]
      split
      · exact ⟨_, rfl, .inl ⟨_, _, rfl, h1, by assumption⟩⟩
      · rw [i64w_id (by omega) (by omega)]
        exact keyIn_l1_ok r fuel _ _ _ h1 (by omega) (by omega) (by omega)
    · rw [if_neg (by simpa using hi), obnd_some, ocbnd_ret]
      exact ⟨_, rfl, .inr ⟨_, _, rfl, h⟩⟩
theorem keyIn_ok {τ : TTape} (h : okT τ) (r : Rng) (hr : emp r = false) : ∃ k τ', Mwld_Tape_KeyIn τ r = some (k, τ') ∧ okT τ' ∧ contains r k = true := by
  obtain ⟨c, e, hc⟩ := keyIn_l1_ok r FU τ.l τ.at_ 0 h (by omega) (by omega) (by unfold FU; omega)
  unfold Mwld_Tape_KeyIn
  rw [e, obnd_some]
  rcases hc with ⟨k, τ', rfl, h1, h2⟩ | ⟨l', a', rfl, h1⟩
  · exact ⟨_, _, rfl, h1, h2⟩
  · exact ⟨_, _, rfl, h1, contains_lo hr⟩
theorem rowsIn_l1_ok (r : Rng) (hr : emp r = false) : ∀ (fuel : Nat) (l : List Int) (a : Int) (out : List Kv) (i : Int), okT ⟨l, a⟩ → i.toNat < fuel → tvalid out = true → (∀ x ∈ out, contains r x.key = true) → (out.length : Int) + max i 0 ≤ 1000 →
    ∃ t l' a', Mwld_Tape_RowsIn_l1 r fuel l a out i = some (t, l', a') ∧ okT ⟨l', a'⟩ ∧ tvalid t = true ∧ (∀ x ∈ t, contains r x.key = true) ∧ (t.length : Int) ≤ out.length + max i 0
  | 0, _, _, _, _, _, h, _, _, _ => absurd h (by omega)
  | fuel + 1, l, a, out, i, h, hf, hv, hx, hl => by
    rw [Mwld_Tape_RowsIn_l1.eq_2, sel_ite]
    by_cases hi : 0 < i
    · rw [if_pos (by simpa using hi), obnd_some, ocbnd_nxt]
      obtain ⟨k, τ1, e1, h1, hk⟩ := keyIn_ok h r hr
      obtain ⟨v, τ2, e2, h2, hv2⟩ := value_ok h1
      rw [e1, obnd_some]; simp only; rw [e2, obnd_some]; simp only
      obtain ⟨g1, g2, g3⟩ := put_valid (x := ⟨k, v⟩) hv (by simp [vrow, contains_vk hk, hv2]) (by omega)
      rw [eq_ref20_Put _ _ (by omega), obnd_some, g1, i64w_id (by omega) (by omega)]
      have hmem : ∀ x ∈ wth ⟨k, v⟩ out, contains r x.key = true := fun x hxm => by
        rcases ins_mem.1 hxm with rfl | hxm
        · exact hk
        · exact hx x (List.mem_filter.1 hxm).1
      obtain ⟨t, l', a', e, q1, q2, q3, q4⟩ := rowsIn_l1_ok r hr fuel τ2.l τ2.at_ (wth ⟨k, v⟩ out) (i - 1) h2 (by omega) g2 hmem (by omega)
      exact ⟨t, l', a', e, q1, q2, q3, by omega⟩
    · rw [if_neg (by simpa using hi), obnd_some, ocbnd_ret]
      exact ⟨_, _, _, rfl, h, hv, hx, by omega⟩
theorem rowsIn_ok {τ : TTape} (h : okT τ) (r : Rng) (n : Int) (h0 : 0 ≤ n) (hn : n ≤ 900) : ∃ t τ', Mwld_Tape_RowsIn τ r n = some (t, τ') ∧ okT τ' ∧ tvalid t = true ∧ (∀ x ∈ t, contains r x.key = true) ∧ (t.length : Int) ≤ n := by
  unfold Mwld_Tape_RowsIn
  rw [bnd_eq, eq_ref1_Empty, sel_ite]
  split
  · exact ⟨_, _, rfl, h, by kernel_rfl, by simp, by simpa using h0⟩
  · rename_i hr
    rw [i64w_id (by omega) (by omega)]
    obtain ⟨x, τ1, e1, h1, hx⟩ := next_ok h (n + 1) (by omega)
    unfold Cho at hx
    rw [e1, obnd_some]; simp only
    obtain ⟨t, l', a', e, q1, q2, q3, q4⟩ := rowsIn_l1_ok r (by simpa using hr) FU τ1.l τ1.at_ [] x h1 (by unfold FU; omega) (by kernel_rfl) (by simp) (by simp; omega)
    rw [e, obnd_some]
    simp at q4
    exact ⟨t, _, rfl, q1, q2, q3, by omega⟩
theorem rows_ok {τ : TTape} (h : okT τ) (n : Int) (h0 : 0 ≤ n) (hn : n ≤ 900) : ∃ t τ', Mwld_Tape_Rows τ n = some (t, τ') ∧ okT τ' ∧ tvalid t = true ∧ (t.length : Int) ≤ n := by
  unfold Mwld_Tape_Rows
  obtain ⟨t, τ', e, q1, q2, -, q4⟩ := rowsIn_ok h Mwld_All n h0 hn
  rw [bnd_eq, e, obnd_some]
  exact ⟨_, _, rfl, q1, q2, q4⟩
end Go.Proofs.YtjnnkpkbgdknmaaDoor
namespace Go.Proofs.YtjnnkpkbgdknmaaDoor
set_option linter.unusedSimpArgs false
set_option linter.unusedVariables false
open Go.RowKit
def dval (d : ByteArray) : Nat → Nat
  | 0 => 0
  | k + 1 => dval d k * 10 + ((d.get! k).toNat - 48)
def isD (d : ByteArray) (k : Nat) : Prop := 48 ≤ (d.get! k).toNat ∧ (d.get! k).toNat ≤ 57
def allD (d : ByteArray) : Prop := ∀ k, k < d.size → isD d k
def badN (mn : Bool) (d : ByteArray) : Prop := d.size = 0 ∨ 13 < d.size ∨ ((d.get! 0).toNat = 48 ∧ (1 < d.size ∨ mn = true)) ∨ ¬ allD d ∨ 1000000000000 < dval d d.size
open Classical in
noncomputable def numD (mn : Bool) (d : ByteArray) : Int × Bool :=
  if badN mn d then (0, false) else (if mn then - (dval d d.size : Int) else dval d d.size, true)
noncomputable def num (s : ByteArray) : Int × Bool := if 1 < s.size ∧ (s.get! 0).toNat = 45 then numD true (s.extract 1 s.size) else numD false s
theorem numD_f {mn : Bool} {d : ByteArray} (h : badN mn d) : numD mn d = (0, false) := if_pos h
theorem numD_t {mn : Bool} {d : ByteArray} (h : ¬ badN mn d) : numD mn d = (if mn then - (dval d d.size : Int) else dval d d.size, true) := if_neg h
theorem dval_lt {d : ByteArray} : ∀ {k : Nat}, (∀ j, j < k → isD d j) → dval d k < 10 ^ k
  | 0, _ => by simp [dval]
  | k + 1, h => by
    have h1 := dval_lt (k := k) fun j hj => h j (by omega)
    have h2 := h k (by omega)
    unfold isD at h2
    rw [dval, Nat.pow_succ]; omega
theorem dval_mono {d : ByteArray} {k m : Nat} (h : k ≤ m) : dval d k ≤ dval d m := by
  induction m with
  | zero => rw [Nat.le_zero.1 h]; exact Nat.le_refl _
  | succ m ih =>
    rcases Nat.lt_or_ge k (m + 1) with h1 | h1
    · have := ih (by omega); rw [dval]; omega
    · rw [show k = m + 1 by omega]; exact Nat.le_refl _
theorem dval_big {d : ByteArray} (h0 : 49 ≤ (d.get! 0).toNat) : ∀ {k : Nat}, 10 ^ k ≤ dval d (k + 1)
  | 0 => by simp [dval]; omega
  | k + 1 => by
    have := dval_big h0 (k := k)
    rw [dval, Nat.pow_succ]; omega
theorem dval_13 {d : ByteArray} {k : Nat} (h : ∀ j, j < k → isD d j) (hk : k ≤ 13) : dval d k < 10000000000000 := by
  have h1 := dval_lt h
  have h2 : 10 ^ k ≤ 10 ^ 13 := Nat.pow_le_pow_right (by decide) hk
  omega
theorem badN_1 {mn : Bool} {d : ByteArray} (h : d.size = 0) : badN mn d := .inl h
theorem badN_2 {mn : Bool} {d : ByteArray} (h : 13 < d.size) : badN mn d := .inr (.inl h)
theorem badN_4 {mn : Bool} {d : ByteArray} (k : Nat) (h : k < d.size) (h1 : ¬ isD d k) : badN mn d := .inr (.inr (.inr (.inl fun h2 => h1 (h2 k h))))
theorem badN_5 {mn : Bool} {d : ByteArray} (h : 1000000000000 < dval d d.size) : badN mn d := .inr (.inr (.inr (.inr h)))
theorem get_lt (d : ByteArray) (m : Nat) : (d.get! m).toNat < 256 := (d.get! m).toNat_lt
attribute [local irreducible] WK WC WL Wk Rel OpD OpV WD WO Op.bytesLess cmp vk vb vld emp contains
attribute [local irreducible] numD num
theorem good_num {mn : Bool} {d : ByteArray} (h1 : d.size ≠ 0) (h2 : d.size ≤ 13) (h3 : (d.get! 0).toNat = 48 → d.size ≤ 1 ∧ mn = false) (h4 : ∀ j, j < d.size → isD d j) (h5 : dval d d.size ≤ 1000000000000) : ¬ badN mn d := by
  rintro (h | h | ⟨h, h'⟩ | h | h)
  · exact h1 h
  · omega
  · obtain ⟨g1, g2⟩ := h3 h
    rcases h' with h' | h'
    · omega
    · rw [g2] at h'; cases h'
  · exact h h4
  · omega
end Go.Proofs.YtjnnkpkbgdknmaaDoor
namespace Go.Proofs.YtjnnkpkbgdknmaaDoor
set_option linter.unusedSimpArgs false
set_option linter.unusedVariables false
open Go.RowKit
theorem sget_lt {s : ByteArray} {m : Nat} (h : m < s.size) : sget s (m : Int) = some ((s.get! m).toNat : Int) := by
  unfold sget; rw [if_pos (by omega)]; simp
theorem dec_ascii {s : ByteArray} {i : Nat} (h : i < s.size) (hb : (s.get! i).toNat < 128) : Utf8.decode s i = ((s.get! i).toNat, 1) := by
  unfold Utf8.decode
  simp only [Nat.add_zero, Utf8.runeError]
  rw [if_pos (by simpa using hb)]
theorem obnd_if {α β : Type} {p : Prop} [Decidable p] (a b : α) (k : α → Option β) : obnd (if p then some a else some b) k = k (if p then a else b) := by split <;> rfl
theorem i32w_id {a : Int} (h1 : -2147483648 ≤ a) (h2 : a ≤ 2147483647) : IntKind.i32.wrap a = a := wi32 h1 h2
theorem u8w_id {a : Int} (h1 : 0 ≤ a) (h2 : a ≤ 255) : IntKind.u8.wrap a = a := wu8 h1 h2
theorem ref21_num_l1 (s : ByteArray) (hs : s.size ≤ 13) : ∀ (fuel m : Nat), s.size - m < fuel → m ≤ s.size → (∀ j, j < m → isD s j) →
    Mref21_Number_l1 s fuel (dval s m : Int) (m : Int) = some (open Classical in if allD s then .nxt (dval s s.size : Int) else .ret (0, false))
  | 0, _, h, _, _ => absurd h (by omega)
  | fuel + 1, m, h, hm, hd => by
    rw [Mref21_Number_l1.eq_2, sel_ite]
    by_cases hi : m < s.size
    · rw [if_pos (by simpa using hi), obnd_some, ocbnd_nxt, sget_lt hi]
      simp only [obnd_some]
      have hb := get_lt s m
      have hv := dval_13 hd (by omega)
      by_cases hdm : isD s m
      · have hdm' := hdm
        unfold isD at hdm'
        have e1 : decide (((s.get! m).toNat : Int) < 48) = false := decide_eq_false (by omega)
        have e2 : decide (57 < ((s.get! m).toNat : Int)) = false := decide_eq_false (by omega)
        rw [e1, sel_false, e2, obnd_some, sel_false, u8w_id (by omega) (by omega), i64w_id (a := 10 * (dval s m : Int)) (by omega) (by omega), i64w_id (a := ((s.get! m).toNat : Int) - 48) (by omega) (by omega), i64w_id (by omega) (by omega), i64w_id (by omega) (by omega)]
        have := ref21_num_l1 s hs fuel (m + 1) (by omega) (by omega) (fun j hj => by
          rcases Nat.lt_or_ge j m with h1 | h1
          · exact hd j h1
          · rw [show j = m by omega]; exact hdm)
        have e3 : ((dval s (m + 1) : Nat) : Int) = 10 * (dval s m : Int) + (((s.get! m).toNat : Int) - 48) := by rw [dval]; omega
        rw [e3] at this
        rw [← this]; congr 1
      · have hna : ¬ allD s := fun h => hdm (h m hi)
        rw [if_neg hna]
        unfold isD at hdm
        by_cases h48 : ((s.get! m).toNat : Int) < 48
        · rw [decide_eq_true h48, sel_true, obnd_some, sel_true]
        · rw [decide_eq_false h48, sel_false, obnd_some, decide_eq_true (by omega), sel_true]
    · rw [if_neg (by simpa using hi), obnd_some, ocbnd_ret]
      obtain rfl : m = s.size := by omega
      rw [if_pos (show allD s from fun k hk => hd k hk)]
theorem fold_num_l1 (s : ByteArray) (hs : s.size ≤ 4000000000) : ∀ (fuel m : Nat), s.size - m < fuel → m ≤ s.size → (∀ j, j < m → isD s j) → dval s m ≤ 1000000000000 →
    Mfold_Number_l1 s fuel (dval s m : Int) m = some (open Classical in if allD s ∧ dval s s.size ≤ 1000000000000 then .nxt (dval s s.size : Int) else .ret (0, false))
  | 0, _, h, _, _, _ => absurd h (by omega)
  | fuel + 1, m, h, hm, hd, hv => by
    rw [Mfold_Number_l1.eq_2, sel_ite]
    by_cases hi : m < s.size
    · rw [if_pos (by simpa using hi), bnd_eq]
      have hb := get_lt s m
      by_cases hdm : isD s m
      · have hdm' := hdm
        unfold isD at hdm'
        rw [dec_ascii hi (by omega)]
        have e1 : decide (((s.get! m).toNat : Int) < 48) = false := decide_eq_false (by omega)
        have e2 : decide (57 < ((s.get! m).toNat : Int)) = false := decide_eq_false (by omega)
        simp only
        rw [e1, sel_false, e2, obnd_some, sel_false, i32w_id (by omega) (by omega), i64w_id (a := (dval s m : Int) * 10) (by omega) (by omega), i64w_id (a := ((s.get! m).toNat : Int) - 48) (by omega) (by omega), i64w_id (by omega) (by omega)]
        have e3 : ((dval s (m + 1) : Nat) : Int) = (dval s m : Int) * 10 + (((s.get! m).toNat : Int) - 48) := by rw [dval]; omega
        rw [← e3, sel_ite]
        by_cases hbig : dval s (m + 1) ≤ 1000000000000
        · rw [if_neg (by simp; omega)]
          exact fold_num_l1 s hs fuel (m + 1) (by omega) (by omega) (fun j hj => by
            rcases Nat.lt_or_ge j m with h1 | h1
            · exact hd j h1
            · rw [show j = m by omega]; exact hdm) hbig
        · rw [if_pos (by simp; omega), if_neg]
          rintro ⟨-, h2⟩
          have := dval_mono (d := s) (show m + 1 ≤ s.size by omega)
          omega
      · have hna : ¬ (allD s ∧ dval s s.size ≤ 1000000000000) := fun h => hdm (h.1 m hi)
        rw [if_neg hna]
        have hrej : (Utf8.decode s m).1 < 48 ∨ 57 < (Utf8.decode s m).1 := by
          apply Classical.byContradiction
          intro hc
          have := dec_lt (s := s) (i := m) (c := (Utf8.decode s m).1) (wd := (Utf8.decode s m).2) rfl (by omega)
          apply hdm
          unfold isD
          omega
        by_cases h48 : ((Utf8.decode s m).1 : Int) < 48
        · rw [decide_eq_true h48, sel_true, obnd_some, sel_true]
        · rw [decide_eq_false h48, sel_false, obnd_some, decide_eq_true (by omega), sel_true]
    · rw [if_neg (by simpa using hi)]
      obtain rfl : m = s.size := by omega
      rw [if_pos (show allD s ∧ dval s s.size ≤ 1000000000000 from ⟨fun k hk => hd k hk, hv⟩)]
theorem ba_size0 {s : ByteArray} : s = ⟨#[]⟩ ↔ s.size = 0 := by
  constructor
  · rintro rfl; rfl
  · intro h
    obtain ⟨d⟩ := s
    have : d = #[] := Array.eq_empty_of_size_eq_zero h
    rw [this]
theorem num_tail (s : ByteArray) (hs : s.size ≤ 4000000000) (neg : Bool) :
    (obnd (sel (decide (s = ⟨#[]⟩)) (some true) (obnd (sget s 0) fun b7 => sel (decide (b7 = 48)) (sel (decide (1 < (s.size : Int))) (some true) (some neg)) (some false)) : Option Bool) fun x8 =>
      sel x8 (some (0, false)) (obnd (Mfold_Number_l1 s FU 0 0 : Option (Ctl (Int × Bool) Int)) fun mu => ocbnd mu fun n13 => sel neg (some (i64w (-n13), true)) (some (n13, true)))) =
    some (numD neg s) ∧
    (obnd (sel (decide ((s.size : Int) = 0)) (some true) (sel (decide (13 < (s.size : Int))) (some true) (obnd (sget s 0) fun b7 => sel (decide (b7 = 48)) (sel (decide (1 < (s.size : Int))) (some true) (some neg)) (some false))) : Option Bool) fun x8 =>
      sel x8 (some (0, false)) (obnd (Mref21_Number_l1 s FU 0 0 : Option (Ctl (Int × Bool) Int)) fun mu => ocbnd mu fun n15 => sel (decide (1000000000000 < n15)) (some (0, false)) (sel neg (some (i64w (-n15), true)) (some (n15, true))))) =
    some (numD neg s) := by
  by_cases h0 : s.size = 0
  · rw [decide_eq_true (ba_size0.2 h0), sel_true, obnd_some, sel_true, decide_eq_true (by omega), sel_true, obnd_some, sel_true, numD_f (badN_1 h0)]
    exact ⟨rfl, rfl⟩
  have hp := fold_num_l1 s hs FU 0 (by unfold FU; omega) (Nat.zero_le _) (fun j h => absurd h (by omega)) (by simp [dval])
  have e0 : ((dval s 0 : Nat) : Int) = 0 := rfl
  rw [e0] at hp
  have es := sget_lt (s := s) (m := 0) (by omega)
  rw [show ((0 : Nat) : Int) = 0 from rfl] at es
  rw [decide_eq_false (fun h => h0 (ba_size0.1 h)), decide_eq_false (show ¬ (s.size : Int) = 0 by omega), sel_false, sel_false, es, obnd_some]
  have hb := get_lt s 0
  -- a leading nought
  by_cases hz : (s.get! 0).toNat = 48 ∧ (1 < s.size ∨ neg = true)
  · have hbad : badN neg s := .inr (.inr (.inl hz))
    have e1 : decide (((s.get! 0).toNat : Int) = 48) = true := decide_eq_true (by omega)
    have e2 : sel (decide (1 < (s.size : Int))) (some true) (some neg) = some true := by
      by_cases h1 : 1 < s.size
      · rw [decide_eq_true (by omega), sel_true]
      · rw [decide_eq_false (by omega), sel_false, hz.2.resolve_left h1]
    rw [e1, sel_true, e2, obnd_some, sel_true, numD_f hbad]
    refine ⟨rfl, ?_⟩
    by_cases h13 : 13 < s.size
    · rw [decide_eq_true (by omega), sel_true, obnd_some, sel_true]
    · rw [decide_eq_false (by omega), sel_false, obnd_some, sel_true]
  · have e3 : sel (decide (((s.get! 0).toNat : Int) = 48)) (sel (decide (1 < (s.size : Int))) (some true) (some neg)) (some false) = some false := by
      by_cases h48 : (s.get! 0).toNat = 48
      · have h1 : ¬ 1 < s.size := fun h => hz ⟨h48, .inl h⟩
        have h2 : neg = false := by cases neg with
          | false => rfl
          | true => exact absurd ⟨h48, .inr rfl⟩ hz
        rw [decide_eq_true (by omega), sel_true, decide_eq_false (by omega), sel_false, h2]
      · rw [decide_eq_false (by omega), sel_false]
    rw [e3, obnd_some, sel_false, hp, obnd_some]
    by_cases h13 : 13 < s.size
    · rw [decide_eq_true (by omega), sel_true, obnd_some, sel_true, numD_f (badN_2 h13)]
      refine ⟨?_, rfl⟩
      rw [if_neg, ocbnd_ret]
      rintro ⟨ha, hv⟩
      have h49 : 49 ≤ (s.get! 0).toNat := by
        have h1 := ha 0 (by omega)
        unfold isD at h1
        have h2 : (s.get! 0).toNat ≠ 48 := fun h => hz ⟨h, .inl (by omega)⟩
        omega
      have h3 : 10 ^ 13 ≤ dval s 14 := dval_big h49 (k := 13)
      have h4 := dval_mono (d := s) (show 14 ≤ s.size by omega)
      omega
    · have hr := ref21_num_l1 s (by omega) FU 0 (by unfold FU; omega) (Nat.zero_le _) (fun j h => absurd h (by omega))
      rw [e0, show ((0 : Nat) : Int) = 0 from rfl] at hr
      rw [decide_eq_false (by omega), sel_false, obnd_some, sel_false, hr, obnd_some]
      by_cases ha : allD s
      · by_cases hv : dval s s.size ≤ 1000000000000
        · have hg : ¬ badN neg s := good_num h0 (by omega) (fun h => ⟨by
            apply Classical.byContradiction; intro h1; exact hz ⟨h, .inl (by omega)⟩, by
            cases neg with
            | false => rfl
            | true => exact absurd ⟨h, .inr rfl⟩ hz⟩) ha hv
          rw [if_pos ⟨ha, hv⟩, if_pos ha, ocbnd_nxt, ocbnd_nxt, numD_t hg, decide_eq_false (by omega), sel_false]
          cases neg with
          | false => exact ⟨rfl, rfl⟩
          | true => rw [sel_true, i64w_id (by omega) (by omega)]; exact ⟨rfl, rfl⟩
        · rw [if_neg (fun h => hv h.2), if_pos ha, ocbnd_ret, ocbnd_nxt, numD_f (badN_5 (by omega)), decide_eq_true (by omega), sel_true]
          exact ⟨rfl, rfl⟩
      · have hbad : badN neg s := .inr (.inr (.inr (.inl ha)))
        rw [if_neg (fun h => ha h.1), if_neg ha, ocbnd_ret, ocbnd_ret, numD_f hbad]
        exact ⟨rfl, rfl⟩
def NB (r : Int × Bool) : Prop := -1000000000000 ≤ r.1 ∧ r.1 ≤ 1000000000000
theorem numD_nb (mn : Bool) (d : ByteArray) : NB (numD mn d) := by
  by_cases h : badN mn d
  · rw [numD_f h]; exact ⟨by simp, by simp⟩
  · rw [numD_t h]
    have : dval d d.size ≤ 1000000000000 := by
      apply Classical.byContradiction; intro hc; exact h (badN_5 (by omega))
    unfold NB
    cases mn <;> simp <;> omega
theorem number_eq (s : ByteArray) (hs : s.size ≤ 4000000000) : ∃ r, Mfold_Number s = some r ∧ Mref21_Number s = some r ∧ NB r := by
  have key : ∀ b c : Bool, (sel (decide (0 < (s.size : Int))) (obnd (sget s 0) fun b2 => some (decide (b2 = 45))) (some false)) = some b → (sel (decide (1 < (s.size : Int))) (obnd (sget s 0) fun b2 => some (decide (b2 = 45))) (some false)) = some c →
      (b = false → c = false) → (b = true → 0 < s.size) → (b = true → c = false → s.size = 1 ∧ (s.get! 0).toNat = 45) → ∃ r, Mfold_Number s = some r ∧ Mref21_Number s = some r ∧ NB r := by
    intro b c hb hc h1 h2 h3
    unfold Mfold_Number Mref21_Number
    rw [hb, hc, obnd_some, obnd_some]
    cases b with
    | false =>
      rw [h1 rfl, sel_false, obnd_some]
      exact ⟨_, (num_tail s hs false).1, (num_tail s hs false).2, numD_nb _ _⟩
    | true =>
      have e : ssl s 1 (s.size : Int) = some (s.extract 1 s.size) := by
        have := h2 rfl
        unfold ssl; rw [if_pos (by omega)]; simp
      rw [e, obnd_some, sel_true, obnd_some]
      have hz : (s.extract 1 s.size).size = s.size - 1 := by simp [ByteArray.size_extract]
      cases c with
      | true =>
        rw [sel_true, obnd_some]
        exact ⟨_, (num_tail _ (by omega) true).1, (num_tail _ (by omega) true).2, numD_nb _ _⟩
      | false =>
        obtain ⟨g1, g2⟩ := h3 rfl rfl
        rw [sel_false, obnd_some]
        refine ⟨_, (num_tail _ (by omega) true).1, ?_, numD_nb _ _⟩
        refine (num_tail s hs false).2.trans ?_
        rw [numD_f (mn := false) (d := s) (badN_4 0 (by omega) (by unfold isD; omega)), numD_f (mn := true) (d := s.extract 1 s.size) (badN_1 (by omega))]
  by_cases h0 : s.size = 0
  · refine key false false ?_ ?_ (fun h => h) (fun h => by cases h) (fun h => by cases h)
    · rw [decide_eq_false (by omega), sel_false]
    · rw [decide_eq_false (by omega), sel_false]
  have es := sget_lt (s := s) (m := 0) (by omega)
  rw [show ((0 : Nat) : Int) = 0 from rfl] at es
  by_cases h1 : 1 < s.size
  · refine key (decide (((s.get! 0).toNat : Int) = 45)) (decide (((s.get! 0).toNat : Int) = 45)) ?_ ?_ (fun h => h) (fun _ => by omega) (fun h h' => by rw [h] at h'; cases h')
    · rw [decide_eq_true (by omega), sel_true, es, obnd_some]
    · rw [decide_eq_true (by omega), sel_true, es, obnd_some]
  · refine key (decide (((s.get! 0).toNat : Int) = 45)) false ?_ ?_ (fun _ => rfl) (fun _ => by omega) (fun h _ => ⟨by omega, by have := of_decide_eq_true h; omega⟩)
    · rw [decide_eq_true (by omega), sel_true, es, obnd_some]
    · rw [decide_eq_false (by omega), sel_false]
def sumF (s : TFold) : Tsum := ⟨s.Count, s.Numbers, s.Sum, s.Low, s.High, s.First, s.Last⟩
def fok (k : Nat) (f : TFold) : Prop := 0 ≤ f.Count ∧ f.Count ≤ k ∧ 0 ≤ f.Numbers ∧ f.Numbers ≤ k ∧ i64w f.Sum = f.Sum ∧ (f.Numbers = 0 → f.Low = 0 ∧ f.High = 0)
theorem add_eq (k : Nat) (f : TFold) (hk : k < 1000000000) (hf : fok k f) (r : Kv) (hr : r.val.size ≤ 4000000000) : ∃ g o, Mfold_sum_add (sumF f) r = some (sumF g) ∧ Mref21_one r = some o ∧ Mref21_Join f o = g ∧ fok (k + 1) g := by
  obtain ⟨n, e1, e2, -⟩ := number_eq r.val hr
  obtain ⟨n, b⟩ := n
  obtain ⟨c, m, s, lo, hi, fi, la⟩ := f
  obtain ⟨g1, g2, g3, g4, g5, g6⟩ := hf
  simp only at g1 g2 g3 g4 g5 g6
  cases b with
  | false =>
    refine ⟨⟨c + 1, m, s, lo, hi, if c = 0 then r.key else fi, r.key⟩, ⟨1, 0, 0, 0, 0, r.key, r.key⟩, ?_, ?_, ?_, ?_⟩
    · dsimp only [Mfold_sum_add, sumF]
      simp only [e1, sel_ite, decide_eq_true_eq, obnd_if, obnd_some, Bool.not_false, if_true]
      rw [i64w_id (a := c + 1) (by omega) (by omega)]
    · simp only [Mref21_one, e2, sel_ite, obnd_some, Bool.false_eq_true, if_false]
    · simp only [Mref21_Join, bnd_eq, sel_ite, Int.add_zero, g5, decide_eq_true_eq]
      rw [i64w_id (a := c + 1) (by omega) (by omega), i64w_id (a := m) (by omega) (by omega)]
      by_cases hm : m = 0
      · obtain ⟨rfl, rfl⟩ := g6 hm
        subst hm
        simp
      · simp [hm]
    · refine ⟨?_, ?_, ?_, ?_, g5, g6⟩ <;> simp only <;> omega
  | true =>
    refine ⟨⟨c + 1, m + 1, i64w (s + n), if m = 0 ∨ n < lo then n else lo, if m = 0 ∨ hi < n then n else hi, if c = 0 then r.key else fi, r.key⟩, ⟨1, 1, n, n, n, r.key, r.key⟩, ?_, ?_, ?_, ?_⟩
    · dsimp only [Mfold_sum_add, sumF]
      simp only [e1, sel_ite, decide_eq_true_eq, obnd_if, obnd_some, Bool.not_true, Bool.false_eq_true, if_false]
      rw [i64w_id (a := c + 1) (by omega) (by omega), i64w_id (a := m + 1) (by omega) (by omega)]
      by_cases hm : m = 0
      · simp [hm]
      · simp [hm]
    · simp only [Mref21_one, e2, sel_ite, obnd_some, if_true]
    · simp only [Mref21_Join, bnd_eq, sel_ite, decide_eq_true_eq]
      rw [i64w_id (a := c + 1) (by omega) (by omega), i64w_id (a := m + 1) (by omega) (by omega)]
      by_cases hm : m = 0
      · simp [hm]
      · have hlo : min lo n = if n < lo then n else lo := by split <;> omega
        have hhi : max hi n = if hi < n then n else hi := by split <;> omega
        simp [hm, hlo, hhi]
    · refine ⟨?_, ?_, ?_, ?_, i64w_i64w _, ?_⟩ <;> simp only <;> omega
theorem of_l1_eq : ∀ (l : List Kv) (k : Nat) (f : TFold), k + l.length < 1000000000 → fok k f → (∀ r ∈ l, r.val.size ≤ 4000000000) →
    ∃ g : TFold, fok (k + l.length) g ∧ Mfold_Of_l1 l f.Count f.Numbers f.Sum f.Low f.High f.First f.Last = some (g.Count, g.Numbers, g.Sum, g.Low, g.High, g.First, g.Last) ∧ Mref21_Of_l1 l f.Count f.Numbers f.Sum f.Low f.High f.First f.Last = some (g.Count, g.Numbers, g.Sum, g.Low, g.High, g.First, g.Last)
  | [], k, f, _, hf, _ => ⟨f, hf, rfl, rfl⟩
  | r :: l, k, f, hk, hf, hr => by
    simp only [List.length_cons] at hk
    obtain ⟨g, o, e1, e2, e3, e4⟩ := add_eq k f (by omega) hf r (hr r List.mem_cons_self)
    obtain ⟨q, h0, h1, h2⟩ := of_l1_eq l (k + 1) g (by omega) e4 fun x hx => hr x (List.mem_cons_of_mem _ hx)
    refine ⟨q, by rw [List.length_cons, show k + (l.length + 1) = k + 1 + l.length by omega]; exact h0, ?_, ?_⟩
    · rw [Mfold_Of_l1.eq_2]
      have : (Tsum.mk f.Count f.Numbers f.Sum f.Low f.High f.First f.Last) = sumF f := rfl
      rw [this, e1, obnd_some]
      exact h1
    · rw [Mref21_Of_l1.eq_2, e2, obnd_some, bnd_eq]
      have : (TFold.mk f.Count f.Numbers f.Sum f.Low f.High f.First f.Last) = f := rfl
      rw [this, e3]
      exact h2
theorem of_eq (l : List Kv) (hl : l.length < 1000000000) (hr : ∀ r ∈ l, r.val.size ≤ 4000000000) : ∃ g, Mfold_Of l = some g ∧ Mref21_Of l = some g ∧ fok l.length g := by
  obtain ⟨g, h0, h1, h2⟩ := of_l1_eq l 0 ⟨0, 0, 0, 0, 0, ⟨#[]⟩, ⟨#[]⟩⟩ (by omega) ⟨by simp, by simp, by simp, by simp, by kernel_rfl, fun _ => ⟨rfl, rfl⟩⟩ hr
  refine ⟨g, ?_, ?_, by simpa using h0⟩
  · unfold Mfold_Of; rw [h1, obnd_some]
  · unfold Mref21_Of; rw [h2, obnd_some]
end Go.Proofs.YtjnnkpkbgdknmaaDoor
namespace Go.Proofs.YtjnnkpkbgdknmaaDoor
set_option linter.unusedSimpArgs false
set_option linter.unusedVariables false
open Go.RowKit
attribute [local irreducible] WK WC WL Wk Rel OpD OpV WD WO Op.bytesLess cmp vk vb vld emp contains
section
variable {Γ : Cx} {k : Kont} {sl : List (Nat × V)} {hp : Hp} {o : Oper} {ops : Array Oper} {d kt : Nat} {x : Operand} {xs : Array Operand} {ats : Array TypeId} {rest : List Oper} {key : ByteArray}
end
end Go.Proofs.YtjnnkpkbgdknmaaDoor
namespace Go.Proofs.YtjnnkpkbgdknmaaDoor
set_option linter.unusedSimpArgs false
set_option linter.unusedVariables false
open Go.RowKit
theorem union_le (l : List Rng) : (union l).length ≤ l.length := by
  have h1 := mrgAll_le ((l.filter ne).mergeSort leLo)
  rw [List.length_mergeSort] at h1
  exact Nat.le_trans h1 (List.length_filter_le _ _)
end Go.Proofs.YtjnnkpkbgdknmaaDoor
namespace Go.Proofs.YtjnnkpkbgdknmaaDoor
set_option linter.unusedSimpArgs false
set_option linter.unusedVariables false
open Go.RowKit
def qslices (t : List Kv) (rs : List Rng) : List Kv := rs.flatMap fun r => t.filter fun x => contains r x.key
theorem qranges_le (k : Int) (l : List Rng) (key : ByteArray) (c : Int) : (qranges k l key c).length ≤ 64 := by
  unfold qranges
  split
  · rename_i h
    have hq := qchk_0 h
    refine Nat.le_trans (union_le _) ?_
    unfold qrs
    split
    · exact hq.2.2
    split
    · simp
    split <;> simp
  · simp
abbrev kAB : ByteArray := ⟨#[97, 98]⟩
abbrev kAC : ByteArray := ⟨#[97, 99]⟩
theorem rA : qranges 2 [] kAB 0 = [⟨⟨kAB, false⟩, ⟨kAC, false⟩⟩] := by kernel_rfl
attribute [local irreducible] WK WC WL Wk Rel OpD OpV WD WO Op.bytesLess cmp vk vb vld emp contains
attribute [local irreducible] qchk qranges qtk union pfx tvalid
instance (priority := high) rangesA : Ct Tryd.prog 23 [.a [vI 2, .d (.l 0 []), vS kAB, vI 0]] True (.d (lst Rng.ds [⟨⟨kAB, false⟩, ⟨kAC, false⟩⟩])) := ⟨fun _ => by
  have := (qranges_p 2 0 [] kAB).out (by simp)
  rw [rA] at this
  exact this⟩
end Go.Proofs.YtjnnkpkbgdknmaaDoor
namespace Go.Proofs.YtjnnkpkbgdknmaaDoor
set_option linter.unusedSimpArgs false
set_option linter.unusedVariables false
open Go.RowKit
theorem awake_ok : Mlaw22_awake = some true := by kernel_rfl
theorem eq_table_validRow (r : Kv) : Mtable_validRow r = vrow r := by
  unfold Mtable_validRow
  rw [bnd_eq, eq_keyspace_ValidKey, sel_and, vrow]
  congr 1
  simp; omega
theorem eq_table_Valid_l1 (t : List Kv) (ht : t.length ≤ 1024) : ∀ (xs : List Kv) (m : Nat), t.drop m = xs → m ≤ t.length → Mtable_Valid_l1 t xs (m : Int) = some (sel ((List.range' m (t.length - m)).all (okAt t)) (.nxt ()) (.ret false))
  | [], m, h, hm => by
    have : t.length - m = 0 := by have := congrArg List.length h; simpa using this
    simp [Mtable_Valid_l1, this, sel_true]
  | r :: xs, m, h, hm => by
    obtain ⟨h1, h2⟩ := drop_get h
    have h3 := (List.getElem?_eq_some_iff.1 h1).1
    have ih := eq_table_Valid_l1 t ht xs (m + 1) h2 h3
    rw [Mtable_Valid_l1.eq_2, bnd_eq, range_all _ _ _ h3, okAt_cons t m r h1, eq_table_validRow, show (m : Int) + 1 = ((m + 1 : Nat) : Int) by omega, ih]
    cases vrow r with
    | false => rfl
    | true =>
      cases m with
      | zero => rfl
      | succ m =>
        have e1 : i64w (((m + 1 : Nat) : Int) - 1) = (m : Int) := by rw [i64w_id (by omega) (by omega)]; omega
        have e2 : decide ((0 : Int) < ((m + 1 : Nat) : Int)) = true := decide_eq_true (by omega)
        have e3 : t[m + 1 - 1]? = some t[m] := List.getElem?_eq_getElem (by omega)
        rw [e1, e2, e3, lget_nat, List.getElem?_eq_getElem (show m < t.length by omega), obnd_some]
        have e4 : (m + 1 == 0) = false := rfl
        rw [e4]
        simp only
        cases bl t[m].key r.key <;> rfl
theorem eq_table_Valid (t : List Kv) : Mtable_Valid t = some (tvalid t) := by
  unfold Mtable_Valid
  rw [sel_ite]
  by_cases h : t.length ≤ 1024
  · rw [if_neg (by simp; omega)]
    have := eq_table_Valid_l1 t h t 0 rfl (Nat.zero_le _)
    rw [show ((0 : Nat) : Int) = 0 from rfl] at this
    rw [this, obnd_some, tvalid, List.range_eq_range']
    simp only [Nat.sub_zero, h, decide_true, Bool.true_and]
    cases (List.range' 0 t.length).all (okAt t) <;> rfl
  · rw [if_pos (by simp; omega)]
    simp [tvalid, h]
theorem eq_ref22_Check_l1 : ∀ l : List Rng, Mref22_Check_l1 l = sel (l.all vld) (.nxt ()) (.ret 1)
  | [] => rfl
  | r :: l => by
    rw [Mref22_Check_l1.eq_2, bnd_eq, eq_ref1_Valid, eq_ref22_Check_l1 l, List.all_cons]
    cases vld r <;> rfl
theorem eq_ref22_Check (q : TQuery) : Mref22_Check q = qchk q.Kind q.Ranges q.Key q.Count := by
  obtain ⟨k, l, key, c⟩ := q
  unfold Mref22_Check qchk
  simp only [bnd_eq, eq_ref22_Check_l1, eq_ref1_ValidKey, sel_ite, decide_eq_true_eq, Bool.not_eq_true', decide_eq_false_iff_not]
  by_cases a1 : k < 1 ∨ 4 < k
  · rcases a1 with a1 | a1
    · simp [a1]
    · have : ¬ k < 1 := by omega
      simp [a1, this]
  have b1 : ¬ k < 1 := by omega
  have b2 : ¬ 4 < k := by omega
  by_cases a2 : 64 < l.length
  · have : 64 < (l.length : Int) := by omega
    simp [b1, b2, a2, this]
  have b3 : ¬ 64 < (l.length : Int) := by omega
  cases hv : l.all vld with
  | false => simp [b1, b2, a2, b3, hv, cbnd_ret]
  | true =>
    simp only [b1, b2, a2, b3, hv, if_true, if_false, cbnd_nxt, Bool.false_eq_true, or_self, decide_false]
    have hl : (0 < (l.length : Int)) ↔ 0 < l.length := by omega
    by_cases h1 : vk key = false
    · simp [h1]
    · have h1' : vk key = true := by simpa using h1
      by_cases h2 : 0 < l.length <;> by_cases h3 : k = 1 <;> by_cases h4 : key = ⟨#[]⟩ <;> by_cases h5 : k = 3 <;> by_cases h6 : k = 4 <;> first
        | (exfalso; omega)
        | (simp [h1', h2, h3, h4, h5, h6] <;> (repeat' split) <;> first | rfl | omega | (simp_all; done) | (simp_all; omega))
theorem eq_query_Check (q : TQuery) (h : q.Ranges.length < 1000000) : Mquery_Check q = some (qchk q.Kind q.Ranges q.Key q.Count) := if_pos h
theorem eq_ranges (q : TQuery) (h : q.Ranges.length < 1000000) : Mquery_Ranges q = some (qranges q.Kind q.Ranges q.Key q.Count) ∧ Mref22_Ranges q = some (qranges q.Kind q.Ranges q.Key q.Count) := ⟨if_pos h, if_pos h⟩
theorem take_eq (q : TQuery) (l : List Kv) (h : l.length ≤ 1000000000) : Mquery_Take q l = some (qtk q.Kind q.Count l) ∧ Mref22_Take q l = some (qtk q.Kind q.Count l) := by
  have hmm : min (max q.Count 0) (l.length : Int) = max 0 (min q.Count (l.length : Int)) := by omega
  unfold Mquery_Take Mref22_Take Mclone_List_api_Row_ qtk
  rw [hmm]
  generalize hn : max 0 (min q.Count (l.length : Int)) = n
  simp only [sel_ite, decide_eq_true_eq]
  by_cases h3 : q.Kind = 3
  · rw [if_pos h3, if_pos h3, if_pos h3, lsl_le (by omega), obnd_some, app_le (by simp; omega)]
    simp [obnd_some, app_le, show l.length ≤ 4294967296 by omega, show min n.toNat l.length ≤ 4294967296 by omega]
  · rw [if_neg h3, if_neg h3, if_neg h3]
    by_cases h4 : q.Kind = 4
    · rw [if_pos h4, if_pos h4, if_pos h4, i64w_id (by omega) (by omega), lsl_le (by omega), obnd_some, app_le (by simp; omega)]
      simp only [obnd_some, List.nil_append]
      have e : ((l.length : Int) - n).toNat = l.length - n.toNat := by omega
      rw [e, List.take_of_length_le (by simp)]
      refine ⟨rfl, ?_⟩
      rw [app_le (by simp; omega)]; rfl
    · rw [if_neg h4, if_neg h4, if_neg h4, app_le (by simp; omega)]
      simp [obnd_some]
theorem eq_query_Answer_l1 (t : List Kv) (ht : t.length ≤ 1024) : ∀ (rs : List Rng) (out : List Kv), out.length + rs.length * 1024 ≤ 1000000000 → Mquery_Answer_l1 t rs out = some (out ++ qslices t rs)
  | [], out, _ => by simp [Mquery_Answer_l1, qslices]
  | r :: rs, out, h => by
    have hf := List.length_filter_le (fun x : Kv => contains r x.key) t
    rw [Mquery_Answer_l1.eq_2, eq_table_Slice _ _ (by omega), obnd_some, app_le (by omega), obnd_some, eq_query_Answer_l1 t ht rs _ (by simp at h ⊢; omega)]
    simp [qslices]
theorem eq_ref22_Answer_l1 (t : List Kv) (ht : t.length ≤ 1024) : ∀ (rs : List Rng) (out : List Kv), out.length + rs.length * 1024 ≤ 1000000000 → Mref22_Answer_l1 t rs out = some (out ++ qslices t rs)
  | [], out, _ => by simp [Mref22_Answer_l1, qslices]
  | r :: rs, out, h => by
    have hf := List.length_filter_le (fun x : Kv => contains r x.key) t
    rw [Mref22_Answer_l1.eq_2, eq_ref20_Slice _ _ (by omega), obnd_some, app_le (by omega), obnd_some, eq_ref22_Answer_l1 t ht rs _ (by simp at h ⊢; omega)]
    simp [qslices]
theorem qtk_sub (k c : Int) (l : List Kv) : ∀ r ∈ qtk k c l, r ∈ l := by
  intro r h
  unfold qtk at h
  split at h
  · exact List.mem_of_mem_take h
  split at h
  · exact List.mem_of_mem_drop h
  · exact h
theorem qslices_sub (t : List Kv) (rs : List Rng) : ∀ r ∈ qslices t rs, r ∈ t := by
  intro r h
  simp only [qslices, List.mem_flatMap, List.mem_filter] at h
  obtain ⟨_, _, h, _⟩ := h
  exact h
theorem qslices_len (t : List Kv) (rs : List Rng) : (qslices t rs).length ≤ rs.length * t.length := by
  induction rs with
  | nil => simp [qslices]
  | cons r rs ih =>
    have hf := List.length_filter_le (fun x : Kv => contains r x.key) t
    simp only [qslices, List.flatMap_cons, List.length_append, List.length_cons, Nat.succ_mul] at ih ⊢
    omega
theorem answer_eq (t : List Kv) (q : TQuery) (hq : q.Ranges.length < 1000000) : ∃ a e, Mquery_Answer t q = some (a, e) ∧ Mref22_Answer t q = some (a, e) ∧
    e = (if qchk q.Kind q.Ranges q.Key q.Count = 0 then (if tvalid t then 0 else 1) else qchk q.Kind q.Ranges q.Key q.Count) ∧
    (e = 0 → a.Rows = qtk q.Kind q.Count (qslices t (qranges q.Kind q.Ranges q.Key q.Count)) ∧ Mfold_Of a.Rows = some a.Fold ∧ Mref21_Of a.Rows = some a.Fold) := by
  unfold Mquery_Answer Mref22_Answer
  rw [eq_query_Check q hq, obnd_some, bnd_eq, eq_ref22_Check, (eq_ranges q hq).1, (eq_ranges q hq).2, eq_table_Valid, eq_ref20_Valid]
  by_cases h0 : qchk q.Kind q.Ranges q.Key q.Count = 0
  · rw [decide_eq_true h0, if_pos h0]
    simp only [Bool.not_true, sel_false, obnd_some]
    cases hv : tvalid t with
    | false => exact ⟨_, _, rfl, rfl, rfl, fun h => by cases h⟩
    | true =>
      simp only [Bool.not_true, sel_false, if_true]
      have ht := (tvalid_iff t).1 hv
      have hrl := qranges_le q.Kind q.Ranges q.Key q.Count
      generalize qranges q.Kind q.Ranges q.Key q.Count = R at hrl ⊢
      have hsl := qslices_len t R
      have hsz : (qslices t R).length ≤ 64 * 1024 := Nat.le_trans hsl (Nat.mul_le_mul hrl ht.1)
      rw [eq_query_Answer_l1 t ht.1 R [] (by simp; omega), eq_ref22_Answer_l1 t ht.1 R [] (by simp; omega), obnd_some, obnd_some, List.nil_append]
      obtain ⟨k1, k2⟩ := take_eq q (qslices t R) (by omega)
      rw [k1, k2, obnd_some, obnd_some]
      have hlen : (qtk q.Kind q.Count (qslices t R)).length ≤ (qslices t R).length := by
        unfold qtk; split
        · simp; omega
        split
        · simp
        · exact Nat.le_refl _
      obtain ⟨g, e1, e2, -⟩ := of_eq (qtk q.Kind q.Count (qslices t R)) (by omega) (fun r hr => by
        have h1 := ht.2.1 r (qslices_sub _ _ r (qtk_sub _ _ _ r hr))
        simp only [vrow, Bool.and_eq_true, decide_eq_true_eq] at h1
        omega)
      rw [e1, e2]
      exact ⟨_, _, rfl, rfl, rfl, fun _ => ⟨rfl, e1, e2⟩⟩
  · rw [decide_eq_false h0, if_neg h0]
    simp only [Bool.not_false, sel_true]
    exact ⟨_, _, rfl, rfl, rfl, fun h => absurd h h0⟩
end Go.Proofs.YtjnnkpkbgdknmaaDoor
namespace Go.Proofs.YtjnnkpkbgdknmaaDoor
set_option linter.unusedSimpArgs false
set_option linter.unusedVariables false
open Go.RowKit
theorem kv_eqb (a b : Kv) : (decide (a.key = b.key) && decide (a.val = b.val)) = decide (a = b) := by
  rcases a with ⟨a1, a2⟩
  rcases b with ⟨b1, b2⟩
  by_cases h1 : a1 = b1 <;> by_cases h2 : a2 = b2 <;> simp [h1, h2]
theorem drop_eq_iff {α : Type} [DecidableEq α] {a b : List α} (h : a.length = b.length) (m : Nat) : decide (a.drop m = b.drop m) = (if hm : m < a.length then decide (a[m] = b[m]'(by omega)) && decide (a.drop (m + 1) = b.drop (m + 1)) else true) := by
  split
  · rename_i hm
    rw [List.drop_eq_getElem_cons hm, List.drop_eq_getElem_cons (l := b) (by omega)]
    simp only [List.cons.injEq, Bool.decide_and]
  · rw [List.drop_eq_nil_of_le (by omega), List.drop_eq_nil_of_le (by omega)]; simp
theorem eq_ref20_Same_l1 (a b : List Kv) (h : a.length = b.length) : ∀ (xs : List Kv) (m : Nat), a.drop m = xs → m ≤ a.length → Mref20_Same_l1 a b xs (m : Int) = some (sel (decide (a.drop m = b.drop m)) (.nxt ()) (.ret false))
  | [], m, h1, hm => by
    have : a.length - m = 0 := by have := congrArg List.length h1; simpa using this
    rw [Mref20_Same_l1.eq_1, drop_eq_iff h, dif_neg (by omega)]; rfl
  | r :: xs, m, h1, hm => by
    obtain ⟨h2, h3⟩ := drop_get h1
    have h4 := (List.getElem?_eq_some_iff.1 h2).1
    rw [Mref20_Same_l1.eq_2, lget_nat, lget_nat, List.getElem?_eq_getElem h4, List.getElem?_eq_getElem (show m < b.length by omega), obnd_some, obnd_some, kv_eqb, show (m : Int) + 1 = ((m + 1 : Nat) : Int) by omega, eq_ref20_Same_l1 a b h xs (m + 1) h3 h4, drop_eq_iff h m, dif_pos h4]
    cases decide (a[m] = b[m]) <;> rfl
theorem eq_ref20_Same (a b : List Kv) : Mref20_Same a b = some (decide (a = b)) := by
  unfold Mref20_Same
  by_cases h : a.length = b.length
  · have := eq_ref20_Same_l1 a b h a 0 rfl (Nat.zero_le _)
    rw [show ((0 : Nat) : Int) = 0 from rfl, List.drop_zero, List.drop_zero] at this
    rw [decide_eq_true (by omega), this]
    cases decide (a = b) <;> rfl
  · have h2 : a ≠ b := fun e => h (by rw [e])
    rw [decide_eq_false (by omega), decide_eq_false h2]; rfl
end Go.Proofs.YtjnnkpkbgdknmaaDoor
namespace Go.Proofs.YtjnnkpkbgdknmaaDoor
set_option linter.unusedSimpArgs false
set_option linter.unusedVariables false
open Go.RowKit
theorem nearest_l1 (y : ByteArray × TTape) (q : Int) (k : Nat) (hk : i64w (1 + i64w q) = k) : ∀ (t up dn : List Kv), t.length + up.length + dn.length ≤ 4000000000 → up.length ≤ k →
    Mlaw22_QueryNearest_l1 y q t up dn = some (up ++ (t.filter fun r => !bl r.key y.1).take (k - up.length), dn ++ t.filter fun r => bl r.key y.1)
  | [], up, dn, _, _ => by rw [Mlaw22_QueryNearest_l1.eq_1]; simp
  | r :: t, up, dn, h, hu => by
    simp only [List.length_cons] at h
    rw [Mlaw22_QueryNearest_l1.eq_2, hk, List.filter_cons, List.filter_cons]
    cases hb : bl r.key y.1 with
    | true =>
      simp only [Bool.not_true, sel_false, sel_true, obnd_some, if_true, Bool.false_eq_true, if_false]
      rw [app_le (by simp; omega), obnd_some, nearest_l1 y q k hk t up (dn ++ [r]) (by simp; omega) hu]
      simp
    | false =>
      simp only [Bool.not_false, sel_false, sel_true, obnd_some, if_true, Bool.false_eq_true, if_false]
      by_cases hl : up.length < k
      · rw [decide_eq_true (by omega), sel_true, app_le (by simp; omega)]
        simp only [obnd_some]
        rw [nearest_l1 y q k hk t (up ++ [r]) dn (by simp; omega) (by simp; omega)]
        have e : k - up.length = (k - (up ++ [r]).length) + 1 := by simp; omega
        rw [e, List.take_succ_cons]
        simp
      · rw [decide_eq_false (by omega), sel_false]
        simp only [obnd_some]
        rw [nearest_l1 y q k hk t up dn (by omega) hu]
        have e : k - up.length = 0 := by omega
        rw [e]; simp
theorem union_one (r : Rng) : union [r] = if emp r then [] else [r] := by
  cases h : emp r <;> simp [union, ne, h] <;> rfl
theorem toList_nil : (⟨#[]⟩ : ByteArray).toList = [] := by kernel_rfl
theorem bl_nil (a : ByteArray) : bl a ⟨#[]⟩ = false := by
  show Op.bytesLess a.toList (⟨#[]⟩ : ByteArray).toList = false
  rw [toList_nil]; cases a.toList <;> rfl
theorem nil_bl {a : ByteArray} (h : a ≠ ⟨#[]⟩) : bl ⟨#[]⟩ a = true := by
  cases hb : bl ⟨#[]⟩ a with
  | true => rfl
  | false =>
    exfalso; apply h
    have := bytesLess_total hb (bl_nil a)
    have h4 := ba_eqE a ⟨#[]⟩
    simp only [this, BEq.rfl] at h4
    exact of_decide_eq_true h4.symm
theorem vk_nil : vk ⟨#[]⟩ = true := by kernel_rfl
theorem above_rows {key : ByteArray} {c : Int} (hk : key.size ≤ 64) (h1 : 1 ≤ c) (h2 : c ≤ 1024) {t : List Kv} (ht : tvalid t = true) : qchk 3 [] key c = 0 ∧ qslices t (qranges 3 [] key c) = t.filter fun r => !bl r.key key := by
  have hv := vk_le hk
  have h0 : qchk 3 [] key c = 0 := by simp [qchk, hv]; omega
  refine ⟨h0, ?_⟩
  have he : emp ⟨⟨key, false⟩, ⟨⟨#[]⟩, true⟩⟩ = false := by
    simp [emp, vld, vb, hv, vk_nil, cmp, Bnd.lt, toList_nil]
  have e : qranges 3 [] key c = [⟨⟨key, false⟩, ⟨⟨#[]⟩, true⟩⟩] := by
    unfold qranges
    rw [if_pos h0, show qrs 3 [] key = [⟨⟨key, false⟩, ⟨⟨#[]⟩, true⟩⟩] from rfl, union_one, he]; rfl
  rw [e]
  simp only [qslices, List.flatMap_cons, List.flatMap_nil, List.append_nil]
  refine List.filter_congr fun r hr => ?_
  have hrk : vk r.key = true := by
    have := ((tvalid_iff t).1 ht).2.1 r hr
    simp only [vrow, Bool.and_eq_true] at this; exact this.1
  rw [contains, he, hrk]
  simp only [cmp, Bnd.lt]
  cases h3 : bl r.key key with
  | true =>
    have h4 : bl key r.key = false := by
      cases h5 : bl key r.key with
      | false => rfl
      | true => have := bytesLess_trans h3 h5; rw [bytesLess_irrefl] at this; cases this
    simp [h3, h4]
  | false => cases h4 : bl key r.key <;> simp [h3, h4]
theorem below_rows {key : ByteArray} {c : Int} (hk : key.size ≤ 64) (h1 : 1 ≤ c) (h2 : c ≤ 1024) {t : List Kv} (ht : tvalid t = true) : qchk 4 [] key c = 0 ∧ qslices t (qranges 4 [] key c) = t.filter fun r => bl r.key key := by
  have hv := vk_le hk
  have h0 : qchk 4 [] key c = 0 := by simp [qchk, hv]; omega
  refine ⟨h0, ?_⟩
  have e : qranges 4 [] key c = union [⟨⟨⟨#[]⟩, false⟩, ⟨key, false⟩⟩] := by
    unfold qranges
    rw [if_pos h0]; rfl
  rw [e, union_one]
  by_cases hz : key = ⟨#[]⟩
  · subst hz
    have he : emp ⟨⟨⟨#[]⟩, false⟩, ⟨⟨#[]⟩, false⟩⟩ = true := by kernel_rfl
    rw [he]
    simp only [qslices, if_true, List.flatMap_nil]
    exact (List.filter_eq_nil_iff.2 fun r _ => by simp [bl_nil]).symm
  have hn := nil_bl hz
  have he : emp ⟨⟨⟨#[]⟩, false⟩, ⟨key, false⟩⟩ = false := by
    have hn2 : Op.bytesLess [] key.toList = true := by rw [← toList_nil]; exact hn
    simp [emp, vld, vb, hv, vk_nil, cmp, Bnd.lt, hn, hn2]
  rw [he]
  simp only [Bool.false_eq_true, if_false, qslices, List.flatMap_cons, List.flatMap_nil, List.append_nil]
  refine List.filter_congr fun r hr => ?_
  have hrk : vk r.key = true := by
    have := ((tvalid_iff t).1 ht).2.1 r hr
    simp only [vrow, Bool.and_eq_true] at this; exact this.1
  rw [contains, he, hrk]
  have h5 : bl r.key ⟨#[]⟩ = false := bl_nil _
  simp only [cmp, Bnd.lt]
  cases h3 : bl r.key key with
  | true =>
    have h6 : Op.bytesLess r.key.toList [] = false := by rw [← toList_nil]; exact bl_nil _
    cases h7 : Op.bytesLess [] r.key.toList <;> simp [h3, h5, h6, h7]
  | false => cases h4 : bl key r.key <;> simp [h3, h4, h5]
theorem filter_take_pre {α : Type} (l : List α) (k : Nat) : (l.take (k + 1)).take (l.take k).length = l.take k := by
  rw [List.take_take, List.length_take]
  apply List.ext_getElem?
  intro j
  simp only [List.getElem?_take]
  by_cases h1 : j < k <;> by_cases h2 : j < l.length
  · rw [if_pos (by omega), if_pos h1]
  · rw [if_neg (by omega), if_pos h1, List.getElem?_eq_none (by omega)]
  · rw [if_neg (by omega), if_neg h1]
  · rw [if_neg (by omega), if_neg h1]
theorem answer_ok (t : List Kv) (q : TQuery) (hq : q.Ranges.length < 1000000) (h0 : qchk q.Kind q.Ranges q.Key q.Count = 0) (ht : tvalid t = true) : ∃ g, Mquery_Answer t q = some (⟨qtk q.Kind q.Count (qslices t (qranges q.Kind q.Ranges q.Key q.Count)), g⟩, 0) ∧ Mfold_Of (qtk q.Kind q.Count (qslices t (qranges q.Kind q.Ranges q.Key q.Count))) = some g := by
  obtain ⟨a, e, h1, -, h2, h3⟩ := answer_eq t q hq
  rw [if_pos h0, if_pos ht] at h2
  obtain ⟨g1, g2, -⟩ := h3 h2
  obtain ⟨rows, f⟩ := a
  simp only at g1 g2
  subst g1
  rw [h2] at h1
  exact ⟨f, h1, g2⟩
theorem queryNearest_ok (l : List Int) (n : Int) (hn : 0 ≤ n ∧ n ≤ 255) : Mlaw22_QueryNearest l n = some true := by
  unfold Mlaw22_QueryNearest
  obtain ⟨τ, e, h⟩ := new_ok l
  obtain ⟨t, τ1, e1, h1, hv, ht⟩ := rows_ok h 10 (by omega) (by omega)
  obtain ⟨key, τ2, e2, h2, hk⟩ := key_ok h1
  rw [e, obnd_some, e1, obnd_some]; simp only
  rw [e2, obnd_some]; simp only
  rw [irem_ne (by omega), obnd_some]
  have hq1 := Int.lt_tmod_of_pos n (show (0 : Int) < 8 by omega)
  have hq2 := Int.tmod_lt_of_pos n (show (0 : Int) < 8 by omega)
  have hq3 := Int.tmod_nonneg (8 : Int) hn.1
  generalize n.tmod 8 = q at hq1 hq2 hq3 ⊢
  have ek : i64w (1 + i64w q) = 1 + q := by rw [i64w_id (a := q) (by omega) (by omega), i64w_id (by omega) (by omega)]
  have ek2 : i64w (1 + q + 1) = 1 + q + 1 := i64w_id (by omega) (by omega)
  simp only [ek, ek2]
  obtain ⟨k, hkk⟩ : ∃ k : Nat, 1 + q = k := ⟨(1 + q).toNat, by omega⟩
  obtain ⟨c1, r1⟩ := above_rows (c := 1 + q) hk (by omega) (by omega) hv
  obtain ⟨c2, r2⟩ := below_rows (c := 1 + q) hk (by omega) (by omega) hv
  obtain ⟨c3, r3⟩ := above_rows (c := 1 + q + 1) hk (by omega) (by omega) hv
  obtain ⟨g1, a1, -⟩ := answer_ok t ⟨3, [], key, 1 + q⟩ (by simp) c1 hv
  obtain ⟨g2, a2, -⟩ := answer_ok t ⟨4, [], key, 1 + q⟩ (by simp) c2 hv
  obtain ⟨g3, a3, -⟩ := answer_ok t ⟨3, [], key, 1 + q + 1⟩ (by simp) c3 hv
  simp only [r1, r2, r3] at a1 a2 a3
  rw [a1, obnd_some, a2, obnd_some, a3, obnd_some]
  simp only
  simp only [decide_true, Bool.not_true, sel_false, obnd_some]
  rw [nearest_l1 (key, τ2) q k (by rw [ek, hkk]) t [] [] (by simp; omega) (by simp)]
  simp only [obnd_some, List.nil_append, List.length_nil, Nat.sub_zero]
  have hd := List.length_filter_le (fun r : Kv => bl r.key key) t
  have hu := List.length_filter_le (fun r : Kv => !bl r.key key) t
  generalize t.filter (fun r : Kv => bl r.key key) = dn at hd ⊢
  generalize t.filter (fun r : Kv => !bl r.key key) = up at hu ⊢
  rw [i64w_id (a := (dn.length : Int) - (1 + q)) (by omega) (by omega), lsl_le (by omega), obnd_some]
  have q1 : qtk 3 (1 + q) up = up.take k := by
    unfold qtk; rw [if_pos rfl, hkk]
    by_cases hlt : k ≤ up.length
    · congr 1; omega
    · rw [List.take_of_length_le (by omega), List.take_of_length_le (by omega)]
  have q3 : qtk 3 (1 + q + 1) up = up.take (k + 1) := by
    unfold qtk; rw [if_pos rfl, hkk]
    by_cases hlt : k + 1 ≤ up.length
    · congr 1; omega
    · rw [List.take_of_length_le (by omega), List.take_of_length_le (by omega)]
  have q2 : qtk 4 (1 + q) dn = (dn.drop (max 0 ((dn.length : Int) - (1 + q))).toNat).take ((dn.length : Int).toNat - (max 0 ((dn.length : Int) - (1 + q))).toNat) := by
    unfold qtk; rw [if_neg (by omega), if_pos rfl, List.take_of_length_le (by simp)]
    congr 1; omega
  rw [eq_ref20_Same, eq_ref20_Same, q1, q2, q3]
  simp only [decide_true, obnd_some, sel_true]
  have hlen : decide (((up.take k).length : Int) ≤ ((up.take (k + 1)).length : Int)) = true := decide_eq_true (by simp; omega)
  rw [hlen, sel_true, lsl_le ⟨by omega, by omega, by simp; omega⟩, obnd_some, eq_ref20_Same, obnd_some]
  have e4 : (List.drop (Int.toNat 0) (up.take (k + 1))).take (((up.take k).length : Int).toNat - Int.toNat 0) = up.take k := filter_take_pre up k
  rw [e4, decide_eq_true rfl, sel_true, awake_ok]; rfl
end Go.Proofs.YtjnnkpkbgdknmaaDoor
namespace Go.Proofs.YtjnnkpkbgdknmaaDoor
set_option linter.unusedSimpArgs false
set_option linter.unusedVariables false
open Go.RowKit
def fz : TFold := ⟨0, 0, 0, 0, 0, ⟨#[]⟩, ⟨#[]⟩⟩
def fo2 (k : Nat) (f : TFold) : Prop := fok k f ∧ (f.Count = 0 → f = fz) ∧ -2000000000000 * (k : Int) ≤ f.Sum ∧ f.Sum ≤ 2000000000000 * (k : Int)
theorem join_z (k : Nat) (hk : k < 1000000) (f : TFold) (hf : fo2 k f) : Mref21_Join f fz = f ∧ Mref21_Join fz f = f := by
  obtain ⟨c, m, s, lo, hi, fi, la⟩ := f
  obtain ⟨⟨g1, g2, g3, g4, g5, g6⟩, g7, g8, g9⟩ := hf
  simp only at g1 g2 g3 g4 g5 g6 g7 g8 g9
  constructor
  · dsimp only [Mref21_Join, fz]
    simp only [bnd_eq, sel_ite, decide_eq_true_eq, Int.add_zero, if_true]
    rw [i64w_id (a := c) (by omega) (by omega), i64w_id (a := m) (by omega) (by omega), g5]
    by_cases hc : c = 0
    · have := g7 hc
      simp only [fz, TFold.mk.injEq] at this
      obtain ⟨-, rfl, -, rfl, rfl, rfl, rfl⟩ := this
      simp [hc]
    · by_cases hm : m = 0
      · obtain ⟨rfl, rfl⟩ := g6 hm
        simp [hc, hm]
      · simp [hc, hm]
  · dsimp only [Mref21_Join, fz]
    simp only [bnd_eq, sel_ite, decide_eq_true_eq, Int.zero_add, if_true]
    rw [i64w_id (a := c) (by omega) (by omega), i64w_id (a := m) (by omega) (by omega), g5]
    by_cases hc : c = 0
    · have := g7 hc
      simp only [fz, TFold.mk.injEq] at this
      obtain ⟨-, rfl, -, rfl, rfl, rfl, rfl⟩ := this
      simp [hc]
    · by_cases hm : m = 0
      · obtain ⟨rfl, rfl⟩ := g6 hm
        simp [hc, hm]
      · simp [hc, hm]
theorem join_plain (k l : Nat) (hk : k < 1000000) (hl : l < 1000000) (f g : TFold) (hf : fo2 k f) (hg : fo2 l g) :
    Mref21_Join f g = ⟨f.Count + g.Count, f.Numbers + g.Numbers, f.Sum + g.Sum, if f.Numbers = 0 then g.Low else if g.Numbers = 0 then f.Low else min f.Low g.Low, if f.Numbers = 0 then g.High else if g.Numbers = 0 then f.High else max f.High g.High, if f.Count = 0 then g.First else f.First, if g.Count = 0 then f.Last else g.Last⟩ := by
  obtain ⟨c, m, s, lo, hi, fi, la⟩ := f
  obtain ⟨c', m', s', lo', hi', fi', la'⟩ := g
  obtain ⟨⟨g1, g2, g3, g4, g5, g6⟩, g7, g8, g9⟩ := hf
  obtain ⟨⟨k1, k2, k3, k4, k5, k6⟩, k7, k8, k9⟩ := hg
  simp only at g1 g2 g3 g4 g5 g6 g7 g8 g9 k1 k2 k3 k4 k5 k6 k7 k8 k9
  dsimp only [Mref21_Join]
  simp only [bnd_eq, sel_ite, decide_eq_true_eq]
  rw [i64w_id (a := c + c') (by omega) (by omega), i64w_id (a := m + m') (by omega) (by omega), i64w_id (a := s + s') (by omega) (by omega)]
  by_cases h1 : m' = 0 <;> by_cases h2 : m = 0 <;> by_cases h3 : c' = 0 <;> by_cases h4 : c = 0 <;> simp [h1, h2, h3, h4]
theorem join_ok (k l : Nat) (hk : k < 1000000) (hl : l < 1000000) (f g : TFold) (hf : fo2 k f) (hg : fo2 l g) : fo2 (k + l) (Mref21_Join f g) := by
  rw [join_plain k l hk hl f g hf hg]
  obtain ⟨c, m, s, lo, hi, fi, la⟩ := f
  obtain ⟨c', m', s', lo', hi', fi', la'⟩ := g
  obtain ⟨⟨g1, g2, g3, g4, g5, g6⟩, g7, g8, g9⟩ := hf
  obtain ⟨⟨k1, k2, k3, k4, k5, k6⟩, k7, k8, k9⟩ := hg
  simp only at g1 g2 g3 g4 g5 g6 g7 g8 g9 k1 k2 k3 k4 k5 k6 k7 k8 k9
  refine ⟨⟨by simp only; omega, by simp only; omega, by simp only; omega, by simp only; omega, i64w_id (by simp only; omega) (by simp only; omega), fun h => ?_⟩, fun h => ?_, by simp only; omega, by simp only; omega⟩
  · simp only at h ⊢
    obtain rfl : m = 0 := by omega
    obtain rfl : m' = 0 := by omega
    simp [k6]
  · simp only at h
    obtain rfl : c = 0 := by omega
    obtain rfl : c' = 0 := by omega
    have e1 := g7 rfl
    have e2 := k7 rfl
    simp only [fz, TFold.mk.injEq] at e1 e2 ⊢
    obtain ⟨-, rfl, rfl, rfl, rfl, rfl, rfl⟩ := e1
    obtain ⟨-, rfl, rfl, rfl, rfl, rfl, rfl⟩ := e2
    simp
theorem join_assoc (k l n : Nat) (hk : k < 100000) (hl : l < 100000) (hn : n < 100000) (f g h : TFold) (hf : fo2 k f) (hg : fo2 l g) (hh : fo2 n h) : Mref21_Join (Mref21_Join f g) h = Mref21_Join f (Mref21_Join g h) := by
  have j1 := join_ok k l (by omega) (by omega) f g hf hg
  have j2 := join_ok l n (by omega) (by omega) g h hg hh
  rw [join_plain (k + l) n (by omega) (by omega) _ h j1 hh, join_plain k (l + n) (by omega) (by omega) f _ hf j2, join_plain k l (by omega) (by omega) f g hf hg, join_plain l n (by omega) (by omega) g h hg hh]
  obtain ⟨c, m, s, lo, hi, fi, la⟩ := f
  obtain ⟨c', m', s', lo', hi', fi', la'⟩ := g
  obtain ⟨c2, m2, s2, lo2, hi2, fi2, la2⟩ := h
  obtain ⟨⟨g1, g2, g3, g4, g5, g6⟩, g7, g8, g9⟩ := hf
  obtain ⟨⟨k1, k2, k3, k4, k5, k6⟩, k7, k8, k9⟩ := hg
  obtain ⟨⟨l1, l2, l3, l4, l5, l6⟩, l7, l8, l9⟩ := hh
  simp only at g1 g2 g3 g4 k1 k2 k3 k4 l1 l2 l3 l4 ⊢
  have a1 : (m + m' = 0) ↔ m = 0 ∧ m' = 0 := by omega
  have a2 : (m' + m2 = 0) ↔ m' = 0 ∧ m2 = 0 := by omega
  have a3 : (c + c' = 0) ↔ c = 0 ∧ c' = 0 := by omega
  have a4 : (c' + c2 = 0) ↔ c' = 0 ∧ c2 = 0 := by omega
  simp only [a1, a2, a3, a4, TFold.mk.injEq]
  refine ⟨by omega, by omega, by omega, ?_, ?_, ?_, ?_⟩
  · by_cases h1 : m = 0 <;> by_cases h2 : m' = 0 <;> by_cases h3 : m2 = 0 <;> simp [h1, h2, h3] <;> omega
  · by_cases h1 : m = 0 <;> by_cases h2 : m' = 0 <;> by_cases h3 : m2 = 0 <;> simp [h1, h2, h3] <;> omega
  · by_cases h1 : c = 0 <;> by_cases h2 : c' = 0 <;> simp [h1, h2]
  · by_cases h1 : c' = 0 <;> by_cases h2 : c2 = 0 <;> simp [h1, h2]
theorem one_ok (r : Kv) (hr : r.val.size ≤ 4000000000) : ∃ o, Mref21_one r = some o ∧ fo2 1 o := by
  obtain ⟨⟨n, b⟩, -, e2, hb⟩ := number_eq r.val hr
  unfold NB at hb
  simp only at hb
  unfold Mref21_one
  rw [e2, obnd_some]
  cases b with
  | false => exact ⟨_, rfl, ⟨by simp, by simp, by simp, by simp, by kernel_rfl, fun _ => ⟨rfl, rfl⟩⟩, fun h => by simp at h, by simp, by simp⟩
  | true => exact ⟨_, rfl, ⟨by simp, by simp, by simp, by simp, i64w_id (by simp only; omega) (by simp only; omega), fun h => by simp at h⟩, fun h => by simp at h, by simp only; omega, by simp only; omega⟩
theorem of_l1_join : ∀ (l : List Kv) (k : Nat) (f : TFold), k + l.length < 100000 → fo2 k f → (∀ r ∈ l, r.val.size ≤ 4000000000) →
    ∃ g, fo2 l.length g ∧ Mref21_Of_l1 l 0 0 0 0 0 ⟨#[]⟩ ⟨#[]⟩ = some (g.Count, g.Numbers, g.Sum, g.Low, g.High, g.First, g.Last) ∧ Mref21_Of_l1 l f.Count f.Numbers f.Sum f.Low f.High f.First f.Last = some ((Mref21_Join f g).Count, (Mref21_Join f g).Numbers, (Mref21_Join f g).Sum, (Mref21_Join f g).Low, (Mref21_Join f g).High, (Mref21_Join f g).First, (Mref21_Join f g).Last)
  | [], k, f, hk, hf, _ => by
    refine ⟨fz, ⟨⟨by simp [fz], by simp [fz], by simp [fz], by simp [fz], by kernel_rfl, fun _ => ⟨rfl, rfl⟩⟩, fun _ => rfl, by simp [fz], by simp [fz]⟩, rfl, ?_⟩
    rw [(join_z k (by omega) f hf).1]; rfl
  | r :: l, k, f, hk, hf, hr => by
    simp only [List.length_cons] at hk
    obtain ⟨o, e, ho⟩ := one_ok r (hr r List.mem_cons_self)
    have hr' : ∀ x ∈ l, x.val.size ≤ 4000000000 := fun x hx => hr x (List.mem_cons_of_mem _ hx)
    obtain ⟨g, hg, e1, e2⟩ := of_l1_join l 1 o (by omega) ho hr'
    obtain ⟨g', hg', e1', e3⟩ := of_l1_join l (k + 1) (Mref21_Join f o) (by omega) (join_ok k 1 (by omega) (by omega) f o hf ho) hr'
    have eg : g' = g := by
      rw [e1] at e1'
      have := Option.some.inj e1'
      obtain ⟨a1, a2, a3, a4, a5, a6, a7⟩ := g
      obtain ⟨b1, b2, b3, b4, b5, b6, b7⟩ := g'
      simp only [Prod.mk.injEq] at this
      obtain ⟨rfl, rfl, rfl, rfl, rfl, rfl, rfl⟩ := this
      rfl
    subst eg
    refine ⟨Mref21_Join o g', by rw [List.length_cons, Nat.add_comm]; exact join_ok 1 l.length (by omega) (by omega) o g' ho hg', ?_, ?_⟩
    · rw [Mref21_Of_l1.eq_2, e, obnd_some, bnd_eq]
      have hz := (join_z 1 (by omega) o ho).2
      unfold fz at hz
      rw [hz]
      exact e2
    · rw [Mref21_Of_l1.eq_2, e, obnd_some, bnd_eq]
      have : (TFold.mk f.Count f.Numbers f.Sum f.Low f.High f.First f.Last) = f := rfl
      rw [this, e3, join_assoc k 1 l.length (by omega) (by omega) (by omega) f o g' hf ho hg']
theorem of_l1_app : ∀ (a b : List Kv) (c m s lo hi : Int) (fi la : ByteArray), Mref21_Of_l1 (a ++ b) c m s lo hi fi la = obnd (Mref21_Of_l1 a c m s lo hi fi la) fun (c, m, s, lo, hi, fi, la) => Mref21_Of_l1 b c m s lo hi fi la
  | [], b, c, m, s, lo, hi, fi, la => rfl
  | r :: a, b, c, m, s, lo, hi, fi, la => by
    rw [List.cons_append, Mref21_Of_l1.eq_2, Mref21_Of_l1.eq_2]
    cases h : Mref21_one r with
    | none => rfl
    | some o =>
      rw [obnd_some, obnd_some, bnd_eq, bnd_eq]
      exact of_l1_app a b _ _ _ _ _ _ _
theorem of_join {a b : List Kv} {f g : TFold} (ha : Mref21_Of a = some f) (hb : Mref21_Of b = some g) (hl : a.length + b.length < 100000) (hva : ∀ r ∈ a, r.val.size ≤ 4000000000) (hvb : ∀ r ∈ b, r.val.size ≤ 4000000000) : Mref21_Of (a ++ b) = some (Mref21_Join f g) := by
  have hz0 : fo2 0 fz := ⟨⟨by simp [fz], by simp [fz], by simp [fz], by simp [fz], by kernel_rfl, fun _ => ⟨rfl, rfl⟩⟩, fun _ => rfl, by simp [fz], by simp [fz]⟩
  obtain ⟨f', hf', e1, -⟩ := of_l1_join a 0 fz (by omega) hz0 hva
  obtain ⟨g', hg', e2, e3⟩ := of_l1_join b a.length f' (by omega) hf' hvb
  unfold Mref21_Of at ha hb ⊢
  rw [e1, obnd_some] at ha
  rw [e2, obnd_some] at hb
  rw [of_l1_app, e1, obnd_some]
  have hf : f' = f := Option.some.inj ha
  have hg : g' = g := Option.some.inj hb
  subst hf hg
  simp only
  rw [e3, obnd_some]
theorem sorted_slices {t : List Kv} (ht : tvalid t = true) : ∀ {R : List Rng}, Nrm R → (qslices t R).Pairwise (fun a b => bl a.key b.key = true)
  | [], _ => by simp [qslices]
  | r :: R, h => by
    have h1 := ((tvalid_iff t).1 ht).2.2
    have ih := sorted_slices ht h.tail
    simp only [qslices, List.flatMap_cons] at ih ⊢
    refine List.pairwise_append.2 ⟨List.Pairwise.filter _ h1, ih, fun x hx y hy => ?_⟩
    obtain ⟨r', hr', hy'⟩ := List.mem_flatMap.1 hy
    have hx1 := (List.mem_filter.1 hx).2
    have hy1 := (List.mem_filter.1 hy').2
    have g1 := (contains_pt (h.ne r List.mem_cons_self) _).1 hx1
    have g2 := (contains_pt (h.ne r' (List.mem_cons_of_mem _ hr')) _).1 hy1
    have g3 := (List.pairwise_cons.1 h.gap).1 r' hr'
    have g4 : Bnd.lt ⟨x.key, false⟩ r'.lo = true := lt_trans g1.2.2 g3
    have g5 : Bnd.lt ⟨x.key, false⟩ ⟨y.key, false⟩ = true := by
      cases hl : Bnd.lt r'.lo ⟨y.key, false⟩ with
      | true => exact lt_trans g4 hl
      | false =>
        have t0 : r'.lo.top = false := by
          cases h0 : r'.lo.top with
          | false => rfl
          | true => have := g2.2.1; simp [Bnd.lt, h0] at this
        have g6 := g2.2.1
        simp [Bnd.lt, t0] at g4 hl g6 ⊢
        have : r'.lo.key.toList = y.key.toList := bytesLess_total hl g6
        rw [← this]; exact g4
    simpa [Bnd.lt] using g5
theorem valid_slices {t : List Kv} (ht : tvalid t = true) {R : List Rng} (hR : Nrm R) (hl : R.length * t.length ≤ 1024) : tvalid (qslices t R) = true := by
  rw [tvalid_iff]
  refine ⟨Nat.le_trans (qslices_len t R) hl, fun r hr => ((tvalid_iff t).1 ht).2.1 r (qslices_sub _ _ r hr), sorted_slices ht hR⟩
theorem chk_one {l : List Rng} (h : ∀ r ∈ l, emp r = false) (hl : l.length ≤ 4) : qchk 1 l ⟨#[]⟩ 0 = 0 ∧ qranges 1 l ⟨#[]⟩ 0 = union l := by
  have h0 := (qmade_1 h hl).1
  exact ⟨h0, by unfold qranges; rw [if_pos h0]; rfl⟩
theorem qtk_1 (l : List Kv) : qtk 1 0 l = l := rfl
theorem vsz {t : List Kv} (ht : tvalid t = true) : ∀ r ∈ t, r.val.size ≤ 4000000000 := fun r hr => by
  have := ((tvalid_iff t).1 ht).2.1 r hr
  simp only [vrow, Bool.and_eq_true, decide_eq_true_eq] at this
  omega
theorem fold_ref {l : List Kv} {g : TFold} (hl : l.length < 1000000000) (hv : ∀ r ∈ l, r.val.size ≤ 4000000000) (h : Mfold_Of l = some g) : Mref21_Of l = some g := by
  obtain ⟨g', e1, e2, -⟩ := of_eq l hl hv
  rw [e1] at h
  rw [e2, h]
theorem qunion_l2 (y : List Kv × TTape) (ht : tvalid y.1 = true) (hlen : y.1.length ≤ 10) : ∀ (R : List Rng) (rows : List Kv) (f : TFold), (∀ r ∈ R, emp r = false) → rows.length + R.length * 10 ≤ 1000 → (∀ r ∈ rows, r.val.size ≤ 4000000000) → Mref21_Of rows = some f →
    ∃ g : TFold, Mlaw22_QueryUnion_l2 y R rows f.Count f.Numbers f.Sum f.Low f.High f.First f.Last = some (.nxt (rows ++ qslices y.1 R, g.Count, g.Numbers, g.Sum, g.Low, g.High, g.First, g.Last)) ∧ Mref21_Of (rows ++ qslices y.1 R) = some g
  | [], rows, f, _, _, _, hf => ⟨f, by rw [Mlaw22_QueryUnion_l2.eq_1]; simp [qslices], by simpa [qslices] using hf⟩
  | r :: R, rows, f, he, hl, hv, hf => by
    simp only [List.length_cons] at hl
    have her := he r List.mem_cons_self
    obtain ⟨c1, c2⟩ := chk_one (l := [r]) (by simpa using her) (by simp)
    obtain ⟨g, a1, a2⟩ := answer_ok y.1 ⟨1, [r], ⟨#[]⟩, 0⟩ (by simp) c1 ht
    simp only [c2, qtk_1, union_one, her, Bool.false_eq_true, if_false] at a1 a2
    have hs := qslices_len y.1 [r]
    simp only [List.length_cons, List.length_nil] at hs
    have hvs : ∀ x ∈ qslices y.1 [r], x.val.size ≤ 4000000000 := fun x hx => vsz ht x (qslices_sub _ _ x hx)
    have hg := fold_ref (by omega) hvs a2
    rw [Mlaw22_QueryUnion_l2.eq_2, a1, obnd_some]
    simp only [decide_true, Bool.not_true, sel_false]
    rw [app_le (by omega), obnd_some, bnd_eq]
    have ef : (TFold.mk f.Count f.Numbers f.Sum f.Low f.High f.First f.Last) = f := rfl
    rw [ef]
    have hj := of_join hf hg (by omega) hv hvs
    obtain ⟨g', e1, e2⟩ := qunion_l2 y ht hlen R (rows ++ qslices y.1 [r]) (Mref21_Join f g) (fun x hx => he x (List.mem_cons_of_mem _ hx)) (by simp; omega) (fun x hx => by
      rcases List.mem_append.1 hx with hx | hx
      · exact hv x hx
      · exact hvs x hx) hj
    have eq2 : rows ++ qslices y.1 [r] ++ qslices y.1 R = rows ++ qslices y.1 (r :: R) := by simp [qslices]
    rw [eq2] at e1 e2
    exact ⟨g', e1, e2⟩
theorem qunion_l1 : ∀ (fuel : Nat) (l : List Int) (a : Int) (q : List Rng) (i : Int), okT ⟨l, a⟩ → (i + 1).toNat < fuel → -1 ≤ i → (q.length : Int) + i ≤ 100 → (∀ r ∈ q, emp r = false) → ∃ q', Mlaw22_QueryUnion_l1 fuel l a q i = some q' ∧ (q'.length : Int) = q.length + i + 1 ∧ ∀ r ∈ q', emp r = false
  | 0, _, _, _, _, _, h, _, _, _ => absurd h (by omega)
  | fuel + 1, l, a, q, i, h, hf, h1, hl, he => by
    rw [Mlaw22_QueryUnion_l1.eq_2, sel_ite]
    by_cases hi : 0 ≤ i
    · rw [if_pos (by simpa using hi), obnd_some, ocbnd_nxt]
      obtain ⟨r, τ1, e1, g1, hr⟩ := proper_ok h
      rw [e1, obnd_some, app_le (by simp; omega), obnd_some, i64w_id (by omega) (by omega)]
      obtain ⟨q', e, k2, k3⟩ := qunion_l1 fuel τ1.l τ1.at_ (q ++ [r]) (i - 1) g1 (by omega) (by omega) (by simp; omega) (fun x hx => by
        rcases List.mem_append.1 hx with hx | hx
        · exact he x hx
        · rw [List.mem_singleton.1 hx]; exact hr)
      exact ⟨q', e, by rw [k2]; simp; omega, k3⟩
    · rw [if_neg (by simpa using hi), obnd_some, ocbnd_ret]
      exact ⟨_, rfl, by omega, he⟩
theorem queryUnion_ok (l : List Int) : Mlaw22_QueryUnion l = some true := by
  unfold Mlaw22_QueryUnion
  obtain ⟨τ, e, h⟩ := new_ok l
  obtain ⟨t, τ1, e1, h1, hv, ht⟩ := rows_ok h 10 (by omega) (by omega)
  obtain ⟨x, τ2, e2, h2, hx⟩ := next_ok h1 4 (by omega)
  unfold Cho at hx
  rw [e, obnd_some, e1, obnd_some]; simp only
  rw [e2, obnd_some]; simp only
  obtain ⟨q, e3, hq, he⟩ := qunion_l1 FU τ2.l τ2.at_ [] x h2 (by unfold FU; omega) (by omega) (by simp; omega) (by simp)
  simp only [List.length_nil] at hq
  rw [e3, obnd_some]
  obtain ⟨c1, c2⟩ := chk_one he (by omega)
  obtain ⟨g, a1, a2⟩ := answer_ok t ⟨1, q, ⟨#[]⟩, 0⟩ (by simp only; omega) c1 hv
  simp only [c2, qtk_1] at a1 a2
  rw [a1, obnd_some, (eq_ranges ⟨1, q, ⟨#[]⟩, 0⟩ (by simp only; omega)).1, obnd_some]
  simp only [c2]
  have hN := (union_nrm q).1
  have hul := union_le q
  have hsl := qslices_len t (union q)
  have hmul : (union q).length * t.length ≤ 4 * 10 := Nat.mul_le_mul (by omega) (by omega)
  obtain ⟨g', b1, b2⟩ := qunion_l2 (t, τ1) hv (by simp only; omega) (union q) [] ⟨0, 0, 0, 0, 0, ⟨#[]⟩, ⟨#[]⟩⟩ hN.ne (by simp; omega) (by simp) rfl
  simp only [List.nil_append] at b1 b2
  have hvs : ∀ x ∈ qslices t (union q), x.val.size ≤ 4000000000 := fun x hx => vsz hv x (qslices_sub _ _ x hx)
  have hg := fold_ref (by omega) hvs a2
  rw [b2] at hg
  obtain rfl := Option.some.inj hg
  rw [b1, obnd_some, ocbnd_nxt, eq_ref20_Same, eq_ref20_Valid, valid_slices hv hN (by omega), awake_ok]
  simp [sel_true, obnd_some]
end Go.Proofs.YtjnnkpkbgdknmaaDoor
