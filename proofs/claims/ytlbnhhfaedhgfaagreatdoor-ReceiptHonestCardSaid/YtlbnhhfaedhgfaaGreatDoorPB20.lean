/-
  Lemmas: Models and walks
-/
import Derived.Test.YtlbnhhfaedhgfaaGreatDoorPB19
import Derived.Test.YtlbnhhfaedhgfaaGreatDoorPB10
import Derived.Test.YtlbnhhfaedhgfaaGreatDoorPB18
set_option linter.unusedSimpArgs false
set_option linter.unusedVariables false
namespace Go.Proofs.YtlbnhhfaedhgfaaGreatDoor
open Go.RowKit
theorem eq_ref20_without_l1 (k : ByteArray) : ∀ (t out : List Kv), t.length + out.length ≤ 4294967296 → Mref20_without_l1 k t out = some (out ++ wthout k t)
  | [], out, _ => by simp [Mref20_without_l1, wthout]
  | x :: t, out, h => by
    simp only [List.length_cons] at h
    rw [Mref20_without_l1.eq_2, sel_ite]
    by_cases hk : x.key = k
    · rw [if_neg (by simp [hk]), eq_ref20_without_l1 k t out (by omega)]; simp [wthout, hk]
    · rw [if_pos (by simp [hk]), app_le (by simp; omega), obnd_some, eq_ref20_without_l1 k t _ (by simp; omega)]; simp [wthout, hk]
theorem eq_ref20_without (k : ByteArray) (t : List Kv) (h : t.length ≤ 4294967296) : Mref20_without t k = some (wthout k t) := by
  rw [Mref20_without, eq_ref20_without_l1 k t [] (by simpa using h), obnd_some]; rfl
theorem eq_ref20_with_l1 (x : Kv) : ∀ (t out : List Kv) (d : Bool), 2 * t.length + out.length + 1 ≤ 4294967296 → ∃ d', Mref20_with_l1 x t out d = some (out ++ (if d then t else (ins x t).take (t.length + d'.toNat)), d') ∧ (d = true → d' = true) ∧ (d = false → d' = false → ins x t = t ++ [x]) := by
  intro t
  induction t with
  | nil =>
    intro out d _
    exact ⟨d, by cases d <;> simp [Mref20_with_l1, ins], fun h => h, fun _ _ => rfl⟩
  | cons r t ih =>
    intro out d h
    simp only [List.length_cons] at h
    rw [Mref20_with_l1.eq_2]
    cases d with
    | true =>
      rw [show (!true) = false from rfl, sel_false, obnd_some, sel_false, app_le (by simp; omega), obnd_some]
      obtain ⟨d', e, h1, h2⟩ := ih (out ++ [r]) true (by simp; omega)
      exact ⟨d', by rw [e]; simp, h1, (fun h => by cases h)⟩
    | false =>
      rw [show (!false) = true from rfl, sel_true, obnd_some, sel_ite]
      by_cases hb : bl x.key r.key = true
      · rw [if_pos hb, app_le (by simp; omega), obnd_some, app_le (by simp; omega), obnd_some]
        obtain ⟨d', e, h1, h2⟩ := ih (out ++ [x] ++ [r]) true (by simp; omega)
        obtain rfl := h1 rfl
        exact ⟨true, by rw [e]; simp [ins, hb], fun _ => rfl, (fun _ h => by cases h)⟩
      · rw [if_neg hb, app_le (by simp; omega), obnd_some]
        obtain ⟨d', e, h1, h2⟩ := ih (out ++ [r]) false (by simp; omega)
        refine ⟨d', ?_, (fun h => by cases h), fun _ h3 => ?_⟩
        · rw [e]; simp [ins, hb, Nat.add_right_comm]
        · simp [ins, hb, h2 rfl h3]
theorem eq_ref20_with (x : Kv) (t : List Kv) (h : 2 * t.length + 10 ≤ 4294967296) : Mref20_with t x = some (wth x t) := by
  have hw : (wthout x.key t).length ≤ t.length := List.length_filter_le _ _
  rw [Mref20_with, eq_ref20_without _ _ (by omega), obnd_some]
  obtain ⟨d', e, h1, h2⟩ := eq_ref20_with_l1 x (wthout x.key t) [] false (by simp; omega)
  rw [e, obnd_some]
  cases d' with
  | true =>
    simp only [Bool.not_true, sel_false, Bool.false_eq_true, if_false, List.nil_append, wth]
    rw [List.take_of_length_le (by rw [ins_len]; simp)]
  | false =>
    simp only [Bool.not_false, sel_true, Bool.false_eq_true, if_false, List.nil_append]
    have hi := h2 rfl rfl
    rw [hi]
    rw [app_le (by simp; omega), obnd_some, wth, hi]
    simp
theorem okAt_cons (t : List Kv) (m : Nat) (r : Kv) (h : t[m]? = some r) : okAt t m = (vrow r && (m == 0 || match t[m - 1]? with | some x => bl x.key r.key | none => false)) := by
  have h2 := (List.getElem?_eq_some_iff.1 h)
  obtain ⟨h3, rfl⟩ := h2
  rw [okAt_eq h3]
  cases m with
  | zero => simp
  | succ m =>
    have : t[m]? = some t[m] := List.getElem?_eq_getElem (by omega)
    simp [this]
theorem drop_get {α : Type} {t xs : List α} {m : Nat} {r : α} (h : t.drop m = r :: xs) : t[m]? = some r ∧ t.drop (m + 1) = xs := by
  constructor
  · rw [← List.head?_drop, h]; rfl
  · rw [← List.tail_drop, h]; rfl
theorem range_all (n m : Nat) (f : Nat → Bool) (h : m < n) : ((List.range' m (n - m)).all f) = (f m && (List.range' (m + 1) (n - (m + 1))).all f) := by
  obtain ⟨k, rfl⟩ := Nat.exists_eq_add_of_lt h
  rw [show m + k + 1 - m = k + 1 by omega, show m + k + 1 - (m + 1) = k by omega, List.range'_succ]
  rfl
theorem eq_ref20_Valid_l1 (t : List Kv) (ht : t.length ≤ 1024) : ∀ (xs : List Kv) (m : Nat), t.drop m = xs → m ≤ t.length → Mref20_Valid_l1 t xs (m : Int) = some (sel ((List.range' m (t.length - m)).all (okAt t)) (.nxt ()) (.ret false))
  | [], m, h, hm => by
    have : t.length - m = 0 := by have := congrArg List.length h; simpa using this
    simp [Mref20_Valid_l1, this, sel_true]
  | r :: xs, m, h, hm => by
    obtain ⟨h1, h2⟩ := drop_get h
    have h3 := (List.getElem?_eq_some_iff.1 h1).1
    have ih := eq_ref20_Valid_l1 t ht xs (m + 1) h2 h3
    rw [Mref20_Valid_l1.eq_2, bnd_eq, range_all _ _ _ h3, okAt_cons t m r h1, eq_ref1_ValidKey, vrow, show (m : Int) + 1 = ((m + 1 : Nat) : Int) by omega, ih]
    have hsz : decide (64 < (r.val.size : Int)) = !decide (r.val.size ≤ 64) := by
      by_cases h : r.val.size ≤ 64
      · have : ¬ 64 < (r.val.size : Int) := by omega
        simp [h, this]
      · have : 64 < (r.val.size : Int) := by omega
        simp [h, this]
    rw [hsz]
    cases vk r.key with
    | false => rfl
    | true =>
      cases decide (r.val.size ≤ 64) with
      | false => rfl
      | true =>
        cases m with
        | zero => rfl
        | succ m =>
          have e1 : i64w (((m + 1 : Nat) : Int) - 1) = (m : Int) := by rw [i64w_id (by omega) (by omega)]; omega
          have e2 : decide ((0 : Int) < ((m + 1 : Nat) : Int)) = true := decide_eq_true (by omega)
          have e3 : t[m + 1 - 1]? = some t[m] := List.getElem?_eq_getElem (by omega)
          rw [e1, e2, e3, lget_nat, List.getElem?_eq_getElem (show m < t.length by omega), obnd_some]
          have e4 : (m + 1 == 0) = false := rfl
          rw [e4]
          simp only
          cases bl t[m].key r.key <;> rfl
theorem eq_ref20_Valid (t : List Kv) : Mref20_Valid t = some (tvalid t) := by
  unfold Mref20_Valid
  rw [sel_ite]
  by_cases h : t.length ≤ 1024
  · rw [if_neg (by simp; omega)]
    have := eq_ref20_Valid_l1 t h t 0 rfl (Nat.zero_le _)
    rw [show ((0 : Nat) : Int) = 0 from rfl] at this
    rw [this, obnd_some, tvalid, List.range_eq_range']
    simp only [Nat.sub_zero, h, decide_true, Bool.true_and]
    cases (List.range' 0 t.length).all (okAt t) <;> rfl
  · rw [if_pos (by simp; omega)]
    simp [tvalid, h]
theorem eq_ref20_Put (t : List Kv) (x : Kv) (h : t.length ≤ 100000) : Mref20_Put t x = some (put x t) := by
  unfold Mref20_Put
  simp only [eq_ref20_Valid, obnd_some, tvalid_one, put]
  cases tvalid t with
  | false => rfl
  | true =>
    cases vrow x with
    | false => rfl
    | true =>
      simp only [Bool.not_true, sel_false, obnd_some, Bool.and_self, if_true]
      rw [eq_ref20_with x t (by omega), obnd_some, sel_ite]
      by_cases hh : 1024 < (wth x t).length
      · rw [if_pos (by simp; omega), if_pos hh]
      · rw [if_neg (by simp; omega), if_neg hh]
theorem contains_vk {r : Rng} {k : ByteArray} (h : contains r k = true) : vk k = true := by
  simp only [contains, Bool.and_eq_true] at h; exact h.1.1.2
theorem keyIn_l1_ok (r : Rng) : ∀ (fuel : Nat) (l : List Int) (a i : Int), okT ⟨l, a⟩ → 0 ≤ i → i ≤ 4 → (4 - i).toNat < fuel → ∃ c, Mwld_Tape_KeyIn_l1 r fuel l a i = some c ∧ ((∃ k τ', c = .ret (k, τ') ∧ okT τ' ∧ contains r k = true) ∨ ∃ l' a', c = .nxt (l', a') ∧ okT ⟨l', a'⟩)
  | 0, _, _, _, _, _, _, h => absurd h (by omega)
  | fuel + 1, l, a, i, h, h0, h4, hf => by
    rw [Mwld_Tape_KeyIn_l1.eq_2, sel_ite]
    by_cases hi : i < 4
    · rw [if_pos (by simpa using hi), obnd_some, ocbnd_nxt]
      obtain ⟨k, τ1, e1, h1, hk⟩ := key_ok h
      rw [e1, obnd_some, bnd_eq, eq_ref1_Contains, sel_ite]
      split
      · exact ⟨_, rfl, .inl ⟨_, _, rfl, h1, by assumption⟩⟩
      · rw [i64w_id (by omega) (by omega)]
        exact keyIn_l1_ok r fuel _ _ _ h1 (by omega) (by omega) (by omega)
    · rw [if_neg (by simpa using hi), obnd_some, ocbnd_ret]
      exact ⟨_, rfl, .inr ⟨_, _, rfl, h⟩⟩
theorem keyIn_ok {τ : TTape} (h : okT τ) (r : Rng) (hr : emp r = false) : ∃ k τ', Mwld_Tape_KeyIn τ r = some (k, τ') ∧ okT τ' ∧ contains r k = true := by
  obtain ⟨c, e, hc⟩ := keyIn_l1_ok r FU τ.l τ.at_ 0 h (by omega) (by omega) (by unfold FU; omega)
  unfold Mwld_Tape_KeyIn
  rw [e, obnd_some]
  rcases hc with ⟨k, τ', rfl, h1, h2⟩ | ⟨l', a', rfl, h1⟩
  · exact ⟨_, _, rfl, h1, h2⟩
  · exact ⟨_, _, rfl, h1, contains_lo hr⟩
theorem rowsIn_l1_ok (r : Rng) (hr : emp r = false) : ∀ (fuel : Nat) (l : List Int) (a : Int) (out : List Kv) (i : Int), okT ⟨l, a⟩ → i.toNat < fuel → tvalid out = true → (∀ x ∈ out, contains r x.key = true) → (out.length : Int) + max i 0 ≤ 1000 →
    ∃ t l' a', Mwld_Tape_RowsIn_l1 r fuel l a out i = some (t, l', a') ∧ okT ⟨l', a'⟩ ∧ tvalid t = true ∧ (∀ x ∈ t, contains r x.key = true) ∧ (t.length : Int) ≤ out.length + max i 0
  | 0, _, _, _, _, _, h, _, _, _ => absurd h (by omega)
  | fuel + 1, l, a, out, i, h, hf, hv, hx, hl => by
    rw [Mwld_Tape_RowsIn_l1.eq_2, sel_ite]
    by_cases hi : 0 < i
    · rw [if_pos (by simpa using hi), obnd_some, ocbnd_nxt]
      obtain ⟨k, τ1, e1, h1, hk⟩ := keyIn_ok h r hr
      obtain ⟨v, τ2, e2, h2, hv2⟩ := value_ok h1
      rw [e1, obnd_some]; simp only; rw [e2, obnd_some]; simp only
      obtain ⟨g1, g2, g3⟩ := put_valid (x := ⟨k, v⟩) hv (by simp [vrow, contains_vk hk, hv2]) (by omega)
      rw [eq_ref20_Put _ _ (by omega), obnd_some, g1, i64w_id (by omega) (by omega)]
      have hmem : ∀ x ∈ wth ⟨k, v⟩ out, contains r x.key = true := fun x hxm => by
        rcases ins_mem.1 hxm with rfl | hxm
        · exact hk
        · exact hx x (List.mem_filter.1 hxm).1
      obtain ⟨t, l', a', e, q1, q2, q3, q4⟩ := rowsIn_l1_ok r hr fuel τ2.l τ2.at_ (wth ⟨k, v⟩ out) (i - 1) h2 (by omega) g2 hmem (by omega)
      exact ⟨t, l', a', e, q1, q2, q3, by omega⟩
    · rw [if_neg (by simpa using hi), obnd_some, ocbnd_ret]
      exact ⟨_, _, _, rfl, h, hv, hx, by omega⟩
theorem rowsIn_ok {τ : TTape} (h : okT τ) (r : Rng) (n : Int) (h0 : 0 ≤ n) (hn : n ≤ 900) : ∃ t τ', Mwld_Tape_RowsIn τ r n = some (t, τ') ∧ okT τ' ∧ tvalid t = true ∧ (∀ x ∈ t, contains r x.key = true) ∧ (t.length : Int) ≤ n := by
  unfold Mwld_Tape_RowsIn
  rw [bnd_eq, eq_ref1_Empty, sel_ite]
  split
  · exact ⟨_, _, rfl, h, by kernel_rfl, by simp, by simpa using h0⟩
  · rename_i hr
    rw [i64w_id (by omega) (by omega)]
    obtain ⟨x, τ1, e1, h1, hx⟩ := next_ok h (n + 1) (by omega)
    unfold Cho at hx
    rw [e1, obnd_some]; simp only
    obtain ⟨t, l', a', e, q1, q2, q3, q4⟩ := rowsIn_l1_ok r (by simpa using hr) FU τ1.l τ1.at_ [] x h1 (by unfold FU; omega) (by kernel_rfl) (by simp) (by simp; omega)
    rw [e, obnd_some]
    simp at q4
    exact ⟨t, _, rfl, q1, q2, q3, by omega⟩
theorem rows_ok {τ : TTape} (h : okT τ) (n : Int) (h0 : 0 ≤ n) (hn : n ≤ 900) : ∃ t τ', Mwld_Tape_Rows τ n = some (t, τ') ∧ okT τ' ∧ tvalid t = true ∧ (t.length : Int) ≤ n := by
  unfold Mwld_Tape_Rows
  obtain ⟨t, τ', e, q1, q2, -, q4⟩ := rowsIn_ok h Mwld_All n h0 hn
  rw [bnd_eq, e, obnd_some]
  exact ⟨_, _, rfl, q1, q2, q4⟩
theorem query_l1_ok : ∀ (fuel : Nat) (l : List Int) (a : Int) (q : List Rng) (i : Int), okT ⟨l, a⟩ → (i + 1).toNat < fuel → -1 ≤ i → (q.length : Int) + i ≤ 100 → (∀ r ∈ q, emp r = false) → ∃ q' l' a', Mwld_Tape_Query_l1 fuel l a q i = some (q', l', a') ∧ okT ⟨l', a'⟩ ∧ (q'.length : Int) = q.length + i + 1 ∧ ∀ r ∈ q', emp r = false
  | 0, _, _, _, _, _, h, _, _, _ => absurd h (by omega)
  | fuel + 1, l, a, q, i, h, hf, h1, hl, he => by
    rw [Mwld_Tape_Query_l1.eq_2, sel_ite]
    by_cases hi : 0 ≤ i
    · rw [if_pos (by simpa using hi), obnd_some, ocbnd_nxt]
      obtain ⟨r, τ1, e1, g1, hr⟩ := proper_ok h
      rw [e1, obnd_some, app_le (by simp; omega), obnd_some, i64w_id (by omega) (by omega)]
      obtain ⟨q', l', a', e, k1, k2, k3⟩ := query_l1_ok fuel τ1.l τ1.at_ (q ++ [r]) (i - 1) g1 (by omega) (by omega) (by simp; omega) (fun x hx => by
        rcases List.mem_append.1 hx with hx | hx
        · exact he x hx
        · rw [List.mem_singleton.1 hx]; exact hr)
      exact ⟨q', l', a', e, k1, by rw [k2]; simp; omega, k3⟩
    · rw [if_neg (by simpa using hi), obnd_some, ocbnd_ret]
      exact ⟨_, _, _, rfl, h, by omega, he⟩
def qok (q : TQuery) : Prop := qchk q.Kind q.Ranges q.Key q.Count = 0 ∧ q.Ranges.length ≤ 4 ∧ 0 ≤ q.Count ∧ q.Count ≤ 1024 ∧ q.Key.size ≤ 64
theorem query_ok {τ : TTape} (h : okT τ) : ∃ q τ', Mwld_Tape_Query τ = some (q, τ') ∧ okT τ' ∧ qok q := by
  unfold Mwld_Tape_Query
  obtain ⟨x, τ1, e1, h1, hx⟩ := next_ok h 4 (by omega)
  unfold Cho at hx
  rw [e1, obnd_some]; simp only
  rw [i64w_id (by omega) (by omega), sel_ite]
  by_cases c1 : 1 + x = 1
  · rw [if_pos (by simpa using c1)]
    obtain ⟨y, τ2, e2, h2, hy⟩ := next_ok h1 4 (by omega)
    unfold Cho at hy
    rw [e2, obnd_some]; simp only
    obtain ⟨q', l', a', e, k1, k2, k3⟩ := query_l1_ok FU τ2.l τ2.at_ [] y h2 (by unfold FU; omega) (by omega) (by simp; omega) (by simp)
    rw [e, obnd_some, obnd_some]
    simp at k2
    exact ⟨_, _, rfl, k1, by rw [c1]; exact qmade_1 (l := q') k3 (by omega)⟩
  · rw [if_neg (by simpa using c1), sel_ite]
    by_cases c2 : 1 + x = 2
    · rw [if_pos (by simpa using c2)]
      obtain ⟨k, τ2, e2, h2, hk⟩ := key_ok h1
      rw [e2, obnd_some, obnd_some]
      exact ⟨_, _, rfl, h2, by rw [c2]; exact qmade_2 hk⟩
    · rw [if_neg (by simpa using c2)]
      obtain ⟨k, τ2, e2, h2, hk⟩ := key_ok h1
      obtain ⟨c, τ3, e3, h3, hc⟩ := pick_ok h2 [1, 2, 3, 5, 1024] (by decide) (by decide)
      rw [e2, obnd_some]; simp only; rw [e3, obnd_some, obnd_some]
      exact ⟨_, _, rfl, h3, qmade_3 (k := 1 + x) (by omega) hk hc⟩
end Go.Proofs.YtlbnhhfaedhgfaaGreatDoor
namespace Go.Proofs.YtlbnhhfaedhgfaaGreatDoor
open Go.RowKit
theorem eq_ref22_Check_l1 : ∀ l : List Rng, Mref22_Check_l1 l = sel (l.all vld) (.nxt ()) (.ret 1)
  | [] => rfl
  | r :: l => by
    rw [Mref22_Check_l1.eq_2, bnd_eq, eq_ref1_Valid, eq_ref22_Check_l1 l, List.all_cons]
    cases vld r <;> rfl
theorem eq_ref22_Check (q : TQuery) : Mref22_Check q = qchk q.Kind q.Ranges q.Key q.Count := by
  obtain ⟨k, l, key, c⟩ := q
  unfold Mref22_Check qchk
  simp only [bnd_eq, eq_ref22_Check_l1, eq_ref1_ValidKey, sel_ite, decide_eq_true_eq, Bool.not_eq_true', decide_eq_false_iff_not]
  by_cases a1 : k < 1 ∨ 4 < k
  · rcases a1 with a1 | a1
    · simp [a1]
    · have : ¬ k < 1 := by omega
      simp [a1, this]
  have b1 : ¬ k < 1 := by omega
  have b2 : ¬ 4 < k := by omega
  by_cases a2 : 64 < l.length
  · have : 64 < (l.length : Int) := by omega
    simp [b1, b2, a2, this]
  have b3 : ¬ 64 < (l.length : Int) := by omega
  cases hv : l.all vld with
  | false => simp [b1, b2, a2, b3, hv, cbnd_ret]
  | true =>
    simp only [b1, b2, a2, b3, hv, if_true, if_false, cbnd_nxt, Bool.false_eq_true, or_self, decide_false]
    have hl : (0 < (l.length : Int)) ↔ 0 < l.length := by omega
    by_cases h1 : vk key = false
    · simp [h1]
    · have h1' : vk key = true := by simpa using h1
      by_cases h2 : 0 < l.length <;> by_cases h3 : k = 1 <;> by_cases h4 : key = ⟨#[]⟩ <;> by_cases h5 : k = 3 <;> by_cases h6 : k = 4 <;> first
        | (exfalso; omega)
        | (simp [h1', h2, h3, h4, h5, h6] <;> (repeat' split) <;> first | rfl | omega | (simp_all; done) | (simp_all; omega))
theorem eq_table_validRow (r : Kv) : Mtable_validRow r = vrow r := by
  unfold Mtable_validRow
  rw [bnd_eq, eq_keyspace_ValidKey, sel_and, vrow]
  congr 1
  simp; omega
theorem eq_table_Valid_l1 (t : List Kv) (ht : t.length ≤ 1024) : ∀ (xs : List Kv) (m : Nat), t.drop m = xs → m ≤ t.length → Mtable_Valid_l1 t xs (m : Int) = some (sel ((List.range' m (t.length - m)).all (okAt t)) (.nxt ()) (.ret false))
  | [], m, h, hm => by
    have : t.length - m = 0 := by have := congrArg List.length h; simpa using this
    simp [Mtable_Valid_l1, this, sel_true]
  | r :: xs, m, h, hm => by
    obtain ⟨h1, h2⟩ := drop_get h
    have h3 := (List.getElem?_eq_some_iff.1 h1).1
    have ih := eq_table_Valid_l1 t ht xs (m + 1) h2 h3
    rw [Mtable_Valid_l1.eq_2, bnd_eq, range_all _ _ _ h3, okAt_cons t m r h1, eq_table_validRow, show (m : Int) + 1 = ((m + 1 : Nat) : Int) by omega, ih]
    cases vrow r with
    | false => rfl
    | true =>
      cases m with
      | zero => rfl
      | succ m =>
        have e1 : i64w (((m + 1 : Nat) : Int) - 1) = (m : Int) := by rw [i64w_id (by omega) (by omega)]; omega
        have e2 : decide ((0 : Int) < ((m + 1 : Nat) : Int)) = true := decide_eq_true (by omega)
        have e3 : t[m + 1 - 1]? = some t[m] := List.getElem?_eq_getElem (by omega)
        rw [e1, e2, e3, lget_nat, List.getElem?_eq_getElem (show m < t.length by omega), obnd_some]
        have e4 : (m + 1 == 0) = false := rfl
        rw [e4]
        simp only
        cases bl t[m].key r.key <;> rfl
theorem eq_table_Valid (t : List Kv) : Mtable_Valid t = some (tvalid t) := by
  unfold Mtable_Valid
  rw [sel_ite]
  by_cases h : t.length ≤ 1024
  · rw [if_neg (by simp; omega)]
    have := eq_table_Valid_l1 t h t 0 rfl (Nat.zero_le _)
    rw [show ((0 : Nat) : Int) = 0 from rfl] at this
    rw [this, obnd_some, tvalid, List.range_eq_range']
    simp only [Nat.sub_zero, h, decide_true, Bool.true_and]
    cases (List.range' 0 t.length).all (okAt t) <;> rfl
  · rw [if_pos (by simp; omega)]
    simp [tvalid, h]
end Go.Proofs.YtlbnhhfaedhgfaaGreatDoor
namespace Go.Proofs.YtlbnhhfaedhgfaaGreatDoor
open Go.RowKit
set_option maxRecDepth 100000
set_option maxHeartbeats 4000000
attribute [local irreducible] WK WC WL Wk Rel OpD OpV WD WO sel bnd obnd app lget lsl sget ssl scat letg iquo irem Op.bytesLess
attribute [local irreducible] qchk qranges union
structure TStamp where
  Epoch : Int
  Version : Int
  deriving DecidableEq
def TStamp.ds (x : TStamp) : List D := [dI x.Epoch, dI x.Version]
instance : Len TStamp.ds 2 := ⟨fun _ => rfl⟩

structure TView where
  Owner : Int
  Interval : Rng
  Stamp : TStamp
  Rows : List Kv
  deriving DecidableEq
def TView.ds (x : TView) : List D := [dI x.Owner, dS x.Interval.lo.key, dB x.Interval.lo.top, dS x.Interval.hi.key, dB x.Interval.hi.top, dI x.Stamp.Epoch, dI x.Stamp.Version, lst Kv.ds x.Rows]
instance : Len TView.ds 8 := ⟨fun _ => rfl⟩

structure TVisit where
  View : TView
  Part : Rng
  deriving DecidableEq
def TVisit.ds (x : TVisit) : List D := [dI x.View.Owner, dS x.View.Interval.lo.key, dB x.View.Interval.lo.top, dS x.View.Interval.hi.key, dB x.View.Interval.hi.top, dI x.View.Stamp.Epoch, dI x.View.Stamp.Version, lst Kv.ds x.View.Rows, dS x.Part.lo.key, dB x.Part.lo.top, dS x.Part.hi.key, dB x.Part.hi.top]
instance : Len TVisit.ds 12 := ⟨fun _ => rfl⟩

structure TReceipt where
  Query : TQuery
  First : List TVisit
  Second : List TVisit
  deriving DecidableEq
def TReceipt.ds (x : TReceipt) : List D := [dI x.Query.Kind, lst Rng.ds x.Query.Ranges, dS x.Query.Key, dI x.Query.Count, lst TVisit.ds x.First, lst TVisit.ds x.Second]
instance : Len TReceipt.ds 6 := ⟨fun _ => rfl⟩

def Mref1_greatest (a1 : Bnd) (b2 : Bnd) : Bnd :=
 bnd (Mref1_Compare a1 b2) fun y3 =>
 sel (decide (0 ≤ y3)) (
  a1) (
  b2)
theorem Mref1_greatest_sp {a1 : Bnd} {b2 : Bnd} {y : Bnd} (hm : Mref1_greatest a1 b2 = y) : Spec Tryz.prog 99 [.a [vS a1.key, vB a1.top], .a [vS b2.key, vB b2.top]] [] fun u h => u = .a [vS y.key, vB y.top] ∧ h = [] := by
 refine si Tryz.func99 Tryz.ntmps99 Tryz.results99 fun B w0 ρ0 => ?_
 unfold Mref1_greatest at hm
 refine sr ?_
 refine sr ?_
 obtain ⟨y3, hy, hm⟩ := bnd_o hm
 refine wl_cq (Mref1_Compare_sp (hm := hy)) ?_
 refine ss ?_
 refine wc_cs hm ?_ ?_ <;> clear hm <;> intro hm
 ·refine sr ?_
  refine sx ?_
  subst hm
  exact wk_r
 refine sx ?_
 refine sr ?_
 refine sx ?_
 subst hm
 exact wk_r

def Mref1_least (a1 : Bnd) (b2 : Bnd) : Bnd :=
 bnd (Mref1_Compare a1 b2) fun y3 =>
 sel (decide (y3 ≤ 0)) (
  a1) (
  b2)
theorem Mref1_least_sp {a1 : Bnd} {b2 : Bnd} {y : Bnd} (hm : Mref1_least a1 b2 = y) : Spec Tryz.prog 107 [.a [vS a1.key, vB a1.top], .a [vS b2.key, vB b2.top]] [] fun u h => u = .a [vS y.key, vB y.top] ∧ h = [] := by
 refine si Tryz.func107 Tryz.ntmps107 Tryz.results107 fun B w0 ρ0 => ?_
 unfold Mref1_least at hm
 refine sr ?_
 refine sr ?_
 obtain ⟨y3, hy, hm⟩ := bnd_o hm
 refine wl_cq (Mref1_Compare_sp (hm := hy)) ?_
 refine ss ?_
 refine wc_cs hm ?_ ?_ <;> clear hm <;> intro hm
 ·refine sr ?_
  refine sx ?_
  subst hm
  exact wk_r
 refine sx ?_
 refine sr ?_
 refine sx ?_
 subst hm
 exact wk_r

def Mref1_proper (r1 : Rng) : Rng :=
 bnd (Mref1_Empty r1) fun y2 =>
 sel y2 (
  (Rng.mk (Bnd.mk ⟨#[]⟩ false) (Bnd.mk ⟨#[]⟩ false))) (
  r1)
theorem Mref1_proper_sp {r1 : Rng} {y : Rng} (hm : Mref1_proper r1 = y) : Spec Tryz.prog 106 [.a [vS r1.lo.key, vB r1.lo.top, vS r1.hi.key, vB r1.hi.top]] [] fun u h => u = .a [vS y.lo.key, vB y.lo.top, vS y.hi.key, vB y.hi.top] ∧ h = [] := by
 refine si Tryz.func106 Tryz.ntmps106 Tryz.results106 fun B w0 ρ0 => ?_
 unfold Mref1_proper at hm
 refine sr ?_
 refine sr ?_
 obtain ⟨y2, hy, hm⟩ := bnd_o hm
 refine wl_cq (Mref1_Empty_sp (hm := hy)) ?_
 refine ss ?_
 refine wc_cs hm ?_ ?_ <;> clear hm <;> intro hm
 ·refine sr ?_
  refine sx ?_
  subst hm
  exact wk_r
 refine sx ?_
 refine sr ?_
 refine sx ?_
 subst hm
 exact wk_r

def Mref1_Intersect (a1 : Rng) (b2 : Rng) : Rng :=
 bnd (
  bnd (Mref1_Empty a1) fun y3 =>
  sel y3 (
   true) (
   bnd (Mref1_Empty b2) fun y4 =>
   y4) : Bool) fun x5 =>
 sel x5 (
  (Rng.mk (Bnd.mk ⟨#[]⟩ false) (Bnd.mk ⟨#[]⟩ false))) (
  bnd (Mref1_greatest a1.lo b2.lo) fun y6 =>
  bnd (Mref1_least a1.hi b2.hi) fun y7 =>
  bnd (Mref1_proper (Rng.mk y6 y7)) fun y8 =>
  y8)
theorem Mref1_Intersect_sp {a1 : Rng} {b2 : Rng} {y : Rng} (hm : Mref1_Intersect a1 b2 = y) : Spec Tryz.prog 41 [.a [vS a1.lo.key, vB a1.lo.top, vS a1.hi.key, vB a1.hi.top], .a [vS b2.lo.key, vB b2.lo.top, vS b2.hi.key, vB b2.hi.top]] [] fun u h => u = .a [vS y.lo.key, vB y.lo.top, vS y.hi.key, vB y.hi.top] ∧ h = [] := by
 refine si Tryz.func41 Tryz.ntmps41 Tryz.results41 fun B w0 ρ0 => ?_
 unfold Mref1_Intersect at hm
 refine sr ?_
 refine wc_seq ?_
 refine wc_seq ?_
 obtain ⟨mu1, hm1, hm⟩ := bnd_o hm
 refine wc_cut' (fun st => ∃ (x5 : Bool), x5 = mu1 ∧ st = ⟨[(2, .p 102 0), (3, .p 103 0), (4, .p 104 0), (10, vB x5)], [(102, some (.box 42 [vS a1.lo.key, vB a1.lo.top, vS a1.hi.key, vB a1.hi.top])), (103, some (.box 42 [vS b2.lo.key, vB b2.lo.top, vS b2.hi.key, vB b2.hi.top])), (104, some (.box 42 [vS ⟨#[]⟩, vB false, vS ⟨#[]⟩, vB false]))]⟩) ?_ ?_
 ·refine sr ?_
  obtain ⟨y3, hy, hm1⟩ := bnd_o hm1
  refine wl_cq (Mref1_Empty_sp (hm := hy)) ?_
  refine ss ?_
  refine wl_sg hm1 ?_ ?_ <;> clear hm1 <;> intro hm1
  ·refine ss ?_
   subst hm1
   exact wk_cutw [(102, 102), (103, 103), (104, 104)] ⟨_, rfl, rfl⟩
  refine ss ?_
  obtain ⟨y4, hy, hm1⟩ := bnd_o hm1
  refine wl_cq (Mref1_Empty_sp (hm := hy)) ?_
  refine ss ?_
  subst hm1
  exact wk_cutw [(102, 102), (103, 103), (104, 104)] ⟨_, rfl, rfl⟩
 rintro _ ⟨x5, rfl, rfl⟩
 refine ss ?_
 refine wc_cs hm ?_ ?_ <;> clear hm <;> intro hm
 ·refine sr ?_
  refine sx ?_
  subst hm
  exact wk_r
 refine sx ?_
 refine wc_seq ?_
 refine wc_draw (id := 3) [⟨0, 0, [2]⟩, ⟨1, 1, [12]⟩, ⟨2, 0, [3]⟩, ⟨3, 4, [14]⟩, ⟨5, 0, [2]⟩, ⟨6, 32, [17]⟩, ⟨7, 0, [3]⟩, ⟨8, 128, [19]⟩, ⟨4, 15, [13, 15]⟩, ⟨9, 511, [18, 20]⟩, ⟨10, 1023, [16, 21]⟩, ⟨11, 2047, [22]⟩, ⟨12, 4095, [4, 23]⟩] mixed (by kernel_rfl) ?_
 refine ss ?_
 obtain ⟨y6, hy, hm⟩ := bnd_o hm
 refine wd_cs (Mref1_greatest_sp (hm := hy)) rfl rfl rfl (by repeat (first | exact Vws.nil | apply Vws.cons | exact Vw.nil | exact Vw.d _ | exact Vw.q _ | apply Vw.a)) rfl rfl (by first | exact .no rfl | exact .y rfl rfl rfl rfl) rfl rfl rfl ?_
 refine ss ?_
 obtain ⟨y7, hy, hm⟩ := bnd_o hm
 refine wd_cs (Mref1_least_sp (hm := hy)) rfl rfl rfl (by repeat (first | exact Vws.nil | apply Vws.cons | exact Vw.nil | exact Vw.d _ | exact Vw.q _ | apply Vw.a)) rfl rfl (by first | exact .no rfl | exact .y rfl rfl rfl rfl) rfl rfl rfl ?_
 refine ss ?_
 obtain ⟨y8, hy, hm⟩ := bnd_o hm
 refine wd_cs (Mref1_proper_sp (hm := hy)) rfl rfl rfl (by repeat (first | exact Vws.nil | apply Vws.cons | exact Vw.nil | exact Vw.d _ | exact Vw.q _ | apply Vw.a)) rfl rfl (by first | exact .no rfl | exact .y rfl rfl rfl rfl) rfl rfl rfl ?_
 refine sx ?_
 subst hm
 exact wk_r

def Mclone_List_api_Range_ (l1 : List Rng) : Option (List Rng) :=
 obnd (app ([] : List Rng) l1) fun l2 =>
 some l2
def Mclone_Query (q1 : TQuery) : Option TQuery :=
 obnd (Mclone_List_api_Range_ q1.Ranges) fun y2 =>
 some (TQuery.mk q1.Kind y2 q1.Key q1.Count)
def Mclone_View (v1 : TView) : Option TView :=
 obnd (Mclone_List_api_Row_ v1.Rows) fun y2 =>
 some (TView.mk v1.Owner v1.Interval v1.Stamp y2)
def Mclone_List_api_Visit_ (l1 : List TVisit) : Option (List TVisit) :=
 obnd (app ([] : List TVisit) l1) fun l2 =>
 some l2
def Mclone_Visits_l1 (y2 : List TVisit) : Nat → List TVisit → Int → Option (List TVisit)
  | 0, _, _ => none
  | fuel + 1, l3, x4 =>
  obnd (
   sel (decide (x4 < (y2.length : Int))) (
    some (Ctl.nxt ())) (
    some (Ctl.ret l3)) : Option (Ctl (List TVisit) Unit)) fun mu => ocbnd mu fun (_ : Unit) =>
  obnd (lget l3 x4) fun e5 =>
  obnd (Mclone_View e5.View) fun y6 =>
  obnd (lget l3 x4) fun e7 =>
  bnd ((TVisit.mk y6 e7.Part)) fun e9 =>
  bnd (l3.set (Int.toNat x4) e9) fun l8 =>
  Mclone_Visits_l1 y2 fuel l8 (i64w (x4 + 1))
def Mclone_Visits (l1 : List TVisit) : Option (List TVisit) :=
 obnd (Mclone_List_api_Visit_ l1) fun y2 =>
 obnd (
  Mclone_Visits_l1 y2 FU y2 0 : Option (List TVisit)) fun l10 =>
 some l10
structure TWalk where
  Query : TQuery
  Todo : List Rng
  Visits : List TVisit
  deriving DecidableEq
def TWalk.ds (x : TWalk) : List D := [dI x.Query.Kind, lst Rng.ds x.Query.Ranges, dS x.Query.Key, dI x.Query.Count, lst Rng.ds x.Todo, lst TVisit.ds x.Visits]
instance : Len TWalk.ds 6 := ⟨fun _ => rfl⟩
def Mstamp_Valid (s1 : TStamp) : Bool :=
 sel (decide (0 ≤ s1.Epoch)) (
  sel (decide (s1.Epoch ≤ 1099511627776)) (
   sel (decide (0 ≤ s1.Version)) (
    decide (s1.Version ≤ 1099511627776)) (
    false)) (
   false)) (
  false)
theorem Mstamp_Valid_sp {s1 : TStamp} {y : Bool} (hm : Mstamp_Valid s1 = y) : Spec Tryz.prog 147 [.a [vI s1.Epoch, vI s1.Version]] [] fun u h => u = vB y ∧ h = [] := by
 refine si Tryz.func147 Tryz.ntmps147 Tryz.results147 fun B w0 ρ0 => ?_
 unfold Mstamp_Valid at hm
 refine sr ?_
 refine sr ?_
 refine wl_sg hm ?_ ?_ <;> clear hm <;> intro hm
 ·refine ss ?_
  refine wl_sg hm ?_ ?_ <;> clear hm <;> intro hm
  ·refine ss ?_
   refine wl_sg hm ?_ ?_ <;> clear hm <;> intro hm
   ·refine sx ?_
    subst hm
    exact wk_r
   refine sx ?_
   subst hm
   exact wk_r
  refine sx ?_
  subst hm
  exact wk_r
 refine sx ?_
 subst hm
 exact wk_r

def Mref23_Valid (s1 : TStamp) : Bool :=
 sel (decide (0 ≤ s1.Epoch)) (
  sel (decide (s1.Epoch ≤ 1099511627776)) (
   sel (decide (0 ≤ s1.Version)) (
    decide (s1.Version ≤ 1099511627776)) (
    false)) (
   false)) (
  false)
theorem Mref23_Valid_sp {s1 : TStamp} {y : Bool} (hm : Mref23_Valid s1 = y) : Spec Tryz.prog 138 [.a [vI s1.Epoch, vI s1.Version]] [] fun u h => u = vB y ∧ h = [] := by
 refine si Tryz.func138 Tryz.ntmps138 Tryz.results138 fun B w0 ρ0 => ?_
 unfold Mref23_Valid at hm
 refine sr ?_
 refine sr ?_
 refine wl_sg hm ?_ ?_ <;> clear hm <;> intro hm
 ·refine ss ?_
  refine wl_sg hm ?_ ?_ <;> clear hm <;> intro hm
  ·refine ss ?_
   refine wl_sg hm ?_ ?_ <;> clear hm <;> intro hm
   ·refine sx ?_
    subst hm
    exact wk_r
   refine sx ?_
   subst hm
   exact wk_r
  refine sx ?_
  subst hm
  exact wk_r
 refine sx ?_
 subst hm
 exact wk_r

def Mref24_Number (n1 : Int) : Bool :=
 sel (decide (1 ≤ n1)) (
  decide (n1 ≤ 2147483647)) (
  false)
theorem Mref24_Number_sp {n1 : Int} {y : Bool} (hm : Mref24_Number n1 = y) : Spec Tryz.prog 140 [vI n1] [] fun u h => u = vB y ∧ h = [] := by
 refine si Tryz.func140 Tryz.ntmps140 Tryz.results140 fun B w0 ρ0 => ?_
 unfold Mref24_Number at hm
 refine sr ?_
 refine sr ?_
 refine wl_sg hm ?_ ?_ <;> clear hm <;> intro hm
 ·refine sx ?_
  subst hm
  exact wk_r
 refine sx ?_
 subst hm
 exact wk_r

def Mref24_SameRange (a1 : Rng) (b2 : Rng) : Bool :=
 bnd (Mref1_Compare a1.lo b2.lo) fun y3 =>
 sel (decide (y3 = 0)) (
  bnd (Mref1_Compare a1.hi b2.hi) fun y4 =>
  decide (y4 = 0)) (
  false)
def Mref20_Within_l1 (r2 : Rng) : List Kv → Ctl Bool Unit
  | [] =>
  Ctl.nxt ()
  | r3 :: xs4 =>
  bnd (Mref1_Contains r2 r3.key) fun y6 =>
  sel (!y6) (
   Ctl.ret false) (
   Mref20_Within_l1 r2 xs4)
def Mref20_Within (t1 : List Kv) (r2 : Rng) : Bool :=
 bnd (
  Mref20_Within_l1 r2 t1 : Ctl Bool Unit) fun mu => cbnd mu fun (_ : Unit) =>
 true
theorem Mref20_Within_sp {t1 : List Kv} {r2 : Rng} {y : Bool} (hm : Mref20_Within t1 r2 = y) : Spec Tryz.prog 139 [.d (lst Kv.ds t1), .a [vS r2.lo.key, vB r2.lo.top, vS r2.hi.key, vB r2.hi.top]] [] fun u h => u = vB y ∧ h = [] := by
 refine si Tryz.func139 Tryz.ntmps139 Tryz.results139 fun B w0 ρ0 => ?_
 unfold Mref20_Within at hm
 refine sr ?_
 refine sr ?_
 obtain ⟨mu1, hm1, hm⟩ := bnd_o hm
 refine wc_cut' (fun st => mu1 = Ctl.nxt () ∧ st = ⟨[], []⟩) ?_ ?_
 ·refine wc_block ?_
  refine wc_len 7 rfl (fun hlenm5 => ?_)
  refine wc_loopw (fun κ st => ∃ (m5 : Nat) , κ = t1.length - m5 ∧ m5 ≤ t1.length ∧ Mref20_Within_l1 r2 (t1.drop m5) = mu1 ∧ st = ⟨[(3, .p 103 0), (7, .d (lst Kv.ds t1)), (8, vI (t1.length : Int)), (9, vI (m5 : Int))], [(103, some (.box 42 [vS r2.lo.key, vB r2.lo.top, vS r2.hi.key, vB r2.hi.top]))]⟩) [(103, 103)] ⟨0, rfl, Nat.zero_le _, hm1, rfl⟩ ?_
  rintro κ _ ⟨m5, rfl, hlem5, hm1, rfl⟩
  rcases Nat.lt_or_ge m5 t1.length with hltm5 | hgem5
  ·obtain ⟨r3, hxm5, hdr⟩ := drop_c hltm5
   rw [hdr, Mref20_Within_l1.eq_2] at hm1
   refine sr ?_
   refine wc_seq ?_
   refine wc_cond_tt (lt_t hltm5) rfl ?_
   refine sx ?_
   refine sr ?_
   refine wl_r (o_ixm (ys := [dS r3.key, dS r3.val]) hxm5 rfl rfl rfl rfl) rfl rfl rfl ?_
   refine sr ?_
   obtain ⟨y6, hy, hm1⟩ := bnd_o hm1
   refine wl_cq (Mref1_Contains_sp (hm := hy)) ?_
   refine ss ?_
   refine wc_cs hm1 ?_ ?_ <;> clear hm1 <;> intro hm1
   ·refine sr ?_
    refine sx ?_
    subst hm1
    replace hm := cbnd_r hm
    subst hm
    exact wk_r
   refine sx ?_
   refine sr ?_
   refine wl_r (o_inc hltm5 hlenm5 rfl rfl rfl) rfl rfl rfl ?_
   refine ss ?_
   exact wk_loopw [(103, 103)] ⟨m5 + 1, rfl, hltm5, hm1, rfl⟩ (by omega)
  ·rw [drop_n hgem5, Mref20_Within_l1.eq_1] at hm1
   refine sr ?_
   refine wc_seq ?_
   refine wc_cond_ff (lt_f hgem5) rfl ?_
   refine wc_exit ?_
   refine ss ?_
   subst hm1
   exact wk_cutw [] ⟨rfl, rfl⟩
 rintro _ ⟨rfl, rfl⟩
 replace hm := cbnd_n hm
 refine sr ?_
 refine sx ?_
 subst hm
 exact wk_r

def Mwld_Tape_Cuts_l2 (out6 : List Bnd) (y8 : (Bnd × TTape)) : Nat → List Int → Int → Int → Option (List Int × Int × Int)
  | 0, _, _, _ => none
  | fuel + 1, x9, x10, k11 =>
  sel (decide (0 < k11)) (
   obnd (lget out6 (i64w (k11 - 1))) fun e12 =>
   bnd (Mref1_Compare e12 y8.1) fun y13 =>
   sel (decide (0 < y13)) (
    obnd (Mwld_Tape_Bool (TTape.mk x9 x10) 20) fun y14 =>
    sel (!y14.1) (
     Mwld_Tape_Cuts_l2 out6 y8 fuel y14.2.l y14.2.at_ (i64w (k11 - 1))) (
     some (y14.2.l, y14.2.at_, k11))) (
    some (x9, x10, k11))) (
   some (x9, x10, k11))
def Mwld_Tape_Cuts_l1 : Nat → List Int → Int → List Bnd → Int → Option (List Bnd × List Int × Int)
  | 0, _, _, _, _ => none
  | fuel + 1, x4, x5, out6, i7 =>
  obnd (
   sel (decide (0 < i7)) (
    some (Ctl.nxt ())) (
    some (Ctl.ret (out6, x4, x5))) : Option (Ctl (List Bnd × List Int × Int) Unit)) fun mu => ocbnd mu fun (_ : Unit) =>
  obnd (
   obnd (Mwld_Tape_Bound (TTape.mk x4 x5)) fun y8 =>
   obnd (
    Mwld_Tape_Cuts_l2 out6 y8 FU y8.2.l y8.2.at_ (out6.length : Int) : Option (List Int × Int × Int)) fun (x15, x16, k17) =>
   obnd (
    sel (decide (0 < k17)) (
     obnd (lget out6 (i64w (k17 - 1))) fun e18 =>
     bnd (Mref1_Compare e18 y8.1) fun y19 =>
     sel (decide (y19 = 0)) (
      obnd (Mwld_Tape_Bool (TTape.mk x15 x16) 20) fun y20 =>
      sel (!y20.1) (
       some (y20.2.l, y20.2.at_, true)) (
       bnd (Mref1_ValidBound y8.1) fun y21 =>
       sel (!y21) (
        obnd (Mwld_Tape_Bool y20.2 20) fun y22 =>
        some (y22.2.l, y22.2.at_, !y22.1)) (
        some (y20.2.l, y20.2.at_, false)))) (
      bnd (Mref1_ValidBound y8.1) fun y23 =>
      sel (!y23) (
       obnd (Mwld_Tape_Bool (TTape.mk x15 x16) 20) fun y24 =>
       some (y24.2.l, y24.2.at_, !y24.1)) (
       some (x15, x16, false)))) (
     bnd (Mref1_ValidBound y8.1) fun y25 =>
     sel (!y25) (
      obnd (Mwld_Tape_Bool (TTape.mk x15 x16) 20) fun y26 =>
      some (y26.2.l, y26.2.at_, !y26.1)) (
      some (x15, x16, false))) : Option (List Int × Int × Bool)) fun (x27, x28, x29) =>
   obnd (
    sel x29 (
     some (Ctl.ret (x27, x28, out6))) (
     some (Ctl.nxt ())) : Option (Ctl (List Int × Int × List Bnd) Unit)) fun mu => ocbnd mu fun (_ : Unit) =>
   obnd (lsl out6 0 k17) fun l30 =>
   obnd (app ([] : List Bnd) l30) fun l31 =>
   obnd (app l31 ([y8.1] : List Bnd)) fun l32 =>
   obnd (lsl out6 k17 (out6.length : Int)) fun l33 =>
   obnd (app l32 l33) fun l34 =>
   some (x27, x28, l34) : Option (List Int × Int × List Bnd)) fun (x35, x36, out37) =>
  Mwld_Tape_Cuts_l1 fuel x35 x36 out37 (i64w (i7 - 1))
def Mwld_Tape_Cuts (t1 : TTape) (n2 : Int) : Option (List Bnd × TTape) :=
 obnd (Mwld_Tape_Next t1 (i64w (n2 + 1))) fun y3 =>
 obnd (
  Mwld_Tape_Cuts_l1 FU y3.2.l y3.2.at_ [] y3.1 : Option (List Bnd × List Int × Int)) fun (out38, x39, x40) =>
 some (out38, (TTape.mk x39 x40))
theorem Mwld_Tape_Cuts_sp {t1 : TTape} {n2 : Int} {y : (List Bnd × TTape)} (hm : Mwld_Tape_Cuts t1 n2 = some y) : Spec Tryz.prog 62 [.p 0 0, vI n2] [(0, some (.box 119 [.d (lst dsI t1.l), vI t1.at_]))] fun u h => u = .d (lst Bnd.ds y.1) ∧ h = [(0, some (.box 119 [.d (lst dsI y.2.l), vI y.2.at_]))] := by
 refine si Tryz.func62 Tryz.ntmps62 Tryz.results62 fun B w0 ρ0 => ?_
 unfold Mwld_Tape_Cuts at hm
 refine sr ?_
 refine sr ?_
 refine sr ?_
 refine wl_r (o_add rfl rfl rfl rfl) rfl rfl rfl ?_
 refine ss ?_
 obtain ⟨y3, hy, hm⟩ := obnd_o hm
 refine wl_iq (Mwld_Tape_Next_sp (hm := hy)) 0 ?_
 refine ss ?_
 obtain ⟨mu1, hm1, hm⟩ := obnd_o hm
 refine wc_cut' (fun st => ∃ (out38 : List Bnd) (x39 : List Int) (x40 : Int), mu1 = (out38, x39, x40) ∧ st = ⟨[(5, .d (lst Bnd.ds out38))], [(0, some (.box 119 [.d (lst dsI x39), vI x40]))]⟩) ?_ ?_
 ·refine wc_block ?_
  refine wc_loopw (fun κ st => ∃ (x4 : List Int) (x5 : Int) (out6 : List Bnd) (i7 : Int), Mwld_Tape_Cuts_l1 κ x4 x5 out6 i7 = some mu1 ∧ st = ⟨[(0, .p 0 0), (5, .d (lst Bnd.ds out6)), (6, vI i7)], [(0, some (.box 119 [.d (lst dsI x4), vI x5]))]⟩) [(0, 0)] ⟨_, _, _, _, hm1, rfl⟩ ?_
  rintro κ _ ⟨x4, x5, out6, i7, hm1, rfl⟩
  cases κ with
  | zero => rw [Mwld_Tape_Cuts_l1.eq_1] at hm1; cases hm1
  | succ κ =>
   rw [Mwld_Tape_Cuts_l1.eq_2] at hm1
   refine sr ?_
   obtain ⟨mu2, hm2, hm1⟩ := obnd_o hm1
   refine wc_cut' (fun st => mu2 = Ctl.nxt () ∧ st = ⟨[(0, .p 0 0), (5, .d (lst Bnd.ds out6)), (6, vI i7)], [(0, some (.box 119 [.d (lst dsI x4), vI x5]))]⟩) ?_ ?_
   ·refine wc_cs hm2 ?_ ?_ <;> clear hm2 <;> intro hm2
    ·refine sx ?_
     cases hm2
     exact wk_cutw [(0, 0)] ⟨rfl, rfl⟩
    refine wc_exit ?_
    refine ss ?_
    cases hm2
    replace hm1 := ocbnd_r hm1
    cases hm1
    exact wk_cutw [(0, 0)] ⟨_, _, _, rfl, rfl⟩
   rintro _ ⟨rfl, rfl⟩
   replace hm1 := ocbnd_n hm1
   refine ss ?_
   refine wc_seq ?_
   obtain ⟨mu2, hm2, hm1⟩ := obnd_o hm1
   refine wc_cut' (fun st => ∃ (x35 : List Int) (x36 : Int) (out37 : List Bnd), mu2 = (x35, x36, out37) ∧ st = ⟨[(0, .p 0 0), (5, .d (lst Bnd.ds out37)), (6, vI i7)], [(0, some (.box 119 [.d (lst dsI x35), vI x36]))]⟩) ?_ ?_
   ·refine sr ?_
    obtain ⟨y8, hy, hm2⟩ := obnd_o hm2
    refine wl_iq (Mwld_Tape_Bound_sp (hm := hy)) 0 ?_
    refine sr ?_
    refine wc_seq ?_
    obtain ⟨mu3, hm3, hm2⟩ := obnd_o hm2
    refine wc_cut' (fun st => ∃ (x15 : List Int) (x16 : Int) (k17 : Int), mu3 = (x15, x16, k17) ∧ st = ⟨[(0, .p 0 0), (5, .d (lst Bnd.ds out6)), (6, vI i7), (7, .p 107 0), (8, vI k17)], [(0, some (.box 119 [.d (lst dsI x15), vI x16])), (107, some (.box 40 [vS y8.1.key, vB y8.1.top]))]⟩) ?_ ?_
    ·refine wc_block ?_
     refine wc_loopw (fun κ st => ∃ (x9 : List Int) (x10 : Int) (k11 : Int), Mwld_Tape_Cuts_l2 out6 y8 κ x9 x10 k11 = some mu3 ∧ st = ⟨[(0, .p 0 0), (5, .d (lst Bnd.ds out6)), (6, vI i7), (7, .p 107 0), (8, vI k11)], [(0, some (.box 119 [.d (lst dsI x9), vI x10])), (107, some (.box 40 [vS y8.1.key, vB y8.1.top]))]⟩) [(0, 0), (107, 107)] ⟨_, _, _, hm3, rfl⟩ ?_
     rintro κ _ ⟨x9, x10, k11, hm3, rfl⟩
     cases κ with
     | zero => rw [Mwld_Tape_Cuts_l2.eq_1] at hm3; cases hm3
     | succ κ =>
      rw [Mwld_Tape_Cuts_l2.eq_2] at hm3
      refine wc_seq ?_
      refine wc_seq ?_
      refine wc_draw (id := 7) [⟨0, 0, [8]⟩, ⟨1, 1, [21]⟩, ⟨2, 3, [22]⟩, ⟨3, 7, [5, 23]⟩, ⟨4, 7, [8, 23]⟩, ⟨5, 23, [23, 25]⟩, ⟨6, 63, [23, 24, 26]⟩, ⟨7, 127, [23, 27]⟩, ⟨8, 7, [7, 23]⟩, ⟨9, 511, [23, 28, 29]⟩, ⟨10, 1023, [23, 30]⟩, ⟨11, 2047, [23, 31]⟩, ⟨12, 4095, [32]⟩, ⟨13, 8191, [0, 33]⟩, ⟨14, 16383, [33, 34]⟩, ⟨15, 32767, [33, 35]⟩, ⟨16, 65535, [33, 36]⟩] mixed (by kernel_rfl) ?_
      refine ss ?_
      refine wd_gp rfl rfl rfl rfl (fun h => ?_) (fun h => ?_)
      ·replace hm3 := sel_t h hm3
       refine ss ?_
       obtain ⟨e12, hy, hm3⟩ := obnd_o hm3
       refine wd_r [] (o_ixg (ys := [dS e12.key, dB e12.top]) hy rfl rfl rfl rfl) rfl (by first | exact .no rfl | exact .y rfl rfl rfl rfl) rfl rfl ?_
       refine ss ?_
       obtain ⟨y13, hy, hm3⟩ := bnd_o hm3
       refine wd_cs (Mref1_Compare_sp (hm := hy)) rfl rfl rfl (by repeat (first | exact Vws.nil | apply Vws.cons | exact Vw.nil | exact Vw.d _ | exact Vw.q _ | apply Vw.a)) rfl rfl (by first | exact .no rfl | exact .y rfl rfl rfl rfl) rfl rfl rfl ?_
       refine ss ?_
       refine wd_gp rfl rfl rfl rfl (fun h => ?_) (fun h => ?_)
       ·replace hm3 := sel_t h hm3
        refine ss ?_
        obtain ⟨y14, hy, hm3⟩ := obnd_o hm3
        refine wd_io (Mwld_Tape_Bool_sp (hm := hy)) 0 rfl rfl rfl (by repeat (first | exact Vws.nil | apply Vws.cons | exact Vw.nil | exact Vw.d _ | exact Vw.q _ | exact Vw.p rfl | apply Vw.a)) rfl (Vb.box (by repeat (first | exact Vws.nil | apply Vws.cons | exact Vw.nil | exact Vw.d _ | exact Vw.q _ | exact Vw.p rfl | apply Vw.a))) rfl rfl rfl (by first | exact .no rfl | exact .y rfl rfl rfl rfl) rfl rfl rfl rfl ?_
        refine ss ?_
        refine wc_cs hm3 ?_ ?_ <;> clear hm3 <;> intro hm3
        ·refine sx ?_
         refine sr ?_
         exact wk_loopw [(0, 0), (107, 107)] ⟨_, _, _, hm3, rfl⟩ (Nat.lt_succ_self _)
        refine wc_exit ?_
        refine ss ?_
        cases hm3
        exact wk_cutw [(0, 0), (107, 107)] ⟨_, _, _, rfl, rfl⟩
       replace hm3 := sel_f h hm3
       refine ss ?_
       refine wc_cond_f rfl ?_
       refine wc_exit ?_
       refine ss ?_
       cases hm3
       exact wk_cutw [(0, 0), (107, 107)] ⟨_, _, _, rfl, rfl⟩
      replace hm3 := sel_f h hm3
      refine ss ?_
      refine wc_cond_f rfl ?_
      refine wc_exit ?_
      refine ss ?_
      cases hm3
      exact wk_cutw [(0, 0), (107, 107)] ⟨_, _, _, rfl, rfl⟩
    rintro _ ⟨x15, x16, k17, rfl, rfl⟩
    refine ss ?_
    refine wc_seq ?_
    refine wc_seq ?_
    obtain ⟨mu3, hm3, hm2⟩ := obnd_o hm2
    refine wc_cut' (fun st => ∃ (x27 : List Int) (x28 : Int) (x29 : Bool), mu3 = (x27, x28, x29) ∧ st = ⟨[(0, .p 0 0), (5, .d (lst Bnd.ds out6)), (6, vI i7), (7, .p 107 0), (8, vI k17), (66, vB x29)], [(0, some (.box 119 [.d (lst dsI x27), vI x28])), (107, some (.box 40 [vS y8.1.key, vB y8.1.top]))]⟩) ?_ ?_
    ·refine wc_draw (id := 9) [⟨0, 0, [8]⟩, ⟨1, 1, [40]⟩, ⟨2, 3, [41]⟩, ⟨3, 7, [5, 42]⟩, ⟨4, 7, [8, 42]⟩, ⟨5, 23, [42, 44]⟩, ⟨6, 63, [42, 43, 45]⟩, ⟨7, 127, [42, 46]⟩, ⟨8, 7, [7, 42]⟩, ⟨9, 511, [42, 47, 48]⟩, ⟨10, 1023, [42, 49]⟩, ⟨11, 2047, [42, 50]⟩, ⟨12, 4095, [51]⟩, ⟨13, 8191, [0, 52]⟩, ⟨14, 16383, [52, 53]⟩, ⟨15, 32767, [52, 54]⟩, ⟨16, 65535, [52, 55]⟩, ⟨17, 131071, [56]⟩, ⟨18, 262143, [7, 57]⟩, ⟨19, 524287, [57, 58]⟩, ⟨20, 1048575, [57, 59]⟩, ⟨21, 2097151, [57, 60]⟩, ⟨22, 4194303, [0, 61]⟩, ⟨23, 8388607, [61, 62]⟩, ⟨24, 16777215, [61, 63]⟩, ⟨25, 33554431, [57, 61, 64]⟩, ⟨26, 67108863, [57, 65]⟩] mixed (by kernel_rfl) ?_
     refine ss ?_
     refine wd_gp rfl rfl rfl rfl (fun h => ?_) (fun h => ?_)
     ·replace hm3 := sel_t h hm3
      refine ss ?_
      obtain ⟨e18, hy, hm3⟩ := obnd_o hm3
      refine wd_r [] (o_ixg (ys := [dS e18.key, dB e18.top]) hy rfl rfl rfl rfl) rfl (by first | exact .no rfl | exact .y rfl rfl rfl rfl) rfl rfl ?_
      refine ss ?_
      obtain ⟨y19, hy, hm3⟩ := bnd_o hm3
      refine wd_cs (Mref1_Compare_sp (hm := hy)) rfl rfl rfl (by repeat (first | exact Vws.nil | apply Vws.cons | exact Vw.nil | exact Vw.d _ | exact Vw.q _ | apply Vw.a)) rfl rfl (by first | exact .no rfl | exact .y rfl rfl rfl rfl) rfl rfl rfl ?_
      refine ss ?_
      refine wd_gp rfl rfl rfl rfl (fun h => ?_) (fun h => ?_)
      ·replace hm3 := sel_t h hm3
       refine ss ?_
       obtain ⟨y20, hy, hm3⟩ := obnd_o hm3
       refine wd_io (Mwld_Tape_Bool_sp (hm := hy)) 0 rfl rfl rfl (by repeat (first | exact Vws.nil | apply Vws.cons | exact Vw.nil | exact Vw.d _ | exact Vw.q _ | exact Vw.p rfl | apply Vw.a)) rfl (Vb.box (by repeat (first | exact Vws.nil | apply Vws.cons | exact Vw.nil | exact Vw.d _ | exact Vw.q _ | exact Vw.p rfl | apply Vw.a))) rfl rfl rfl (by first | exact .no rfl | exact .y rfl rfl rfl rfl) rfl rfl rfl rfl ?_
       refine ss ?_
       refine wd_gp rfl rfl rfl rfl (fun h => ?_) (fun h => ?_)
       ·replace hm3 := sel_t h hm3
        refine ss ?_
        cases hm3
        exact wk_cutw [(0, 0), (107, 107)] ⟨_, _, _, rfl, rfl⟩
       replace hm3 := sel_f h hm3
       refine ss ?_
       obtain ⟨y21, hy, hm3⟩ := bnd_o hm3
       refine wd_cs (Mref1_ValidBound_sp (hm := hy)) rfl rfl rfl (by repeat (first | exact Vws.nil | apply Vws.cons | exact Vw.nil | exact Vw.d _ | exact Vw.q _ | apply Vw.a)) rfl rfl (by first | exact .no rfl | exact .y rfl rfl rfl rfl) rfl rfl rfl ?_
       refine ss ?_
       refine wd_gp rfl rfl rfl rfl (fun h => ?_) (fun h => ?_)
       ·replace hm3 := sel_t h hm3
        refine ss ?_
        obtain ⟨y22, hy, hm3⟩ := obnd_o hm3
        refine wd_io (Mwld_Tape_Bool_sp (hm := hy)) 0 rfl rfl rfl (by repeat (first | exact Vws.nil | apply Vws.cons | exact Vw.nil | exact Vw.d _ | exact Vw.q _ | exact Vw.p rfl | apply Vw.a)) rfl (Vb.box (by repeat (first | exact Vws.nil | apply Vws.cons | exact Vw.nil | exact Vw.d _ | exact Vw.q _ | exact Vw.p rfl | apply Vw.a))) rfl rfl rfl (by first | exact .no rfl | exact .y rfl rfl rfl rfl) rfl rfl rfl rfl ?_
        refine ss ?_
        cases hm3
        exact wk_cutw [(0, 0), (107, 107)] ⟨_, _, _, rfl, rfl⟩
       replace hm3 := sel_f h hm3
       refine ss ?_
       cases hm3
       exact wk_cutw [(0, 0), (107, 107)] ⟨_, _, _, rfl, rfl⟩
      replace hm3 := sel_f h hm3
      refine ss ?_
      obtain ⟨y23, hy, hm3⟩ := bnd_o hm3
      refine wd_cs (Mref1_ValidBound_sp (hm := hy)) rfl rfl rfl (by repeat (first | exact Vws.nil | apply Vws.cons | exact Vw.nil | exact Vw.d _ | exact Vw.q _ | apply Vw.a)) rfl rfl (by first | exact .no rfl | exact .y rfl rfl rfl rfl) rfl rfl rfl ?_
      refine ss ?_
      refine wd_gp rfl rfl rfl rfl (fun h => ?_) (fun h => ?_)
      ·replace hm3 := sel_t h hm3
       refine ss ?_
       obtain ⟨y24, hy, hm3⟩ := obnd_o hm3
       refine wd_io (Mwld_Tape_Bool_sp (hm := hy)) 0 rfl rfl rfl (by repeat (first | exact Vws.nil | apply Vws.cons | exact Vw.nil | exact Vw.d _ | exact Vw.q _ | exact Vw.p rfl | apply Vw.a)) rfl (Vb.box (by repeat (first | exact Vws.nil | apply Vws.cons | exact Vw.nil | exact Vw.d _ | exact Vw.q _ | exact Vw.p rfl | apply Vw.a))) rfl rfl rfl (by first | exact .no rfl | exact .y rfl rfl rfl rfl) rfl rfl rfl rfl ?_
       refine ss ?_
       cases hm3
       exact wk_cutw [(0, 0), (107, 107)] ⟨_, _, _, rfl, rfl⟩
      replace hm3 := sel_f h hm3
      refine ss ?_
      cases hm3
      exact wk_cutw [(0, 0), (107, 107)] ⟨_, _, _, rfl, rfl⟩
     replace hm3 := sel_f h hm3
     refine ss ?_
     obtain ⟨y25, hy, hm3⟩ := bnd_o hm3
     refine wd_cs (Mref1_ValidBound_sp (hm := hy)) rfl rfl rfl (by repeat (first | exact Vws.nil | apply Vws.cons | exact Vw.nil | exact Vw.d _ | exact Vw.q _ | apply Vw.a)) rfl rfl (by first | exact .no rfl | exact .y rfl rfl rfl rfl) rfl rfl rfl ?_
     refine ss ?_
     refine wd_gp rfl rfl rfl rfl (fun h => ?_) (fun h => ?_)
     ·replace hm3 := sel_t h hm3
      refine ss ?_
      obtain ⟨y26, hy, hm3⟩ := obnd_o hm3
      refine wd_io (Mwld_Tape_Bool_sp (hm := hy)) 0 rfl rfl rfl (by repeat (first | exact Vws.nil | apply Vws.cons | exact Vw.nil | exact Vw.d _ | exact Vw.q _ | exact Vw.p rfl | apply Vw.a)) rfl (Vb.box (by repeat (first | exact Vws.nil | apply Vws.cons | exact Vw.nil | exact Vw.d _ | exact Vw.q _ | exact Vw.p rfl | apply Vw.a))) rfl rfl rfl (by first | exact .no rfl | exact .y rfl rfl rfl rfl) rfl rfl rfl rfl ?_
      refine ss ?_
      cases hm3
      exact wk_cutw [(0, 0), (107, 107)] ⟨_, _, _, rfl, rfl⟩
     replace hm3 := sel_f h hm3
     refine ss ?_
     cases hm3
     exact wk_cutw [(0, 0), (107, 107)] ⟨_, _, _, rfl, rfl⟩
    rintro _ ⟨x27, x28, x29, rfl, rfl⟩
    refine ss ?_
    obtain ⟨mu3, hm3, hm2⟩ := obnd_o hm2
    refine wc_cut' (fun st => mu3 = Ctl.nxt () ∧ st = ⟨[(0, .p 0 0), (5, .d (lst Bnd.ds out6)), (6, vI i7), (7, .p 107 0), (8, vI k17)], [(0, some (.box 119 [.d (lst dsI x27), vI x28])), (107, some (.box 40 [vS y8.1.key, vB y8.1.top]))]⟩) ?_ ?_
    ·refine wc_cs hm3 ?_ ?_ <;> clear hm3 <;> intro hm3
     ·refine wc_exit ?_
      refine ss ?_
      cases hm3
      replace hm2 := ocbnd_r hm2
      cases hm2
      exact wk_cutw [(0, 0)] ⟨_, _, _, rfl, rfl⟩
     refine sx ?_
     cases hm3
     exact wk_cutw [(0, 0), (107, 107)] ⟨rfl, rfl⟩
    rintro _ ⟨rfl, rfl⟩
    replace hm2 := ocbnd_n hm2
    refine ss ?_
    refine wc_draw (id := 10) [⟨0, 0, [5]⟩, ⟨1, 0, [8]⟩, ⟨2, 3, [67, 68]⟩, ⟨3, 7, [69]⟩, ⟨4, 0, [7]⟩, ⟨5, 16, [71]⟩, ⟨6, 63, [70, 72]⟩, ⟨7, 0, [5]⟩, ⟨8, 0, [8]⟩, ⟨9, 384, [74, 75]⟩, ⟨10, 1023, [73, 76]⟩, ⟨11, 2047, [77]⟩] mixed (by kernel_rfl) ?_
    refine ss ?_
    obtain ⟨l30, hy, hm2⟩ := obnd_o hm2
    refine wd_r [] (o_lsl hy rfl rfl rfl rfl) rfl (by first | exact .no rfl | exact .y rfl rfl rfl rfl) rfl rfl ?_
    refine ss ?_
    obtain ⟨l31, hy, hm2⟩ := obnd_o hm2
    refine wd_1 [] (n_appn (k := 170) hy rfl rfl rfl rfl rfl rfl) rfl (by first | exact .no rfl | exact .y rfl rfl rfl rfl) rfl rfl rfl ?_
    refine ss ?_
    refine wd_bt Bnd.ds [y8.1] rfl rfl (by simp only [flatV, cellsV, List.cons_append, List.nil_append, List.append_nil]; exact rfl) rfl rfl rfl rfl (by first | exact .no rfl | exact .y rfl rfl rfl rfl) rfl rfl ?_
    refine ss ?_
    obtain ⟨l32, hy, hm2⟩ := obnd_o hm2
    refine wd_app (k' := 173) hy rfl rfl rfl rfl rfl rfl rfl rfl (by first | exact .no rfl | exact .y rfl rfl rfl rfl) rfl rfl rfl ?_
    refine ss ?_
    obtain ⟨l33, hy, hm2⟩ := obnd_o hm2
    refine wd_r [] (o_lsl hy rfl rfl rfl rfl) rfl (by first | exact .no rfl | exact .y rfl rfl rfl rfl) rfl rfl ?_
    refine ss ?_
    obtain ⟨l34, hy, hm2⟩ := obnd_o hm2
    refine wd_app (k' := 177) hy rfl rfl rfl rfl rfl rfl rfl rfl (by first | exact .no rfl | exact .y rfl rfl rfl rfl) rfl rfl rfl ?_
    refine ss ?_
    cases hm2
    exact wk_cutw [(0, 0)] ⟨_, _, _, rfl, rfl⟩
   rintro _ ⟨x35, x36, out37, rfl, rfl⟩
   refine sr ?_
   exact wk_loopw [(0, 0)] ⟨_, _, _, _, hm1, rfl⟩ (Nat.lt_succ_self _)
 rintro _ ⟨out38, x39, x40, rfl, rfl⟩
 refine sr ?_
 refine sx ?_
 cases hm
 exact wk_reti [(0, 0)] ⟨rfl, rfl⟩

end Go.Proofs.YtlbnhhfaedhgfaaGreatDoor
