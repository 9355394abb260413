/-
  Lemmas: Contracts: a row put into a table; the tape's tables. / Plain laws of the models: the tape's tables and queries. / Plain laws of the models: what is wrong with a query, its ranges.
-/
import Derived.Test.YtlbnhhfaedhgfaaGreatDoorPR10
import Derived.Test.YtlbnhhfaedhgfaaGreatDoorPR9
import Derived.Test.YtlbnhhfaedhgfaaGreatDoorPR19
namespace Go.Proofs.YtlbnhhfaedhgfaaGreatDoor
set_option linter.unusedSimpArgs false
set_option linter.unusedVariables false
open Go.RowKit
attribute [local irreducible] tpb
def ins (x : Kv) : List Kv → List Kv
  | [] => [x]
  | r :: t => if bl x.key r.key then x :: r :: t else r :: ins x t
def wthout (k : ByteArray) (l : List Kv) : List Kv := l.filter fun r => !decide (r.key = k)
def wth (x : Kv) (l : List Kv) : List Kv := ins x (wthout x.key l)
theorem ins_len (x : Kv) (l : List Kv) : (ins x l).length = l.length + 1 := by
  induction l with
  | nil => rfl
  | cons r t ih => simp only [ins]; split <;> simp [ih]
theorem wth_len (x : Kv) (l : List Kv) : (wth x l).length ≤ l.length + 1 := by
  rw [wth, ins_len]; have := List.length_filter_le (fun r : Kv => !decide (r.key = x.key)) l; unfold wthout; omega
attribute [local irreducible] WK WC WL Wk Rel OpD OpV WD WO Op.bytesLess cmp vk vb vld emp contains
def put (x : Kv) (l : List Kv) : List Kv × Int := if tvalid l && vrow x then (if 1024 < (wth x l).length then ([], 16) else (wth x l, 0)) else ([], 1)
theorem tvalid_one (x : Kv) : tvalid [x] = vrow x := by
  simp [tvalid, okAt, List.range_succ]
theorem tvalid_iff (l : List Kv) : tvalid l = true ↔ l.length ≤ 1024 ∧ (∀ r ∈ l, vrow r = true) ∧ l.Pairwise (fun a b => bl a.key b.key = true) := by
  constructor
  · intro h
    simp only [tvalid, Bool.and_eq_true, decide_eq_true_eq, List.all_eq_true, List.mem_range] at h
    obtain ⟨h0, h⟩ := h
    have h' : ∀ m (hm : m < l.length), vrow l[m] = true ∧ (m = 0 ∨ bl (l[m - 1]'(by omega)).key l[m].key = true) := fun m hm => by
      have := h m hm
      rw [okAt_eq hm] at this
      simpa using this
    refine ⟨h0, fun r hr => ?_, ?_⟩
    · obtain ⟨m, hm, rfl⟩ := List.mem_iff_getElem.1 hr
      exact (h' m hm).1
    · rw [List.pairwise_iff_getElem]
      intro i j hi hj hij
      obtain ⟨d, rfl⟩ := Nat.exists_eq_add_of_lt hij
      induction d with
      | zero => simpa using (h' (i + 0 + 1) hj).2
      | succ d ih =>
        have h1 := ih (by omega) (by omega)
        have h2 := (h' (i + (d + 1) + 1) hj).2
        simp only [Nat.add_eq_zero_iff, Nat.one_ne_zero, and_false, false_or, Nat.add_sub_cancel] at h2
        exact bytesLess_trans h1 h2
  · rintro ⟨h0, h1, h2⟩
    refine tvalid_t h0 fun j hj => ?_
    rw [okAt_eq hj, h1 _ (List.getElem_mem _)]
    rw [List.pairwise_iff_getElem] at h2
    by_cases e : j = 0
    · simp [e]
    · simp [h2 (j - 1) j (by omega) hj (by omega)]
theorem ins_mem {x r : Kv} {l : List Kv} : r ∈ ins x l ↔ r = x ∨ r ∈ l := by
  induction l with
  | nil => simp [ins]
  | cons a t ih => simp only [ins]; split <;> simp [ih]; grind
theorem ins_pw {x : Kv} {l : List Kv} (h : l.Pairwise (fun a b => bl a.key b.key = true)) (hx : ∀ r ∈ l, r.key ≠ x.key) : (ins x l).Pairwise (fun a b => bl a.key b.key = true) := by
  induction l with
  | nil => simp [ins]
  | cons a t ih =>
    rw [List.pairwise_cons] at h
    simp only [ins]
    split
    · rename_i hb
      rw [List.pairwise_cons]
      refine ⟨fun b hb' => ?_, List.pairwise_cons.2 h⟩
      rcases List.mem_cons.1 hb' with rfl | hb'
      · exact hb
      · exact bytesLess_trans hb (h.1 b hb')
    · rename_i hb
      rw [List.pairwise_cons]
      refine ⟨fun b hb' => ?_, ih h.2 fun r hr => hx r (List.mem_cons_of_mem _ hr)⟩
      rcases ins_mem.1 hb' with rfl | hb'
      · cases hba : bl a.key b.key with
        | true => rfl
        | false => 
          have := bytesLess_total (by simpa using hb) hba
          have h3 := hx a List.mem_cons_self
          exfalso; apply h3
          have h4 := ba_eqE b.key a.key
          simp only [this, BEq.rfl] at h4
          exact (of_decide_eq_true h4.symm).symm
      · exact h.1 b hb'
theorem put_valid {x : Kv} {l : List Kv} (h : tvalid l = true) (hx : vrow x = true) (hl : l.length < 1024) : put x l = (wth x l, 0) ∧ tvalid (wth x l) = true ∧ (wth x l).length ≤ l.length + 1 := by
  have h1 := wth_len x l
  refine ⟨by simp only [put, h, hx, Bool.and_self, if_true]; rw [if_neg (by omega)], ?_, h1⟩
  rw [tvalid_iff] at h ⊢
  obtain ⟨g0, g1, g2⟩ := h
  refine ⟨by omega, fun r hr => ?_, ins_pw (List.Pairwise.filter _ g2) fun r hr => by simpa using (List.mem_filter.1 hr).2⟩
  rcases ins_mem.1 hr with rfl | hr
  · exact hx
  · exact g1 r (List.mem_filter.1 hr).1
theorem contains_lo {r : Rng} (h : emp r = false) : contains r r.lo.key = true := by
  obtain ⟨⟨a, s⟩, ⟨b, t⟩⟩ := r
  have hi := bytesLess_irrefl a.toList
  simp only [emp, contains, vld, vb, vk, cmp, Bnd.lt] at *
  cases s <;> cases t <;> simp_all <;> grind
end Go.Proofs.YtlbnhhfaedhgfaaGreatDoor
namespace Go.Proofs.YtlbnhhfaedhgfaaGreatDoor
set_option linter.unusedSimpArgs false
set_option linter.unusedVariables false
open Go.RowKit
theorem eq_ref20_without_l1 (k : ByteArray) : ∀ (t out : List Kv), t.length + out.length ≤ 4294967296 → Mref20_without_l1 k t out = some (out ++ wthout k t)
  | [], out, _ => by simp [Mref20_without_l1, wthout]
  | x :: t, out, h => by
    simp only [List.length_cons] at h
    rw [Mref20_without_l1.eq_2, sel_ite]
    by_cases hk : x.key = k
    · rw [if_neg (by simp [hk]), eq_ref20_without_l1 k t out (by omega)]; simp [wthout, hk]
    · rw [if_pos (by simp [hk]), app_le (by simp; omega), obnd_some, eq_ref20_without_l1 k t _ (by simp; omega)]; simp [wthout, hk]
theorem eq_ref20_without (k : ByteArray) (t : List Kv) (h : t.length ≤ 4294967296) : Mref20_without t k = some (wthout k t) := by
  rw [Mref20_without, eq_ref20_without_l1 k t [] (by simpa using h), obnd_some]; rfl
theorem eq_ref20_with_l1 (x : Kv) : ∀ (t out : List Kv) (d : Bool), 2 * t.length + out.length + 1 ≤ 4294967296 → ∃ d', Mref20_with_l1 x t out d = some (out ++ (if d then t else (ins x t).take (t.length + d'.toNat)), d') ∧ (d = true → d' = true) ∧ (d = false → d' = false → ins x t = t ++ [x]) := by
  intro t
  induction t with
  | nil =>
    intro out d _
    exact ⟨d, by cases d <;> simp [Mref20_with_l1, ins], fun h => h, fun _ _ => rfl⟩
  | cons r t ih =>
    intro out d h
    simp only [List.length_cons] at h
    rw [Mref20_with_l1.eq_2]
    cases d with
    | true =>
      rw [show (!true) = false from rfl, sel_false, obnd_some, sel_false, app_le (by simp; omega), obnd_some]
      obtain ⟨d', e, h1, h2⟩ := ih (out ++ [r]) true (by simp; omega)
      exact ⟨d', by rw [e]; simp, h1, (fun h => by cases h)⟩
    | false =>
      rw [show (!false) = true from rfl, sel_true, obnd_some, sel_ite]
      by_cases hb : bl x.key r.key = true
      · rw [if_pos hb, app_le (by simp; omega), obnd_some, app_le (by simp; omega), obnd_some]
        obtain ⟨d', e, h1, h2⟩ := ih (out ++ [x] ++ [r]) true (by simp; omega)
        obtain rfl := h1 rfl
        exact ⟨true, by rw [e]; simp [ins, hb], fun _ => rfl, (fun _ h => by cases h)⟩
      · rw [if_neg hb, app_le (by simp; omega), obnd_some]
        obtain ⟨d', e, h1, h2⟩ := ih (out ++ [r]) false (by simp; omega)
        refine ⟨d', ?_, (fun h => by cases h), fun _ h3 => ?_⟩
        · rw [e]; simp [ins, hb, Nat.add_right_comm]
        · simp [ins, hb, h2 rfl h3]
theorem eq_ref20_with (x : Kv) (t : List Kv) (h : 2 * t.length + 10 ≤ 4294967296) : Mref20_with t x = some (wth x t) := by
  have hw : (wthout x.key t).length ≤ t.length := List.length_filter_le _ _
  rw [Mref20_with, eq_ref20_without _ _ (by omega), obnd_some]
  obtain ⟨d', e, h1, h2⟩ := eq_ref20_with_l1 x (wthout x.key t) [] false (by simp; omega)
  rw [e, obnd_some]
  cases d' with
  | true =>
    simp only [Bool.not_true, sel_false, Bool.false_eq_true, if_false, List.nil_append, wth]
    rw [List.take_of_length_le (by rw [ins_len]; simp)]
  | false =>
    simp only [Bool.not_false, sel_true, Bool.false_eq_true, if_false, List.nil_append]
    have hi := h2 rfl rfl
    rw [hi]
    rw [app_le (by simp; omega), obnd_some, wth, hi]
    simp
theorem okAt_cons (t : List Kv) (m : Nat) (r : Kv) (h : t[m]? = some r) : okAt t m = (vrow r && (m == 0 || match t[m - 1]? with | some x => bl x.key r.key | none => false)) := by
  have h2 := (List.getElem?_eq_some_iff.1 h)
  obtain ⟨h3, rfl⟩ := h2
  rw [okAt_eq h3]
  cases m with
  | zero => simp
  | succ m =>
    have : t[m]? = some t[m] := List.getElem?_eq_getElem (by omega)
    simp [this]
theorem drop_get {α : Type} {t xs : List α} {m : Nat} {r : α} (h : t.drop m = r :: xs) : t[m]? = some r ∧ t.drop (m + 1) = xs := by
  constructor
  · rw [← List.head?_drop, h]; rfl
  · rw [← List.tail_drop, h]; rfl
theorem range_all (n m : Nat) (f : Nat → Bool) (h : m < n) : ((List.range' m (n - m)).all f) = (f m && (List.range' (m + 1) (n - (m + 1))).all f) := by
  obtain ⟨k, rfl⟩ := Nat.exists_eq_add_of_lt h
  rw [show m + k + 1 - m = k + 1 by omega, show m + k + 1 - (m + 1) = k by omega, List.range'_succ]
  rfl
theorem eq_ref20_Valid_l1 (t : List Kv) (ht : t.length ≤ 1024) : ∀ (xs : List Kv) (m : Nat), t.drop m = xs → m ≤ t.length → Mref20_Valid_l1 t xs (m : Int) = some (sel ((List.range' m (t.length - m)).all (okAt t)) (.nxt ()) (.ret false))
  | [], m, h, hm => by
    have : t.length - m = 0 := by have := congrArg List.length h; simpa using this
    simp [Mref20_Valid_l1, this, sel_true]
  | r :: xs, m, h, hm => by
    obtain ⟨h1, h2⟩ := drop_get h
    have h3 := (List.getElem?_eq_some_iff.1 h1).1
    have ih := eq_ref20_Valid_l1 t ht xs (m + 1) h2 h3
    rw [Mref20_Valid_l1.eq_2, bnd_eq, range_all _ _ _ h3, okAt_cons t m r h1, eq_ref1_ValidKey, vrow, show (m : Int) + 1 = ((m + 1 : Nat) : Int) by omega, ih]
    have hsz : decide (64 < (r.val.size : Int)) = !decide (r.val.size ≤ 64) := by
      by_cases h : r.val.size ≤ 64
      · have : ¬ 64 < (r.val.size : Int) := by omega
        simp [h, this]
      · have : 64 < (r.val.size : Int) := by omega
        simp [h, this]
    rw [hsz]
    cases vk r.key with
    | false => rfl
    | true =>
      cases decide (r.val.size ≤ 64) with
      | false => rfl
      | true =>
        cases m with
        | zero => rfl
        | succ m =>
          have e1 : i64w (((m + 1 : Nat) : Int) - 1) = (m : Int) := by rw [i64w_id (by omega) (by omega)]; omega
          have e2 : decide ((0 : Int) < ((m + 1 : Nat) : Int)) = true := decide_eq_true (by omega)
          have e3 : t[m + 1 - 1]? = some t[m] := List.getElem?_eq_getElem (by omega)
          rw [e1, e2, e3, lget_nat, List.getElem?_eq_getElem (show m < t.length by omega), obnd_some]
          have e4 : (m + 1 == 0) = false := rfl
          rw [e4]
          simp only
          cases bl t[m].key r.key <;> rfl
theorem eq_ref20_Valid (t : List Kv) : Mref20_Valid t = some (tvalid t) := by
  unfold Mref20_Valid
  rw [sel_ite]
  by_cases h : t.length ≤ 1024
  · rw [if_neg (by simp; omega)]
    have := eq_ref20_Valid_l1 t h t 0 rfl (Nat.zero_le _)
    rw [show ((0 : Nat) : Int) = 0 from rfl] at this
    rw [this, obnd_some, tvalid, List.range_eq_range']
    simp only [Nat.sub_zero, h, decide_true, Bool.true_and]
    cases (List.range' 0 t.length).all (okAt t) <;> rfl
  · rw [if_pos (by simp; omega)]
    simp [tvalid, h]
theorem eq_ref20_Put (t : List Kv) (x : Kv) (h : t.length ≤ 100000) : Mref20_Put t x = some (put x t) := by
  unfold Mref20_Put
  simp only [eq_ref20_Valid, obnd_some, tvalid_one, put]
  cases tvalid t with
  | false => rfl
  | true =>
    cases vrow x with
    | false => rfl
    | true =>
      simp only [Bool.not_true, sel_false, obnd_some, Bool.and_self, if_true]
      rw [eq_ref20_with x t (by omega), obnd_some, sel_ite]
      by_cases hh : 1024 < (wth x t).length
      · rw [if_pos (by simp; omega), if_pos hh]
      · rw [if_neg (by simp; omega), if_neg hh]
theorem contains_vk {r : Rng} {k : ByteArray} (h : contains r k = true) : vk k = true := by
  simp only [contains, Bool.and_eq_true] at h; exact h.1.1.2
theorem keyIn_l1_ok (r : Rng) : ∀ (fuel : Nat) (l : List Int) (a i : Int), okT ⟨l, a⟩ → 0 ≤ i → i ≤ 4 → (4 - i).toNat < fuel → ∃ c, Mwld_Tape_KeyIn_l1 r fuel l a i = some c ∧ ((∃ k τ', c = .ret (k, τ') ∧ okT τ' ∧ contains r k = true) ∨ ∃ l' a', c = .nxt (l', a') ∧ okT ⟨l', a'⟩)
  | 0, _, _, _, _, _, _, h => absurd h (by omega)
  | fuel + 1, l, a, i, h, h0, h4, hf => by
    rw [Mwld_Tape_KeyIn_l1.eq_2, sel_ite]
    by_cases hi : i < 4
    · rw [if_pos (by simpa using hi), obnd_some, ocbnd_nxt]
      obtain ⟨k, τ1, e1, h1, hk⟩ := key_ok h
      rw [e1, obnd_some, bnd_eq, eq_ref1_Contains, sel_ite]
      split
      · exact ⟨_, rfl, .inl ⟨_, _, rfl, h1, by assumption⟩⟩
      · rw [i64w_id (by omega) (by omega)]
        exact keyIn_l1_ok r fuel _ _ _ h1 (by omega) (by omega) (by omega)
    · rw [if_neg (by simpa using hi), obnd_some, ocbnd_ret]
      exact ⟨_, rfl, .inr ⟨_, _, rfl, h⟩⟩
theorem keyIn_ok {τ : TTape} (h : okT τ) (r : Rng) (hr : emp r = false) : ∃ k τ', Mwld_Tape_KeyIn τ r = some (k, τ') ∧ okT τ' ∧ contains r k = true := by
  obtain ⟨c, e, hc⟩ := keyIn_l1_ok r FU τ.l τ.at_ 0 h (by omega) (by omega) (by unfold FU; omega)
  unfold Mwld_Tape_KeyIn
  rw [e, obnd_some]
  rcases hc with ⟨k, τ', rfl, h1, h2⟩ | ⟨l', a', rfl, h1⟩
  · exact ⟨_, _, rfl, h1, h2⟩
  · exact ⟨_, _, rfl, h1, contains_lo hr⟩
theorem rowsIn_l1_ok (r : Rng) (hr : emp r = false) : ∀ (fuel : Nat) (l : List Int) (a : Int) (out : List Kv) (i : Int), okT ⟨l, a⟩ → i.toNat < fuel → tvalid out = true → (∀ x ∈ out, contains r x.key = true) → (out.length : Int) + max i 0 ≤ 1000 →
    ∃ t l' a', Mwld_Tape_RowsIn_l1 r fuel l a out i = some (t, l', a') ∧ okT ⟨l', a'⟩ ∧ tvalid t = true ∧ (∀ x ∈ t, contains r x.key = true) ∧ (t.length : Int) ≤ out.length + max i 0
  | 0, _, _, _, _, _, h, _, _, _ => absurd h (by omega)
  | fuel + 1, l, a, out, i, h, hf, hv, hx, hl => by
    rw [Mwld_Tape_RowsIn_l1.eq_2, sel_ite]
    by_cases hi : 0 < i
    · rw [if_pos (by simpa using hi), obnd_some, ocbnd_nxt]
      obtain ⟨k, τ1, e1, h1, hk⟩ := keyIn_ok h r hr
      obtain ⟨v, τ2, e2, h2, hv2⟩ := value_ok h1
      rw [e1, obnd_some]; simp only; rw [e2, obnd_some]; simp only
      obtain ⟨g1, g2, g3⟩ := put_valid (x := ⟨k, v⟩) hv (by simp [vrow, contains_vk hk, hv2]) (by omega)
      rw [eq_ref20_Put _ _ (by omega), obnd_some, g1, i64w_id (by omega) (by omega)]
      have hmem : ∀ x ∈ wth ⟨k, v⟩ out, contains r x.key = true := fun x hxm => by
        rcases ins_mem.1 hxm with rfl | hxm
        · exact hk
        · exact hx x (List.mem_filter.1 hxm).1
      obtain ⟨t, l', a', e, q1, q2, q3, q4⟩ := rowsIn_l1_ok r hr fuel τ2.l τ2.at_ (wth ⟨k, v⟩ out) (i - 1) h2 (by omega) g2 hmem (by omega)
      exact ⟨t, l', a', e, q1, q2, q3, by omega⟩
    · rw [if_neg (by simpa using hi), obnd_some, ocbnd_ret]
      exact ⟨_, _, _, rfl, h, hv, hx, by omega⟩
theorem rowsIn_ok {τ : TTape} (h : okT τ) (r : Rng) (n : Int) (h0 : 0 ≤ n) (hn : n ≤ 900) : ∃ t τ', Mwld_Tape_RowsIn τ r n = some (t, τ') ∧ okT τ' ∧ tvalid t = true ∧ (∀ x ∈ t, contains r x.key = true) ∧ (t.length : Int) ≤ n := by
  unfold Mwld_Tape_RowsIn
  rw [bnd_eq, eq_ref1_Empty, sel_ite]
  split
  · exact ⟨_, _, rfl, h, by kernel_rfl, by simp, by simpa using h0⟩
  · rename_i hr
    rw [i64w_id (by omega) (by omega)]
    obtain ⟨x, τ1, e1, h1, hx⟩ := next_ok h (n + 1) (by omega)
    unfold Cho at hx
    rw [e1, obnd_some]; simp only
    obtain ⟨t, l', a', e, q1, q2, q3, q4⟩ := rowsIn_l1_ok r (by simpa using hr) FU τ1.l τ1.at_ [] x h1 (by unfold FU; omega) (by kernel_rfl) (by simp) (by simp; omega)
    rw [e, obnd_some]
    simp at q4
    exact ⟨t, _, rfl, q1, q2, q3, by omega⟩
theorem rows_ok {τ : TTape} (h : okT τ) (n : Int) (h0 : 0 ≤ n) (hn : n ≤ 900) : ∃ t τ', Mwld_Tape_Rows τ n = some (t, τ') ∧ okT τ' ∧ tvalid t = true ∧ (t.length : Int) ≤ n := by
  unfold Mwld_Tape_Rows
  obtain ⟨t, τ', e, q1, q2, -, q4⟩ := rowsIn_ok h Mwld_All n h0 hn
  rw [bnd_eq, e, obnd_some]
  exact ⟨_, _, rfl, q1, q2, q4⟩
theorem query_l1_ok : ∀ (fuel : Nat) (l : List Int) (a : Int) (q : List Rng) (i : Int), okT ⟨l, a⟩ → (i + 1).toNat < fuel → -1 ≤ i → (q.length : Int) + i ≤ 100 → (∀ r ∈ q, emp r = false) → ∃ q' l' a', Mwld_Tape_Query_l1 fuel l a q i = some (q', l', a') ∧ okT ⟨l', a'⟩ ∧ (q'.length : Int) = q.length + i + 1 ∧ ∀ r ∈ q', emp r = false
  | 0, _, _, _, _, _, h, _, _, _ => absurd h (by omega)
  | fuel + 1, l, a, q, i, h, hf, h1, hl, he => by
    rw [Mwld_Tape_Query_l1.eq_2, sel_ite]
    by_cases hi : 0 ≤ i
    · rw [if_pos (by simpa using hi), obnd_some, ocbnd_nxt]
      obtain ⟨r, τ1, e1, g1, hr⟩ := proper_ok h
      rw [e1, obnd_some, app_le (by simp; omega), obnd_some, i64w_id (by omega) (by omega)]
      obtain ⟨q', l', a', e, k1, k2, k3⟩ := query_l1_ok fuel τ1.l τ1.at_ (q ++ [r]) (i - 1) g1 (by omega) (by omega) (by simp; omega) (fun x hx => by
        rcases List.mem_append.1 hx with hx | hx
        · exact he x hx
        · rw [List.mem_singleton.1 hx]; exact hr)
      exact ⟨q', l', a', e, k1, by rw [k2]; simp; omega, k3⟩
    · rw [if_neg (by simpa using hi), obnd_some, ocbnd_ret]
      exact ⟨_, _, _, rfl, h, by omega, he⟩
def qok (q : TQuery) : Prop := qchk q.Kind q.Ranges q.Key q.Count = 0 ∧ q.Ranges.length ≤ 4 ∧ 0 ≤ q.Count ∧ q.Count ≤ 1024 ∧ q.Key.size ≤ 64
theorem query_ok {τ : TTape} (h : okT τ) : ∃ q τ', Mwld_Tape_Query τ = some (q, τ') ∧ okT τ' ∧ qok q := by
  unfold Mwld_Tape_Query
  obtain ⟨x, τ1, e1, h1, hx⟩ := next_ok h 4 (by omega)
  unfold Cho at hx
  rw [e1, obnd_some]; simp only
  rw [i64w_id (by omega) (by omega), sel_ite]
  by_cases c1 : 1 + x = 1
  · rw [if_pos (by simpa using c1)]
    obtain ⟨y, τ2, e2, h2, hy⟩ := next_ok h1 4 (by omega)
    unfold Cho at hy
    rw [e2, obnd_some]; simp only
    obtain ⟨q', l', a', e, k1, k2, k3⟩ := query_l1_ok FU τ2.l τ2.at_ [] y h2 (by unfold FU; omega) (by omega) (by simp; omega) (by simp)
    rw [e, obnd_some, obnd_some]
    simp at k2
    exact ⟨_, _, rfl, k1, by rw [c1]; exact qmade_1 (l := q') k3 (by omega)⟩
  · rw [if_neg (by simpa using c1), sel_ite]
    by_cases c2 : 1 + x = 2
    · rw [if_pos (by simpa using c2)]
      obtain ⟨k, τ2, e2, h2, hk⟩ := key_ok h1
      rw [e2, obnd_some, obnd_some]
      exact ⟨_, _, rfl, h2, by rw [c2]; exact qmade_2 hk⟩
    · rw [if_neg (by simpa using c2)]
      obtain ⟨k, τ2, e2, h2, hk⟩ := key_ok h1
      obtain ⟨c, τ3, e3, h3, hc⟩ := pick_ok h2 [1, 2, 3, 5, 1024] (by decide) (by decide)
      rw [e2, obnd_some]; simp only; rw [e3, obnd_some, obnd_some]
      exact ⟨_, _, rfl, h3, qmade_3 (k := 1 + x) (by omega) hk hc⟩
end Go.Proofs.YtlbnhhfaedhgfaaGreatDoor
namespace Go.Proofs.YtlbnhhfaedhgfaaGreatDoor
set_option linter.unusedSimpArgs false
set_option linter.unusedVariables false
open Go.RowKit
theorem eq_ref22_Check_l1 : ∀ l : List Rng, Mref22_Check_l1 l = sel (l.all vld) (.nxt ()) (.ret 1)
  | [] => rfl
  | r :: l => by
    rw [Mref22_Check_l1.eq_2, bnd_eq, eq_ref1_Valid, eq_ref22_Check_l1 l, List.all_cons]
    cases vld r <;> rfl
theorem eq_ref22_Check (q : TQuery) : Mref22_Check q = qchk q.Kind q.Ranges q.Key q.Count := by
  obtain ⟨k, l, key, c⟩ := q
  unfold Mref22_Check qchk
  simp only [bnd_eq, eq_ref22_Check_l1, eq_ref1_ValidKey, sel_ite, decide_eq_true_eq, Bool.not_eq_true', decide_eq_false_iff_not]
  by_cases a1 : k < 1 ∨ 4 < k
  · rcases a1 with a1 | a1
    · simp [a1]
    · have : ¬ k < 1 := by omega
      simp [a1, this]
  have b1 : ¬ k < 1 := by omega
  have b2 : ¬ 4 < k := by omega
  by_cases a2 : 64 < l.length
  · have : 64 < (l.length : Int) := by omega
    simp [b1, b2, a2, this]
  have b3 : ¬ 64 < (l.length : Int) := by omega
  cases hv : l.all vld with
  | false => simp [b1, b2, a2, b3, hv, cbnd_ret]
  | true =>
    simp only [b1, b2, a2, b3, hv, if_true, if_false, cbnd_nxt, Bool.false_eq_true, or_self, decide_false]
    have hl : (0 < (l.length : Int)) ↔ 0 < l.length := by omega
    by_cases h1 : vk key = false
    · simp [h1]
    · have h1' : vk key = true := by simpa using h1
      by_cases h2 : 0 < l.length <;> by_cases h3 : k = 1 <;> by_cases h4 : key = ⟨#[]⟩ <;> by_cases h5 : k = 3 <;> by_cases h6 : k = 4 <;> first
        | (exfalso; omega)
        | (simp [h1', h2, h3, h4, h5, h6] <;> (repeat' split) <;> first | rfl | omega | (simp_all; done) | (simp_all; omega))
theorem eq_ranges (q : TQuery) (h : q.Ranges.length < 1000000) : Mquery_Ranges q = some (qranges q.Kind q.Ranges q.Key q.Count) ∧ Mref22_Ranges q = some (qranges q.Kind q.Ranges q.Key q.Count) := ⟨if_pos h, if_pos h⟩
theorem eq_table_validRow (r : Kv) : Mtable_validRow r = vrow r := by
  unfold Mtable_validRow
  rw [bnd_eq, eq_keyspace_ValidKey, sel_and, vrow]
  congr 1
  simp; omega
theorem eq_table_Valid_l1 (t : List Kv) (ht : t.length ≤ 1024) : ∀ (xs : List Kv) (m : Nat), t.drop m = xs → m ≤ t.length → Mtable_Valid_l1 t xs (m : Int) = some (sel ((List.range' m (t.length - m)).all (okAt t)) (.nxt ()) (.ret false))
  | [], m, h, hm => by
    have : t.length - m = 0 := by have := congrArg List.length h; simpa using this
    simp [Mtable_Valid_l1, this, sel_true]
  | r :: xs, m, h, hm => by
    obtain ⟨h1, h2⟩ := drop_get h
    have h3 := (List.getElem?_eq_some_iff.1 h1).1
    have ih := eq_table_Valid_l1 t ht xs (m + 1) h2 h3
    rw [Mtable_Valid_l1.eq_2, bnd_eq, range_all _ _ _ h3, okAt_cons t m r h1, eq_table_validRow, show (m : Int) + 1 = ((m + 1 : Nat) : Int) by omega, ih]
    cases vrow r with
    | false => rfl
    | true =>
      cases m with
      | zero => rfl
      | succ m =>
        have e1 : i64w (((m + 1 : Nat) : Int) - 1) = (m : Int) := by rw [i64w_id (by omega) (by omega)]; omega
        have e2 : decide ((0 : Int) < ((m + 1 : Nat) : Int)) = true := decide_eq_true (by omega)
        have e3 : t[m + 1 - 1]? = some t[m] := List.getElem?_eq_getElem (by omega)
        rw [e1, e2, e3, lget_nat, List.getElem?_eq_getElem (show m < t.length by omega), obnd_some]
        have e4 : (m + 1 == 0) = false := rfl
        rw [e4]
        simp only
        cases bl t[m].key r.key <;> rfl
theorem eq_table_Valid (t : List Kv) : Mtable_Valid t = some (tvalid t) := by
  unfold Mtable_Valid
  rw [sel_ite]
  by_cases h : t.length ≤ 1024
  · rw [if_neg (by simp; omega)]
    have := eq_table_Valid_l1 t h t 0 rfl (Nat.zero_le _)
    rw [show ((0 : Nat) : Int) = 0 from rfl] at this
    rw [this, obnd_some, tvalid, List.range_eq_range']
    simp only [Nat.sub_zero, h, decide_true, Bool.true_and]
    cases (List.range' 0 t.length).all (okAt t) <;> rfl
  · rw [if_pos (by simp; omega)]
    simp [tvalid, h]
end Go.Proofs.YtlbnhhfaedhgfaaGreatDoor
