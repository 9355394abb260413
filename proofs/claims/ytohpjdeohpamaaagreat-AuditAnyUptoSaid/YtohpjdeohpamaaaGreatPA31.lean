/-
  Lemmas: Plain laws of the audit
-/
import Derived.Test.YtohpjdeohpamaaaGreatPA20
import Derived.Test.YtohpjdeohpamaaaGreatPA19
import Derived.Test.YtohpjdeohpamaaaGreatPA30
import Derived.Test.YtohpjdeohpamaaaGreatPA24
import Derived.Test.YtohpjdeohpamaaaGreatPA27
set_option linter.unusedSimpArgs false
set_option linter.unusedVariables false
namespace Go.Proofs.YtohpjdeohpamaaaGreat
open Go.RowKit
def first_query (a b : TQuery) (xs : List Rng) (i : Int) := Mquery_Same_l1 b xs i
def first_ref22 (a b : TQuery) (xs : List Rng) (i : Int) := Mref22_Same_l1 a b xs i
theorem eq_query_Same_l1 (a b : TQuery) (h : a.Ranges.length = b.Ranges.length) : ∀ (xs : List Rng) (m : Nat), a.Ranges.drop m = xs → m ≤ a.Ranges.length → (first_query a b xs (m : Int)) = some (sel (decide (a.Ranges.drop m = b.Ranges.drop m)) (.nxt ()) (.ret false))
  | [], m, h1, hm => by
    have : a.Ranges.length - m = 0 := by have := congrArg List.length h1; simpa using this
    rw [drop_eq_iff h, dif_neg (by omega)]; rfl
  | r :: xs, m, h1, hm => by
    obtain ⟨h2, h3⟩ := drop_get h1
    obtain ⟨h4, h5⟩ := List.getElem?_eq_some_iff.1 h2
    have ih := eq_query_Same_l1 a b h xs (m + 1) h3 h4
    unfold first_query at ih ⊢
    rw [Mquery_Same_l1.eq_2]
    simp only [lget_nat]
    rw [List.getElem?_eq_getElem (show m < b.Ranges.length by omega)]
    try rw [List.getElem?_eq_getElem h4]
    simp only [obnd_some, range_eqb]
    rw [show (m : Int) + 1 = ((m + 1 : Nat) : Int) by omega, ih, drop_eq_iff h m, dif_pos h4]
    try rw [← h5]
    cases decide (a.Ranges[m] = b.Ranges[m]) <;> rfl
theorem eq_query_Same (a b : TQuery) : Mquery_Same a b = some (decide (a = b)) := by
  unfold Mquery_Same
  have hb : (sel (!decide (a.Kind = b.Kind)) (some true) (sel (!decide (a.Key = b.Key)) (some true) (sel (!decide (a.Count = b.Count)) (some true) (some (!decide ((a.Ranges.length : Int) = (b.Ranges.length : Int))))))) = some (!(decide (a.Kind = b.Kind) && decide (a.Key = b.Key) && decide (a.Count = b.Count) && decide (a.Ranges.length = b.Ranges.length))) := by
    have : decide ((a.Ranges.length : Int) = (b.Ranges.length : Int)) = decide (a.Ranges.length = b.Ranges.length) := decide_eq_decide.2 (by omega)
    rw [this]
    cases decide (a.Kind = b.Kind) <;> cases decide (a.Key = b.Key) <;> cases decide (a.Count = b.Count) <;> rfl
  rw [hb, obnd_some]
  by_cases h1 : a.Kind = b.Kind
  · by_cases h2 : a.Key = b.Key
    · by_cases h3 : a.Count = b.Count
      · by_cases h4 : a.Ranges.length = b.Ranges.length
        · have := eq_query_Same_l1 a b h4 a.Ranges 0 rfl (Nat.zero_le _)
          unfold first_query at this
          rw [show ((0 : Nat) : Int) = 0 from rfl, List.drop_zero, List.drop_zero] at this
          rw [this]
          simp only [h1, h2, h3, h4, decide_true, Bool.and_self, Bool.not_true, sel_false, obnd_some]
          have e : decide (a = b) = decide (a.Ranges = b.Ranges) := by
            obtain ⟨k, l, key, c⟩ := a
            obtain ⟨k', l', key', c'⟩ := b
            simp only at h1 h2 h3
            subst h1 h2 h3
            simp
          rw [e]
          cases decide (a.Ranges = b.Ranges) <;> rfl
        · have : a ≠ b := fun e => h4 (by rw [e])
          simp [h4, this, sel_true]
      · have : a ≠ b := fun e => h3 (by rw [e])
        simp [h3, this, sel_true]
    · have : a ≠ b := fun e => h2 (by rw [e])
      simp [h2, this, sel_true]
  · have : a ≠ b := fun e => h1 (by rw [e])
    simp [h1, this, sel_true]
theorem eq_ref22_Same_l1 (a b : TQuery) (h : a.Ranges.length = b.Ranges.length) : ∀ (xs : List Rng) (m : Nat), a.Ranges.drop m = xs → m ≤ a.Ranges.length → (first_ref22 a b xs (m : Int)) = some (sel (decide (a.Ranges.drop m = b.Ranges.drop m)) (.nxt ()) (.ret false))
  | [], m, h1, hm => by
    have : a.Ranges.length - m = 0 := by have := congrArg List.length h1; simpa using this
    rw [drop_eq_iff h, dif_neg (by omega)]; rfl
  | r :: xs, m, h1, hm => by
    obtain ⟨h2, h3⟩ := drop_get h1
    obtain ⟨h4, h5⟩ := List.getElem?_eq_some_iff.1 h2
    have ih := eq_ref22_Same_l1 a b h xs (m + 1) h3 h4
    unfold first_ref22 at ih ⊢
    rw [Mref22_Same_l1.eq_2]
    simp only [lget_nat]
    rw [List.getElem?_eq_getElem (show m < b.Ranges.length by omega)]
    try rw [List.getElem?_eq_getElem h4]
    simp only [obnd_some, range_eqb]
    rw [show (m : Int) + 1 = ((m + 1 : Nat) : Int) by omega, ih, drop_eq_iff h m, dif_pos h4]
    try rw [← h5]
    cases decide (a.Ranges[m] = b.Ranges[m]) <;> rfl
theorem eq_ref22_Same (a b : TQuery) : Mref22_Same a b = some (decide (a = b)) := by
  unfold Mref22_Same
  have hb : (sel (!decide (a.Kind = b.Kind)) (some true) (sel (!decide (a.Key = b.Key)) (some true) (sel (!decide (a.Count = b.Count)) (some true) (some (!decide ((a.Ranges.length : Int) = (b.Ranges.length : Int))))))) = some (!(decide (a.Kind = b.Kind) && decide (a.Key = b.Key) && decide (a.Count = b.Count) && decide (a.Ranges.length = b.Ranges.length))) := by
    have : decide ((a.Ranges.length : Int) = (b.Ranges.length : Int)) = decide (a.Ranges.length = b.Ranges.length) := decide_eq_decide.2 (by omega)
    rw [this]
    cases decide (a.Kind = b.Kind) <;> cases decide (a.Key = b.Key) <;> cases decide (a.Count = b.Count) <;> rfl
  rw [hb, obnd_some]
  by_cases h1 : a.Kind = b.Kind
  · by_cases h2 : a.Key = b.Key
    · by_cases h3 : a.Count = b.Count
      · by_cases h4 : a.Ranges.length = b.Ranges.length
        · have := eq_ref22_Same_l1 a b h4 a.Ranges 0 rfl (Nat.zero_le _)
          unfold first_ref22 at this
          rw [show ((0 : Nat) : Int) = 0 from rfl, List.drop_zero, List.drop_zero] at this
          rw [this]
          simp only [h1, h2, h3, h4, decide_true, Bool.and_self, Bool.not_true, sel_false, obnd_some]
          have e : decide (a = b) = decide (a.Ranges = b.Ranges) := by
            obtain ⟨k, l, key, c⟩ := a
            obtain ⟨k', l', key', c'⟩ := b
            simp only at h1 h2 h3
            subst h1 h2 h3
            simp
          rw [e]
          cases decide (a.Ranges = b.Ranges) <;> rfl
        · have : a ≠ b := fun e => h4 (by rw [e])
          simp [h4, this, sel_true]
      · have : a ≠ b := fun e => h3 (by rw [e])
        simp [h3, this, sel_true]
    · have : a ≠ b := fun e => h2 (by rw [e])
      simp [h2, this, sel_true]
  · have : a ≠ b := fun e => h1 (by rw [e])
    simp [h1, this, sel_true]
end Go.Proofs.YtohpjdeohpamaaaGreat
namespace Go.Proofs.YtohpjdeohpamaaaGreat
open Go.RowKit
def enough (q : TQuery) (n : Int) : Bool := (decide (q.Kind = 3) || decide (q.Kind = 4)) && decide (q.Count ≤ n)
theorem eq_query_Enough (q : TQuery) (n : Int) : Mquery_Enough q n = enough q n := by
  unfold Mquery_Enough Mquery_counted enough
  rw [bnd_eq]
  cases decide (q.Kind = 3) <;> cases decide (q.Kind = 4) <;> cases decide (q.Count ≤ n) <;> rfl
theorem eq_ref22_Enough (q : TQuery) (n : Int) : Mref22_Enough q n = enough q n := by
  unfold Mref22_Enough enough
  cases decide (q.Kind = 3) <;> cases decide (q.Kind = 4) <;> cases decide (q.Count ≤ n) <;> rfl
def rowsW (l : List TVisit) : List Kv := l.flatMap fun v => v.View.Rows
theorem rowsW_len : ∀ {l : List TVisit}, (∀ v ∈ l, v.View.Rows.length ≤ 10000) → (rowsW l).length ≤ l.length * 10000
  | [], _ => by simp [rowsW]
  | v :: l, h => by
    have h1 := h v List.mem_cons_self
    have h2 := rowsW_len (l := l) fun x hx => h x (List.mem_cons_of_mem _ hx)
    unfold rowsW at h2 ⊢
    rw [List.flatMap_cons, List.length_append, List.length_cons]
    omega
theorem rows_walk_l1 : ∀ (l : List TVisit) (out : List Kv), out.length + (rowsW l).length ≤ 4294967296 → Mwalk_Rows_l1 l out = some (out ++ rowsW l)
  | [], out, _ => by rw [Mwalk_Rows_l1.eq_1]; simp [rowsW]
  | v :: l, out, h => by
    unfold rowsW at h ⊢
    rw [List.flatMap_cons, List.length_append] at h
    have ih := rows_walk_l1 l (out ++ v.View.Rows) (by unfold rowsW; rw [List.length_append]; omega)
    unfold rowsW at ih
    rw [Mwalk_Rows_l1.eq_2, app_le (by omega), obnd_some, ih, List.flatMap_cons, List.append_assoc]
theorem rows_ref28_l1 : ∀ (l : List TVisit) (out : List Kv), out.length + (rowsW l).length ≤ 4294967296 → Mref28_Rows_l1 l out = some (out ++ rowsW l)
  | [], out, _ => by rw [Mref28_Rows_l1.eq_1]; simp [rowsW]
  | v :: l, out, h => by
    unfold rowsW at h ⊢
    rw [List.flatMap_cons, List.length_append] at h
    have ih := rows_ref28_l1 l (out ++ v.View.Rows) (by unfold rowsW; rw [List.length_append]; omega)
    unfold rowsW at ih
    rw [Mref28_Rows_l1.eq_2, app_le (by omega), obnd_some, ih, List.flatMap_cons, List.append_assoc]
theorem okW.rlen {w : TWalk} (h : okW w) : (rowsW w.Visits).length ≤ 10000000 := by
  have h1 := rowsW_len h.rows
  have h2 := h.vis
  omega
theorem eq_walk_Rows {w : TWalk} (h : okW w) : Mwalk_Rows w = some (rowsW w.Visits) := by
  have := h.rlen
  unfold Mwalk_Rows
  rw [rows_walk_l1 _ _ (by simp; omega), obnd_some, List.nil_append]
theorem eq_ref28_Rows {w : TWalk} (h : okW w) : Mref28_Rows w.Visits = some (rowsW w.Visits) := by
  have := h.rlen
  unfold Mref28_Rows
  rw [rows_ref28_l1 _ _ (by simp; omega), obnd_some, List.nil_append]
def downQ (q : TQuery) : Bool := decide (q.Kind = 4)
theorem lget_first (x : Rng) (t : List Rng) : lget (x :: t) 0 = some x := by
  have := lget_nat (x :: t) 0
  rw [show ((0 : Nat) : Int) = 0 from rfl] at this
  rw [this]; rfl
def stOk (s : TStamp) : Bool := decide (0 ≤ s.Epoch) && decide (s.Epoch ≤ 1099511627776) && decide (0 ≤ s.Version) && decide (s.Version ≤ 1099511627776)
def numOk (n : Int) : Bool := decide (1 ≤ n) && decide (n ≤ 2147483647)
def validV (v : TView) : Bool := numOk v.Owner && !emp v.Interval && stOk v.Stamp && tvalid v.Rows && v.Rows.all fun x => contains v.Interval x.key
theorem eq_stamp_Valid (s : TStamp) : Mstamp_Valid s = stOk s := by
  unfold Mstamp_Valid stOk
  simp only [sel_and, Bool.and_assoc]
theorem eq_ref23_Valid (s : TStamp) : Mref23_Valid s = stOk s := by
  unfold Mref23_Valid stOk
  simp only [sel_and, Bool.and_assoc]
theorem eq_ref24_Number (n : Int) : Mref24_Number n = numOk n := by
  unfold Mref24_Number numOk
  rw [sel_and]
theorem eq_ref20_Within (r : Rng) (t : List Kv) : Mref20_Within t r = t.all fun x => contains r x.key := by
  unfold Mref20_Within
  have : ∀ t : List Kv, Mref20_Within_l1 r t = sel (t.all fun x => contains r x.key) (.nxt ()) (.ret false) := by
    intro t
    induction t with
    | nil => rfl
    | cons x t ih =>
      rw [Mref20_Within_l1.eq_2, bnd_eq, eq_ref1_Contains, ih, List.all_cons]
      cases contains r x.key <;> rfl
  rw [this, bnd_eq]
  cases (t.all fun x => contains r x.key) <;> rfl
theorem flt_all (r : Rng) (t : List Kv) : decide (((t.filter fun x => contains r x.key).length : Int) = (t.length : Int)) = t.all fun x => contains r x.key := by
  cases h : t.all fun x => contains r x.key with
  | true =>
    have : t.filter (fun x => contains r x.key) = t := List.filter_eq_self.2 fun x hx => List.all_eq_true.1 h x hx
    rw [this]; exact decide_eq_true rfl
  | false =>
    refine decide_eq_false fun he => ?_
    have he : (t.filter fun x => contains r x.key).length = t.length := by omega
    have : t.all (fun x => contains r x.key) = true := List.all_eq_true.2 fun x hx => by
      have := List.length_filter_eq_length_iff.1 he x hx
      exact this
    rw [h] at this; cases this
theorem eq_walk_ValidView (v : TView) (h : v.Rows.length ≤ 10000) : Mwalk_ValidView v = some (validV v) := by
  unfold Mwalk_ValidView validV numOk
  rw [bnd_eq, bnd_eq, eq_keyspace_Empty, eq_stamp_Valid, eq_table_Valid, obnd_some, eq_table_Slice _ _ (by omega), obnd_some, flt_all]
  cases decide (1 ≤ v.Owner) <;> cases decide (v.Owner ≤ 2147483647) <;> cases emp v.Interval <;> cases stOk v.Stamp <;> cases tvalid v.Rows <;> rfl
theorem eq_ref28_ValidView (v : TView) : Mref28_ValidView v = some (validV v) := by
  unfold Mref28_ValidView validV
  rw [bnd_eq, bnd_eq, bnd_eq, bnd_eq, eq_ref24_Number, eq_ref1_Empty, eq_ref23_Valid, eq_ref20_Valid, obnd_some, eq_ref20_Within]
  cases numOk v.Owner <;> cases emp v.Interval <;> cases stOk v.Stamp <;> cases tvalid v.Rows <;> rfl
end Go.Proofs.YtohpjdeohpamaaaGreat
-- LEFT eq_ref28_Done eq_ref28_Take eq_ref28_Want eq_walk_Done eq_walk_Take eq_walk_Want
namespace Go.Proofs.YtohpjdeohpamaaaGreat
open Go.RowKit
theorem eq_replica_SameRange (a b : Rng) : Mreplica_SameRange a b = Mref24_SameRange a b := by
  unfold Mreplica_SameRange Mref24_SameRange
  simp only [bnd_eq, eq_keyspace_Compare, eq_ref1_Compare]
theorem sameList_l1 (a b : List Kv) (h : a.length = b.length) : ∀ (xs : List Kv) (m : Nat), a.drop m = xs → m ≤ a.length → Mreplica_sameList_api_Row__l1 a b xs (m : Int) = some (sel (decide (a.drop m = b.drop m)) (.nxt ()) (.ret false))
  | [], m, h1, hm => by
    have : a.length - m = 0 := by have := congrArg List.length h1; simpa using this
    rw [Mreplica_sameList_api_Row__l1.eq_1, drop_eq_iff h, dif_neg (by omega)]; rfl
  | r :: xs, m, h1, hm => by
    obtain ⟨h2, h3⟩ := drop_get h1
    have h4 := (List.getElem?_eq_some_iff.1 h2).1
    rw [Mreplica_sameList_api_Row__l1.eq_2, lget_nat, lget_nat, List.getElem?_eq_getElem h4, List.getElem?_eq_getElem (show m < b.length by omega), obnd_some, obnd_some, kv_eqb, show (m : Int) + 1 = ((m + 1 : Nat) : Int) by omega, sameList_l1 a b h xs (m + 1) h3 h4, drop_eq_iff h m, dif_pos h4]
    cases decide (a[m] = b[m]) <;> rfl
theorem eq_replica_SameRows (a b : List Kv) : Mreplica_SameRows a b = some (decide (a = b)) := by
  unfold Mreplica_SameRows Mreplica_sameList_api_Row_
  by_cases h : a.length = b.length
  · have := sameList_l1 a b h a 0 rfl (Nat.zero_le _)
    rw [show ((0 : Nat) : Int) = 0 from rfl, List.drop_zero, List.drop_zero] at this
    rw [decide_eq_true (by omega), this]
    cases decide (a = b) <;> rfl
  · have h2 : a ≠ b := fun e => h (by rw [e])
    rw [decide_eq_false (by omega), decide_eq_false h2]; rfl
def sameV (a b : TVisit) : Bool := decide (a.View.Owner = b.View.Owner) && decide (a.View.Stamp.Epoch = b.View.Stamp.Epoch) && decide (a.View.Stamp.Version = b.View.Stamp.Version) && Mref24_SameRange a.View.Interval b.View.Interval && Mref24_SameRange a.Part b.Part && decide (a.View.Rows = b.View.Rows)
theorem eq_ref28_SameVisit (a b : TVisit) : Mref28_SameVisit a b = some (sameV a b) := by
  unfold Mref28_SameVisit sameV
  rw [bnd_eq, bnd_eq, eq_ref20_Same, obnd_some]
  cases decide (a.View.Owner = b.View.Owner) <;> cases decide (a.View.Stamp.Epoch = b.View.Stamp.Epoch) <;> cases decide (a.View.Stamp.Version = b.View.Stamp.Version) <;> cases Mref24_SameRange a.View.Interval b.View.Interval <;> cases Mref24_SameRange a.Part b.Part <;> rfl
theorem eq_receipt_Same (a b : TVisit) : Mreceipt_Same a b = some (sameV a b) := by
  unfold Mreceipt_Same sameV
  rw [bnd_eq, bnd_eq, eq_replica_SameRange, eq_replica_SameRange, eq_replica_SameRows, obnd_some]
  cases decide (a.View.Owner = b.View.Owner) <;> cases decide (a.View.Stamp.Epoch = b.View.Stamp.Epoch) <;> cases decide (a.View.Stamp.Version = b.View.Stamp.Version) <;> cases Mref24_SameRange a.View.Interval b.View.Interval <;> cases Mref24_SameRange a.Part b.Part <;> rfl
def sameVs : List TVisit → List TVisit → Bool
  | [], [] => true
  | a :: l, b :: m => sameV a b && sameVs l m
  | _, _ => false
theorem sameVs_len : ∀ {a b : List TVisit}, sameVs a b = true → a.length = b.length
  | [], [], _ => rfl
  | a :: l, b :: m, h => by
    simp only [sameVs, Bool.and_eq_true] at h
    have := sameVs_len h.2
    simp [this]
  | [], _ :: _, h => by simp [sameVs] at h
  | _ :: _, [], h => by simp [sameVs] at h
theorem same_drop {a b : List TVisit} (h : a.length = b.length) {m : Nat} (hm : m < a.length) : sameVs (a.drop m) (b.drop m) = (sameV a[m] (b[m]'(by omega)) && sameVs (a.drop (m + 1)) (b.drop (m + 1))) := by
  rw [List.drop_eq_getElem_cons hm, List.drop_eq_getElem_cons (l := b) (by omega)]; rfl
theorem refSame_l1 (a b : List TVisit) (h : a.length = b.length) : ∀ (xs : List TVisit) (m : Nat), a.drop m = xs → m ≤ a.length → Mref28_SameVisits_l1 a b xs (m : Int) = some (sel (sameVs (a.drop m) (b.drop m)) (.nxt ()) (.ret false))
  | [], m, h1, hm => by
    have h2 : a.length - m = 0 := by have := congrArg List.length h1; simpa using this
    rw [Mref28_SameVisits_l1.eq_1, h1, List.drop_eq_nil_of_le (by omega)]; rfl
  | r :: xs, m, h1, hm => by
    obtain ⟨h2, h3⟩ := drop_get h1
    have h4 := (List.getElem?_eq_some_iff.1 h2).1
    rw [Mref28_SameVisits_l1.eq_2, lget_nat, lget_nat, List.getElem?_eq_getElem h4, List.getElem?_eq_getElem (show m < b.length by omega), obnd_some, obnd_some, eq_ref28_SameVisit, obnd_some, show (m : Int) + 1 = ((m + 1 : Nat) : Int) by omega, refSame_l1 a b h xs (m + 1) h3 h4, same_drop h h4]
    cases sameV a[m] (b[m]'(by omega)) <;> rfl
theorem eq_ref28_SameVisits (a b : List TVisit) : Mref28_SameVisits a b = some (sameVs a b) := by
  unfold Mref28_SameVisits
  by_cases h : a.length = b.length
  · have := refSame_l1 a b h a 0 rfl (Nat.zero_le _)
    rw [show ((0 : Nat) : Int) = 0 from rfl, List.drop_zero, List.drop_zero] at this
    rw [decide_eq_true (by omega), this]
    cases sameVs a b <;> rfl
  · have h2 : sameVs a b = false := by
      cases hh : sameVs a b with
      | false => rfl
      | true => exact absurd (sameVs_len hh) h
    rw [decide_eq_false (by omega), h2]; rfl
def vOk (v : TVisit) : Bool := validV v.View && !emp v.Part && inside v.View.Interval v.Part
def rOk (v : TVisit) : Bool := v.View.Rows.all fun x => contains v.Part x.key
def tl1 : List TVisit → Ctl Int Unit
  | [] => .nxt ()
  | v :: l => if vOk v = true then (if rOk v = true then tl1 l else .ret 17) else .ret 1
def tl2 (R : List Rng) : List TVisit → Nat → Bnd → Ctl Int Int
  | [], a, _ => .nxt (a : Int)
  | v :: l, a, p => match R[a]? with
    | none => .ret 2
    | some e => if 0 < cmp v.Part.lo p then .ret 9 else if cmp v.Part.lo p < 0 then .ret 10 else if 0 < cmp v.Part.hi e.hi then .ret 2 else if cmp v.Part.hi e.hi = 0 then tl2 R l (a + 1) (match R[a + 1]? with | some x => x.lo | none => v.Part.hi) else tl2 R l a v.Part.hi
theorem rec_Tiling_l1 : ∀ l : List TVisit, (∀ v ∈ l, v.View.Rows.length ≤ 10000) → Mreceipt_Tiling_l1 l = some (tl1 l)
  | [], _ => rfl
  | v :: l, h => by
    have hv := h v List.mem_cons_self
    have ih := rec_Tiling_l1 l fun x hx => h x (List.mem_cons_of_mem _ hx)
    rw [Mreceipt_Tiling_l1.eq_2, eq_walk_ValidView _ hv, obnd_some, bnd_eq, bnd_eq, eq_keyspace_Empty, eq_walk_Inside, eq_table_Slice _ _ (by omega), ih, tl1]
    unfold vOk rOk
    cases validV v.View with
    | false => rfl
    | true =>
      cases emp v.Part with
      | true => rfl
      | false =>
        cases inside v.View.Interval v.Part with
        | false => rfl
        | true =>
          simp only [Bool.not_true, sel_false, Bool.not_false, obnd_some, Bool.and_self, if_true, flt_all]
          cases (v.View.Rows.all fun x => contains v.Part x.key) <;> rfl
theorem ref_Tiling_l1 : ∀ l : List TVisit, Mref28_Tiling_l1 l = some (tl1 l)
  | [] => rfl
  | v :: l => by
    have ih := ref_Tiling_l1 l
    rw [Mref28_Tiling_l1.eq_2, eq_ref28_ValidView, obnd_some, bnd_eq, bnd_eq, bnd_eq, eq_ref1_Empty, eq_ref28_inside, eq_ref20_Within, ih, tl1]
    unfold vOk rOk
    cases validV v.View with
    | false => rfl
    | true =>
      cases emp v.Part with
      | true => rfl
      | false =>
        cases inside v.View.Interval v.Part with
        | false => rfl
        | true =>
          simp only [Bool.not_true, sel_false, Bool.not_false, obnd_some, Bool.and_self, if_true]
          cases (v.View.Rows.all fun x => contains v.Part x.key) <;> rfl
theorem nxt_pos (R : List Rng) (a : Nat) (ha : a < 1000000) (hR : R.length ≤ 1000000) (p : Bnd) {α : Type} (K : ByteArray → Bool → Option α) :
    sel (decide (i64w ((a : Int) + 1) < (R.length : Int))) (obnd (lget R (i64w ((a : Int) + 1))) fun e => K e.lo.key e.lo.top) (K p.key p.top) = K (match R[a + 1]? with | some x => x.lo | none => p).key (match R[a + 1]? with | some x => x.lo | none => p).top := by
  rw [i64w_id (by omega) (by omega), show (a : Int) + 1 = ((a + 1 : Nat) : Int) by omega]
  by_cases h : a + 1 < R.length
  · rw [decide_eq_true (by omega), sel_true, lget_nat, List.getElem?_eq_getElem h, obnd_some]
  · rw [decide_eq_false (by omega), sel_false, List.getElem?_eq_none (by omega)]
theorem rec_Tiling_l2 (R : List Rng) (hR : R.length ≤ 100000) : ∀ (l : List TVisit) (a : Nat) (p : Bnd), a ≤ R.length → Mreceipt_Tiling_l2 R l (a : Int) p.key p.top = some (tl2 R l a p)
  | [], a, p, _ => rfl
  | v :: l, a, p, ha => by
    rw [Mreceipt_Tiling_l2.eq_2, bnd_eq, eq_keyspace_Compare, tl2]
    by_cases h : a = R.length
    · rw [decide_eq_true (by omega), sel_true, List.getElem?_eq_none (by omega)]
    · have hlt : a < R.length := by omega
      rw [decide_eq_false (by omega), sel_false, lget_nat, List.getElem?_eq_getElem hlt, obnd_some, bnd_eq, eq_keyspace_Compare]
      have ep : (⟨p.key, p.top⟩ : Bnd) = p := rfl
      rw [ep]
      simp only
      have c1 := cmp_rng v.Part.lo p
      have c2 := cmp_rng v.Part.hi R[a].hi
      rw [nxt_pos R a (by omega) (by omega) v.Part.hi fun k t => Mreceipt_Tiling_l2 R l (i64w ((a : Int) + 1)) k t]
      rw [i64w_id (by omega) (by omega), show (a : Int) + 1 = ((a + 1 : Nat) : Int) by omega, rec_Tiling_l2 R hR l (a + 1) _ (by omega), rec_Tiling_l2 R hR l a _ (by omega)]
      rcases c1 with c1 | c1 | c1 <;> rw [c1]
      · rfl
      · rcases c2 with c2 | c2 | c2 <;> rw [c2] <;> rfl
      · rfl
theorem ref_Tiling_l2 (R : List Rng) (hR : R.length ≤ 100000) : ∀ (l : List TVisit) (a : Nat) (p : Bnd), a ≤ R.length → Mref28_Tiling_l2 R l (a : Int) p.key p.top = some (tl2 R l a p)
  | [], a, p, _ => rfl
  | v :: l, a, p, ha => by
    rw [Mref28_Tiling_l2.eq_2, bnd_eq, bnd_eq, eq_ref1_Compare, tl2]
    by_cases h : a = R.length
    · rw [decide_eq_true (by omega), sel_true, List.getElem?_eq_none (by omega)]
    · have hlt : a < R.length := by omega
      rw [decide_eq_false (by omega), sel_false, lget_nat, List.getElem?_eq_getElem hlt, obnd_some, obnd_some, bnd_eq, bnd_eq, eq_ref1_Compare]
      have ep : (⟨p.key, p.top⟩ : Bnd) = p := rfl
      rw [ep]
      simp only
      have c1 := cmp_rng v.Part.lo p
      have c2 := cmp_rng v.Part.hi R[a].hi
      rw [nxt_pos R a (by omega) (by omega) v.Part.hi fun k t => Mref28_Tiling_l2 R l (i64w ((a : Int) + 1)) k t]
      rw [i64w_id (by omega) (by omega), show (a : Int) + 1 = ((a + 1 : Nat) : Int) by omega, ref_Tiling_l2 R hR l (a + 1) _ (by omega), ref_Tiling_l2 R hR l a _ (by omega)]
      rcases c1 with c1 | c1 | c1 <;> rw [c1]
      · rfl
      · rcases c2 with c2 | c2 | c2 <;> rw [c2] <;> rfl
      · rfl
def posT (q : TQuery) (l : List TVisit) : Bnd := match l with
  | [] => (match qrg q with | r :: _ => r.lo | [] => zb)
  | v :: _ => if (downQ q && enough q ((rowsW l).length : Int)) = true then v.Part.lo else (match qrg q with | r :: _ => r.lo | [] => zb)
def tilingW (q : TQuery) (l : List TVisit) : Int :=
  if qch q ≠ 0 then qch q else match tl1 l with
    | .ret e => e
    | .nxt _ => match tl2 (qrg q) l 0 (posT q l) with
      | .ret e => e
      | .nxt a => if a < ((qrg q).length : Int) then (if q.Kind = 3 ∧ enough q ((rowsW l).length : Int) = true then 0 else 9) else 0
structure okC (l : List TVisit) : Prop where
  vis : l.length ≤ 1000
  rows : ∀ v ∈ l, v.View.Rows.length ≤ 10000
theorem okC.w {l : List TVisit} (h : okC l) : okW ⟨⟨0, [], ⟨#[]⟩, 0⟩, [], l⟩ := ⟨by simp, by simp, h.vis, h.rows⟩
theorem qrg_64 (q : TQuery) : (qrg q).length ≤ 64 := qranges_le _ _ _ _
theorem pos_both (R : List Rng) : (sel (decide (0 < (R.length : Int))) (obnd (lget R 0) fun e15 => some (e15.lo.key, e15.lo.top)) (some (⟨#[]⟩, false)) : Option (ByteArray × Bool)) = some ((match R with | r :: _ => r.lo | [] => zb).key, (match R with | r :: _ => r.lo | [] => zb).top) := by
  cases R with
  | nil => rfl
  | cons r R =>
    rw [decide_eq_true (by simp), sel_true, lget_first, obnd_some]
theorem pos_two (q : TQuery) (l : List TVisit) (p : Bnd) (hp : p = match qrg q with | r :: _ => r.lo | [] => zb) : (obnd (sel (downQ q) (sel (enough q ((rowsW l).length : Int)) (some (decide (0 < (l.length : Int)))) (some false)) (some false) : Option Bool) fun x19 => (sel x19 (obnd (lget l 0) fun e20 => some (e20.Part.lo.key, e20.Part.lo.top)) (some (p.key, p.top)) : Option (ByteArray × Bool))) = some ((posT q l).key, (posT q l).top) := by
  cases l with
  | nil =>
    have e : posT q [] = p := by rw [hp]; rfl
    rw [e]
    cases downQ q <;> cases enough q ((rowsW []).length : Int) <;> rfl
  | cons v l =>
    have e0 : decide (0 < (((v :: l).length : Nat) : Int)) = true := decide_eq_true (by rw [List.length_cons]; omega)
    have e1 : lget (v :: l) 0 = some v := by
      have := lget_nat (v :: l) 0
      rw [show ((0 : Nat) : Int) = 0 from rfl] at this
      rw [this]; rfl
    have e2 : posT q (v :: l) = if (downQ q && enough q ((rowsW (v :: l)).length : Int)) = true then v.Part.lo else p := by rw [hp]; rfl
    rw [e0, e1, e2]
    cases downQ q <;> cases enough q ((rowsW (v :: l)).length : Int) <;> rfl
theorem obnd_assoc {α β γ : Type} (x : Option α) (f : α → Option β) (g : β → Option γ) : obnd (obnd x f) g = obnd x fun a => obnd (f a) g := by
  cases x <;> rfl
theorem eq_receipt_Tiling (q : TQuery) (hq : q.Ranges.length < 1000000) {l : List TVisit} (h : okC l) : Mreceipt_Tiling q l = some (tilingW q l) := by
  have e1 : Mquery_Check q = some (qch q) := if_pos hq
  have e2 : Mquery_Ranges q = some (qrg q) := if_pos hq
  have e3 : Mreceipt_rows l = some (rowsW l) := by unfold Mreceipt_rows; rw [eq_walk_Rows h.w, obnd_some]
  have ed : Mquery_Down q = downQ q := rfl
  have hR := qrg_64 q
  unfold Mreceipt_Tiling tilingW
  rw [e1, obnd_some]
  by_cases h0 : qch q = 0
  · rw [decide_eq_true h0, Bool.not_true, sel_false, if_neg (by simp [h0]), rec_Tiling_l1 _ h.rows, obnd_some]
    cases tl1 l with
    | ret e => rfl
    | nxt _ =>
      rw [ocbnd_nxt, e2, obnd_some, e3, obnd_some, bnd_eq, eq_query_Enough, pos_both, obnd_some, bnd_eq, ed]
      simp only
      rw [← obnd_assoc, pos_two q l _ rfl, obnd_some]
      simp only
      rw [show (0 : Int) = ((0 : Nat) : Int) from rfl, rec_Tiling_l2 (qrg q) (by omega) l 0 (posT q l) (Nat.zero_le _), obnd_some]
      cases tl2 (qrg q) l 0 (posT q l) with
      | ret e => rfl
      | nxt a =>
        rw [ocbnd_nxt]
        simp only
        by_cases ha : a < ((qrg q).length : Int)
        · rw [decide_eq_true ha, sel_true, if_pos ha]
          by_cases hk : q.Kind = 3
          · rw [decide_eq_true hk, sel_true]
            cases enough q ((rowsW l).length : Int) with
            | true => rw [if_pos ⟨hk, rfl⟩]; rfl
            | false => rw [if_neg (by simp)]; rfl
          · rw [decide_eq_false hk, sel_false, if_neg (by simp [hk])]; rfl
        · rw [decide_eq_false ha, sel_false, if_neg ha]
  · rw [decide_eq_false h0, Bool.not_false, sel_true, if_pos h0]
theorem eq_ref28_Tiling (q : TQuery) (hq : q.Ranges.length < 1000000) {l : List TVisit} (h : okC l) : Mref28_Tiling q l = some (tilingW q l) := by
  have e1 : Mref22_Check q = qch q := eq_ref22_Check q
  have e2 : Mref22_Ranges q = some (qrg q) := if_pos hq
  have e3 : Mref28_Rows l = some (rowsW l) := eq_ref28_Rows h.w
  have ed : Mref22_Down q = downQ q := rfl
  have hR := qrg_64 q
  unfold Mref28_Tiling tilingW
  rw [bnd_eq, e1]
  by_cases h0 : qch q = 0
  · rw [decide_eq_true h0, Bool.not_true, sel_false, if_neg (by simp [h0]), ref_Tiling_l1, obnd_some]
    cases tl1 l with
    | ret e => rfl
    | nxt _ =>
      rw [ocbnd_nxt, e2, obnd_some, e3, obnd_some, bnd_eq, eq_ref22_Enough, pos_both, obnd_some, bnd_eq, ed]
      simp only
      rw [← obnd_assoc, pos_two q l _ rfl, obnd_some]
      simp only
      rw [show (0 : Int) = ((0 : Nat) : Int) from rfl, ref_Tiling_l2 (qrg q) (by omega) l 0 (posT q l) (Nat.zero_le _), obnd_some]
      cases tl2 (qrg q) l 0 (posT q l) with
      | ret e => rfl
      | nxt a =>
        rw [ocbnd_nxt]
        simp only
        by_cases ha : a < ((qrg q).length : Int)
        · rw [decide_eq_true ha, sel_true, if_pos ha]
          by_cases hk : q.Kind = 3
          · rw [decide_eq_true hk, sel_true]
            cases enough q ((rowsW l).length : Int) with
            | true => rw [if_pos ⟨hk, rfl⟩]; rfl
            | false => rw [if_neg (by simp)]; rfl
          · rw [decide_eq_false hk, sel_false, if_neg (by simp [hk])]; rfl
        · rw [decide_eq_false ha, sel_false, if_neg ha]
  · rw [decide_eq_false h0, Bool.not_false, sel_true, if_pos h0]
end Go.Proofs.YtohpjdeohpamaaaGreat
namespace Go.Proofs.YtohpjdeohpamaaaGreat
open Go.RowKit
theorem tl1_ret : ∀ {l : List TVisit} {e : Int}, tl1 l = .ret e → e ≠ 0
  | [], e, h => by simp [tl1] at h
  | v :: l, e, h => by
    rw [tl1] at h
    split at h
    · split at h
      · exact tl1_ret h
      · injection h with h; omega
    · injection h with h; omega
theorem tl1_nxt : ∀ {l : List TVisit} {u : Unit}, tl1 l = .nxt u → ∀ v ∈ l, vOk v = true ∧ rOk v = true
  | [], _, _, v, hv => by simp at hv
  | x :: l, u, h, v, hv => by
    rw [tl1] at h
    split at h
    · split at h
      · rcases List.mem_cons.1 hv with rfl | hv
        · exact ⟨by assumption, by assumption⟩
        · exact tl1_nxt h v hv
      · cases h
    · cases h
theorem tiling_0 {q : TQuery} {l : List TVisit} (h : tilingW q l = 0) : qch q = 0 ∧ ∀ v ∈ l, vOk v = true ∧ rOk v = true := by
  unfold tilingW at h
  by_cases h0 : qch q = 0
  · refine ⟨h0, ?_⟩
    rw [if_neg (by simp [h0])] at h
    cases e : tl1 l with
    | ret z =>
      rw [e] at h
      exact absurd h (tl1_ret e)
    | nxt u => exact tl1_nxt e
  · rw [if_pos h0] at h
    exact absurd h h0
theorem vOk_rows {v : TVisit} (h : vOk v = true) : tvalid v.View.Rows = true := by
  unfold vOk validV at h
  simp only [Bool.and_eq_true] at h
  exact h.1.1.1.2
theorem rowsW_val {l : List TVisit} (h : ∀ v ∈ l, vOk v = true) : ∀ r ∈ rowsW l, vrow r = true := fun r hr => by
  unfold rowsW at hr
  obtain ⟨v, hv, hrv⟩ := List.mem_flatMap.1 hr
  exact ((tvalid_iff _).1 (vOk_rows (h v hv))).2.1 r hrv
def noA : TAnswer := ⟨[], ⟨0, 0, 0, 0, 0, ⟨#[]⟩, ⟨#[]⟩⟩⟩
def checkE (r : TReceipt) : Int := if tilingW r.Query r.First ≠ 0 then tilingW r.Query r.First else if tilingW r.Query r.Second ≠ 0 then tilingW r.Query r.Second else if sameVs r.First r.Second = true then 0 else 11
theorem rec_Check_l2 (r : TReceipt) (h : r.First.length = r.Second.length) : ∀ (xs : List TVisit) (m : Nat), r.First.drop m = xs → m ≤ r.First.length → Mreceipt_Check_l2 r xs (m : Int) = some (sel (sameVs (r.First.drop m) (r.Second.drop m)) (.nxt ()) (.ret (noA, 11)))
  | [], m, h1, hm => by
    have h2 : r.First.length - m = 0 := by have := congrArg List.length h1; simpa using this
    rw [Mreceipt_Check_l2.eq_1, h1, List.drop_eq_nil_of_le (by omega)]; rfl
  | v :: xs, m, h1, hm => by
    obtain ⟨h2, h3⟩ := drop_get h1
    obtain ⟨h4, h5⟩ := List.getElem?_eq_some_iff.1 h2
    rw [Mreceipt_Check_l2.eq_2, lget_nat, List.getElem?_eq_getElem (show m < r.Second.length by omega), obnd_some, eq_receipt_Same, obnd_some, show (m : Int) + 1 = ((m + 1 : Nat) : Int) by omega, rec_Check_l2 r h xs (m + 1) h3 h4, same_drop h h4, h5]
    cases sameV v (r.Second[m]'(by omega)) <;> rfl
theorem qtk_len (k c : Int) (l : List Kv) : (qtk k c l).length ≤ l.length := by
  unfold qtk
  split
  · simp; omega
  split
  · simp
  · exact Nat.le_refl _
theorem check_eq (r : TReceipt) (hq : r.Query.Ranges.length < 1000000) (h1 : okC r.First) (h2 : okC r.Second) : ∃ a, Mreceipt_Check r = some (a, checkE r) ∧ Mref28_Check r = some (a, checkE r) ∧
    (checkE r = 0 → a.Rows = qtk r.Query.Kind r.Query.Count (rowsW r.First) ∧ Mref21_Of a.Rows = some a.Fold) := by
  have hlen : (rowsW r.First).length ≤ 10000000 := h1.w.rlen
  unfold Mreceipt_Check Mref28_Check checkE
  rw [Mreceipt_Check_l1.eq_2, Mreceipt_Check_l1.eq_2, Mreceipt_Check_l1.eq_1]
  rw [eq_receipt_Tiling _ hq h1, eq_receipt_Tiling _ hq h2, eq_ref28_Tiling _ hq h1, eq_ref28_Tiling _ hq h2]
  simp only [obnd_some]
  by_cases t1 : tilingW r.Query r.First = 0
  · rw [decide_eq_true t1, Bool.not_true, if_neg (by simp [t1])]
    simp only [sel_false]
    by_cases t2 : tilingW r.Query r.Second = 0
    · rw [decide_eq_true t2, Bool.not_true, if_neg (by simp [t2])]
      simp only [sel_false, obnd_some, ocbnd_nxt]
      rw [eq_ref28_SameVisits, obnd_some]
      cases hs : sameVs r.First r.Second with
      | false =>
        simp only [Bool.not_false, sel_true, Bool.false_eq_true, if_false]
        refine ⟨noA, ?_, rfl, fun h => absurd h (by omega)⟩
        by_cases hl : r.First.length = r.Second.length
        · have := rec_Check_l2 r hl r.First 0 rfl (Nat.zero_le _)
          rw [show ((0 : Nat) : Int) = 0 from rfl, List.drop_zero, List.drop_zero, hs] at this
          rw [decide_eq_true (by omega), Bool.not_true, sel_false, this]; rfl
        · rw [decide_eq_false (by omega), Bool.not_false, sel_true]; rfl
      | true =>
        have hl := sameVs_len hs
        have := rec_Check_l2 r hl r.First 0 rfl (Nat.zero_le _)
        rw [show ((0 : Nat) : Int) = 0 from rfl, List.drop_zero, List.drop_zero, hs] at this
        have e3 : Mreceipt_rows r.First = some (rowsW r.First) := by unfold Mreceipt_rows; rw [eq_walk_Rows h1.w, obnd_some]
        have e4 : Mref28_Rows r.First = some (rowsW r.First) := eq_ref28_Rows h1.w
        obtain ⟨k1, k2⟩ := take_eq r.Query (rowsW r.First) (by omega)
        have hv := rowsW_val fun v hv => ((tiling_0 t1).2 v hv).1
        have hql := qtk_len r.Query.Kind r.Query.Count (rowsW r.First)
        obtain ⟨g, e5, e6, -⟩ := of_eq (qtk r.Query.Kind r.Query.Count (rowsW r.First)) (by omega) (fun x hx => by
          have h1 := hv x (qtk_sub _ _ _ x hx)
          simp only [vrow, Bool.and_eq_true, decide_eq_true_eq] at h1
          omega)
        rw [decide_eq_true (by omega), Bool.not_true, sel_false, this, sel_true, obnd_some, ocbnd_nxt, e3, obnd_some, k1, obnd_some, e5, obnd_some, sel_false, e4, obnd_some, k2, obnd_some, e6, obnd_some]
        exact ⟨_, rfl, rfl, fun _ => ⟨rfl, e6⟩⟩
    · rw [decide_eq_false t2, Bool.not_false, if_pos t2]
      simp only [sel_true, obnd_some, ocbnd_ret]
      exact ⟨_, rfl, rfl, fun h => absurd h t2⟩
  · rw [decide_eq_false t1, Bool.not_false, if_pos t1]
    simp only [sel_true, obnd_some, ocbnd_ret]
    exact ⟨_, rfl, rfl, fun h => absurd h t1⟩
end Go.Proofs.YtohpjdeohpamaaaGreat
-- LEFT make_eq sameReceipt_refl visits_l1
namespace Go.Proofs.YtohpjdeohpamaaaGreat
open Go.RowKit
section
variable {α : Type}
theorem mlk_mset (z v : α) (i q : Int) : ∀ es : List (Int × α), mlk z q (mset i v es) = if q = i then v else mlk z q es
  | [] => by simp only [mset, mlk]
  | (a, u) :: r => by
    have ih := mlk_mset z v i q r
    simp only [mset]
    by_cases e : i = a
    · rw [if_pos e]; simp only [mlk]
      by_cases h : q = a
      · rw [if_pos h, if_pos (by omega)]
      · rw [if_neg h, if_neg (by omega), if_neg h]
    · rw [if_neg e]; simp only [mlk]
      by_cases h : q = a
      · rw [if_pos h, if_neg (by omega), if_pos h]
      · rw [if_neg h, if_neg h, ih]
theorem mhas_mset (v : α) (i q : Int) : ∀ es : List (Int × α), mhas q (mset i v es) = (decide (q = i) || mhas q es)
  | [] => by
    simp only [mset, mhas]
    by_cases h : q = i <;> simp [h]
  | (a, u) :: r => by
    have ih := mhas_mset v i q r
    simp only [mset]
    by_cases e : i = a
    · rw [if_pos e]; simp only [mhas]
      by_cases h : q = a
      · rw [if_pos h]; simp
      · rw [if_neg h, decide_eq_false (by omega)]; simp
    · rw [if_neg e]; simp only [mhas]
      by_cases h : q = a
      · rw [if_pos h, if_pos h]; simp
      · rw [if_neg h, if_neg h, ih]
end
def getW (k : ByteArray) : List Kv → ByteArray × Bool
  | [] => (⟨#[]⟩, false)
  | r :: t => if r.key = k then (r.val, true) else getW k t
theorem eq_table_Get (t : List Kv) (k : ByteArray) : Mtable_Get t k = getW k t := by
  unfold Mtable_Get
  rw [bnd_eq]
  induction t with
  | nil => rfl
  | cons r t ih =>
    rw [Mtable_Get_l1, getW]
    by_cases h : r.key = k
    · rw [if_pos h, decide_eq_true h]; rfl
    · rw [if_neg h, decide_eq_false h]; exact ih
theorem eq_ref20_Get (t : List Kv) (k : ByteArray) : Mref20_Get t k = getW k t := by
  unfold Mref20_Get
  rw [bnd_eq]
  induction t with
  | nil => rfl
  | cons r t ih =>
    rw [Mref20_Get_l1, getW]
    by_cases h : r.key = k
    · rw [if_pos h, decide_eq_true h]; rfl
    · rw [if_neg h, decide_eq_false h]; exact ih
def ckA (r : TReceipt) : TAnswer × Int := (Mref28_Check r).getD (noA, 0)
structure okR (r : TReceipt) : Prop where
  q : r.Query.Ranges.length < 1000000
  f : okC r.First
  s : okC r.Second
theorem ckA_eq {r : TReceipt} (h : okR r) : Mreceipt_Check r = some (ckA r) ∧ Mref28_Check r = some (ckA r) ∧ (ckA r).2 = checkE r := by
  obtain ⟨a, h1, h2, -⟩ := check_eq r h.q h.f h.s
  unfold ckA
  rw [h2]
  exact ⟨h1, rfl, rfl⟩
structure AS where
  now : List Kv
  tabs : List (List Kv)
  bg : Int → Option (Int × TQuery)
  en : Int → Bool
def AS.push (s : AS) (t : List Kv) : AS := { s with now := t, tabs := s.tabs ++ [t] }
def recW (s : AS) (i : Int) (r : TRecord) : Int × AS :=
  if r.Kind = 1 then (if (applyW s.now r.Writes).2 = 0 then (0, s.push (applyW s.now r.Writes).1) else ((applyW s.now r.Writes).2, s))
  else if r.Kind = 2 then (if getW r.Key s.now = (r.Value, r.Has) then (0, s.push s.now) else (11, s))
  else if r.Kind = 3 then (match s.bg r.Query with
    | some _ => (7, s)
    | none => (0, { s.push s.now with bg := fun q => if q = r.Query then some (i, r.Receipt.Query) else s.bg q }))
  else if r.Kind = 4 then (match s.bg r.Query with
    | none => (7, s)
    | some p => if s.en r.Query = true ∨ p.2 ≠ r.Receipt.Query then (7, s) else if (ckA r.Receipt).2 ≠ 0 then ((ckA r.Receipt).2, s) else
        if (mom r.Receipt.Query (ckA r.Receipt).1 (s.tabs.drop p.1.toNat ++ [s.now])).2 = true then (0, { s.push s.now with en := fun q => if q = r.Query then true else s.en q }) else (11, s))
  else (1, s)
def runA : List TRecord → Int → AS → Ctl (Int × Int) AS
  | [], _, s => .nxt s
  | r :: rs, i, s => if (recW s i r).1 = 0 then runA rs (i + 1) (recW s i r).2 else .ret (i, (recW s i r).1)
def AS0 (t : List Kv) : AS := ⟨t, [], fun _ => none, fun _ => false⟩
def checkW (t : List Kv) (l : List TRecord) : Int × Int := if 4096 < l.length then (0, 3) else if tvalid t = true then (match runA l 0 (AS0 t) with | .nxt _ => ((l.length : Int), 0) | .ret r => r) else (0, 1)
structure RepA (s : AS) (a : Tauditor) : Prop where
  now : a.now = s.now
  tabs : a.tables = s.tabs
  has : ∀ q, mhas q a.begun = (s.bg q).isSome
  bg : ∀ q p, s.bg q = some p → mlk 0 q a.begun = p.1 ∧ mlk ⟨0, [], ⟨#[]⟩, 0⟩ q a.asked = p.2
  en : ∀ q, mlk false q a.ended = s.en q
structure okA (s : AS) (i : Int) : Prop where
  val : tvalid s.now = true
  len : (s.tabs.length : Int) = i
  top : i ≤ 5000
  bg : ∀ q p, s.bg q = some p → 0 ≤ p.1 ∧ p.1 ≤ i
theorem okA.step {s : AS} {i : Int} (h : okA s i) (hi : i < 5000) {r : TRecord} (h0 : (recW s i r).1 = 0) : okA (recW s i r).2 (i + 1) := by
  have hl := h.len
  have push : ∀ t, tvalid t = true → okA (s.push t) (i + 1) := fun t ht => ⟨ht, by simp [AS.push]; omega, by omega, fun q p hp => by have := h.bg q p hp; omega⟩
  unfold recW at h0 ⊢
  by_cases k1 : r.Kind = 1
  · rw [if_pos k1] at h0 ⊢
    split at h0
    · rename_i e; rw [if_pos e]; exact push _ (apply_valid e)
    · rename_i e; exact absurd h0 e
  rw [if_neg k1] at h0 ⊢
  by_cases k2 : r.Kind = 2
  · rw [if_pos k2] at h0 ⊢
    split at h0
    · rename_i e; rw [if_pos e]; exact push _ h.val
    · cases h0
  rw [if_neg k2] at h0 ⊢
  by_cases k3 : r.Kind = 3
  · rw [if_pos k3] at h0 ⊢
    cases hb : s.bg r.Query with
    | some p => rw [hb] at h0; cases h0
    | none =>
      simp only
      have := push _ h.val
      refine ⟨this.val, this.len, this.top, fun q p hp => ?_⟩
      simp only at hp
      split at hp
      · cases hp; simp only; omega
      · have := h.bg q p hp; omega
  rw [if_neg k3] at h0 ⊢
  by_cases k4 : r.Kind = 4
  · rw [if_pos k4] at h0 ⊢
    cases hb : s.bg r.Query with
    | none => rw [hb] at h0; cases h0
    | some p =>
      rw [hb] at h0
      simp only at h0 ⊢
      split at h0
      · cases h0
      · rename_i e1
        rw [if_neg e1]
        split at h0
        · rename_i e2; exact absurd h0 e2
        · rename_i e2
          rw [if_neg e2]
          split at h0
          · rename_i e3
            rw [if_pos e3]
            have := push _ h.val
            exact ⟨this.val, this.len, this.top, this.bg⟩
          · cases h0
  · rw [if_neg k4] at h0; cases h0
theorem lsl_end {α : Type} (l : List α) {i : Int} (h0 : 0 ≤ i) (h1 : i ≤ l.length) : lsl l i (l.length : Int) = some (l.drop i.toNat) := by
  rw [lsl_le (by omega)]
  congr 1
  exact List.take_of_length_le (by rw [List.length_drop]; omega)
theorem audit_record {s : AS} {i : Int} {a : Tauditor} (hs : okA s i) (hr : RepA s a) {r : TRecord} (hk : okR r.Receipt) : ∃ a', Maudit_auditor_record a i r = some ((recW s i r).1, a') ∧ ((recW s i r).1 = 0 → RepA (recW s i r).2 a') := by
  obtain ⟨c1, c2, c3⟩ := ckA_eq hk
  have htl := hs.len
  have htop := hs.top
  have happ : ∀ t, app a.tables ([t] : List (List Kv)) = some (s.tabs ++ [t]) := fun t => by rw [hr.tabs, app_le (by simp; omega)]
  unfold Maudit_auditor_record recW
  by_cases k1 : r.Kind = 1
  · rw [decide_eq_true k1, if_pos k1, sel_true, hr.now, eq_table_Apply, obnd_some]
    by_cases e : (applyW s.now r.Writes).2 = 0
    · rw [decide_eq_true e, if_pos e]
      simp only [Bool.not_true, sel_false, obnd_some, ocbnd_nxt]
      rw [happ, obnd_some]
      exact ⟨_, rfl, fun _ => ⟨rfl, rfl, hr.has, hr.bg, hr.en⟩⟩
    · rw [decide_eq_false e, if_neg e]
      exact ⟨_, rfl, fun h => absurd h e⟩
  rw [decide_eq_false k1, if_neg k1, sel_false]
  by_cases k2 : r.Kind = 2
  · rw [decide_eq_true k2, if_pos k2, sel_true, hr.now, bnd_eq, eq_table_Get]
    have hsel : ∀ z : ByteArray × Bool, (sel (!decide (z.1 = r.Value)) (some (Ctl.ret (11, a))) (sel (!(z.2 == r.Has)) (some (Ctl.ret (11, a))) (some (Ctl.nxt (s.now, a.begun, a.asked, a.ended)))) : Option (Ctl (Int × Tauditor) (List Kv × List (Int × Int) × List (Int × TQuery) × List (Int × Bool)))) = if z = (r.Value, r.Has) then some (Ctl.nxt (s.now, a.begun, a.asked, a.ended)) else some (Ctl.ret (11, a)) := fun z => by
      obtain ⟨v, b⟩ := z
      by_cases e1 : v = r.Value
      · by_cases e2 : b = r.Has
        · simp [e1, e2, sel_true, sel_false]
        · have : (b == r.Has) = false := by simpa using e2
          simp [e1, e2, this, sel_true, sel_false]
      · simp [e1, sel_true]
    rw [hsel]
    split
    · simp only [obnd_some, ocbnd_nxt]
      rw [happ, obnd_some]
      exact ⟨_, rfl, fun _ => ⟨rfl, rfl, hr.has, hr.bg, hr.en⟩⟩
    · exact ⟨_, rfl, fun h => by cases h⟩
  rw [decide_eq_false k2, if_neg k2, sel_false]
  by_cases k3 : r.Kind = 3
  · rw [decide_eq_true k3, if_pos k3, sel_true, bnd_eq, hr.has]
    cases hb : s.bg r.Query with
    | some p => exact ⟨_, rfl, fun h => by cases h⟩
    | none =>
      simp only [Option.isSome_none, sel_false, bnd_eq]
      rw [mput_o, obnd_some, mput_o, obnd_some, obnd_some, ocbnd_nxt]
      simp only
      rw [happ, obnd_some]
      refine ⟨_, rfl, fun _ => ⟨hr.now, by simp [AS.push, hr.now], fun q => ?_, fun q p hp => ?_, hr.en⟩⟩
      · rw [mhas_mset, hr.has]
        simp only
        by_cases e : q = r.Query <;> simp [e, AS.push]
      · simp only at hp
        rw [mlk_mset, mlk_mset]
        split at hp
        · rename_i e; cases hp; rw [if_pos e, if_pos e]; exact ⟨rfl, rfl⟩
        · rename_i e; rw [if_neg e, if_neg e]; exact hr.bg q p hp
  rw [decide_eq_false k3, if_neg k3, sel_false]
  by_cases k4 : r.Kind = 4
  · rw [decide_eq_true k4, if_pos k4, sel_true, bnd_eq, hr.has]
    cases hb : s.bg r.Query with
    | none => exact ⟨_, rfl, fun h => by cases h⟩
    | some p =>
      obtain ⟨b1, b2⟩ := hr.bg _ _ hb
      have b3 := hs.bg _ _ hb
      simp only [Option.isSome_some, Bool.not_true, sel_false, bnd_eq]
      rw [hr.en, b1, b2, eq_query_Same, obnd_some]
      have hx : (sel (s.en r.Query) (some true) (some (!decide (p.2 = r.Receipt.Query))) : Option Bool) = some (decide (s.en r.Query = true ∨ p.2 ≠ r.Receipt.Query)) := by
        cases s.en r.Query
        · by_cases e : p.2 = r.Receipt.Query <;> simp [e, sel_false]
        · simp [sel_true]
      rw [hx, obnd_some]
      by_cases e1 : s.en r.Query = true ∨ p.2 ≠ r.Receipt.Query
      · rw [decide_eq_true e1, if_pos e1]
        exact ⟨_, rfl, fun h => by cases h⟩
      · rw [decide_eq_false e1, if_neg e1, sel_false, c1, obnd_some]
        by_cases e2 : (ckA r.Receipt).2 = 0
        · rw [decide_eq_true e2, if_neg (by simp [e2])]
          simp only [Bool.not_true, sel_false]
          rw [hr.tabs, lsl_end _ b3.1 (by omega), obnd_some, app_le (by simp; omega), obnd_some, hr.now, eq_audit_Moment _ _ _ hk.q, obnd_some]
          by_cases e3 : (mom r.Receipt.Query (ckA r.Receipt).1 (s.tabs.drop p.1.toNat ++ [s.now])).2 = true
          · rw [if_pos e3, e3]
            simp only [Bool.not_true, sel_false, obnd_some, ocbnd_nxt]
            have := happ s.now
            rw [hr.tabs] at this
            rw [this, obnd_some]
            refine ⟨_, rfl, fun _ => ⟨rfl, rfl, hr.has, hr.bg, fun q => ?_⟩⟩
            rw [mlk_mset, hr.en]
          · rw [if_neg e3, Bool.eq_false_iff.2 e3]
            exact ⟨_, rfl, fun h => by cases h⟩
        · rw [decide_eq_false e2, if_pos e2]
          exact ⟨_, rfl, fun h => absurd h e2⟩
  · rw [decide_eq_false k4, if_neg k4, sel_false]
    exact ⟨_, rfl, fun h => by cases h⟩
def ctlU {α β : Type} : Ctl α β → Ctl α Unit
  | .ret r => .ret r
  | .nxt _ => .nxt ()
theorem audit_Check_l1 : ∀ (l : List TRecord) (i : Int) (s : AS) (a : Tauditor), okA s i → RepA s a → i + l.length ≤ 4096 → (∀ r ∈ l, okR r.Receipt) → Maudit_Check_l1 l i a.now a.tables a.begun a.asked a.ended = some (ctlU (runA l i s))
  | [], _, _, _, _, _, _, _ => rfl
  | r :: rs, i, s, a, hs, hr, hl, hk => by
    simp only [List.length_cons] at hl
    obtain ⟨a', h1, h2⟩ := audit_record hs hr (hk r List.mem_cons_self)
    rw [Maudit_Check_l1, runA, h1, obnd_some]
    by_cases h0 : (recW s i r).1 = 0
    · rw [if_pos h0, decide_eq_true h0]
      exact audit_Check_l1 rs (i + 1) _ a' (hs.step (by omega) h0) (h2 h0) (by omega) fun x hx => hk x (List.mem_cons_of_mem _ hx)
    · rw [if_neg h0, decide_eq_false h0]; rfl
theorem okA0 {t : List Kv} (h : tvalid t = true) : okA (AS0 t) 0 := ⟨h, rfl, by omega, fun _ _ h => by cases h⟩
theorem eq_audit_Check (t : List Kv) (l : List TRecord) (hk : ∀ r ∈ l, okR r.Receipt) : Maudit_Check t l = some (checkW t l) := by
  unfold Maudit_Check checkW
  by_cases hl : 4096 < l.length
  · rw [decide_eq_true (by omega), if_pos hl]; rfl
  · rw [decide_eq_false (by omega), if_neg hl, sel_false, eq_table_Valid, obnd_some]
    cases ht : tvalid t with
    | false => rfl
    | true =>
      simp only [Bool.not_true, sel_false, if_true]
      have := audit_Check_l1 l 0 (AS0 t) ⟨t, [], [], [], []⟩ (okA0 ht) ⟨rfl, rfl, fun _ => rfl, (fun _ _ h => by cases h), fun _ => rfl⟩ (by omega) hk
      rw [this, obnd_some]
      cases runA l 0 (AS0 t) <;> rfl
end Go.Proofs.YtohpjdeohpamaaaGreat
