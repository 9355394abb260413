/-
  Lemmas: The law AuditRefuses holds of its model.
-/
import Derived.Test.YtohpjdeohpamaaaGreatDoorPA27
import Derived.Test.YtohpjdeohpamaaaGreatDoorPA18
import Derived.Test.YtohpjdeohpamaaaGreatDoorPA29
import Derived.Test.YtohpjdeohpamaaaGreatDoorPA28
import Derived.Test.YtohpjdeohpamaaaGreatDoorGAuditRefusesX1
set_option linter.unusedSimpArgs false
set_option linter.unusedVariables false
namespace Go.Proofs.YtohpjdeohpamaaaGreatDoor
open Go.RowKit
theorem tl1_ret : ∀ {l : List TVisit} {e : Int}, tl1 l = .ret e → e ≠ 0
  | [], e, h => by simp [tl1] at h
  | v :: l, e, h => by
    rw [tl1] at h
    split at h
    · split at h
      · exact tl1_ret h
      · injection h with h; omega
    · injection h with h; omega
theorem tl1_nxt : ∀ {l : List TVisit} {u : Unit}, tl1 l = .nxt u → ∀ v ∈ l, vOk v = true ∧ rOk v = true
  | [], _, _, v, hv => by simp at hv
  | x :: l, u, h, v, hv => by
    rw [tl1] at h
    split at h
    · split at h
      · rcases List.mem_cons.1 hv with rfl | hv
        · exact ⟨by assumption, by assumption⟩
        · exact tl1_nxt h v hv
      · cases h
    · cases h
theorem tiling_0 {q : TQuery} {l : List TVisit} (h : tilingW q l = 0) : qch q = 0 ∧ ∀ v ∈ l, vOk v = true ∧ rOk v = true := by
  unfold tilingW at h
  by_cases h0 : qch q = 0
  · refine ⟨h0, ?_⟩
    rw [if_neg (by simp [h0])] at h
    cases e : tl1 l with
    | ret z =>
      rw [e] at h
      exact absurd h (tl1_ret e)
    | nxt u => exact tl1_nxt e
  · rw [if_pos h0] at h
    exact absurd h h0
theorem vOk_rows {v : TVisit} (h : vOk v = true) : tvalid v.View.Rows = true := by
  unfold vOk validV at h
  simp only [Bool.and_eq_true] at h
  exact h.1.1.1.2
theorem rowsW_val {l : List TVisit} (h : ∀ v ∈ l, vOk v = true) : ∀ r ∈ rowsW l, vrow r = true := fun r hr => by
  unfold rowsW at hr
  obtain ⟨v, hv, hrv⟩ := List.mem_flatMap.1 hr
  exact ((tvalid_iff _).1 (vOk_rows (h v hv))).2.1 r hrv
def checkE (r : TReceipt) : Int := if tilingW r.Query r.First ≠ 0 then tilingW r.Query r.First else if tilingW r.Query r.Second ≠ 0 then tilingW r.Query r.Second else if sameVs r.First r.Second = true then 0 else 11
theorem rec_Check_l2 (r : TReceipt) (h : r.First.length = r.Second.length) : ∀ (xs : List TVisit) (m : Nat), r.First.drop m = xs → m ≤ r.First.length → Mreceipt_Check_l2 r xs (m : Int) = some (sel (sameVs (r.First.drop m) (r.Second.drop m)) (.nxt ()) (.ret (noA, 11)))
  | [], m, h1, hm => by
    have h2 : r.First.length - m = 0 := by have := congrArg List.length h1; simpa using this
    rw [Mreceipt_Check_l2.eq_1, h1, List.drop_eq_nil_of_le (by omega)]; rfl
  | v :: xs, m, h1, hm => by
    obtain ⟨h2, h3⟩ := drop_get h1
    obtain ⟨h4, h5⟩ := List.getElem?_eq_some_iff.1 h2
    rw [Mreceipt_Check_l2.eq_2, lget_nat, List.getElem?_eq_getElem (show m < r.Second.length by omega), obnd_some, eq_receipt_Same, obnd_some, show (m : Int) + 1 = ((m + 1 : Nat) : Int) by omega, rec_Check_l2 r h xs (m + 1) h3 h4, same_drop h h4, h5]
    cases sameV v (r.Second[m]'(by omega)) <;> rfl
theorem qtk_len (k c : Int) (l : List Kv) : (qtk k c l).length ≤ l.length := by
  unfold qtk
  split
  · simp; omega
  split
  · simp
  · exact Nat.le_refl _
theorem check_eq (r : TReceipt) (hq : r.Query.Ranges.length < 1000000) (h1 : okC r.First) (h2 : okC r.Second) : ∃ a, Mreceipt_Check r = some (a, checkE r) ∧ Mref28_Check r = some (a, checkE r) ∧
    (checkE r = 0 → a.Rows = qtk r.Query.Kind r.Query.Count (rowsW r.First) ∧ Mref21_Of a.Rows = some a.Fold) := by
  have hlen : (rowsW r.First).length ≤ 10000000 := h1.w.rlen
  unfold Mreceipt_Check Mref28_Check checkE
  rw [Mreceipt_Check_l1.eq_2, Mreceipt_Check_l1.eq_2, Mreceipt_Check_l1.eq_1]
  rw [eq_receipt_Tiling _ hq h1, eq_receipt_Tiling _ hq h2, eq_ref28_Tiling _ hq h1, eq_ref28_Tiling _ hq h2]
  simp only [obnd_some]
  by_cases t1 : tilingW r.Query r.First = 0
  · rw [decide_eq_true t1, Bool.not_true, if_neg (by simp [t1])]
    simp only [sel_false]
    by_cases t2 : tilingW r.Query r.Second = 0
    · rw [decide_eq_true t2, Bool.not_true, if_neg (by simp [t2])]
      simp only [sel_false, obnd_some, ocbnd_nxt]
      rw [eq_ref28_SameVisits, obnd_some]
      cases hs : sameVs r.First r.Second with
      | false =>
        simp only [Bool.not_false, sel_true, Bool.false_eq_true, if_false]
        refine ⟨noA, ?_, rfl, fun h => absurd h (by omega)⟩
        by_cases hl : r.First.length = r.Second.length
        · have := rec_Check_l2 r hl r.First 0 rfl (Nat.zero_le _)
          rw [show ((0 : Nat) : Int) = 0 from rfl, List.drop_zero, List.drop_zero, hs] at this
          rw [decide_eq_true (by omega), Bool.not_true, sel_false, this]; rfl
        · rw [decide_eq_false (by omega), Bool.not_false, sel_true]; rfl
      | true =>
        have hl := sameVs_len hs
        have := rec_Check_l2 r hl r.First 0 rfl (Nat.zero_le _)
        rw [show ((0 : Nat) : Int) = 0 from rfl, List.drop_zero, List.drop_zero, hs] at this
        have e3 : Mreceipt_rows r.First = some (rowsW r.First) := by unfold Mreceipt_rows; rw [eq_walk_Rows h1.w, obnd_some]
        have e4 : Mref28_Rows r.First = some (rowsW r.First) := eq_ref28_Rows h1.w
        obtain ⟨k1, k2⟩ := take_eq r.Query (rowsW r.First) (by omega)
        have hv := rowsW_val fun v hv => ((tiling_0 t1).2 v hv).1
        have hql := qtk_len r.Query.Kind r.Query.Count (rowsW r.First)
        obtain ⟨g, e5, e6, -⟩ := of_eq (qtk r.Query.Kind r.Query.Count (rowsW r.First)) (by omega) (fun x hx => by
          have h1 := hv x (qtk_sub _ _ _ x hx)
          simp only [vrow, Bool.and_eq_true, decide_eq_true_eq] at h1
          omega)
        rw [decide_eq_true (by omega), Bool.not_true, sel_false, this, sel_true, obnd_some, ocbnd_nxt, e3, obnd_some, k1, obnd_some, e5, obnd_some, sel_false, e4, obnd_some, k2, obnd_some, e6, obnd_some]
        exact ⟨_, rfl, rfl, fun _ => ⟨rfl, e6⟩⟩
    · rw [decide_eq_false t2, Bool.not_false, if_pos t2]
      simp only [sel_true, obnd_some, ocbnd_ret]
      exact ⟨_, rfl, rfl, fun h => absurd h t2⟩
  · rw [decide_eq_false t1, Bool.not_false, if_pos t1]
    simp only [sel_true, obnd_some, ocbnd_ret]
    exact ⟨_, rfl, rfl, fun h => absurd h t1⟩
end Go.Proofs.YtohpjdeohpamaaaGreatDoor
-- LEFT make_eq sameReceipt_refl visits_l1
namespace Go.Proofs.YtohpjdeohpamaaaGreatDoor
open Go.RowKit
section
variable {α : Type}
theorem mlk_mset (z v : α) (i q : Int) : ∀ es : List (Int × α), mlk z q (mset i v es) = if q = i then v else mlk z q es
  | [] => by simp only [mset, mlk]
  | (a, u) :: r => by
    have ih := mlk_mset z v i q r
    simp only [mset]
    by_cases e : i = a
    · rw [if_pos e]; simp only [mlk]
      by_cases h : q = a
      · rw [if_pos h, if_pos (by omega)]
      · rw [if_neg h, if_neg (by omega), if_neg h]
    · rw [if_neg e]; simp only [mlk]
      by_cases h : q = a
      · rw [if_pos h, if_neg (by omega), if_pos h]
      · rw [if_neg h, if_neg h, ih]
theorem mhas_mset (v : α) (i q : Int) : ∀ es : List (Int × α), mhas q (mset i v es) = (decide (q = i) || mhas q es)
  | [] => by
    simp only [mset, mhas]
    by_cases h : q = i <;> simp [h]
  | (a, u) :: r => by
    have ih := mhas_mset v i q r
    simp only [mset]
    by_cases e : i = a
    · rw [if_pos e]; simp only [mhas]
      by_cases h : q = a
      · rw [if_pos h]; simp
      · rw [if_neg h, decide_eq_false (by omega)]; simp
    · rw [if_neg e]; simp only [mhas]
      by_cases h : q = a
      · rw [if_pos h, if_pos h]; simp
      · rw [if_neg h, if_neg h, ih]
end
theorem eq_table_Get (t : List Kv) (k : ByteArray) : Mtable_Get t k = getW k t := by
  unfold Mtable_Get
  rw [bnd_eq]
  induction t with
  | nil => rfl
  | cons r t ih =>
    rw [Mtable_Get_l1, getW]
    by_cases h : r.key = k
    · rw [if_pos h, decide_eq_true h]; rfl
    · rw [if_neg h, decide_eq_false h]; exact ih
theorem ckA_eq {r : TReceipt} (h : okR r) : Mreceipt_Check r = some (ckA r) ∧ Mref28_Check r = some (ckA r) ∧ (ckA r).2 = checkE r := by
  obtain ⟨a, h1, h2, -⟩ := check_eq r h.q h.f h.s
  unfold ckA
  rw [h2]
  exact ⟨h1, rfl, rfl⟩
def runA : List TRecord → Int → AS → Ctl (Int × Int) AS
  | [], _, s => .nxt s
  | r :: rs, i, s => if (recW s i r).1 = 0 then runA rs (i + 1) (recW s i r).2 else .ret (i, (recW s i r).1)
def AS0 (t : List Kv) : AS := ⟨t, [], fun _ => none, fun _ => false⟩
def checkW (t : List Kv) (l : List TRecord) : Int × Int := if 4096 < l.length then (0, 3) else if tvalid t = true then (match runA l 0 (AS0 t) with | .nxt _ => ((l.length : Int), 0) | .ret r => r) else (0, 1)
theorem lsl_end {α : Type} (l : List α) {i : Int} (h0 : 0 ≤ i) (h1 : i ≤ l.length) : lsl l i (l.length : Int) = some (l.drop i.toNat) := by
  rw [lsl_le (by omega)]
  congr 1
  exact List.take_of_length_le (by rw [List.length_drop]; omega)
theorem audit_record {s : AS} {i : Int} {a : Tauditor} (hs : okA s i) (hr : RepA s a) {r : TRecord} (hk : okR r.Receipt) : ∃ a', Maudit_auditor_record a i r = some ((recW s i r).1, a') ∧ ((recW s i r).1 = 0 → RepA (recW s i r).2 a') := by
  obtain ⟨c1, c2, c3⟩ := ckA_eq hk
  have htl := hs.len
  have htop := hs.top
  have happ : ∀ t, app a.tables ([t] : List (List Kv)) = some (s.tabs ++ [t]) := fun t => by rw [hr.tabs, app_le (by simp; omega)]
  unfold Maudit_auditor_record recW
  by_cases k1 : r.Kind = 1
  · rw [decide_eq_true k1, if_pos k1, sel_true, hr.now, eq_table_Apply, obnd_some]
    by_cases e : (applyW s.now r.Writes).2 = 0
    · rw [decide_eq_true e, if_pos e]
      simp only [Bool.not_true, sel_false, obnd_some, ocbnd_nxt]
      rw [happ, obnd_some]
      exact ⟨_, rfl, fun _ => ⟨rfl, rfl, hr.has, hr.bg, hr.en⟩⟩
    · rw [decide_eq_false e, if_neg e]
      exact ⟨_, rfl, fun h => absurd h e⟩
  rw [decide_eq_false k1, if_neg k1, sel_false]
  by_cases k2 : r.Kind = 2
  · rw [decide_eq_true k2, if_pos k2, sel_true, hr.now, bnd_eq, eq_table_Get]
    have hsel : ∀ z : ByteArray × Bool, (sel (!decide (z.1 = r.Value)) (some (Ctl.ret (11, a))) (sel (!(z.2 == r.Has)) (some (Ctl.ret (11, a))) (some (Ctl.nxt (s.now, a.begun, a.asked, a.ended)))) : Option (Ctl (Int × Tauditor) (List Kv × List (Int × Int) × List (Int × TQuery) × List (Int × Bool)))) = if z = (r.Value, r.Has) then some (Ctl.nxt (s.now, a.begun, a.asked, a.ended)) else some (Ctl.ret (11, a)) := fun z => by
      obtain ⟨v, b⟩ := z
      by_cases e1 : v = r.Value
      · by_cases e2 : b = r.Has
        · simp [e1, e2, sel_true, sel_false]
        · have : (b == r.Has) = false := by simpa using e2
          simp [e1, e2, this, sel_true, sel_false]
      · simp [e1, sel_true]
    rw [hsel]
    split
    · simp only [obnd_some, ocbnd_nxt]
      rw [happ, obnd_some]
      exact ⟨_, rfl, fun _ => ⟨rfl, rfl, hr.has, hr.bg, hr.en⟩⟩
    · exact ⟨_, rfl, fun h => by cases h⟩
  rw [decide_eq_false k2, if_neg k2, sel_false]
  by_cases k3 : r.Kind = 3
  · rw [decide_eq_true k3, if_pos k3, sel_true, bnd_eq, hr.has]
    cases hb : s.bg r.Query with
    | some p => exact ⟨_, rfl, fun h => by cases h⟩
    | none =>
      simp only [Option.isSome_none, sel_false, bnd_eq]
      rw [mput_o, obnd_some, mput_o, obnd_some, obnd_some, ocbnd_nxt]
      simp only
      rw [happ, obnd_some]
      refine ⟨_, rfl, fun _ => ⟨hr.now, by simp [AS.push, hr.now], fun q => ?_, fun q p hp => ?_, hr.en⟩⟩
      · rw [mhas_mset, hr.has]
        simp only
        by_cases e : q = r.Query <;> simp [e, AS.push]
      · simp only at hp
        rw [mlk_mset, mlk_mset]
        split at hp
        · rename_i e; cases hp; rw [if_pos e, if_pos e]; exact ⟨rfl, rfl⟩
        · rename_i e; rw [if_neg e, if_neg e]; exact hr.bg q p hp
  rw [decide_eq_false k3, if_neg k3, sel_false]
  by_cases k4 : r.Kind = 4
  · rw [decide_eq_true k4, if_pos k4, sel_true, bnd_eq, hr.has]
    cases hb : s.bg r.Query with
    | none => exact ⟨_, rfl, fun h => by cases h⟩
    | some p =>
      obtain ⟨b1, b2⟩ := hr.bg _ _ hb
      have b3 := hs.bg _ _ hb
      simp only [Option.isSome_some, Bool.not_true, sel_false, bnd_eq]
      rw [hr.en, b1, b2, eq_query_Same, obnd_some]
      have hx : (sel (s.en r.Query) (some true) (some (!decide (p.2 = r.Receipt.Query))) : Option Bool) = some (decide (s.en r.Query = true ∨ p.2 ≠ r.Receipt.Query)) := by
        cases s.en r.Query
        · by_cases e : p.2 = r.Receipt.Query <;> simp [e, sel_false]
        · simp [sel_true]
      rw [hx, obnd_some]
      by_cases e1 : s.en r.Query = true ∨ p.2 ≠ r.Receipt.Query
      · rw [decide_eq_true e1, if_pos e1]
        exact ⟨_, rfl, fun h => by cases h⟩
      · rw [decide_eq_false e1, if_neg e1, sel_false, c1, obnd_some]
        by_cases e2 : (ckA r.Receipt).2 = 0
        · rw [decide_eq_true e2, if_neg (by simp [e2])]
          simp only [Bool.not_true, sel_false]
          rw [hr.tabs, lsl_end _ b3.1 (by omega), obnd_some, app_le (by simp; omega), obnd_some, hr.now, eq_audit_Moment _ _ _ hk.q, obnd_some]
          by_cases e3 : (mom r.Receipt.Query (ckA r.Receipt).1 (s.tabs.drop p.1.toNat ++ [s.now])).2 = true
          · rw [if_pos e3, e3]
            simp only [Bool.not_true, sel_false, obnd_some, ocbnd_nxt]
            have := happ s.now
            rw [hr.tabs] at this
            rw [this, obnd_some]
            refine ⟨_, rfl, fun _ => ⟨rfl, rfl, hr.has, hr.bg, fun q => ?_⟩⟩
            rw [mlk_mset, hr.en]
          · rw [if_neg e3, Bool.eq_false_iff.2 e3]
            exact ⟨_, rfl, fun h => by cases h⟩
        · rw [decide_eq_false e2, if_pos e2]
          exact ⟨_, rfl, fun h => absurd h e2⟩
  · rw [decide_eq_false k4, if_neg k4, sel_false]
    exact ⟨_, rfl, fun h => by cases h⟩
def ctlU {α β : Type} : Ctl α β → Ctl α Unit
  | .ret r => .ret r
  | .nxt _ => .nxt ()
theorem audit_Check_l1 : ∀ (l : List TRecord) (i : Int) (s : AS) (a : Tauditor), okA s i → RepA s a → i + l.length ≤ 4096 → (∀ r ∈ l, okR r.Receipt) → Maudit_Check_l1 l i a.now a.tables a.begun a.asked a.ended = some (ctlU (runA l i s))
  | [], _, _, _, _, _, _, _ => rfl
  | r :: rs, i, s, a, hs, hr, hl, hk => by
    simp only [List.length_cons] at hl
    obtain ⟨a', h1, h2⟩ := audit_record hs hr (hk r List.mem_cons_self)
    rw [Maudit_Check_l1, runA, h1, obnd_some]
    by_cases h0 : (recW s i r).1 = 0
    · rw [if_pos h0, decide_eq_true h0]
      exact audit_Check_l1 rs (i + 1) _ a' (hs.step (by omega) h0) (h2 h0) (by omega) fun x hx => hk x (List.mem_cons_of_mem _ hx)
    · rw [if_neg h0, decide_eq_false h0]; rfl
theorem okA0 {t : List Kv} (h : tvalid t = true) : okA (AS0 t) 0 := ⟨h, rfl, by omega, fun _ _ h => by cases h⟩
theorem eq_audit_Check (t : List Kv) (l : List TRecord) (hk : ∀ r ∈ l, okR r.Receipt) : Maudit_Check t l = some (checkW t l) := by
  unfold Maudit_Check checkW
  by_cases hl : 4096 < l.length
  · rw [decide_eq_true (by omega), if_pos hl]; rfl
  · rw [decide_eq_false (by omega), if_neg hl, sel_false, eq_table_Valid, obnd_some]
    cases ht : tvalid t with
    | false => rfl
    | true =>
      simp only [Bool.not_true, sel_false, if_true]
      have := audit_Check_l1 l 0 (AS0 t) ⟨t, [], [], [], []⟩ (okA0 ht) ⟨rfl, rfl, fun _ => rfl, (fun _ _ h => by cases h), fun _ => rfl⟩ (by omega) hk
      rw [this, obnd_some]
      cases runA l 0 (AS0 t) <;> rfl
end Go.Proofs.YtohpjdeohpamaaaGreatDoor
namespace Go.Proofs.YtohpjdeohpamaaaGreatDoor
open Go.RowKit
def nO (k : ByteArray) : Prop := ∀ b ∈ k.data.toList, b ≠ 111
theorem nO_nil : nO ⟨#[]⟩ := by intro b hb; cases hb
theorem nO_app {a b : ByteArray} (ha : nO a) (hb : nO b) : nO (a ++ b) := fun x hx => by
  rw [ByteArray.data_append, Array.toList_append] at hx
  rcases List.mem_append.1 hx with h | h
  · exact ha x h
  · exact hb x h
theorem nO_letter (m : Nat) : nO (letter m) := by
  unfold letter nO
  split <;> simp
def oldK : ByteArray := ⟨#[111, 108, 100]⟩
theorem nO_ne {k : ByteArray} (h : nO k) : k ≠ oldK := fun e => h 111 (by rw [e]; simp [oldK]) rfl
theorem sel_o {α : Type} {b : Bool} {x y z : α} (h : sel b x y = z) : (b = true ∧ x = z) ∨ (b = false ∧ y = z) := by
  cases b with
  | true => exact .inl ⟨rfl, h⟩
  | false => exact .inr ⟨rfl, h⟩
theorem letg_nO {i : Int} {s : ByteArray} (h : letg i = some s) : nO s := by
  unfold letg at h
  split at h
  · rw [← Option.some.inj h]; exact nO_letter _
  · cases h
theorem scat_o {a b s : ByteArray} (h : scat a b = some s) : s = a ++ b := by
  unfold scat at h
  split at h
  · exact (Option.some.inj h).symm
  · cases h
theorem long_l1_nO {s : ByteArray} (hs : nO s) {n : Int} : ∀ (fuel : Nat) (out : ByteArray) (i : Int) (k : ByteArray), nO out → Mwld_long_l1 s n fuel out i = some k → nO k
  | 0, _, _, _, _, h => by cases h
  | fuel + 1, out, i, k, ho, h => by
    rw [Mwld_long_l1] at h
    rcases sel_o h with ⟨-, h⟩ | ⟨-, h⟩
    · obtain ⟨s5, h1, h2⟩ := obnd_o h
      rw [scat_o h1] at h2
      exact long_l1_nO hs fuel _ _ k (nO_app ho hs) h2
    · rw [← Option.some.inj h]; exact ho
theorem long_nO {s : ByteArray} (hs : nO s) {n : Int} {k : ByteArray} (h : Mwld_long s n = some k) : nO k := by
  obtain ⟨y, h1, h2⟩ := obnd_o h
  rw [← Option.some.inj h2]
  exact long_l1_nO hs _ _ _ _ nO_nil h1
theorem key_l1_nO : ∀ (fuel : Nat) (x : List Int) (a : Int) (out : ByteArray) (i : Int) (y : ByteArray × List Int × Int), nO out → Mwld_Tape_Key_l1 fuel x a out i = some y → nO y.1
  | 0, _, _, _, _, _, _, h => by cases h
  | fuel + 1, x, a, out, i, y, ho, h => by
    rw [Mwld_Tape_Key_l1] at h
    obtain ⟨mu, h1, h2⟩ := obnd_o h
    rcases sel_o h1 with ⟨-, h1⟩ | ⟨-, h1⟩
    · rw [← Option.some.inj h1, ocbnd_nxt] at h2
      obtain ⟨y11, h3, h4⟩ := obnd_o h2
      obtain ⟨s12, h5, h6⟩ := obnd_o h4
      obtain ⟨s13, h7, h8⟩ := obnd_o h6
      rw [scat_o h7] at h8
      exact key_l1_nO fuel _ _ _ _ y (nO_app ho (letg_nO h5)) h8
    · rw [← Option.some.inj h1, ocbnd_ret] at h2
      rw [← Option.some.inj h2]; exact ho
theorem key_nO {τ : TTape} {y : ByteArray × TTape} (h : Mwld_Tape_Key τ = some y) : nO y.1 := by
  unfold Mwld_Tape_Key at h
  obtain ⟨y2, -, h⟩ := obnd_o h
  rcases sel_o h with ⟨-, h⟩ | ⟨-, h⟩
  · obtain ⟨y3, -, h⟩ := obnd_o h
    obtain ⟨s4, h4, h⟩ := obnd_o h
    obtain ⟨y5, h5, h⟩ := obnd_o h
    rw [← Option.some.inj h]
    exact long_nO (letg_nO h4) h5
  rcases sel_o h with ⟨-, h⟩ | ⟨-, h⟩
  · rw [← Option.some.inj h]; exact nO_nil
  · obtain ⟨y6, -, h⟩ := obnd_o h
    obtain ⟨z, h7, h⟩ := obnd_o h
    rw [← Option.some.inj h]
    exact key_l1_nO _ _ _ _ _ z nO_nil h7
theorem keyIn_l1_nO (r : Rng) : ∀ (fuel : Nat) (x : List Int) (a i : Int) (c : Ctl (ByteArray × TTape) (List Int × Int)), Mwld_Tape_KeyIn_l1 r fuel x a i = some c → ∀ z, c = .ret z → nO z.1
  | 0, _, _, _, _, h => by cases h
  | fuel + 1, x, a, i, c, h => by
    rw [Mwld_Tape_KeyIn_l1] at h
    obtain ⟨mu, h1, h2⟩ := obnd_o h
    rcases sel_o h1 with ⟨-, h1⟩ | ⟨-, h1⟩
    · rw [← Option.some.inj h1, ocbnd_nxt] at h2
      obtain ⟨y6, h3, h4⟩ := obnd_o h2
      rw [bnd_eq] at h4
      rcases sel_o h4 with ⟨-, h5⟩ | ⟨-, h5⟩
      · intro z hz
        rw [hz] at h5
        have := Option.some.inj h5
        injection this with this
        rw [← this]; exact key_nO h3
      · exact keyIn_l1_nO r fuel _ _ _ c h5
    · rw [← Option.some.inj h1, ocbnd_ret] at h2
      intro z hz
      rw [hz] at h2
      have := Option.some.inj h2
      cases this
theorem keyIn_nO {τ : TTape} {r : Rng} (hr : nO r.lo.key) {y : ByteArray × TTape} (h : Mwld_Tape_KeyIn τ r = some y) : nO y.1 := by
  unfold Mwld_Tape_KeyIn at h
  obtain ⟨mu, h1, h2⟩ := obnd_o h
  cases mu with
  | ret z =>
    rw [ocbnd_ret] at h2
    rw [← Option.some.inj h2]
    exact keyIn_l1_nO r _ _ _ _ _ h1 z rfl
  | nxt s =>
    rw [ocbnd_nxt] at h2
    rw [← Option.some.inj h2]; exact hr
def noOld (t : List Kv) : Prop := ∀ r ∈ t, r.key ≠ oldK
theorem noOld_ins {x : Kv} {t : List Kv} (hx : x.key ≠ oldK) (h : noOld t) : noOld (wth x t) := fun r hr => by
  rcases ins_mem.1 hr with rfl | hr
  · exact hx
  · exact h r (List.mem_filter.1 hr).1
theorem noOld_put {x : Kv} {t : List Kv} (hx : x.key ≠ oldK) (h : noOld t) : noOld (put x t).1 := by
  unfold put
  split
  · split
    · intro r hr; cases hr
    · exact noOld_ins hx h
  · intro r hr; cases hr
theorem all_nO : nO Mwld_All.lo.key := by
  rw [show Mwld_All.lo.key = ⟨#[]⟩ from rfl]; exact nO_nil
theorem rowsIn_l1_no : ∀ (fuel : Nat) (x : List Int) (a : Int) (out : List Kv) (i : Int) (y : List Kv × List Int × Int), noOld out → tvalid out = true → Mwld_Tape_RowsIn_l1 Mwld_All fuel x a out i = some y → noOld y.1
  | 0, _, _, _, _, _, _, _, h => by cases h
  | fuel + 1, x, a, out, i, y, ho, hv, h => by
    rw [Mwld_Tape_RowsIn_l1] at h
    obtain ⟨mu, h1, h2⟩ := obnd_o h
    rcases sel_o h1 with ⟨-, h1⟩ | ⟨-, h1⟩
    · rw [← Option.some.inj h1, ocbnd_nxt] at h2
      obtain ⟨y10, h3, h4⟩ := obnd_o h2
      obtain ⟨y11, h5, h6⟩ := obnd_o h4
      obtain ⟨y12, h7, h8⟩ := obnd_o h6
      have hl := ((tvalid_iff out).1 hv).1
      rw [eq_ref20_Put _ _ (by omega)] at h7
      rw [← Option.some.inj h7] at h8
      refine rowsIn_l1_no fuel _ _ _ _ y (noOld_put (nO_ne (keyIn_nO all_nO h3)) ho) ?_ h8
      unfold put
      split
      · split
        · kernel_rfl
        · rename_i g1 g2
          simp only [Bool.and_eq_true] at g1
          obtain ⟨A, b, C, hp⟩ := parts y10.1 ((tvalid_iff out).1 hv).2.2
          rw [hp.wth] at g2 ⊢
          exact hp.validx hv g1.2 (by simp at g2; omega)
      · kernel_rfl
    · rw [← Option.some.inj h1, ocbnd_ret] at h2
      rw [← Option.some.inj h2]; exact ho
theorem rows_no {τ : TTape} {n : Int} {y : List Kv × TTape} (h : Mwld_Tape_Rows τ n = some y) : noOld y.1 := by
  unfold Mwld_Tape_Rows at h
  rw [bnd_eq] at h
  obtain ⟨y4, h1, h2⟩ := obnd_o h
  rw [← Option.some.inj h2]
  unfold Mwld_Tape_RowsIn at h1
  rw [bnd_eq] at h1
  rcases sel_o h1 with ⟨-, h1⟩ | ⟨-, h1⟩
  · rw [← Option.some.inj h1]; intro r hr; cases hr
  · obtain ⟨y5, -, h1⟩ := obnd_o h1
    obtain ⟨z, h3, h4⟩ := obnd_o h1
    rw [← Option.some.inj h4]
    exact rowsIn_l1_no _ _ _ _ _ z (fun r hr => by cases hr) (by kernel_rfl) h3
theorem writeIn_no {τ : TTape} {y : TWrite × TTape} (h : Mwld_Tape_WriteIn τ Mwld_All = some y) : y.1.Key ≠ oldK := by
  unfold Mwld_Tape_WriteIn at h
  obtain ⟨y3, h3, h⟩ := obnd_o h
  obtain ⟨y4, -, h⟩ := obnd_o h
  have key := nO_ne (keyIn_nO all_nO h3)
  rcases sel_o h with ⟨-, h⟩ | ⟨-, h⟩
  · obtain ⟨y5, -, h⟩ := obnd_o h
    rw [← Option.some.inj h]; exact key
  · rw [← Option.some.inj h]; exact key
theorem qch_whole : qch Mwld_Whole = 0 := by kernel_rfl
theorem qrg_whole : qrg Mwld_Whole = [Mwld_All] := by
  have h0 : qchk 1 [Mwld_All] ⟨#[]⟩ 0 = 0 := by kernel_rfl
  show qranges 1 [Mwld_All] ⟨#[]⟩ 0 = _
  unfold qranges
  rw [if_pos h0]
  have : qrs 1 [Mwld_All] ⟨#[]⟩ = [Mwld_All] := by kernel_rfl
  rw [this]
  have hne : ne Mwld_All = true := by kernel_rfl
  unfold union
  rw [List.filter_cons_of_pos hne, List.filter_nil, List.mergeSort_singleton]
  rfl
theorem bl_nil (l : List UInt8) : Op.bytesLess l [] = false := by cases l <;> rfl
theorem contains_all {k : ByteArray} (h : vk k = true) : contains Mwld_All k = true := by
  unfold contains
  have e1 : emp Mwld_All = false := emp_all
  have e2 : decide (cmp Mwld_All.lo ⟨k, false⟩ ≤ 0) = true := decide_eq_true (by
    have : ¬ 0 < cmp Mwld_All.lo ⟨k, false⟩ := fun hh => by
      have h2 := (cmp_pos _ _).1 hh
      have h3 : (⟨k, false⟩ : Bnd).lt Mwld_All.lo = (false || Op.bytesLess k.toList (ByteArray.toList ⟨#[]⟩)) := rfl
      rw [h3, show ByteArray.toList ⟨#[]⟩ = [] by kernel_rfl, bl_nil] at h2
      cases h2
    omega)
  have e3 : decide (cmp ⟨k, false⟩ Mwld_All.hi < 0) = true := decide_eq_true ((cmp_neg _ _).2 rfl)
  rw [e1, h, e2, e3]; rfl
theorem flt_whole {t : List Kv} (h : tvalid t = true) : t.filter (fun x => contains Mwld_All x.key) = t := List.filter_eq_self.2 fun r hr => by
  have := ((tvalid_iff t).1 h).2.1 r hr
  simp only [vrow, Bool.and_eq_true] at this
  exact contains_all this.1
end Go.Proofs.YtohpjdeohpamaaaGreatDoor
namespace Go.Proofs.YtohpjdeohpamaaaGreatDoor
open Go.RowKit
set_option maxRecDepth 100000
set_option maxHeartbeats 4000000
attribute [local irreducible] WK WC WL Wk Rel OpD OpV WD WO sel bnd obnd app lget lsl sget ssl scat letg iquo irem Op.bytesLess
attribute [local irreducible] qchk qranges union
def Mlaw37_AuditRefuses_l1 (n2 : Int) : Nat → List Int → Int → List TRecord → List (List Kv) → Int → Option (List Int × Int × List TRecord × List (List Kv))
  | 0, _, _, _, _, _ => none
  | fuel + 1, x6, x7, log8, tables9, i10 =>
  obnd (irem n2 20) fun q11 =>
  obnd (
   sel (decide (i10 < i64w q11)) (
    some (Ctl.nxt ())) (
    some (Ctl.ret (x6, x7, log8, tables9))) : Option (Ctl (List Int × Int × List TRecord × List (List Kv)) Unit)) fun mu => ocbnd mu fun (_ : Unit) =>
  bnd (Mwld_All) fun y12 =>
  obnd (Mwld_Tape_WriteIn (TTape.mk x6 x7) y12) fun y13 =>
  obnd (lget ([y13.1] : List TWrite) 0) fun e14 =>
  sel (decide (e14.Key = ⟨#[111, 108, 100]⟩)) (
   Mlaw37_AuditRefuses_l1 n2 fuel y13.2.l y13.2.at_ log8 tables9 (i64w (i10 + 1))) (
   obnd (lget tables9 (i64w ((tables9.length : Int) - 1))) fun e15 =>
   obnd (Mref20_Apply e15 ([y13.1] : List TWrite)) fun y16 =>
   obnd (app tables9 ([y16.1] : List (List Kv))) fun l17 =>
   obnd (app log8 ([(TRecord.mk 1 ([y13.1] : List TWrite) ⟨#[]⟩ ⟨#[]⟩ false 0 (TReceipt.mk (TQuery.mk 0 ([] : List Rng) ⟨#[]⟩ 0) ([] : List TVisit) ([] : List TVisit)))] : List TRecord)) fun l18 =>
   Mlaw37_AuditRefuses_l1 n2 fuel y13.2.l y13.2.at_ l18 l17 (i64w (i10 + 1)))
def Mlaw37_AuditRefuses (l1 : List Int) (n2 : Int) : Option Bool :=
 obnd (Mwld_New l1) fun y3 =>
 obnd (Mwld_Tape_Rows y3 4) fun y4 =>
 bnd (Mwld_Whole) fun y5 =>
 obnd (
  Mlaw37_AuditRefuses_l1 n2 FU y4.2.l y4.2.at_ ([(TRecord.mk 1 ([(TWrite.mk (⟨#[111, 108, 100]⟩) ⟨#[49]⟩ false)] : List TWrite) ⟨#[]⟩ ⟨#[]⟩ false 0 (TReceipt.mk (TQuery.mk 0 ([] : List Rng) ⟨#[]⟩ 0) ([] : List TVisit) ([] : List TVisit))), (TRecord.mk 1 ([(TWrite.mk (⟨#[111, 108, 100]⟩) ⟨#[]⟩ true)] : List TWrite) ⟨#[]⟩ ⟨#[]⟩ false 0 (TReceipt.mk (TQuery.mk 0 ([] : List Rng) ⟨#[]⟩ 0) ([] : List TVisit) ([] : List TVisit))), (TRecord.mk 3 ([] : List TWrite) ⟨#[]⟩ ⟨#[]⟩ false 3 (TReceipt.mk y5 ([] : List TVisit) ([] : List TVisit)))] : List TRecord) ([y4.1] : List (List Kv)) 0 : Option (List Int × Int × List TRecord × List (List Kv))) fun (x19, x20, log21, tables22) =>
 obnd (Mwld_Tape_Next (TTape.mk x19 x20) (tables22.length : Int)) fun y23 =>
 obnd (lget tables22 y23.1) fun e24 =>
 obnd (Mref20_Put e24 (Kv.mk (⟨#[111, 108, 100]⟩) ⟨#[49]⟩)) fun y25 =>
 obnd (app ([] : List TRecord) log21) fun l26 =>
 bnd (Mlaw37_proof e24) fun y27 =>
 obnd (app l26 ([(TRecord.mk 4 ([] : List TWrite) ⟨#[]⟩ ⟨#[]⟩ false 3 y27)] : List TRecord)) fun l28 =>
 obnd (Maudit_Check y4.1 l28) fun y29 =>
 obnd (app ([] : List TRecord) log21) fun l30 =>
 bnd (Mlaw37_proof y25.1) fun y31 =>
 obnd (app l30 ([(TRecord.mk 4 ([] : List TWrite) ⟨#[]⟩ ⟨#[]⟩ false 3 y31)] : List TRecord)) fun l32 =>
 obnd (Maudit_Check y4.1 l32) fun y33 =>
 obnd (app ([] : List TRecord) log21) fun l34 =>
 bnd (Mlaw37_proof e24) fun y35 =>
 obnd (app l34 ([(TRecord.mk 4 ([] : List TWrite) ⟨#[]⟩ ⟨#[]⟩ false 2 y35)] : List TRecord)) fun l36 =>
 obnd (Maudit_Check y4.1 l36) fun y37 =>
 sel (decide (y29.2 = 0)) (
  sel (decide (y29.1 = i64w ((log21.length : Int) + 1))) (
   sel (decide (y33.2 = 11)) (
    sel (decide (y33.1 = (log21.length : Int))) (
     sel (decide (y37.2 = 7)) (
      obnd (Mlaw37_awake) fun y38 =>
      some y38) (
      some false)) (
     some false)) (
    some false)) (
   some false)) (
  some false)
theorem Mlaw37_AuditRefuses_sp {l1 : List Int} {n2 : Int} {y : Bool} (hm : Mlaw37_AuditRefuses l1 n2 = some y) : Spec Tryz.prog 7 [.d (lst dsI l1), .d (.c (.int .u8 n2))] [] fun u h => u = vB y ∧ h = [] := by
 refine si Tryz.func7 Tryz.ntmps7 Tryz.results7 fun B w0 ρ0 => ?_
 unfold Mlaw37_AuditRefuses at hm
 refine sr ?_
 refine sr ?_
 obtain ⟨y3, hy, hm⟩ := obnd_o hm
 refine wl_mkn (u' := .p 202301 0) (h' := [(202301, some (.box 89 [.d (lst dsI y3.l), vI y3.at_]))]) (Mwld_New_sp (hm := hy)) 202300 rfl rfl rfl (by repeat (first | exact Vws.nil | apply Vws.cons | exact Vw.nil | exact Vw.d _ | exact Vw.q _ | apply Vw.a)) rfl (by (try simp only [renH, Option.map_some, Blk.ren, rens_d]); rfl) rfl rfl rfl rfl ?_
 refine sr ?_
 obtain ⟨y4, hy, hm⟩ := obnd_o hm
 refine wl_iq (Mwld_Tape_Rows_sp (hm := hy)) 202301 ?_
 refine sr ?_
 refine wl_bt TWrite.ds [(TWrite.mk (⟨#[111, 108, 100]⟩) ⟨#[49]⟩ false)] rfl rfl (by simp only [flatV, cellsV, List.cons_append, List.nil_append, List.append_nil]; exact rfl) rfl rfl rfl rfl rfl rfl ?_
 refine ss ?_
 refine wl_bt TWrite.ds [(TWrite.mk (⟨#[111, 108, 100]⟩) ⟨#[]⟩ true)] rfl rfl (by simp only [flatV, cellsV, List.cons_append, List.nil_append, List.append_nil]; exact rfl) rfl rfl rfl rfl rfl rfl ?_
 refine ss ?_
 obtain ⟨y5, hy, hm⟩ := bnd_o hm
 refine wl_cq (Mwld_Whole_sp (hm := hy)) ?_
 refine ss ?_
 refine wl_wkw [(202301, 202301)] ⟨[(1, .d (.c (.int .u8 n2))), (5, .p 202301 0), (6, .d (lst Kv.ds y4.1)), (28, .a [vI 1, .d (lst TWrite.ds ([(TWrite.mk (⟨#[111, 108, 100]⟩) ⟨#[49]⟩ false)] : List TWrite)), vS ⟨#[]⟩, vS ⟨#[]⟩, vB false, vI 0, vI 0, .d (lst Rng.ds ([] : List Rng)), vS ⟨#[]⟩, vI 0, .d (lst TVisit.ds ([] : List TVisit)), .d (lst TVisit.ds ([] : List TVisit))]), (31, .a [vI 1, .d (lst TWrite.ds ([(TWrite.mk (⟨#[111, 108, 100]⟩) ⟨#[]⟩ true)] : List TWrite)), vS ⟨#[]⟩, vS ⟨#[]⟩, vB false, vI 0, vI 0, .d (lst Rng.ds ([] : List Rng)), vS ⟨#[]⟩, vI 0, .d (lst TVisit.ds ([] : List TVisit)), .d (lst TVisit.ds ([] : List TVisit))]), (34, .a [vI 3, .d (lst TWrite.ds ([] : List TWrite)), vS ⟨#[]⟩, vS ⟨#[]⟩, vB false, vI 3, vI y5.Kind, .d (lst Rng.ds y5.Ranges), vS y5.Key, vI y5.Count, .d (lst TVisit.ds ([] : List TVisit)), .d (lst TVisit.ds ([] : List TVisit))])], [(202301, some (.box 89 [.d (lst dsI y4.2.l), vI y4.2.at_]))]⟩ ?_
 refine ss ?_
 refine wl_1 (n_bso (k := 135) TRecord.ds [(TRecord.mk 1 ([(TWrite.mk (⟨#[111, 108, 100]⟩) ⟨#[49]⟩ false)] : List TWrite) ⟨#[]⟩ ⟨#[]⟩ false 0 (TReceipt.mk (TQuery.mk 0 ([] : List Rng) ⟨#[]⟩ 0) ([] : List TVisit) ([] : List TVisit))), (TRecord.mk 1 ([(TWrite.mk (⟨#[111, 108, 100]⟩) ⟨#[]⟩ true)] : List TWrite) ⟨#[]⟩ ⟨#[]⟩ false 0 (TReceipt.mk (TQuery.mk 0 ([] : List Rng) ⟨#[]⟩ 0) ([] : List TVisit) ([] : List TVisit))), (TRecord.mk 3 ([] : List TWrite) ⟨#[]⟩ ⟨#[]⟩ false 3 (TReceipt.mk y5 ([] : List TVisit) ([] : List TVisit)))] rfl rfl rfl rfl (by simp only [flatV, cellsV, List.cons_append, List.nil_append, List.append_nil]; exact rfl) rfl rfl) rfl rfl rfl rfl ?_
 refine sr ?_
 refine wl_1 (n_bso (k := 137) (dsL Kv.ds) [y4.1] rfl rfl rfl rfl (by simp only [flatV, cellsV, List.cons_append, List.nil_append, List.append_nil]; exact rfl) rfl rfl) rfl rfl rfl rfl ?_
 refine sr ?_
 obtain ⟨mu1, hm1, hm⟩ := obnd_o hm
 refine wc_cut' (fun st => ∃ (x19 : List Int) (x20 : Int) (log21 : List TRecord) (tables22 : List (List Kv)), mu1 = (x19, x20, log21, tables22) ∧ st = ⟨[(5, .p 202301 0), (6, .d (lst Kv.ds y4.1)), (7, .d (lst TRecord.ds log21)), (8, .d (lst (dsL Kv.ds) tables22))], [(202301, some (.box 89 [.d (lst dsI x19), vI x20]))]⟩) ?_ ?_
 ·refine wc_block ?_
  refine wc_loopw (fun κ st => ∃ (x6 : List Int) (x7 : Int) (log8 : List TRecord) (tables9 : List (List Kv)) (i10 : Int), Mlaw37_AuditRefuses_l1 n2 κ x6 x7 log8 tables9 i10 = some mu1 ∧ st = ⟨[(1, .d (.c (.int .u8 n2))), (5, .p 202301 0), (6, .d (lst Kv.ds y4.1)), (7, .h 5001), (8, .h 5002), (9, vI i10)], [(5001, some (arrT 65 12 TRecord.ds log8)), (5002, some (arrT 26 1 (dsL Kv.ds) tables9)), (202301, some (.box 89 [.d (lst dsI x6), vI x7]))]⟩) [(5001, 135), (5002, 137), (202301, 202301)] ⟨_, _, _, _, _, hm1, rfl⟩ ?_
  rintro κ _ ⟨x6, x7, log8, tables9, i10, hm1, rfl⟩
  cases κ with
  | zero => rw [Mlaw37_AuditRefuses_l1.eq_1] at hm1; cases hm1
  | succ κ =>
   rw [Mlaw37_AuditRefuses_l1.eq_2] at hm1
   refine sr ?_
   obtain ⟨q11, hy, hm1⟩ := obnd_o hm1
   refine wl_r (o_irem hy rfl rfl rfl) rfl rfl rfl ?_
   refine ss ?_
   refine wl_r (o_cvi (k1 := .u8) (k2 := .i64) rfl rfl (by kernel_rfl) (by kernel_rfl) rfl) rfl rfl rfl ?_
   refine ss ?_
   obtain ⟨mu2, hm2, hm1⟩ := obnd_o hm1
   refine wc_cut' (fun st => mu2 = Ctl.nxt () ∧ st = ⟨[(1, .d (.c (.int .u8 n2))), (5, .p 202301 0), (6, .d (lst Kv.ds y4.1)), (7, .h 5001), (8, .h 5002), (9, vI i10)], [(5001, some (arrT 65 12 TRecord.ds log8)), (5002, some (arrT 26 1 (dsL Kv.ds) tables9)), (202301, some (.box 89 [.d (lst dsI x6), vI x7]))]⟩) ?_ ?_
   ·refine wc_cs hm2 ?_ ?_ <;> clear hm2 <;> intro hm2
    ·refine sx ?_
     cases hm2
     exact wk_cutw [(5001, 5001), (5002, 5002), (202301, 202301)] ⟨rfl, rfl⟩
    refine wc_exit ?_
    refine ss ?_
    cases hm2
    replace hm1 := ocbnd_r hm1
    cases hm1
    exact wk_cutw [(202301, 202301)] ⟨_, _, _, _, rfl, rfl⟩
   rintro _ ⟨rfl, rfl⟩
   replace hm1 := ocbnd_n hm1
   refine sr ?_
   obtain ⟨y12, hy, hm1⟩ := bnd_o hm1
   refine wl_cq (Mwld_All_sp (hm := hy)) ?_
   refine ss ?_
   obtain ⟨y13, hy, hm1⟩ := obnd_o hm1
   refine wl_iq (Mwld_Tape_WriteIn_sp (hm := hy)) 202301 ?_
   refine ss ?_
   refine wl_bt TWrite.ds [y13.1] rfl rfl (by simp only [flatV, cellsV, List.cons_append, List.nil_append, List.append_nil]; exact rfl) rfl rfl rfl rfl rfl rfl ?_
   refine sr ?_
   obtain ⟨e14, hy, hm1⟩ := obnd_o hm1
   refine wl_r (o_ixg (ys := [dS e14.Key, dS e14.Value, dB e14.Delete]) hy rfl rfl rfl rfl) rfl rfl rfl ?_
   refine ss ?_
   refine wc_cs hm1 ?_ ?_ <;> clear hm1 <;> intro hm1
   ·refine wc_exit ?_
    refine sr ?_
    refine wl_r (o_add rfl rfl rfl rfl) rfl rfl rfl ?_
    refine ss ?_
    exact wk_loopw [(5001, 5001), (5002, 5002), (202301, 202301)] ⟨_, _, _, _, _, hm1, rfl⟩ (Nat.lt_succ_self _)
   refine sx ?_
   refine sr ?_
   obtain ⟨e15, hy, hm1⟩ := obnd_o hm1
   have hge15 := hy
   refine wl_r (o_ixo hy rfl rfl rfl rfl) rfl rfl rfl ?_
   refine ss ?_
   refine wl_r (o_ldo (k := 5002) (f := (dsL Kv.ds)) (zz := 1) (u := .d (lst Kv.ds e15)) (off := 0) hge15 rfl rfl rfl (by exact inferInstance) rfl rfl) rfl rfl rfl ?_
   refine ss ?_
   obtain ⟨y16, hy, hm1⟩ := obnd_o hm1
   refine wl_cq (Mref20_Apply_sp (hm := hy)) ?_
   refine sr ?_
   refine wl_bt (dsL Kv.ds) [y16.1] rfl rfl (by simp only [flatV, cellsV, List.cons_append, List.nil_append, List.append_nil]; exact rfl) rfl rfl rfl rfl rfl rfl ?_
   refine ss ?_
   obtain ⟨l17, hy, hm1⟩ := obnd_o hm1
   refine wl_2 (n_app (k' := 168) hy rfl rfl rfl rfl rfl rfl rfl rfl) rfl rfl rfl rfl ?_
   refine ss ?_
   refine wl_wkw [(168, 168), (5001, 5001), (202301, 202301)] ⟨[(1, .d (.c (.int .u8 n2))), (5, .p 202301 0), (6, .d (lst Kv.ds y4.1)), (7, .h 5001), (9, vI i10), (68, .h 168), (69, .h 5001), (71, .a [vI 1, .d (lst TWrite.ds ([y13.1] : List TWrite)), vS ⟨#[]⟩, vS ⟨#[]⟩, vB false, vI 0, vI 0, .d (lst Rng.ds ([] : List Rng)), vS ⟨#[]⟩, vI 0, .d (lst TVisit.ds ([] : List TVisit)), .d (lst TVisit.ds ([] : List TVisit))])], [(168, some (arrT 26 1 (dsL Kv.ds) l17)), (5001, some (arrT 65 12 TRecord.ds log8)), (202301, some (.box 89 [.d (lst dsI y13.2.l), vI y13.2.at_]))]⟩ ?_
   refine ss ?_
   refine wl_bt TRecord.ds [(TRecord.mk 1 ([y13.1] : List TWrite) ⟨#[]⟩ ⟨#[]⟩ false 0 (TReceipt.mk (TQuery.mk 0 ([] : List Rng) ⟨#[]⟩ 0) ([] : List TVisit) ([] : List TVisit)))] rfl rfl (by simp only [flatV, cellsV, List.cons_append, List.nil_append, List.append_nil]; exact rfl) rfl rfl rfl rfl rfl rfl ?_
   refine ss ?_
   obtain ⟨l18, hy, hm1⟩ := obnd_o hm1
   refine wl_2 (n_app (k' := 173) hy rfl rfl rfl rfl rfl rfl rfl rfl) rfl rfl rfl rfl ?_
   refine sr ?_
   refine wl_r (o_add rfl rfl rfl rfl) rfl rfl rfl ?_
   refine ss ?_
   exact wk_loopw [(5001, 173), (5002, 168), (202301, 202301)] ⟨_, _, _, _, _, hm1, rfl⟩ (Nat.lt_succ_self _)
 rintro _ ⟨x19, x20, log21, tables22, rfl, rfl⟩
 refine sr ?_
 obtain ⟨y23, hy, hm⟩ := obnd_o hm
 refine wl_iq (Mwld_Tape_Next_sp (hm := hy)) 202301 ?_
 refine ss ?_
 obtain ⟨e24, hy, hm⟩ := obnd_o hm
 refine wl_r (o_ixg (ys := [lst Kv.ds e24]) hy rfl rfl rfl rfl) rfl rfl rfl ?_
 refine sr ?_
 obtain ⟨y25, hy, hm⟩ := obnd_o hm
 refine wl_cq (Mref20_Put_sp (hm := hy)) ?_
 refine sr ?_
 obtain ⟨l26, hy, hm⟩ := obnd_o hm
 refine wl_1 (n_appn (k := 190) hy rfl rfl rfl rfl rfl rfl) rfl rfl rfl rfl ?_
 refine ss ?_
 obtain ⟨y27, hy, hm⟩ := bnd_o hm
 refine wl_cq (Mlaw37_proof_sp (hm := hy)) ?_
 refine ss ?_
 refine wl_wkw [(190, 190)] ⟨[(6, .d (lst Kv.ds y4.1)), (7, .d (lst TRecord.ds log21)), (13, .d (lst Kv.ds e24)), (14, .d (lst Kv.ds y25.1)), (88, .d (lst Kv.ds y4.1)), (90, .h 190), (93, .a [vI 4, .d (lst TWrite.ds ([] : List TWrite)), vS ⟨#[]⟩, vS ⟨#[]⟩, vB false, vI 3, vI y27.Query.Kind, .d (lst Rng.ds y27.Query.Ranges), vS y27.Query.Key, vI y27.Query.Count, .d (lst TVisit.ds y27.First), .d (lst TVisit.ds y27.Second)])], [(190, some (arrT 65 12 TRecord.ds l26))]⟩ ?_
 refine ss ?_
 refine wl_bt TRecord.ds [(TRecord.mk 4 ([] : List TWrite) ⟨#[]⟩ ⟨#[]⟩ false 3 y27)] rfl rfl (by simp only [flatV, cellsV, List.cons_append, List.nil_append, List.append_nil]; exact rfl) rfl rfl rfl rfl rfl rfl ?_
 refine ss ?_
 obtain ⟨l28, hy, hm⟩ := obnd_o hm
 refine wl_2 (n_app (k' := 195) hy rfl rfl rfl rfl rfl rfl rfl rfl) rfl rfl rfl rfl ?_
 refine ss ?_
 obtain ⟨y29, hy, hm⟩ := obnd_o hm
 refine wl_lend (Maudit_Check_sp (hm := hy)) ?_
 refine sr ?_
 obtain ⟨l30, hy, hm⟩ := obnd_o hm
 refine wl_1 (n_appn (k := 202) hy rfl rfl rfl rfl rfl rfl) rfl rfl rfl rfl ?_
 refine ss ?_
 obtain ⟨y31, hy, hm⟩ := bnd_o hm
 refine wl_cq (Mlaw37_proof_sp (hm := hy)) ?_
 refine ss ?_
 refine wl_wkw [(202, 202)] ⟨[(6, .d (lst Kv.ds y4.1)), (7, .d (lst TRecord.ds log21)), (13, .d (lst Kv.ds e24)), (16, vI y29.1), (17, vI y29.2), (100, .d (lst Kv.ds y4.1)), (102, .h 202), (105, .a [vI 4, .d (lst TWrite.ds ([] : List TWrite)), vS ⟨#[]⟩, vS ⟨#[]⟩, vB false, vI 3, vI y31.Query.Kind, .d (lst Rng.ds y31.Query.Ranges), vS y31.Query.Key, vI y31.Query.Count, .d (lst TVisit.ds y31.First), .d (lst TVisit.ds y31.Second)])], [(202, some (arrT 65 12 TRecord.ds l30))]⟩ ?_
 refine ss ?_
 refine wl_bt TRecord.ds [(TRecord.mk 4 ([] : List TWrite) ⟨#[]⟩ ⟨#[]⟩ false 3 y31)] rfl rfl (by simp only [flatV, cellsV, List.cons_append, List.nil_append, List.append_nil]; exact rfl) rfl rfl rfl rfl rfl rfl ?_
 refine ss ?_
 obtain ⟨l32, hy, hm⟩ := obnd_o hm
 refine wl_2 (n_app (k' := 207) hy rfl rfl rfl rfl rfl rfl rfl rfl) rfl rfl rfl rfl ?_
 refine ss ?_
 obtain ⟨y33, hy, hm⟩ := obnd_o hm
 refine wl_lend (Maudit_Check_sp (hm := hy)) ?_
 refine sr ?_
 obtain ⟨l34, hy, hm⟩ := obnd_o hm
 refine wl_1 (n_appn (k := 214) hy rfl rfl rfl rfl rfl rfl) rfl rfl rfl rfl ?_
 refine ss ?_
 obtain ⟨y35, hy, hm⟩ := bnd_o hm
 refine wl_cq (Mlaw37_proof_sp (hm := hy)) ?_
 refine ss ?_
 refine wl_wkw [(214, 214)] ⟨[(7, .d (lst TRecord.ds log21)), (16, vI y29.1), (17, vI y29.2), (18, vI y33.1), (19, vI y33.2), (112, .d (lst Kv.ds y4.1)), (114, .h 214), (117, .a [vI 4, .d (lst TWrite.ds ([] : List TWrite)), vS ⟨#[]⟩, vS ⟨#[]⟩, vB false, vI 2, vI y35.Query.Kind, .d (lst Rng.ds y35.Query.Ranges), vS y35.Query.Key, vI y35.Query.Count, .d (lst TVisit.ds y35.First), .d (lst TVisit.ds y35.Second)])], [(214, some (arrT 65 12 TRecord.ds l34))]⟩ ?_
 refine ss ?_
 refine wl_bt TRecord.ds [(TRecord.mk 4 ([] : List TWrite) ⟨#[]⟩ ⟨#[]⟩ false 2 y35)] rfl rfl (by simp only [flatV, cellsV, List.cons_append, List.nil_append, List.append_nil]; exact rfl) rfl rfl rfl rfl rfl rfl ?_
 refine ss ?_
 obtain ⟨l36, hy, hm⟩ := obnd_o hm
 refine wl_2 (n_app (k' := 219) hy rfl rfl rfl rfl rfl rfl rfl rfl) rfl rfl rfl rfl ?_
 refine ss ?_
 obtain ⟨y37, hy, hm⟩ := obnd_o hm
 refine wl_lend (Maudit_Check_sp (hm := hy)) ?_
 refine sr ?_
 refine wl_sg hm ?_ ?_ <;> clear hm <;> intro hm
 ·refine ss ?_
  refine wl_r (o_add rfl rfl rfl rfl) rfl rfl rfl ?_
  refine ss ?_
  refine wl_sg hm ?_ ?_ <;> clear hm <;> intro hm
  ·refine ss ?_
   refine wl_sg hm ?_ ?_ <;> clear hm <;> intro hm
   ·refine ss ?_
    refine wl_sg hm ?_ ?_ <;> clear hm <;> intro hm
    ·refine ss ?_
     refine wl_sg hm ?_ ?_ <;> clear hm <;> intro hm
     ·refine ss ?_
      obtain ⟨y38, hy, hm⟩ := obnd_o hm
      refine wl_cq (Mlaw37_awake_sp (hm := hy)) ?_
      refine sx ?_
      cases hm
      exact wk_r
     refine sx ?_
     cases hm
     exact wk_r
    refine sx ?_
    cases hm
    exact wk_r
   refine sx ?_
   cases hm
   exact wk_r
  refine sx ?_
  cases hm
  exact wk_r
 refine sx ?_
 cases hm
 exact wk_r

end Go.Proofs.YtohpjdeohpamaaaGreatDoor
namespace Go.Proofs.YtohpjdeohpamaaaGreatDoor
open Go.RowKit
theorem sameVs_refl (l : List TVisit) : sameVs l l = true := by
  have h1 := sameVisits_refl l
  rw [eq_ref28_SameVisits] at h1
  exact Option.some.inj h1
def visW (t : List Kv) : TVisit := ⟨⟨1, Mwld_All, ⟨0, 0⟩, t⟩, Mwld_All⟩
theorem proof_eq (t : List Kv) : Mlaw37_proof t = ⟨Mwld_Whole, [visW t], [visW t]⟩ := rfl
theorem tiling_visits {t : List Kv} (h : tvalid t = true) : tilingW Mwld_Whole [visW t] = 0 := by
  have hall : (t.all fun x => contains Mwld_All x.key) = true := List.all_eq_true.2 fun r hr => by
    have := ((tvalid_iff t).1 h).2.1 r hr
    simp only [vrow, Bool.and_eq_true] at this
    exact contains_all this.1
  have hv : vOk (visW t) = true := by
    unfold vOk validV visW
    simp only
    rw [emp_all, h, hall, show numOk 1 = true by kernel_rfl, show stOk ⟨0, 0⟩ = true by kernel_rfl, show inside Mwld_All Mwld_All = true by kernel_rfl]; rfl
  have hr : rOk (visW t) = true := hall
  unfold tilingW
  rw [if_neg (by simp [qch_whole]), tl1, if_pos hv, if_pos hr, tl1]
  simp only
  have hp : posT Mwld_Whole [visW t] = Mwld_All.lo := by
    unfold posT
    rw [qrg_whole]
    rw [show downQ Mwld_Whole = false by kernel_rfl]
    rfl
  have c0 : cmp Mwld_All.lo Mwld_All.lo = 0 := by kernel_rfl
  have c1 : cmp Mwld_All.hi Mwld_All.hi = 0 := by kernel_rfl
  rw [hp, qrg_whole, tl2]
  simp only [List.getElem?_cons_zero]
  rw [show (visW t).Part = Mwld_All from rfl, c0, c1]
  simp [tl2]
theorem ck_proof {t : List Kv} (h : tvalid t = true) : (ckA (Mlaw37_proof t)).2 = 0 ∧ (ckA (Mlaw37_proof t)).1.Rows = t ∧ Mref21_Of t = some (ckA (Mlaw37_proof t)).1.Fold := by
  have hl := ((tvalid_iff t).1 h).1
  have ok := okR_proof hl
  obtain ⟨a, h1, h2, h3⟩ := check_eq (Mlaw37_proof t) ok.q ok.f ok.s
  have e0 : checkE (Mlaw37_proof t) = 0 := by
    unfold checkE
    rw [proof_eq]
    simp only
    rw [tiling_visits h, if_neg (by simp), if_neg (by simp), if_pos (sameVs_refl _)]
  have e : ckA (Mlaw37_proof t) = (a, checkE (Mlaw37_proof t)) := by unfold ckA; rw [h2]; rfl
  obtain ⟨h4, h5⟩ := h3 e0
  have hr : a.Rows = t := by
    rw [h4, proof_eq]
    simp [rowsW, visW, qtk, show (Mwld_Whole).Kind = 1 from rfl]
  rw [hr] at h5
  rw [e]
  exact ⟨e0, hr, h5⟩
theorem ans_whole {u : List Kv} (h : tvalid u = true) : ∃ b : TAnswer, Mquery_Answer u Mwld_Whole = some (b, 0) ∧ b.Rows = u ∧ Mref21_Of u = some b.Fold := by
  obtain ⟨b, e, h1, -, h2, h3⟩ := answer_eq u Mwld_Whole (by rw [whole_q]; omega)
  have q0 : qchk Mwld_Whole.Kind Mwld_Whole.Ranges Mwld_Whole.Key Mwld_Whole.Count = 0 := qch_whole
  rw [q0, if_pos rfl, h, if_pos rfl] at h2
  subst h2
  obtain ⟨h4, -, h5⟩ := h3 rfl
  have hq : qranges Mwld_Whole.Kind Mwld_Whole.Ranges Mwld_Whole.Key Mwld_Whole.Count = [Mwld_All] := qrg_whole
  rw [hq] at h4
  have hr : b.Rows = u := by
    rw [h4]
    simp [qslices, qtk, show (Mwld_Whole).Kind = 1 from rfl, flt_whole h]
  rw [hr] at h5
  exact ⟨b, h1, hr, h5⟩
theorem mom_proof {t : List Kv} (h : tvalid t = true) : ∀ (ts : List (List Kv)) (i : Int), (∀ u ∈ ts, tvalid u = true) → (match momW Mwld_Whole (ckA (Mlaw37_proof t)).1 ts i with | .ret r => r | .nxt _ => (0, false)).2 = decide (t ∈ ts)
  | [], i, _ => by simp [momW]
  | u :: ts, i, hv => by
    obtain ⟨-, c2, c3⟩ := ck_proof h
    obtain ⟨b, b1, b2, b3⟩ := ans_whole (hv u List.mem_cons_self)
    rw [momW, b1]
    by_cases e : t = u
    · subst e
      have : b = (ckA (Mlaw37_proof t)).1 := by
        rw [b3] at c3
        have := Option.some.inj c3
        cases b; cases hh : (ckA (Mlaw37_proof t)).1
        simp only at b2 this
        rw [hh] at c2 this
        simp only at c2 this
        rw [b2, c2, this]
      rw [this, if_pos rfl]
      simp
    · rw [if_neg (fun hh => e (by simp only [Option.some.injEq, Prod.mk.injEq, and_true] at hh; rw [← c2, ← b2, hh]))]
      rw [mom_proof h ts (i + 1) fun x hx => hv x (List.mem_cons_of_mem _ hx)]
      simp [e]
theorem mom_eq {t : List Kv} (h : tvalid t = true) {ts : List (List Kv)} (hv : ∀ u ∈ ts, tvalid u = true) : (mom Mwld_Whole (ckA (Mlaw37_proof t)).1 ts).2 = decide (t ∈ ts) := mom_proof h ts 0 hv
theorem runA_snoc : ∀ (l : List TRecord) (i : Int) (s : AS) (r : TRecord), runA (l ++ [r]) i s = match runA l i s with
    | .ret e => .ret e
    | .nxt s' => if (recW s' (i + l.length) r).1 = 0 then .nxt (recW s' (i + l.length) r).2 else .ret (i + l.length, (recW s' (i + l.length) r).1)
  | [], i, s, r => by simp [runA]
  | x :: l, i, s, r => by
    rw [List.cons_append, runA, runA]
    split
    · rw [runA_snoc l (i + 1) _ r]
      have : i + 1 + (l.length : Int) = i + ((x :: l).length : Int) := by simp; omega
      rw [this]
    · rfl
theorem rec_write {s : AS} {i : Int} {r : TRecord} (hk : r.Kind = 1) (h0 : (applyW s.now r.Writes).2 = 0) : recW s i r = (0, s.push (applyW s.now r.Writes).1) := by
  unfold recW; rw [if_pos hk, if_pos h0]
theorem rec_begin {s : AS} {i : Int} {r : TRecord} (hk : r.Kind = 3) (h0 : s.bg r.Query = none) : recW s i r = (0, { s.push s.now with bg := fun q => if q = r.Query then some (i, r.Receipt.Query) else s.bg q }) := by
  unfold recW; rw [if_neg (by omega), if_neg (by omega), if_pos hk, h0]
theorem rec_end {s : AS} {i : Int} {q : Int} {t : List Kv} (ht : tvalid t = true) {a : Int} (hb : s.bg q = some (a, Mwld_Whole)) (he : s.en q = false) (hv : ∀ u ∈ s.tabs.drop a.toNat ++ [s.now], tvalid u = true) : (recW s i ⟨4, [], ⟨#[]⟩, ⟨#[]⟩, false, q, Mlaw37_proof t⟩).1 = if t ∈ s.tabs.drop a.toNat ++ [s.now] then 0 else 11 := by
  unfold recW
  simp only
  rw [if_neg (by omega), if_neg (by omega), if_neg (by omega), if_pos trivial, hb]
  simp only
  rw [if_neg (by rw [he, proof_eq]; simp), if_neg (by simp [(ck_proof ht).1])]
  have hq : (Mlaw37_proof t).Query = Mwld_Whole := rfl
  rw [hq, mom_eq ht hv]
  by_cases h : t ∈ s.tabs.drop a.toNat ++ [s.now]
  · rw [if_pos h, decide_eq_true h]; rfl
  · rw [if_neg h, decide_eq_false h]; rfl
theorem rec_end_no {s : AS} {i : Int} {q : Int} {rc : TReceipt} (hb : s.bg q = none) : (recW s i ⟨4, [], ⟨#[]⟩, ⟨#[]⟩, false, q, rc⟩).1 = 7 := by
  unfold recW
  simp only
  rw [if_neg (by omega), if_neg (by omega), if_neg (by omega), if_pos trivial, hb]
theorem apply_one {t : List Kv} {w : TWrite} (ht : tvalid t = true) (hw : vwr w = true) (hl : t.length < 1024) : applyW t [w] = ((aplW t w).1, 0) ∧ tvalid (aplW t w).1 = true ∧ (aplW t w).1.length ≤ t.length + 1 := by
  have h0 : (aplW t w).2 = 0 ∧ tvalid (aplW t w).1 = true ∧ (aplW t w).1.length ≤ t.length + 1 := by
    obtain ⟨A, b, C, hp⟩ := parts w.Key ((tvalid_iff t).1 ht).2.2
    unfold aplW
    rw [if_pos hw]
    by_cases hd : w.Delete = true
    · rw [if_pos hd]
      refine ⟨rfl, by simp only [hp.without]; exact hp.valid ht, ?_⟩
      simp only
      unfold wthout
      have := List.length_filter_le (fun r : Kv => !decide (r.key = w.Key)) t
      omega
    · rw [if_neg hd]
      obtain ⟨g1, g2, g3⟩ := put_valid (x := ⟨w.Key, w.Value⟩) ht (vwr_row hw) hl
      rw [g1]; exact ⟨rfl, g2, g3⟩
  refine ⟨?_, h0.2⟩
  unfold applyW
  rw [if_pos ht, actl, if_pos h0.1, actl]
theorem apl_no {t : List Kv} {w : TWrite} (h : noOld t) (hk : w.Key ≠ oldK) : noOld (aplW t w).1 := by
  unfold aplW
  split
  · split
    · intro r hr; exact h r (List.mem_filter.1 hr).1
    · exact noOld_put hk h
  · intro r hr; cases hr
theorem wth_back {t : List Kv} (ht : tvalid t = true) (hn : noOld t) (v : ByteArray) (hl : t.length < 1024) (hv : vrow ⟨oldK, v⟩ = true) : wthout oldK (wth ⟨oldK, v⟩ t) = t := by
  obtain ⟨A, b, C, hp⟩ := parts oldK ((tvalid_iff t).1 ht).2.2
  have hb : b = none := by
    cases b with
    | none => rfl
    | some r => exact absurd (hp.mid r rfl) (hn r (by rw [hp.eq]; simp))
  subst hb
  have he : t = A ++ C := by have := hp.eq; simpa using this
  have hp2 : Parts oldK (A ++ ⟨oldK, v⟩ :: C) A (some ⟨oldK, v⟩) C := ⟨by simp, hp.lo, fun r hr => by cases hr; rfl, hp.hi⟩
  rw [hp.wth, hp2.without, he]
structure GoodA (s : AS) (tables : List (List Kv)) : Prop where
  now : ∃ T, tables = T ++ [s.now]
  tabs : ∃ a b, s.tabs = a :: b :: tables
  bg3 : s.bg 3 = some (2, Mwld_Whole)
  bg2 : s.bg 2 = none
  en : ∀ q, s.en q = false
  val : ∀ t ∈ tables, tvalid t = true ∧ noOld t ∧ t.length ≤ tables.length + 4
theorem GoodA.write {s : AS} {tables : List (List Kv)} (h : GoodA s tables) (hl : tables.length ≤ 100) {w : TWrite} (hw : vwr w = true) (hk : w.Key ≠ oldK) (i : Int) (rc : TReceipt) : (recW s i ⟨1, [w], ⟨#[]⟩, ⟨#[]⟩, false, 0, rc⟩).1 = 0 ∧ GoodA (recW s i ⟨1, [w], ⟨#[]⟩, ⟨#[]⟩, false, 0, rc⟩).2 (tables ++ [(applyW s.now [w]).1]) := by
  obtain ⟨T, hT⟩ := h.now
  obtain ⟨a, b, hab⟩ := h.tabs
  obtain ⟨v1, v2, v3⟩ := h.val s.now (by rw [hT]; simp)
  obtain ⟨e1, e2, e3⟩ := apply_one v1 hw (by omega)
  rw [rec_write rfl (by simp only [e1])]
  simp only [e1]
  refine ⟨trivial, ⟨tables, rfl⟩, ⟨a, b, by simp [AS.push, hab]⟩, h.bg3, h.bg2, h.en, fun t ht => ?_⟩
  rcases List.mem_append.1 ht with ht | ht
  · obtain ⟨g1, g2, g3⟩ := h.val t ht
    exact ⟨g1, g2, by simp; omega⟩
  · rw [List.mem_singleton.1 ht]
    exact ⟨e2, apl_no v2 hk, by simp; omega⟩
def rcN : TReceipt := ⟨⟨0, [], ⟨#[]⟩, 0⟩, [], []⟩
def log0 : List TRecord := [⟨1, [⟨oldK, ⟨#[49]⟩, false⟩], ⟨#[]⟩, ⟨#[]⟩, false, 0, rcN⟩, ⟨1, [⟨oldK, ⟨#[]⟩, true⟩], ⟨#[]⟩, ⟨#[]⟩, false, 0, rcN⟩, ⟨3, [], ⟨#[]⟩, ⟨#[]⟩, false, 3, ⟨Mwld_Whole, [], []⟩⟩]
theorem start0 {x : List Kv} (hx : tvalid x = true) (hn : noOld x) (hl : x.length ≤ 4) : ∃ s, runA log0 0 (AS0 x) = .nxt s ∧ GoodA s [x] := by
  have w1 : vwr ⟨oldK, ⟨#[49]⟩, false⟩ = true := by kernel_rfl
  have w2 : vwr ⟨oldK, ⟨#[]⟩, true⟩ = true := by kernel_rfl
  have hr1 : vrow ⟨oldK, ⟨#[49]⟩⟩ = true := by kernel_rfl
  obtain ⟨e1, e2, e3⟩ := apply_one hx w1 (by omega)
  have a1 : (aplW x ⟨oldK, ⟨#[49]⟩, false⟩).1 = wth ⟨oldK, ⟨#[49]⟩⟩ x := by
    unfold aplW
    rw [if_pos w1, if_neg (by simp)]
    rw [(put_valid (x := ⟨oldK, ⟨#[49]⟩⟩) hx hr1 (by omega)).1]
  rw [a1] at e1 e2 e3
  obtain ⟨f1, f2, f3⟩ := apply_one e2 w2 (by omega)
  have a2 : (aplW (wth ⟨oldK, ⟨#[49]⟩⟩ x) ⟨oldK, ⟨#[]⟩, true⟩).1 = x := by
    unfold aplW
    rw [if_pos w2, if_pos rfl]
    exact wth_back hx hn _ (by omega) hr1
  rw [a2] at f1
  unfold log0
  rw [runA, rec_write rfl (by show (applyW x _).2 = 0; rw [e1])]
  simp only [if_true]
  rw [show (applyW (AS0 x).now [⟨oldK, ⟨#[49]⟩, false⟩]).1 = wth ⟨oldK, ⟨#[49]⟩⟩ x by show (applyW x _).1 = _; rw [e1]]
  rw [runA, rec_write rfl (by show (applyW (wth ⟨oldK, ⟨#[49]⟩⟩ x) _).2 = 0; rw [f1])]
  simp only [if_true]
  rw [show (applyW ((AS0 x).push (wth ⟨oldK, ⟨#[49]⟩⟩ x)).now [⟨oldK, ⟨#[]⟩, true⟩]).1 = x by show (applyW (wth ⟨oldK, ⟨#[49]⟩⟩ x) _).1 = _; rw [f1]]
  rw [runA, rec_begin rfl rfl]
  simp only [if_true]
  rw [runA]
  refine ⟨_, rfl, ⟨[], rfl⟩, ⟨_, _, rfl⟩, rfl, rfl, fun _ => rfl, fun t ht => ?_⟩
  rw [List.mem_singleton.1 ht]
  exact ⟨hx, hn, by simp; omega⟩
theorem arefuse_l1 (n : Int) (x : List Kv) : ∀ (fuel : Nat) (τl : List Int) (τa : Int) (log : List TRecord) (tables : List (List Kv)) (i : Int), okT ⟨τl, τa⟩ → (∃ s, runA log 0 (AS0 x) = .nxt s ∧ GoodA s tables) → 0 ≤ i → (20 - i).toNat < fuel → i ≤ 20 → (log.length : Int) ≤ 3 + i → (tables.length : Int) ≤ 1 + i → (∀ r ∈ log, okR r.Receipt) →
    Tot (Mlaw37_AuditRefuses_l1 n fuel τl τa log tables i) fun y => okT ⟨y.1, y.2.1⟩ ∧ (∃ s, runA y.2.2.1 0 (AS0 x) = .nxt s ∧ GoodA s y.2.2.2) ∧ y.2.2.1.length ≤ 30 ∧ y.2.2.2.length ≤ 30 ∧ ∀ r ∈ y.2.2.1, okR r.Receipt
  | 0, _, _, _, _, _, _, _, _, h, _, _, _, _ => by omega
  | fuel + 1, τl, τa, log, tables, i, hτ, hs, hi, hf, hi2, hl, ht, hk => by
    rw [Mlaw37_AuditRefuses_l1]
    have hq : irem n 20 = some (n.tmod 20) := rfl
    have hq1 := Int.tmod_lt_of_pos n (show (0 : Int) < 20 by omega)
    have hq2 := Int.lt_tmod_of_pos n (show (0 : Int) < 20 by omega)
    rw [hq, obnd_some, i64w_id (by omega) (by omega)]
    by_cases h0 : ¬ i < n.tmod 20
    · rw [decide_eq_false h0]
      exact tot_some ⟨hτ, hs, by simp only; omega, by simp only; omega, hk⟩
    have h0 : i < n.tmod 20 := by omega
    rw [decide_eq_true h0]
    simp only [sel_true, obnd_some, ocbnd_nxt, bnd_eq]
    obtain ⟨y13, e13, h13, hw⟩ := tot_writeIn hτ
    have hno := writeIn_no e13
    rw [e13, obnd_some, show lget ([y13.1] : List TWrite) 0 = some y13.1 from rfl, obnd_some, decide_eq_false (by exact hno), sel_false]
    obtain ⟨s, hs1, hs2⟩ := hs
    obtain ⟨T, hT⟩ := hs2.now
    have hlast : lget tables (i64w ((tables.length : Int) - 1)) = some s.now := by
      have hTl : tables.length = T.length + 1 := by rw [hT]; simp
      rw [i64w_id (by omega) (by omega), show ((tables.length : Int) - 1) = (T.length : Int) by omega, hT, lget_nat]; simp
    rw [hlast, obnd_some, eq_ref20_Apply, obnd_some, app_le (by simp; omega), obnd_some, app_le (by simp; omega), obnd_some, i64w_id (by omega) (by omega)]
    obtain ⟨r0, r1⟩ := hs2.write (by omega) hw hno (0 + (log.length : Int)) ⟨⟨0, [], ⟨#[]⟩, 0⟩, [], []⟩
    refine arefuse_l1 n x fuel _ _ _ _ (i + 1) h13 ⟨_, by rw [runA_snoc, hs1]; simp only; rw [if_pos r0], r1⟩ (by omega) (by omega) (by omega) (by simp; omega) (by simp; omega) fun r hr => ?_
    rcases List.mem_append.1 hr with hr | hr
    · exact hk r hr
    · rw [List.mem_singleton.1 hr]; exact okR_none
theorem check_of {x : List Kv} (hx : tvalid x = true) {log : List TRecord} (hl : log.length ≤ 30) {s : AS} (hs : runA log 0 (AS0 x) = .nxt s) (r : TRecord) : checkW x (log ++ [r]) = if (recW s (log.length : Int) r).1 = 0 then ((log.length : Int) + 1, 0) else ((log.length : Int), (recW s (log.length : Int) r).1) := by
  unfold checkW
  rw [if_neg (by simp; omega), if_pos hx, runA_snoc, hs]
  simp only [Int.zero_add]
  by_cases h0 : (recW s (log.length : Int) r).1 = 0
  · rw [if_pos h0, if_pos h0]; simp
  · rw [if_neg h0, if_neg h0]
theorem auditRefuses_ok (l : List Int) (n : Int) : Mlaw37_AuditRefuses l n = some true := by
  have key : Tot (Mlaw37_AuditRefuses l n) fun b => b = true := by
    unfold Mlaw37_AuditRefuses
    obtain ⟨τ, e, h⟩ := new_ok l
    obtain ⟨y4, e4, h4, v4, l4⟩ := tot_rows h (n := 4) (by omega) (by omega)
    have no4 := rows_no e4
    rw [e, obnd_some, e4, obnd_some, bnd_eq]
    obtain ⟨s0, g0, g1⟩ := start0 v4 no4 (by omega)
    refine tot_obnd (arefuse_l1 n y4.1 FU _ _ log0 [y4.1] 0 h4 ⟨s0, g0, g1⟩ (by omega) (by simp only [FU]; omega) (by omega) (by simp [log0]) (by simp) fun r hr => ?_) fun y hy => ?_
    · simp only [log0, List.mem_cons, List.not_mem_nil, or_false] at hr
      rcases hr with rfl | rfl | rfl
      · exact okR_none
      · exact okR_none
      · exact okR_begin
    obtain ⟨xl, xa, log, tabs⟩ := y
    obtain ⟨p1, ⟨s, p2, p3⟩, p4, p5, p6⟩ := hy
    simp only at p1 p2 p3 p4 p5 p6
    obtain ⟨T, hT⟩ := p3.now
    obtain ⟨a, b, hab⟩ := p3.tabs
    simp only
    refine tot_obnd (tot_next p1 (by omega)) fun y23 h23 => ?_
    have c23 := h23.2
    unfold Cho at c23
    have hpos : 0 < tabs.length := by rw [hT]; simp
    refine tot_obnd (tot_lget (Q := fun t => t ∈ tabs) (by omega) (by omega) fun _ => List.getElem_mem _) fun e24 h24 => ?_
    obtain ⟨v1, v2, v3⟩ := p3.val e24 h24
    have hr1 : vrow ⟨oldK, ⟨#[49]⟩⟩ = true := by kernel_rfl
    obtain ⟨q1, q2, q3⟩ := put_valid (x := ⟨oldK, ⟨#[49]⟩⟩) v1 hr1 (by omega)
    rw [eq_ref20_Put _ _ (by omega), obnd_some]
    rw [show put (⟨⟨#[111, 108, 100]⟩, ⟨#[49]⟩⟩ : Kv) e24 = (wth ⟨oldK, ⟨#[49]⟩⟩ e24, 0) from q1]
    simp only [bnd_eq]
    have hap : app ([] : List TRecord) log = some log := by rw [app_le (by simp; omega)]; rfl
    have hap2 : ∀ r : TRecord, app log ([r] : List TRecord) = some (log ++ [r]) := fun r => app_le (by simp; omega)
    have hck : ∀ r : TRecord, okR r.Receipt → Maudit_Check y4.1 (log ++ [r]) = some (checkW y4.1 (log ++ [r])) := fun r hr => eq_audit_Check _ _ fun x hx => by
      rcases List.mem_append.1 hx with hx | hx
      · exact p6 x hx
      · rw [List.mem_singleton.1 hx]; exact hr
    have lw := ((tvalid_iff _).1 q2).1
    have lv := ((tvalid_iff _).1 v1).1
    rw [hap, obnd_some, hap2, obnd_some, hck _ (okR_proof lv), obnd_some, obnd_some, hap2, obnd_some, hck _ (okR_proof lw), obnd_some, obnd_some, hap2, obnd_some, hck _ (okR_proof lv), obnd_some]
    have hd : s.tabs.drop (2 : Int).toNat = tabs := by rw [hab]; rfl
    have hval : ∀ u ∈ s.tabs.drop (2 : Int).toNat ++ [s.now], tvalid u = true := fun u hu => by
      rw [hd] at hu
      rcases List.mem_append.1 hu with hu | hu
      · exact (p3.val u hu).1
      · rw [List.mem_singleton.1 hu]; exact (p3.val s.now (by rw [hT]; simp)).1
    have r1 : (recW s (log.length : Int) ⟨4, [], ⟨#[]⟩, ⟨#[]⟩, false, 3, Mlaw37_proof e24⟩).1 = 0 := by
      rw [rec_end v1 p3.bg3 (p3.en 3) hval, if_pos (by rw [hd]; exact List.mem_append_left _ h24)]
    have r2 : (recW s (log.length : Int) ⟨4, [], ⟨#[]⟩, ⟨#[]⟩, false, 3, Mlaw37_proof (wth ⟨oldK, ⟨#[49]⟩⟩ e24)⟩).1 = 11 := by
      rw [rec_end q2 p3.bg3 (p3.en 3) hval, if_neg (fun hh => ?_)]
      have hn : noOld (wth ⟨oldK, ⟨#[49]⟩⟩ e24) := by
        rw [hd] at hh
        rcases List.mem_append.1 hh with hh | hh
        · exact (p3.val _ hh).2.1
        · rw [List.mem_singleton.1 hh]; exact (p3.val s.now (by rw [hT]; simp)).2.1
      exact hn ⟨oldK, ⟨#[49]⟩⟩ (ins_mem.2 (.inl rfl)) rfl
    have r3 : (recW s (log.length : Int) ⟨4, [], ⟨#[]⟩, ⟨#[]⟩, false, 2, Mlaw37_proof e24⟩).1 = 7 := rec_end_no p3.bg2
    rw [check_of v4 p4 p2, check_of v4 p4 p2, check_of v4 p4 p2, r1, r2, r3, if_pos rfl, if_neg (by omega), if_neg (by omega)]
    simp only
    rw [i64w_id (by omega) (by omega)]
    simp only [decide_true, sel_true, aawake_ok, obnd_some]
    exact tot_some rfl
  obtain ⟨b, e, h⟩ := key
  rw [e, h]
end Go.Proofs.YtohpjdeohpamaaaGreatDoor
