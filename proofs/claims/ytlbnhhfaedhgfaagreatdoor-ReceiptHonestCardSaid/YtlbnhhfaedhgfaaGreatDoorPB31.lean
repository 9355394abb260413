/-
  Lemmas: The example of chapter 29.
-/
import Derived.Test.YtlbnhhfaedhgfaaGreatDoorPB28
import Derived.Test.YtlbnhhfaedhgfaaGreatDoorPB27
import Derived.Test.YtlbnhhfaedhgfaaGreatDoorPB23
import Derived.Test.YtlbnhhfaedhgfaaGreatDoorPB29
import Derived.Test.YtlbnhhfaedhgfaaGreatDoorPB30
import Derived.Test.YtlbnhhfaedhgfaaGreatDoorPB24
set_option linter.unusedSimpArgs false
set_option linter.unusedVariables false
namespace Go.Proofs.YtlbnhhfaedhgfaaGreatDoor
open Go.RowKit
theorem eq_replica_SameRange (a b : Rng) : Mreplica_SameRange a b = Mref24_SameRange a b := by
  unfold Mreplica_SameRange Mref24_SameRange
  simp only [bnd_eq, eq_keyspace_Compare, eq_ref1_Compare]
theorem sameList_l1 (a b : List Kv) (h : a.length = b.length) : ∀ (xs : List Kv) (m : Nat), a.drop m = xs → m ≤ a.length → Mreplica_sameList_api_Row__l1 a b xs (m : Int) = some (sel (decide (a.drop m = b.drop m)) (.nxt ()) (.ret false))
  | [], m, h1, hm => by
    have : a.length - m = 0 := by have := congrArg List.length h1; simpa using this
    rw [Mreplica_sameList_api_Row__l1.eq_1, drop_eq_iff h, dif_neg (by omega)]; rfl
  | r :: xs, m, h1, hm => by
    obtain ⟨h2, h3⟩ := drop_get h1
    have h4 := (List.getElem?_eq_some_iff.1 h2).1
    rw [Mreplica_sameList_api_Row__l1.eq_2, lget_nat, lget_nat, List.getElem?_eq_getElem h4, List.getElem?_eq_getElem (show m < b.length by omega), obnd_some, obnd_some, kv_eqb, show (m : Int) + 1 = ((m + 1 : Nat) : Int) by omega, sameList_l1 a b h xs (m + 1) h3 h4, drop_eq_iff h m, dif_pos h4]
    cases decide (a[m] = b[m]) <;> rfl
theorem eq_replica_SameRows (a b : List Kv) : Mreplica_SameRows a b = some (decide (a = b)) := by
  unfold Mreplica_SameRows Mreplica_sameList_api_Row_
  by_cases h : a.length = b.length
  · have := sameList_l1 a b h a 0 rfl (Nat.zero_le _)
    rw [show ((0 : Nat) : Int) = 0 from rfl, List.drop_zero, List.drop_zero] at this
    rw [decide_eq_true (by omega), this]
    cases decide (a = b) <;> rfl
  · have h2 : a ≠ b := fun e => h (by rw [e])
    rw [decide_eq_false (by omega), decide_eq_false h2]; rfl
def sameV (a b : TVisit) : Bool := decide (a.View.Owner = b.View.Owner) && decide (a.View.Stamp.Epoch = b.View.Stamp.Epoch) && decide (a.View.Stamp.Version = b.View.Stamp.Version) && Mref24_SameRange a.View.Interval b.View.Interval && Mref24_SameRange a.Part b.Part && decide (a.View.Rows = b.View.Rows)
theorem eq_ref28_SameVisit (a b : TVisit) : Mref28_SameVisit a b = some (sameV a b) := by
  unfold Mref28_SameVisit sameV
  rw [bnd_eq, bnd_eq, eq_ref20_Same, obnd_some]
  cases decide (a.View.Owner = b.View.Owner) <;> cases decide (a.View.Stamp.Epoch = b.View.Stamp.Epoch) <;> cases decide (a.View.Stamp.Version = b.View.Stamp.Version) <;> cases Mref24_SameRange a.View.Interval b.View.Interval <;> cases Mref24_SameRange a.Part b.Part <;> rfl
theorem eq_receipt_Same (a b : TVisit) : Mreceipt_Same a b = some (sameV a b) := by
  unfold Mreceipt_Same sameV
  rw [bnd_eq, bnd_eq, eq_replica_SameRange, eq_replica_SameRange, eq_replica_SameRows, obnd_some]
  cases decide (a.View.Owner = b.View.Owner) <;> cases decide (a.View.Stamp.Epoch = b.View.Stamp.Epoch) <;> cases decide (a.View.Stamp.Version = b.View.Stamp.Version) <;> cases Mref24_SameRange a.View.Interval b.View.Interval <;> cases Mref24_SameRange a.Part b.Part <;> rfl
def sameVs : List TVisit → List TVisit → Bool
  | [], [] => true
  | a :: l, b :: m => sameV a b && sameVs l m
  | _, _ => false
theorem sameVs_len : ∀ {a b : List TVisit}, sameVs a b = true → a.length = b.length
  | [], [], _ => rfl
  | a :: l, b :: m, h => by
    simp only [sameVs, Bool.and_eq_true] at h
    have := sameVs_len h.2
    simp [this]
  | [], _ :: _, h => by simp [sameVs] at h
  | _ :: _, [], h => by simp [sameVs] at h
theorem same_drop {a b : List TVisit} (h : a.length = b.length) {m : Nat} (hm : m < a.length) : sameVs (a.drop m) (b.drop m) = (sameV a[m] (b[m]'(by omega)) && sameVs (a.drop (m + 1)) (b.drop (m + 1))) := by
  rw [List.drop_eq_getElem_cons hm, List.drop_eq_getElem_cons (l := b) (by omega)]; rfl
theorem refSame_l1 (a b : List TVisit) (h : a.length = b.length) : ∀ (xs : List TVisit) (m : Nat), a.drop m = xs → m ≤ a.length → Mref28_SameVisits_l1 a b xs (m : Int) = some (sel (sameVs (a.drop m) (b.drop m)) (.nxt ()) (.ret false))
  | [], m, h1, hm => by
    have h2 : a.length - m = 0 := by have := congrArg List.length h1; simpa using this
    rw [Mref28_SameVisits_l1.eq_1, h1, List.drop_eq_nil_of_le (by omega)]; rfl
  | r :: xs, m, h1, hm => by
    obtain ⟨h2, h3⟩ := drop_get h1
    have h4 := (List.getElem?_eq_some_iff.1 h2).1
    rw [Mref28_SameVisits_l1.eq_2, lget_nat, lget_nat, List.getElem?_eq_getElem h4, List.getElem?_eq_getElem (show m < b.length by omega), obnd_some, obnd_some, eq_ref28_SameVisit, obnd_some, show (m : Int) + 1 = ((m + 1 : Nat) : Int) by omega, refSame_l1 a b h xs (m + 1) h3 h4, same_drop h h4]
    cases sameV a[m] (b[m]'(by omega)) <;> rfl
theorem eq_ref28_SameVisits (a b : List TVisit) : Mref28_SameVisits a b = some (sameVs a b) := by
  unfold Mref28_SameVisits
  by_cases h : a.length = b.length
  · have := refSame_l1 a b h a 0 rfl (Nat.zero_le _)
    rw [show ((0 : Nat) : Int) = 0 from rfl, List.drop_zero, List.drop_zero] at this
    rw [decide_eq_true (by omega), this]
    cases sameVs a b <;> rfl
  · have h2 : sameVs a b = false := by
      cases hh : sameVs a b with
      | false => rfl
      | true => exact absurd (sameVs_len hh) h
    rw [decide_eq_false (by omega), h2]; rfl
def vOk (v : TVisit) : Bool := validV v.View && !emp v.Part && inside v.View.Interval v.Part
def rOk (v : TVisit) : Bool := v.View.Rows.all fun x => contains v.Part x.key
def tl1 : List TVisit → Ctl Int Unit
  | [] => .nxt ()
  | v :: l => if vOk v = true then (if rOk v = true then tl1 l else .ret 17) else .ret 1
def tl2 (R : List Rng) : List TVisit → Nat → Bnd → Ctl Int Int
  | [], a, _ => .nxt (a : Int)
  | v :: l, a, p => match R[a]? with
    | none => .ret 2
    | some e => if 0 < cmp v.Part.lo p then .ret 9 else if cmp v.Part.lo p < 0 then .ret 10 else if 0 < cmp v.Part.hi e.hi then .ret 2 else if cmp v.Part.hi e.hi = 0 then tl2 R l (a + 1) (match R[a + 1]? with | some x => x.lo | none => v.Part.hi) else tl2 R l a v.Part.hi
theorem rec_Tiling_l1 : ∀ l : List TVisit, (∀ v ∈ l, v.View.Rows.length ≤ 10000) → Mreceipt_Tiling_l1 l = some (tl1 l)
  | [], _ => rfl
  | v :: l, h => by
    have hv := h v List.mem_cons_self
    have ih := rec_Tiling_l1 l fun x hx => h x (List.mem_cons_of_mem _ hx)
    rw [Mreceipt_Tiling_l1.eq_2, eq_walk_ValidView _ hv, obnd_some, bnd_eq, bnd_eq, eq_keyspace_Empty, eq_walk_Inside, eq_table_Slice _ _ (by omega), ih, tl1]
    unfold vOk rOk
    cases validV v.View with
    | false => rfl
    | true =>
      cases emp v.Part with
      | true => rfl
      | false =>
        cases inside v.View.Interval v.Part with
        | false => rfl
        | true =>
          simp only [Bool.not_true, sel_false, Bool.not_false, obnd_some, Bool.and_self, if_true, flt_all]
          cases (v.View.Rows.all fun x => contains v.Part x.key) <;> rfl
theorem ref_Tiling_l1 : ∀ l : List TVisit, Mref28_Tiling_l1 l = some (tl1 l)
  | [] => rfl
  | v :: l => by
    have ih := ref_Tiling_l1 l
    rw [Mref28_Tiling_l1.eq_2, eq_ref28_ValidView, obnd_some, bnd_eq, bnd_eq, bnd_eq, eq_ref1_Empty, eq_ref28_inside, eq_ref20_Within, ih, tl1]
    unfold vOk rOk
    cases validV v.View with
    | false => rfl
    | true =>
      cases emp v.Part with
      | true => rfl
      | false =>
        cases inside v.View.Interval v.Part with
        | false => rfl
        | true =>
          simp only [Bool.not_true, sel_false, Bool.not_false, obnd_some, Bool.and_self, if_true]
          cases (v.View.Rows.all fun x => contains v.Part x.key) <;> rfl
theorem nxt_pos (R : List Rng) (a : Nat) (ha : a < 1000000) (hR : R.length ≤ 1000000) (p : Bnd) {α : Type} (K : ByteArray → Bool → Option α) :
    sel (decide (i64w ((a : Int) + 1) < (R.length : Int))) (obnd (lget R (i64w ((a : Int) + 1))) fun e => K e.lo.key e.lo.top) (K p.key p.top) = K (match R[a + 1]? with | some x => x.lo | none => p).key (match R[a + 1]? with | some x => x.lo | none => p).top := by
  rw [i64w_id (by omega) (by omega), show (a : Int) + 1 = ((a + 1 : Nat) : Int) by omega]
  by_cases h : a + 1 < R.length
  · rw [decide_eq_true (by omega), sel_true, lget_nat, List.getElem?_eq_getElem h, obnd_some]
  · rw [decide_eq_false (by omega), sel_false, List.getElem?_eq_none (by omega)]
theorem rec_Tiling_l2 (R : List Rng) (hR : R.length ≤ 100000) : ∀ (l : List TVisit) (a : Nat) (p : Bnd), a ≤ R.length → Mreceipt_Tiling_l2 R l (a : Int) p.key p.top = some (tl2 R l a p)
  | [], a, p, _ => rfl
  | v :: l, a, p, ha => by
    rw [Mreceipt_Tiling_l2.eq_2, bnd_eq, eq_keyspace_Compare, tl2]
    by_cases h : a = R.length
    · rw [decide_eq_true (by omega), sel_true, List.getElem?_eq_none (by omega)]
    · have hlt : a < R.length := by omega
      rw [decide_eq_false (by omega), sel_false, lget_nat, List.getElem?_eq_getElem hlt, obnd_some, bnd_eq, eq_keyspace_Compare]
      have ep : (⟨p.key, p.top⟩ : Bnd) = p := rfl
      rw [ep]
      simp only
      have c1 := cmp_rng v.Part.lo p
      have c2 := cmp_rng v.Part.hi R[a].hi
      rw [nxt_pos R a (by omega) (by omega) v.Part.hi fun k t => Mreceipt_Tiling_l2 R l (i64w ((a : Int) + 1)) k t]
      rw [i64w_id (by omega) (by omega), show (a : Int) + 1 = ((a + 1 : Nat) : Int) by omega, rec_Tiling_l2 R hR l (a + 1) _ (by omega), rec_Tiling_l2 R hR l a _ (by omega)]
      rcases c1 with c1 | c1 | c1 <;> rw [c1]
      · rfl
      · rcases c2 with c2 | c2 | c2 <;> rw [c2] <;> rfl
      · rfl
theorem ref_Tiling_l2 (R : List Rng) (hR : R.length ≤ 100000) : ∀ (l : List TVisit) (a : Nat) (p : Bnd), a ≤ R.length → Mref28_Tiling_l2 R l (a : Int) p.key p.top = some (tl2 R l a p)
  | [], a, p, _ => rfl
  | v :: l, a, p, ha => by
    rw [Mref28_Tiling_l2.eq_2, bnd_eq, bnd_eq, eq_ref1_Compare, tl2]
    by_cases h : a = R.length
    · rw [decide_eq_true (by omega), sel_true, List.getElem?_eq_none (by omega)]
    · have hlt : a < R.length := by omega
      rw [decide_eq_false (by omega), sel_false, lget_nat, List.getElem?_eq_getElem hlt, obnd_some, obnd_some, bnd_eq, bnd_eq, eq_ref1_Compare]
      have ep : (⟨p.key, p.top⟩ : Bnd) = p := rfl
      rw [ep]
      simp only
      have c1 := cmp_rng v.Part.lo p
      have c2 := cmp_rng v.Part.hi R[a].hi
      rw [nxt_pos R a (by omega) (by omega) v.Part.hi fun k t => Mref28_Tiling_l2 R l (i64w ((a : Int) + 1)) k t]
      rw [i64w_id (by omega) (by omega), show (a : Int) + 1 = ((a + 1 : Nat) : Int) by omega, ref_Tiling_l2 R hR l (a + 1) _ (by omega), ref_Tiling_l2 R hR l a _ (by omega)]
      rcases c1 with c1 | c1 | c1 <;> rw [c1]
      · rfl
      · rcases c2 with c2 | c2 | c2 <;> rw [c2] <;> rfl
      · rfl
def posT (q : TQuery) (l : List TVisit) : Bnd := match l with
  | [] => (match qrg q with | r :: _ => r.lo | [] => zb)
  | v :: _ => if (downQ q && enough q ((rowsW l).length : Int)) = true then v.Part.lo else (match qrg q with | r :: _ => r.lo | [] => zb)
def tilingW (q : TQuery) (l : List TVisit) : Int :=
  if qch q ≠ 0 then qch q else match tl1 l with
    | .ret e => e
    | .nxt _ => match tl2 (qrg q) l 0 (posT q l) with
      | .ret e => e
      | .nxt a => if a < ((qrg q).length : Int) then (if q.Kind = 3 ∧ enough q ((rowsW l).length : Int) = true then 0 else 9) else 0
structure okC (l : List TVisit) : Prop where
  vis : l.length ≤ 1000
  rows : ∀ v ∈ l, v.View.Rows.length ≤ 10000
theorem okC.w {l : List TVisit} (h : okC l) : okW ⟨⟨0, [], ⟨#[]⟩, 0⟩, [], l⟩ := ⟨by simp, by simp, h.vis, h.rows⟩
theorem qrg_64 (q : TQuery) : (qrg q).length ≤ 64 := qranges_le _ _ _ _
theorem pos_both (R : List Rng) : (sel (decide (0 < (R.length : Int))) (obnd (lget R 0) fun e15 => some (e15.lo.key, e15.lo.top)) (some (⟨#[]⟩, false)) : Option (ByteArray × Bool)) = some ((match R with | r :: _ => r.lo | [] => zb).key, (match R with | r :: _ => r.lo | [] => zb).top) := by
  cases R with
  | nil => rfl
  | cons r R =>
    rw [decide_eq_true (by simp), sel_true, lget_first, obnd_some]
theorem pos_two (q : TQuery) (l : List TVisit) (p : Bnd) (hp : p = match qrg q with | r :: _ => r.lo | [] => zb) : (obnd (sel (downQ q) (sel (enough q ((rowsW l).length : Int)) (some (decide (0 < (l.length : Int)))) (some false)) (some false) : Option Bool) fun x19 => (sel x19 (obnd (lget l 0) fun e20 => some (e20.Part.lo.key, e20.Part.lo.top)) (some (p.key, p.top)) : Option (ByteArray × Bool))) = some ((posT q l).key, (posT q l).top) := by
  cases l with
  | nil =>
    have e : posT q [] = p := by rw [hp]; rfl
    rw [e]
    cases downQ q <;> cases enough q ((rowsW []).length : Int) <;> rfl
  | cons v l =>
    have e0 : decide (0 < (((v :: l).length : Nat) : Int)) = true := decide_eq_true (by rw [List.length_cons]; omega)
    have e1 : lget (v :: l) 0 = some v := by
      have := lget_nat (v :: l) 0
      rw [show ((0 : Nat) : Int) = 0 from rfl] at this
      rw [this]; rfl
    have e2 : posT q (v :: l) = if (downQ q && enough q ((rowsW (v :: l)).length : Int)) = true then v.Part.lo else p := by rw [hp]; rfl
    rw [e0, e1, e2]
    cases downQ q <;> cases enough q ((rowsW (v :: l)).length : Int) <;> rfl
theorem obnd_assoc {α β γ : Type} (x : Option α) (f : α → Option β) (g : β → Option γ) : obnd (obnd x f) g = obnd x fun a => obnd (f a) g := by
  cases x <;> rfl
theorem eq_receipt_Tiling (q : TQuery) (hq : q.Ranges.length < 1000000) {l : List TVisit} (h : okC l) : Mreceipt_Tiling q l = some (tilingW q l) := by
  have e1 : Mquery_Check q = some (qch q) := if_pos hq
  have e2 : Mquery_Ranges q = some (qrg q) := if_pos hq
  have e3 : Mreceipt_rows l = some (rowsW l) := by unfold Mreceipt_rows; rw [eq_walk_Rows h.w, obnd_some]
  have ed : Mquery_Down q = downQ q := rfl
  have hR := qrg_64 q
  unfold Mreceipt_Tiling tilingW
  rw [e1, obnd_some]
  by_cases h0 : qch q = 0
  · rw [decide_eq_true h0, Bool.not_true, sel_false, if_neg (by simp [h0]), rec_Tiling_l1 _ h.rows, obnd_some]
    cases tl1 l with
    | ret e => rfl
    | nxt _ =>
      rw [ocbnd_nxt, e2, obnd_some, e3, obnd_some, bnd_eq, eq_query_Enough, pos_both, obnd_some, bnd_eq, ed]
      simp only
      rw [← obnd_assoc, pos_two q l _ rfl, obnd_some]
      simp only
      rw [show (0 : Int) = ((0 : Nat) : Int) from rfl, rec_Tiling_l2 (qrg q) (by omega) l 0 (posT q l) (Nat.zero_le _), obnd_some]
      cases tl2 (qrg q) l 0 (posT q l) with
      | ret e => rfl
      | nxt a =>
        rw [ocbnd_nxt]
        simp only
        by_cases ha : a < ((qrg q).length : Int)
        · rw [decide_eq_true ha, sel_true, if_pos ha]
          by_cases hk : q.Kind = 3
          · rw [decide_eq_true hk, sel_true]
            cases enough q ((rowsW l).length : Int) with
            | true => rw [if_pos ⟨hk, rfl⟩]; rfl
            | false => rw [if_neg (by simp)]; rfl
          · rw [decide_eq_false hk, sel_false, if_neg (by simp [hk])]; rfl
        · rw [decide_eq_false ha, sel_false, if_neg ha]
  · rw [decide_eq_false h0, Bool.not_false, sel_true, if_pos h0]
theorem eq_ref28_Tiling (q : TQuery) (hq : q.Ranges.length < 1000000) {l : List TVisit} (h : okC l) : Mref28_Tiling q l = some (tilingW q l) := by
  have e1 : Mref22_Check q = qch q := eq_ref22_Check q
  have e2 : Mref22_Ranges q = some (qrg q) := if_pos hq
  have e3 : Mref28_Rows l = some (rowsW l) := eq_ref28_Rows h.w
  have ed : Mref22_Down q = downQ q := rfl
  have hR := qrg_64 q
  unfold Mref28_Tiling tilingW
  rw [bnd_eq, e1]
  by_cases h0 : qch q = 0
  · rw [decide_eq_true h0, Bool.not_true, sel_false, if_neg (by simp [h0]), ref_Tiling_l1, obnd_some]
    cases tl1 l with
    | ret e => rfl
    | nxt _ =>
      rw [ocbnd_nxt, e2, obnd_some, e3, obnd_some, bnd_eq, eq_ref22_Enough, pos_both, obnd_some, bnd_eq, ed]
      simp only
      rw [← obnd_assoc, pos_two q l _ rfl, obnd_some]
      simp only
      rw [show (0 : Int) = ((0 : Nat) : Int) from rfl, ref_Tiling_l2 (qrg q) (by omega) l 0 (posT q l) (Nat.zero_le _), obnd_some]
      cases tl2 (qrg q) l 0 (posT q l) with
      | ret e => rfl
      | nxt a =>
        rw [ocbnd_nxt]
        simp only
        by_cases ha : a < ((qrg q).length : Int)
        · rw [decide_eq_true ha, sel_true, if_pos ha]
          by_cases hk : q.Kind = 3
          · rw [decide_eq_true hk, sel_true]
            cases enough q ((rowsW l).length : Int) with
            | true => rw [if_pos ⟨hk, rfl⟩]; rfl
            | false => rw [if_neg (by simp)]; rfl
          · rw [decide_eq_false hk, sel_false, if_neg (by simp [hk])]; rfl
        · rw [decide_eq_false ha, sel_false, if_neg ha]
  · rw [decide_eq_false h0, Bool.not_false, sel_true, if_pos h0]
end Go.Proofs.YtlbnhhfaedhgfaaGreatDoor
namespace Go.Proofs.YtlbnhhfaedhgfaaGreatDoor
open Go.RowKit
theorem tl1_ret : ∀ {l : List TVisit} {e : Int}, tl1 l = .ret e → e ≠ 0
  | [], e, h => by simp [tl1] at h
  | v :: l, e, h => by
    rw [tl1] at h
    split at h
    · split at h
      · exact tl1_ret h
      · injection h with h; omega
    · injection h with h; omega
theorem tl1_nxt : ∀ {l : List TVisit} {u : Unit}, tl1 l = .nxt u → ∀ v ∈ l, vOk v = true ∧ rOk v = true
  | [], _, _, v, hv => by simp at hv
  | x :: l, u, h, v, hv => by
    rw [tl1] at h
    split at h
    · split at h
      · rcases List.mem_cons.1 hv with rfl | hv
        · exact ⟨by assumption, by assumption⟩
        · exact tl1_nxt h v hv
      · cases h
    · cases h
theorem tiling_0 {q : TQuery} {l : List TVisit} (h : tilingW q l = 0) : qch q = 0 ∧ ∀ v ∈ l, vOk v = true ∧ rOk v = true := by
  unfold tilingW at h
  by_cases h0 : qch q = 0
  · refine ⟨h0, ?_⟩
    rw [if_neg (by simp [h0])] at h
    cases e : tl1 l with
    | ret z =>
      rw [e] at h
      exact absurd h (tl1_ret e)
    | nxt u => exact tl1_nxt e
  · rw [if_pos h0] at h
    exact absurd h h0
theorem vOk_rows {v : TVisit} (h : vOk v = true) : tvalid v.View.Rows = true := by
  unfold vOk validV at h
  simp only [Bool.and_eq_true] at h
  exact h.1.1.1.2
theorem rowsW_val {l : List TVisit} (h : ∀ v ∈ l, vOk v = true) : ∀ r ∈ rowsW l, vrow r = true := fun r hr => by
  unfold rowsW at hr
  obtain ⟨v, hv, hrv⟩ := List.mem_flatMap.1 hr
  exact ((tvalid_iff _).1 (vOk_rows (h v hv))).2.1 r hrv
def noA : TAnswer := ⟨[], ⟨0, 0, 0, 0, 0, ⟨#[]⟩, ⟨#[]⟩⟩⟩
def checkE (r : TReceipt) : Int := if tilingW r.Query r.First ≠ 0 then tilingW r.Query r.First else if tilingW r.Query r.Second ≠ 0 then tilingW r.Query r.Second else if sameVs r.First r.Second = true then 0 else 11
theorem rec_Check_l2 (r : TReceipt) (h : r.First.length = r.Second.length) : ∀ (xs : List TVisit) (m : Nat), r.First.drop m = xs → m ≤ r.First.length → Mreceipt_Check_l2 r xs (m : Int) = some (sel (sameVs (r.First.drop m) (r.Second.drop m)) (.nxt ()) (.ret (noA, 11)))
  | [], m, h1, hm => by
    have h2 : r.First.length - m = 0 := by have := congrArg List.length h1; simpa using this
    rw [Mreceipt_Check_l2.eq_1, h1, List.drop_eq_nil_of_le (by omega)]; rfl
  | v :: xs, m, h1, hm => by
    obtain ⟨h2, h3⟩ := drop_get h1
    obtain ⟨h4, h5⟩ := List.getElem?_eq_some_iff.1 h2
    rw [Mreceipt_Check_l2.eq_2, lget_nat, List.getElem?_eq_getElem (show m < r.Second.length by omega), obnd_some, eq_receipt_Same, obnd_some, show (m : Int) + 1 = ((m + 1 : Nat) : Int) by omega, rec_Check_l2 r h xs (m + 1) h3 h4, same_drop h h4, h5]
    cases sameV v (r.Second[m]'(by omega)) <;> rfl
theorem qtk_len (k c : Int) (l : List Kv) : (qtk k c l).length ≤ l.length := by
  unfold qtk
  split
  · simp; omega
  split
  · simp
  · exact Nat.le_refl _
theorem check_eq (r : TReceipt) (hq : r.Query.Ranges.length < 1000000) (h1 : okC r.First) (h2 : okC r.Second) : ∃ a, Mreceipt_Check r = some (a, checkE r) ∧ Mref28_Check r = some (a, checkE r) ∧
    (checkE r = 0 → a.Rows = qtk r.Query.Kind r.Query.Count (rowsW r.First) ∧ Mref21_Of a.Rows = some a.Fold) := by
  have hlen : (rowsW r.First).length ≤ 10000000 := h1.w.rlen
  unfold Mreceipt_Check Mref28_Check checkE
  rw [Mreceipt_Check_l1.eq_2, Mreceipt_Check_l1.eq_2, Mreceipt_Check_l1.eq_1]
  rw [eq_receipt_Tiling _ hq h1, eq_receipt_Tiling _ hq h2, eq_ref28_Tiling _ hq h1, eq_ref28_Tiling _ hq h2]
  simp only [obnd_some]
  by_cases t1 : tilingW r.Query r.First = 0
  · rw [decide_eq_true t1, Bool.not_true, if_neg (by simp [t1])]
    simp only [sel_false]
    by_cases t2 : tilingW r.Query r.Second = 0
    · rw [decide_eq_true t2, Bool.not_true, if_neg (by simp [t2])]
      simp only [sel_false, obnd_some, ocbnd_nxt]
      rw [eq_ref28_SameVisits, obnd_some]
      cases hs : sameVs r.First r.Second with
      | false =>
        simp only [Bool.not_false, sel_true, Bool.false_eq_true, if_false]
        refine ⟨noA, ?_, rfl, fun h => absurd h (by omega)⟩
        by_cases hl : r.First.length = r.Second.length
        · have := rec_Check_l2 r hl r.First 0 rfl (Nat.zero_le _)
          rw [show ((0 : Nat) : Int) = 0 from rfl, List.drop_zero, List.drop_zero, hs] at this
          rw [decide_eq_true (by omega), Bool.not_true, sel_false, this]; rfl
        · rw [decide_eq_false (by omega), Bool.not_false, sel_true]; rfl
      | true =>
        have hl := sameVs_len hs
        have := rec_Check_l2 r hl r.First 0 rfl (Nat.zero_le _)
        rw [show ((0 : Nat) : Int) = 0 from rfl, List.drop_zero, List.drop_zero, hs] at this
        have e3 : Mreceipt_rows r.First = some (rowsW r.First) := by unfold Mreceipt_rows; rw [eq_walk_Rows h1.w, obnd_some]
        have e4 : Mref28_Rows r.First = some (rowsW r.First) := eq_ref28_Rows h1.w
        obtain ⟨k1, k2⟩ := take_eq r.Query (rowsW r.First) (by omega)
        have hv := rowsW_val fun v hv => ((tiling_0 t1).2 v hv).1
        have hql := qtk_len r.Query.Kind r.Query.Count (rowsW r.First)
        obtain ⟨g, e5, e6, -⟩ := of_eq (qtk r.Query.Kind r.Query.Count (rowsW r.First)) (by omega) (fun x hx => by
          have h1 := hv x (qtk_sub _ _ _ x hx)
          simp only [vrow, Bool.and_eq_true, decide_eq_true_eq] at h1
          omega)
        rw [decide_eq_true (by omega), Bool.not_true, sel_false, this, sel_true, obnd_some, ocbnd_nxt, e3, obnd_some, k1, obnd_some, e5, obnd_some, sel_false, e4, obnd_some, k2, obnd_some, e6, obnd_some]
        exact ⟨_, rfl, rfl, fun _ => ⟨rfl, e6⟩⟩
    · rw [decide_eq_false t2, Bool.not_false, if_pos t2]
      simp only [sel_true, obnd_some, ocbnd_ret]
      exact ⟨_, rfl, rfl, fun h => absurd h t2⟩
  · rw [decide_eq_false t1, Bool.not_false, if_pos t1]
    simp only [sel_true, obnd_some, ocbnd_ret]
    exact ⟨_, rfl, rfl, fun h => absurd h t1⟩
def visA (l : List TWalk) : List TVisit := l.flatMap (·.Visits)
theorem visits_l1 : ∀ (l : List TWalk) (out : List TVisit), out.length + (visA l).length ≤ 1000000 → Mreceipt_visits_l1 l out = some (out ++ visA l) ∧ Mref28_Make_l1 l out = some (out ++ visA l) ∧ Mref28_Make_l2 l out = some (out ++ visA l)
  | [], out, _ => by rw [Mreceipt_visits_l1.eq_1, Mref28_Make_l1.eq_1, Mref28_Make_l2.eq_1]; simp [visA]
  | w :: l, out, h => by
    unfold visA at h ⊢
    rw [List.flatMap_cons, List.length_append] at h
    have ih := visits_l1 l (out ++ w.Visits) (by unfold visA; rw [List.length_append]; omega)
    unfold visA at ih
    obtain ⟨i1, i2, i3⟩ := ih
    rw [Mreceipt_visits_l1.eq_2, Mref28_Make_l1.eq_2, Mref28_Make_l2.eq_2, app_le (by omega), obnd_some, obnd_some, obnd_some, i1, i2, i3, List.flatMap_cons, List.append_assoc]
    exact ⟨rfl, rfl, rfl⟩
theorem make_eq (q : TQuery) (a b : List TWalk) (hq : q.Ranges.length ≤ 1000000) (ha : (visA a).length ≤ 1000000) (hb : (visA b).length ≤ 1000000) (hra : ∀ v ∈ visA a, v.View.Rows.length ≤ 10000) (hrb : ∀ v ∈ visA b, v.View.Rows.length ≤ 10000) :
    Mreceipt_Make q a b = some ⟨q, visA a, visA b⟩ ∧ Mref28_Make q a b = some ⟨q, visA a, visA b⟩ := by
  obtain ⟨a1, a2, a3⟩ := visits_l1 a [] (by simpa using ha)
  obtain ⟨b1, b2, b3⟩ := visits_l1 b [] (by simpa using hb)
  rw [List.nil_append] at *
  unfold Mreceipt_Make Mref28_Make Mreceipt_visits
  rw [eq_clone_Query _ (by omega), obnd_some, a1, b1, a2, b3]
  simp only [obnd_some]
  rw [eq_clone_Visits _ ha (fun v hv => by have := hra v hv; omega), eq_clone_Visits _ hb (fun v hv => by have := hrb v hv; omega)]
  simp only [obnd_some, and_self]
end Go.Proofs.YtlbnhhfaedhgfaaGreatDoor
namespace Go.Proofs.YtlbnhhfaedhgfaaGreatDoor
open Go.RowKit
set_option maxRecDepth 100000
set_option maxHeartbeats 4000000
attribute [local irreducible] WK WC WL Wk Rel OpD OpV WD WO sel bnd obnd app lget lsl sget ssl scat letg iquo irem Op.bytesLess
attribute [local irreducible] qchk qranges union
def Mlaw29_run_l2 (w5 : Int) (w6 : List Rng) (w7 : ByteArray) (w8 : Int) (w9 : List Rng) (w10 : List TVisit) : List TView → Option (Int × List Rng × ByteArray × Int × List Rng × List TVisit)
  | [] =>
  some (w5, w6, w7, w8, w9, w10)
  | r12 :: xs13 =>
  obnd (Mref28_Take (TWalk.mk (TQuery.mk w5 w6 w7 w8) w9 w10) r12) fun y15 =>
  sel (decide (y15.2 = 0)) (
   some (y15.1.Query.Kind, y15.1.Query.Ranges, y15.1.Query.Key, y15.1.Query.Count, y15.1.Todo, y15.1.Visits)) (
   Mlaw29_run_l2 w5 w6 w7 w8 w9 w10 xs13)
def Mlaw29_run_l1 (views2 : List TView) : Nat → Int → List Rng → ByteArray → Int → List Rng → List TVisit → Int → Option (Int × List Rng × ByteArray × Int × List Rng × List TVisit)
  | 0, _, _, _, _, _, _, _ => none
  | fuel + 1, w5, w6, w7, w8, w9, w10, i11 =>
  obnd (
   sel (decide (i11 < 200)) (
    some (Ctl.nxt ())) (
    some (Ctl.ret (w5, w6, w7, w8, w9, w10))) : Option (Ctl (Int × List Rng × ByteArray × Int × List Rng × List TVisit) Unit)) fun mu => ocbnd mu fun (_ : Unit) =>
  obnd (
   obnd (
    Mlaw29_run_l2 w5 w6 w7 w8 w9 w10 views2 : Option (Int × List Rng × ByteArray × Int × List Rng × List TVisit)) fun (w16, w17, w18, w19, w20, w21) =>
   sel (decide ((w21.length : Int) = (w10.length : Int))) (
    some (Ctl.ret (w16, w17, w18, w19, w20, w21))) (
    some (Ctl.nxt (w16, w17, w18, w19, w20, w21))) : Option (Ctl (Int × List Rng × ByteArray × Int × List Rng × List TVisit) (Int × List Rng × ByteArray × Int × List Rng × List TVisit))) fun mu => ocbnd mu fun (w22, w23, w24, w25, w26, w27) =>
  Mlaw29_run_l1 views2 fuel w22 w23 w24 w25 w26 w27 (i64w (i11 + 1))
def Mlaw29_run (q1 : TQuery) (views2 : List TView) : Option TWalk :=
 obnd (Mref22_Ranges q1) fun y3 =>
 obnd (Mref28_Start q1 y3) fun y4 =>
 obnd (
  Mlaw29_run_l1 views2 FU y4.1.Query.Kind y4.1.Query.Ranges y4.1.Query.Key y4.1.Query.Count y4.1.Todo y4.1.Visits 0 : Option (Int × List Rng × ByteArray × Int × List Rng × List TVisit)) fun (w28, w29, w30, w31, w32, w33) =>
 some (TWalk.mk (TQuery.mk w28 w29 w30 w31) w32 w33)
theorem Mlaw29_run_sp {q1 : TQuery} {views2 : List TView} {y : TWalk} (hm : Mlaw29_run q1 views2 = some y) : Spec Tryz.prog 56 [.a [vI q1.Kind, .d (lst Rng.ds q1.Ranges), vS q1.Key, vI q1.Count], .d (lst TView.ds views2)] [] fun u h => u = .a [vI y.Query.Kind, .d (lst Rng.ds y.Query.Ranges), vS y.Query.Key, vI y.Query.Count, .d (lst Rng.ds y.Todo), .d (lst TVisit.ds y.Visits)] ∧ h = [] := by
 refine si Tryz.func56 Tryz.ntmps56 Tryz.results56 fun B w0 ρ0 => ?_
 unfold Mlaw29_run at hm
 refine sr ?_
 refine wc_seq ?_
 refine wc_draw (id := 1) [⟨0, 0, [2]⟩, ⟨1, 0, [2]⟩, ⟨7, 0, []⟩, ⟨2, 2, [15]⟩, ⟨3, 7, [14, 16]⟩, ⟨4, 15, [17]⟩, ⟨5, 31, [13]⟩, ⟨6, 31, [13]⟩, ⟨8, 191, [5, 18]⟩, ⟨9, 511, [19]⟩] mixed (by kernel_rfl) ?_
 refine ss ?_
 obtain ⟨y3, hy, hm⟩ := obnd_o hm
 refine wd_cs (Mref22_Ranges_sp (hm := hy)) rfl rfl rfl (by repeat (first | exact Vws.nil | apply Vws.cons | exact Vw.nil | exact Vw.d _ | exact Vw.q _ | apply Vw.a)) rfl rfl (by first | exact .no rfl | exact .y rfl rfl rfl rfl) rfl rfl rfl ?_
 refine ss ?_
 obtain ⟨y4, hy, hm⟩ := obnd_o hm
 refine wd_cs (Mref28_Start_sp (hm := hy)) rfl rfl rfl (by repeat (first | exact Vws.nil | apply Vws.cons | exact Vw.nil | exact Vw.d _ | exact Vw.q _ | apply Vw.a)) rfl rfl (by first | exact .no rfl | exact .y rfl rfl rfl rfl) rfl rfl rfl ?_
 refine sr ?_
 obtain ⟨mu1, hm1, hm⟩ := obnd_o hm
 refine wc_cut' (fun st => ∃ (w28 : Int) (w29 : List Rng) (w30 : ByteArray) (w31 : Int) (w32 : List Rng) (w33 : List TVisit), mu1 = (w28, w29, w30, w31, w32, w33) ∧ st = ⟨[(4, .p 104 0), (5, .p 105 0)], [(104, some (.box 30 [vI 0, .d (.c (.slice none 0 0)), vS ⟨#[]⟩, vI 0, .d (.c (.slice none 0 0)), .d (.c (.slice none 0 0))])), (105, some (.box 30 [vI w28, .d (lst Rng.ds w29), vS w30, vI w31, .d (lst Rng.ds w32), .d (lst TVisit.ds w33)]))]⟩) ?_ ?_
 ·refine wc_block ?_
  refine wc_loopw (fun κ st => ∃ (w5 : Int) (w6 : List Rng) (w7 : ByteArray) (w8 : Int) (w9 : List Rng) (w10 : List TVisit) (i11 : Int), Mlaw29_run_l1 views2 κ w5 w6 w7 w8 w9 w10 i11 = some mu1 ∧ st = ⟨[(1, .d (lst TView.ds views2)), (4, .p 104 0), (5, .p 105 0), (7, vI i11)], [(104, some (.box 30 [vI 0, .d (.c (.slice none 0 0)), vS ⟨#[]⟩, vI 0, .d (.c (.slice none 0 0)), .d (.c (.slice none 0 0))])), (105, some (.box 30 [vI w5, .d (lst Rng.ds w6), vS w7, vI w8, .d (lst Rng.ds w9), .d (lst TVisit.ds w10)]))]⟩) [(104, 104), (105, 105)] ⟨_, _, _, _, _, _, _, hm1, rfl⟩ ?_
  rintro κ _ ⟨w5, w6, w7, w8, w9, w10, i11, hm1, rfl⟩
  cases κ with
  | zero => rw [Mlaw29_run_l1.eq_1] at hm1; cases hm1
  | succ κ =>
   rw [Mlaw29_run_l1.eq_2] at hm1
   refine sr ?_
   obtain ⟨mu2, hm2, hm1⟩ := obnd_o hm1
   refine wc_cut' (fun st => mu2 = Ctl.nxt () ∧ st = ⟨[(1, .d (lst TView.ds views2)), (4, .p 104 0), (5, .p 105 0), (7, vI i11)], [(104, some (.box 30 [vI 0, .d (.c (.slice none 0 0)), vS ⟨#[]⟩, vI 0, .d (.c (.slice none 0 0)), .d (.c (.slice none 0 0))])), (105, some (.box 30 [vI w5, .d (lst Rng.ds w6), vS w7, vI w8, .d (lst Rng.ds w9), .d (lst TVisit.ds w10)]))]⟩) ?_ ?_
   ·refine wc_cs hm2 ?_ ?_ <;> clear hm2 <;> intro hm2
    ·refine sx ?_
     cases hm2
     exact wk_cutw [(104, 104), (105, 105)] ⟨rfl, rfl⟩
    refine wc_exit ?_
    refine ss ?_
    cases hm2
    replace hm1 := ocbnd_r hm1
    cases hm1
    exact wk_cutw [(104, 104), (105, 105)] ⟨_, _, _, _, _, _, rfl, rfl⟩
   rintro _ ⟨rfl, rfl⟩
   replace hm1 := ocbnd_n hm1
   refine ss ?_
   refine wc_seq ?_
   obtain ⟨mu2, hm2, hm1⟩ := obnd_o hm1
   refine wc_cut' (fun st => ∃ (w22 : Int) (w23 : List Rng) (w24 : ByteArray) (w25 : Int) (w26 : List Rng) (w27 : List TVisit), mu2 = Ctl.nxt (w22, w23, w24, w25, w26, w27) ∧ st = ⟨[(1, .d (lst TView.ds views2)), (4, .p 104 0), (5, .p 105 0), (7, vI i11)], [(104, some (.box 30 [vI 0, .d (.c (.slice none 0 0)), vS ⟨#[]⟩, vI 0, .d (.c (.slice none 0 0)), .d (.c (.slice none 0 0))])), (105, some (.box 30 [vI w22, .d (lst Rng.ds w23), vS w24, vI w25, .d (lst Rng.ds w26), .d (lst TVisit.ds w27)]))]⟩) ?_ ?_
   ·refine sr ?_
    refine sr ?_
    obtain ⟨mu3, hm3, hm2⟩ := obnd_o hm2
    refine wc_cut' (fun st => ∃ (w16 : Int) (w17 : List Rng) (w18 : ByteArray) (w19 : Int) (w20 : List Rng) (w21 : List TVisit), mu3 = (w16, w17, w18, w19, w20, w21) ∧ st = ⟨[(1, .d (lst TView.ds views2)), (4, .p 104 0), (5, .p 105 0), (7, vI i11), (8, vI (w10.length : Int))], [(104, some (.box 30 [vI 0, .d (.c (.slice none 0 0)), vS ⟨#[]⟩, vI 0, .d (.c (.slice none 0 0)), .d (.c (.slice none 0 0))])), (105, some (.box 30 [vI w16, .d (lst Rng.ds w17), vS w18, vI w19, .d (lst Rng.ds w20), .d (lst TVisit.ds w21)]))]⟩) ?_ ?_
    ·refine wc_block ?_
     refine wc_len 27 rfl (fun hlenm14 => ?_)
     refine wc_loopw (fun κ st => ∃ (m14 : Nat) , κ = views2.length - m14 ∧ m14 ≤ views2.length ∧ Mlaw29_run_l2 w5 w6 w7 w8 w9 w10 (views2.drop m14) = some mu3 ∧ st = ⟨[(1, .d (lst TView.ds views2)), (4, .p 104 0), (5, .p 105 0), (7, vI i11), (8, vI (w10.length : Int)), (27, .d (lst TView.ds views2)), (28, vI (views2.length : Int)), (29, vI (m14 : Int))], [(104, some (.box 30 [vI 0, .d (.c (.slice none 0 0)), vS ⟨#[]⟩, vI 0, .d (.c (.slice none 0 0)), .d (.c (.slice none 0 0))])), (105, some (.box 30 [vI w5, .d (lst Rng.ds w6), vS w7, vI w8, .d (lst Rng.ds w9), .d (lst TVisit.ds w10)]))]⟩) [(104, 104), (105, 105)] ⟨0, rfl, Nat.zero_le _, hm3, rfl⟩ ?_
     rintro κ _ ⟨m14, rfl, hlem14, hm3, rfl⟩
     rcases Nat.lt_or_ge m14 views2.length with hltm14 | hgem14
     ·obtain ⟨r12, hxm14, hdr⟩ := drop_c hltm14
      rw [hdr, Mlaw29_run_l2.eq_2] at hm3
      refine sr ?_
      refine wc_seq ?_
      refine wc_cond_tt (lt_t hltm14) rfl ?_
      refine sx ?_
      refine sr ?_
      refine wl_r (o_ixm (ys := [dI r12.Owner, dS r12.Interval.lo.key, dB r12.Interval.lo.top, dS r12.Interval.hi.key, dB r12.Interval.hi.top, dI r12.Stamp.Epoch, dI r12.Stamp.Version, lst Kv.ds r12.Rows]) hxm14 rfl rfl rfl rfl) rfl rfl rfl ?_
      refine sr ?_
      obtain ⟨y15, hy, hm3⟩ := obnd_o hm3
      refine wl_cq (Mref28_Take_sp (hm := hy)) ?_
      refine sr ?_
      refine wc_cs hm3 ?_ ?_ <;> clear hm3 <;> intro hm3
      ·refine sr ?_
       refine wc_exit ?_
       refine ss ?_
       cases hm3
       exact wk_cutw [(104, 104), (105, 105)] ⟨_, _, _, _, _, _, rfl, rfl⟩
      refine sx ?_
      refine sr ?_
      refine wl_r (o_inc hltm14 hlenm14 rfl rfl rfl) rfl rfl rfl ?_
      refine ss ?_
      exact wk_loopw [(104, 104), (105, 105)] ⟨m14 + 1, rfl, hltm14, hm3, rfl⟩ (by omega)
     ·rw [drop_n hgem14, Mlaw29_run_l2.eq_1] at hm3
      refine sr ?_
      refine wc_seq ?_
      refine wc_cond_ff (lt_f hgem14) rfl ?_
      refine wc_exit ?_
      refine ss ?_
      cases hm3
      exact wk_cutw [(104, 104), (105, 105)] ⟨_, _, _, _, _, _, rfl, rfl⟩
    rintro _ ⟨w16, w17, w18, w19, w20, w21, rfl, rfl⟩
    refine sr ?_
    refine wc_cs hm2 ?_ ?_ <;> clear hm2 <;> intro hm2
    ·refine wc_exit ?_
     refine ss ?_
     cases hm2
     replace hm1 := ocbnd_r hm1
     cases hm1
     exact wk_cutw [(104, 104), (105, 105)] ⟨_, _, _, _, _, _, rfl, rfl⟩
    refine sx ?_
    cases hm2
    exact wk_cutw [(104, 104), (105, 105)] ⟨_, _, _, _, _, _, rfl, rfl⟩
   rintro _ ⟨w22, w23, w24, w25, w26, w27, rfl, rfl⟩
   replace hm1 := ocbnd_n hm1
   refine sr ?_
   refine wl_r (o_add rfl rfl rfl rfl) rfl rfl rfl ?_
   refine ss ?_
   exact wk_loopw [(104, 104), (105, 105)] ⟨_, _, _, _, _, _, _, hm1, rfl⟩ (Nat.lt_succ_self _)
 rintro _ ⟨w28, w29, w30, w31, w32, w33, rfl, rfl⟩
 refine sr ?_
 refine sx ?_
 cases hm
 exact wk_r

def Mlaw29_good_l1 : List TView → List Kv → Option (List Kv)
  | [], rows5 =>
  some rows5
  | r6 :: xs7, rows5 =>
  obnd (app rows5 r6.Rows) fun l9 =>
  Mlaw29_good_l1 xs7 l9
def Mlaw29_good (t1 : TTape) : Option (TReceipt × List Kv × TTape) :=
 obnd (Mwld_Tape_Query t1) fun y2 =>
 obnd (Mwld_Tape_Net y2.2 4) fun y3 =>
 obnd (Mwld_Views y3.1) fun y4 =>
 obnd (
  Mlaw29_good_l1 y4 [] : Option (List Kv)) fun rows10 =>
 obnd (Mlaw29_run y2.1 y4) fun y11 =>
 obnd (Mref28_Make y2.1 ([y11] : List TWalk) ([y11] : List TWalk)) fun y12 =>
 some (y12, rows10, y3.2)
theorem Mlaw29_good_sp {t1 : TTape} {y : (TReceipt × List Kv × TTape)} (hm : Mlaw29_good t1 = some y) : Spec Tryz.prog 45 [.p 0 0] [(0, some (.box 119 [.d (lst dsI t1.l), vI t1.at_]))] fun u h => u = .t [.a [vI y.1.Query.Kind, .d (lst Rng.ds y.1.Query.Ranges), vS y.1.Query.Key, vI y.1.Query.Count, .d (lst TVisit.ds y.1.First), .d (lst TVisit.ds y.1.Second)], .d (lst Kv.ds y.2.1)] ∧ h = [(0, some (.box 119 [.d (lst dsI y.2.2.l), vI y.2.2.at_]))] := by
 refine si Tryz.func45 Tryz.ntmps45 Tryz.results45 fun B w0 ρ0 => ?_
 unfold Mlaw29_good at hm
 refine sr ?_
 refine sr ?_
 obtain ⟨y2, hy, hm⟩ := obnd_o hm
 refine wl_iq (Mwld_Tape_Query_sp (hm := hy)) 0 ?_
 refine sr ?_
 obtain ⟨y3, hy, hm⟩ := obnd_o hm
 refine wl_iq (Mwld_Tape_Net_sp (hm := hy)) 0 ?_
 refine ss ?_
 obtain ⟨y4, hy, hm⟩ := obnd_o hm
 refine wl_cq (Mwld_Views_sp (hm := hy)) ?_
 refine sr ?_
 refine sr ?_
 obtain ⟨mu1, hm1, hm⟩ := obnd_o hm
 refine wc_cut' (fun st => ∃ (rows10 : List Kv), rows10 = mu1 ∧ st = ⟨[(2, .p 102 0), (4, .p 104 0), (5, .d (lst TView.ds y4)), (6, .d (lst Kv.ds rows10))], [(0, some (.box 119 [.d (lst dsI y3.2.l), vI y3.2.at_])), (102, some (.box 81 [vI 0, .d (.c (.slice none 0 0)), vS ⟨#[]⟩, vI 0, .d (.c (.slice none 0 0)), .d (.c (.slice none 0 0))])), (104, some (.box 27 [vI y2.1.Kind, .d (lst Rng.ds y2.1.Ranges), vS y2.1.Key, vI y2.1.Count]))]⟩) ?_ ?_
 ·refine wc_block ?_
  refine wc_wk (wk_nil 6 5001 95 2 rfl rfl) ?_
  refine wc_len 15 rfl (fun hlenm8 => ?_)
  refine wc_loopw (fun κ st => ∃ (m8 : Nat) (rows5 : List Kv), κ = y4.length - m8 ∧ m8 ≤ y4.length ∧ Mlaw29_good_l1 (y4.drop m8) rows5 = some mu1 ∧ st = ⟨[(2, .p 102 0), (4, .p 104 0), (5, .d (lst TView.ds y4)), (6, .h 5001), (15, .d (lst TView.ds y4)), (16, vI (y4.length : Int)), (17, vI (m8 : Int))], [(0, some (.box 119 [.d (lst dsI y3.2.l), vI y3.2.at_])), (102, some (.box 81 [vI 0, .d (.c (.slice none 0 0)), vS ⟨#[]⟩, vI 0, .d (.c (.slice none 0 0)), .d (.c (.slice none 0 0))])), (104, some (.box 27 [vI y2.1.Kind, .d (lst Rng.ds y2.1.Ranges), vS y2.1.Key, vI y2.1.Count])), (5001, some (arrT 95 2 Kv.ds rows5))]⟩) [(0, 0), (102, 102), (104, 104), (5001, 5001)] ⟨0, _, rfl, Nat.zero_le _, hm1, rfl⟩ ?_
  rintro κ _ ⟨m8, rows5, rfl, hlem8, hm1, rfl⟩
  rcases Nat.lt_or_ge m8 y4.length with hltm8 | hgem8
  ·obtain ⟨r6, hxm8, hdr⟩ := drop_c hltm8
   rw [hdr, Mlaw29_good_l1.eq_2] at hm1
   refine sr ?_
   refine wc_seq ?_
   refine wc_cond_tt (lt_t hltm8) rfl ?_
   refine sx ?_
   refine sr ?_
   refine wl_r (o_ixm (ys := [dI r6.Owner, dS r6.Interval.lo.key, dB r6.Interval.lo.top, dS r6.Interval.hi.key, dB r6.Interval.hi.top, dI r6.Stamp.Epoch, dI r6.Stamp.Version, lst Kv.ds r6.Rows]) hxm8 rfl rfl rfl rfl) rfl rfl rfl ?_
   refine sr ?_
   obtain ⟨l9, hy, hm1⟩ := obnd_o hm1
   refine wl_2 (n_app (k' := 124) hy rfl rfl rfl rfl rfl rfl rfl rfl) rfl rfl rfl rfl ?_
   refine sr ?_
   refine wl_r (o_inc hltm8 hlenm8 rfl rfl rfl) rfl rfl rfl ?_
   refine ss ?_
   exact wk_loopw [(0, 0), (102, 102), (104, 104), (5001, 124)] ⟨m8 + 1, _, rfl, hltm8, hm1, rfl⟩ (by omega)
  ·rw [drop_n hgem8, Mlaw29_good_l1.eq_1] at hm1
   refine sr ?_
   refine wc_seq ?_
   refine wc_cond_ff (lt_f hgem8) rfl ?_
   refine wc_exit ?_
   refine ss ?_
   cases hm1
   exact wk_cutw [(0, 0), (102, 102), (104, 104)] ⟨_, rfl, rfl⟩
 rintro _ ⟨rows10, rfl, rfl⟩
 refine sr ?_
 obtain ⟨y11, hy, hm⟩ := obnd_o hm
 refine wl_cq (Mlaw29_run_sp (hm := hy)) ?_
 refine sr ?_
 refine wl_bt TWalk.ds [y11] rfl rfl (by simp only [flatV, cellsV, List.cons_append, List.nil_append, List.append_nil]; exact rfl) rfl rfl rfl rfl rfl rfl ?_
 refine ss ?_
 refine wl_bt TWalk.ds [y11] rfl rfl (by simp only [flatV, cellsV, List.cons_append, List.nil_append, List.append_nil]; exact rfl) rfl rfl rfl rfl rfl rfl ?_
 refine ss ?_
 obtain ⟨y12, hy, hm⟩ := obnd_o hm
 refine wl_cq (Mref28_Make_sp (hm := hy)) ?_
 refine sx ?_
 cases hm
 exact wk_reti [(0, 0)] ⟨rfl, rfl⟩

end Go.Proofs.YtlbnhhfaedhgfaaGreatDoor
namespace Go.Proofs.YtlbnhhfaedhgfaaGreatDoor
open Go.RowKit
def VI (w : TWalk) : Prop := ∀ u ∈ w.Visits, vOk u = true ∧ rOk u = true
theorem isect_sub {a b : Rng} (h : emp (isect a b) = false) : (isect a b).lo.lt a.lo = false ∧ a.hi.lt (isect a b).hi = false := by
  have ha : emp a = false := by
    cases hh : emp a with
    | false => rfl
    | true => rw [isect_el hh, emp_zr] at h; cases h
  have hb : emp b = false := by
    cases hh : emp b with
    | false => rfl
    | true => rw [isect_er hh, emp_zr] at h; cases h
  rw [isect_ne ha hb] at h ⊢
  split
  · simp only
    rw [greater_if, lesser_if]
    refine ⟨?_, ?_⟩
    · split
      · rename_i h1; exact lt_asymm h1
      · exact lt_irrefl _
    · split
      · rename_i h1; exact lt_asymm h1
      · exact lt_irrefl _
  · rename_i hh
    rw [if_neg hh, emp_zr] at h; cases h
theorem visit_ok {v : TView} (hv : validV v = true) {x : Rng} (h : emp (isect v.Interval x) = false) : vOk (visitV v (isect v.Interval x)) = true ∧ rOk (visitV v (isect v.Interval x)) = true := by
  have hi := valid_emp hv
  obtain ⟨s1, s2⟩ := isect_sub h
  unfold validV at hv
  simp only [Bool.and_eq_true, Bool.not_eq_true'] at hv
  obtain ⟨⟨⟨⟨g1, g2⟩, g3⟩, g4⟩, g5⟩ := hv
  refine ⟨?_, ?_⟩
  · unfold vOk validV visitV inside
    simp only
    rw [g1, g2, g3, tvalid_flt g4, h]
    have e1 : ((v.Rows.filter fun z => contains (isect v.Interval x) z.key).all fun z => contains v.Interval z.key) = true := List.all_eq_true.2 fun z hz => List.all_eq_true.1 g5 z (List.mem_filter.1 hz).1
    have e2 : decide (cmp v.Interval.lo (isect v.Interval x).lo ≤ 0) = true := decide_eq_true (by
      apply Classical.byContradiction; intro hh
      rw [(cmp_pos _ _).1 (by omega)] at s1; cases s1)
    have e3 : decide (cmp (isect v.Interval x).hi v.Interval.hi ≤ 0) = true := decide_eq_true (by
      apply Classical.byContradiction; intro hh
      rw [(cmp_pos _ _).1 (by omega)] at s2; cases s2)
    rw [e1, e2, e3]; rfl
  · unfold rOk visitV
    simp only
    exact all_flt _ _
theorem VI.step {w : TWalk} (h : VI w) {v : TView} (hv : validV v = true) {x : Rng} (he : emp (isect v.Interval x) = false) : VI (stepW w v x (isect v.Interval x)) := by
  have := visit_ok hv he
  unfold stepW
  split
  · intro u hu
    rcases List.mem_cons.1 hu with rfl | hu
    · exact this
    · exact h u hu
  · intro u hu
    rcases List.mem_append.1 hu with hu | hu
    · exact h u hu
    · rw [List.mem_singleton.1 hu]; exact this
theorem emp_part {i x : Rng} (h : emp (isect (isect i x) x) = false) : emp (isect i x) = false := by
  cases hh : emp (isect i x) with
  | false => rfl
  | true => rw [isect_el hh, emp_zr] at h; cases h
def fldR (w : TWalk) : Int × List Rng × ByteArray × Int × List Rng × List TVisit := (w.Query.Kind, w.Query.Ranges, w.Query.Key, w.Query.Count, w.Todo, w.Visits)
theorem run_l2_done {w : TWalk} (hw : okW w) (hd : doneW w = true) : ∀ l : List TView, (∀ v ∈ l, v.Rows.length ≤ 10000) → Mlaw29_run_l2 w.Query.Kind w.Query.Ranges w.Query.Key w.Query.Count w.Todo w.Visits l = some (fldR w)
  | [], _ => rfl
  | v :: l, h => by
    have e : takeW w v = (W0, 7) := by
      unfold takeW wantW
      rw [hd]; rfl
    rw [Mlaw29_run_l2.eq_2, eq_ref28_Take hw v (h v List.mem_cons_self), obnd_some, e]
    exact run_l2_done hw hd l fun x hx => h x (List.mem_cons_of_mem _ hx)
theorem run_l2_step {w : TWalk} (hw : okW w) {x : Rng} (hwx : wantW w = (x, true)) (vs : List TView) : ∀ l : List TView, (∀ v ∈ l, v ∈ vs ∧ validV v = true ∧ v.Rows.length ≤ 8) → (∃ v ∈ l, missV (downQ w.Query) x v.Interval = false) →
    ∃ v ∈ l, missV (downQ w.Query) x v.Interval = false ∧ Mlaw29_run_l2 w.Query.Kind w.Query.Ranges w.Query.Key w.Query.Count w.Todo w.Visits l = some (fldR (stepW w v x (isect v.Interval x)))
  | [], _, ⟨v, hv, _⟩ => by simp at hv
  | v :: l, hl, hex => by
    obtain ⟨g1, g2, g3⟩ := hl v List.mem_cons_self
    have ht : takeW w v = if missV (downQ w.Query) x v.Interval = true then (W0, 12) else (stepW w v x (isect v.Interval x), 0) := by
      unfold takeW
      rw [hwx, g2, if_neg (by simp), if_neg (by simp)]
    rw [Mlaw29_run_l2.eq_2, eq_ref28_Take hw v (by omega), obnd_some, ht]
    cases hm : missV (downQ w.Query) x v.Interval with
    | true =>
      obtain ⟨u, hu, hmu⟩ := hex
      have hu' : u ∈ l := by
        rcases List.mem_cons.1 hu with rfl | hu
        · rw [hm] at hmu; cases hmu
        · exact hu
      obtain ⟨z, hz, h1, h2⟩ := run_l2_step hw hwx vs l (fun a ha => hl a (List.mem_cons_of_mem _ ha)) ⟨u, hu', hmu⟩
      exact ⟨z, List.mem_cons_of_mem _ hz, h1, h2⟩
    | false =>
      refine ⟨v, List.mem_cons_self, hm, ?_⟩
      rw [if_neg (by simp)]
      rfl
structure Run (t : List Kv) (q : TQuery) (w : TWalk) : Prop where
  ok : okW w
  qe : w.Query = q
  gd : Gd (partsW w) (qrg q)
  ri : RI t w
  vi : VI w
theorem run_l1 {q : TQuery} {t : List Kv} (ht : t.length ≤ 8) {vs : List TView} (htl : Tl t zb vs topB) (hvl : vs.length ≤ 100) : ∀ (fuel : Nat) (w : TWalk) (i : Nat), Run t q w → w.Visits.length ≤ i → i + cntL vs w.Todo ≤ 100 → 200 - i < fuel →
    ∃ w', Mlaw29_run_l1 vs fuel w.Query.Kind w.Query.Ranges w.Query.Key w.Query.Count w.Todo w.Visits (i : Int) = some (fldR w') ∧ Run t q w' ∧ doneW w' = true ∧ w'.Visits.length ≤ 100
  | 0, _, _, _, _, _, h => absurd h (by omega)
  | fuel + 1, w, i, hr, hn, hc, hf => by
    obtain ⟨gd1, gd2, gd3⟩ := htl.good ht hvl
    rw [Mlaw29_run_l1.eq_2, decide_eq_true (by omega), sel_true, obnd_some, ocbnd_nxt]
    cases hd : doneW w with
    | true =>
      rw [run_l2_done hr.ok hd vs (fun v hv => by have := gd3 v hv; omega), obnd_some]
      refine ⟨w, ?_, hr, hd, by omega⟩
      unfold fldR
      simp only [decide_true, sel_true, obnd_some, ocbnd_ret]
    | false =>
      have hne : ∀ u ∈ vs, emp u.Interval = false := fun u hu => (htl.mem u hu).2.2
      have hwx : wantW w = (pickW (downQ w.Query) w.Todo, true) := by unfold wantW; rw [hd]; rfl
      have hx : emp (pickW (downQ w.Query) w.Todo) = false := by
        have h0 := notDone hd
        have hmem : pickW (downQ w.Query) w.Todo ∈ w.Todo := by
          cases downQ w.Query with
          | true =>
            obtain ⟨i, x, e2⟩ := snoc_of h0
            rw [e2, pickW, if_pos rfl, List.getLast?_concat]; simp
          | false =>
            obtain ⟨x, l, e2⟩ := cons_of h0
            rw [e2, pickW, if_neg (by simp)]; simp
        refine hr.gd.ne _ ?_
        unfold partsW
        split
        · exact List.mem_append_left _ hmem
        · exact List.mem_append_right _ hmem
      generalize hxx : pickW (downQ w.Query) w.Todo = x at hwx hx
      obtain ⟨v, hv, hm, e3⟩ := run_l2_step hr.ok hwx vs vs (fun v hv => ⟨hv, (htl.mem v hv).1, gd3 v hv⟩) (some_view htl hx _)
      have sc := step_cnt hne hx hwx hv hm
      have so := step_ok hr.ok (by omega) v (by have := gd3 v hv; omega) (notDone hd) x (isect v.Interval x)
      have hrun : Run t q (stepW w v x (isect v.Interval x)) := ⟨so.1, by rw [stepW_q]; exact hr.qe, by
        rw [← hxx] at hm ⊢
        exact step_good hr.gd (htl.mem v hv).1 hd hm, hr.ri.step (htl.mem v hv).2.1 x, hr.vi.step (htl.mem v hv).1 (emp_part sc.2)⟩
      obtain ⟨w', e4, h5⟩ := run_l1 ht htl hvl fuel (stepW w v x (isect v.Interval x)) (i + 1) hrun (by omega) (by have := sc.1; omega) (by omega)
      refine ⟨w', ?_, h5⟩
      rw [e3, obnd_some]
      unfold fldR at e4 ⊢
      simp only
      rw [decide_eq_false (by omega), sel_false, obnd_some, ocbnd_nxt, ← e4, show ((i + 1 : Nat) : Int) = i64w ((i : Int) + 1) by rw [i64w_id (by omega) (by omega)]; omega]
theorem run_ok {q : TQuery} (hq : qok q) {t : List Kv} (ht : t.length ≤ 8) {vs : List TView} (htl : Tl t zb vs topB) (hvl : vs.length ≤ 5) : ∃ w, Mlaw29_run q vs = some w ∧ Run t q w ∧ doneW w = true ∧ w.Visits.length ≤ 100 := by
  have g3 := qrg_len2 hq
  have g4 := hq.2.1
  have er : Mref22_Ranges q = some (qrg q) := if_pos (by omega)
  have g5 := start_ok (q := q) (by omega) (qrg q) (by omega)
  rw [start_all hq] at g5
  have hcn := cntL_le vs (qrg q)
  have hcn2 : (qrg q).length * vs.length ≤ 4 * 5 := Nat.mul_le_mul g3 hvl
  obtain ⟨w, e, h1, h2, h3⟩ := run_l1 (q := q) ht htl (by omega) FU ⟨q, qrg q, []⟩ 0 ⟨g5.1, rfl, start_good _, by intro u hu; simp at hu, by intro u hu; simp at hu⟩ (by simp) (by simp only; omega) (by unfold FU; omega)
  rw [show ((0 : Nat) : Int) = 0 from rfl] at e
  refine ⟨w, ?_, h1, h2, h3⟩
  unfold Mlaw29_run
  rw [er, obnd_some, eq_ref28_Start _ _ (by omega), obnd_some, start_all hq, e, obnd_some]
  rfl
theorem good_l1 : ∀ (l : List TView) (out : List Kv), out.length + (l.flatMap (·.Rows)).length ≤ 1000000 → Mlaw29_good_l1 l out = some (out ++ l.flatMap (·.Rows))
  | [], out, _ => by rw [Mlaw29_good_l1.eq_1]; simp
  | v :: l, out, h => by
    rw [List.flatMap_cons, List.length_append] at h
    rw [Mlaw29_good_l1.eq_2, app_le (by omega), obnd_some, good_l1 l _ (by rw [List.length_append]; omega)]
    simp
theorem visA_one (w : TWalk) : visA [w] = w.Visits := by simp [visA]
theorem tot_good {τ : TTape} (h : okT τ) : Tot (Mlaw29_good τ) fun y => okT y.2.2 ∧ ∃ q w, qok q ∧ tvalid y.2.1 = true ∧ y.2.1.length ≤ 8 ∧ Run y.2.1 q w ∧ doneW w = true ∧ w.Visits.length ≤ 100 ∧ y.1 = ⟨q, w.Visits, w.Visits⟩ := by
  unfold Mlaw29_good
  refine tot_obnd (tot_query h) fun y2 h2 => tot_net2 h2.1 (by omega) (by omega) fun y3 t vs k1 k2 k3 k4 k5 => ?_
  have hrows := k5.rows k2
  have g4 := h2.2.2.1
  obtain ⟨w, e, h5, h6, h7⟩ := run_ok h2.2 k3 k5 (by omega)
  have hm := (make_eq y2.1 [w] [w] (by omega) (by rw [visA_one]; omega) (by rw [visA_one]; omega) (by rw [visA_one]; exact h5.ok.rows) (by rw [visA_one]; exact h5.ok.rows)).2
  rw [visA_one] at hm
  rw [good_l1 vs [] (by rw [hrows]; simp; omega), obnd_some, List.nil_append, hrows, e, obnd_some, hm, obnd_some]
  exact tot_some ⟨k1, y2.1, w, h2.2, k2, k3, h5, h6, h7, rfl⟩
end Go.Proofs.YtlbnhhfaedhgfaaGreatDoor
namespace Go.Proofs.YtlbnhhfaedhgfaaGreatDoor
open Go.RowKit
theorem Run.okC {t : List Kv} {q : TQuery} {w : TWalk} (h : Run t q w) : Go.Proofs.YtlbnhhfaedhgfaaGreatDoor.okC w.Visits := ⟨h.ok.vis, h.ok.rows⟩
end Go.Proofs.YtlbnhhfaedhgfaaGreatDoor
namespace Go.Proofs.YtlbnhhfaedhgfaaGreatDoor
open Go.RowKit
set_option maxRecDepth 100000
set_option maxHeartbeats 4000000
attribute [local irreducible] WK WC WL Wk Rel OpD OpV WD WO sel bnd obnd app lget lsl sget ssl scat letg iquo irem Op.bytesLess
attribute [local irreducible] qchk qranges union
def Mlaw29_bounds (a1 : ByteArray) (b2 : ByteArray) : Rng :=
 (Rng.mk (Bnd.mk a1 false) (Bnd.mk b2 false))
theorem Mlaw29_bounds_sp {a1 : ByteArray} {b2 : ByteArray} {y : Rng} (hm : Mlaw29_bounds a1 b2 = y) : Spec Tryz.prog 117 [vS a1, vS b2] [] fun u h => u = .a [vS y.lo.key, vB y.lo.top, vS y.hi.key, vB y.hi.top] ∧ h = [] := by
 refine si Tryz.func117 Tryz.ntmps117 Tryz.results117 fun B w0 ρ0 => ?_
 unfold Mlaw29_bounds at hm
 refine sr ?_
 refine sr ?_
 refine sx ?_
 subst hm
 exact wk_r

def Mlaw29_awake : Option Bool :=
 bnd (Mlaw29_bounds ⟨#[97]⟩ ⟨#[102]⟩) fun y1 =>
 bnd (Mlaw29_bounds ⟨#[97]⟩ ⟨#[102]⟩) fun y2 =>
 bnd (Mlaw29_bounds ⟨#[102]⟩ ⟨#[109]⟩) fun y3 =>
 bnd (Mlaw29_bounds ⟨#[102]⟩ ⟨#[109]⟩) fun y4 =>
 bnd (Mlaw29_bounds ⟨#[97]⟩ ⟨#[109]⟩) fun y5 =>
 obnd (Mreceipt_Check (TReceipt.mk (TQuery.mk 1 ([y5] : List Rng) ⟨#[]⟩ 0) ([(TVisit.mk (TView.mk 1 y1 (TStamp.mk 1 4) ([] : List Kv)) y2), (TVisit.mk (TView.mk 2 y3 (TStamp.mk 2 0) ([] : List Kv)) y4)] : List TVisit) ([(TVisit.mk (TView.mk 1 y1 (TStamp.mk 1 4) ([] : List Kv)) y2), (TVisit.mk (TView.mk 2 y3 (TStamp.mk 2 0) ([] : List Kv)) y4)] : List TVisit))) fun y6 =>
 obnd (Mreceipt_Check (TReceipt.mk (TQuery.mk 1 ([y5] : List Rng) ⟨#[]⟩ 0) ([(TVisit.mk (TView.mk 1 y1 (TStamp.mk 1 4) ([] : List Kv)) y2), (TVisit.mk (TView.mk 2 y3 (TStamp.mk 2 0) ([] : List Kv)) y4)] : List TVisit) ([(TVisit.mk (TView.mk 1 y1 (TStamp.mk 1 4) ([] : List Kv)) y2), (TVisit.mk (TView.mk 2 y3 (TStamp.mk 2 1) ([] : List Kv)) y4)] : List TVisit))) fun y7 =>
 sel (decide (y6.2 = 0)) (
  some (decide (y7.2 = 11))) (
  some false)
theorem Mlaw29_awake_sp {y : Bool} (hm : Mlaw29_awake = some y) : Spec Tryz.prog 49 [] [] fun u h => u = vB y ∧ h = [] := by
 refine si Tryz.func49 Tryz.ntmps49 Tryz.results49 fun B w0 ρ0 => ?_
 unfold Mlaw29_awake at hm
 refine sr ?_
 refine sr ?_
 obtain ⟨y1, hy, hm⟩ := bnd_o hm
 refine wl_cq (Mlaw29_bounds_sp (hm := hy)) ?_
 refine ss ?_
 obtain ⟨y2, hy, hm⟩ := bnd_o hm
 refine wl_cq (Mlaw29_bounds_sp (hm := hy)) ?_
 refine sr ?_
 obtain ⟨y3, hy, hm⟩ := bnd_o hm
 refine wl_cq (Mlaw29_bounds_sp (hm := hy)) ?_
 refine ss ?_
 obtain ⟨y4, hy, hm⟩ := bnd_o hm
 refine wl_cq (Mlaw29_bounds_sp (hm := hy)) ?_
 refine sr ?_
 refine sr ?_
 refine sr ?_
 obtain ⟨y5, hy, hm⟩ := bnd_o hm
 refine wl_cq (Mlaw29_bounds_sp (hm := hy)) ?_
 refine ss ?_
 refine wl_bt Rng.ds [y5] rfl rfl (by simp only [flatV, cellsV, List.cons_append, List.nil_append, List.append_nil]; exact rfl) rfl rfl rfl rfl rfl rfl ?_
 refine sr ?_
 refine wl_wkw [(101, 101), (102, 102), (103, 103), (104, 104)] ⟨[(1, .p 101 0), (2, .p 102 0), (3, .p 103 0), (4, .p 104 0), (27, .a [vI 1, .d (lst Rng.ds ([y5] : List Rng)), vS ⟨#[]⟩, vI 0]), (28, .a [vI 1, vS y1.lo.key, vB y1.lo.top, vS y1.hi.key, vB y1.hi.top, vI 1, vI 4, .d (lst Kv.ds ([] : List Kv)), vS y2.lo.key, vB y2.lo.top, vS y2.hi.key, vB y2.hi.top]), (29, .a [vI 2, vS y3.lo.key, vB y3.lo.top, vS y3.hi.key, vB y3.hi.top, vI 2, vI 0, .d (lst Kv.ds ([] : List Kv)), vS y4.lo.key, vB y4.lo.top, vS y4.hi.key, vB y4.hi.top])], [(101, some (.box 62 [vI 1, vS y1.lo.key, vB y1.lo.top, vS y1.hi.key, vB y1.hi.top, vI 1, vI 4, .d (.c (.slice none 0 0)), vS y2.lo.key, vB y2.lo.top, vS y2.hi.key, vB y2.hi.top])), (102, some (.box 62 [vI 2, vS y3.lo.key, vB y3.lo.top, vS y3.hi.key, vB y3.hi.top, vI 2, vI 0, .d (.c (.slice none 0 0)), vS y4.lo.key, vB y4.lo.top, vS y4.hi.key, vB y4.hi.top])), (103, some (.box 62 [vI 2, vS y3.lo.key, vB y3.lo.top, vS y3.hi.key, vB y3.hi.top, vI 2, vI 1, .d (.c (.slice none 0 0)), vS y4.lo.key, vB y4.lo.top, vS y4.hi.key, vB y4.hi.top])), (104, some (.box 27 [vI 1, .d (lst Rng.ds ([y5] : List Rng)), vS ⟨#[]⟩, vI 0]))]⟩ ?_
 refine ss ?_
 refine wl_bt TVisit.ds [(TVisit.mk (TView.mk 1 y1 (TStamp.mk 1 4) ([] : List Kv)) y2), (TVisit.mk (TView.mk 2 y3 (TStamp.mk 2 0) ([] : List Kv)) y4)] rfl rfl (by simp only [flatV, cellsV, List.cons_append, List.nil_append, List.append_nil]; exact rfl) rfl rfl rfl rfl rfl rfl ?_
 refine ss ?_
 refine wl_wkw [(101, 101), (102, 102), (103, 103), (104, 104)] ⟨[(1, .p 101 0), (2, .p 102 0), (3, .p 103 0), (4, .p 104 0), (27, .a [vI 1, .d (lst Rng.ds ([y5] : List Rng)), vS ⟨#[]⟩, vI 0]), (30, .d (lst TVisit.ds ([(TVisit.mk (TView.mk 1 y1 (TStamp.mk 1 4) ([] : List Kv)) y2), (TVisit.mk (TView.mk 2 y3 (TStamp.mk 2 0) ([] : List Kv)) y4)] : List TVisit))), (31, .a [vI 1, vS y1.lo.key, vB y1.lo.top, vS y1.hi.key, vB y1.hi.top, vI 1, vI 4, .d (lst Kv.ds ([] : List Kv)), vS y2.lo.key, vB y2.lo.top, vS y2.hi.key, vB y2.hi.top]), (32, .a [vI 2, vS y3.lo.key, vB y3.lo.top, vS y3.hi.key, vB y3.hi.top, vI 2, vI 0, .d (lst Kv.ds ([] : List Kv)), vS y4.lo.key, vB y4.lo.top, vS y4.hi.key, vB y4.hi.top])], [(101, some (.box 62 [vI 1, vS y1.lo.key, vB y1.lo.top, vS y1.hi.key, vB y1.hi.top, vI 1, vI 4, .d (.c (.slice none 0 0)), vS y2.lo.key, vB y2.lo.top, vS y2.hi.key, vB y2.hi.top])), (102, some (.box 62 [vI 2, vS y3.lo.key, vB y3.lo.top, vS y3.hi.key, vB y3.hi.top, vI 2, vI 0, .d (.c (.slice none 0 0)), vS y4.lo.key, vB y4.lo.top, vS y4.hi.key, vB y4.hi.top])), (103, some (.box 62 [vI 2, vS y3.lo.key, vB y3.lo.top, vS y3.hi.key, vB y3.hi.top, vI 2, vI 1, .d (.c (.slice none 0 0)), vS y4.lo.key, vB y4.lo.top, vS y4.hi.key, vB y4.hi.top])), (104, some (.box 27 [vI 1, .d (lst Rng.ds ([y5] : List Rng)), vS ⟨#[]⟩, vI 0]))]⟩ ?_
 refine ss ?_
 refine wl_bt TVisit.ds [(TVisit.mk (TView.mk 1 y1 (TStamp.mk 1 4) ([] : List Kv)) y2), (TVisit.mk (TView.mk 2 y3 (TStamp.mk 2 0) ([] : List Kv)) y4)] rfl rfl (by simp only [flatV, cellsV, List.cons_append, List.nil_append, List.append_nil]; exact rfl) rfl rfl rfl rfl rfl rfl ?_
 refine ss ?_
 obtain ⟨y6, hy, hm⟩ := obnd_o hm
 refine wl_cq (Mreceipt_Check_sp (hm := hy)) ?_
 refine sr ?_
 refine wl_wkw [(101, 101), (103, 103)] ⟨[(1, .p 101 0), (3, .p 103 0), (6, vI y6.2), (39, .a [vI 1, .d (lst Rng.ds ([y5] : List Rng)), vS ⟨#[]⟩, vI 0]), (40, .a [vI 1, vS y1.lo.key, vB y1.lo.top, vS y1.hi.key, vB y1.hi.top, vI 1, vI 4, .d (lst Kv.ds ([] : List Kv)), vS y2.lo.key, vB y2.lo.top, vS y2.hi.key, vB y2.hi.top]), (41, .a [vI 2, vS y3.lo.key, vB y3.lo.top, vS y3.hi.key, vB y3.hi.top, vI 2, vI 0, .d (lst Kv.ds ([] : List Kv)), vS y4.lo.key, vB y4.lo.top, vS y4.hi.key, vB y4.hi.top])], [(101, some (.box 62 [vI 1, vS y1.lo.key, vB y1.lo.top, vS y1.hi.key, vB y1.hi.top, vI 1, vI 4, .d (.c (.slice none 0 0)), vS y2.lo.key, vB y2.lo.top, vS y2.hi.key, vB y2.hi.top])), (103, some (.box 62 [vI 2, vS y3.lo.key, vB y3.lo.top, vS y3.hi.key, vB y3.hi.top, vI 2, vI 1, .d (.c (.slice none 0 0)), vS y4.lo.key, vB y4.lo.top, vS y4.hi.key, vB y4.hi.top]))]⟩ ?_
 refine ss ?_
 refine wl_bt TVisit.ds [(TVisit.mk (TView.mk 1 y1 (TStamp.mk 1 4) ([] : List Kv)) y2), (TVisit.mk (TView.mk 2 y3 (TStamp.mk 2 0) ([] : List Kv)) y4)] rfl rfl (by simp only [flatV, cellsV, List.cons_append, List.nil_append, List.append_nil]; exact rfl) rfl rfl rfl rfl rfl rfl ?_
 refine ss ?_
 refine wl_wkw [] ⟨[(6, vI y6.2), (39, .a [vI 1, .d (lst Rng.ds ([y5] : List Rng)), vS ⟨#[]⟩, vI 0]), (42, .d (lst TVisit.ds ([(TVisit.mk (TView.mk 1 y1 (TStamp.mk 1 4) ([] : List Kv)) y2), (TVisit.mk (TView.mk 2 y3 (TStamp.mk 2 0) ([] : List Kv)) y4)] : List TVisit))), (43, .a [vI 1, vS y1.lo.key, vB y1.lo.top, vS y1.hi.key, vB y1.hi.top, vI 1, vI 4, .d (lst Kv.ds ([] : List Kv)), vS y2.lo.key, vB y2.lo.top, vS y2.hi.key, vB y2.hi.top]), (44, .a [vI 2, vS y3.lo.key, vB y3.lo.top, vS y3.hi.key, vB y3.hi.top, vI 2, vI 1, .d (lst Kv.ds ([] : List Kv)), vS y4.lo.key, vB y4.lo.top, vS y4.hi.key, vB y4.hi.top])], []⟩ ?_
 refine ss ?_
 refine wl_bt TVisit.ds [(TVisit.mk (TView.mk 1 y1 (TStamp.mk 1 4) ([] : List Kv)) y2), (TVisit.mk (TView.mk 2 y3 (TStamp.mk 2 1) ([] : List Kv)) y4)] rfl rfl (by simp only [flatV, cellsV, List.cons_append, List.nil_append, List.append_nil]; exact rfl) rfl rfl rfl rfl rfl rfl ?_
 refine ss ?_
 obtain ⟨y7, hy, hm⟩ := obnd_o hm
 refine wl_cq (Mreceipt_Check_sp (hm := hy)) ?_
 refine sr ?_
 refine wl_sg hm ?_ ?_ <;> clear hm <;> intro hm
 ·refine sx ?_
  cases hm
  exact wk_r
 refine sx ?_
 cases hm
 exact wk_r

end Go.Proofs.YtlbnhhfaedhgfaaGreatDoor
namespace Go.Proofs.YtlbnhhfaedhgfaaGreatDoor
open Go.RowKit
theorem rawake_ok : Mlaw29_awake = some true := by kernel_rfl
end Go.Proofs.YtlbnhhfaedhgfaaGreatDoor
