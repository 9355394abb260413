/-
  Lemmas: Plain laws of the models
-/
import Derived.Test.YtlbnhhfaedhgfaaGreatDoorPB20
import Derived.Test.YtlbnhhfaedhgfaaGreatDoorPB21
import Derived.Test.YtlbnhhfaedhgfaaGreatDoorPB22
set_option linter.unusedSimpArgs false
set_option linter.unusedVariables false
namespace Go.Proofs.YtlbnhhfaedhgfaaGreatDoor
open Go.RowKit
theorem eq_ref1_greatest (a b : Bnd) : Mref1_greatest a b = greater a b := by
  rw [← greatest_eq]
  unfold Mref1_greatest greatest
  rw [bnd_eq, eq_ref1_Compare, sel_ite]
  by_cases h : 0 ≤ cmp a b
  · rw [if_pos (by simpa using h), if_pos h]
  · rw [if_neg (by simpa using h), if_neg h]
theorem eq_ref1_least (a b : Bnd) : Mref1_least a b = lesser a b := by
  rw [← least_eq]
  unfold Mref1_least least
  rw [bnd_eq, eq_ref1_Compare, sel_ite]
  by_cases h : cmp a b ≤ 0
  · rw [if_pos (by simpa using h), if_pos h]
  · rw [if_neg (by simpa using h), if_neg h]
theorem eq_ref1_proper (r : Rng) : Mref1_proper r = proper r := by
  unfold Mref1_proper proper
  rw [bnd_eq, eq_ref1_Empty]
  cases emp r <;> rfl
theorem eq_ref1_Intersect (a b : Rng) : Mref1_Intersect a b = isect a b := by
  unfold Mref1_Intersect isect
  simp only [bnd_eq, eq_ref1_greatest, eq_ref1_least, eq_ref1_Empty, eq_ref1_proper, proper]
  cases emp a <;> cases emp b <;> cases emp ⟨greater a.lo b.lo, lesser a.hi b.hi⟩ <;> rfl
theorem eq_clone_Ranges (l : List Rng) (h : l.length ≤ 4294967296) : Mclone_List_api_Range_ l = some l := by
  unfold Mclone_List_api_Range_
  rw [app_le (by simpa using h), obnd_some, List.nil_append]
theorem eq_clone_Rows (l : List Kv) (h : l.length ≤ 4294967296) : Mclone_List_api_Row_ l = some l := by
  unfold Mclone_List_api_Row_
  rw [app_le (by simpa using h), obnd_some, List.nil_append]
theorem eq_clone_Query (q : TQuery) (h : q.Ranges.length ≤ 4294967296) : Mclone_Query q = some q := by
  unfold Mclone_Query
  rw [eq_clone_Ranges _ h, obnd_some]
theorem eq_clone_View (v : TView) (h : v.Rows.length ≤ 4294967296) : Mclone_View v = some v := by
  unfold Mclone_View
  rw [eq_clone_Rows _ h, obnd_some]
theorem clone_Visits_l1 (y l : List TVisit) (hl : l.length = y.length) (hy : y.length ≤ 1000000) (hr : ∀ v ∈ l, v.View.Rows.length ≤ 4294967296) : ∀ (k fuel m : Nat), m + k = y.length → k < fuel → Mclone_Visits_l1 y fuel l (m : Int) = some l
  | _, 0, _, _, h => absurd h (by omega)
  | 0, fuel + 1, m, h1, _ => by
    rw [Mclone_Visits_l1.eq_2, decide_eq_false (by omega), sel_false, obnd_some, ocbnd_ret]
  | k + 1, fuel + 1, m, h1, h2 => by
    have hm : m < l.length := by omega
    rw [Mclone_Visits_l1.eq_2, decide_eq_true (by omega), sel_true, obnd_some, ocbnd_nxt, lget_nat, List.getElem?_eq_getElem hm, obnd_some, eq_clone_View _ (hr _ (List.getElem_mem hm)), obnd_some, obnd_some, bnd_eq, bnd_eq, i64w_id (by omega) (by omega), show (m : Int) + 1 = ((m + 1 : Nat) : Int) by omega]
    have e : l.set (Int.toNat (m : Int)) (TVisit.mk l[m].View l[m].Part) = l := by
      rw [Int.toNat_natCast]; exact List.set_getElem_self hm
    rw [e]
    exact clone_Visits_l1 y l hl hy hr k fuel (m + 1) (by omega) (by omega)
theorem eq_clone_Visits (l : List TVisit) (h : l.length ≤ 1000000) (hr : ∀ v ∈ l, v.View.Rows.length ≤ 4294967296) : Mclone_Visits l = some l := by
  unfold Mclone_Visits Mclone_List_api_Visit_
  rw [app_le (by simp; omega), obnd_some, List.nil_append, obnd_some, show (0 : Int) = ((0 : Nat) : Int) from rfl, clone_Visits_l1 l l rfl h hr l.length FU 0 (by omega) (by unfold FU; omega), obnd_some]
structure okW (w : TWalk) : Prop where
  q : w.Query.Ranges.length ≤ 1000
  todo : w.Todo.length ≤ 1000
  vis : w.Visits.length ≤ 1000
  rows : ∀ v ∈ w.Visits, v.View.Rows.length ≤ 10000
def inside (o i : Rng) : Bool := !emp o && decide (cmp o.lo i.lo ≤ 0) && decide (cmp i.hi o.hi ≤ 0)
theorem eq_walk_Inside (o i : Rng) : Mwalk_Inside o i = inside o i := by
  unfold Mwalk_Inside inside
  simp only [bnd_eq, eq_keyspace_Empty, eq_keyspace_Compare, sel_and, Bool.and_assoc]
theorem eq_ref28_inside (a r : Rng) : Mref28_inside a r = inside r a := by
  unfold Mref28_inside inside
  simp only [bnd_eq, eq_ref1_Empty, eq_ref1_Compare, sel_and]
  cases emp r <;> cases decide (cmp r.lo a.lo ≤ 0) <;> cases decide (cmp a.hi r.hi ≤ 0) <;> rfl
def befr (p : Option Rng) (r : Rng) : Bool := match p with | some x => decide (cmp r.lo x.hi < 0) | none => false
def stErr (all : List Rng) : Option Rng → List Rng → Int
  | _, [] => 0
  | p, r :: l => if emp r = true then 1 else if befr p r = true then 8 else if (all.any fun x => inside x r) = true then stErr all (some r) l else 2
def W0 : TWalk := ⟨⟨0, [], ⟨#[]⟩, 0⟩, [], []⟩
def qch (q : TQuery) : Int := qchk q.Kind q.Ranges q.Key q.Count
def qrg (q : TQuery) : List Rng := qranges q.Kind q.Ranges q.Key q.Count
def startW (q : TQuery) (l : List Rng) : TWalk × Int := if qch q ≠ 0 then (W0, qch q) else if 128 < l.length then (W0, 3) else if stErr (qrg q) none l = 0 then (⟨q, l, []⟩, 0) else (W0, stErr (qrg q) none l)
theorem ref28_Start_l2 (r : Rng) : ∀ (l : List Rng) (b : Bool), Mref28_Start_l2 r l b = some (b || l.any fun x => inside x r)
  | [], b => by simp [Mref28_Start_l2]
  | x :: l, b => by
    rw [Mref28_Start_l2.eq_2, bnd_eq, eq_ref28_inside, ref28_Start_l2 r l, ref28_Start_l2 r l]
    cases b <;> simp [sel_true, sel_false]
def prevR (rs : List Rng) : Nat → Option Rng
  | 0 => none
  | m + 1 => rs[m]?
def stC (e : Int) : Ctl (TWalk × Int) Unit := if e = 0 then .nxt () else .ret (W0, e)
theorem ref28_Start_l1 (q : TQuery) (hq : q.Ranges.length < 1000000) (rs : List Rng) (hrs : rs.length ≤ 1000) : ∀ (xs : List Rng) (m : Nat), rs.drop m = xs → m ≤ rs.length → Mref28_Start_l1 q rs xs (m : Int) = some (stC (stErr (qrg q) (prevR rs m) xs))
  | [], m, _, _ => rfl
  | r :: xs, m, h, hm => by
    obtain ⟨h1, h2⟩ := drop_get h
    obtain ⟨h3, h4⟩ := List.getElem?_eq_some_iff.1 h1
    have ih := ref28_Start_l1 q hq rs hrs xs (m + 1) h2 h3
    rw [Mref28_Start_l1.eq_2, bnd_eq, eq_ref1_Empty, show (m : Int) + 1 = ((m + 1 : Nat) : Int) by omega, ih, stErr.eq_2]
    have hp : (sel (decide ((0 : Int) < (m : Int))) (obnd (lget rs (i64w ((m : Int) - 1))) fun e9 => bnd (Mref1_Compare r.lo e9.hi) fun y10 => some (decide (y10 < 0))) (some false)) = some (befr (prevR rs m) r) := by
      cases m with
      | zero => rfl
      | succ m =>
        rw [decide_eq_true (by omega), sel_true, i64w_id (by omega) (by omega), show ((m + 1 : Nat) : Int) - 1 = (m : Int) by omega, lget_nat, List.getElem?_eq_getElem (by omega), obnd_some, bnd_eq, eq_ref1_Compare]
        simp only [prevR, befr]
        rw [List.getElem?_eq_getElem (by omega)]
    have hr : Mref22_Ranges q = some (qrg q) := if_pos hq
    cases emp r with
    | true => rfl
    | false =>
      simp only [Bool.false_eq_true, if_false]
      rw [sel_false, hp, obnd_some]
      generalize (befr (prevR rs m) r) = b
      cases b with
      | true => rfl
      | false =>
        simp only [Bool.false_eq_true, if_false]
        rw [sel_false, hr, obnd_some, ref28_Start_l2, obnd_some, Bool.false_or]
        have e : prevR rs (m + 1) = some r := h1
        rw [e]
        cases ((qrg q).any fun x => inside x r) <;> rfl
theorem eq_ref28_Start (q : TQuery) (l : List Rng) (hq : q.Ranges.length < 1000000) : Mref28_Start q l = some (startW q l) := by
  have e1 : Mref22_Check q = qch q := eq_ref22_Check q
  unfold Mref28_Start startW
  rw [bnd_eq, e1]
  by_cases h1 : qch q = 0
  · rw [decide_eq_true h1, Bool.not_true, sel_false, if_neg (by simpa using h1)]
    by_cases h2 : 128 < l.length
    · rw [decide_eq_true (by omega), sel_true, if_pos h2]; rfl
    · have hl : l.length ≤ 128 := by omega
      have := ref28_Start_l1 q hq l (by omega) l 0 rfl (Nat.zero_le _)
      rw [show ((0 : Nat) : Int) = 0 from rfl] at this
      rw [decide_eq_false (by omega), sel_false, if_neg h2, this, obnd_some]
      show ocbnd (stC (stErr (qrg q) none l)) _ = _
      unfold stC
      by_cases h3 : stErr (qrg q) none l = 0
      · rw [if_pos h3, if_pos h3, ocbnd_nxt, app_le (by simp; omega), obnd_some]; rfl
      · rw [if_neg h3, if_neg h3, ocbnd_ret]
  · rw [decide_eq_false h1, Bool.not_false, sel_true, if_pos h1]; rfl
end Go.Proofs.YtlbnhhfaedhgfaaGreatDoor
namespace Go.Proofs.YtlbnhhfaedhgfaaGreatDoor
open Go.RowKit
def Tot {α : Type} (M : Option α) (Q : α → Prop) : Prop := ∃ a, M = some a ∧ Q a
def CtlP {α β : Type} (Q : α → Prop) (R : β → Prop) : Ctl α β → Prop
  | .ret r => Q r
  | .nxt s => R s
section
variable {α β γ : Type} {M : Option α} {P Q : α → Prop} {b : Bool}
theorem tot_some {a : α} (h : Q a) : Tot (some a) Q := ⟨a, rfl, h⟩
theorem tot_mono (h : Tot M P) (hm : ∀ a, P a → Q a) : Tot M Q := by
  obtain ⟨a, e, h⟩ := h
  exact ⟨a, e, hm a h⟩
theorem tot_obnd {k : β → Option α} {N : Option β} {R : β → Prop} (h : Tot N R) (hk : ∀ a, R a → Tot (k a) Q) : Tot (obnd N k) Q := by
  obtain ⟨a, rfl, h⟩ := h
  exact hk a h
theorem tot_bnd {k : β → Option α} {x : β} (h : Tot (k x) Q) : Tot (bnd x k) Q := h
theorem tot_sel {x y : Option α} (h1 : b = true → Tot x Q) (h2 : b = false → Tot y Q) : Tot (sel b x y) Q := by
  cases b with
  | true => exact h1 rfl
  | false => exact h2 rfl
theorem tot_join {N : Option (Ctl α β)} {k : β → Option α} {R : β → Prop} (h : Tot N (CtlP Q R)) (hk : ∀ s, R s → Tot (k s) Q) : Tot (obnd N fun mu => ocbnd mu k) Q := by
  obtain ⟨a, rfl, h⟩ := h
  cases a with
  | ret r => exact tot_some h
  | nxt s => exact hk s h
theorem tot_app {xs ys : List α} {Q : List α → Prop} (h : xs.length + ys.length ≤ 4294967296) (hq : Q (xs ++ ys)) : Tot (app xs ys) Q := ⟨_, app_le h, hq⟩
theorem tot_lget {l : List α} {i : Int} (h0 : 0 ≤ i) (h1 : i < l.length) (hq : ∀ h : i.toNat < l.length, Q l[i.toNat]) : Tot (lget l i) Q := by
  obtain ⟨m, rfl⟩ := Int.eq_ofNat_of_zero_le h0
  have hm : m < l.length := by omega
  exact ⟨l[m], by rw [lget_nat, List.getElem?_eq_getElem hm], hq hm⟩
theorem tot_lsl {l : List α} {Q : List α → Prop} {lo hi : Int} (h : 0 ≤ lo ∧ lo ≤ hi ∧ hi ≤ l.length) (hq : Q ((l.drop lo.toNat).take (hi.toNat - lo.toNat))) : Tot (lsl l lo hi) Q := ⟨_, lsl_le h, hq⟩
theorem tot_i64 {a : Int} (h1 : -9223372036854775808 ≤ a := by omega) (h2 : a ≤ 9223372036854775807 := by omega) : i64w a = a := i64w_id h1 h2
end
section
variable {τ : TTape}
theorem tot_next (h : okT τ) {n : Int} (hn : n ≤ 9223372036854775807) : Tot (Mwld_Tape_Next τ n) fun y => okT y.2 ∧ Cho n y.1 := by
  obtain ⟨x, τ', e, h1, h2⟩ := next_ok h n hn
  exact ⟨_, e, h1, h2⟩
theorem tot_bool (h : okT τ) {n : Int} (hn : n ≤ 9223372036854775807) : Tot (Mwld_Tape_Bool τ n) fun y => okT y.2 := by
  obtain ⟨x, τ', e, h1⟩ := bool_ok h n hn
  exact ⟨_, e, h1⟩
theorem tot_bound (h : okT τ) : Tot (Mwld_Tape_Bound τ) fun y => okT y.2 ∧ y.1.key.size ≤ 65 := by
  obtain ⟨x, τ', e, h1⟩ := bound_ok h
  exact ⟨_, e, h1⟩
theorem tot_range (h : okT τ) : Tot (Mwld_Tape_Range τ) fun y => okT y.2 := by
  obtain ⟨x, τ', e, h1, -⟩ := range_ok h
  exact ⟨_, e, h1⟩
theorem tot_query (h : okT τ) : Tot (Mwld_Tape_Query τ) fun y => okT y.2 ∧ qok y.1 := by
  obtain ⟨x, τ', e, h1, h2⟩ := query_ok h
  exact ⟨_, e, h1, h2⟩
theorem tot_new (l : List Int) : Tot (Mwld_New l) okT := by
  obtain ⟨τ, e, h⟩ := new_ok l
  exact ⟨_, e, h⟩
theorem tot_pick (h : okT τ) {l : List Int} (h1 : 0 < l.length) (h2 : l.length ≤ 1000) : Tot (Mwld_Tape_Pick τ l) fun y => okT y.2 ∧ y.1 ∈ l := by
  obtain ⟨x, τ', e, h3, h4⟩ := pick_ok h l h1 h2
  exact ⟨_, e, h3, h4⟩
theorem tot_proper (h : okT τ) : Tot (Mwld_Tape_Proper τ) fun y => okT y.2 ∧ emp y.1 = false := by
  obtain ⟨x, τ', e, h3, h4⟩ := proper_ok h
  exact ⟨_, e, h3, h4⟩
theorem tot_rowsIn (h : okT τ) (r : Rng) {n : Int} (h0 : 0 ≤ n) (hn : n ≤ 900) : Tot (Mwld_Tape_RowsIn τ r n) fun y => okT y.2 ∧ tvalid y.1 = true ∧ (∀ x ∈ y.1, contains r x.key = true) ∧ (y.1.length : Int) ≤ n := by
  obtain ⟨x, τ', e, h3⟩ := rowsIn_ok h r n h0 hn
  exact ⟨_, e, h3⟩
theorem tot_rows (h : okT τ) {n : Int} (h0 : 0 ≤ n) (hn : n ≤ 900) : Tot (Mwld_Tape_Rows τ n) fun y => okT y.2 ∧ tvalid y.1 = true ∧ (y.1.length : Int) ≤ n := by
  obtain ⟨x, τ', e, h3⟩ := rows_ok h n h0 hn
  exact ⟨_, e, h3⟩
theorem tot_oddRows (h : okT τ) {l : List Kv} (hl : l.length ≤ 1000) : Tot (Mwld_Tape_OddRows τ l) fun y => okT y.2 ∧ y.1.length ≤ l.length + 1 := by
  obtain ⟨x, τ', e, h3⟩ := oddRows_ok h l hl
  exact ⟨_, e, h3⟩
end
end Go.Proofs.YtlbnhhfaedhgfaaGreatDoor
namespace Go.Proofs.YtlbnhhfaedhgfaaGreatDoor
open Go.RowKit
def enough (q : TQuery) (n : Int) : Bool := (decide (q.Kind = 3) || decide (q.Kind = 4)) && decide (q.Count ≤ n)
theorem eq_query_Enough (q : TQuery) (n : Int) : Mquery_Enough q n = enough q n := by
  unfold Mquery_Enough Mquery_counted enough
  rw [bnd_eq]
  cases decide (q.Kind = 3) <;> cases decide (q.Kind = 4) <;> cases decide (q.Count ≤ n) <;> rfl
theorem eq_ref22_Enough (q : TQuery) (n : Int) : Mref22_Enough q n = enough q n := by
  unfold Mref22_Enough enough
  cases decide (q.Kind = 3) <;> cases decide (q.Kind = 4) <;> cases decide (q.Count ≤ n) <;> rfl
def rowsW (l : List TVisit) : List Kv := l.flatMap fun v => v.View.Rows
theorem rowsW_len : ∀ {l : List TVisit}, (∀ v ∈ l, v.View.Rows.length ≤ 10000) → (rowsW l).length ≤ l.length * 10000
  | [], _ => by simp [rowsW]
  | v :: l, h => by
    have h1 := h v List.mem_cons_self
    have h2 := rowsW_len (l := l) fun x hx => h x (List.mem_cons_of_mem _ hx)
    unfold rowsW at h2 ⊢
    rw [List.flatMap_cons, List.length_append, List.length_cons]
    omega
theorem rows_walk_l1 : ∀ (l : List TVisit) (out : List Kv), out.length + (rowsW l).length ≤ 4294967296 → Mwalk_Rows_l1 l out = some (out ++ rowsW l)
  | [], out, _ => by rw [Mwalk_Rows_l1.eq_1]; simp [rowsW]
  | v :: l, out, h => by
    unfold rowsW at h ⊢
    rw [List.flatMap_cons, List.length_append] at h
    have ih := rows_walk_l1 l (out ++ v.View.Rows) (by unfold rowsW; rw [List.length_append]; omega)
    unfold rowsW at ih
    rw [Mwalk_Rows_l1.eq_2, app_le (by omega), obnd_some, ih, List.flatMap_cons, List.append_assoc]
theorem rows_ref28_l1 : ∀ (l : List TVisit) (out : List Kv), out.length + (rowsW l).length ≤ 4294967296 → Mref28_Rows_l1 l out = some (out ++ rowsW l)
  | [], out, _ => by rw [Mref28_Rows_l1.eq_1]; simp [rowsW]
  | v :: l, out, h => by
    unfold rowsW at h ⊢
    rw [List.flatMap_cons, List.length_append] at h
    have ih := rows_ref28_l1 l (out ++ v.View.Rows) (by unfold rowsW; rw [List.length_append]; omega)
    unfold rowsW at ih
    rw [Mref28_Rows_l1.eq_2, app_le (by omega), obnd_some, ih, List.flatMap_cons, List.append_assoc]
theorem okW.rlen {w : TWalk} (h : okW w) : (rowsW w.Visits).length ≤ 10000000 := by
  have h1 := rowsW_len h.rows
  have h2 := h.vis
  omega
theorem eq_walk_Rows {w : TWalk} (h : okW w) : Mwalk_Rows w = some (rowsW w.Visits) := by
  have := h.rlen
  unfold Mwalk_Rows
  rw [rows_walk_l1 _ _ (by simp; omega), obnd_some, List.nil_append]
theorem eq_ref28_Rows {w : TWalk} (h : okW w) : Mref28_Rows w.Visits = some (rowsW w.Visits) := by
  have := h.rlen
  unfold Mref28_Rows
  rw [rows_ref28_l1 _ _ (by simp; omega), obnd_some, List.nil_append]
def doneW (w : TWalk) : Bool := w.Todo.isEmpty || enough w.Query ((rowsW w.Visits).length : Int)
theorem len0 {α : Type} (l : List α) : decide ((l.length : Int) = 0) = l.isEmpty := by
  cases l with
  | nil => rfl
  | cons a l => exact decide_eq_false (by simp; omega)
theorem eq_ref28_Done {w : TWalk} (h : okW w) : Mref28_Done w = some (doneW w) := by
  unfold Mref28_Done doneW
  rw [eq_ref28_Rows h, len0, obnd_some, bnd_eq, eq_ref22_Enough]
  cases w.Todo.isEmpty <;> rfl
def downQ (q : TQuery) : Bool := decide (q.Kind = 4)
def pickW (d : Bool) (l : List Rng) : Rng := if d = true then l.getLast?.getD zr else l.head?.getD zr
def wantW (w : TWalk) : Rng × Bool := if doneW w = true then (zr, false) else (pickW (downQ w.Query) w.Todo, true)
theorem lget_first (x : Rng) (t : List Rng) : lget (x :: t) 0 = some x := by
  have := lget_nat (x :: t) 0
  rw [show ((0 : Nat) : Int) = 0 from rfl] at this
  rw [this]; rfl
theorem lastI {i : List Rng} {x : Rng} (h : (i ++ [x]).length ≤ 100000) : i64w (((i ++ [x]).length : Int) - 1) = (i.length : Int) := by
  rw [List.length_append, List.length_singleton] at h ⊢
  rw [i64w_id (by omega) (by omega)]; omega
theorem lget_last (i : List Rng) (x : Rng) : lget (i ++ [x]) (i.length : Int) = some x := by rw [lget_nat]; simp
theorem snoc_of {l : List Rng} (h : l.isEmpty = false) : ∃ i x, l = i ++ [x] := by
  rcases List.eq_nil_or_concat l with rfl | ⟨i, x, h1⟩
  · cases h
  · exact ⟨i, x, by simpa using h1⟩
theorem cons_of {l : List Rng} (h : l.isEmpty = false) : ∃ x t, l = x :: t := by
  cases l with
  | nil => cases h
  | cons x t => exact ⟨x, t, rfl⟩
theorem notDone {w : TWalk} (h : doneW w = false) : w.Todo.isEmpty = false := by
  unfold doneW at h
  cases hh : w.Todo.isEmpty with
  | false => rfl
  | true => rw [hh] at h; cases h
theorem eq_ref28_Want {w : TWalk} (h : okW w) : Mref28_Want w = some (wantW w) := by
  unfold Mref28_Want wantW
  rw [eq_ref28_Done h, obnd_some]
  cases hd : doneW w with
  | true => rfl
  | false =>
    have ht := notDone hd
    have hl := h.todo
    have e : Mref22_Down w.Query = downQ w.Query := rfl
    rw [sel_false, bnd_eq, e, if_neg (by simp)]
    unfold pickW
    cases downQ w.Query with
    | true =>
      obtain ⟨i, x, e2⟩ := snoc_of ht
      rw [e2] at hl ⊢
      rw [sel_true, lastI (by omega), lget_last, obnd_some, if_pos rfl, List.getLast?_concat]; rfl
    | false =>
      obtain ⟨x, t, e2⟩ := cons_of ht
      rw [e2, sel_false, lget_first, obnd_some, if_neg (by simp)]; rfl
def stOk (s : TStamp) : Bool := decide (0 ≤ s.Epoch) && decide (s.Epoch ≤ 1099511627776) && decide (0 ≤ s.Version) && decide (s.Version ≤ 1099511627776)
def numOk (n : Int) : Bool := decide (1 ≤ n) && decide (n ≤ 2147483647)
def validV (v : TView) : Bool := numOk v.Owner && !emp v.Interval && stOk v.Stamp && tvalid v.Rows && v.Rows.all fun x => contains v.Interval x.key
theorem eq_stamp_Valid (s : TStamp) : Mstamp_Valid s = stOk s := by
  unfold Mstamp_Valid stOk
  simp only [sel_and, Bool.and_assoc]
theorem eq_ref23_Valid (s : TStamp) : Mref23_Valid s = stOk s := by
  unfold Mref23_Valid stOk
  simp only [sel_and, Bool.and_assoc]
theorem eq_ref24_Number (n : Int) : Mref24_Number n = numOk n := by
  unfold Mref24_Number numOk
  rw [sel_and]
theorem eq_ref20_Within (r : Rng) (t : List Kv) : Mref20_Within t r = t.all fun x => contains r x.key := by
  unfold Mref20_Within
  have : ∀ t : List Kv, Mref20_Within_l1 r t = sel (t.all fun x => contains r x.key) (.nxt ()) (.ret false) := by
    intro t
    induction t with
    | nil => rfl
    | cons x t ih =>
      rw [Mref20_Within_l1.eq_2, bnd_eq, eq_ref1_Contains, ih, List.all_cons]
      cases contains r x.key <;> rfl
  rw [this, bnd_eq]
  cases (t.all fun x => contains r x.key) <;> rfl
theorem flt_all (r : Rng) (t : List Kv) : decide (((t.filter fun x => contains r x.key).length : Int) = (t.length : Int)) = t.all fun x => contains r x.key := by
  cases h : t.all fun x => contains r x.key with
  | true =>
    have : t.filter (fun x => contains r x.key) = t := List.filter_eq_self.2 fun x hx => List.all_eq_true.1 h x hx
    rw [this]; exact decide_eq_true rfl
  | false =>
    refine decide_eq_false fun he => ?_
    have he : (t.filter fun x => contains r x.key).length = t.length := by omega
    have : t.all (fun x => contains r x.key) = true := List.all_eq_true.2 fun x hx => by
      have := List.length_filter_eq_length_iff.1 he x hx
      exact this
    rw [h] at this; cases this
theorem eq_walk_ValidView (v : TView) (h : v.Rows.length ≤ 10000) : Mwalk_ValidView v = some (validV v) := by
  unfold Mwalk_ValidView validV numOk
  rw [bnd_eq, bnd_eq, eq_keyspace_Empty, eq_stamp_Valid, eq_table_Valid, obnd_some, eq_table_Slice _ _ (by omega), obnd_some, flt_all]
  cases decide (1 ≤ v.Owner) <;> cases decide (v.Owner ≤ 2147483647) <;> cases emp v.Interval <;> cases stOk v.Stamp <;> cases tvalid v.Rows <;> rfl
theorem eq_ref28_ValidView (v : TView) : Mref28_ValidView v = some (validV v) := by
  unfold Mref28_ValidView validV
  rw [bnd_eq, bnd_eq, bnd_eq, bnd_eq, eq_ref24_Number, eq_ref1_Empty, eq_ref23_Valid, eq_ref20_Valid, obnd_some, eq_ref20_Within]
  cases numOk v.Owner <;> cases emp v.Interval <;> cases stOk v.Stamp <;> cases tvalid v.Rows <;> rfl
def visitV (v : TView) (part : Rng) : TVisit := ⟨⟨v.Owner, v.Interval, v.Stamp, v.Rows.filter fun x => contains part x.key⟩, part⟩
def cutT (r : Rng) : List Rng := if emp r = true then [] else [r]
def missV (d : Bool) (want i : Rng) : Bool := if d = true then decide (cmp i.hi want.hi < 0) || decide (0 ≤ cmp i.lo want.hi) else decide (0 < cmp i.lo want.lo) || decide (cmp i.hi want.lo ≤ 0)
def stepW (w : TWalk) (v : TView) (want part : Rng) : TWalk :=
  if downQ w.Query = true then ⟨w.Query, w.Todo.dropLast ++ cutT ⟨want.lo, part.lo⟩, visitV v part :: w.Visits⟩
  else ⟨w.Query, cutT ⟨part.hi, want.hi⟩ ++ w.Todo.tail, w.Visits ++ [visitV v part]⟩
def takeW (w : TWalk) (v : TView) : TWalk × Int :=
  if (wantW w).2 = false then (W0, 7) else if validV v = false then (W0, 1) else if missV (downQ w.Query) (wantW w).1 v.Interval = true then (W0, 12) else (stepW w v (wantW w).1 (isect v.Interval (wantW w).1), 0)
theorem want_of {w : TWalk} (h : (wantW w).2 = true) : doneW w = false := by
  unfold wantW at h
  cases hd : doneW w with
  | false => rfl
  | true => rw [hd, if_pos rfl] at h; cases h
theorem want_1 {w : TWalk} (h : (wantW w).2 = true) : (wantW w).1 = pickW (downQ w.Query) w.Todo := by
  have := want_of h
  unfold wantW
  rw [this]; rfl
theorem eq_ref28_Take {w : TWalk} (h : okW w) (v : TView) (hv : v.Rows.length ≤ 10000) : Mref28_Take w v = some (takeW w v) := by
  unfold Mref28_Take takeW
  rw [eq_ref28_Want h, obnd_some]
  cases hw : (wantW w).2 with
  | false => rfl
  | true =>
    rw [Bool.not_true, sel_false, if_neg (by simp), eq_ref28_ValidView, obnd_some]
    cases hvv : validV v with
    | false => rfl
    | true =>
      have ed : Mref22_Down w.Query = downQ w.Query := rfl
      rw [Bool.not_true, sel_false, if_neg (by simp), bnd_eq, ed]
      have hm : ∀ want : Rng, (sel (!downQ w.Query) (
          bnd (Mref1_Compare v.Interval.lo want.lo) fun y6 =>
          sel (decide (0 < y6)) (
            some true) (
            bnd (Mref1_Compare v.Interval.hi want.lo) fun y7 =>
            sel (decide (y7 ≤ 0)) (
              some true) (
              sel (downQ w.Query) (
                bnd (Mref1_Compare v.Interval.hi want.hi) fun y8 =>
                sel (decide (y8 < 0)) (
                  some true) (
                  bnd (Mref1_Compare v.Interval.lo want.hi) fun y9 =>
                  some (decide (0 ≤ y9)))) (
                some false)))) (
          sel (downQ w.Query) (
            bnd (Mref1_Compare v.Interval.hi want.hi) fun y10 =>
            sel (decide (y10 < 0)) (
              some true) (
              bnd (Mref1_Compare v.Interval.lo want.hi) fun y11 =>
              some (decide (0 ≤ y11)))) (
            some false)) : Option Bool) = some (missV (downQ w.Query) want v.Interval) := by
        intro want
        unfold missV
        simp only [bnd_eq, eq_ref1_Compare]
        cases downQ w.Query with
        | true =>
          rw [Bool.not_true, sel_false, sel_true, if_pos rfl]
          cases decide (cmp v.Interval.hi want.hi < 0) <;> rfl
        | false =>
          rw [Bool.not_false, sel_true, if_neg (by simp)]
          cases decide (0 < cmp v.Interval.lo want.lo) <;> cases decide (cmp v.Interval.hi want.lo ≤ 0) <;> rfl
      rw [hm, obnd_some]
      cases hms : missV (downQ w.Query) (wantW w).1 v.Interval with
      | true => rfl
      | false =>
        rw [sel_false, if_neg (by simp), bnd_eq, eq_ref1_Intersect, eq_ref20_Slice _ _ (by omega), obnd_some]
        have ht := notDone (want_of hw)
        have hl := h.todo
        have hvis := h.vis
        have e1 := want_1 hw
        generalize isect v.Interval (wantW w).1 = part
        unfold stepW visitV cutT
        cases hd : downQ w.Query with
        | true =>
          obtain ⟨i, x, e2⟩ := snoc_of ht
          have ew : (wantW w).1 = x := by rw [e1, hd, pickW, if_pos rfl, e2, List.getLast?_concat]; rfl
          have hl2 : i.length ≤ 999 := by rw [e2] at hl; simp at hl; omega
          rw [ew, e2]
          rw [sel_true, if_pos rfl, app_le (by simp; omega), obnd_some, lastI (by simp; omega), lsl_le (by simp; omega), obnd_some]
          rw [List.dropLast_concat]
          have e3 : ((i ++ [x]).drop (0 : Int).toNat).take ((i.length : Int).toNat - (0 : Int).toNat) = i := by simp
          rw [e3, app_le (by simp; omega), obnd_some, List.nil_append, bnd_eq, eq_ref1_Empty]
          cases emp ⟨x.lo, part.lo⟩ with
          | true => simp [sel_false]
          | false =>
            rw [Bool.not_false, sel_true, app_le (by simp; omega), obnd_some]
            simp
        | false =>
          obtain ⟨x, t, e2⟩ := cons_of ht
          have ew : (wantW w).1 = x := by rw [e1, hd, pickW, if_neg (by simp), e2]; rfl
          have hl2 : t.length ≤ 1000 := by rw [e2] at hl; simp at hl; omega
          rw [ew, e2]
          rw [sel_false, if_neg (by simp), app_le (by simp; omega), obnd_some, List.nil_append, app_le (by simp; omega), obnd_some, bnd_eq, eq_ref1_Empty]
          have e3 : lsl (x :: t) 1 ((x :: t).length : Int) = some t := by
            rw [lsl_le (by simp; omega)]; simp
          cases emp ⟨part.hi, x.hi⟩ with
          | true =>
            rw [Bool.not_true, sel_false, obnd_some, e3, obnd_some, app_le (by simp; omega), obnd_some]
            simp
          | false =>
            rw [Bool.not_false, sel_true, app_le (by simp), obnd_some, obnd_some, e3, obnd_some, app_le (by simp; omega), obnd_some]
            simp
end Go.Proofs.YtlbnhhfaedhgfaaGreatDoor
namespace Go.Proofs.YtlbnhhfaedhgfaaGreatDoor
open Go.RowKit
theorem cuts_l2 (out : List Bnd) (hout : out.length ≤ 1000) (y : Bnd × TTape) : ∀ (fuel : Nat) (l : List Int) (a : Int) (k : Nat), okT ⟨l, a⟩ → k ≤ out.length → k < fuel → Tot (Mwld_Tape_Cuts_l2 out y fuel l a (k : Int)) fun z => okT ⟨z.1, z.2.1⟩ ∧ 0 ≤ z.2.2 ∧ z.2.2 ≤ out.length
  | 0, _, _, _, _, _, h => absurd h (by omega)
  | fuel + 1, l, a, k, h, hk, hf => by
    rw [Mwld_Tape_Cuts_l2.eq_2]
    have stay : okT ⟨l, a⟩ ∧ 0 ≤ (k : Int) ∧ (k : Int) ≤ out.length := ⟨h, by omega, by omega⟩
    refine tot_sel (fun h1 => ?_) fun _ => tot_some stay
    have h1 : 0 < (k : Int) := of_decide_eq_true h1
    rw [tot_i64]
    refine tot_obnd (tot_lget (Q := fun _ => True) (by omega) (by omega) fun _ => trivial) fun e _ => tot_bnd (tot_sel (fun _ => tot_obnd (tot_bool h (by omega)) fun z hz => tot_sel (fun _ => ?_) fun _ => tot_some ⟨hz, by simp only; omega, by simp only; omega⟩) fun _ => tot_some stay)
    rw [show (k : Int) - 1 = ((k - 1 : Nat) : Int) by omega]
    exact cuts_l2 out hout y fuel _ _ (k - 1) hz (by omega) (by omega)
theorem cuts_l1 : ∀ (fuel : Nat) (l : List Int) (a : Int) (out : List Bnd) (i : Int), okT ⟨l, a⟩ → i.toNat < fuel → i ≤ 100 → (out.length : Int) + max i 0 ≤ 900 → Tot (Mwld_Tape_Cuts_l1 fuel l a out i) fun z => okT ⟨z.2.1, z.2.2⟩ ∧ (z.1.length : Int) ≤ out.length + max i 0
  | 0, _, _, _, _, _, h, _, _ => absurd h (by omega)
  | fuel + 1, l, a, out, i, h, hf, hi, ho => by
    rw [Mwld_Tape_Cuts_l1.eq_2]
    refine tot_join (R := fun _ => 0 < i) (tot_sel (fun h1 => tot_some (show 0 < i from of_decide_eq_true h1)) fun _ => tot_some ⟨h, by simp only; omega⟩) fun _ h1 => ?_
    refine tot_obnd (R := fun z => okT ⟨z.1, z.2.1⟩ ∧ z.2.2.length ≤ out.length + 1) ?_ ?_
    · refine tot_obnd (tot_bound h) fun y hy => tot_obnd (cuts_l2 out (by omega) y FU y.2.l y.2.at_ out.length hy.1 (Nat.le_refl _) (by unfold FU; omega)) ?_
      rintro ⟨l1, a1, k1⟩ ⟨g1, g2, g3⟩
      simp only at g1 g2 g3 ⊢
      refine tot_obnd (R := fun z => okT ⟨z.1, z.2.1⟩) ?_ ?_
      · have tl : ∀ (τ : TTape), okT τ → ∀ b : Bool, Tot (sel b (obnd (Mwld_Tape_Bool τ 20) fun y22 => some (y22.2.l, y22.2.at_, !y22.1)) (some (τ.l, τ.at_, false))) fun z => okT ⟨z.1, z.2.1⟩ := fun τ hτ b => tot_sel (fun _ => tot_obnd (tot_bool hτ (by omega)) fun z hz => tot_some hz) fun _ => tot_some hτ
        refine tot_sel (fun h2 => ?_) fun _ => tot_bnd (tl ⟨l1, a1⟩ g1 _)
        have h2 : 0 < k1 := of_decide_eq_true h2
        rw [tot_i64]
        refine tot_obnd (tot_lget (Q := fun _ => True) (by omega) (by omega) fun _ => trivial) fun e _ => tot_bnd (tot_sel (fun _ => ?_) fun _ => tot_bnd (tl ⟨l1, a1⟩ g1 _))
        exact tot_obnd (tot_bool g1 (by omega)) fun z hz => tot_sel (fun _ => tot_some hz) fun _ => tot_bnd (tl z.2 hz _)
      · rintro ⟨l2, a2, b2⟩ g4
        simp only at g4 ⊢
        refine tot_join (R := fun _ => True) (tot_sel (fun _ => tot_some ⟨g4, by simp only; omega⟩) fun _ => tot_some trivial) fun _ _ => ?_
        refine tot_obnd (tot_lsl (Q := fun l => (l.length : Int) = k1) (by omega) (by simp; omega)) fun l30 e30 => ?_
        refine tot_obnd (tot_app (Q := fun l => (l.length : Int) = k1) (by simp; omega) (by simp; omega)) fun l31 e31 => ?_
        refine tot_obnd (tot_app (Q := fun l => (l.length : Int) = k1 + 1) (by simp; omega) (by simp; omega)) fun l32 e32 => ?_
        refine tot_obnd (tot_lsl (Q := fun l => (l.length : Int) = out.length - k1) (by omega) (by simp; omega)) fun l33 e33 => ?_
        refine tot_obnd (tot_app (Q := fun l => (l.length : Int) = out.length + 1) (by omega) (by simp; omega)) fun l34 e34 => ?_
        exact tot_some ⟨g4, by simp only; omega⟩
    · rintro ⟨l2, a2, o2⟩ ⟨g1, g2⟩
      simp only at g1 g2 ⊢
      rw [tot_i64]
      exact tot_mono (cuts_l1 fuel l2 a2 o2 (i - 1) g1 (by omega) (by omega) (by omega)) fun z hz => ⟨hz.1, by have := hz.2; omega⟩
theorem tot_cuts {τ : TTape} (h : okT τ) {n : Int} (h0 : 0 ≤ n) (hn : n ≤ 50) : Tot (Mwld_Tape_Cuts τ n) fun y => okT y.2 ∧ (y.1.length : Int) ≤ n := by
  unfold Mwld_Tape_Cuts
  rw [tot_i64]
  refine tot_obnd (tot_next h (by omega)) fun y hy => ?_
  obtain ⟨h1, h2⟩ := hy
  unfold Cho at h2
  refine tot_obnd (cuts_l1 FU y.2.l y.2.at_ [] y.1 h1 (by unfold FU; omega) (by omega) (by simp; omega)) ?_
  rintro ⟨o, l, a⟩ ⟨g1, g2⟩
  simp only [List.length_nil] at g1 g2
  exact tot_some ⟨g1, by simp only; omega⟩
end Go.Proofs.YtlbnhhfaedhgfaaGreatDoor
