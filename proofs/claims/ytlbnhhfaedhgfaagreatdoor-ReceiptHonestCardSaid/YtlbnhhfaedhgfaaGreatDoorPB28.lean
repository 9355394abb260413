/-
  Lemmas: Plain laws of the models
-/
import Derived.Test.YtlbnhhfaedhgfaaGreatDoorPB27
import Derived.Test.YtlbnhhfaedhgfaaGreatDoorPB20
set_option linter.unusedSimpArgs false
set_option linter.unusedVariables false
namespace Go.Proofs.YtlbnhhfaedhgfaaGreatDoor
open Go.RowKit
theorem ov {a b : Rng} (ha : emp a = false) (hb : emp b = false) : emp (isect a b) = false ↔ a.lo.lt b.hi = true ∧ b.lo.lt a.hi = true := by
  obtain ⟨a1, a2, a3⟩ := (emp_iff a).1 ha
  obtain ⟨b1, b2, b3⟩ := (emp_iff b).1 hb
  have e : (greater a.lo b.lo).lt (lesser a.hi b.hi) = true ↔ a.lo.lt b.hi = true ∧ b.lo.lt a.hi = true := by
    rw [greater_if, lesser_if]
    cases h1 : a.lo.lt b.lo <;> cases h2 : b.hi.lt a.hi <;> simp only [Bool.false_eq_true, if_true, if_false]
    · constructor
      · intro h
        refine ⟨?_, le_lt a1 b1 h1 h⟩
        cases hh : a.lo.lt b.hi with
        | true => rfl
        | false =>
          have := le_lt a1 b2 hh h
          rw [this] at h2; cases h2
      · rintro ⟨_, _⟩; exact a3
    · constructor
      · intro h; exact ⟨h, le_lt a1 b1 h1 (lt_trans h h2)⟩
      · rintro ⟨h, _⟩; exact h
    · constructor
      · intro h; exact ⟨lt_trans h1 b3, h⟩
      · rintro ⟨_, h⟩; exact h
    · constructor
      · intro _; exact ⟨lt_trans h1 b3, lt_trans b3 h2⟩
      · intro _; exact b3
  rw [isect_ne ha hb]
  cases h : (greater a.lo b.lo).lt (lesser a.hi b.hi) with
  | true =>
    rw [h] at e
    simp only [if_true]
    rw [emp_mk (greater_vb a1 b1) (lesser_vb a2 b2), h]
    exact ⟨fun _ => e.1 rfl, fun _ => rfl⟩
  | false =>
    rw [h] at e
    simp only [Bool.false_eq_true, if_false, emp_zr]
    exact ⟨(fun h => by cases h), fun h => absurd (e.2 h) (by simp)⟩
def cnt (vs : List TView) (r : Rng) : Nat := (vs.filter fun v => !emp (isect v.Interval r)).length
def cntL (vs : List TView) (l : List Rng) : Nat := (l.map (cnt vs)).foldr (· + ·) 0
theorem cnt_le (vs : List TView) (r : Rng) : cnt vs r ≤ vs.length := List.length_filter_le _ _
theorem cntL_app (vs : List TView) : ∀ a b : List Rng, cntL vs (a ++ b) = cntL vs a + cntL vs b
  | [], b => by simp [cntL]
  | r :: a, b => by
    have := cntL_app vs a b
    simp only [cntL, List.cons_append, List.map_cons, List.foldr_cons] at this ⊢
    omega
theorem cntL_one (vs : List TView) (r : Rng) : cntL vs [r] = cnt vs r := by simp [cntL]
theorem cntL_cons (vs : List TView) (r : Rng) (a : List Rng) : cntL vs (r :: a) = cnt vs r + cntL vs a := by simp [cntL]
theorem cntL_le (vs : List TView) : ∀ l : List Rng, cntL vs l ≤ l.length * vs.length
  | [] => by simp [cntL]
  | r :: l => by
    rw [cntL_cons, List.length_cons, Nat.succ_mul]
    have := cnt_le vs r
    have := cntL_le vs l
    omega
theorem cnt_lt {vs : List TView} {v : TView} (hv : v ∈ vs) (hne : ∀ u ∈ vs, emp u.Interval = false) {x y : Rng} (hx : emp x = false) (hy : emp y = false) (h1 : emp (isect v.Interval x) = false) (h2 : emp (isect v.Interval y) = true) (hsub : ∀ u ∈ vs, emp (isect u.Interval y) = false → emp (isect u.Interval x) = false) : cnt vs y < cnt vs x := by
  unfold cnt
  have key : ∀ l : List TView, (∀ u ∈ l, u ∈ vs) → (l.filter fun v => !emp (isect v.Interval y)).length ≤ (l.filter fun v => !emp (isect v.Interval x)).length ∧ (v ∈ l → (l.filter fun v => !emp (isect v.Interval y)).length < (l.filter fun v => !emp (isect v.Interval x)).length) := by
    intro l
    induction l with
    | nil => intro _; exact ⟨Nat.le_refl _, fun h => by simp at h⟩
    | cons u l ih =>
      intro hl
      obtain ⟨i1, i2⟩ := ih fun z hz => hl z (List.mem_cons_of_mem _ hz)
      have hu := hl u List.mem_cons_self
      rw [List.filter_cons, List.filter_cons]
      cases he : emp (isect u.Interval y) with
      | false =>
        rw [hsub u hu he]
        simp only [Bool.not_false, if_true, List.length_cons]
        refine ⟨by omega, fun hm => ?_⟩
        rcases List.mem_cons.1 hm with rfl | hm
        · rw [h2] at he; cases he
        · have := i2 hm; omega
      | true =>
        cases he2 : emp (isect u.Interval x) with
        | false =>
          simp only [Bool.not_true, Bool.not_false, Bool.false_eq_true, if_false, if_true, List.length_cons]
          exact ⟨by omega, fun _ => by omega⟩
        | true =>
          simp only [Bool.not_true, Bool.false_eq_true, if_false]
          refine ⟨i1, fun hm => ?_⟩
          rcases List.mem_cons.1 hm with rfl | hm
          · rw [h1] at he2; cases he2
          · exact i2 hm
  exact (key vs fun _ h => h).2 hv
theorem cut_cnt {vs : List TView} {y : Rng} : cntL vs (cutT y) = if emp y = true then 0 else cnt vs y := by
  unfold cutT
  split
  · rfl
  · exact cntL_one _ _
theorem zb_low (b : Bnd) : b.lt zb = false := by
  show b.lt ⟨⟨#[]⟩, false⟩ = false
  have e : (⟨#[]⟩ : ByteArray).toList = [] := by kernel_rfl
  simp only [Bnd.lt, Bool.false_or]
  rw [e]
  cases b.key.toList <;> simp [Op.bytesLess]
theorem top_high (b : Bnd) : topB.lt b = false := by simp [Bnd.lt, topB]
theorem lt_top' {a b : Bnd} (h : a.lt b = true) : a.lt topB = true := by
  cases ht : a.top with
  | true => rw [Bnd.lt, ht] at h; simp at h
  | false => simp [Bnd.lt, topB, ht]
theorem Tl.up {t : List Kv} {k : Bnd} : ∀ {l : List TView} {a b : Bnd}, Tl t a l b → k.lt a = false → k.lt b = true → ∃ v ∈ l, k.lt v.Interval.lo = false ∧ k.lt v.Interval.hi = true
  | [], a, b, h, h1, h2 => by
    obtain rfl : a = b := h
    rw [h1] at h2; cases h2
  | v :: l, a, b, ⟨g1, _, _, _, g5⟩, h1, h2 => by
    cases hh : k.lt v.Interval.hi with
    | true => exact ⟨v, List.mem_cons_self, by rw [g1]; exact h1, hh⟩
    | false =>
      obtain ⟨u, hu, h3⟩ := g5.up hh h2
      exact ⟨u, List.mem_cons_of_mem _ hu, h3⟩
theorem Tl.dn {t : List Kv} {k : Bnd} : ∀ {l : List TView} {a b : Bnd}, Tl t a l b → a.lt k = true → b.lt k = false → ∃ v ∈ l, v.Interval.lo.lt k = true ∧ v.Interval.hi.lt k = false
  | [], a, b, h, h1, h2 => by
    obtain rfl : a = b := h
    rw [h1] at h2; cases h2
  | v :: l, a, b, ⟨g1, _, _, _, g5⟩, h1, h2 => by
    cases hh : v.Interval.hi.lt k with
    | false => exact ⟨v, List.mem_cons_self, by rw [g1]; exact h1, hh⟩
    | true =>
      obtain ⟨u, hu, h3⟩ := g5.dn hh h2
      exact ⟨u, List.mem_cons_of_mem _ hu, h3⟩
theorem miss_up' {x i : Rng} (h1 : x.lo.lt i.lo = false) (h2 : x.lo.lt i.hi = true) : missV false x i = false := by
  unfold missV
  rw [if_neg (by simp), decide_eq_false, decide_eq_false]
  · rfl
  · intro hh
    have := (cmp_pos i.hi x.lo).2 h2
    omega
  · intro hh
    rw [(cmp_pos _ _).1 hh] at h1; cases h1
theorem miss_dn' {x i : Rng} (h1 : i.hi.lt x.hi = false) (h2 : i.lo.lt x.hi = true) : missV true x i = false := by
  unfold missV
  rw [if_pos rfl, decide_eq_false, decide_eq_false]
  · rfl
  · intro hh
    have := (cmp_neg i.lo x.hi).2 h2
    omega
  · intro hh
    rw [(cmp_neg _ _).1 hh] at h1; cases h1
theorem some_view {t : List Kv} {vs : List TView} (h : Tl t zb vs topB) {x : Rng} (hx : emp x = false) (d : Bool) : ∃ v ∈ vs, missV d x v.Interval = false := by
  obtain ⟨a1, a2, a3⟩ := (emp_iff x).1 hx
  cases d with
  | false =>
    obtain ⟨v, hv, h1, h2⟩ := h.up (k := x.lo) (zb_low _) (lt_top' a3)
    exact ⟨v, hv, miss_up' h1 h2⟩
  | true =>
    have hz : zb.lt x.hi = true := le_lt a1 vb_zb (zb_low _) a3
    obtain ⟨v, hv, h1, h2⟩ := h.dn (k := x.hi) hz (top_high _)
    exact ⟨v, hv, miss_dn' h2 h1⟩
theorem step_cnt {vs : List TView} (hne : ∀ u ∈ vs, emp u.Interval = false) {w : TWalk} {x : Rng} (hx : emp x = false) (hw : wantW w = (x, true)) {v : TView} (hv : v ∈ vs) (hm : missV (downQ w.Query) x v.Interval = false) :
    cntL vs (stepW w v x (isect v.Interval x)).Todo < cntL vs w.Todo ∧ emp (isect (isect v.Interval x) x) = false := by
  have hi := hne v hv
  have hd : doneW w = false := want_of (by rw [hw])
  have ht := notDone hd
  have e1 := want_1 (w := w) (by rw [hw])
  rw [hw] at e1
  obtain ⟨a1, a2, a3⟩ := (emp_iff x).1 hx
  obtain ⟨b1, b2, b3⟩ := (emp_iff v.Interval).1 hi
  cases hq : downQ w.Query with
  | false =>
    rw [hq] at hm e1
    obtain ⟨z, r, e2⟩ := cons_of ht
    obtain rfl : x = z := by rw [e2] at e1; exact e1
    obtain ⟨k1, k2⟩ := miss_up hm
    have hov : emp (isect v.Interval x) = false := (ov hi hx).2 ⟨le_lt a1 b1 k1 a3, k2⟩
    obtain ⟨h, e, j1, j2, j3⟩ := isect_up hi hx k1 k2
    have hh : h = lesser v.Interval.hi x.hi := by
      have := isect_ne hi hx
      rw [e] at this
      split at this
      · exact congrArg Rng.hi this
      · exfalso
        rw [e, this, emp_zr] at hov; cases hov
    refine ⟨?_, ?_⟩
    · unfold stepW
      rw [if_neg (by simp [hq]), e, e2]
      simp only [List.tail_cons]
      rw [cntL_app, cntL_cons, cut_cnt]
      have one : 0 < cnt vs x := by
        unfold cnt
        exact List.length_pos_iff.2 (List.ne_nil_of_mem (List.mem_filter.2 ⟨hv, by simp [hov]⟩))
      split
      · omega
      · rename_i hne2
        have he : emp ⟨h, x.hi⟩ = false := by simpa using hne2
        have h3 : h.lt x.hi = true := ((emp_iff _).1 he).2.2
        have hi2 : h = v.Interval.hi := by
          rw [hh, lesser_if]
          split
          · rename_i h4
            rw [hh, lesser_if, if_pos h4, lt_irrefl] at h3; cases h3
          · rfl
        have := cnt_lt hv hne hx he hov (by
          cases h5 : emp (isect v.Interval ⟨h, x.hi⟩) with
          | true => rfl
          | false =>
            have := ((ov hi he).1 h5).2
            simp only [hi2, lt_irrefl] at this; cases this) (fun u hu h5 => by
          obtain ⟨g1, g2⟩ := (ov (hne u hu) he).1 h5
          exact (ov (hne u hu) hx).2 ⟨g1, lt_trans j2 g2⟩)
        omega
    · have hp : emp ⟨x.lo, h⟩ = false := by rw [emp_mk a1 j1, j2]; rfl
      rw [e]
      exact (ov hp hx).2 ⟨a3, j2⟩
  | true =>
    rw [hq] at hm e1
    obtain ⟨i, z, e2⟩ := snoc_of ht
    obtain rfl : x = z := by
      rw [e2] at e1
      simp only [pickW, if_true, List.getLast?_concat] at e1
      exact e1
    obtain ⟨k1, k2⟩ := miss_dn hm
    have hov : emp (isect v.Interval x) = false := (ov hi hx).2 ⟨k2, lt_le a2 b2 a3 k1⟩
    obtain ⟨h, e, j1, j2, j3⟩ := isect_dn hi hx k1 k2
    have hh : h = greater v.Interval.lo x.lo := by
      have := isect_ne hi hx
      rw [e] at this
      split at this
      · exact congrArg Rng.lo this
      · exfalso
        rw [e, this, emp_zr] at hov; cases hov
    refine ⟨?_, ?_⟩
    · unfold stepW
      rw [if_pos hq, e, e2]
      simp only [List.dropLast_concat]
      rw [cntL_app, cntL_app, cut_cnt, cntL_one]
      have one : 0 < cnt vs x := by
        unfold cnt
        exact List.length_pos_iff.2 (List.ne_nil_of_mem (List.mem_filter.2 ⟨hv, by simp [hov]⟩))
      split
      · omega
      · rename_i hne2
        have he : emp ⟨x.lo, h⟩ = false := by simpa using hne2
        have h3 : x.lo.lt h = true := ((emp_iff _).1 he).2.2
        have hi2 : h = v.Interval.lo := by
          rw [hh, greater_if]
          split
          · rename_i h4
            rw [hh, greater_if, if_pos h4, lt_irrefl] at h3; cases h3
          · rfl
        have := cnt_lt hv hne hx he hov (by
          cases h5 : emp (isect v.Interval ⟨x.lo, h⟩) with
          | true => rfl
          | false =>
            have := ((ov hi he).1 h5).1
            simp only [hi2, lt_irrefl] at this; cases this) (fun u hu h5 => by
          obtain ⟨g1, g2⟩ := (ov (hne u hu) he).1 h5
          exact (ov (hne u hu) hx).2 ⟨lt_trans g1 j3, g2⟩)
        omega
    · have hp : emp ⟨h, x.hi⟩ = false := by rw [emp_mk j1 a2, j3]; rfl
      rw [e]
      exact (ov hp hx).2 ⟨j3, a3⟩
def RI (t : List Kv) (w : TWalk) : Prop := ∀ u ∈ w.Visits, u.View.Rows = t.filter fun x => contains u.Part x.key
theorem RI.rows {t : List Kv} {w : TWalk} (h : RI t w) : rowsW w.Visits = qslices t (w.Visits.map (·.Part)) := by
  unfold rowsW qslices
  rw [List.flatMap_map]
  have : ∀ l : List TVisit, (∀ u ∈ l, u ∈ w.Visits) → (l.flatMap fun v => v.View.Rows) = l.flatMap fun u => t.filter fun x => contains u.Part x.key := fun l => by
    induction l with
    | nil => intro _; rfl
    | cons u l ih =>
      intro hl
      rw [List.flatMap_cons, List.flatMap_cons, ih fun x hx => hl x (List.mem_cons_of_mem _ hx), h u (hl u List.mem_cons_self)]
  exact this _ fun _ h => h
theorem RI.step {t : List Kv} {w : TWalk} (h : RI t w) {v : TView} (hv : v.Rows = t.filter fun x => contains v.Interval x.key) (x : Rng) : RI t (stepW w v x (isect v.Interval x)) := by
  have key : (visitV v (isect v.Interval x)).View.Rows = t.filter fun z => contains (visitV v (isect v.Interval x)).Part z.key := by
    unfold visitV
    simp only
    rw [hv, List.filter_filter]
    refine List.filter_congr fun z _ => ?_
    rw [contains_isect]
    cases contains v.Interval z.key <;> simp
  unfold stepW
  split
  · intro u hu
    rcases List.mem_cons.1 hu with rfl | hu
    · exact key
    · exact h u hu
  · intro u hu
    rcases List.mem_append.1 hu with hu | hu
    · exact h u hu
    · rw [List.mem_singleton.1 hu]; exact key
end Go.Proofs.YtlbnhhfaedhgfaaGreatDoor
namespace Go.Proofs.YtlbnhhfaedhgfaaGreatDoor
open Go.RowKit
theorem kv_eqb (a b : Kv) : (decide (a.key = b.key) && decide (a.val = b.val)) = decide (a = b) := by
  rcases a with ⟨a1, a2⟩
  rcases b with ⟨b1, b2⟩
  by_cases h1 : a1 = b1 <;> by_cases h2 : a2 = b2 <;> simp [h1, h2]
theorem drop_eq_iff {α : Type} [DecidableEq α] {a b : List α} (h : a.length = b.length) (m : Nat) : decide (a.drop m = b.drop m) = (if hm : m < a.length then decide (a[m] = b[m]'(by omega)) && decide (a.drop (m + 1) = b.drop (m + 1)) else true) := by
  split
  · rename_i hm
    rw [List.drop_eq_getElem_cons hm, List.drop_eq_getElem_cons (l := b) (by omega)]
    simp only [List.cons.injEq, Bool.decide_and]
  · rw [List.drop_eq_nil_of_le (by omega), List.drop_eq_nil_of_le (by omega)]; simp
theorem eq_ref20_Same_l1 (a b : List Kv) (h : a.length = b.length) : ∀ (xs : List Kv) (m : Nat), a.drop m = xs → m ≤ a.length → Mref20_Same_l1 a b xs (m : Int) = some (sel (decide (a.drop m = b.drop m)) (.nxt ()) (.ret false))
  | [], m, h1, hm => by
    have : a.length - m = 0 := by have := congrArg List.length h1; simpa using this
    rw [Mref20_Same_l1.eq_1, drop_eq_iff h, dif_neg (by omega)]; rfl
  | r :: xs, m, h1, hm => by
    obtain ⟨h2, h3⟩ := drop_get h1
    have h4 := (List.getElem?_eq_some_iff.1 h2).1
    rw [Mref20_Same_l1.eq_2, lget_nat, lget_nat, List.getElem?_eq_getElem h4, List.getElem?_eq_getElem (show m < b.length by omega), obnd_some, obnd_some, kv_eqb, show (m : Int) + 1 = ((m + 1 : Nat) : Int) by omega, eq_ref20_Same_l1 a b h xs (m + 1) h3 h4, drop_eq_iff h m, dif_pos h4]
    cases decide (a[m] = b[m]) <;> rfl
theorem eq_ref20_Same (a b : List Kv) : Mref20_Same a b = some (decide (a = b)) := by
  unfold Mref20_Same
  by_cases h : a.length = b.length
  · have := eq_ref20_Same_l1 a b h a 0 rfl (Nat.zero_le _)
    rw [show ((0 : Nat) : Int) = 0 from rfl, List.drop_zero, List.drop_zero] at this
    rw [decide_eq_true (by omega), this]
    cases decide (a = b) <;> rfl
  · have h2 : a ≠ b := fun e => h (by rw [e])
    rw [decide_eq_false (by omega), decide_eq_false h2]; rfl
end Go.Proofs.YtlbnhhfaedhgfaaGreatDoor
