/-
  Lemmas: Plain words: the rows of ranges in order: what the parts of a walk's visits show. / Plain laws of the models: a walk through a net goes on until it is done; the rows that it shows. / Plain laws of the models: rows and answers compared.
-/
import Derived.Test.YtlbnhhfaedhgfaaGreatDoorPR26
import Derived.Test.YtlbnhhfaedhgfaaGreatDoorPR20
namespace Go.Proofs.YtlbnhhfaedhgfaaGreatDoor
set_option linter.unusedSimpArgs false
set_option linter.unusedVariables false
open Go.RowKit
theorem flt_or {t : List Kv} {p q : Kv → Bool} (ht : t.Pairwise fun a b => bl a.key b.key = true) (h : ∀ x y, p x = true → q y = true → bl x.key y.key = true) : t.filter p ++ t.filter q = t.filter fun x => p x || q x := by
  induction t with
  | nil => rfl
  | cons x t ih =>
    obtain ⟨h1, h2⟩ := List.pairwise_cons.1 ht
    rw [List.filter_cons, List.filter_cons, List.filter_cons]
    have irr : ∀ k : ByteArray, bl k k = false := fun k => bytesLess_irrefl k.toList
    have tr : ∀ a b c : ByteArray, bl a b = true → bl b c = true → bl a c = true := fun a b c g1 g2 => bytesLess_trans g1 g2
    cases hp : p x with
    | true =>
      have hq : q x = false := by
        cases hq : q x with
        | false => rfl
        | true => have := h x x hp hq; rw [irr] at this; cases this
      simp only [hq, Bool.true_or, if_true, Bool.false_eq_true, if_false, List.cons_append]
      rw [ih h2]
    | false =>
      cases hq : q x with
      | false =>
        simp only [Bool.or_self, Bool.false_eq_true, if_false]
        exact ih h2
      | true =>
        have none : t.filter p = [] := List.filter_eq_nil_iff.2 fun y hy hpy => by
          have g1 := h1 y hy
          have g2 := h y x hpy hq
          have := tr _ _ _ g1 g2
          rw [irr] at this; cases this
        simp only [Bool.false_or, if_true, Bool.false_eq_true, if_false]
        rw [none, List.nil_append]
        have e : t.filter (fun x => p x || q x) = t.filter q := by
          have := ih h2
          rw [none, List.nil_append] at this
          exact this.symm
        rw [e]
theorem contains_lo' {r : Rng} {k : ByteArray} (h : contains r k = true) : emp r = false ∧ vk k = true ∧ Bnd.lt ⟨k, false⟩ r.lo = false ∧ Bnd.lt ⟨k, false⟩ r.hi = true := by
  cases he : emp r with
  | true => rw [contains_emp he] at h; cases h
  | false => exact ⟨rfl, (contains_pt he k).1 h⟩
theorem bl_lt (a b : ByteArray) : Bnd.lt ⟨a, false⟩ ⟨b, false⟩ = bl a b := by simp [Bnd.lt, bl]
theorem qslices_any {t : List Kv} (ht : tvalid t = true) : ∀ {l : List Rng}, (∀ r ∈ l, emp r = false) → l.Pairwise (fun a b => b.lo.lt a.hi = false) → qslices t l = t.filter fun x => l.any fun r => contains r x.key
  | [], _, _ => by simp [qslices]
  | r :: l, h1, h2 => by
    obtain ⟨s1, s2⟩ := List.pairwise_cons.1 h2
    have ih := qslices_any ht (l := l) (fun x hx => h1 x (List.mem_cons_of_mem _ hx)) s2
    have e : qslices t (r :: l) = t.filter (fun x => contains r x.key) ++ qslices t l := by simp [qslices]
    rw [e, ih, flt_or ((tvalid_iff t).1 ht).2.2 (q := fun x => l.any fun r => contains r x.key) fun x y hx hy => ?_]
    · simp only [List.any_cons]
    · obtain ⟨c, hc, hcy⟩ := List.any_eq_true.1 hy
      obtain ⟨g1, g2, g3, g4⟩ := contains_lo' hx
      obtain ⟨k1, k2, k3, k4⟩ := contains_lo' hcy
      have v1 := (emp_iff r).1 g1
      have v2 := (emp_iff c).1 k1
      have hs := s1 c hc
      have vy : vb ⟨y.key, false⟩ = true := by simp [vb, k2]
      have a1 : Bnd.lt ⟨x.key, false⟩ c.lo = true := lt_le v1.2.1 v2.1 g4 hs
      have a2 : Bnd.lt ⟨x.key, false⟩ ⟨y.key, false⟩ = true := lt_le v2.1 vy a1 k3
      rwa [bl_lt] at a2
theorem any_pts {l m : List Rng} (h1 : ∀ r ∈ l, emp r = false) (h2 : ∀ r ∈ m, emp r = false) (h : ∀ b, vb b = true → (Pt l b ↔ Pt m b)) {k : ByteArray} (hk : vk k = true) : (l.any fun r => contains r k) = m.any fun r => contains r k := by
  have a1 := any_pt (l := l) hk
  have a2 := any_pt (l := m) hk
  rw [filter_ne h1] at a1
  rw [filter_ne h2] at a2
  have := h ⟨k, false⟩ (by simp [vb, hk])
  rw [Bool.eq_iff_iff, a1, a2]; exact this
theorem Gd.slices {t : List Kv} (ht : tvalid t = true) {l m : List Rng} (g : Gd l m) (hm : Nrm m) : qslices t l = qslices t m := by
  rw [qslices_any ht g.ne g.srt, qslices_any ht hm.ne (hm.gap.imp fun g => lt_asymm g)]
  refine List.filter_congr fun x hx => ?_
  have hv := ((tvalid_iff t).1 ht).2.1 x hx
  simp only [vrow, Bool.and_eq_true] at hv
  exact any_pts g.ne hm.ne g.pts hv.1
theorem qslices_app (t : List Kv) (a b : List Rng) : qslices t (a ++ b) = qslices t a ++ qslices t b := by simp [qslices]
theorem Tl.pts {t : List Kv} : ∀ {l : List TView} {a b : Bnd}, Tl t a l b → vb a = true → b.lt a = false ∧ vb b = true ∧ (∀ v ∈ l, v.Interval.lo.lt a = false) ∧ (l.map (·.Interval)).Pairwise (fun x y => y.lo.lt x.hi = false) ∧ ∀ k, vb k = true → (Pt (l.map (·.Interval)) k ↔ k.lt a = false ∧ k.lt b = true)
  | [], a, b, h, ha => by
    obtain rfl : a = b := h
    refine ⟨lt_irrefl _, ha, by simp, by simp, fun k hk => ?_⟩
    constructor
    · intro h; exact absurd h pt_nil
    · rintro ⟨h1, h2⟩; rw [h1] at h2; cases h2
  | v :: l, a, b, ⟨g1, g2, g3, g4, g5⟩, ha => by
    obtain ⟨e1, e2, e3⟩ := (emp_iff v.Interval).1 g2
    obtain ⟨i1, i2, i3, i4, i5⟩ := g5.pts e2
    rw [← g1]
    have hb : v.Interval.lo.lt b = true := by
      cases hh : v.Interval.lo.lt b with
      | true => rfl
      | false =>
        exfalso
        cases h2 : b.lt v.Interval.lo with
        | true => rw [lt_trans h2 e3] at i1; cases i1
        | false =>
          have e := lt_total e1 i2 hh h2
          rw [← e, e3] at i1; cases i1
    refine ⟨lt_asymm hb, i2, fun x hx => ?_, ?_, fun k hk => ?_⟩
    · rcases List.mem_cons.1 hx with rfl | hx
      · exact lt_irrefl _
      · have h1 := i3 x hx
        cases hh : x.Interval.lo.lt v.Interval.lo with
        | false => rfl
        | true => rw [lt_trans hh e3] at h1; cases h1
    · rw [List.map_cons, List.pairwise_cons]
      refine ⟨fun x hx => ?_, i4⟩
      obtain ⟨y, hy, rfl⟩ := List.mem_map.1 hx
      exact i3 y hy
    · rw [List.map_cons, pt_cons, i5 k hk]
      constructor
      · rintro (⟨h1, h2⟩ | ⟨h1, h2⟩)
        · refine ⟨h1, ?_⟩
          cases hh : k.lt b with
          | true => rfl
          | false =>
            have h3 := lt_le e2 i2 h2 i1
            rw [h3] at hh; cases hh
        · refine ⟨?_, h2⟩
          cases hh : k.lt v.Interval.lo with
          | false => rfl
          | true => rw [lt_trans hh e3] at h1; cases h1
      · rintro ⟨h1, h2⟩
        cases hh : k.lt v.Interval.hi with
        | true => exact .inl ⟨h1, rfl⟩
        | false => exact .inr ⟨rfl, h2⟩
theorem lt_top (k : ByteArray) : Bnd.lt ⟨k, false⟩ topB = true := by simp [Bnd.lt, topB]
theorem zb_le (k : ByteArray) : Bnd.lt ⟨k, false⟩ zb = false := by
  show Bnd.lt ⟨k, false⟩ ⟨⟨#[]⟩, false⟩ = false
  have e : (⟨#[]⟩ : ByteArray).toList = [] := by kernel_rfl
  simp only [Bnd.lt, Bool.not_false, Bool.true_and, Bool.false_or]
  rw [e]
  cases k.toList <;> rfl
theorem vb_zb : vb zb = true := by kernel_rfl
theorem Tl.rows {t : List Kv} (ht : tvalid t = true) {vs : List TView} (h : Tl t zb vs topB) : vs.flatMap (·.Rows) = t := by
  obtain ⟨-, -, -, h4, h5⟩ := h.pts vb_zb
  have e : vs.flatMap (·.Rows) = qslices t (vs.map (·.Interval)) := by
    unfold qslices
    rw [List.flatMap_map]
    have : ∀ l : List TView, (∀ v ∈ l, v ∈ vs) → l.flatMap (·.Rows) = l.flatMap fun v => t.filter fun x => contains v.Interval x.key := fun l => by
      induction l with
      | nil => intro _; rfl
      | cons v l ih =>
        intro hl
        rw [List.flatMap_cons, List.flatMap_cons, ih fun x hx => hl x (List.mem_cons_of_mem _ hx), (h.mem v (hl v List.mem_cons_self)).2.1]
    exact this vs fun _ h => h
  have hne : ∀ r ∈ vs.map (·.Interval), emp r = false := fun r hr => by
    obtain ⟨v, hv, rfl⟩ := List.mem_map.1 hr
    exact (h.mem v hv).2.2
  rw [e, qslices_any ht hne h4]
  refine List.filter_eq_self.2 fun x hx => ?_
  have hv := ((tvalid_iff t).1 ht).2.1 x hx
  simp only [vrow, Bool.and_eq_true] at hv
  have := any_pt (l := vs.map (·.Interval)) hv.1
  rw [filter_ne hne] at this
  exact this.2 ((h5 ⟨x.key, false⟩ (by simp [vb, hv.1])).2 ⟨zb_le _, lt_top _⟩)
end Go.Proofs.YtlbnhhfaedhgfaaGreatDoor
namespace Go.Proofs.YtlbnhhfaedhgfaaGreatDoor
set_option linter.unusedSimpArgs false
set_option linter.unusedVariables false
open Go.RowKit
theorem ov {a b : Rng} (ha : emp a = false) (hb : emp b = false) : emp (isect a b) = false ↔ a.lo.lt b.hi = true ∧ b.lo.lt a.hi = true := by
  obtain ⟨a1, a2, a3⟩ := (emp_iff a).1 ha
  obtain ⟨b1, b2, b3⟩ := (emp_iff b).1 hb
  have e : (greater a.lo b.lo).lt (lesser a.hi b.hi) = true ↔ a.lo.lt b.hi = true ∧ b.lo.lt a.hi = true := by
    rw [greater_if, lesser_if]
    cases h1 : a.lo.lt b.lo <;> cases h2 : b.hi.lt a.hi <;> simp only [Bool.false_eq_true, if_true, if_false]
    · constructor
      · intro h
        refine ⟨?_, le_lt a1 b1 h1 h⟩
        cases hh : a.lo.lt b.hi with
        | true => rfl
        | false =>
          have := le_lt a1 b2 hh h
          rw [this] at h2; cases h2
      · rintro ⟨_, _⟩; exact a3
    · constructor
      · intro h; exact ⟨h, le_lt a1 b1 h1 (lt_trans h h2)⟩
      · rintro ⟨h, _⟩; exact h
    · constructor
      · intro h; exact ⟨lt_trans h1 b3, h⟩
      · rintro ⟨_, h⟩; exact h
    · constructor
      · intro _; exact ⟨lt_trans h1 b3, lt_trans b3 h2⟩
      · intro _; exact b3
  rw [isect_ne ha hb]
  cases h : (greater a.lo b.lo).lt (lesser a.hi b.hi) with
  | true =>
    rw [h] at e
    simp only [if_true]
    rw [emp_mk (greater_vb a1 b1) (lesser_vb a2 b2), h]
    exact ⟨fun _ => e.1 rfl, fun _ => rfl⟩
  | false =>
    rw [h] at e
    simp only [Bool.false_eq_true, if_false, emp_zr]
    exact ⟨(fun h => by cases h), fun h => absurd (e.2 h) (by simp)⟩
def cnt (vs : List TView) (r : Rng) : Nat := (vs.filter fun v => !emp (isect v.Interval r)).length
def cntL (vs : List TView) (l : List Rng) : Nat := (l.map (cnt vs)).foldr (· + ·) 0
theorem cnt_le (vs : List TView) (r : Rng) : cnt vs r ≤ vs.length := List.length_filter_le _ _
theorem cntL_app (vs : List TView) : ∀ a b : List Rng, cntL vs (a ++ b) = cntL vs a + cntL vs b
  | [], b => by simp [cntL]
  | r :: a, b => by
    have := cntL_app vs a b
    simp only [cntL, List.cons_append, List.map_cons, List.foldr_cons] at this ⊢
    omega
theorem cntL_one (vs : List TView) (r : Rng) : cntL vs [r] = cnt vs r := by simp [cntL]
theorem cntL_cons (vs : List TView) (r : Rng) (a : List Rng) : cntL vs (r :: a) = cnt vs r + cntL vs a := by simp [cntL]
theorem cntL_le (vs : List TView) : ∀ l : List Rng, cntL vs l ≤ l.length * vs.length
  | [] => by simp [cntL]
  | r :: l => by
    rw [cntL_cons, List.length_cons, Nat.succ_mul]
    have := cnt_le vs r
    have := cntL_le vs l
    omega
theorem cnt_lt {vs : List TView} {v : TView} (hv : v ∈ vs) (hne : ∀ u ∈ vs, emp u.Interval = false) {x y : Rng} (hx : emp x = false) (hy : emp y = false) (h1 : emp (isect v.Interval x) = false) (h2 : emp (isect v.Interval y) = true) (hsub : ∀ u ∈ vs, emp (isect u.Interval y) = false → emp (isect u.Interval x) = false) : cnt vs y < cnt vs x := by
  unfold cnt
  have key : ∀ l : List TView, (∀ u ∈ l, u ∈ vs) → (l.filter fun v => !emp (isect v.Interval y)).length ≤ (l.filter fun v => !emp (isect v.Interval x)).length ∧ (v ∈ l → (l.filter fun v => !emp (isect v.Interval y)).length < (l.filter fun v => !emp (isect v.Interval x)).length) := by
    intro l
    induction l with
    | nil => intro _; exact ⟨Nat.le_refl _, fun h => by simp at h⟩
    | cons u l ih =>
      intro hl
      obtain ⟨i1, i2⟩ := ih fun z hz => hl z (List.mem_cons_of_mem _ hz)
      have hu := hl u List.mem_cons_self
      rw [List.filter_cons, List.filter_cons]
      cases he : emp (isect u.Interval y) with
      | false =>
        rw [hsub u hu he]
        simp only [Bool.not_false, if_true, List.length_cons]
        refine ⟨by omega, fun hm => ?_⟩
        rcases List.mem_cons.1 hm with rfl | hm
        · rw [h2] at he; cases he
        · have := i2 hm; omega
      | true =>
        cases he2 : emp (isect u.Interval x) with
        | false =>
          simp only [Bool.not_true, Bool.not_false, Bool.false_eq_true, if_false, if_true, List.length_cons]
          exact ⟨by omega, fun _ => by omega⟩
        | true =>
          simp only [Bool.not_true, Bool.false_eq_true, if_false]
          refine ⟨i1, fun hm => ?_⟩
          rcases List.mem_cons.1 hm with rfl | hm
          · rw [h1] at he2; cases he2
          · exact i2 hm
  exact (key vs fun _ h => h).2 hv
theorem cut_cnt {vs : List TView} {y : Rng} : cntL vs (cutT y) = if emp y = true then 0 else cnt vs y := by
  unfold cutT
  split
  · rfl
  · exact cntL_one _ _
theorem zb_low (b : Bnd) : b.lt zb = false := by
  show b.lt ⟨⟨#[]⟩, false⟩ = false
  have e : (⟨#[]⟩ : ByteArray).toList = [] := by kernel_rfl
  simp only [Bnd.lt, Bool.false_or]
  rw [e]
  cases b.key.toList <;> simp [Op.bytesLess]
theorem top_high (b : Bnd) : topB.lt b = false := by simp [Bnd.lt, topB]
theorem lt_top' {a b : Bnd} (h : a.lt b = true) : a.lt topB = true := by
  cases ht : a.top with
  | true => rw [Bnd.lt, ht] at h; simp at h
  | false => simp [Bnd.lt, topB, ht]
theorem Tl.up {t : List Kv} {k : Bnd} : ∀ {l : List TView} {a b : Bnd}, Tl t a l b → k.lt a = false → k.lt b = true → ∃ v ∈ l, k.lt v.Interval.lo = false ∧ k.lt v.Interval.hi = true
  | [], a, b, h, h1, h2 => by
    obtain rfl : a = b := h
    rw [h1] at h2; cases h2
  | v :: l, a, b, ⟨g1, _, _, _, g5⟩, h1, h2 => by
    cases hh : k.lt v.Interval.hi with
    | true => exact ⟨v, List.mem_cons_self, by rw [g1]; exact h1, hh⟩
    | false =>
      obtain ⟨u, hu, h3⟩ := g5.up hh h2
      exact ⟨u, List.mem_cons_of_mem _ hu, h3⟩
theorem Tl.dn {t : List Kv} {k : Bnd} : ∀ {l : List TView} {a b : Bnd}, Tl t a l b → a.lt k = true → b.lt k = false → ∃ v ∈ l, v.Interval.lo.lt k = true ∧ v.Interval.hi.lt k = false
  | [], a, b, h, h1, h2 => by
    obtain rfl : a = b := h
    rw [h1] at h2; cases h2
  | v :: l, a, b, ⟨g1, _, _, _, g5⟩, h1, h2 => by
    cases hh : v.Interval.hi.lt k with
    | false => exact ⟨v, List.mem_cons_self, by rw [g1]; exact h1, hh⟩
    | true =>
      obtain ⟨u, hu, h3⟩ := g5.dn hh h2
      exact ⟨u, List.mem_cons_of_mem _ hu, h3⟩
theorem miss_up' {x i : Rng} (h1 : x.lo.lt i.lo = false) (h2 : x.lo.lt i.hi = true) : missV false x i = false := by
  unfold missV
  rw [if_neg (by simp), decide_eq_false, decide_eq_false]
  · rfl
  · intro hh
    have := (cmp_pos i.hi x.lo).2 h2
    omega
  · intro hh
    rw [(cmp_pos _ _).1 hh] at h1; cases h1
theorem miss_dn' {x i : Rng} (h1 : i.hi.lt x.hi = false) (h2 : i.lo.lt x.hi = true) : missV true x i = false := by
  unfold missV
  rw [if_pos rfl, decide_eq_false, decide_eq_false]
  · rfl
  · intro hh
    have := (cmp_neg i.lo x.hi).2 h2
    omega
  · intro hh
    rw [(cmp_neg _ _).1 hh] at h1; cases h1
theorem some_view {t : List Kv} {vs : List TView} (h : Tl t zb vs topB) {x : Rng} (hx : emp x = false) (d : Bool) : ∃ v ∈ vs, missV d x v.Interval = false := by
  obtain ⟨a1, a2, a3⟩ := (emp_iff x).1 hx
  cases d with
  | false =>
    obtain ⟨v, hv, h1, h2⟩ := h.up (k := x.lo) (zb_low _) (lt_top' a3)
    exact ⟨v, hv, miss_up' h1 h2⟩
  | true =>
    have hz : zb.lt x.hi = true := le_lt a1 vb_zb (zb_low _) a3
    obtain ⟨v, hv, h1, h2⟩ := h.dn (k := x.hi) hz (top_high _)
    exact ⟨v, hv, miss_dn' h2 h1⟩
theorem step_cnt {vs : List TView} (hne : ∀ u ∈ vs, emp u.Interval = false) {w : TWalk} {x : Rng} (hx : emp x = false) (hw : wantW w = (x, true)) {v : TView} (hv : v ∈ vs) (hm : missV (downQ w.Query) x v.Interval = false) :
    cntL vs (stepW w v x (isect v.Interval x)).Todo < cntL vs w.Todo ∧ emp (isect (isect v.Interval x) x) = false := by
  have hi := hne v hv
  have hd : doneW w = false := want_of (by rw [hw])
  have ht := notDone hd
  have e1 := want_1 (w := w) (by rw [hw])
  rw [hw] at e1
  obtain ⟨a1, a2, a3⟩ := (emp_iff x).1 hx
  obtain ⟨b1, b2, b3⟩ := (emp_iff v.Interval).1 hi
  cases hq : downQ w.Query with
  | false =>
    rw [hq] at hm e1
    obtain ⟨z, r, e2⟩ := cons_of ht
    obtain rfl : x = z := by rw [e2] at e1; exact e1
    obtain ⟨k1, k2⟩ := miss_up hm
    have hov : emp (isect v.Interval x) = false := (ov hi hx).2 ⟨le_lt a1 b1 k1 a3, k2⟩
    obtain ⟨h, e, j1, j2, j3⟩ := isect_up hi hx k1 k2
    have hh : h = lesser v.Interval.hi x.hi := by
      have := isect_ne hi hx
      rw [e] at this
      split at this
      · exact congrArg Rng.hi this
      · exfalso
        rw [e, this, emp_zr] at hov; cases hov
    refine ⟨?_, ?_⟩
    · unfold stepW
      rw [if_neg (by simp [hq]), e, e2]
      simp only [List.tail_cons]
      rw [cntL_app, cntL_cons, cut_cnt]
      have one : 0 < cnt vs x := by
        unfold cnt
        exact List.length_pos_iff.2 (List.ne_nil_of_mem (List.mem_filter.2 ⟨hv, by simp [hov]⟩))
      split
      · omega
      · rename_i hne2
        have he : emp ⟨h, x.hi⟩ = false := by simpa using hne2
        have h3 : h.lt x.hi = true := ((emp_iff _).1 he).2.2
        have hi2 : h = v.Interval.hi := by
          rw [hh, lesser_if]
          split
          · rename_i h4
            rw [hh, lesser_if, if_pos h4, lt_irrefl] at h3; cases h3
          · rfl
        have := cnt_lt hv hne hx he hov (by
          cases h5 : emp (isect v.Interval ⟨h, x.hi⟩) with
          | true => rfl
          | false =>
            have := ((ov hi he).1 h5).2
            simp only [hi2, lt_irrefl] at this; cases this) (fun u hu h5 => by
          obtain ⟨g1, g2⟩ := (ov (hne u hu) he).1 h5
          exact (ov (hne u hu) hx).2 ⟨g1, lt_trans j2 g2⟩)
        omega
    · have hp : emp ⟨x.lo, h⟩ = false := by rw [emp_mk a1 j1, j2]; rfl
      rw [e]
      exact (ov hp hx).2 ⟨a3, j2⟩
  | true =>
    rw [hq] at hm e1
    obtain ⟨i, z, e2⟩ := snoc_of ht
    obtain rfl : x = z := by
      rw [e2] at e1
      simp only [pickW, if_true, List.getLast?_concat] at e1
      exact e1
    obtain ⟨k1, k2⟩ := miss_dn hm
    have hov : emp (isect v.Interval x) = false := (ov hi hx).2 ⟨k2, lt_le a2 b2 a3 k1⟩
    obtain ⟨h, e, j1, j2, j3⟩ := isect_dn hi hx k1 k2
    have hh : h = greater v.Interval.lo x.lo := by
      have := isect_ne hi hx
      rw [e] at this
      split at this
      · exact congrArg Rng.lo this
      · exfalso
        rw [e, this, emp_zr] at hov; cases hov
    refine ⟨?_, ?_⟩
    · unfold stepW
      rw [if_pos hq, e, e2]
      simp only [List.dropLast_concat]
      rw [cntL_app, cntL_app, cut_cnt, cntL_one]
      have one : 0 < cnt vs x := by
        unfold cnt
        exact List.length_pos_iff.2 (List.ne_nil_of_mem (List.mem_filter.2 ⟨hv, by simp [hov]⟩))
      split
      · omega
      · rename_i hne2
        have he : emp ⟨x.lo, h⟩ = false := by simpa using hne2
        have h3 : x.lo.lt h = true := ((emp_iff _).1 he).2.2
        have hi2 : h = v.Interval.lo := by
          rw [hh, greater_if]
          split
          · rename_i h4
            rw [hh, greater_if, if_pos h4, lt_irrefl] at h3; cases h3
          · rfl
        have := cnt_lt hv hne hx he hov (by
          cases h5 : emp (isect v.Interval ⟨x.lo, h⟩) with
          | true => rfl
          | false =>
            have := ((ov hi he).1 h5).1
            simp only [hi2, lt_irrefl] at this; cases this) (fun u hu h5 => by
          obtain ⟨g1, g2⟩ := (ov (hne u hu) he).1 h5
          exact (ov (hne u hu) hx).2 ⟨lt_trans g1 j3, g2⟩)
        omega
    · have hp : emp ⟨h, x.hi⟩ = false := by rw [emp_mk j1 a2, j3]; rfl
      rw [e]
      exact (ov hp hx).2 ⟨j3, a3⟩
def RI (t : List Kv) (w : TWalk) : Prop := ∀ u ∈ w.Visits, u.View.Rows = t.filter fun x => contains u.Part x.key
theorem RI.rows {t : List Kv} {w : TWalk} (h : RI t w) : rowsW w.Visits = qslices t (w.Visits.map (·.Part)) := by
  unfold rowsW qslices
  rw [List.flatMap_map]
  have : ∀ l : List TVisit, (∀ u ∈ l, u ∈ w.Visits) → (l.flatMap fun v => v.View.Rows) = l.flatMap fun u => t.filter fun x => contains u.Part x.key := fun l => by
    induction l with
    | nil => intro _; rfl
    | cons u l ih =>
      intro hl
      rw [List.flatMap_cons, List.flatMap_cons, ih fun x hx => hl x (List.mem_cons_of_mem _ hx), h u (hl u List.mem_cons_self)]
  exact this _ fun _ h => h
theorem RI.step {t : List Kv} {w : TWalk} (h : RI t w) {v : TView} (hv : v.Rows = t.filter fun x => contains v.Interval x.key) (x : Rng) : RI t (stepW w v x (isect v.Interval x)) := by
  have key : (visitV v (isect v.Interval x)).View.Rows = t.filter fun z => contains (visitV v (isect v.Interval x)).Part z.key := by
    unfold visitV
    simp only
    rw [hv, List.filter_filter]
    refine List.filter_congr fun z _ => ?_
    rw [contains_isect]
    cases contains v.Interval z.key <;> simp
  unfold stepW
  split
  · intro u hu
    rcases List.mem_cons.1 hu with rfl | hu
    · exact key
    · exact h u hu
  · intro u hu
    rcases List.mem_append.1 hu with hu | hu
    · exact h u hu
    · rw [List.mem_singleton.1 hu]; exact key
theorem done_rows {t : List Kv} (ht : tvalid t = true) {w : TWalk} {q : TQuery} (hq : w.Query = q) (hr : RI t w) (hg : Gd (partsW w) (qrg q)) (hd : doneW w = true) : qtk q.Kind q.Count (rowsW w.Visits) = qtk q.Kind q.Count (qslices t (qrg q)) := by
  have e := hg.slices ht (qrg_nrm q)
  have er := hr.rows
  rw [← e]
  unfold partsW
  rw [hq]
  unfold doneW at hd
  rw [hq] at hd
  cases hT : w.Todo with
  | nil =>
    rw [er]
    split <;> simp
  | cons a l =>
    rw [hT] at hd
    have hd : enough q ((rowsW w.Visits).length : Int) = true := hd
    unfold enough at hd
    simp only [Bool.and_eq_true, Bool.or_eq_true, decide_eq_true_eq] at hd
    obtain ⟨hk, hc⟩ := hd
    rw [← hT]
    by_cases h4 : q.Kind = 4
    · have hdn : downQ q = true := decide_eq_true h4
      rw [if_pos hdn, qslices_app, ← er]
      unfold qtk
      rw [if_neg (by omega), if_pos h4, if_neg (by omega), if_pos h4]
      generalize qslices t w.Todo = B at *
      generalize rowsW w.Visits = A at *
      have e1 : (max 0 (min q.Count (A.length : Int))).toNat = (max 0 q.Count).toNat := by omega
      have e2 : (max 0 (min q.Count ((B ++ A).length : Int))).toNat = (max 0 q.Count).toNat := by simp only [List.length_append]; omega
      rw [e1, e2]
      have e3 : (B ++ A).length - (max 0 q.Count).toNat = B.length + (A.length - (max 0 q.Count).toNat) := by rw [List.length_append]; omega
      rw [e3, List.drop_length_add_append]
    · have h3 : q.Kind = 3 := by omega
      have hdn : ¬ downQ q = true := by unfold downQ; simp [h4]
      rw [if_neg hdn, qslices_app, ← er]
      unfold qtk
      rw [if_pos h3, if_pos h3]
      generalize qslices t w.Todo = B at *
      generalize rowsW w.Visits = A at *
      have e1 : (max 0 (min q.Count (A.length : Int))).toNat = (max 0 q.Count).toNat := by omega
      have e2 : (max 0 (min q.Count ((A ++ B).length : Int))).toNat = (max 0 q.Count).toNat := by simp only [List.length_append]; omega
      rw [e1, e2, List.take_append_of_le_length (by omega)]
end Go.Proofs.YtlbnhhfaedhgfaaGreatDoor
namespace Go.Proofs.YtlbnhhfaedhgfaaGreatDoor
set_option linter.unusedSimpArgs false
set_option linter.unusedVariables false
open Go.RowKit
theorem kv_eqb (a b : Kv) : (decide (a.key = b.key) && decide (a.val = b.val)) = decide (a = b) := by
  rcases a with ⟨a1, a2⟩
  rcases b with ⟨b1, b2⟩
  by_cases h1 : a1 = b1 <;> by_cases h2 : a2 = b2 <;> simp [h1, h2]
theorem drop_eq_iff {α : Type} [DecidableEq α] {a b : List α} (h : a.length = b.length) (m : Nat) : decide (a.drop m = b.drop m) = (if hm : m < a.length then decide (a[m] = b[m]'(by omega)) && decide (a.drop (m + 1) = b.drop (m + 1)) else true) := by
  split
  · rename_i hm
    rw [List.drop_eq_getElem_cons hm, List.drop_eq_getElem_cons (l := b) (by omega)]
    simp only [List.cons.injEq, Bool.decide_and]
  · rw [List.drop_eq_nil_of_le (by omega), List.drop_eq_nil_of_le (by omega)]; simp
theorem eq_ref20_Same_l1 (a b : List Kv) (h : a.length = b.length) : ∀ (xs : List Kv) (m : Nat), a.drop m = xs → m ≤ a.length → Mref20_Same_l1 a b xs (m : Int) = some (sel (decide (a.drop m = b.drop m)) (.nxt ()) (.ret false))
  | [], m, h1, hm => by
    have : a.length - m = 0 := by have := congrArg List.length h1; simpa using this
    rw [Mref20_Same_l1.eq_1, drop_eq_iff h, dif_neg (by omega)]; rfl
  | r :: xs, m, h1, hm => by
    obtain ⟨h2, h3⟩ := drop_get h1
    have h4 := (List.getElem?_eq_some_iff.1 h2).1
    rw [Mref20_Same_l1.eq_2, lget_nat, lget_nat, List.getElem?_eq_getElem h4, List.getElem?_eq_getElem (show m < b.length by omega), obnd_some, obnd_some, kv_eqb, show (m : Int) + 1 = ((m + 1 : Nat) : Int) by omega, eq_ref20_Same_l1 a b h xs (m + 1) h3 h4, drop_eq_iff h m, dif_pos h4]
    cases decide (a[m] = b[m]) <;> rfl
theorem eq_ref20_Same (a b : List Kv) : Mref20_Same a b = some (decide (a = b)) := by
  unfold Mref20_Same
  by_cases h : a.length = b.length
  · have := eq_ref20_Same_l1 a b h a 0 rfl (Nat.zero_le _)
    rw [show ((0 : Nat) : Int) = 0 from rfl, List.drop_zero, List.drop_zero] at this
    rw [decide_eq_true (by omega), this]
    cases decide (a = b) <;> rfl
  · have h2 : a ≠ b := fun e => h (by rw [e])
    rw [decide_eq_false (by omega), decide_eq_false h2]; rfl
theorem sameAnswer_refl (a : TAnswer) : Mref22_SameAnswer a a = some true := by
  unfold Mref22_SameAnswer
  rw [eq_ref20_Same]
  simp [obnd_some, sel_true]
end Go.Proofs.YtlbnhhfaedhgfaaGreatDoor
