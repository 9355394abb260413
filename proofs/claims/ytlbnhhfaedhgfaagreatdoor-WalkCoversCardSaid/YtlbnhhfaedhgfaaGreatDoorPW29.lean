/-
  Lemmas: Plain words: the parts of a walk: pieces that stand for one range; what is left to do and what was visited tile the ranges of the start. / Plain laws of the models: lists of ranges compared; what a walk does with a view that is valid.
-/
import Derived.Test.YtlbnhhfaedhgfaaGreatDoorPW26
namespace Go.Proofs.YtlbnhhfaedhgfaaGreatDoor
set_option linter.unusedSimpArgs false
set_option linter.unusedVariables false
open Go.RowKit
structure Pcs (X : List Rng) (x : Rng) : Prop where
  ne : ∀ r ∈ X, emp r = false
  lo : ∀ r ∈ X, r.lo.lt x.lo = false
  hi : ∀ r ∈ X, x.hi.lt r.hi = false
  srt : X.Pairwise fun a b => b.lo.lt a.hi = false
  pts : ∀ b, vb b = true → (Pt X b ↔ Pt [x] b)
theorem pcs_self {x : Rng} (h : emp x = false) : Pcs [x] x := ⟨by simp [h], by simp [lt_irrefl], by simp [lt_irrefl], by simp, fun _ _ => Iff.rfl⟩
theorem pcs_two {x : Rng} {h : Bnd} (hx : emp x = false) (hv : vb h = true) (h1 : x.lo.lt h = true) (h2 : h.lt x.hi = true) : Pcs [⟨x.lo, h⟩, ⟨h, x.hi⟩] x := by
  obtain ⟨a1, a2, a3⟩ := (emp_iff x).1 hx
  refine ⟨fun r hr => ?_, fun r hr => ?_, fun r hr => ?_, by simp [lt_irrefl], fun b hb => ?_⟩
  · simp only [List.mem_cons, List.not_mem_nil, or_false] at hr
    rcases hr with rfl | rfl
    · rw [emp_mk a1 hv, h1]; rfl
    · rw [emp_mk hv a2, h2]; rfl
  · simp only [List.mem_cons, List.not_mem_nil, or_false] at hr
    rcases hr with rfl | rfl
    · exact lt_irrefl _
    · exact lt_asymm h1
  · simp only [List.mem_cons, List.not_mem_nil, or_false] at hr
    rcases hr with rfl | rfl
    · exact lt_asymm h2
    · exact lt_irrefl _
  · simp only [pt_cons, pt_nil, or_false]
    constructor
    · rintro (⟨g1, g2⟩ | ⟨g1, g2⟩)
      · exact ⟨g1, lt_trans g2 h2⟩
      · refine ⟨?_, g2⟩
        cases hh : b.lt x.lo with
        | false => rfl
        | true => rw [lt_trans hh h1] at g1; cases g1
    · rintro ⟨g1, g2⟩
      cases hh : b.lt h with
      | true => exact .inl ⟨g1, rfl⟩
      | false => exact .inr ⟨rfl, g2⟩
theorem pcs_up {x : Rng} {h : Bnd} (hx : emp x = false) (hv : vb h = true) (h1 : x.lo.lt h = true) (h2 : x.hi.lt h = false) : Pcs ([⟨x.lo, h⟩] ++ cutT ⟨h, x.hi⟩) x := by
  obtain ⟨a1, a2, a3⟩ := (emp_iff x).1 hx
  unfold cutT
  rw [emp_mk hv a2]
  cases hh : h.lt x.hi with
  | true => exact pcs_two hx hv h1 hh
  | false =>
    obtain rfl := lt_total hv a2 hh h2
    exact pcs_self hx
theorem pcs_dn {x : Rng} {h : Bnd} (hx : emp x = false) (hv : vb h = true) (h1 : h.lt x.lo = false) (h2 : h.lt x.hi = true) : Pcs (cutT ⟨x.lo, h⟩ ++ [⟨h, x.hi⟩]) x := by
  obtain ⟨a1, a2, a3⟩ := (emp_iff x).1 hx
  unfold cutT
  rw [emp_mk a1 hv]
  cases hh : x.lo.lt h with
  | true => exact pcs_two hx hv hh h2
  | false =>
    obtain rfl := lt_total a1 hv hh h1
    exact pcs_self hx
structure Gd (l m : List Rng) : Prop where
  ne : ∀ r ∈ l, emp r = false
  srt : l.Pairwise fun a b => b.lo.lt a.hi = false
  pts : ∀ b, vb b = true → (Pt l b ↔ Pt m b)
theorem pt_app {l m : List Rng} {b : Bnd} : Pt (l ++ m) b ↔ Pt l b ∨ Pt m b := by
  simp only [Pt, List.mem_append, or_and_right, exists_or]
theorem Gd.repl {A C X m : List Rng} {x : Rng} (g : Gd (A ++ x :: C) m) (p : Pcs X x) : Gd (A ++ X ++ C) m := by
  obtain ⟨n, s, t⟩ := g
  have hx : emp x = false := n x (by simp)
  obtain ⟨a1, a2, a3⟩ := (emp_iff x).1 hx
  rw [List.pairwise_append, List.pairwise_cons] at s
  obtain ⟨s1, ⟨s2, s3⟩, s4⟩ := s
  have key1 : ∀ a ∈ A, ∀ r ∈ X, r.lo.lt a.hi = false := fun a ha r hr => by
    have v1 := ((emp_iff a).1 (n a (by simp [ha]))).2.1
    have h1 := s4 a ha x (by simp)
    have h2 := p.lo r hr
    cases hh : r.lo.lt a.hi with
    | false => rfl
    | true => rw [lt_le v1 a1 hh h1] at h2; cases h2
  have key2 : ∀ r ∈ X, ∀ c ∈ C, c.lo.lt r.hi = false := fun r hr c hc => by
    have v1 := ((emp_iff r).1 (p.ne r hr)).2.1
    have h1 := s2 c hc
    have h2 := p.hi r hr
    cases hh : c.lo.lt r.hi with
    | false => rfl
    | true => rw [lt_le v1 a2 hh h2] at h1; cases h1
  refine ⟨fun r hr => ?_, ?_, fun b hb => ?_⟩
  · simp only [List.mem_append] at hr
    rcases hr with (hr | hr) | hr
    · exact n r (by simp [hr])
    · exact p.ne r hr
    · exact n r (by simp [hr])
  · rw [List.pairwise_append, List.pairwise_append]
    refine ⟨⟨s1, p.srt, key1⟩, s3, fun a ha c hc => ?_⟩
    rcases List.mem_append.1 ha with ha | ha
    · exact s4 a ha c (by simp [hc])
    · exact key2 a ha c hc
  · rw [← t b hb, pt_app, pt_app, pt_app, p.pts b hb, show x :: C = [x] ++ C from rfl, pt_app]
    exact or_assoc
theorem isect_up {i x : Rng} (hi : emp i = false) (hx : emp x = false) (h1 : x.lo.lt i.lo = false) (h2 : x.lo.lt i.hi = true) : ∃ h, isect i x = ⟨x.lo, h⟩ ∧ vb h = true ∧ x.lo.lt h = true ∧ x.hi.lt h = false := by
  obtain ⟨a1, a2, a3⟩ := (emp_iff x).1 hx
  obtain ⟨b1, b2, b3⟩ := (emp_iff i).1 hi
  have e : greater i.lo x.lo = x.lo := by
    rw [greater_if]
    cases hh : i.lo.lt x.lo with
    | true => rfl
    | false => exact lt_total b1 a1 hh h1
  rw [isect_ne hi hx, e, lesser_if]
  cases hh : x.hi.lt i.hi with
  | true =>
    simp only [if_true]
    rw [if_pos a3]
    exact ⟨_, rfl, a2, a3, lt_irrefl _⟩
  | false =>
    simp only [Bool.false_eq_true, if_false]
    rw [if_pos h2]
    exact ⟨_, rfl, b2, h2, hh⟩
theorem isect_dn {i x : Rng} (hi : emp i = false) (hx : emp x = false) (h1 : i.hi.lt x.hi = false) (h2 : i.lo.lt x.hi = true) : ∃ h, isect i x = ⟨h, x.hi⟩ ∧ vb h = true ∧ h.lt x.lo = false ∧ h.lt x.hi = true := by
  obtain ⟨a1, a2, a3⟩ := (emp_iff x).1 hx
  obtain ⟨b1, b2, b3⟩ := (emp_iff i).1 hi
  have e : lesser i.hi x.hi = x.hi := by
    rw [lesser_if]
    cases hh : x.hi.lt i.hi with
    | true => rfl
    | false => exact lt_total b2 a2 h1 hh
  rw [isect_ne hi hx, e, greater_if]
  cases hh : i.lo.lt x.lo with
  | true =>
    simp only [if_true]
    rw [if_pos a3]
    exact ⟨_, rfl, a1, lt_irrefl _, a3⟩
  | false =>
    simp only [Bool.false_eq_true, if_false]
    rw [if_pos h2]
    exact ⟨_, rfl, b1, hh, h2⟩
def partsW (w : TWalk) : List Rng := if downQ w.Query = true then w.Todo ++ w.Visits.map (·.Part) else w.Visits.map (·.Part) ++ w.Todo
theorem miss_up {x i : Rng} (h : missV false x i = false) : x.lo.lt i.lo = false ∧ x.lo.lt i.hi = true := by
  unfold missV at h
  simp only [Bool.false_eq_true, if_false, Bool.or_eq_false_iff, decide_eq_false_iff_not] at h
  obtain ⟨h1, h2⟩ := h
  refine ⟨?_, (cmp_pos _ _).1 (by omega)⟩
  cases hh : x.lo.lt i.lo with
  | false => rfl
  | true => exact absurd ((cmp_pos _ _).2 hh) h1
theorem miss_dn {x i : Rng} (h : missV true x i = false) : i.hi.lt x.hi = false ∧ i.lo.lt x.hi = true := by
  unfold missV at h
  simp only [if_true, Bool.or_eq_false_iff, decide_eq_false_iff_not] at h
  obtain ⟨h1, h2⟩ := h
  refine ⟨?_, (cmp_neg _ _).1 (by omega)⟩
  cases hh : i.hi.lt x.hi with
  | false => rfl
  | true => exact absurd ((cmp_neg _ _).2 hh) h1
theorem valid_emp {v : TView} (h : validV v = true) : emp v.Interval = false := by
  unfold validV at h
  simp only [Bool.and_eq_true, Bool.not_eq_true'] at h
  exact h.1.1.1.2
theorem step_good {w : TWalk} {m : List Rng} (g : Gd (partsW w) m) {v : TView} (hv : validV v = true) (hd : doneW w = false) (hm : missV (downQ w.Query) (pickW (downQ w.Query) w.Todo) v.Interval = false) :
    Gd (partsW (stepW w v (pickW (downQ w.Query) w.Todo) (isect v.Interval (pickW (downQ w.Query) w.Todo)))) m := by
  have ht := notDone hd
  have hi := valid_emp hv
  cases hq : downQ w.Query with
  | true =>
    obtain ⟨i, x, e2⟩ := snoc_of ht
    have ew : pickW true w.Todo = x := by rw [pickW, if_pos rfl, e2, List.getLast?_concat]; rfl
    rw [hq] at hm
    rw [ew] at hm ⊢
    unfold partsW at g
    rw [if_pos hq, e2, List.append_assoc] at g
    have hx : emp x = false := g.ne x (by simp)
    obtain ⟨k1, k2⟩ := miss_dn hm
    obtain ⟨h, e, j1, j2, j3⟩ := isect_dn hi hx k1 k2
    rw [e]
    have g' : Gd (i ++ x :: w.Visits.map (·.Part)) m := g
    have := g'.repl (pcs_dn hx j1 j2 j3)
    unfold stepW
    rw [if_pos hq]
    unfold partsW
    simp only
    rw [if_pos hq, e2, List.dropLast_concat]
    simpa [visitV] using this
  | false =>
    obtain ⟨x, t, e2⟩ := cons_of ht
    have ew : pickW false w.Todo = x := by rw [pickW, if_neg (by simp), e2]; rfl
    rw [hq] at hm
    rw [ew] at hm ⊢
    unfold partsW at g
    rw [if_neg (by simp [hq]), e2] at g
    have hx : emp x = false := g.ne x (by simp)
    obtain ⟨k1, k2⟩ := miss_up hm
    obtain ⟨h, e, j1, j2, j3⟩ := isect_up hi hx k1 k2
    rw [e]
    have := g.repl (pcs_up hx j1 j2 j3)
    unfold stepW
    rw [if_neg (by simp [hq])]
    unfold partsW
    simp only
    rw [if_neg (by simp [hq]), e2, List.tail_cons]
    simpa [visitV] using this
theorem Nrm.gd {l : List Rng} (h : Nrm l) : Gd l l := ⟨h.ne, h.gap.imp fun g => lt_asymm g, fun _ _ => Iff.rfl⟩
theorem Gd.union {l m : List Rng} (g : Gd l m) (hm : Nrm m) : union l = m := union_eq hm fun b hb => by rw [filter_ne g.ne]; exact g.pts b hb
theorem qrg_nrm (q : TQuery) : Nrm (qrg q) := by
  unfold qrg qranges
  split
  · exact (union_nrm _).1
  · exact ⟨by simp, by simp⟩
theorem stErr_0 (all : List Rng) : ∀ (l : List Rng) (p : Option Rng), (∀ r ∈ l, emp r = false ∧ r ∈ all) → l.Pairwise (fun a b => b.lo.lt a.hi = false) → (∀ x, p = some x → ∀ r ∈ l, r.lo.lt x.hi = false) → stErr all p l = 0
  | [], _, _, _, _ => by rw [stErr.eq_1]
  | r :: l, p, h1, h2, h3 => by
    have hr := h1 r List.mem_cons_self
    obtain ⟨s1, s2⟩ := List.pairwise_cons.1 h2
    have hb : befr p r = false := by
      cases p with
      | none => rfl
      | some x =>
        have := h3 x rfl r List.mem_cons_self
        unfold befr
        simp only
        refine decide_eq_false fun hh => ?_
        rw [(cmp_neg _ _).1 hh] at this; cases this
    have ha : (all.any fun x => inside x r) = true := by
      refine List.any_eq_true.2 ⟨r, hr.2, ?_⟩
      unfold inside
      rw [hr.1, cmp_self, cmp_self]; rfl
    rw [stErr.eq_2, hr.1, hb, ha, if_neg (by simp), if_neg (by simp), if_pos rfl]
    exact stErr_0 all l (some r) (fun x hx => h1 x (List.mem_cons_of_mem _ hx)) s2 fun x hx y hy => by
      obtain rfl := Option.some.inj hx
      exact s1 y hy
theorem start_all {q : TQuery} (h : qok q) : startW q (qrg q) = (⟨q, qrg q, []⟩, 0) := by
  have hl := qrg_len2 h
  have hn := (qrg_nrm q).gd
  have h0 : qch q = 0 := h.1
  unfold startW
  rw [if_neg (by simp [h0]), if_neg (by omega), if_pos (stErr_0 _ _ _ (fun r hr => ⟨hn.ne r hr, hr⟩) hn.srt (by simp))]
theorem start_good (q : TQuery) : Gd (partsW ⟨q, qrg q, []⟩) (qrg q) := by
  have := (qrg_nrm q).gd
  unfold partsW
  split <;> simpa using this
theorem tot_net2 {τ : TTape} (h : okT τ) {n : Int} (h0 : 1 ≤ n) (hn : n ≤ 40) {γ : Type} {K : List TGroup × TTape → List TView → Option γ} {Q : γ → Prop} (hK : ∀ (y : List TGroup × TTape) (t : List Kv) (vs : List TView), okT y.2 → tvalid t = true → t.length ≤ 8 → (vs.length : Int) ≤ n → Tl t zb vs topB → Tot (K y vs) Q) :
    Tot (obnd (Mwld_Tape_Net τ n) fun y => obnd (Mwld_Views y.1) fun z => K y z) Q := by
  have := tot_net h h0 hn (K := fun z τ' => some (z, τ')) (Q := fun z => okT z.2 ∧ ∃ t, tvalid t = true ∧ t.length ≤ 8 ∧ (z.1.length : Int) ≤ n ∧ Tl t zb z.1 topB) fun t vs τ' h1 h2 h3 h4 h5 => tot_some ⟨h1, t, h2, h3, h4, h5⟩
  obtain ⟨z, e, h1, t, h2, h3, h4, h5⟩ := this
  cases e1 : Mwld_Tape_Net τ n with
  | none => rw [e1] at e; cases e
  | some y =>
    rw [e1, obnd_some] at e
    cases e2 : Mwld_Views y.1 with
    | none => rw [e2] at e; cases e
    | some vs =>
      rw [e2, obnd_some] at e
      obtain rfl := Option.some.inj e
      rw [obnd_some, e2, obnd_some]
      exact hK y t vs h1 h2 h3 h4 h5
end Go.Proofs.YtlbnhhfaedhgfaaGreatDoor
namespace Go.Proofs.YtlbnhhfaedhgfaaGreatDoor
set_option linter.unusedSimpArgs false
set_option linter.unusedVariables false
open Go.RowKit
theorem sameL_l1 (a : List Rng) (ha : a.length ≤ 1000000) : ∀ (k fuel m : Nat), m + k = a.length → k < fuel → Mref1_Same_l1 a a fuel (m : Int) = some (.nxt ())
  | _, 0, _, _, h => absurd h (by omega)
  | 0, fuel + 1, m, h1, _ => by
    rw [Mref1_Same_l1.eq_2, decide_eq_false (by omega), sel_false, obnd_some, ocbnd_ret]
  | k + 1, fuel + 1, m, h1, h2 => by
    have hm : m < a.length := by omega
    rw [Mref1_Same_l1.eq_2, decide_eq_true (by omega), sel_true, obnd_some, ocbnd_nxt]
    simp only [lget_nat, List.getElem?_eq_getElem hm, obnd_some, decide_true, Bool.and_self, Bool.not_true, sel_false]
    rw [i64w_id (by omega) (by omega), show (m : Int) + 1 = ((m + 1 : Nat) : Int) by omega]
    exact sameL_l1 a ha k fuel (m + 1) (by omega) (by omega)
theorem sameL_refl (a : List Rng) (ha : a.length ≤ 1000000) : Mref1_Same a a = some true := by
  unfold Mref1_Same
  have := sameL_l1 a ha a.length FU 0 (by omega) (by unfold FU; omega)
  rw [show ((0 : Nat) : Int) = 0 from rfl] at this
  simp only [decide_true, Bool.not_true, sel_false, this, obnd_some, ocbnd_nxt]
theorem take_err {w : TWalk} (h : (wantW w).2 = true) {v : TView} (hv : validV v = true) : (takeW w v = (W0, 12)) ∨ (missV (downQ w.Query) (wantW w).1 v.Interval = false ∧ takeW w v = (stepW w v (wantW w).1 (isect v.Interval (wantW w).1), 0)) := by
  unfold takeW
  rw [h, hv, if_neg (by simp), if_neg (by simp)]
  cases missV (downQ w.Query) (wantW w).1 v.Interval with
  | true => exact .inl rfl
  | false => exact .inr ⟨rfl, rfl⟩
theorem stepW_q (w : TWalk) (v : TView) (a b : Rng) : (stepW w v a b).Query = w.Query := by
  unfold stepW
  split <;> rfl
end Go.Proofs.YtlbnhhfaedhgfaaGreatDoor
