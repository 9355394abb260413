/-
  Lemmas: Plain words
-/
import Derived.Test.YtlbnhhfaedhgfaaGreatDoorPB25
import Derived.Test.YtlbnhhfaedhgfaaGreatDoorPB26
import Derived.Test.YtlbnhhfaedhgfaaGreatDoorPB10
import Derived.Test.YtlbnhhfaedhgfaaGreatDoorPB19
import Derived.Test.YtlbnhhfaedhgfaaGreatDoorPB20
set_option linter.unusedSimpArgs false
set_option linter.unusedVariables false
namespace Go.Proofs.YtlbnhhfaedhgfaaGreatDoor
open Go.RowKit
def Cc (n m : Nat) (l : List TVisit) : Prop := l.length ≤ n ∧ ∀ v ∈ l, v.View.Rows.length ≤ m
theorem Cc.up {n m : Nat} {l : List TVisit} (h : Cc n m l) : Cc (n + 1) (m + 1) l := ⟨by have := h.1; omega, fun v hv => by have := h.2 v hv; omega⟩
theorem Cc.set {n m : Nat} {l : List TVisit} (h : Cc n m l) (i : Nat) {e : TVisit} (he : e.View.Rows.length ≤ m + 1) : Cc (n + 1) (m + 1) (l.set i e) := ⟨by rw [List.length_set]; have := h.1; omega, fun v hv => by
  rcases List.mem_or_eq_of_mem_set hv with hv | rfl
  · have := h.2 v hv; omega
  · exact he⟩
theorem tot_row {τ : TTape} (h : okT τ) : Tot (Mwld_Tape_Row τ) fun y => okT y.2 := by
  obtain ⟨x, τ', e, h1⟩ := row_ok h
  exact ⟨_, e, h1⟩
theorem tot_spoil {τ : TTape} (h : okT τ) {n m : Nat} {l : List TVisit} (hc : Cc n m l) (hn : n ≤ 900) (hm : 8 ≤ m ∧ m ≤ 9000) : Tot (Mlaw29_spoil τ l) fun y => okT y.2 ∧ Cc (n + 1) (m + 1) y.1 := by
  obtain ⟨c1, c2⟩ := hc
  unfold Mlaw29_spoil
  rw [app_le (by simp; omega), obnd_some, List.nil_append]
  refine tot_sel (fun h0 => ?_) fun h0 => ?_
  · refine tot_obnd (tot_proper h) fun y4 h4 => tot_obnd (tot_view h4.1 _) fun y5 h5 => tot_obnd (tot_proper h5.1) fun y6 h6 => ?_
    rw [app_le (by simp; omega), obnd_some]
    refine tot_some ⟨h6.1, by simp; omega, fun v hv => ?_⟩
    rcases List.mem_append.1 hv with hv | hv
    · have := c2 v hv; omega
    · rw [List.mem_singleton.1 hv]
      have := h5.2
      simp only
      omega
  have h0 : ¬ (l.length : Int) = 0 := of_decide_eq_false h0
  refine tot_obnd (tot_next h (by omega)) fun y8 h8 => ?_
  obtain ⟨a1, a2⟩ := h8
  unfold Cho at a2
  refine tot_obnd (tot_lget (Q := fun e => e ∈ l) a2.1 (by omega) fun _ => List.getElem_mem _) fun e9 h9 => ?_
  have hr := c2 e9 h9
  refine tot_obnd (tot_next a1 (by omega)) fun y10 h10 => ?_
  have t10 := h10.1
  have S : ∀ (e : TVisit) (τ : TTape), okT τ → e.View.Rows.length ≤ m + 1 → Tot (bnd e fun e12 => bnd (l.set (Int.toNat y8.1) e12) fun l11 => some (l11, τ)) fun y => okT y.2 ∧ Cc (n + 1) (m + 1) y.1 := fun e τ hτ he => tot_some ⟨hτ, Cc.set ⟨c1, c2⟩ _ he⟩
  refine tot_sel (fun _ => S _ _ t10 (by simp only; omega)) fun _ => ?_
  refine tot_sel (fun _ => S _ _ t10 (by simp only; omega)) fun _ => ?_
  refine tot_sel (fun _ => tot_obnd (tot_oddStamp t10) fun y hy => S _ _ hy (by simp only; omega)) fun _ => ?_
  refine tot_sel (fun _ => tot_obnd (tot_range t10) fun y hy => S _ _ hy (by simp only; omega)) fun _ => ?_
  refine tot_sel (fun _ => tot_obnd (tot_range t10) fun y hy => S _ _ hy (by simp only; omega)) fun _ => ?_
  refine tot_sel (fun _ => ?_) fun _ => ?_
  · rw [app_le (by simp; omega), obnd_some, List.nil_append]
    refine tot_obnd (tot_row t10) fun y hy => ?_
    rw [app_le (by simp; omega), obnd_some]
    exact S _ _ hy (by simp; omega)
  refine tot_sel (fun _ => tot_sel (fun hh => ?_) fun _ => S _ _ t10 (by simp only; omega)) fun _ => ?_
  · have hh : 0 < (e9.View.Rows.length : Int) := of_decide_eq_true hh
    rw [tot_i64]
    exact tot_obnd (tot_lsl (Q := fun z => z.length ≤ m) (by omega) (by simp; omega)) fun z hz => S _ _ t10 (by simp only; omega)
  refine tot_sel (fun _ => ?_) fun _ => ?_
  · rw [lsl_le (by omega), obnd_some, tot_i64, lsl_le (by omega), obnd_some, apd, if_pos (by simp; omega), obnd_some]
    refine tot_some ⟨t10, by simp; omega, fun v hv => ?_⟩
    have : v ∈ l := by
      rcases List.mem_append.1 hv with hv | hv
      · exact List.mem_of_mem_drop (List.mem_of_mem_take hv)
      · exact List.mem_of_mem_drop (List.mem_of_mem_take hv)
    have := c2 v this
    omega
  refine tot_sel (fun _ => ?_) fun _ => ?_
  · rw [lsl_le (by omega), obnd_some, app_le (by simp; omega), obnd_some, List.nil_append, app_le (by simp; omega), obnd_some, lsl_le (by omega), obnd_some, app_le (by simp; omega), obnd_some]
    refine tot_some ⟨t10, by simp; omega, fun v hv => ?_⟩
    have : v ∈ l := by
      rcases List.mem_append.1 hv with hv | hv
      · rcases List.mem_append.1 hv with hv | hv
        · exact List.mem_of_mem_drop (List.mem_of_mem_take hv)
        · rw [List.mem_singleton.1 hv]; exact h9
      · exact List.mem_of_mem_drop (List.mem_of_mem_take hv)
    have := c2 v this
    omega
  refine tot_sel (fun _ => ?_) fun _ => ?_
  · refine tot_obnd (tot_next t10 (by omega)) fun y42 h42 => ?_
    have a3 := h42.2
    unfold Cho at a3
    refine tot_obnd (tot_lget (Q := fun e => e ∈ l) a3.1 (by omega) fun _ => List.getElem_mem _) fun e43 h43 => ?_
    refine tot_obnd (tot_lget (Q := fun e => e ∈ l) a2.1 (by omega) fun _ => List.getElem_mem _) fun e44 h44 => ?_
    refine tot_obnd (tot_lget (Q := fun e => e ∈ l) a2.1 (by omega) fun _ => List.getElem_mem _) fun e45 h45 => tot_bnd (tot_bnd ?_)
    refine tot_obnd (tot_lget (Q := fun _ => True) a3.1 (by rw [List.length_set]; omega) fun _ => trivial) fun e48 _ => tot_bnd (tot_bnd (tot_some ⟨h42.1, ?_⟩))
    refine ⟨by simp; omega, fun v hv => ?_⟩
    have : v ∈ l := by
      rcases List.mem_or_eq_of_mem_set hv with hv | rfl
      · rcases List.mem_or_eq_of_mem_set hv with hv | rfl
        · exact hv
        · exact h43
      · exact h44
    have := c2 v this
    omega
  refine tot_sel (fun _ => tot_obnd (tot_bound t10) fun y hy => S _ _ hy.1 (by simp only; omega)) fun _ => tot_some ⟨t10, Cc.up ⟨c1, c2⟩⟩
end Go.Proofs.YtlbnhhfaedhgfaaGreatDoor
namespace Go.Proofs.YtlbnhhfaedhgfaaGreatDoor
open Go.RowKit
structure Pcs (X : List Rng) (x : Rng) : Prop where
  ne : ∀ r ∈ X, emp r = false
  lo : ∀ r ∈ X, r.lo.lt x.lo = false
  hi : ∀ r ∈ X, x.hi.lt r.hi = false
  srt : X.Pairwise fun a b => b.lo.lt a.hi = false
  pts : ∀ b, vb b = true → (Pt X b ↔ Pt [x] b)
theorem pcs_self {x : Rng} (h : emp x = false) : Pcs [x] x := ⟨by simp [h], by simp [lt_irrefl], by simp [lt_irrefl], by simp, fun _ _ => Iff.rfl⟩
theorem pcs_two {x : Rng} {h : Bnd} (hx : emp x = false) (hv : vb h = true) (h1 : x.lo.lt h = true) (h2 : h.lt x.hi = true) : Pcs [⟨x.lo, h⟩, ⟨h, x.hi⟩] x := by
  obtain ⟨a1, a2, a3⟩ := (emp_iff x).1 hx
  refine ⟨fun r hr => ?_, fun r hr => ?_, fun r hr => ?_, by simp [lt_irrefl], fun b hb => ?_⟩
  · simp only [List.mem_cons, List.not_mem_nil, or_false] at hr
    rcases hr with rfl | rfl
    · rw [emp_mk a1 hv, h1]; rfl
    · rw [emp_mk hv a2, h2]; rfl
  · simp only [List.mem_cons, List.not_mem_nil, or_false] at hr
    rcases hr with rfl | rfl
    · exact lt_irrefl _
    · exact lt_asymm h1
  · simp only [List.mem_cons, List.not_mem_nil, or_false] at hr
    rcases hr with rfl | rfl
    · exact lt_asymm h2
    · exact lt_irrefl _
  · simp only [pt_cons, pt_nil, or_false]
    constructor
    · rintro (⟨g1, g2⟩ | ⟨g1, g2⟩)
      · exact ⟨g1, lt_trans g2 h2⟩
      · refine ⟨?_, g2⟩
        cases hh : b.lt x.lo with
        | false => rfl
        | true => rw [lt_trans hh h1] at g1; cases g1
    · rintro ⟨g1, g2⟩
      cases hh : b.lt h with
      | true => exact .inl ⟨g1, rfl⟩
      | false => exact .inr ⟨rfl, g2⟩
theorem pcs_up {x : Rng} {h : Bnd} (hx : emp x = false) (hv : vb h = true) (h1 : x.lo.lt h = true) (h2 : x.hi.lt h = false) : Pcs ([⟨x.lo, h⟩] ++ cutT ⟨h, x.hi⟩) x := by
  obtain ⟨a1, a2, a3⟩ := (emp_iff x).1 hx
  unfold cutT
  rw [emp_mk hv a2]
  cases hh : h.lt x.hi with
  | true => exact pcs_two hx hv h1 hh
  | false =>
    obtain rfl := lt_total hv a2 hh h2
    exact pcs_self hx
theorem pcs_dn {x : Rng} {h : Bnd} (hx : emp x = false) (hv : vb h = true) (h1 : h.lt x.lo = false) (h2 : h.lt x.hi = true) : Pcs (cutT ⟨x.lo, h⟩ ++ [⟨h, x.hi⟩]) x := by
  obtain ⟨a1, a2, a3⟩ := (emp_iff x).1 hx
  unfold cutT
  rw [emp_mk a1 hv]
  cases hh : x.lo.lt h with
  | true => exact pcs_two hx hv hh h2
  | false =>
    obtain rfl := lt_total a1 hv hh h1
    exact pcs_self hx
structure Gd (l m : List Rng) : Prop where
  ne : ∀ r ∈ l, emp r = false
  srt : l.Pairwise fun a b => b.lo.lt a.hi = false
  pts : ∀ b, vb b = true → (Pt l b ↔ Pt m b)
theorem pt_app {l m : List Rng} {b : Bnd} : Pt (l ++ m) b ↔ Pt l b ∨ Pt m b := by
  simp only [Pt, List.mem_append, or_and_right, exists_or]
theorem Gd.repl {A C X m : List Rng} {x : Rng} (g : Gd (A ++ x :: C) m) (p : Pcs X x) : Gd (A ++ X ++ C) m := by
  obtain ⟨n, s, t⟩ := g
  have hx : emp x = false := n x (by simp)
  obtain ⟨a1, a2, a3⟩ := (emp_iff x).1 hx
  rw [List.pairwise_append, List.pairwise_cons] at s
  obtain ⟨s1, ⟨s2, s3⟩, s4⟩ := s
  have key1 : ∀ a ∈ A, ∀ r ∈ X, r.lo.lt a.hi = false := fun a ha r hr => by
    have v1 := ((emp_iff a).1 (n a (by simp [ha]))).2.1
    have h1 := s4 a ha x (by simp)
    have h2 := p.lo r hr
    cases hh : r.lo.lt a.hi with
    | false => rfl
    | true => rw [lt_le v1 a1 hh h1] at h2; cases h2
  have key2 : ∀ r ∈ X, ∀ c ∈ C, c.lo.lt r.hi = false := fun r hr c hc => by
    have v1 := ((emp_iff r).1 (p.ne r hr)).2.1
    have h1 := s2 c hc
    have h2 := p.hi r hr
    cases hh : c.lo.lt r.hi with
    | false => rfl
    | true => rw [lt_le v1 a2 hh h2] at h1; cases h1
  refine ⟨fun r hr => ?_, ?_, fun b hb => ?_⟩
  · simp only [List.mem_append] at hr
    rcases hr with (hr | hr) | hr
    · exact n r (by simp [hr])
    · exact p.ne r hr
    · exact n r (by simp [hr])
  · rw [List.pairwise_append, List.pairwise_append]
    refine ⟨⟨s1, p.srt, key1⟩, s3, fun a ha c hc => ?_⟩
    rcases List.mem_append.1 ha with ha | ha
    · exact s4 a ha c (by simp [hc])
    · exact key2 a ha c hc
  · rw [← t b hb, pt_app, pt_app, pt_app, p.pts b hb, show x :: C = [x] ++ C from rfl, pt_app]
    exact or_assoc
theorem isect_up {i x : Rng} (hi : emp i = false) (hx : emp x = false) (h1 : x.lo.lt i.lo = false) (h2 : x.lo.lt i.hi = true) : ∃ h, isect i x = ⟨x.lo, h⟩ ∧ vb h = true ∧ x.lo.lt h = true ∧ x.hi.lt h = false := by
  obtain ⟨a1, a2, a3⟩ := (emp_iff x).1 hx
  obtain ⟨b1, b2, b3⟩ := (emp_iff i).1 hi
  have e : greater i.lo x.lo = x.lo := by
    rw [greater_if]
    cases hh : i.lo.lt x.lo with
    | true => rfl
    | false => exact lt_total b1 a1 hh h1
  rw [isect_ne hi hx, e, lesser_if]
  cases hh : x.hi.lt i.hi with
  | true =>
    simp only [if_true]
    rw [if_pos a3]
    exact ⟨_, rfl, a2, a3, lt_irrefl _⟩
  | false =>
    simp only [Bool.false_eq_true, if_false]
    rw [if_pos h2]
    exact ⟨_, rfl, b2, h2, hh⟩
theorem isect_dn {i x : Rng} (hi : emp i = false) (hx : emp x = false) (h1 : i.hi.lt x.hi = false) (h2 : i.lo.lt x.hi = true) : ∃ h, isect i x = ⟨h, x.hi⟩ ∧ vb h = true ∧ h.lt x.lo = false ∧ h.lt x.hi = true := by
  obtain ⟨a1, a2, a3⟩ := (emp_iff x).1 hx
  obtain ⟨b1, b2, b3⟩ := (emp_iff i).1 hi
  have e : lesser i.hi x.hi = x.hi := by
    rw [lesser_if]
    cases hh : x.hi.lt i.hi with
    | true => rfl
    | false => exact lt_total b2 a2 h1 hh
  rw [isect_ne hi hx, e, greater_if]
  cases hh : i.lo.lt x.lo with
  | true =>
    simp only [if_true]
    rw [if_pos a3]
    exact ⟨_, rfl, a1, lt_irrefl _, a3⟩
  | false =>
    simp only [Bool.false_eq_true, if_false]
    rw [if_pos h2]
    exact ⟨_, rfl, b1, hh, h2⟩
def partsW (w : TWalk) : List Rng := if downQ w.Query = true then w.Todo ++ w.Visits.map (·.Part) else w.Visits.map (·.Part) ++ w.Todo
theorem miss_up {x i : Rng} (h : missV false x i = false) : x.lo.lt i.lo = false ∧ x.lo.lt i.hi = true := by
  unfold missV at h
  simp only [Bool.false_eq_true, if_false, Bool.or_eq_false_iff, decide_eq_false_iff_not] at h
  obtain ⟨h1, h2⟩ := h
  refine ⟨?_, (cmp_pos _ _).1 (by omega)⟩
  cases hh : x.lo.lt i.lo with
  | false => rfl
  | true => exact absurd ((cmp_pos _ _).2 hh) h1
theorem miss_dn {x i : Rng} (h : missV true x i = false) : i.hi.lt x.hi = false ∧ i.lo.lt x.hi = true := by
  unfold missV at h
  simp only [if_true, Bool.or_eq_false_iff, decide_eq_false_iff_not] at h
  obtain ⟨h1, h2⟩ := h
  refine ⟨?_, (cmp_neg _ _).1 (by omega)⟩
  cases hh : i.hi.lt x.hi with
  | false => rfl
  | true => exact absurd ((cmp_neg _ _).2 hh) h1
theorem valid_emp {v : TView} (h : validV v = true) : emp v.Interval = false := by
  unfold validV at h
  simp only [Bool.and_eq_true, Bool.not_eq_true'] at h
  exact h.1.1.1.2
theorem step_good {w : TWalk} {m : List Rng} (g : Gd (partsW w) m) {v : TView} (hv : validV v = true) (hd : doneW w = false) (hm : missV (downQ w.Query) (pickW (downQ w.Query) w.Todo) v.Interval = false) :
    Gd (partsW (stepW w v (pickW (downQ w.Query) w.Todo) (isect v.Interval (pickW (downQ w.Query) w.Todo)))) m := by
  have ht := notDone hd
  have hi := valid_emp hv
  cases hq : downQ w.Query with
  | true =>
    obtain ⟨i, x, e2⟩ := snoc_of ht
    have ew : pickW true w.Todo = x := by rw [pickW, if_pos rfl, e2, List.getLast?_concat]; rfl
    rw [hq] at hm
    rw [ew] at hm ⊢
    unfold partsW at g
    rw [if_pos hq, e2, List.append_assoc] at g
    have hx : emp x = false := g.ne x (by simp)
    obtain ⟨k1, k2⟩ := miss_dn hm
    obtain ⟨h, e, j1, j2, j3⟩ := isect_dn hi hx k1 k2
    rw [e]
    have g' : Gd (i ++ x :: w.Visits.map (·.Part)) m := g
    have := g'.repl (pcs_dn hx j1 j2 j3)
    unfold stepW
    rw [if_pos hq]
    unfold partsW
    simp only
    rw [if_pos hq, e2, List.dropLast_concat]
    simpa [visitV] using this
  | false =>
    obtain ⟨x, t, e2⟩ := cons_of ht
    have ew : pickW false w.Todo = x := by rw [pickW, if_neg (by simp), e2]; rfl
    rw [hq] at hm
    rw [ew] at hm ⊢
    unfold partsW at g
    rw [if_neg (by simp [hq]), e2] at g
    have hx : emp x = false := g.ne x (by simp)
    obtain ⟨k1, k2⟩ := miss_up hm
    obtain ⟨h, e, j1, j2, j3⟩ := isect_up hi hx k1 k2
    rw [e]
    have := g.repl (pcs_up hx j1 j2 j3)
    unfold stepW
    rw [if_neg (by simp [hq])]
    unfold partsW
    simp only
    rw [if_neg (by simp [hq]), e2, List.tail_cons]
    simpa [visitV] using this
theorem Nrm.gd {l : List Rng} (h : Nrm l) : Gd l l := ⟨h.ne, h.gap.imp fun g => lt_asymm g, fun _ _ => Iff.rfl⟩
theorem Gd.union {l m : List Rng} (g : Gd l m) (hm : Nrm m) : union l = m := union_eq hm fun b hb => by rw [filter_ne g.ne]; exact g.pts b hb
theorem qrg_nrm (q : TQuery) : Nrm (qrg q) := by
  unfold qrg qranges
  split
  · exact (union_nrm _).1
  · exact ⟨by simp, by simp⟩
theorem stErr_0 (all : List Rng) : ∀ (l : List Rng) (p : Option Rng), (∀ r ∈ l, emp r = false ∧ r ∈ all) → l.Pairwise (fun a b => b.lo.lt a.hi = false) → (∀ x, p = some x → ∀ r ∈ l, r.lo.lt x.hi = false) → stErr all p l = 0
  | [], _, _, _, _ => by rw [stErr.eq_1]
  | r :: l, p, h1, h2, h3 => by
    have hr := h1 r List.mem_cons_self
    obtain ⟨s1, s2⟩ := List.pairwise_cons.1 h2
    have hb : befr p r = false := by
      cases p with
      | none => rfl
      | some x =>
        have := h3 x rfl r List.mem_cons_self
        unfold befr
        simp only
        refine decide_eq_false fun hh => ?_
        rw [(cmp_neg _ _).1 hh] at this; cases this
    have ha : (all.any fun x => inside x r) = true := by
      refine List.any_eq_true.2 ⟨r, hr.2, ?_⟩
      unfold inside
      rw [hr.1, cmp_self, cmp_self]; rfl
    rw [stErr.eq_2, hr.1, hb, ha, if_neg (by simp), if_neg (by simp), if_pos rfl]
    exact stErr_0 all l (some r) (fun x hx => h1 x (List.mem_cons_of_mem _ hx)) s2 fun x hx y hy => by
      obtain rfl := Option.some.inj hx
      exact s1 y hy
theorem start_all {q : TQuery} (h : qok q) : startW q (qrg q) = (⟨q, qrg q, []⟩, 0) := by
  have hl := qrg_len2 h
  have hn := (qrg_nrm q).gd
  have h0 : qch q = 0 := h.1
  unfold startW
  rw [if_neg (by simp [h0]), if_neg (by omega), if_pos (stErr_0 _ _ _ (fun r hr => ⟨hn.ne r hr, hr⟩) hn.srt (by simp))]
theorem start_good (q : TQuery) : Gd (partsW ⟨q, qrg q, []⟩) (qrg q) := by
  have := (qrg_nrm q).gd
  unfold partsW
  split <;> simpa using this
theorem tot_net2 {τ : TTape} (h : okT τ) {n : Int} (h0 : 1 ≤ n) (hn : n ≤ 40) {γ : Type} {K : List TGroup × TTape → List TView → Option γ} {Q : γ → Prop} (hK : ∀ (y : List TGroup × TTape) (t : List Kv) (vs : List TView), okT y.2 → tvalid t = true → t.length ≤ 8 → (vs.length : Int) ≤ n → Tl t zb vs topB → Tot (K y vs) Q) :
    Tot (obnd (Mwld_Tape_Net τ n) fun y => obnd (Mwld_Views y.1) fun z => K y z) Q := by
  have := tot_net h h0 hn (K := fun z τ' => some (z, τ')) (Q := fun z => okT z.2 ∧ ∃ t, tvalid t = true ∧ t.length ≤ 8 ∧ (z.1.length : Int) ≤ n ∧ Tl t zb z.1 topB) fun t vs τ' h1 h2 h3 h4 h5 => tot_some ⟨h1, t, h2, h3, h4, h5⟩
  obtain ⟨z, e, h1, t, h2, h3, h4, h5⟩ := this
  cases e1 : Mwld_Tape_Net τ n with
  | none => rw [e1] at e; cases e
  | some y =>
    rw [e1, obnd_some] at e
    cases e2 : Mwld_Views y.1 with
    | none => rw [e2] at e; cases e
    | some vs =>
      rw [e2, obnd_some] at e
      obtain rfl := Option.some.inj e
      rw [obnd_some, e2, obnd_some]
      exact hK y t vs h1 h2 h3 h4 h5
end Go.Proofs.YtlbnhhfaedhgfaaGreatDoor
namespace Go.Proofs.YtlbnhhfaedhgfaaGreatDoor
open Go.RowKit
theorem stepW_q (w : TWalk) (v : TView) (a b : Rng) : (stepW w v a b).Query = w.Query := by
  unfold stepW
  split <;> rfl
end Go.Proofs.YtlbnhhfaedhgfaaGreatDoor
namespace Go.Proofs.YtlbnhhfaedhgfaaGreatDoor
open Go.RowKit
def dval (d : ByteArray) : Nat → Nat
  | 0 => 0
  | k + 1 => dval d k * 10 + ((d.get! k).toNat - 48)
def isD (d : ByteArray) (k : Nat) : Prop := 48 ≤ (d.get! k).toNat ∧ (d.get! k).toNat ≤ 57
def allD (d : ByteArray) : Prop := ∀ k, k < d.size → isD d k
def badN (mn : Bool) (d : ByteArray) : Prop := d.size = 0 ∨ 13 < d.size ∨ ((d.get! 0).toNat = 48 ∧ (1 < d.size ∨ mn = true)) ∨ ¬ allD d ∨ 1000000000000 < dval d d.size
open Classical in
noncomputable def numD (mn : Bool) (d : ByteArray) : Int × Bool :=
  if badN mn d then (0, false) else (if mn then - (dval d d.size : Int) else dval d d.size, true)
noncomputable def num (s : ByteArray) : Int × Bool := if 1 < s.size ∧ (s.get! 0).toNat = 45 then numD true (s.extract 1 s.size) else numD false s
theorem numD_f {mn : Bool} {d : ByteArray} (h : badN mn d) : numD mn d = (0, false) := if_pos h
theorem numD_t {mn : Bool} {d : ByteArray} (h : ¬ badN mn d) : numD mn d = (if mn then - (dval d d.size : Int) else dval d d.size, true) := if_neg h
theorem dval_lt {d : ByteArray} : ∀ {k : Nat}, (∀ j, j < k → isD d j) → dval d k < 10 ^ k
  | 0, _ => by simp [dval]
  | k + 1, h => by
    have h1 := dval_lt (k := k) fun j hj => h j (by omega)
    have h2 := h k (by omega)
    unfold isD at h2
    rw [dval, Nat.pow_succ]; omega
theorem dval_mono {d : ByteArray} {k m : Nat} (h : k ≤ m) : dval d k ≤ dval d m := by
  induction m with
  | zero => rw [Nat.le_zero.1 h]; exact Nat.le_refl _
  | succ m ih =>
    rcases Nat.lt_or_ge k (m + 1) with h1 | h1
    · have := ih (by omega); rw [dval]; omega
    · rw [show k = m + 1 by omega]; exact Nat.le_refl _
theorem dval_big {d : ByteArray} (h0 : 49 ≤ (d.get! 0).toNat) : ∀ {k : Nat}, 10 ^ k ≤ dval d (k + 1)
  | 0 => by simp [dval]; omega
  | k + 1 => by
    have := dval_big h0 (k := k)
    rw [dval, Nat.pow_succ]; omega
theorem dval_13 {d : ByteArray} {k : Nat} (h : ∀ j, j < k → isD d j) (hk : k ≤ 13) : dval d k < 10000000000000 := by
  have h1 := dval_lt h
  have h2 : 10 ^ k ≤ 10 ^ 13 := Nat.pow_le_pow_right (by decide) hk
  omega
theorem badN_1 {mn : Bool} {d : ByteArray} (h : d.size = 0) : badN mn d := .inl h
theorem badN_2 {mn : Bool} {d : ByteArray} (h : 13 < d.size) : badN mn d := .inr (.inl h)
theorem badN_4 {mn : Bool} {d : ByteArray} (k : Nat) (h : k < d.size) (h1 : ¬ isD d k) : badN mn d := .inr (.inr (.inr (.inl fun h2 => h1 (h2 k h))))
theorem badN_5 {mn : Bool} {d : ByteArray} (h : 1000000000000 < dval d d.size) : badN mn d := .inr (.inr (.inr (.inr h)))
theorem get_lt (d : ByteArray) (m : Nat) : (d.get! m).toNat < 256 := (d.get! m).toNat_lt
attribute [local irreducible] WK WC WL Wk Rel OpD OpV WD WO Op.bytesLess cmp vk vb vld emp contains
attribute [local irreducible] numD num
theorem good_num {mn : Bool} {d : ByteArray} (h1 : d.size ≠ 0) (h2 : d.size ≤ 13) (h3 : (d.get! 0).toNat = 48 → d.size ≤ 1 ∧ mn = false) (h4 : ∀ j, j < d.size → isD d j) (h5 : dval d d.size ≤ 1000000000000) : ¬ badN mn d := by
  rintro (h | h | ⟨h, h'⟩ | h | h)
  · exact h1 h
  · omega
  · obtain ⟨g1, g2⟩ := h3 h
    rcases h' with h' | h'
    · omega
    · rw [g2] at h'; cases h'
  · exact h h4
  · omega
end Go.Proofs.YtlbnhhfaedhgfaaGreatDoor
namespace Go.Proofs.YtlbnhhfaedhgfaaGreatDoor
open Go.RowKit
theorem sget_lt {s : ByteArray} {m : Nat} (h : m < s.size) : sget s (m : Int) = some ((s.get! m).toNat : Int) := by
  unfold sget; rw [if_pos (by omega)]; simp
theorem dec_ascii {s : ByteArray} {i : Nat} (h : i < s.size) (hb : (s.get! i).toNat < 128) : Utf8.decode s i = ((s.get! i).toNat, 1) := by
  unfold Utf8.decode
  simp only [Nat.add_zero, Utf8.runeError]
  rw [if_pos (by simpa using hb)]
theorem obnd_if {α β : Type} {p : Prop} [Decidable p] (a b : α) (k : α → Option β) : obnd (if p then some a else some b) k = k (if p then a else b) := by split <;> rfl
theorem i32w_id {a : Int} (h1 : -2147483648 ≤ a) (h2 : a ≤ 2147483647) : IntKind.i32.wrap a = a := wi32 h1 h2
theorem u8w_id {a : Int} (h1 : 0 ≤ a) (h2 : a ≤ 255) : IntKind.u8.wrap a = a := wu8 h1 h2
theorem ref21_num_l1 (s : ByteArray) (hs : s.size ≤ 13) : ∀ (fuel m : Nat), s.size - m < fuel → m ≤ s.size → (∀ j, j < m → isD s j) →
    Mref21_Number_l1 s fuel (dval s m : Int) (m : Int) = some (open Classical in if allD s then .nxt (dval s s.size : Int) else .ret (0, false))
  | 0, _, h, _, _ => absurd h (by omega)
  | fuel + 1, m, h, hm, hd => by
    rw [Mref21_Number_l1.eq_2, sel_ite]
    by_cases hi : m < s.size
    · rw [if_pos (by simpa using hi), obnd_some, ocbnd_nxt, sget_lt hi]
      simp only [obnd_some]
      have hb := get_lt s m
      have hv := dval_13 hd (by omega)
      by_cases hdm : isD s m
      · have hdm' := hdm
        unfold isD at hdm'
        have e1 : decide (((s.get! m).toNat : Int) < 48) = false := decide_eq_false (by omega)
        have e2 : decide (57 < ((s.get! m).toNat : Int)) = false := decide_eq_false (by omega)
        rw [e1, sel_false, e2, obnd_some, sel_false, u8w_id (by omega) (by omega), i64w_id (a := 10 * (dval s m : Int)) (by omega) (by omega), i64w_id (a := ((s.get! m).toNat : Int) - 48) (by omega) (by omega), i64w_id (by omega) (by omega), i64w_id (by omega) (by omega)]
        have := ref21_num_l1 s hs fuel (m + 1) (by omega) (by omega) (fun j hj => by
          rcases Nat.lt_or_ge j m with h1 | h1
          · exact hd j h1
          · rw [show j = m by omega]; exact hdm)
        have e3 : ((dval s (m + 1) : Nat) : Int) = 10 * (dval s m : Int) + (((s.get! m).toNat : Int) - 48) := by rw [dval]; omega
        rw [e3] at this
        rw [← this]; congr 1
      · have hna : ¬ allD s := fun h => hdm (h m hi)
        rw [if_neg hna]
        unfold isD at hdm
        by_cases h48 : ((s.get! m).toNat : Int) < 48
        · rw [decide_eq_true h48, sel_true, obnd_some, sel_true]
        · rw [decide_eq_false h48, sel_false, obnd_some, decide_eq_true (by omega), sel_true]
    · rw [if_neg (by simpa using hi), obnd_some, ocbnd_ret]
      obtain rfl : m = s.size := by omega
      rw [if_pos (show allD s from fun k hk => hd k hk)]
theorem fold_num_l1 (s : ByteArray) (hs : s.size ≤ 4000000000) : ∀ (fuel m : Nat), s.size - m < fuel → m ≤ s.size → (∀ j, j < m → isD s j) → dval s m ≤ 1000000000000 →
    Mfold_Number_l1 s fuel (dval s m : Int) m = some (open Classical in if allD s ∧ dval s s.size ≤ 1000000000000 then .nxt (dval s s.size : Int) else .ret (0, false))
  | 0, _, h, _, _, _ => absurd h (by omega)
  | fuel + 1, m, h, hm, hd, hv => by
    rw [Mfold_Number_l1.eq_2, sel_ite]
    by_cases hi : m < s.size
    · rw [if_pos (by simpa using hi), bnd_eq]
      have hb := get_lt s m
      by_cases hdm : isD s m
      · have hdm' := hdm
        unfold isD at hdm'
        rw [dec_ascii hi (by omega)]
        have e1 : decide (((s.get! m).toNat : Int) < 48) = false := decide_eq_false (by omega)
        have e2 : decide (57 < ((s.get! m).toNat : Int)) = false := decide_eq_false (by omega)
        simp only
        rw [e1, sel_false, e2, obnd_some, sel_false, i32w_id (by omega) (by omega), i64w_id (a := (dval s m : Int) * 10) (by omega) (by omega), i64w_id (a := ((s.get! m).toNat : Int) - 48) (by omega) (by omega), i64w_id (by omega) (by omega)]
        have e3 : ((dval s (m + 1) : Nat) : Int) = (dval s m : Int) * 10 + (((s.get! m).toNat : Int) - 48) := by rw [dval]; omega
        rw [← e3, sel_ite]
        by_cases hbig : dval s (m + 1) ≤ 1000000000000
        · rw [if_neg (by simp; omega)]
          exact fold_num_l1 s hs fuel (m + 1) (by omega) (by omega) (fun j hj => by
            rcases Nat.lt_or_ge j m with h1 | h1
            · exact hd j h1
            · rw [show j = m by omega]; exact hdm) hbig
        · rw [if_pos (by simp; omega), if_neg]
          rintro ⟨-, h2⟩
          have := dval_mono (d := s) (show m + 1 ≤ s.size by omega)
          omega
      · have hna : ¬ (allD s ∧ dval s s.size ≤ 1000000000000) := fun h => hdm (h.1 m hi)
        rw [if_neg hna]
        have hrej : (Utf8.decode s m).1 < 48 ∨ 57 < (Utf8.decode s m).1 := by
          apply Classical.byContradiction
          intro hc
          have := dec_lt (s := s) (i := m) (c := (Utf8.decode s m).1) (wd := (Utf8.decode s m).2) rfl (by omega)
          apply hdm
          unfold isD
          omega
        by_cases h48 : ((Utf8.decode s m).1 : Int) < 48
        · rw [decide_eq_true h48, sel_true, obnd_some, sel_true]
        · rw [decide_eq_false h48, sel_false, obnd_some, decide_eq_true (by omega), sel_true]
    · rw [if_neg (by simpa using hi)]
      obtain rfl : m = s.size := by omega
      rw [if_pos (show allD s ∧ dval s s.size ≤ 1000000000000 from ⟨fun k hk => hd k hk, hv⟩)]
theorem ba_size0 {s : ByteArray} : s = ⟨#[]⟩ ↔ s.size = 0 := by
  constructor
  · rintro rfl; rfl
  · intro h
    obtain ⟨d⟩ := s
    have : d = #[] := Array.eq_empty_of_size_eq_zero h
    rw [this]
theorem num_tail (s : ByteArray) (hs : s.size ≤ 4000000000) (neg : Bool) :
    (obnd (sel (decide (s = ⟨#[]⟩)) (some true) (obnd (sget s 0) fun b7 => sel (decide (b7 = 48)) (sel (decide (1 < (s.size : Int))) (some true) (some neg)) (some false)) : Option Bool) fun x8 =>
      sel x8 (some (0, false)) (obnd (Mfold_Number_l1 s FU 0 0 : Option (Ctl (Int × Bool) Int)) fun mu => ocbnd mu fun n13 => sel neg (some (i64w (-n13), true)) (some (n13, true)))) =
    some (numD neg s) ∧
    (obnd (sel (decide ((s.size : Int) = 0)) (some true) (sel (decide (13 < (s.size : Int))) (some true) (obnd (sget s 0) fun b7 => sel (decide (b7 = 48)) (sel (decide (1 < (s.size : Int))) (some true) (some neg)) (some false))) : Option Bool) fun x8 =>
      sel x8 (some (0, false)) (obnd (Mref21_Number_l1 s FU 0 0 : Option (Ctl (Int × Bool) Int)) fun mu => ocbnd mu fun n15 => sel (decide (1000000000000 < n15)) (some (0, false)) (sel neg (some (i64w (-n15), true)) (some (n15, true))))) =
    some (numD neg s) := by
  by_cases h0 : s.size = 0
  · rw [decide_eq_true (ba_size0.2 h0), sel_true, obnd_some, sel_true, decide_eq_true (by omega), sel_true, obnd_some, sel_true, numD_f (badN_1 h0)]
    exact ⟨rfl, rfl⟩
  have hp := fold_num_l1 s hs FU 0 (by unfold FU; omega) (Nat.zero_le _) (fun j h => absurd h (by omega)) (by simp [dval])
  have e0 : ((dval s 0 : Nat) : Int) = 0 := rfl
  rw [e0] at hp
  have es := sget_lt (s := s) (m := 0) (by omega)
  rw [show ((0 : Nat) : Int) = 0 from rfl] at es
  rw [decide_eq_false (fun h => h0 (ba_size0.1 h)), decide_eq_false (show ¬ (s.size : Int) = 0 by omega), sel_false, sel_false, es, obnd_some]
  have hb := get_lt s 0
  -- a leading nought
  by_cases hz : (s.get! 0).toNat = 48 ∧ (1 < s.size ∨ neg = true)
  · have hbad : badN neg s := .inr (.inr (.inl hz))
    have e1 : decide (((s.get! 0).toNat : Int) = 48) = true := decide_eq_true (by omega)
    have e2 : sel (decide (1 < (s.size : Int))) (some true) (some neg) = some true := by
      by_cases h1 : 1 < s.size
      · rw [decide_eq_true (by omega), sel_true]
      · rw [decide_eq_false (by omega), sel_false, hz.2.resolve_left h1]
    rw [e1, sel_true, e2, obnd_some, sel_true, numD_f hbad]
    refine ⟨rfl, ?_⟩
    by_cases h13 : 13 < s.size
    · rw [decide_eq_true (by omega), sel_true, obnd_some, sel_true]
    · rw [decide_eq_false (by omega), sel_false, obnd_some, sel_true]
  · have e3 : sel (decide (((s.get! 0).toNat : Int) = 48)) (sel (decide (1 < (s.size : Int))) (some true) (some neg)) (some false) = some false := by
      by_cases h48 : (s.get! 0).toNat = 48
      · have h1 : ¬ 1 < s.size := fun h => hz ⟨h48, .inl h⟩
        have h2 : neg = false := by cases neg with
          | false => rfl
          | true => exact absurd ⟨h48, .inr rfl⟩ hz
        rw [decide_eq_true (by omega), sel_true, decide_eq_false (by omega), sel_false, h2]
      · rw [decide_eq_false (by omega), sel_false]
    rw [e3, obnd_some, sel_false, hp, obnd_some]
    by_cases h13 : 13 < s.size
    · rw [decide_eq_true (by omega), sel_true, obnd_some, sel_true, numD_f (badN_2 h13)]
      refine ⟨?_, rfl⟩
      rw [if_neg, ocbnd_ret]
      rintro ⟨ha, hv⟩
      have h49 : 49 ≤ (s.get! 0).toNat := by
        have h1 := ha 0 (by omega)
        unfold isD at h1
        have h2 : (s.get! 0).toNat ≠ 48 := fun h => hz ⟨h, .inl (by omega)⟩
        omega
      have h3 : 10 ^ 13 ≤ dval s 14 := dval_big h49 (k := 13)
      have h4 := dval_mono (d := s) (show 14 ≤ s.size by omega)
      omega
    · have hr := ref21_num_l1 s (by omega) FU 0 (by unfold FU; omega) (Nat.zero_le _) (fun j h => absurd h (by omega))
      rw [e0, show ((0 : Nat) : Int) = 0 from rfl] at hr
      rw [decide_eq_false (by omega), sel_false, obnd_some, sel_false, hr, obnd_some]
      by_cases ha : allD s
      · by_cases hv : dval s s.size ≤ 1000000000000
        · have hg : ¬ badN neg s := good_num h0 (by omega) (fun h => ⟨by
            apply Classical.byContradiction; intro h1; exact hz ⟨h, .inl (by omega)⟩, by
            cases neg with
            | false => rfl
            | true => exact absurd ⟨h, .inr rfl⟩ hz⟩) ha hv
          rw [if_pos ⟨ha, hv⟩, if_pos ha, ocbnd_nxt, ocbnd_nxt, numD_t hg, decide_eq_false (by omega), sel_false]
          cases neg with
          | false => exact ⟨rfl, rfl⟩
          | true => rw [sel_true, i64w_id (by omega) (by omega)]; exact ⟨rfl, rfl⟩
        · rw [if_neg (fun h => hv h.2), if_pos ha, ocbnd_ret, ocbnd_nxt, numD_f (badN_5 (by omega)), decide_eq_true (by omega), sel_true]
          exact ⟨rfl, rfl⟩
      · have hbad : badN neg s := .inr (.inr (.inr (.inl ha)))
        rw [if_neg (fun h => ha h.1), if_neg ha, ocbnd_ret, ocbnd_ret, numD_f hbad]
        exact ⟨rfl, rfl⟩
def NB (r : Int × Bool) : Prop := -1000000000000 ≤ r.1 ∧ r.1 ≤ 1000000000000
theorem numD_nb (mn : Bool) (d : ByteArray) : NB (numD mn d) := by
  by_cases h : badN mn d
  · rw [numD_f h]; exact ⟨by simp, by simp⟩
  · rw [numD_t h]
    have : dval d d.size ≤ 1000000000000 := by
      apply Classical.byContradiction; intro hc; exact h (badN_5 (by omega))
    unfold NB
    cases mn <;> simp <;> omega
theorem number_eq (s : ByteArray) (hs : s.size ≤ 4000000000) : ∃ r, Mfold_Number s = some r ∧ Mref21_Number s = some r ∧ NB r := by
  have key : ∀ b c : Bool, (sel (decide (0 < (s.size : Int))) (obnd (sget s 0) fun b2 => some (decide (b2 = 45))) (some false)) = some b → (sel (decide (1 < (s.size : Int))) (obnd (sget s 0) fun b2 => some (decide (b2 = 45))) (some false)) = some c →
      (b = false → c = false) → (b = true → 0 < s.size) → (b = true → c = false → s.size = 1 ∧ (s.get! 0).toNat = 45) → ∃ r, Mfold_Number s = some r ∧ Mref21_Number s = some r ∧ NB r := by
    intro b c hb hc h1 h2 h3
    unfold Mfold_Number Mref21_Number
    rw [hb, hc, obnd_some, obnd_some]
    cases b with
    | false =>
      rw [h1 rfl, sel_false, obnd_some]
      exact ⟨_, (num_tail s hs false).1, (num_tail s hs false).2, numD_nb _ _⟩
    | true =>
      have e : ssl s 1 (s.size : Int) = some (s.extract 1 s.size) := by
        have := h2 rfl
        unfold ssl; rw [if_pos (by omega)]; simp
      rw [e, obnd_some, sel_true, obnd_some]
      have hz : (s.extract 1 s.size).size = s.size - 1 := by simp [ByteArray.size_extract]
      cases c with
      | true =>
        rw [sel_true, obnd_some]
        exact ⟨_, (num_tail _ (by omega) true).1, (num_tail _ (by omega) true).2, numD_nb _ _⟩
      | false =>
        obtain ⟨g1, g2⟩ := h3 rfl rfl
        rw [sel_false, obnd_some]
        refine ⟨_, (num_tail _ (by omega) true).1, ?_, numD_nb _ _⟩
        refine (num_tail s hs false).2.trans ?_
        rw [numD_f (mn := false) (d := s) (badN_4 0 (by omega) (by unfold isD; omega)), numD_f (mn := true) (d := s.extract 1 s.size) (badN_1 (by omega))]
  by_cases h0 : s.size = 0
  · refine key false false ?_ ?_ (fun h => h) (fun h => by cases h) (fun h => by cases h)
    · rw [decide_eq_false (by omega), sel_false]
    · rw [decide_eq_false (by omega), sel_false]
  have es := sget_lt (s := s) (m := 0) (by omega)
  rw [show ((0 : Nat) : Int) = 0 from rfl] at es
  by_cases h1 : 1 < s.size
  · refine key (decide (((s.get! 0).toNat : Int) = 45)) (decide (((s.get! 0).toNat : Int) = 45)) ?_ ?_ (fun h => h) (fun _ => by omega) (fun h h' => by rw [h] at h'; cases h')
    · rw [decide_eq_true (by omega), sel_true, es, obnd_some]
    · rw [decide_eq_true (by omega), sel_true, es, obnd_some]
  · refine key (decide (((s.get! 0).toNat : Int) = 45)) false ?_ ?_ (fun _ => rfl) (fun _ => by omega) (fun h _ => ⟨by omega, by have := of_decide_eq_true h; omega⟩)
    · rw [decide_eq_true (by omega), sel_true, es, obnd_some]
    · rw [decide_eq_false (by omega), sel_false]
def sumF (s : TFold) : Tsum := ⟨s.Count, s.Numbers, s.Sum, s.Low, s.High, s.First, s.Last⟩
def fok (k : Nat) (f : TFold) : Prop := 0 ≤ f.Count ∧ f.Count ≤ k ∧ 0 ≤ f.Numbers ∧ f.Numbers ≤ k ∧ i64w f.Sum = f.Sum ∧ (f.Numbers = 0 → f.Low = 0 ∧ f.High = 0)
theorem add_eq (k : Nat) (f : TFold) (hk : k < 1000000000) (hf : fok k f) (r : Kv) (hr : r.val.size ≤ 4000000000) : ∃ g o, Mfold_sum_add (sumF f) r = some (sumF g) ∧ Mref21_one r = some o ∧ Mref21_Join f o = g ∧ fok (k + 1) g := by
  obtain ⟨n, e1, e2, -⟩ := number_eq r.val hr
  obtain ⟨n, b⟩ := n
  obtain ⟨c, m, s, lo, hi, fi, la⟩ := f
  obtain ⟨g1, g2, g3, g4, g5, g6⟩ := hf
  simp only at g1 g2 g3 g4 g5 g6
  cases b with
  | false =>
    refine ⟨⟨c + 1, m, s, lo, hi, if c = 0 then r.key else fi, r.key⟩, ⟨1, 0, 0, 0, 0, r.key, r.key⟩, ?_, ?_, ?_, ?_⟩
    · dsimp only [Mfold_sum_add, sumF]
      simp only [e1, sel_ite, decide_eq_true_eq, obnd_if, obnd_some, Bool.not_false, if_true]
      rw [i64w_id (a := c + 1) (by omega) (by omega)]
    · simp only [Mref21_one, e2, sel_ite, obnd_some, Bool.false_eq_true, if_false]
    · simp only [Mref21_Join, bnd_eq, sel_ite, Int.add_zero, g5, decide_eq_true_eq]
      rw [i64w_id (a := c + 1) (by omega) (by omega), i64w_id (a := m) (by omega) (by omega)]
      by_cases hm : m = 0
      · obtain ⟨rfl, rfl⟩ := g6 hm
        subst hm
        simp
      · simp [hm]
    · refine ⟨?_, ?_, ?_, ?_, g5, g6⟩ <;> simp only <;> omega
  | true =>
    refine ⟨⟨c + 1, m + 1, i64w (s + n), if m = 0 ∨ n < lo then n else lo, if m = 0 ∨ hi < n then n else hi, if c = 0 then r.key else fi, r.key⟩, ⟨1, 1, n, n, n, r.key, r.key⟩, ?_, ?_, ?_, ?_⟩
    · dsimp only [Mfold_sum_add, sumF]
      simp only [e1, sel_ite, decide_eq_true_eq, obnd_if, obnd_some, Bool.not_true, Bool.false_eq_true, if_false]
      rw [i64w_id (a := c + 1) (by omega) (by omega), i64w_id (a := m + 1) (by omega) (by omega)]
      by_cases hm : m = 0
      · simp [hm]
      · simp [hm]
    · simp only [Mref21_one, e2, sel_ite, obnd_some, if_true]
    · simp only [Mref21_Join, bnd_eq, sel_ite, decide_eq_true_eq]
      rw [i64w_id (a := c + 1) (by omega) (by omega), i64w_id (a := m + 1) (by omega) (by omega)]
      by_cases hm : m = 0
      · simp [hm]
      · have hlo : min lo n = if n < lo then n else lo := by split <;> omega
        have hhi : max hi n = if hi < n then n else hi := by split <;> omega
        simp [hm, hlo, hhi]
    · refine ⟨?_, ?_, ?_, ?_, i64w_i64w _, ?_⟩ <;> simp only <;> omega
theorem of_l1_eq : ∀ (l : List Kv) (k : Nat) (f : TFold), k + l.length < 1000000000 → fok k f → (∀ r ∈ l, r.val.size ≤ 4000000000) →
    ∃ g : TFold, fok (k + l.length) g ∧ Mfold_Of_l1 l f.Count f.Numbers f.Sum f.Low f.High f.First f.Last = some (g.Count, g.Numbers, g.Sum, g.Low, g.High, g.First, g.Last) ∧ Mref21_Of_l1 l f.Count f.Numbers f.Sum f.Low f.High f.First f.Last = some (g.Count, g.Numbers, g.Sum, g.Low, g.High, g.First, g.Last)
  | [], k, f, _, hf, _ => ⟨f, hf, rfl, rfl⟩
  | r :: l, k, f, hk, hf, hr => by
    simp only [List.length_cons] at hk
    obtain ⟨g, o, e1, e2, e3, e4⟩ := add_eq k f (by omega) hf r (hr r List.mem_cons_self)
    obtain ⟨q, h0, h1, h2⟩ := of_l1_eq l (k + 1) g (by omega) e4 fun x hx => hr x (List.mem_cons_of_mem _ hx)
    refine ⟨q, by rw [List.length_cons, show k + (l.length + 1) = k + 1 + l.length by omega]; exact h0, ?_, ?_⟩
    · rw [Mfold_Of_l1.eq_2]
      have : (Tsum.mk f.Count f.Numbers f.Sum f.Low f.High f.First f.Last) = sumF f := rfl
      rw [this, e1, obnd_some]
      exact h1
    · rw [Mref21_Of_l1.eq_2, e2, obnd_some, bnd_eq]
      have : (TFold.mk f.Count f.Numbers f.Sum f.Low f.High f.First f.Last) = f := rfl
      rw [this, e3]
      exact h2
theorem of_eq (l : List Kv) (hl : l.length < 1000000000) (hr : ∀ r ∈ l, r.val.size ≤ 4000000000) : ∃ g, Mfold_Of l = some g ∧ Mref21_Of l = some g ∧ fok l.length g := by
  obtain ⟨g, h0, h1, h2⟩ := of_l1_eq l 0 ⟨0, 0, 0, 0, 0, ⟨#[]⟩, ⟨#[]⟩⟩ (by omega) ⟨by simp, by simp, by simp, by simp, by kernel_rfl, fun _ => ⟨rfl, rfl⟩⟩ hr
  refine ⟨g, ?_, ?_, by simpa using h0⟩
  · unfold Mfold_Of; rw [h1, obnd_some]
  · unfold Mref21_Of; rw [h2, obnd_some]
end Go.Proofs.YtlbnhhfaedhgfaaGreatDoor
namespace Go.Proofs.YtlbnhhfaedhgfaaGreatDoor
open Go.RowKit
theorem take_eq (q : TQuery) (l : List Kv) (h : l.length ≤ 1000000000) : Mquery_Take q l = some (qtk q.Kind q.Count l) ∧ Mref22_Take q l = some (qtk q.Kind q.Count l) := by
  have hmm : min (max q.Count 0) (l.length : Int) = max 0 (min q.Count (l.length : Int)) := by omega
  unfold Mquery_Take Mref22_Take Mclone_List_api_Row_ qtk
  rw [hmm]
  generalize hn : max 0 (min q.Count (l.length : Int)) = n
  simp only [sel_ite, decide_eq_true_eq]
  by_cases h3 : q.Kind = 3
  · rw [if_pos h3, if_pos h3, if_pos h3, lsl_le (by omega), obnd_some, app_le (by simp; omega)]
    simp [obnd_some, app_le, show l.length ≤ 4294967296 by omega, show min n.toNat l.length ≤ 4294967296 by omega]
  · rw [if_neg h3, if_neg h3, if_neg h3]
    by_cases h4 : q.Kind = 4
    · rw [if_pos h4, if_pos h4, if_pos h4, i64w_id (by omega) (by omega), lsl_le (by omega), obnd_some, app_le (by simp; omega)]
      simp only [obnd_some, List.nil_append]
      have e : ((l.length : Int) - n).toNat = l.length - n.toNat := by omega
      rw [e, List.take_of_length_le (by simp)]
      refine ⟨rfl, ?_⟩
      rw [app_le (by simp; omega)]; rfl
    · rw [if_neg h4, if_neg h4, if_neg h4, app_le (by simp; omega)]
      simp [obnd_some]
theorem qtk_sub (k c : Int) (l : List Kv) : ∀ r ∈ qtk k c l, r ∈ l := by
  intro r h
  unfold qtk at h
  split at h
  · exact List.mem_of_mem_take h
  split at h
  · exact List.mem_of_mem_drop h
  · exact h
end Go.Proofs.YtlbnhhfaedhgfaaGreatDoor
namespace Go.Proofs.YtlbnhhfaedhgfaaGreatDoor
open Go.RowKit
theorem flt_or {t : List Kv} {p q : Kv → Bool} (ht : t.Pairwise fun a b => bl a.key b.key = true) (h : ∀ x y, p x = true → q y = true → bl x.key y.key = true) : t.filter p ++ t.filter q = t.filter fun x => p x || q x := by
  induction t with
  | nil => rfl
  | cons x t ih =>
    obtain ⟨h1, h2⟩ := List.pairwise_cons.1 ht
    rw [List.filter_cons, List.filter_cons, List.filter_cons]
    have irr : ∀ k : ByteArray, bl k k = false := fun k => bytesLess_irrefl k.toList
    have tr : ∀ a b c : ByteArray, bl a b = true → bl b c = true → bl a c = true := fun a b c g1 g2 => bytesLess_trans g1 g2
    cases hp : p x with
    | true =>
      have hq : q x = false := by
        cases hq : q x with
        | false => rfl
        | true => have := h x x hp hq; rw [irr] at this; cases this
      simp only [hq, Bool.true_or, if_true, Bool.false_eq_true, if_false, List.cons_append]
      rw [ih h2]
    | false =>
      cases hq : q x with
      | false =>
        simp only [Bool.or_self, Bool.false_eq_true, if_false]
        exact ih h2
      | true =>
        have none : t.filter p = [] := List.filter_eq_nil_iff.2 fun y hy hpy => by
          have g1 := h1 y hy
          have g2 := h y x hpy hq
          have := tr _ _ _ g1 g2
          rw [irr] at this; cases this
        simp only [Bool.false_or, if_true, Bool.false_eq_true, if_false]
        rw [none, List.nil_append]
        have e : t.filter (fun x => p x || q x) = t.filter q := by
          have := ih h2
          rw [none, List.nil_append] at this
          exact this.symm
        rw [e]
theorem contains_lo' {r : Rng} {k : ByteArray} (h : contains r k = true) : emp r = false ∧ vk k = true ∧ Bnd.lt ⟨k, false⟩ r.lo = false ∧ Bnd.lt ⟨k, false⟩ r.hi = true := by
  cases he : emp r with
  | true => rw [contains_emp he] at h; cases h
  | false => exact ⟨rfl, (contains_pt he k).1 h⟩
theorem bl_lt (a b : ByteArray) : Bnd.lt ⟨a, false⟩ ⟨b, false⟩ = bl a b := by simp [Bnd.lt, bl]
theorem qslices_any {t : List Kv} (ht : tvalid t = true) : ∀ {l : List Rng}, (∀ r ∈ l, emp r = false) → l.Pairwise (fun a b => b.lo.lt a.hi = false) → qslices t l = t.filter fun x => l.any fun r => contains r x.key
  | [], _, _ => by simp [qslices]
  | r :: l, h1, h2 => by
    obtain ⟨s1, s2⟩ := List.pairwise_cons.1 h2
    have ih := qslices_any ht (l := l) (fun x hx => h1 x (List.mem_cons_of_mem _ hx)) s2
    have e : qslices t (r :: l) = t.filter (fun x => contains r x.key) ++ qslices t l := by simp [qslices]
    rw [e, ih, flt_or ((tvalid_iff t).1 ht).2.2 (q := fun x => l.any fun r => contains r x.key) fun x y hx hy => ?_]
    · simp only [List.any_cons]
    · obtain ⟨c, hc, hcy⟩ := List.any_eq_true.1 hy
      obtain ⟨g1, g2, g3, g4⟩ := contains_lo' hx
      obtain ⟨k1, k2, k3, k4⟩ := contains_lo' hcy
      have v1 := (emp_iff r).1 g1
      have v2 := (emp_iff c).1 k1
      have hs := s1 c hc
      have vy : vb ⟨y.key, false⟩ = true := by simp [vb, k2]
      have a1 : Bnd.lt ⟨x.key, false⟩ c.lo = true := lt_le v1.2.1 v2.1 g4 hs
      have a2 : Bnd.lt ⟨x.key, false⟩ ⟨y.key, false⟩ = true := lt_le v2.1 vy a1 k3
      rwa [bl_lt] at a2
theorem Tl.pts {t : List Kv} : ∀ {l : List TView} {a b : Bnd}, Tl t a l b → vb a = true → b.lt a = false ∧ vb b = true ∧ (∀ v ∈ l, v.Interval.lo.lt a = false) ∧ (l.map (·.Interval)).Pairwise (fun x y => y.lo.lt x.hi = false) ∧ ∀ k, vb k = true → (Pt (l.map (·.Interval)) k ↔ k.lt a = false ∧ k.lt b = true)
  | [], a, b, h, ha => by
    obtain rfl : a = b := h
    refine ⟨lt_irrefl _, ha, by simp, by simp, fun k hk => ?_⟩
    constructor
    · intro h; exact absurd h pt_nil
    · rintro ⟨h1, h2⟩; rw [h1] at h2; cases h2
  | v :: l, a, b, ⟨g1, g2, g3, g4, g5⟩, ha => by
    obtain ⟨e1, e2, e3⟩ := (emp_iff v.Interval).1 g2
    obtain ⟨i1, i2, i3, i4, i5⟩ := g5.pts e2
    rw [← g1]
    have hb : v.Interval.lo.lt b = true := by
      cases hh : v.Interval.lo.lt b with
      | true => rfl
      | false =>
        exfalso
        cases h2 : b.lt v.Interval.lo with
        | true => rw [lt_trans h2 e3] at i1; cases i1
        | false =>
          have e := lt_total e1 i2 hh h2
          rw [← e, e3] at i1; cases i1
    refine ⟨lt_asymm hb, i2, fun x hx => ?_, ?_, fun k hk => ?_⟩
    · rcases List.mem_cons.1 hx with rfl | hx
      · exact lt_irrefl _
      · have h1 := i3 x hx
        cases hh : x.Interval.lo.lt v.Interval.lo with
        | false => rfl
        | true => rw [lt_trans hh e3] at h1; cases h1
    · rw [List.map_cons, List.pairwise_cons]
      refine ⟨fun x hx => ?_, i4⟩
      obtain ⟨y, hy, rfl⟩ := List.mem_map.1 hx
      exact i3 y hy
    · rw [List.map_cons, pt_cons, i5 k hk]
      constructor
      · rintro (⟨h1, h2⟩ | ⟨h1, h2⟩)
        · refine ⟨h1, ?_⟩
          cases hh : k.lt b with
          | true => rfl
          | false =>
            have h3 := lt_le e2 i2 h2 i1
            rw [h3] at hh; cases hh
        · refine ⟨?_, h2⟩
          cases hh : k.lt v.Interval.lo with
          | false => rfl
          | true => rw [lt_trans hh e3] at h1; cases h1
      · rintro ⟨h1, h2⟩
        cases hh : k.lt v.Interval.hi with
        | true => exact .inl ⟨h1, rfl⟩
        | false => exact .inr ⟨rfl, h2⟩
theorem lt_top (k : ByteArray) : Bnd.lt ⟨k, false⟩ topB = true := by simp [Bnd.lt, topB]
theorem zb_le (k : ByteArray) : Bnd.lt ⟨k, false⟩ zb = false := by
  show Bnd.lt ⟨k, false⟩ ⟨⟨#[]⟩, false⟩ = false
  have e : (⟨#[]⟩ : ByteArray).toList = [] := by kernel_rfl
  simp only [Bnd.lt, Bool.not_false, Bool.true_and, Bool.false_or]
  rw [e]
  cases k.toList <;> rfl
theorem vb_zb : vb zb = true := by kernel_rfl
theorem Tl.rows {t : List Kv} (ht : tvalid t = true) {vs : List TView} (h : Tl t zb vs topB) : vs.flatMap (·.Rows) = t := by
  obtain ⟨-, -, -, h4, h5⟩ := h.pts vb_zb
  have e : vs.flatMap (·.Rows) = qslices t (vs.map (·.Interval)) := by
    unfold qslices
    rw [List.flatMap_map]
    have : ∀ l : List TView, (∀ v ∈ l, v ∈ vs) → l.flatMap (·.Rows) = l.flatMap fun v => t.filter fun x => contains v.Interval x.key := fun l => by
      induction l with
      | nil => intro _; rfl
      | cons v l ih =>
        intro hl
        rw [List.flatMap_cons, List.flatMap_cons, ih fun x hx => hl x (List.mem_cons_of_mem _ hx), (h.mem v (hl v List.mem_cons_self)).2.1]
    exact this vs fun _ h => h
  have hne : ∀ r ∈ vs.map (·.Interval), emp r = false := fun r hr => by
    obtain ⟨v, hv, rfl⟩ := List.mem_map.1 hr
    exact (h.mem v hv).2.2
  rw [e, qslices_any ht hne h4]
  refine List.filter_eq_self.2 fun x hx => ?_
  have hv := ((tvalid_iff t).1 ht).2.1 x hx
  simp only [vrow, Bool.and_eq_true] at hv
  have := any_pt (l := vs.map (·.Interval)) hv.1
  rw [filter_ne hne] at this
  exact this.2 ((h5 ⟨x.key, false⟩ (by simp [vb, hv.1])).2 ⟨zb_le _, lt_top _⟩)
end Go.Proofs.YtlbnhhfaedhgfaaGreatDoor
