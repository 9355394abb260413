/-
  Lemmas: Plain laws of the models: the collect of a walk that is done is tiled.
-/
import Derived.Test.YtlbnhhfaedhgfaaGreatDoorPR30
namespace Go.Proofs.YtlbnhhfaedhgfaaGreatDoor
set_option linter.unusedSimpArgs false
set_option linter.unusedVariables false
open Go.RowKit
theorem Gd.tail {x : Rng} {l m m' : List Rng} (g : Gd (x :: l) m) (hm : ∀ b, vb b = true → (Pt m' b ↔ Pt m b ∧ b.lt x.hi = false)) : Gd l m' := by
  obtain ⟨n, s, t⟩ := g
  obtain ⟨s1, s2⟩ := List.pairwise_cons.1 s
  have hx := (emp_iff x).1 (n x List.mem_cons_self)
  refine ⟨fun r hr => n r (List.mem_cons_of_mem _ hr), s2, fun b hb => ?_⟩
  rw [hm b hb, ← t b hb, pt_cons]
  constructor
  · intro h
    refine ⟨.inr h, ?_⟩
    obtain ⟨c, hc, h1, h2⟩ := h
    have vc := (emp_iff c).1 (n c (List.mem_cons_of_mem _ hc))
    cases hh : b.lt x.hi with
    | false => rfl
    | true => rw [lt_le hx.2.1 vc.1 hh (s1 c hc)] at h1; cases h1
  · rintro ⟨h | h, h2⟩
    · rw [h.2] at h2; cases h2
    · exact h
theorem Gd.first {x : Rng} {l m : List Rng} {p h : Bnd} (g : Gd (x :: l) (⟨p, h⟩ :: m)) (hp : vb p = true) (hh : p.lt h = true) (hn : ∀ y ∈ m, emp y = false) (hm : ∀ y ∈ m, y.lo.lt p = false) : x.lo = p := by
  obtain ⟨n, s, t⟩ := g
  obtain ⟨s1, s2⟩ := List.pairwise_cons.1 s
  have hx := (emp_iff x).1 (n x List.mem_cons_self)
  refine lt_total hx.1 hp ?_ ?_
  · rcases pt_cons.1 ((t x.lo hx.1).1 (pt_cons.2 (.inl ⟨lt_irrefl _, hx.2.2⟩))) with h1 | ⟨c, hc, h1, h2⟩
    · exact h1.1
    · have vc := (emp_iff c).1 (hn c hc)
      cases hh : x.lo.lt p with
      | false => rfl
      | true => rw [lt_le hp vc.1 hh (hm c hc)] at h1; cases h1
  · rcases pt_cons.1 ((t p hp).2 (pt_cons.2 (.inl ⟨lt_irrefl _, hh⟩))) with h1 | ⟨c, hc, h1, h2⟩
    · exact h1.1
    · have vc := (emp_iff c).1 (n c (List.mem_cons_of_mem _ hc))
      cases h4 : p.lt x.lo with
      | false => rfl
      | true =>
        have h5 : p.lt x.hi = true := lt_trans h4 hx.2.2
        rw [lt_le hx.2.1 vc.1 h5 (s1 c hc)] at h1; cases h1
theorem Gd.nil_right {l : List Rng} (g : Gd l []) : l = [] := by
  cases l with
  | nil => rfl
  | cons x l =>
    have hx := (emp_iff x).1 (g.ne x List.mem_cons_self)
    exact absurd ((g.pts x.lo hx.1).1 (pt_cons.2 (.inl ⟨lt_irrefl _, hx.2.2⟩))) pt_nil
theorem Nrm.drop {R : List Rng} (h : Nrm R) (a : Nat) : Nrm (R.drop a) := ⟨fun r hr => h.ne r (List.mem_of_mem_drop hr), h.gap.sublist (List.drop_sublist a R)⟩
theorem scan {R : List Rng} (hR : Nrm R) : ∀ (V : List TVisit) (T : List Rng) (a : Nat) (r : Rng) (R' : List Rng) (p : Bnd), R.drop a = r :: R' → vb p = true → p.lt r.hi = true → p.lt r.lo = false → Gd (V.map (·.Part) ++ T) (⟨p, r.hi⟩ :: R') → ∃ a' : Nat, tl2 R V a p = .nxt (a' : Int) ∧ (T = [] → a' = R.length)
  | [], T, a, r, R', p, hd, hp, h1, h2, g => by
    refine ⟨a, rfl, fun hT => ?_⟩
    exfalso
    subst hT
    obtain ⟨c, hc, _⟩ := (g.pts p hp).2 (pt_cons.2 (.inl ⟨lt_irrefl _, h1⟩))
    simp at hc
  | v :: V, T, a, r, R', p, hd, hp, h1, h2, g => by
    have hN := hR.drop a
    rw [hd] at hN
    obtain ⟨n1, n2⟩ := hN
    obtain ⟨q1, q2⟩ := List.pairwise_cons.1 n2
    have hr := (emp_iff r).1 (n1 r List.mem_cons_self)
    have hget : R[a]? = some r := by rw [← List.head?_drop, hd]; rfl
    have hdrop : R.drop (a + 1) = R' := by rw [← List.tail_drop, hd]; rfl
    rw [List.map_cons, List.cons_append] at g
    have hv := (emp_iff v.Part).1 (g.ne _ List.mem_cons_self)
    have hfar : ∀ y ∈ R', r.hi.lt y.lo = true := fun y hy => q1 y hy
    have hlo : v.Part.lo = p := g.first hp h1 (fun y hy => n1 y (List.mem_cons_of_mem _ hy)) fun y hy => lt_asymm (lt_trans h1 (hfar y hy))
    have hhi : r.hi.lt v.Part.hi = false := by
      cases hh : r.hi.lt v.Part.hi with
      | false => rfl
      | true =>
        have hin : Pt (v.Part :: (V.map (·.Part) ++ T)) r.hi := pt_cons.2 (.inl ⟨by rw [hlo]; exact lt_asymm h1, hh⟩)
        rcases pt_cons.1 ((g.pts r.hi hr.2.1).1 hin) with ⟨_, h4⟩ | ⟨c, hc, h4, _⟩
        · rw [lt_irrefl] at h4; cases h4
        · rw [hfar c hc] at h4; cases h4
    have c1 : cmp v.Part.lo p = 0 := by rw [hlo, cmp_self]
    have c2 : ¬ 0 < cmp v.Part.hi r.hi := fun hh => by
      rw [(cmp_pos _ _).1 hh] at hhi; cases hhi
    rw [tl2, hget]
    simp only
    rw [if_neg (by omega), if_neg (by omega), if_neg c2]
    by_cases c3 : cmp v.Part.hi r.hi = 0
    · rw [if_pos c3]
      have he : v.Part.hi = r.hi := lt_total hv.2.1 hr.2.1 ((cmp_eq0 _ _).1 c3).1 ((cmp_eq0 _ _).1 c3).2
      have g' : Gd (V.map (·.Part) ++ T) R' := g.tail fun b hb => by
        rw [he, pt_cons]
        constructor
        · intro h
          refine ⟨.inr h, ?_⟩
          obtain ⟨c, hc, h4, _⟩ := h
          cases hh : b.lt r.hi with
          | false => rfl
          | true => rw [lt_trans hh (hfar c hc)] at h4; cases h4
        · rintro ⟨h | h, h5⟩
          · rw [h.2] at h5; cases h5
          · exact h
      cases hR' : R' with
      | nil =>
        subst hR'
        have h0 := g'.nil_right
        have hV : V = [] := by
          cases V with
          | nil => rfl
          | cons x V => simp at h0
        subst hV
        have hlen : R.length = a + 1 := by
          have e1 := congrArg List.length hd
          simp only [List.length_drop, List.length_cons, List.length_nil] at e1
          omega
        refine ⟨a + 1, rfl, fun _ => hlen.symm⟩
      | cons r2 R2 =>
        subst hR'
        have hget2 : R[a + 1]? = some r2 := by rw [← List.head?_drop, hdrop]; rfl
        have hr2 := (emp_iff r2).1 (n1 r2 (by simp))
        rw [hget2]
        exact scan hR V T (a + 1) r2 R2 r2.lo hdrop hr2.1 hr2.2.2 (lt_irrefl _) g'
    · rw [if_neg c3]
      have hlt : v.Part.hi.lt r.hi = true := by
        have := cmp_rng v.Part.hi r.hi
        exact (cmp_neg _ _).1 (by omega)
      have hpv : p.lt v.Part.hi = true := by rw [← hlo]; exact hv.2.2
      refine scan hR V T a r R' v.Part.hi hd hv.2.1 hlt ?_ (g.tail fun b hb => ?_)
      · cases hh : v.Part.hi.lt r.lo with
        | false => rfl
        | true => rw [lt_trans hpv hh] at h2; cases h2
      · rw [pt_cons, pt_cons]
        constructor
        · rintro (⟨h3, h4⟩ | h3)
          · refine ⟨.inl ⟨?_, h4⟩, h3⟩
            cases hh : b.lt p with
            | false => rfl
            | true => rw [lt_trans hh hpv] at h3; cases h3
          · refine ⟨.inr h3, ?_⟩
            obtain ⟨c, hc, h4, _⟩ := h3
            cases hh : b.lt v.Part.hi with
            | false => rfl
            | true => rw [lt_trans (lt_trans hh hlt) (hfar c hc)] at h4; cases h4
        · rintro ⟨⟨_, h4⟩ | h3, h5⟩
          · exact .inl ⟨h5, h4⟩
          · exact .inr h3
theorem tl1_all : ∀ {l : List TVisit}, (∀ v ∈ l, vOk v = true ∧ rOk v = true) → tl1 l = .nxt ()
  | [], _ => rfl
  | v :: l, h => by
    obtain ⟨h1, h2⟩ := h v List.mem_cons_self
    rw [tl1, if_pos h1, if_pos h2]
    exact tl1_all fun x hx => h x (List.mem_cons_of_mem _ hx)
theorem qrg_one {q : TQuery} (h : q.Kind = 4) : (qrg q).length ≤ 1 := by
  unfold qrg qranges
  split
  · refine Nat.le_trans (union_len _) ?_
    unfold qrs
    rw [if_neg (by omega), if_neg (by omega), if_neg (by omega)]
    simp
  · simp
theorem count_pos {q : TQuery} (h : qch q = 0) (hk : q.Kind = 3 ∨ q.Kind = 4) : 1 ≤ q.Count := by
  unfold qch qchk at h
  apply Classical.byContradiction
  intro hc
  split at h
  · omega
  split at h
  · omega
  split at h
  · omega
  split at h
  · omega
  split at h
  · omega
  · rename_i h5
    exact h5 (.inl ⟨hk, .inl (by omega)⟩)
theorem gd_first_all {x : Rng} {l R : List Rng} (g : Gd (x :: l) R) (hR : Nrm R) : ∃ r R', R = r :: R' ∧ x.lo = r.lo := by
  cases R with
  | nil => exact absurd g.nil_right (by simp)
  | cons r R' =>
    have hr := (emp_iff r).1 (hR.ne r List.mem_cons_self)
    have q1 := (List.pairwise_cons.1 hR.gap).1
    exact ⟨r, R', rfl, g.first (p := r.lo) (h := r.hi) hr.1 hr.2.2 (fun y hy => hR.ne y (List.mem_cons_of_mem _ hy)) fun y hy => lt_asymm (lt_trans hr.2.2 (q1 y hy))⟩
theorem run_tiled {t : List Kv} {q : TQuery} (hq : qok q) {w : TWalk} (h : Run t q w) (hd : doneW w = true) : tilingW q w.Visits = 0 := by
  have h0 : qch q = 0 := hq.1
  have hR := qrg_nrm q
  have hg := h.gd
  have he := h.qe
  unfold tilingW
  rw [if_neg (by simp [h0]), tl1_all h.vi]
  simp only
  -- it is enough to scan
  have fin : ∀ a' : Nat, tl2 (qrg q) w.Visits 0 (posT q w.Visits) = .nxt (a' : Int) → (a' = (qrg q).length ∨ (q.Kind = 3 ∧ enough q ((rowsW w.Visits).length : Int) = true)) → (match tl2 (qrg q) w.Visits 0 (posT q w.Visits) with
      | .ret e => e
      | .nxt a => if a < ((qrg q).length : Int) then (if q.Kind = 3 ∧ enough q ((rowsW w.Visits).length : Int) = true then (0 : Int) else 9) else 0) = 0 := by
    intro a' e h1
    rw [e]
    simp only
    rcases h1 with h1 | h1
    · rw [if_neg (by omega)]
    · rw [if_pos h1]; split <;> rfl
  -- what is to be scanned
  have body : ∀ (V : List TVisit) (T : List Rng), V = w.Visits → Gd (V.map (·.Part) ++ T) (qrg q) → (downQ q = false ∨ T = []) → (T = [] ∨ (q.Kind = 3 ∧ enough q ((rowsW w.Visits).length : Int) = true)) → ∃ a' : Nat, tl2 (qrg q) V 0 (posT q V) = .nxt (a' : Int) ∧ (a' = (qrg q).length ∨ (q.Kind = 3 ∧ enough q ((rowsW w.Visits).length : Int) = true)) := by
    intro V T hV g hdn hT
    cases hQ : qrg q with
    | nil =>
      rw [hQ] at g
      have := g.nil_right
      have hV0 : V = [] := by
        cases V with
        | nil => rfl
        | cons x V => simp at this
      subst hV0
      exact ⟨0, rfl, .inl rfl⟩
    | cons r R' =>
      have hr := (emp_iff r).1 (hR.ne r (by rw [hQ]; simp))
      have hp : posT q V = r.lo := by
        cases V with
        | nil => unfold posT; rw [hQ]
        | cons x V =>
          unfold posT
          rw [hQ]
          simp only
          split
          · rw [List.map_cons, List.cons_append] at g
            obtain ⟨r2, R2, e1, e2⟩ := gd_first_all g hR
            rw [hQ] at e1
            simp only [List.cons.injEq] at e1
            rw [e2, e1.1]
          · rfl
      rw [hp]
      have g2 : Gd (V.map (·.Part) ++ T) (⟨r.lo, r.hi⟩ :: R') := by rw [hQ] at g; exact g
      obtain ⟨a', e, h1⟩ := scan hR V T 0 r R' r.lo (by rw [List.drop_zero]; exact hQ) hr.1 hr.2.2 (lt_irrefl _) g2
      rw [hQ] at e
      refine ⟨a', e, ?_⟩
      rcases hT with hT | hT
      · have := h1 hT
        rw [hQ] at this
        exact .inl this
      · exact .inr hT
  unfold partsW at hg
  rw [he] at hg
  have hd2 := hd
  unfold doneW at hd2
  rw [he] at hd2
  cases hdn : downQ q with
  | false =>
    rw [if_neg (by simp [hdn])] at hg
    have hT : w.Todo = [] ∨ (q.Kind = 3 ∧ enough q ((rowsW w.Visits).length : Int) = true) := by
      cases hTd : w.Todo with
      | nil => exact .inl rfl
      | cons a l =>
        rw [hTd] at hd2
        have hen : enough q ((rowsW w.Visits).length : Int) = true := hd2
        refine .inr ⟨?_, hen⟩
        unfold enough at hen
        simp only [Bool.and_eq_true, Bool.or_eq_true, decide_eq_true_eq] at hen
        have : q.Kind ≠ 4 := by
          have := of_decide_eq_false hdn
          exact this
        omega
    obtain ⟨a', e, h1⟩ := body w.Visits w.Todo rfl hg (.inl hdn) hT
    exact fin a' e h1
  | true =>
    rw [if_pos hdn] at hg
    have hk : q.Kind = 4 := of_decide_eq_true hdn
    cases hTd : w.Todo with
    | nil =>
      rw [hTd, List.nil_append] at hg
      obtain ⟨a', e, h1⟩ := body w.Visits [] rfl (by rw [List.append_nil]; exact hg) (.inr rfl) (.inl rfl)
      exact fin a' e h1
    | cons x0 l0 =>
      rw [hTd] at hd2
      have hen : enough q ((rowsW w.Visits).length : Int) = true := hd2
      have hc := count_pos h0 (.inr hk)
      cases hV : w.Visits with
      | nil =>
        exfalso
        rw [hV] at hen
        unfold enough rowsW at hen
        simp only [Bool.and_eq_true, decide_eq_true_eq, List.flatMap_nil, List.length_nil] at hen
        have := hen.2
        omega
      | cons v V =>
        rw [hTd, hV] at hg
        have h1 := qrg_one hk
        obtain ⟨r, R', hQ, _⟩ := gd_first_all (x := x0) hg hR
        have hR0 : R' = [] := by
          rw [hQ] at h1
          exact List.eq_nil_of_length_eq_zero (by simpa using h1)
        subst hR0
        have hr := (emp_iff r).1 (hR.ne r (by rw [hQ]; simp))
        -- behind what is left
        obtain ⟨n, s, p⟩ := hg
        rw [hQ] at p
        rw [List.map_cons] at n s p
        have hv := (emp_iff v.Part).1 (n v.Part (by simp))
        have s3 := List.pairwise_append.1 s
        have before : ∀ c ∈ x0 :: l0, v.Part.lo.lt c.hi = false := fun c hc => s3.2.2 c hc v.Part (by simp)
        have hin : v.Part.lo.lt r.lo = false ∧ v.Part.lo.lt r.hi = true := by
          have := (p v.Part.lo hv.1).1 ⟨v.Part, by simp, lt_irrefl _, hv.2.2⟩
          rcases pt_cons.1 this with h2 | h2
          · exact h2
          · exact absurd h2 pt_nil
        have g : Gd ((v :: V).map (·.Part) ++ []) (⟨v.Part.lo, r.hi⟩ :: []) := by
          rw [List.append_nil, List.map_cons]
          refine ⟨fun c hc => n c (List.mem_append_right _ hc), s3.2.1, fun b hb => ?_⟩
          have s4 := (List.pairwise_cons.1 s3.2.1).1
          rw [pt_cons (x := ⟨v.Part.lo, r.hi⟩)]
          constructor
          · intro hb2
            left
            refine ⟨?_, ?_⟩
            · rcases pt_cons.1 hb2 with h3 | ⟨c, hc, h3, h4⟩
              · exact h3.1
              · have vc := (emp_iff c).1 (n c (List.mem_append_right _ (List.mem_cons_of_mem _ hc)))
                cases hh : b.lt v.Part.lo with
                | false => rfl
                | true =>
                  have := lt_trans hh hv.2.2
                  rw [lt_le hv.2.1 vc.1 this (s4 c hc)] at h3; cases h3
            · rcases pt_cons.1 ((p b hb).1 (pt_app.2 (.inr hb2))) with h3 | h3
              · exact h3.2
              · exact absurd h3 pt_nil
          · rintro (⟨h3, h4⟩ | h3)
            · have hbr : b.lt r.lo = false := by
                cases hh : b.lt r.lo with
                | false => rfl
                | true =>
                  cases h5 : v.Part.lo.lt r.lo with
                  | true => rw [hin.1] at h5; cases h5
                  | false => rw [lt_le hr.1 hv.1 hh h5] at h3; cases h3
              rcases pt_app.1 ((p b hb).2 (pt_cons.2 (.inl ⟨hbr, h4⟩))) with ⟨c, hc, h5, h6⟩ | h5
              · have vc := (emp_iff c).1 (n c (List.mem_append_left _ hc))
                rw [lt_le vc.2.1 hv.1 h6 (before c hc)] at h3; cases h3
              · exact h5
            · exact absurd h3 pt_nil
        have hpos : posT q (v :: V) = v.Part.lo := by
          unfold posT
          rw [hV] at hen
          rw [hdn, hen]; rfl
        obtain ⟨a', e, h2⟩ := scan hR (v :: V) [] 0 r [] v.Part.lo (by rw [List.drop_zero]; exact hQ) hv.1 hin.2 hin.1 g
        rw [← hV]
        exact fin a' (by rw [hV, hpos]; exact e) (.inl (h2 rfl))
theorem sameVs_refl : ∀ l : List TVisit, sameVs l l = true
  | [] => rfl
  | v :: l => by
    rw [sameVs, sameVs_refl l]
    unfold sameV
    simp [sameRange_refl]
end Go.Proofs.YtlbnhhfaedhgfaaGreatDoor
