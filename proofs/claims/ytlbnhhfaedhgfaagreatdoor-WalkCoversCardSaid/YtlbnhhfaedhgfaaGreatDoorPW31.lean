/-
  Lemmas: The law WalkCovers holds of its model.
-/
import Derived.Test.YtlbnhhfaedhgfaaGreatDoorPW29
import Derived.Test.YtlbnhhfaedhgfaaGreatDoorPW30
namespace Go.Proofs.YtlbnhhfaedhgfaaGreatDoor
set_option linter.unusedSimpArgs false
set_option linter.unusedVariables false
open Go.RowKit
theorem wcov_l2 : ∀ (l : List TVisit) (out : List Rng), out.length + l.length ≤ 1000000 → Mlaw28_WalkCovers_l2 l out = some (out ++ l.map (·.Part))
  | [], out, _ => by rw [Mlaw28_WalkCovers_l2.eq_1]; simp
  | v :: l, out, h => by
    simp only [List.length_cons] at h
    rw [Mlaw28_WalkCovers_l2.eq_2, app_le (by simp; omega), obnd_some, wcov_l2 l _ (by simp; omega)]
    simp
theorem wcov_l3 (a : List Rng) (ha : a.length ≤ 1000000) (hs : a.Pairwise fun x y => y.lo.lt x.hi = false) : ∀ (k fuel m : Nat), m + 1 + k = a.length + 1 → k < fuel → Mlaw28_WalkCovers_l3 a fuel ((m + 1 : Nat) : Int) = some (.nxt ())
  | _, 0, _, _, h => absurd h (by omega)
  | 0, fuel + 1, m, h1, _ => by
    rw [Mlaw28_WalkCovers_l3.eq_2, decide_eq_false (by omega), sel_false, obnd_some, ocbnd_ret]
  | k + 1, fuel + 1, m, h1, h2 => by
    rw [Mlaw28_WalkCovers_l3.eq_2]
    by_cases hm : m + 1 < a.length
    · have hk : cmp a[m].hi a[m + 1].lo ≤ 0 := by
        have := List.pairwise_iff_getElem.1 hs m (m + 1) (by omega) hm (by omega)
        apply Classical.byContradiction
        intro hh
        rw [(cmp_pos _ _).1 (by omega)] at this; cases this
      rw [decide_eq_true (by omega), sel_true, obnd_some, ocbnd_nxt, i64w_id (by omega) (by omega), show ((m + 1 : Nat) : Int) - 1 = (m : Int) by omega, lget_nat, List.getElem?_eq_getElem (by omega), obnd_some, lget_nat, List.getElem?_eq_getElem hm, obnd_some, bnd_eq, eq_ref1_Compare, decide_eq_false (by omega), sel_false, i64w_id (by omega) (by omega), show ((m + 1 : Nat) : Int) + 1 = ((m + 1 + 1 : Nat) : Int) by omega]
      exact wcov_l3 a ha hs k fuel (m + 1) (by omega) (by omega)
    · rw [decide_eq_false (by omega), sel_false, obnd_some, ocbnd_ret]
theorem wcov_l1 (y3 : TQuery × TTape) (hq : qok y3.1) : ∀ (fuel : Nat) (l : List Int) (a : Int) (w : TWalk) (i : Nat), okT ⟨l, a⟩ → okW w → w.Visits.length ≤ i → i ≤ 20 → 20 - i < fuel → w.Query = y3.1 → Gd (partsW w) (qrg y3.1) →
    Tot (Mlaw28_WalkCovers_l1 y3 fuel l a w.Query.Kind w.Query.Ranges w.Query.Key w.Query.Count w.Todo w.Visits (i : Int)) (CtlP (fun b => b = true) fun _ => True)
  | 0, _, _, _, _, _, _, _, _, h, _, _ => absurd h (by omega)
  | fuel + 1, l, a, w, i, h, hw, hn, hi, hf, he, hg => by
    have hvis := hw.vis
    have htd := hw.todo
    have hq2 := hq.2.1
    have hql := qrg_len2 hq
    rw [Mlaw28_WalkCovers_l1.eq_2]
    refine tot_join (R := fun _ => i < 20) (tot_sel (fun h1 => tot_some (by have := of_decide_eq_true h1; show i < 20; omega)) fun _ => tot_some trivial) fun _ hi20 => ?_
    refine tot_join (R := fun z => okT ⟨z.1, z.2.1⟩ ∧ ∃ w' : TWalk, okW w' ∧ w'.Visits.length ≤ i + 1 ∧ w'.Query = y3.1 ∧ Gd (partsW w') (qrg y3.1) ∧ z.2.2 = (w'.Query.Kind, w'.Query.Ranges, w'.Query.Key, w'.Query.Count, w'.Todo, w'.Visits)) ?_ ?_
    · rw [wcov_l2 _ _ (by simp; omega), obnd_some, List.nil_append, bnd_eq]
      have ed : Mref22_Down y3.1 = downQ w.Query := by rw [he]; rfl
      have ep : (sel (Mref22_Down y3.1) (
          obnd (app ([] : List Rng) w.Todo) fun l22 =>
          obnd (app l22 (w.Visits.map (·.Part))) fun l23 =>
          some l23) (
          obnd (app (w.Visits.map (·.Part)) w.Todo) fun l24 =>
          some l24)) = some (partsW w) := by
        rw [ed]
        unfold partsW
        cases downQ w.Query with
        | true =>
          rw [sel_true, app_le (by simp; omega), obnd_some, List.nil_append, app_le (by simp; omega), obnd_some]; rfl
        | false =>
          rw [sel_false, app_le (by simp; omega), obnd_some]; rfl
      have epl : (partsW w).length ≤ 2000 := by
        unfold partsW
        split <;> simp <;> omega
      have eu : Mref1_Union (partsW w) = some (qrg y3.1) := by
        rw [← hg.union (qrg_nrm _)]
        exact if_pos (by omega)
      have er : Mref22_Ranges y3.1 = some (qrg y3.1) := if_pos (by omega)
      have e3 := wcov_l3 (partsW w) (by omega) hg.srt (partsW w).length FU 0 (by omega) (by unfold FU; omega)
      rw [show ((0 + 1 : Nat) : Int) = 1 from rfl] at e3
      rw [ep, obnd_some, eu, obnd_some, er, obnd_some, sameL_refl _ (by omega), obnd_some, Bool.not_true, sel_false, e3, obnd_some, ocbnd_nxt, eq_walk_Want hw, obnd_some]
      refine tot_sel (fun h1 => ?_) fun h1 => ?_
      · have hd : doneW w = true := by
          unfold wantW at h1
          cases hd : doneW w with
          | true => rfl
          | false => rw [hd] at h1; simp at h1
        refine tot_obnd (R := fun b => b = true) ?_ fun b hb => tot_some hb
        rw [eq_walk_Done hw, obnd_some, hd, sel_true, wawake_ok2, obnd_some, len0, eq_walk_Rows hw, obnd_some, bnd_eq, eq_ref22_Enough]
        refine tot_sel (fun _ => tot_some rfl) fun h2 => ?_
        have : enough y3.1 ((rowsW w.Visits).length : Int) = true := by
          rw [← he]
          unfold doneW at hd
          rw [h2] at hd
          exact hd
        rw [this]
        exact tot_some rfl
      · have hwant : (wantW w).2 = true := by simpa using h1
        have hd := want_of hwant
        refine tot_net2 h (by omega) (by omega) fun y40 t vs k1 k2 k3 k4 k5 => ?_
        rw [bnd_eq]
        refine tot_obnd (tot_serve k1 (k5.good k3 (by omega)) _ _) fun y43 h43 => ?_
        have hv := (k5.mem _ h43.2).1
        have hr := (k5.good k3 (by omega)).2.2 _ h43.2
        rw [eq_walk_Take hw _ (by omega), obnd_some]
        rcases take_err hwant hv with e | ⟨hm, e⟩
        · rw [e]
          exact tot_some ⟨h43.1, w, hw, by omega, he, hg, rfl⟩
        · rw [e]
          have so := step_ok hw (by omega) y43.1 (by omega) (notDone hd) (wantW w).1 (isect y43.1.Interval (wantW w).1)
          have e1 := want_1 hwant
          refine tot_some ⟨h43.1, stepW w y43.1 (wantW w).1 (isect y43.1.Interval (wantW w).1), so.1, by omega, by rw [stepW_q]; exact he, ?_, rfl⟩
          rw [e1] at hm ⊢
          exact step_good hg hv hd hm
    · rintro ⟨x45, x46, z⟩ ⟨g1, w', g2, g3, g4, g5, rfl⟩
      simp only at g1 ⊢
      rw [i64w_id (by omega) (by omega), show (i : Int) + 1 = ((i + 1 : Nat) : Int) by omega]
      exact wcov_l1 y3 hq fuel _ _ w' (i + 1) g1 g2 g3 (by omega) (by omega) g4 g5
theorem walkCovers_ok (l : List Int) : Mlaw28_WalkCovers l = some true := by
  have key : Tot (Mlaw28_WalkCovers l) fun b => b = true := by
    unfold Mlaw28_WalkCovers
    rw [wawake_ok2]
    refine tot_obnd (tot_new l) fun τ hτ => tot_obnd (tot_query hτ) fun y3 h3 => ?_
    obtain ⟨g1, g2⟩ := h3
    have g3 := qrg_len2 g2
    have g4 := g2.2.1
    have er : Mref22_Ranges y3.1 = some (qrg y3.1) := if_pos (by omega)
    have g5 := start_ok (q := y3.1) (by omega) (qrg y3.1) (by omega)
    rw [start_all g2] at g5
    rw [er, obnd_some, eq_walk_Start _ _ (by omega), obnd_some, start_all g2]
    refine tot_sel (fun h => absurd h (by simp)) fun _ => ?_
    have := wcov_l1 y3 g2 FU y3.2.l y3.2.at_ ⟨y3.1, qrg y3.1, []⟩ 0 g1 g5.1 (by simp) (by omega) (by unfold FU; omega) rfl (start_good _)
    exact tot_join this fun _ _ => tot_obnd (tot_some (Q := fun b => b = true) rfl) fun b h => tot_some h
  obtain ⟨b, e, h⟩ := key
  rw [e, h]
end Go.Proofs.YtlbnhhfaedhgfaaGreatDoor
