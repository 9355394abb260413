/-
  Lemmas: The law WalkReads holds of its model.
-/
import Derived.Test.YtlbnhhfaedhgfaaGreatDoorPW32
import Derived.Test.YtlbnhhfaedhgfaaGreatDoorPW33
namespace Go.Proofs.YtlbnhhfaedhgfaaGreatDoor
set_option linter.unusedSimpArgs false
set_option linter.unusedVariables false
open Go.RowKit
def fldW (w : TWalk) : Int × List Rng × ByteArray × Int × List Rng × List TVisit := (w.Query.Kind, w.Query.Ranges, w.Query.Key, w.Query.Count, w.Todo, w.Visits)
theorem wreads_l1 : ∀ (l : List TView) (out : List Kv), out.length + (l.flatMap (·.Rows)).length ≤ 1000000 → Mlaw28_WalkReads_l1 l out = some (out ++ l.flatMap (·.Rows))
  | [], out, _ => by rw [Mlaw28_WalkReads_l1.eq_1]; simp
  | v :: l, out, h => by
    rw [List.flatMap_cons, List.length_append] at h
    rw [Mlaw28_WalkReads_l1.eq_2, app_le (by omega), obnd_some, wreads_l1 l _ (by rw [List.length_append]; omega)]
    simp
theorem wreads_l3 (y3 : TQuery × TTape) {w : TWalk} (hw : okW w) (hvis : w.Visits.length ≤ 999) (he : w.Query = y3.1) {x : Rng} (hx : emp x = false) (hwx : wantW w = (x, true)) (vs : List TView) (hne : ∀ u ∈ vs, emp u.Interval = false) : ∀ l : List TView, (∀ v ∈ l, v ∈ vs ∧ validV v = true ∧ v.Rows.length ≤ 8) → (∃ v ∈ l, missV (downQ w.Query) x v.Interval = false) →
    ∃ v ∈ l, missV (downQ w.Query) x v.Interval = false ∧ Mlaw28_WalkReads_l3 y3 w.Query.Kind w.Query.Ranges w.Query.Key w.Query.Count w.Todo w.Visits (x, true) l = some (.nxt (fldW (stepW w v x (isect v.Interval x))))
  | [], _, ⟨v, hv, _⟩ => by simp at hv
  | v :: l, hl, hex => by
    obtain ⟨g1, g2, g3⟩ := hl v List.mem_cons_self
    have ht : takeW w v = if missV (downQ w.Query) x v.Interval = true then (W0, 12) else (stepW w v x (isect v.Interval x), 0) := by
      unfold takeW
      rw [hwx, g2, if_neg (by simp), if_neg (by simp)]
    rw [Mlaw28_WalkReads_l3.eq_2, eq_walk_Take hw v (by omega), obnd_some, ht]
    cases hm : missV (downQ w.Query) x v.Interval with
    | true =>
      obtain ⟨u, hu, hmu⟩ := hex
      have hu' : u ∈ l := by
        rcases List.mem_cons.1 hu with rfl | hu
        · rw [hm] at hmu; cases hmu
        · exact hu
      obtain ⟨z, hz, h1, h2⟩ := wreads_l3 y3 hw hvis he hx hwx vs hne l (fun a ha => hl a (List.mem_cons_of_mem _ ha)) ⟨u, hu', hmu⟩
      exact ⟨z, List.mem_cons_of_mem _ hz, h1, h2⟩
    | false =>
      refine ⟨v, List.mem_cons_self, hm, ?_⟩
      have ho := (step_cnt hne hx hwx g1 hm).2
      rw [if_neg (by simp)]
      simp only [decide_true, sel_true]
      have ed : Mref22_Down y3.1 = downQ w.Query := by rw [he]; rfl
      have tail : (sel (!decide (v.Owner = v.Owner)) (
          some (Ctl.ret (Ctl.ret (Ctl.ret false)))) (
          sel (!(decide (v.Stamp.Epoch = v.Stamp.Epoch) && decide (v.Stamp.Version = v.Stamp.Version))) (
            some (Ctl.ret (Ctl.ret (Ctl.ret false)))) (
            bnd (Mref24_SameRange v.Interval v.Interval) fun y42 =>
            sel (!y42) (
              some (Ctl.ret (Ctl.ret (Ctl.ret false)))) (
              bnd (Mref1_Intersect (isect v.Interval x) x) fun y43 =>
              bnd (Mref1_Empty y43) fun y44 =>
              sel y44 (
                some (Ctl.ret (Ctl.ret (Ctl.ret false)))) (
                some (Ctl.nxt (fldW (stepW w v x (isect v.Interval x))) : Ctl (Ctl (Ctl Bool (Int × List Rng × ByteArray × Int × List Rng × List TVisit)) (Int × List Rng × ByteArray × Int × List Rng × List TVisit)) (Int × List Rng × ByteArray × Int × List Rng × List TVisit))))))) = some (Ctl.nxt (fldW (stepW w v x (isect v.Interval x)))) := by
        simp only [decide_true, Bool.not_true, sel_false, Bool.and_self, bnd_eq, sameRange_refl, eq_ref1_Intersect, eq_ref1_Empty, ho]
      cases hq : downQ w.Query with
      | true =>
        have es : (stepW w v x (isect v.Interval x)).Visits = visitV v (isect v.Interval x) :: w.Visits := by unfold stepW; rw [if_pos hq]
        have e0 : decide (((stepW w v x (isect v.Interval x)).Visits.length : Int) = 0) = false := decide_eq_false (by rw [es]; simp; omega)
        have e1 : ∃ z, lget (stepW w v x (isect v.Interval x)).Visits (i64w (((stepW w v x (isect v.Interval x)).Visits.length : Int) - 1)) = some z := by
          rw [es, List.length_cons, i64w_id (by omega) (by omega), show ((w.Visits.length + 1 : Nat) : Int) - 1 = (w.Visits.length : Int) by omega, lget_nat]
          exact ⟨_, List.getElem?_eq_getElem (by simp)⟩
        have e2 : lget (stepW w v x (isect v.Interval x)).Visits 0 = some (visitV v (isect v.Interval x)) := by rw [es]; exact lget_z _ _
        obtain ⟨z, e1⟩ := e1
        rw [e0, sel_false, e1, obnd_some, bnd_eq, ed, hq, sel_true, e2, obnd_some, obnd_some]
        exact tail
      | false =>
        have es : (stepW w v x (isect v.Interval x)).Visits = w.Visits ++ [visitV v (isect v.Interval x)] := by unfold stepW; rw [if_neg (by simp [hq])]
        have e0 : decide (((stepW w v x (isect v.Interval x)).Visits.length : Int) = 0) = false := decide_eq_false (by rw [es]; simp; omega)
        have e1 : lget (stepW w v x (isect v.Interval x)).Visits (i64w (((stepW w v x (isect v.Interval x)).Visits.length : Int) - 1)) = some (visitV v (isect v.Interval x)) := by
          rw [es]; exact lget_e _ _ (by omega)
        rw [e0, sel_false, e1, obnd_some, bnd_eq, ed, hq, sel_false, obnd_some]
        exact tail
theorem wreads_l2 (y3 : TQuery × TTape) (y13 : TWalk × Int) (h13 : y13.2 = 0) {t : List Kv} (ht : t.length ≤ 8) {vs : List TView} (htl : Tl t zb vs topB) (hvl : vs.length ≤ 100) : ∀ (fuel : Nat) (w : TWalk) (i : Nat), okW w → w.Visits.length ≤ i → w.Query = y3.1 → Gd (partsW w) (qrg y3.1) → RI t w → i + cntL vs w.Todo ≤ 100 → 200 - i < fuel →
    ∃ w', Mlaw28_WalkReads_l2 vs y13 y3 fuel w.Query.Kind w.Query.Ranges w.Query.Key w.Query.Count w.Todo w.Visits (i : Int) = some (.nxt (fldW w')) ∧ okW w' ∧ w'.Query = y3.1 ∧ Gd (partsW w') (qrg y3.1) ∧ RI t w' ∧ doneW w' = true
  | 0, _, _, _, _, _, _, _, _, h => absurd h (by omega)
  | fuel + 1, w, i, hw, hn, he, hg, hr, hc, hf => by
    rw [Mlaw28_WalkReads_l2.eq_2, decide_eq_true (by omega), sel_true, decide_eq_true h13, obnd_some, sel_true, obnd_some, ocbnd_nxt, eq_walk_Want hw, obnd_some]
    cases hd : doneW w with
    | true =>
      have e : (wantW w).2 = false := by unfold wantW; rw [hd]; rfl
      rw [e, Bool.not_false, sel_true, obnd_some, ocbnd_ret, obnd_some, ocbnd_ret]
      exact ⟨w, rfl, hw, he, hg, hr, hd⟩
    | false =>
      have hne : ∀ u ∈ vs, emp u.Interval = false := fun u hu => (htl.mem u hu).2.2
      have hwx : wantW w = (pickW (downQ w.Query) w.Todo, true) := by unfold wantW; rw [hd]; rfl
      have hx : emp (pickW (downQ w.Query) w.Todo) = false := by
        have h0 := notDone hd
        have hmem : pickW (downQ w.Query) w.Todo ∈ w.Todo := by
          cases downQ w.Query with
          | true =>
            obtain ⟨i, x, e2⟩ := snoc_of h0
            rw [e2, pickW, if_pos rfl, List.getLast?_concat]; simp
          | false =>
            obtain ⟨x, l, e2⟩ := cons_of h0
            rw [e2, pickW, if_neg (by simp)]; simp
        refine hg.ne _ ?_
        unfold partsW
        split
        · exact List.mem_append_left _ hmem
        · exact List.mem_append_right _ hmem
      generalize hxx : pickW (downQ w.Query) w.Todo = x at hwx hx
      obtain ⟨gd1, gd2, gd3⟩ := htl.good ht hvl
      obtain ⟨v, hv, hm, e3⟩ := wreads_l3 y3 hw (by omega) he hx hwx vs hne vs (fun v hv => ⟨hv, (htl.mem v hv).1, gd3 v hv⟩) (some_view htl hx _)
      have sc := (step_cnt hne hx hwx hv hm).1
      have so := step_ok hw (by omega) v (by have := gd3 v hv; omega) (notDone hd) x (isect v.Interval x)
      rw [hwx, Bool.not_true, sel_false, obnd_some, ocbnd_nxt, e3, obnd_some, ocbnd_nxt]
      have := wreads_l2 y3 y13 h13 ht htl hvl fuel (stepW w v x (isect v.Interval x)) (i + 1) so.1 (by omega) (by rw [stepW_q]; exact he) (by
        rw [← hxx] at hm ⊢
        exact step_good hg (htl.mem v hv).1 hd hm) (hr.step (htl.mem v hv).2.1 x) (by omega) (by omega)
      obtain ⟨w', e4, h5⟩ := this
      refine ⟨w', ?_, h5⟩
      rw [← e4, show ((i + 1 : Nat) : Int) = i64w ((i : Int) + 1) by rw [i64w_id (by omega) (by omega)]; omega]
      rfl
theorem walkReads_ok (l : List Int) : Mlaw28_WalkReads l = some true := by
  have key : Tot (Mlaw28_WalkReads l) fun b => b = true := by
    unfold Mlaw28_WalkReads
    rw [wawake_ok2]
    refine tot_obnd (tot_new l) fun τ hτ => tot_obnd (tot_query hτ) fun y3 h3 => ?_
    obtain ⟨g1, g2⟩ := h3
    have g3 := qrg_len2 g2
    have g4 := g2.2.1
    have er : Mref22_Ranges y3.1 = some (qrg y3.1) := if_pos (by omega)
    refine tot_net2 g1 (by omega) (by omega) fun y4 t vs k1 k2 k3 k4 k5 => ?_
    have hrows := k5.rows k2
    rw [wreads_l1 vs [] (by rw [hrows]; simp; omega), obnd_some, List.nil_append, hrows, er, obnd_some, eq_walk_Start _ _ (by omega), obnd_some, start_all g2]
    have g5 := start_ok (q := y3.1) (by omega) (qrg y3.1) (by omega)
    rw [start_all g2] at g5
    have hcn := cntL_le vs (qrg y3.1)
    have hcn2 : (qrg y3.1).length * vs.length ≤ 4 * 5 := Nat.mul_le_mul g3 (by omega)
    obtain ⟨w', e4, m1, m2, m3, m4, m5⟩ := wreads_l2 y3 (⟨y3.1, qrg y3.1, []⟩, 0) rfl k3 k5 (by omega) FU ⟨y3.1, qrg y3.1, []⟩ 0 g5.1 (by simp) rfl (start_good _) (by intro u hu; simp at hu) (by simp only; omega) (by unfold FU; omega)
    rw [show ((0 : Nat) : Int) = 0 from rfl] at e4
    rw [e4, obnd_some, ocbnd_nxt]
    obtain ⟨ans, e5, e6, -, -⟩ := answer_ref t y3.1 (by omega) g2.1 k2
    have hrl := m1.rlen
    have e7 := (take_eq y3.1 (rowsW w'.Visits) (by omega)).2
    unfold fldW
    simp only
    rw [e5, obnd_some, eq_walk_Done m1, obnd_some, m5, eq_walk_Rows m1, obnd_some, e7, obnd_some, e6]
    have e8 : qtk y3.1.Kind y3.1.Count (rowsW w'.Visits) = qtk y3.1.Kind y3.1.Count (qslices t (qranges y3.1.Kind y3.1.Ranges y3.1.Key y3.1.Count)) := done_rows k2 m2 m4 m3 m5
    rw [e8, sameRows_refl, obnd_some]
    exact tot_some rfl
  obtain ⟨b, e, h⟩ := key
  rw [e, h]
end Go.Proofs.YtlbnhhfaedhgfaaGreatDoor
