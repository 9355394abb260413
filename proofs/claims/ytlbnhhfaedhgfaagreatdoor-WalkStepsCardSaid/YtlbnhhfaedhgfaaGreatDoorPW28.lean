/-
  Lemmas: The law WalkSteps holds of its model.
-/
import Derived.Test.YtlbnhhfaedhgfaaGreatDoorPW26
import Derived.Test.YtlbnhhfaedhgfaaGreatDoorPW27
namespace Go.Proofs.YtlbnhhfaedhgfaaGreatDoor
set_option linter.unusedSimpArgs false
set_option linter.unusedVariables false
open Go.RowKit
theorem agree_ok {w : TWalk} (h : okW w) (v : TView) (hv : v.Rows.length ≤ 10000) : Mlaw28_agree w v = some true := by
  unfold Mlaw28_agree
  simp only [eq_walk_Want h, eq_ref28_Want h, eq_walk_Take h v hv, eq_ref28_Take h v hv, eq_walk_Done h, eq_ref28_Done h, eq_walk_Rows h, eq_ref28_Rows h, eq_walk_ValidView v hv, eq_ref28_ValidView, obnd_some, sameRows_refl, sameWalk_refl, decide_true, Bool.and_self, beq_self_eq_true, sel_true]
theorem wsteps_l1 : ∀ (fuel : Nat) (l : List Int) (a : Int) (w : TWalk) (vs : List TView) (i : Nat), okT ⟨l, a⟩ → okW w → w.Visits.length ≤ i → i ≤ 20 → 20 - i < fuel → goodV vs →
    Tot (Mlaw28_WalkSteps_l1 fuel l a w.Query.Kind w.Query.Ranges w.Query.Key w.Query.Count w.Todo w.Visits vs (i : Int)) (CtlP (fun b => b = true) fun z => okT ⟨z.1, z.2.1⟩ ∧ okW ⟨⟨z.2.2.1, z.2.2.2.1, z.2.2.2.2.1, z.2.2.2.2.2.1⟩, z.2.2.2.2.2.2.1, z.2.2.2.2.2.2.2⟩)
  | 0, _, _, _, _, _, _, _, _, _, h, _ => absurd h (by omega)
  | fuel + 1, l, a, w, vs, i, h, hw, hn, hi, hf, hv => by
    rw [Mlaw28_WalkSteps_l1.eq_2]
    refine tot_obnd (R := fun z => okT ⟨z.1, z.2.1⟩ ∧ (z.2.2 = true → i < 20)) (tot_sel (fun h1 => tot_bnd (tot_some ⟨h, fun _ => by have := of_decide_eq_true h1; omega⟩)) fun _ => tot_some ⟨h, by simp⟩) ?_
    rintro ⟨x18, x19, x20⟩ ⟨g1, g2⟩
    simp only at g1 g2 ⊢
    refine tot_join (R := fun _ => i < 20) (tot_sel (fun h1 => tot_some (g2 h1)) fun _ => tot_some ⟨g1, hw⟩) fun _ hi20 => ?_
    refine tot_obnd (tot_bool g1 (by omega)) fun y21 h21 => ?_
    refine tot_obnd (R := fun z => okT ⟨z.1, z.2.1⟩ ∧ goodV z.2.2) (tot_sel (fun _ => tot_net h21 (by omega) (by omega) (K := fun z τ => some (τ.l, τ.at_, z)) fun t vs' τ' k1 k2 k3 k4 k5 => tot_some ⟨k1, show goodV vs' from k5.good k3 (by omega)⟩) fun _ => tot_some ⟨h21, hv⟩) ?_
    rintro ⟨x24, x25, v26⟩ ⟨g3, g4⟩
    simp only at g3 g4 ⊢
    rw [eq_ref28_Want hw, obnd_some, bnd_eq]
    refine tot_obnd (tot_serve g3 g4 _ _) fun y29 h29 => tot_obnd (tot_bool h29.1 (by omega)) fun y30 h30 => ?_
    refine tot_obnd (R := fun z => okT ⟨z.1, z.2.1⟩ ∧ z.2.2.2.2.2.2.2.2.2.length ≤ 8) (tot_sel (fun _ => tot_obnd (tot_proper h30) fun y31 h31 => tot_obnd (tot_view h31.1 _) fun y32 h32 => tot_some h32) fun _ => tot_some ⟨h30, g4.2.2 _ h29.2⟩) ?_
    rintro ⟨x33, x34, v35, v36, v37, v38, v39, v40, v41, v42⟩ ⟨g5, g6⟩
    simp only at g5 g6 ⊢
    have hvr : (TView.mk v35 (Rng.mk (Bnd.mk v36 v37) (Bnd.mk v38 v39)) (TStamp.mk v40 v41) v42).Rows.length ≤ 10000 := by simp only; omega
    have tk := take_ok hw (by omega) _ hvr
    rw [agree_ok hw _ hvr, obnd_some, Bool.not_true, sel_false, eq_ref28_Take hw _ hvr, obnd_some, i64w_id (by omega) (by omega), show (i : Int) + 1 = ((i + 1 : Nat) : Int) by omega]
    exact tot_sel (fun _ => wsteps_l1 fuel _ _ _ _ (i + 1) g5 tk.1 (by omega) (by omega) (by omega) g4) fun _ => wsteps_l1 fuel _ _ w _ (i + 1) g5 hw (by omega) (by omega) (by omega) g4
theorem begin_ok {q : TQuery} (h : q.Ranges.length < 1000000) : Mlaw28_begin q = some (startW q (qrg q)).1 := by
  have hr : Mref22_Ranges q = some (qrg q) := if_pos h
  unfold Mlaw28_begin
  rw [hr, obnd_some, eq_ref28_Start q _ h, obnd_some]
theorem walkSteps_ok (l : List Int) : Mlaw28_WalkSteps l = some true := by
  have key : Tot (Mlaw28_WalkSteps l) fun b => b = true := by
    unfold Mlaw28_WalkSteps
    rw [wawake_ok2]
    refine tot_obnd (tot_new l) fun τ hτ => tot_obnd (tot_query hτ) fun y3 h3 => ?_
    obtain ⟨g1, g2⟩ := h3
    have g3 := qrg_len2 g2
    have g4 := g2.2.1
    have g5 := start_ok (q := y3.1) (by omega) (qrg y3.1) (by omega)
    rw [begin_ok (by omega), obnd_some]
    refine tot_net g1 (by omega) (by omega) (K := fun z τ => obnd (Mlaw28_WalkSteps_l1 FU τ.l τ.at_ (startW y3.1 (qrg y3.1)).1.Query.Kind (startW y3.1 (qrg y3.1)).1.Query.Ranges (startW y3.1 (qrg y3.1)).1.Query.Key (startW y3.1 (qrg y3.1)).1.Query.Count (startW y3.1 (qrg y3.1)).1.Todo (startW y3.1 (qrg y3.1)).1.Visits z 0) fun mu => ocbnd mu _) fun t vs τ' k1 k2 k3 k4 k5 => ?_
    have := wsteps_l1 FU τ'.l τ'.at_ (startW y3.1 (qrg y3.1)).1 vs 0 k1 g5.1 (by omega) (by omega) (by unfold FU; omega) (k5.good k3 (by omega))
    refine tot_join this ?_
    rintro ⟨x45, x46, w47, w48, w49, w50, w51, w52⟩ ⟨m1, m2⟩
    simp only at m1 m2 ⊢
    refine tot_obnd (tot_proper m1) fun y53 h53 => tot_obnd (tot_view h53.1 _) fun y54 h54 => ?_
    have h8 := h54.2
    rw [agree_ok m2 _ (by omega), obnd_some, sel_true]
    exact tot_obnd (tot_some (Q := fun b => b = true) rfl) fun b h => tot_some h
  obtain ⟨b, e, h⟩ := key
  rw [e, h]
end Go.Proofs.YtlbnhhfaedhgfaaGreatDoor
