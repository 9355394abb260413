/-
  Walks: the law's own check of the chapter's examples.
-/
import Derived.Test.YtddjhemncniidaaDoorW4
namespace Go.Proofs.YtddjhemncniidaaDoor
set_option linter.unusedSimpArgs false
set_option linter.unusedVariables false
open Go.RowKit

theorem RS.of_row {w : World} {b c : Nat} {l : List Rng} {T : TypeId} {fr : Nat × Nat} (h : w.heap[b]? = some (.cells (rvals l).toArray T fr)) (hc : l.length ≤ c) (hl : l.length ≤ 1000000) : RS w (.slice (some ⟨b, 0, none⟩) l.length c) l :=
  ⟨⟨_, c, rfl, hc, hl, fun _ => ⟨b, 0, rfl, (Array.getElem?_eq_some_iff.1 h).1, fun j u hj => by simp [World.cell?, h, hj]⟩⟩⟩

set_option maxHeartbeats 2000000 in
theorem sane_l {w : World} : Calls Tryd.prog 21 #[] w fun e w' => e = .returned (.bool true) ∧ Kp [] w w' := by
  go_enter Tryd.func21, Tryd.ntmps21
  go_wp2_with fail
  refine span_l.mono ?_; rintro e w1 ⟨rfl, hk1⟩
  go_wp2_with fail
  refine intersect_p.mono ?_; rintro e w2 ⟨m, rfl, hm, hk2⟩
  have em : m = ⟨⟨⟨#[99]⟩, false⟩, ⟨⟨#[109]⟩, false⟩⟩ := by rw [hm.out]; kernel_rfl
  subst em
  clear hm
  go_upto_region 2 with fail
  refine nameWorld (fun W0 => Kp [] w2 W0 ∧ w2.heap.size < W0.heap.size ∧ (∀ i, W0.cell? ⟨w2.heap.size, i, none⟩ = ([.string ⟨#[99]⟩, .bool false, .string ⟨#[109]⟩, .bool false] : List Value)[i]?) ∧ (∀ i, W0.frozen? ⟨w2.heap.size, i, none⟩ = false)) ⟨by (repeat (first | exact Kp.refl _ _ | apply Kp.alloc | apply Kp.drew | apply Kp.drewN | (refine Kp.setCell ?_ (Or.inr (by dsimp only; omega)) _) | (refine Kp.trans ?_ (by assumption)))), by simp, by intro i; simp [go_sem], by intro i; simp [go_sem]⟩ ?_; rintro W0 ⟨hk, hs0, c0, f0⟩
  go_wp2_with fail
  refine span_l.mono ?_; rintro e w3 ⟨rfl, hk3⟩
  go_wp2_with fail
  refine span_l.mono ?_; rintro e w4 ⟨rfl, hk4⟩
  go_wp2_with fail
  refine span_l.mono ?_; rintro e w5 ⟨rfl, hk5⟩
  have r5 : RS w5 (.slice (some ⟨w4.heap.size, 0, none⟩) 2 2) [⟨⟨⟨#[97]⟩, false⟩, ⟨⟨#[99]⟩, false⟩⟩, ⟨⟨⟨#[100]⟩, false⟩, ⟨⟨#[102]⟩, false⟩⟩] :=
    RS.of_row (l := [⟨⟨⟨#[97]⟩, false⟩, ⟨⟨#[99]⟩, false⟩⟩, ⟨⟨⟨#[100]⟩, false⟩, ⟨⟨#[102]⟩, false⟩⟩]) ((hk5.block w4.heap.size (by simp) (by simp)).trans (heap_alloc_new w4 _)) (Nat.le_refl _) (by simp)
  go_wp2_with fail
  refine (tiles_p r5).mono ?_; rintro e w6 ⟨rfl, hk6⟩
  clear r5
  rw [show tiles [⟨⟨⟨#[97]⟩, false⟩, ⟨⟨#[99]⟩, false⟩⟩, ⟨⟨⟨#[100]⟩, false⟩, ⟨⟨#[102]⟩, false⟩⟩] ⟨⟨⟨#[97]⟩, false⟩, ⟨⟨#[102]⟩, false⟩⟩ = ((1 : Int), (9 : Int)) by kernel_rfl]
  go_upto_region 3 with fail
  go_wp2_with fail
  refine span_l.mono ?_; rintro e w7 ⟨rfl, hk7⟩
  go_wp2_with fail
  refine span_l.mono ?_; rintro e w8 ⟨rfl, hk8⟩
  go_wp2_with fail
  refine span_l.mono ?_; rintro e w9 ⟨rfl, hk9⟩
  have r9 : RS w9 (.slice (some ⟨w8.heap.size, 0, none⟩) 2 2) [⟨⟨⟨#[97]⟩, false⟩, ⟨⟨#[99]⟩, false⟩⟩, ⟨⟨⟨#[99]⟩, false⟩, ⟨⟨#[102]⟩, false⟩⟩] :=
    RS.of_row (l := [⟨⟨⟨#[97]⟩, false⟩, ⟨⟨#[99]⟩, false⟩⟩, ⟨⟨⟨#[99]⟩, false⟩, ⟨⟨#[102]⟩, false⟩⟩]) ((hk9.block w8.heap.size (by simp) (by simp)).trans (heap_alloc_new w8 _)) (Nat.le_refl _) (by simp)
  go_wp2_with fail
  refine (tiles_p r9).mono ?_; rintro e w10 ⟨rfl, hk10⟩
  clear r9
  rw [show tiles [⟨⟨⟨#[97]⟩, false⟩, ⟨⟨#[99]⟩, false⟩⟩, ⟨⟨⟨#[99]⟩, false⟩, ⟨⟨#[102]⟩, false⟩⟩] ⟨⟨⟨#[97]⟩, false⟩, ⟨⟨#[102]⟩, false⟩⟩ = ((2 : Int), (0 : Int)) by kernel_rfl]
  have hkk : Kp [] W0 w10 := by (repeat (first | exact Kp.refl _ _ | apply Kp.alloc | apply Kp.drew | apply Kp.drewN | (refine Kp.setCell ?_ (Or.inr (by dsimp only; omega)) _) | (refine Kp.trans ?_ (by assumption))))
  have hk0 : Kp [] w W0 := by (repeat (first | exact Kp.refl _ _ | apply Kp.alloc | apply Kp.drew | apply Kp.drewN | (refine Kp.setCell ?_ (Or.inr (by dsimp only; omega)) _) | (refine Kp.trans ?_ (by assumption))))
  have c10 := kpc hkk hs0 c0
  have g0 := grc (Nat.lt_of_lt_of_le hs0 hkk.size) c10
  clear c0 f0 c10 hs0 hk1 hk2 hk3 hk4 hk5 hk6 hk7 hk8 hk9 hk10 hk
  have hvk : vk ⟨#[]⟩ = true := by kernel_rfl
  have hct : contains ⟨⟨⟨#[99]⟩, false⟩, ⟨⟨#[109]⟩, false⟩⟩ ⟨#[100]⟩ = true := by kernel_rfl
  go_upto_region 4 with fail
  refine wp_region_q0 26 _ mixed (by kernel_rfl) (by kernel_rfl) (by kernel_rfl) ((Kp.refl _ _).drew) ?_; simp only [List.map_cons, List.map_nil, List.take_succ_cons, List.take_zero, noAlloc]; (repeat (first | (refine wpQK_step (fun K hK => ?_); go_simp; first | (refine hK _ ?_; clear hK K) | (apply Exists.intro; refine ⟨fun _ => ?_, hK _ ?_⟩; ((first | exact span_l | exact contains_p | exact validKey_p.mono fun _ _ ⟨he, hw⟩ => ⟨he, hw ▸ Kp.refl _ _⟩)); clear hK K)))); refine wpQK_nil ?_; intro wx hkx; simp only [List.drop_succ_cons, List.drop_zero]
  go_wp2
  go_ret
  exact ⟨rfl, by (repeat (first | exact Kp.refl _ _ | apply Kp.alloc | apply Kp.drew | apply Kp.drewN | (refine Kp.setCell ?_ (Or.inr (by dsimp only; omega)) _) | (refine Kp.trans ?_ (by assumption))))⟩
end Go.Proofs.YtddjhemncniidaaDoor
