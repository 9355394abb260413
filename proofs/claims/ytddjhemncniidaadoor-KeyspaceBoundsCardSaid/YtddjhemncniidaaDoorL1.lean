/-
  The walk of the law KeyspaceBounds: it returns true.
-/
import Derived.Test.YtddjhemncniidaaDoorW5
import Derived.Test.YtddjhemncniidaaDoorT3
import Derived.RegionTactic
import Derived.ChangeAlike
namespace Go.Proofs.YtddjhemncniidaaDoor
open Go.RowKit

set_option maxHeartbeats 4000000 in
theorem bounds_l {p : Option Addr} {n c : Nat} {a b : ByteArray} {s t : Bool} {w : World} (hsrc : Src w p n c) :
    Calls Tryd.prog 3 #[.slice p n c, .agg #[.string a, .bool s], .agg #[.string b, .bool t]] w fun e w' => e = .returned (.bool true) ∧ Kp [] w w' := by
  go_enter Tryd.func3, Tryd.ntmps3
  go_upto_region 1 with fail
  refine nameWorld (fun W0 => Kp [] w W0 ∧ w.heap.size < W0.heap.size ∧ w.heap.size + 1 < W0.heap.size ∧ (∀ i, W0.cell? ⟨w.heap.size, i, none⟩ = ([.string a, .bool s] : List Value)[i]?) ∧ (∀ i, W0.cell? ⟨w.heap.size + 1, i, none⟩ = ([.string b, .bool t] : List Value)[i]?) ∧ (∀ i, W0.frozen? ⟨w.heap.size, i, none⟩ = false) ∧ (∀ i, W0.frozen? ⟨w.heap.size + 1, i, none⟩ = false)) ⟨by (repeat (first | exact Kp.refl _ _ | apply Kp.alloc | apply Kp.drew | apply Kp.drewN | (refine Kp.setCell ?_ (Or.inr (by dsimp only; omega)) _) | (refine Kp.trans ?_ (by assumption)))), by simp, by simp, by intro i; simp [go_sem], by intro i; simp [go_sem], by intro i; simp [go_sem], by intro i; simp [go_sem]⟩ ?_; rintro W0 ⟨hk, hs0, hs1, c0, c1, f0, f1⟩
  go_wp2_with fail
  refine (new_src (hsrc.kp hk)).mono ?_; rintro e w1 ⟨bt, rfl, hbt, hk1, ht1⟩
  clear hsrc
  have d0 := kpc hk1 hs0 c0
  have d1 := kpc hk1 hs1 c1
  have r0 := Nat.lt_of_lt_of_le hs0 hk1.size
  have r1 := Nat.lt_of_lt_of_le hs1 hk1.size
  have n0 : w.heap.size ∉ [bt] := by simp; omega
  have n1 : w.heap.size + 1 ∉ [bt] := by simp; omega
  have hw1 : Kp [] w w1 := hk.trans hk1
  clear c0 c1 f0 f1 hk hk1
  go_wp2_with fail
  go_loopw [8] (fun i wr => ∃ k : Nat, i = .int .i64 k ∧ k ≤ 8 ∧ Kp [bt] w1 wr ∧ Tp wr bt) (fun i _ => 8 - (intOf i).toNat)
  case atStart => exact ⟨0, rfl, by omega, Kp.refl _ _, ht1⟩
  case round =>
    obtain ⟨k, rfl, hk8, hkr, htr⟩ := hrel
    have a0 := kpc hkr r0 d0 n0
    have a1 := kpc hkr r1 d1 n1
    have q0 := Nat.lt_of_lt_of_le r0 hkr.size
    have q1 := Nat.lt_of_lt_of_le r1 hkr.size
    by_cases hlt : k < 8
    · have hlt' : (k : Int) < 8 := by omega
      go_wp2_with fail
      refine (bound_any htr).mono ?_; rintro e w2 ⟨⟨xk, xt⟩, rfl, hx, hk2, ht2⟩
      have b0 := kpc hk2 q0 a0 n0
      have b1 := kpc hk2 q1 a1 n1
      have u0 := Nat.lt_of_lt_of_le q0 hk2.size
      have u1 := Nat.lt_of_lt_of_le q1 hk2.size
      clear a0 a1 q0 q1
      go_wp2_with fail
      refine (bound_any ht2).mono ?_; rintro e w3 ⟨⟨yk, yt⟩, rfl, hy, hk3, ht3⟩
      have e0 := kpc hk3 u0 b0 n0
      have e1 := kpc hk3 u1 b1 n1
      have v0 := Nat.lt_of_lt_of_le u0 hk3.size
      have v1 := Nat.lt_of_lt_of_le u1 hk3.size
      clear b0 b1 u0 u1
      simp only
      go_upto_region 6 with fail
      refine nameWorld (fun W4 => Kp [] w3 W4 ∧ w3.heap.size < W4.heap.size ∧ w3.heap.size + 1 < W4.heap.size ∧ (∀ i, W4.cell? ⟨w3.heap.size, i, none⟩ = ([.string xk, .bool xt] : List Value)[i]?) ∧ (∀ i, W4.cell? ⟨w3.heap.size + 1, i, none⟩ = ([.string yk, .bool yt] : List Value)[i]?) ∧ (∀ i, W4.frozen? ⟨w3.heap.size, i, none⟩ = false) ∧ (∀ i, W4.frozen? ⟨w3.heap.size + 1, i, none⟩ = false)) ⟨by (repeat (first | exact Kp.refl _ _ | apply Kp.alloc | apply Kp.drew | apply Kp.drewN | (refine Kp.setCell ?_ (Or.inr (by dsimp only; omega)) _) | (refine Kp.trans ?_ (by assumption)))), by simp, by simp, by intro i; simp [go_sem], by intro i; simp [go_sem], by intro i; simp [go_sem], by intro i; simp [go_sem]⟩ ?_; rintro W4 ⟨hk, hs0, hs1, c0, c1, f0, f1⟩
      have ht4 := ht3.kp hk
      have z0 := kpc hk v0 e0
      have z1 := kpc hk v1 e1
      have hkr4 : Kp [bt] w1 W4 := ((hkr.trans hk2).trans hk3).trans hk.of_nil
      clear e0 e1
      by_cases h7 : k = 7
      · subst h7
        go_upto_region 7 with fail
        go_region
        go_upto_region 8 with fail
        have hw1' : w1.heap.size ≤ w3.heap.size := Nat.le_trans hkr.size (Nat.le_trans hk2.size hk3.size)
        have hbt3 := ht3.size
        refine nameWorld (W := ((W4.setCells w3.heap.size 0 [.string a, .bool s]).setCells (w3.heap.size + 1) 0 [.string b, .bool t]).drew) (fun W5 => Kp [bt] w1 W5 ∧ Tp W5 bt ∧ w3.heap.size < W5.heap.size ∧ w3.heap.size + 1 < W5.heap.size ∧ (∀ i, W5.cell? ⟨w3.heap.size, i, none⟩ = ([.string a, .bool s] : List Value)[i]?) ∧ (∀ i, W5.cell? ⟨w3.heap.size + 1, i, none⟩ = ([.string b, .bool t] : List Value)[i]?))
          ⟨(kp_set (kp_set hkr4 (Or.inr hw1')) (Or.inr (by omega))).drew, (tp_set (tp_set ht4 hbt3) (by omega)).drew, by simpa [setCells_size] using hs0, by simpa [setCells_size] using hs1, cells_other _ (cells_set c0 rfl) (by omega), cells_set (cells_other _ c1 (by omega)) rfl⟩ ?_
        clear c0 c1 f0 f1 z0 z1
        rintro W5 ⟨hkr5, ht5, hs0, hs1, c0, c1⟩
        have g0 := grc hs0 c0
        have g1 := grc hs1 c1
        refine wp_region_q0 31 _ mixed (by kernel_rfl) (by kernel_rfl) (by kernel_rfl) ((Kp.refl _ _).drew) ?_; simp only [List.map_cons, List.map_nil, List.take_succ_cons, List.take_zero, noAlloc]; (repeat (first | (refine wpQK_step (fun K hK => ?_); go_simp; first | (refine hK _ ?_; clear hK K) | (apply Exists.intro; refine ⟨fun _ => ?_, hK _ ?_⟩; ((first | exact compare_p | exact compare_r | exact validBound_p | exact validBound_r | exact validKey_p.mono fun _ _ ⟨he, hw⟩ => ⟨he, hw ▸ Kp.refl _ _⟩ | exact validKey_r.mono fun _ _ ⟨he, hw⟩ => ⟨he, hw ▸ Kp.refl _ _⟩)); clear hK K)))); refine wpQK_nil ?_; intro wx hkx; simp only [List.drop_succ_cons, List.drop_zero]
        clear g0 g1 c0 c1
        go_wp2
        go_roundw
        case rel => exact ⟨7 + 1, by go_num, by omega, hkr5.trans hkx.of_nil, ht5.kp hkx⟩
        case measure => simp [intOf]
      · have b7 : ((k : Int) == 7) = false := beq_eq_false_iff_ne.2 (by omega)
        have g0 := grc hs0 c0
        have g1 := grc hs1 c1
        go_upto_region 8 with fail
        refine wp_region_q0 31 _ mixed (by kernel_rfl) (by kernel_rfl) (by kernel_rfl) ((Kp.refl _ _).drew) ?_; simp only [List.map_cons, List.map_nil, List.take_succ_cons, List.take_zero, noAlloc]; (repeat (first | (refine wpQK_step (fun K hK => ?_); go_simp; first | (refine hK _ ?_; clear hK K) | (apply Exists.intro; refine ⟨fun _ => ?_, hK _ ?_⟩; ((first | exact compare_p | exact compare_r | exact validBound_p | exact validBound_r | exact validKey_p.mono fun _ _ ⟨he, hw⟩ => ⟨he, hw ▸ Kp.refl _ _⟩ | exact validKey_r.mono fun _ _ ⟨he, hw⟩ => ⟨he, hw ▸ Kp.refl _ _⟩)); clear hK K)))); refine wpQK_nil ?_; intro wx hkx; simp only [List.drop_succ_cons, List.drop_zero]
        clear g0 g1 c0 c1 f0 f1
        go_wp2
        go_roundw
        case rel => exact ⟨k + 1, by go_num, by omega, hkr4.trans hkx.of_nil, ht4.kp hkx⟩
        case measure => simp [intOf]; omega
    · go_wp2_with fail
      refine sane_l.mono ?_; rintro e w2 ⟨rfl, hk2⟩
      go_wp2_with fail
      go_ret
      refine ⟨rfl, ?_⟩
      exact (hw1.hide hkr (by simp; omega)).trans hk2
end Go.Proofs.YtddjhemncniidaaDoor
