/-
  The walk of the law KeyspaceLattice: it returns true.
-/
import Derived.Test.YtddjhemncniidaaDoorW5
import Derived.Test.YtddjhemncniidaaDoorW6
import Derived.Test.YtddjhemncniidaaDoorM3
import Derived.Test.YtddjhemncniidaaDoorT3
import Derived.RegionTactic
import Derived.ChangeAlike
namespace Go.Proofs.YtddjhemncniidaaDoor
open Go.RowKit

set_option maxHeartbeats 4000000 in
theorem lattice_l {p : Option Addr} {n c : Nat} {w : World} (hsrc : Src w p n c) :
    Calls Tryd.prog 5 #[.slice p n c] w fun e w' => e = .returned (.bool true) ∧ Kp [] w w' := by
  go_enter Tryd.func5, Tryd.ntmps5
  go_wp2_with fail
  refine (new_src hsrc).mono ?_; rintro e w1 ⟨bt, rfl, hbt, hk1, ht1⟩
  clear hsrc
  go_wp2_with fail
  refine (range_any ht1).mono ?_; rintro e w2 ⟨x, rfl, hx, hk2, ht2⟩
  go_wp2_with fail
  refine (range_any ht2).mono ?_; rintro e w3 ⟨y, rfl, hy, hk3, ht3⟩
  go_wp2_with fail
  refine (range_any ht3).mono ?_; rintro e w4 ⟨z, rfl, hz, hk4, ht4⟩
  have hw4 : Kp [] w w4 := hk1.hide ((hk2.trans hk3).trans hk4) (by simp; omega)
  clear hk1 hk2 hk3 hk4 ht1 ht2 ht3 ht4 hx hy hz hbt
  simp only
  go_upto_region 3 with fail
  refine nameWorld (fun W0 => Kp [] w4 W0 ∧ w4.heap.size < W0.heap.size ∧ w4.heap.size + 1 < W0.heap.size ∧ w4.heap.size + 1 + 1 < W0.heap.size ∧ (∀ i, W0.cell? ⟨w4.heap.size, i, none⟩ = ([.string x.lo.key, .bool x.lo.top, .string x.hi.key, .bool x.hi.top] : List Value)[i]?) ∧ (∀ i, W0.cell? ⟨w4.heap.size + 1, i, none⟩ = ([.string y.lo.key, .bool y.lo.top, .string y.hi.key, .bool y.hi.top] : List Value)[i]?) ∧ (∀ i, W0.cell? ⟨w4.heap.size + 1 + 1, i, none⟩ = ([.string z.lo.key, .bool z.lo.top, .string z.hi.key, .bool z.hi.top] : List Value)[i]?) ∧ (∀ i, W0.frozen? ⟨w4.heap.size, i, none⟩ = false) ∧ (∀ i, W0.frozen? ⟨w4.heap.size + 1, i, none⟩ = false) ∧ (∀ i, W0.frozen? ⟨w4.heap.size + 1 + 1, i, none⟩ = false)) ⟨by (repeat (first | exact Kp.refl _ _ | apply Kp.alloc | apply Kp.drew | apply Kp.drewN | (refine Kp.setCell ?_ (Or.inr (by dsimp only; omega)) _) | (refine Kp.trans ?_ (by assumption)))), by simp, by simp, by simp, by intro i; simp [go_sem], by intro i; simp [go_sem], by intro i; simp [go_sem], by intro i; simp [go_sem], by intro i; simp [go_sem], by intro i; simp [go_sem]⟩ ?_; rintro W0 ⟨hk, hs0, hs1, hs2, c0, c1, c2, f0, f1, f2⟩
  replace hk : Kp [] w W0 := hw4.trans hk
  clear hw4
  cases ex : emp x <;> cases ey : emp y <;> cases ez : emp z
  rotate_left 1
  all_goals try (go_wp2_with (first | (go_at_call 27; refine (empty_r_v).mono ?_; rintro e w' ⟨rfl, hb⟩; have hb2 := Kp.trans (a := W0) (by (repeat (first | exact Kp.refl _ _ | apply Kp.alloc | apply Kp.drew | apply Kp.drewN | (refine Kp.setCell ?_ (Or.inr (by dsimp only; omega)) _) | (refine Kp.trans ?_ (by assumption))))) hb; have hsz := hb2.size; have hc := kpc hb2 hs0 c0; have hf := kpf hb2 hs0 f0; have hs := Nat.lt_of_lt_of_le hs0 hb2.size; have hc := kpc hb2 hs1 c1; have hf := kpf hb2 hs1 f1; have hs := Nat.lt_of_lt_of_le hs1 hb2.size; have hc := kpc hb2 hs2 c2; have hf := kpf hb2 hs2 f2; have hs := Nat.lt_of_lt_of_le hs2 hb2.size) | (go_at_call 21; refine (sane_l).mono ?_; rintro e w' ⟨rfl, hb⟩; have hb2 := Kp.trans (a := W0) (by (repeat (first | exact Kp.refl _ _ | apply Kp.alloc | apply Kp.drew | apply Kp.drewN | (refine Kp.setCell ?_ (Or.inr (by dsimp only; omega)) _) | (refine Kp.trans ?_ (by assumption))))) hb)); first | (go_ret; exact ⟨rfl, by (repeat (first | exact Kp.refl _ _ | apply Kp.alloc | apply Kp.drew | apply Kp.drewN | (refine Kp.setCell ?_ (Or.inr (by dsimp only; omega)) _) | (refine Kp.trans ?_ (by assumption))))⟩))
  go_upto_region 5 with (first | (go_at_call 27; refine (empty_r_v).mono ?_; rintro e w' ⟨rfl, hb⟩; have hb2 := Kp.trans (a := W0) (by (repeat (first | exact Kp.refl _ _ | apply Kp.alloc | apply Kp.drew | apply Kp.drewN | (refine Kp.setCell ?_ (Or.inr (by dsimp only; omega)) _) | (refine Kp.trans ?_ (by assumption))))) hb; have hsz := hb2.size; have hc := kpc hb2 hs0 c0; have hf := kpf hb2 hs0 f0; have hs := Nat.lt_of_lt_of_le hs0 hb2.size; have hc := kpc hb2 hs1 c1; have hf := kpf hb2 hs1 f1; have hs := Nat.lt_of_lt_of_le hs1 hb2.size; have hc := kpc hb2 hs2 c2; have hf := kpf hb2 hs2 f2; have hs := Nat.lt_of_lt_of_le hs2 hb2.size))
  obtain ⟨m, hm⟩ : ∃ m, m = isect x y := ⟨_, rfl⟩
  obtain ⟨v, hv⟩ : ∃ v, v = hull x y := ⟨_, rfl⟩
  have i0 := Lib.hid hm.symm
  have h0 := Lib.hid hv.symm
  have i1 : Hid (isect y x = m) := Lib.hid ((isect_comm ey ex).trans hm.symm)
  have h1 : Hid (hull y x = v) := Lib.hid ((hull_comm ey ex).trans hv.symm)
  obtain ⟨q, hq⟩ : ∃ q, q = isect y z := ⟨_, rfl⟩
  obtain ⟨m2, hm2⟩ : ∃ m2, m2 = isect m z := ⟨_, rfl⟩
  have i2 := Lib.hid hm2.symm
  have i3 := Lib.hid hq.symm
  have i4 : Hid (isect x q = m2) := Lib.hid (by rw [hq, hm2, hm]; exact (isect_assoc ex ey ez).symm)
  obtain ⟨r, hr⟩ : ∃ r, r = hull y z := ⟨_, rfl⟩
  obtain ⟨v2, hv2⟩ : ∃ v2, v2 = hull v z := ⟨_, rfl⟩
  have h2 := Lib.hid hv2.symm
  have h3 := Lib.hid hr.symm
  have h4 : Hid (hull x r = v2) := Lib.hid (by rw [hr, hv2, hv]; exact (hull_assoc ex ey ez).symm)
  have i5 : Hid (isect x x = x) := Lib.hid (isect_self ex)
  have h5 : Hid (hull x x = x) := Lib.hid (hull_self ex)
  have i6 : Hid (isect x v = x) := Lib.hid (by rw [hv]; exact isect_hull ex ey)
  have h6 : Hid (hull x m = x) := Lib.hid (by rw [hm]; exact hull_isect ex ey)
  clear hm hv hq hm2 hr hv2 ex ey ez
  refine nameWorld (fun W1 => Kp [] w W1 ∧ w4.heap.size < W1.heap.size ∧ w4.heap.size + 1 < W1.heap.size ∧ w4.heap.size + 1 + 1 < W1.heap.size ∧ (∀ i, W1.cell? ⟨w4.heap.size, i, none⟩ = ([.string x.lo.key, .bool x.lo.top, .string x.hi.key, .bool x.hi.top] : List Value)[i]?) ∧ (∀ i, W1.cell? ⟨w4.heap.size + 1, i, none⟩ = ([.string y.lo.key, .bool y.lo.top, .string y.hi.key, .bool y.hi.top] : List Value)[i]?) ∧ (∀ i, W1.cell? ⟨w4.heap.size + 1 + 1, i, none⟩ = ([.string z.lo.key, .bool z.lo.top, .string z.hi.key, .bool z.hi.top] : List Value)[i]?)) ⟨by (repeat (first | exact Kp.refl _ _ | apply Kp.alloc | apply Kp.drew | apply Kp.drewN | (refine Kp.setCell ?_ (Or.inr (by dsimp only; omega)) _) | (refine Kp.trans ?_ (by assumption)))), by assumption, by assumption, by assumption, by assumption, by assumption, by assumption⟩ ?_
  clear hk hs0 hs1 hs2 c0 c1 c2 f0 f1 f2
  rintro W1 ⟨hk, hs0, hs1, hs2, c0, c1, c2⟩
  have g0 := grc hs0 c0
  have g1 := grc hs1 c1
  refine wp_region_q1 8 W1 35 #[.string ⟨#[]⟩, .bool false, .string ⟨#[]⟩, .bool false] mixed (by kernel_rfl) (by kernel_rfl) allocRange ((Kp.refl _ _).drew) ?_; simp only [List.map_cons, List.map_nil, List.take_succ_cons, List.take_zero, noAlloc]; (repeat (first | (refine wpQK_step (fun K hK => ?_); go_simp; first | (refine hK _ ?_; clear hK K) | (apply Exists.intro; refine ⟨fun _ => ?_, hK _ ?_⟩; ((first | exact intersect_p_v i0 | exact hull_p_v h0)); clear hK K)))); refine wpQK_nil ?_; intro b wx hkx inv; obtain ⟨B, B2, rfl, hB0, hB1, hbx, hB20, hB21, hbx2, hBB⟩ := inv.act2 (k := 6) (d := 7) (T := 35) (k' := 7) (d' := 8) (T' := 35) (by kernel_rfl) (by decide) (by decide); clear inv; simp only [Act.put, List.setIfInBounds_toArray, List.set_cons_zero, List.set_cons_succ, List.drop_succ_cons, List.drop_zero]
  have xB := boxc hbx
  have xB2 := boxc hbx2
  have yB := boxf hbx
  have yB2 := boxf hbx2
  have d0 := kpc hkx hs0 c0
  have d1 := kpc hkx hs1 c1
  have d2 := kpc hkx hs2 c2
  have t0 := Nat.lt_of_lt_of_le hs0 hkx.size
  have t1 := Nat.lt_of_lt_of_le hs1 hkx.size
  have t2 := Nat.lt_of_lt_of_le hs2 hkx.size
  clear g0 g1 c0 c1 c2
  go_upto_region 6 with fail
  refine nameWorldE (W1 := (wx.setCells B 0 [.string m.lo.key, .bool m.lo.top, .string m.hi.key, .bool m.hi.top]).setCells B2 0 [.string v.lo.key, .bool v.lo.top, .string v.hi.key, .bool v.hi.top]) rfl (fun W2 => Kp [] w W2 ∧ w4.heap.size < W2.heap.size ∧ w4.heap.size + 1 < W2.heap.size ∧ w4.heap.size + 1 + 1 < W2.heap.size ∧ B < W2.heap.size ∧ B2 < W2.heap.size ∧ (∀ i, W2.cell? ⟨w4.heap.size, i, none⟩ = ([.string x.lo.key, .bool x.lo.top, .string x.hi.key, .bool x.hi.top] : List Value)[i]?) ∧ (∀ i, W2.cell? ⟨w4.heap.size + 1, i, none⟩ = ([.string y.lo.key, .bool y.lo.top, .string y.hi.key, .bool y.hi.top] : List Value)[i]?) ∧ (∀ i, W2.cell? ⟨w4.heap.size + 1 + 1, i, none⟩ = ([.string z.lo.key, .bool z.lo.top, .string z.hi.key, .bool z.hi.top] : List Value)[i]?) ∧ (∀ i, W2.cell? ⟨B, i, none⟩ = ([.string m.lo.key, .bool m.lo.top, .string m.hi.key, .bool m.hi.top] : List Value)[i]?) ∧ (∀ i, W2.cell? ⟨B2, i, none⟩ = ([.string v.lo.key, .bool v.lo.top, .string v.hi.key, .bool v.hi.top] : List Value)[i]?)) ⟨kp_set (kp_set (hk.trans hkx) (Or.inr (by have := hk.size; omega))) (Or.inr (by have := hk.size; omega)), by simpa [setCells_size] using t0, by simpa [setCells_size] using t1, by simpa [setCells_size] using t2, by simpa [setCells_size] using hB1, by simpa [setCells_size] using hB21, cells_other _ (cells_other _ d0 (by omega)) (by omega), cells_other _ (cells_other _ d1 (by omega)) (by omega), cells_other _ (cells_other _ d2 (by omega)) (by omega), cells_other _ (cells_set xB rfl) (by omega), cells_set (cells_other _ xB2 (by omega)) rfl⟩ ?_
  clear hk hkx hbx hbx2 xB xB2 yB yB2 d0 d1 d2 hs0 hs1 hs2 t0 t1 t2
  rintro W2 ⟨hk, hs0, hs1, hs2, hsB, hsB2, c0, c1, c2, cB, cB2⟩
  have g0 := grc hs0 c0
  have g1 := grc hs1 c1
  have g2 := grc hs2 c2
  have gB := grc hsB cB
  have gB2 := grc hsB2 cB2
  simp only [List.append_eq, List.cons_append, List.nil_append]
  refine wp_region_q0 65 W2 mixed (by kernel_rfl) (by kernel_rfl) (by kernel_rfl) ((Kp.refl _ _).drew) ?_; simp only [List.map_cons, List.map_nil, List.take_succ_cons, List.take_zero, noAlloc]; (repeat (first | (refine wpQK_step (fun K hK => ?_); go_simp; first | (refine hK _ ?_; clear hK K) | (apply Exists.intro; refine ⟨fun _ => ?_, hK _ ?_⟩; ((first | exact intersect_p_v (by assumption) | exact hull_p_v (by assumption) | exact sane_l)); clear hK K)))); refine wpQK_nil ?_; intro wx hkx; simp only [List.drop_succ_cons, List.drop_zero]
  go_wp2_with fail
  go_ret
  exact ⟨rfl, hk.trans hkx⟩
end Go.Proofs.YtddjhemncniidaaDoor
