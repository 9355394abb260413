/-
  Walks of keyspace and its reference: two ranges.
-/
import Derived.Test.YtddjhemncniidaaDoorW1
import Derived.Test.YtddjhemncniidaaDoorP0
namespace Go.Proofs.YtddjhemncniidaaDoor
set_option linter.unusedSimpArgs false
set_option linter.unusedVariables false
open Go.RowKit

theorem greater_d {a b : ByteArray} {s t : Bool} {w : World} :
    Calls Tryd.prog 47 #[.agg #[.string a, .bool s], .agg #[.string b, .bool t]] w fun e w' => e = .returned (.agg #[.string (greater ⟨a, s⟩ ⟨b, t⟩).key, .bool (greater ⟨a, s⟩ ⟨b, t⟩).top]) ∧ Kp [] w w' :=
  greater_p.mono fun _ _ ⟨m, he, hm, hk⟩ => by have := hm.out; subst this; exact ⟨he, hk⟩
theorem lesser_d {a b : ByteArray} {s t : Bool} {w : World} :
    Calls Tryd.prog 48 #[.agg #[.string a, .bool s], .agg #[.string b, .bool t]] w fun e w' => e = .returned (.agg #[.string (lesser ⟨a, s⟩ ⟨b, t⟩).key, .bool (lesser ⟨a, s⟩ ⟨b, t⟩).top]) ∧ Kp [] w w' :=
  lesser_p.mono fun _ _ ⟨m, he, hm, hk⟩ => by have := hm.out; subst this; exact ⟨he, hk⟩
theorem greatest_d {a b : ByteArray} {s t : Bool} {w : World} :
    Calls Tryd.prog 59 #[.agg #[.string a, .bool s], .agg #[.string b, .bool t]] w fun e w' => e = .returned (.agg #[.string (greatest ⟨a, s⟩ ⟨b, t⟩).key, .bool (greatest ⟨a, s⟩ ⟨b, t⟩).top]) ∧ Kp [] w w' :=
  greatest_r.mono fun _ _ ⟨m, he, hm, hk⟩ => by have := hm.out; subst this; exact ⟨he, hk⟩
theorem least_d {a b : ByteArray} {s t : Bool} {w : World} :
    Calls Tryd.prog 61 #[.agg #[.string a, .bool s], .agg #[.string b, .bool t]] w fun e w' => e = .returned (.agg #[.string (least ⟨a, s⟩ ⟨b, t⟩).key, .bool (least ⟨a, s⟩ ⟨b, t⟩).top]) ∧ Kp [] w w' :=
  least_r.mono fun _ _ ⟨m, he, hm, hk⟩ => by have := hm.out; subst this; exact ⟨he, hk⟩

set_option maxHeartbeats 2000000 in
theorem intersect_p {a b c d : ByteArray} {s t u v : Bool} {w : World} :
    Calls Tryd.prog 28 #[.agg #[.string a, .bool s, .string b, .bool t], .agg #[.string c, .bool u, .string d, .bool v]] w fun e w' => ∃ m : Rng, e = .returned (.agg #[.string m.lo.key, .bool m.lo.top, .string m.hi.key, .bool m.hi.top]) ∧ Hid (m = isect ⟨⟨a, s⟩, ⟨b, t⟩⟩ ⟨⟨c, u⟩, ⟨d, v⟩⟩) ∧ Kp [] w w' := by
  go_enter Tryd.func28, Tryd.ntmps28
  go_upto_region 1 with fail
  refine nameWorld (fun W0 => Kp [] w W0 ∧ w.heap.size < W0.heap.size ∧ w.heap.size + 1 < W0.heap.size ∧ w.heap.size + 1 + 1 < W0.heap.size ∧ (∀ i, W0.cell? ⟨w.heap.size, i, none⟩ = ([.string a, .bool s, .string b, .bool t] : List Value)[i]?) ∧ (∀ i, W0.cell? ⟨w.heap.size + 1, i, none⟩ = ([.string c, .bool u, .string d, .bool v] : List Value)[i]?) ∧ (∀ i, W0.cell? ⟨w.heap.size + 1 + 1, i, none⟩ = ([.string ⟨#[]⟩, .bool false, .string ⟨#[]⟩, .bool false] : List Value)[i]?) ∧ (∀ i, W0.frozen? ⟨w.heap.size, i, none⟩ = false) ∧ (∀ i, W0.frozen? ⟨w.heap.size + 1, i, none⟩ = false) ∧ (∀ i, W0.frozen? ⟨w.heap.size + 1 + 1, i, none⟩ = false)) ⟨by (repeat (first | exact Kp.refl _ _ | apply Kp.alloc | apply Kp.drew | apply Kp.drewN | (refine Kp.setCell ?_ (Or.inr (by dsimp only; omega)) _) | (refine Kp.trans ?_ (by assumption)))), by simp, by simp, by simp, by intro i; simp [go_sem], by intro i; simp [go_sem], by intro i; simp [go_sem], by intro i; simp [go_sem], by intro i; simp [go_sem], by intro i; simp [go_sem]⟩ ?_; rintro W0 ⟨hk, hs0, hs1, hs2, c0, c1, c2, f0, f1, f2⟩
  have g0 := grc hs0 c0
  have g1 := grc hs1 c1
  refine wp_region_q1 12 W0 35 #[.string ⟨#[]⟩, .bool false, .string ⟨#[]⟩, .bool false] mixed (by kernel_rfl) (by kernel_rfl) allocRange ((Kp.refl _ _).drew) ?_; simp only [List.map_cons, List.map_nil, List.take_succ_cons, List.take_zero, noAlloc]; (repeat (first | (refine wpQK_step (fun K hK => ?_); go_simp; first | (refine hK _ ?_; clear hK K) | (apply Exists.intro; refine ⟨fun _ => ?_, hK _ ?_⟩; ((first | exact greater_d | exact lesser_d)); clear hK K)))); refine wpQK_nil ?_; intro b wx hkx inv; obtain ⟨B, rfl, hB0, hB1, hbx⟩ := inv.act1 (k := 11) (d := 5) (T := 35) (by kernel_rfl); clear inv; simp only [Act.put, List.setIfInBounds_toArray, List.set_cons_zero, List.set_cons_succ, List.drop_succ_cons, List.drop_zero]
  have xB := boxc hbx
  have yB := boxf hbx
  clear g0 g1 hbx
  obtain ⟨m1, hm1⟩ : ∃ m1 : Bnd, m1 = greater ⟨a, s⟩ ⟨c, u⟩ := ⟨_, rfl⟩
  obtain ⟨m2, hm2⟩ : ∃ m2 : Bnd, m2 = lesser ⟨b, t⟩ ⟨d, v⟩ := ⟨_, rfl⟩
  rw [← hm1, ← hm2]
  have Hm1 := Lib.hid hm1
  have Hm2 := Lib.hid hm2
  clear hm1 hm2
  go_upto_region 2 with fail
  refine nameWorld (fun W1 => Kp [] W0 W1 ∧ (∀ i, W1.cell? ⟨B, i, none⟩ = ([.string m1.key, .bool m1.top, .string m2.key, .bool m2.top] : List Value)[i]?) ∧ (∀ i, W1.frozen? ⟨B, i, none⟩ = false) ∧ B < W1.heap.size) ⟨by (repeat (first | exact Kp.refl _ _ | apply Kp.alloc | apply Kp.drew | apply Kp.drewN | (refine Kp.setCell ?_ (Or.inr (by dsimp only; omega)) _) | (refine Kp.trans ?_ (by assumption)))), cells_set (vs := [.string m1.key, .bool m1.top, .string m2.key, .bool m2.top]) xB rfl, fun i => (setCells_frozen B [.string m1.key, .bool m1.top, .string m2.key, .bool m2.top] 0 _ _).trans (yB i), by simpa using hB1⟩ ?_; clear xB yB hB1; rintro W1 ⟨hk1, xB, yB, hB1⟩; replace c0 := kpc hk1 hs0 c0; replace f0 := kpf hk1 hs0 f0; replace hs0 := Nat.lt_of_lt_of_le hs0 hk1.size; replace c1 := kpc hk1 hs1 c1; replace f1 := kpf hk1 hs1 f1; replace hs1 := Nat.lt_of_lt_of_le hs1 hk1.size; replace c2 := kpc hk1 hs2 c2; replace f2 := kpf hk1 hs2 f2; replace hs2 := Nat.lt_of_lt_of_le hs2 hk1.size
  have cB := xB
  have fB := yB
  have hsB := hB1
  go_wp2_with (first | (go_at_call 42; refine (empty_p).mono ?_; rintro e w' ⟨rfl, hb⟩; have hb2 := Kp.trans (a := W1) (by (repeat (first | exact Kp.refl _ _ | apply Kp.alloc | apply Kp.drew | apply Kp.drewN | (refine Kp.setCell ?_ (Or.inr (by dsimp only; omega)) _) | (refine Kp.trans ?_ (by assumption))))) hb; have hsz := hb2.size; have hc := kpc hb2 hs0 c0; have hf := kpf hb2 hs0 f0; have hs := Nat.lt_of_lt_of_le hs0 hb2.size; have hc := kpc hb2 hs1 c1; have hf := kpf hb2 hs1 f1; have hs := Nat.lt_of_lt_of_le hs1 hb2.size; have hc := kpc hb2 hs2 c2; have hf := kpf hb2 hs2 f2; have hs := Nat.lt_of_lt_of_le hs2 hb2.size; have hc := kpc hb2 hsB cB; have hf := kpf hb2 hsB fB; have hs := Nat.lt_of_lt_of_le hsB hb2.size))
  · refine nameWorldB (fun WE => Kp [] w WE ∧ (∀ i, WE.cell? ⟨w.heap.size + 1 + 1, i, none⟩ = ([.string ⟨#[]⟩, .bool false, .string ⟨#[]⟩, .bool false] : List Value)[i]?)) ⟨by (repeat (first | exact Kp.refl _ _ | apply Kp.alloc | apply Kp.drew | apply Kp.drewN | (refine Kp.setCell ?_ (Or.inr (by dsimp only; omega)) _) | (refine Kp.trans ?_ (by assumption)))), cells_set (L := [.string ⟨#[]⟩, .bool false, .string ⟨#[]⟩, .bool false]) (vs := [.string ⟨#[]⟩, .bool false, .string ⟨#[]⟩, .bool false]) (by assumption) rfl⟩ ?_; rintro WE ⟨hkE, cE⟩
    exact bodyPost_ret (v := .agg #[.string ⟨#[]⟩, .bool false, .string ⟨#[]⟩, .bool false]) (by simp [results, Tryd.results28, go_sem, cE]) rfl ⟨zr, rfl, by simp [Hid, isect, *], hkE⟩
  · refine nameWorldB (fun WE => Kp [] w WE ∧ (∀ i, WE.cell? ⟨w.heap.size + 1 + 1, i, none⟩ = ([.string ⟨#[]⟩, .bool false, .string ⟨#[]⟩, .bool false] : List Value)[i]?)) ⟨by (repeat (first | exact Kp.refl _ _ | apply Kp.alloc | apply Kp.drew | apply Kp.drewN | (refine Kp.setCell ?_ (Or.inr (by dsimp only; omega)) _) | (refine Kp.trans ?_ (by assumption)))), cells_set (L := [.string ⟨#[]⟩, .bool false, .string ⟨#[]⟩, .bool false]) (vs := [.string ⟨#[]⟩, .bool false, .string ⟨#[]⟩, .bool false]) (by assumption) rfl⟩ ?_; rintro WE ⟨hkE, cE⟩
    exact bodyPost_ret (v := .agg #[.string ⟨#[]⟩, .bool false, .string ⟨#[]⟩, .bool false]) (by simp [results, Tryd.results28, go_sem, cE]) rfl ⟨zr, rfl, by simp [Hid, isect, *], hkE⟩
  · refine nameWorldB (fun WE => Kp [] w WE ∧ (∀ i, WE.cell? ⟨w.heap.size + 1 + 1, i, none⟩ = ([.string ⟨#[]⟩, .bool false, .string ⟨#[]⟩, .bool false] : List Value)[i]?)) ⟨by (repeat (first | exact Kp.refl _ _ | apply Kp.alloc | apply Kp.drew | apply Kp.drewN | (refine Kp.setCell ?_ (Or.inr (by dsimp only; omega)) _) | (refine Kp.trans ?_ (by assumption)))), cells_set (L := [.string ⟨#[]⟩, .bool false, .string ⟨#[]⟩, .bool false]) (vs := [.string ⟨#[]⟩, .bool false, .string ⟨#[]⟩, .bool false]) (by assumption) rfl⟩ ?_; rintro WE ⟨hkE, cE⟩
    exact bodyPost_ret (v := .agg #[.string ⟨#[]⟩, .bool false, .string ⟨#[]⟩, .bool false]) (by simp [results, Tryd.results28, go_sem, cE]) rfl ⟨zr, rfl, by simp [Hid, isect, ← Hm1.out, ← Hm2.out, *], hkE⟩
  · refine nameWorldB (fun WE => Kp [] w WE ∧ (∀ i, WE.cell? ⟨w.heap.size + 1 + 1, i, none⟩ = ([.string m1.key, .bool m1.top, .string m2.key, .bool m2.top] : List Value)[i]?)) ⟨by (repeat (first | exact Kp.refl _ _ | apply Kp.alloc | apply Kp.drew | apply Kp.drewN | (refine Kp.setCell ?_ (Or.inr (by dsimp only; omega)) _) | (refine Kp.trans ?_ (by assumption)))), cells_set (L := [.string ⟨#[]⟩, .bool false, .string ⟨#[]⟩, .bool false]) (vs := [.string m1.key, .bool m1.top, .string m2.key, .bool m2.top]) (by assumption) rfl⟩ ?_; rintro WE ⟨hkE, cE⟩
    exact bodyPost_ret (v := .agg #[.string m1.key, .bool m1.top, .string m2.key, .bool m2.top]) (by simp [results, Tryd.results28, go_sem, cE]) rfl ⟨⟨m1, m2⟩, rfl, by simp [Hid, isect, ← Hm1.out, ← Hm2.out, *], hkE⟩
end Go.Proofs.YtddjhemncniidaaDoor
