/-
  The tape: bounds, ranges; a new tape.
-/
import Derived.Test.YtddjhemncniidaaDoorT2
namespace Go.Proofs.YtddjhemncniidaaDoor
set_option linter.unusedSimpArgs false
set_option linter.unusedVariables false
open Go.RowKit

set_option maxHeartbeats 1000000 in
theorem bound_any {bt : Nat} {w : World} (ht : Tp w bt) :
    Calls Tryd.prog 14 #[.pointer (some ⟨bt, 0, none⟩)] w fun e w' => ∃ b : Bnd, e = .returned (.agg #[.string b.key, .bool b.top]) ∧ b.key.size ≤ 65 ∧ Kp [bt] w w' ∧ Tp w' bt := by
  have hbt := ht.size
  go_enter Tryd.func14, Tryd.ntmps14
  go_upto_region 1 with fail
  refine nameWorld (fun W0 => Kp [] w W0 ∧ w.heap.size < W0.heap.size ∧ (∀ i, W0.cell? ⟨w.heap.size, i, none⟩ = ([.string ⟨#[]⟩, .bool false] : List Value)[i]?) ∧ (∀ i, W0.frozen? ⟨w.heap.size, i, none⟩ = false)) ⟨by (repeat (first | exact Kp.refl _ _ | apply Kp.alloc | apply Kp.drew | apply Kp.drewN | (refine Kp.setCell ?_ (Or.inr (by dsimp only; omega)) _) | (refine Kp.trans ?_ (by assumption)))), by simp, by intro i; simp [go_sem], by intro i; simp [go_sem]⟩ ?_; rintro W0 ⟨hk, hs0, c0, f0⟩
  have ht0 := ht.kp hk
  replace hk : Kp [bt] w W0 := hk.of_nil
  have hne : w.heap.size ∉ [bt] := by simp; omega
  clear ht
  go_wp2_with fail
  refine (next_any ht0 (by omega) (by omega)).mono ?_; rintro e w1 ⟨r, rfl, hr, hk1, ht1⟩
  obtain ⟨hr0, hr1, hr2⟩ := hr
  clear hr1 hr2
  have d1 := kpc hk1 hs0 c0 hne
  have e1 := kpf hk1 hs0 f0 hne
  have hs1 := Nat.lt_of_lt_of_le hs0 hk1.size
  clear c0 f0
  by_cases h7 : r = 7
  · subst h7
    go_wp2_with fail
    (refine nameWorldB (fun WE => Kp [bt] w WE ∧ Tp WE bt ∧ (∀ i, WE.cell? ⟨w.heap.size, i, none⟩ = ([.string ⟨#[]⟩, .bool true] : List Value)[i]?)) ⟨by (repeat (first | exact Kp.refl _ _ | apply Kp.alloc | apply Kp.drew | apply Kp.drewN | (refine Kp.setCell ?_ (Or.inr (by dsimp only; omega)) _) | (refine Kp.trans ?_ (by assumption)))), by (repeat (first | assumption | (refine Tp.setCell ?_ (by dsimp only; omega) _) | apply Tp.alloc | apply Tp.drew)), cells_set (L := [.string ⟨#[]⟩, .bool false]) (vs := [.string ⟨#[]⟩, .bool true]) (by assumption) rfl⟩ ?_; rintro WE ⟨hkE, htE, cE⟩; exact bodyPost_ret (v := .agg #[.string ⟨#[]⟩, .bool true]) (by simp [results, Tryd.results14, go_sem, cE]) rfl ⟨⟨⟨#[]⟩, true⟩, rfl, Nat.zero_le _, hkE, htE⟩)
  · have b7 : (r == 7) = false := beq_eq_false_iff_ne.2 h7
    by_cases h8 : r = 8
    · subst h8
      go_wp2_with fail
      refine (oddKey_any ht1).mono ?_; rintro e w2 ⟨r2, rfl, hr2, hk2, ht2⟩
      have d2 := kpc hk2 hs1 d1 hne
      have e2 := kpf hk2 hs1 e1 hne
      have hs2 := Nat.lt_of_lt_of_le hs1 hk2.size
      clear d1 e1
      go_wp2_with fail
      refine (bool_any ht2 (by omega) (by omega)).mono ?_; rintro e w3 ⟨r3, rfl, hk3, ht3⟩
      have d3 := kpc hk3 hs2 d2 hne
      have e3 := kpf hk3 hs2 e2 hne
      have hs3 := Nat.lt_of_lt_of_le hs2 hk3.size
      clear d2 e2
      go_wp2_with fail
      (refine nameWorldB (fun WE => Kp [bt] w WE ∧ Tp WE bt ∧ (∀ i, WE.cell? ⟨w.heap.size, i, none⟩ = ([.string r2, .bool r3] : List Value)[i]?)) ⟨by (repeat (first | exact Kp.refl _ _ | apply Kp.alloc | apply Kp.drew | apply Kp.drewN | (refine Kp.setCell ?_ (Or.inr (by dsimp only; omega)) _) | (refine Kp.trans ?_ (by assumption)))), by (repeat (first | assumption | (refine Tp.setCell ?_ (by dsimp only; omega) _) | apply Tp.alloc | apply Tp.drew)), cells_set (L := [.string ⟨#[]⟩, .bool false]) (vs := [.string r2, .bool r3]) (by assumption) rfl⟩ ?_; rintro WE ⟨hkE, htE, cE⟩; exact bodyPost_ret (v := .agg #[.string r2, .bool r3]) (by simp [results, Tryd.results14, go_sem, cE]) rfl ⟨⟨r2, r3⟩, rfl, hr2, hkE, htE⟩)
    · have b8 : (r == 8) = false := beq_eq_false_iff_ne.2 h8
      go_wp2_with fail
      refine (key_any ht1).mono ?_; rintro e w2 ⟨r2, rfl, hr2, hk2, ht2⟩
      have d2 := kpc hk2 hs1 d1 hne
      have e2 := kpf hk2 hs1 e1 hne
      have hs2 := Nat.lt_of_lt_of_le hs1 hk2.size
      clear d1 e1
      go_wp2_with fail
      (refine nameWorldB (fun WE => Kp [bt] w WE ∧ Tp WE bt ∧ (∀ i, WE.cell? ⟨w.heap.size, i, none⟩ = ([.string r2, .bool false] : List Value)[i]?)) ⟨by (repeat (first | exact Kp.refl _ _ | apply Kp.alloc | apply Kp.drew | apply Kp.drewN | (refine Kp.setCell ?_ (Or.inr (by dsimp only; omega)) _) | (refine Kp.trans ?_ (by assumption)))), by (repeat (first | assumption | (refine Tp.setCell ?_ (by dsimp only; omega) _) | apply Tp.alloc | apply Tp.drew)), cells_set (L := [.string ⟨#[]⟩, .bool false]) (vs := [.string r2, .bool false]) (by assumption) rfl⟩ ?_; rintro WE ⟨hkE, htE, cE⟩; exact bodyPost_ret (v := .agg #[.string r2, .bool false]) (by simp [results, Tryd.results14, go_sem, cE]) rfl ⟨⟨r2, false⟩, rfl, Nat.le_trans hr2 (by omega), hkE, htE⟩)

set_option maxHeartbeats 2000000 in
theorem range_any {bt : Nat} {w : World} (ht : Tp w bt) :
    Calls Tryd.prog 22 #[.pointer (some ⟨bt, 0, none⟩)] w fun e w' => ∃ m : Rng, e = .returned (.agg #[.string m.lo.key, .bool m.lo.top, .string m.hi.key, .bool m.hi.top]) ∧ (m.lo.key.size ≤ 65 ∧ m.hi.key.size ≤ 65) ∧ Kp [bt] w w' ∧ Tp w' bt := by
  have hbt := ht.size
  go_enter Tryd.func22, Tryd.ntmps22
  go_upto_region 1 with fail
  refine nameWorld (fun W0 => Kp [] w W0 ∧ w.heap.size < W0.heap.size ∧ (∀ i, W0.cell? ⟨w.heap.size, i, none⟩ = ([.string ⟨#[]⟩, .bool false, .string ⟨#[]⟩, .bool false] : List Value)[i]?) ∧ (∀ i, W0.frozen? ⟨w.heap.size, i, none⟩ = false)) ⟨by (repeat (first | exact Kp.refl _ _ | apply Kp.alloc | apply Kp.drew | apply Kp.drewN | (refine Kp.setCell ?_ (Or.inr (by dsimp only; omega)) _) | (refine Kp.trans ?_ (by assumption)))), by simp, by intro i; simp [go_sem], by intro i; simp [go_sem]⟩ ?_; rintro W0 ⟨hk, hs0, c0, f0⟩
  have ht0 := ht.kp hk
  replace hk : Kp [bt] w W0 := hk.of_nil
  have hne : w.heap.size ∉ [bt] := by simp; omega
  clear ht
  go_wp2_with fail
  refine (bound_any ht0).mono ?_; rintro e w1 ⟨x, rfl, hx, hk1, ht1⟩
  have d1 := kpc hk1 hs0 c0 hne
  have e1 := kpf hk1 hs0 f0 hne
  have hs1 := Nat.lt_of_lt_of_le hs0 hk1.size
  clear c0 f0
  go_wp2_with fail
  refine (bound_any ht1).mono ?_; rintro e w2 ⟨y, rfl, hy, hk2, ht2⟩
  have d2 := kpc hk2 hs1 d1 hne
  have e2 := kpf hk2 hs1 e1 hne
  have hs2 := Nat.lt_of_lt_of_le hs1 hk2.size
  clear d1 e1
  have hbt2 := ht2.size
  go_upto_region 2 with fail
  refine nameWorld (fun W3 => Kp [] w2 W3 ∧ w2.heap.size < W3.heap.size ∧ w2.heap.size + 1 < W3.heap.size ∧ (∀ i, W3.cell? ⟨w2.heap.size, i, none⟩ = ([.string x.key, .bool x.top] : List Value)[i]?) ∧ (∀ i, W3.cell? ⟨w2.heap.size + 1, i, none⟩ = ([.string y.key, .bool y.top] : List Value)[i]?) ∧ (∀ i, W3.frozen? ⟨w2.heap.size, i, none⟩ = false) ∧ (∀ i, W3.frozen? ⟨w2.heap.size + 1, i, none⟩ = false)) ⟨by (repeat (first | exact Kp.refl _ _ | apply Kp.alloc | apply Kp.drew | apply Kp.drewN | (refine Kp.setCell ?_ (Or.inr (by dsimp only; omega)) _) | (refine Kp.trans ?_ (by assumption)))), by simp, by simp, by intro i; simp [go_sem], by intro i; simp [go_sem], by intro i; simp [go_sem], by intro i; simp [go_sem]⟩ ?_; rintro W3 ⟨hk, hs0, hs1, c0, c1, f0, f1⟩
  have ht3 := ht2.kp hk
  replace hk : Kp [bt] w2 W3 := hk.of_nil
  have d3 := kpc hk hs2 d2 hne
  have e3 := kpf hk hs2 e2 hne
  have hs3 := Nat.lt_of_lt_of_le hs2 hk.size
  clear d2 e2
  have hnx : w2.heap.size ∉ [bt] := by simp; omega
  have hny : w2.heap.size + 1 ∉ [bt] := by simp; omega
  go_wp2_with fail
  refine (bool_any ht3 (by omega) (by omega)).mono ?_; rintro e w4 ⟨r, rfl, hk4, ht4⟩
  have d4 := kpc hk4 hs3 d3 hne
  have e4 := kpf hk4 hs3 e3 hne
  have hs4 := Nat.lt_of_lt_of_le hs3 hk4.size
  have x4 := kpc hk4 hs0 c0 hnx
  have fx4 := kpf hk4 hs0 f0 hnx
  have y4 := kpc hk4 hs1 c1 hny
  have fy4 := kpf hk4 hs1 f1 hny
  clear d3 e3 c0 c1 f0 f1
  cases r
  all_goals go_upto_region 4 with fail
  · refine nameWorld (W := (w4.setCells w2.heap.size 0 [.string y.key, .bool y.top]).setCells (w2.heap.size + 1) 0 [.string x.key, .bool true]) (fun W5 => Kp [bt] w W5 ∧ Tp W5 bt ∧ (∀ i, W5.cell? ⟨w.heap.size, i, none⟩ = ([.string ⟨#[]⟩, .bool false, .string ⟨#[]⟩, .bool false] : List Value)[i]?) ∧ (∀ i, W5.frozen? ⟨w.heap.size, i, none⟩ = false) ∧ (∀ i, W5.cell? ⟨w2.heap.size, i, none⟩ = ([.string y.key, .bool y.top] : List Value)[i]?) ∧ (∀ i, W5.cell? ⟨w2.heap.size + 1, i, none⟩ = ([.string x.key, .bool true] : List Value)[i]?))
      ⟨kp_set (kp_set (by (repeat (first | exact Kp.refl _ _ | apply Kp.alloc | apply Kp.drew | apply Kp.drewN | (refine Kp.setCell ?_ (Or.inr (by dsimp only; omega)) _) | (refine Kp.trans ?_ (by assumption))))) (Or.inr (by omega))) (Or.inr (by omega)), tp_set (tp_set ht4 (by omega)) (by omega), cells_other _ (cells_other _ d4 (by omega)) (by omega), fun i => ((setCells_frozen _ _ 0 _ _).trans (setCells_frozen _ _ 0 _ _)).trans (e4 i),
        cells_other _ (cells_set x4 rfl) (by omega), cells_set (cells_other _ y4 (by omega)) rfl⟩ ?_
    clear x4 y4 fx4 fy4 d4 e4
    rintro W5 ⟨hk5, ht5, d5, e5, x5, y5⟩
    go_wp2
    (refine nameWorldB (fun WE => Kp [bt] w WE ∧ Tp WE bt ∧ (∀ i, WE.cell? ⟨w.heap.size, i, none⟩ = ([.string y.key, .bool y.top, .string x.key, .bool true] : List Value)[i]?)) ⟨by (repeat (first | exact Kp.refl _ _ | apply Kp.alloc | apply Kp.drew | apply Kp.drewN | (refine Kp.setCell ?_ (Or.inr (by dsimp only; omega)) _) | (refine Kp.trans ?_ (by assumption)))), by (repeat (first | assumption | (refine Tp.setCell ?_ (by dsimp only; omega) _) | apply Tp.alloc | apply Tp.drew)), cells_set (L := [.string ⟨#[]⟩, .bool false, .string ⟨#[]⟩, .bool false]) (vs := [.string y.key, .bool y.top, .string x.key, .bool true]) (by assumption) rfl⟩ ?_; rintro WE ⟨hkE, htE, cE⟩; exact bodyPost_ret (v := .agg #[.string y.key, .bool y.top, .string x.key, .bool true]) (by simp [results, Tryd.results22, go_sem, cE]) rfl ⟨⟨⟨y.key, y.top⟩, ⟨x.key, true⟩⟩, rfl, ⟨hy, hx⟩, hkE, htE⟩)
  · go_wp2
    (refine nameWorldB (fun WE => Kp [bt] w WE ∧ Tp WE bt ∧ (∀ i, WE.cell? ⟨w.heap.size, i, none⟩ = ([.string x.key, .bool false, .string y.key, .bool true] : List Value)[i]?)) ⟨by (repeat (first | exact Kp.refl _ _ | apply Kp.alloc | apply Kp.drew | apply Kp.drewN | (refine Kp.setCell ?_ (Or.inr (by dsimp only; omega)) _) | (refine Kp.trans ?_ (by assumption)))), by (repeat (first | assumption | (refine Tp.setCell ?_ (by dsimp only; omega) _) | apply Tp.alloc | apply Tp.drew)), cells_set (L := [.string ⟨#[]⟩, .bool false, .string ⟨#[]⟩, .bool false]) (vs := [.string x.key, .bool false, .string y.key, .bool true]) (by assumption) rfl⟩ ?_; rintro WE ⟨hkE, htE, cE⟩; exact bodyPost_ret (v := .agg #[.string x.key, .bool false, .string y.key, .bool true]) (by simp [results, Tryd.results22, go_sem, cE]) rfl ⟨⟨⟨x.key, false⟩, ⟨y.key, true⟩⟩, rfl, ⟨hx, hy⟩, hkE, htE⟩)
  · refine nameWorld (W := (w4.setCells w2.heap.size 0 [.string y.key, .bool false]).setCells (w2.heap.size + 1) 0 [.string x.key, .bool false]) (fun W5 => Kp [bt] w W5 ∧ Tp W5 bt ∧ (∀ i, W5.cell? ⟨w.heap.size, i, none⟩ = ([.string ⟨#[]⟩, .bool false, .string ⟨#[]⟩, .bool false] : List Value)[i]?) ∧ (∀ i, W5.frozen? ⟨w.heap.size, i, none⟩ = false) ∧ (∀ i, W5.cell? ⟨w2.heap.size, i, none⟩ = ([.string y.key, .bool false] : List Value)[i]?) ∧ (∀ i, W5.cell? ⟨w2.heap.size + 1, i, none⟩ = ([.string x.key, .bool false] : List Value)[i]?))
      ⟨kp_set (kp_set (by (repeat (first | exact Kp.refl _ _ | apply Kp.alloc | apply Kp.drew | apply Kp.drewN | (refine Kp.setCell ?_ (Or.inr (by dsimp only; omega)) _) | (refine Kp.trans ?_ (by assumption))))) (Or.inr (by omega))) (Or.inr (by omega)), tp_set (tp_set ht4 (by omega)) (by omega), cells_other _ (cells_other _ d4 (by omega)) (by omega), fun i => ((setCells_frozen _ _ 0 _ _).trans (setCells_frozen _ _ 0 _ _)).trans (e4 i),
        cells_other _ (cells_set x4 rfl) (by omega), cells_set (cells_other _ y4 (by omega)) rfl⟩ ?_
    clear x4 y4 fx4 fy4 d4 e4
    rintro W5 ⟨hk5, ht5, d5, e5, x5, y5⟩
    go_wp2
    (refine nameWorldB (fun WE => Kp [bt] w WE ∧ Tp WE bt ∧ (∀ i, WE.cell? ⟨w.heap.size, i, none⟩ = ([.string y.key, .bool false, .string x.key, .bool false] : List Value)[i]?)) ⟨by (repeat (first | exact Kp.refl _ _ | apply Kp.alloc | apply Kp.drew | apply Kp.drewN | (refine Kp.setCell ?_ (Or.inr (by dsimp only; omega)) _) | (refine Kp.trans ?_ (by assumption)))), by (repeat (first | assumption | (refine Tp.setCell ?_ (by dsimp only; omega) _) | apply Tp.alloc | apply Tp.drew)), cells_set (L := [.string ⟨#[]⟩, .bool false, .string ⟨#[]⟩, .bool false]) (vs := [.string y.key, .bool false, .string x.key, .bool false]) (by assumption) rfl⟩ ?_; rintro WE ⟨hkE, htE, cE⟩; exact bodyPost_ret (v := .agg #[.string y.key, .bool false, .string x.key, .bool false]) (by simp [results, Tryd.results22, go_sem, cE]) rfl ⟨⟨⟨y.key, false⟩, ⟨x.key, false⟩⟩, rfl, ⟨hy, hx⟩, hkE, htE⟩)
  · go_wp2
    (refine nameWorldB (fun WE => Kp [bt] w WE ∧ Tp WE bt ∧ (∀ i, WE.cell? ⟨w.heap.size, i, none⟩ = ([.string x.key, .bool false, .string y.key, .bool false] : List Value)[i]?)) ⟨by (repeat (first | exact Kp.refl _ _ | apply Kp.alloc | apply Kp.drew | apply Kp.drewN | (refine Kp.setCell ?_ (Or.inr (by dsimp only; omega)) _) | (refine Kp.trans ?_ (by assumption)))), by (repeat (first | assumption | (refine Tp.setCell ?_ (by dsimp only; omega) _) | apply Tp.alloc | apply Tp.drew)), cells_set (L := [.string ⟨#[]⟩, .bool false, .string ⟨#[]⟩, .bool false]) (vs := [.string x.key, .bool false, .string y.key, .bool false]) (by assumption) rfl⟩ ?_; rintro WE ⟨hkE, htE, cE⟩; exact bodyPost_ret (v := .agg #[.string x.key, .bool false, .string y.key, .bool false]) (by simp [results, Tryd.results22, go_sem, cE]) rfl ⟨⟨⟨x.key, false⟩, ⟨y.key, false⟩⟩, rfl, ⟨hx, hy⟩, hkE, htE⟩)
  · go_wp2
    (refine nameWorldB (fun WE => Kp [bt] w WE ∧ Tp WE bt ∧ (∀ i, WE.cell? ⟨w.heap.size, i, none⟩ = ([.string x.key, .bool x.top, .string y.key, .bool y.top] : List Value)[i]?)) ⟨by (repeat (first | exact Kp.refl _ _ | apply Kp.alloc | apply Kp.drew | apply Kp.drewN | (refine Kp.setCell ?_ (Or.inr (by dsimp only; omega)) _) | (refine Kp.trans ?_ (by assumption)))), by (repeat (first | assumption | (refine Tp.setCell ?_ (by dsimp only; omega) _) | apply Tp.alloc | apply Tp.drew)), cells_set (L := [.string ⟨#[]⟩, .bool false, .string ⟨#[]⟩, .bool false]) (vs := [.string x.key, .bool x.top, .string y.key, .bool y.top]) (by assumption) rfl⟩ ?_; rintro WE ⟨hkE, htE, cE⟩; exact bodyPost_ret (v := .agg #[.string x.key, .bool x.top, .string y.key, .bool y.top]) (by simp [results, Tryd.results22, go_sem, cE]) rfl ⟨⟨⟨x.key, x.top⟩, ⟨y.key, y.top⟩⟩, rfl, ⟨hx, hy⟩, hkE, htE⟩)

theorem new_any {ab ao : Nat} {n c : Nat} {w : World} (hg : 0 < w.heap.size) (hlt : ∀ i, i < 6 → ∃ s : ByteArray, w.cell? ⟨0, i, none⟩ = some (.string s) ∧ s.size ≤ 1)
    (p : Option Addr) (hnc : n ≤ c) (hn : n ≤ 9223372036854775807)
    (hz : 0 < n → p = some ⟨ab, ao, none⟩ ∧ ab < w.heap.size ∧ ∀ i, i < n → ∃ z : Int, -9223372036854775808 ≤ z ∧ z ≤ 9223372036854775807 ∧ w.cell? ⟨ab, ao + i, none⟩ = some (.int .i64 z)) :
    Calls Tryd.prog 13 #[.slice p n c] w fun e w' => ∃ bt : Nat, e = .returned (.pointer (some ⟨bt, 0, none⟩)) ∧ w.heap.size ≤ bt ∧ Kp [] w w' ∧ Tp w' bt := by
  have Hz := Lib.hid hz
  have Hl := Lib.hid hlt
  clear hz hlt
  by_cases h : 600 < n
  · have h' : (600 : Int) < (n : Int) := by omega
    have h3 : (600 : Int) ≤ (c : Int) := by omega
    obtain ⟨rfl, h1, h2⟩ := Hz.out (by omega)
    have H2 := Lib.hid h2
    clear h2
    go_enter Tryd.func13, Tryd.ntmps13
    go_wp2
    go_ret
    refine ⟨w.heap.size, rfl, Nat.le_refl _, (Kp.refl _ _).alloc _, ⟨hg, fun i hi => ?_, _, 600, c, 0, heap_alloc_new w _, Nat.zero_le _, Nat.le_refl _, fun h0 => ?_⟩⟩
    · obtain ⟨s, h1, h2⟩ := Hl.out i hi
      exact ⟨s, by rw [World.cell?_alloc_lt _ _ _ hg]; exact h1, h2⟩
    · refine ⟨ab, ao, rfl, h1, fun i hi => ?_⟩
      obtain ⟨z, z1, z2, z3⟩ := H2.out i (by omega)
      exact ⟨z, z1, z2, by rw [World.cell?_alloc_lt _ _ _ h1]; exact z3⟩
  · have h' : ¬ (600 : Int) < (n : Int) := by omega
    go_enter Tryd.func13, Tryd.ntmps13
    go_wp2
    go_ret
    refine ⟨w.heap.size, rfl, Nat.le_refl _, (Kp.refl _ _).alloc _, ⟨hg, fun i hi => ?_, p, n, c, 0, heap_alloc_new w _, Nat.zero_le _, by omega, fun h0 => ?_⟩⟩
    · obtain ⟨s, h1, h2⟩ := Hl.out i hi
      exact ⟨s, by rw [World.cell?_alloc_lt _ _ _ hg]; exact h1, h2⟩
    · obtain ⟨rfl, h1, h2⟩ := Hz.out h0
      refine ⟨ab, ao, rfl, h1, fun i hi => ?_⟩
      obtain ⟨z, z1, z2, z3⟩ := h2 i hi
      exact ⟨z, z1, z2, by rw [World.cell?_alloc_lt _ _ _ h1]; exact z3⟩

/-- What a law's first argument, the numbers of the tape, is in memory; and that the letters stand. -/
structure Src (w : World) (p : Option Addr) (n c : Nat) : Prop where
  gz : 0 < w.heap.size
  lt : ∀ i, i < 6 → ∃ s : ByteArray, w.cell? ⟨0, i, none⟩ = some (.string s) ∧ s.size ≤ 1
  nc : n ≤ c
  small : n ≤ 9223372036854775807
  cells : 0 < n → ∃ ab ao : Nat, p = some ⟨ab, ao, none⟩ ∧ ab < w.heap.size ∧ ∀ i, i < n → ∃ z : Int, -9223372036854775808 ≤ z ∧ z ≤ 9223372036854775807 ∧ w.cell? ⟨ab, ao + i, none⟩ = some (.int .i64 z)
theorem Src.kp {w w' : World} {p : Option Addr} {n c : Nat} (h : Src w p n c) (hk : Kp [] w w') : Src w' p n c :=
  ⟨Nat.lt_of_lt_of_le h.gz hk.size, fun i hi => by obtain ⟨s, h1, h2⟩ := h.lt i hi; exact ⟨s, by rw [hk.cell (p := ⟨_, i, none⟩) h.gz (by simp)]; exact h1, h2⟩, h.nc, h.small, fun hn => by
    obtain ⟨ab, ao, e, h1, h2⟩ := h.cells hn
    exact ⟨ab, ao, e, Nat.lt_of_lt_of_le h1 hk.size, fun i hi => by obtain ⟨z, z1, z2, z3⟩ := h2 i hi; exact ⟨z, z1, z2, by rw [hk.cell (p := ⟨ab, ao + i, none⟩) h1 (by simp)]; exact z3⟩⟩⟩
theorem new_src {p : Option Addr} {n c : Nat} {w : World} (h : Src w p n c) :
    Calls Tryd.prog 13 #[.slice p n c] w fun e w' => ∃ bt : Nat, e = .returned (.pointer (some ⟨bt, 0, none⟩)) ∧ w.heap.size ≤ bt ∧ Kp [] w w' ∧ Tp w' bt := by
  by_cases hn : 0 < n
  · obtain ⟨ab, ao, rfl, h1, h2⟩ := h.cells hn
    exact new_any h.gz h.lt _ h.nc h.small fun _ => ⟨rfl, h1, h2⟩
  · exact new_any (ab := 0) (ao := 0) h.gz h.lt _ h.nc h.small fun h0 => absurd h0 hn

end Go.Proofs.YtddjhemncniidaaDoor
