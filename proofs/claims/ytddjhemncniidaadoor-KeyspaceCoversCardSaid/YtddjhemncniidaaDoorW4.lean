/-
  Walks: Tiles.
-/
import Derived.Test.YtddjhemncniidaaDoorW3
import Derived.Test.YtddjhemncniidaaDoorM2
namespace Go.Proofs.YtddjhemncniidaaDoor
set_option linter.unusedSimpArgs false
set_option linter.unusedVariables false
open Go.RowKit

set_option maxHeartbeats 2000000 in
theorem tiles_p {p : Option Addr} {n c : Nat} {l : List Rng} {a b : ByteArray} {s t : Bool} {w : World} (hl : RS w (.slice p n c) l) :
    Calls Tryd.prog 25 #[.slice p n c, .agg #[.string a, .bool s, .string b, .bool t]] w fun e w' => e = .returned (.tuple #[.int .i64 (tiles l ⟨⟨a, s⟩, ⟨b, t⟩⟩).1, .int .i64 (tiles l ⟨⟨a, s⟩, ⟨b, t⟩⟩).2]) ∧ Kp [] w w' := by
  have hn : n = l.length ∧ l.length ≤ 1000000 := by obtain ⟨p', c', e, h1, h2, h3⟩ := hl.ex; simp only [Value.slice.injEq] at e; exact ⟨e.2.1, h2⟩
  obtain ⟨hn, hnb⟩ := hn
  have Hn := Lib.hid hn
  have hnb' : n ≤ 1000000 := by omega
  clear hn
  cases hv : vld ⟨⟨a, s⟩, ⟨b, t⟩⟩
  · have hf : tiles l ⟨⟨a, s⟩, ⟨b, t⟩⟩ = (0, 1) := by simp [tiles, hv]
    rw [hf]
    go_enter Tryd.func25, Tryd.ntmps25
    go_upto_region 1 with fail
    refine nameWorld (fun W0 => Kp [] w W0 ∧ w.heap.size < W0.heap.size ∧ (∀ i, W0.cell? ⟨w.heap.size, i, none⟩ = ([.string a, .bool s, .string b, .bool t] : List Value)[i]?) ∧ (∀ i, W0.frozen? ⟨w.heap.size, i, none⟩ = false)) ⟨by (repeat (first | exact Kp.refl _ _ | apply Kp.alloc | apply Kp.drew | apply Kp.drewN | (refine Kp.setCell ?_ (Or.inr (by dsimp only; omega)) _) | (refine Kp.trans ?_ (by assumption)))), by simp, by intro i; simp [go_sem], by intro i; simp [go_sem]⟩ ?_; rintro W0 ⟨hk, hs0, c0, f0⟩
    go_wp2_with (first | (go_at_call 45; refine (valid_p).mono ?_; rintro e w' ⟨rfl, hb⟩; have hb2 := Kp.trans (a := W0) (by (repeat (first | exact Kp.refl _ _ | apply Kp.alloc | apply Kp.drew | apply Kp.drewN | (refine Kp.setCell ?_ (Or.inr (by dsimp only; omega)) _) | (refine Kp.trans ?_ (by assumption))))) hb; have hsz := hb2.size; have hc := kpc hb2 hs0 c0; have hf := kpf hb2 hs0 f0; have hs := Nat.lt_of_lt_of_le hs0 hb2.size))
    go_ret2
    exact ⟨rfl, by (repeat (first | exact Kp.refl _ _ | apply Kp.alloc | apply Kp.drew | apply Kp.drewN | (refine Kp.setCell ?_ (Or.inr (by dsimp only; omega)) _) | (refine Kp.trans ?_ (by assumption))))⟩
  · have hf : tiles l ⟨⟨a, s⟩, ⟨b, t⟩⟩ = tgo ⟨b, t⟩ ⟨a, s⟩ 0 l := by simp [tiles, hv]
    rw [hf]
    go_enter Tryd.func25, Tryd.ntmps25
    go_upto_region 1 with fail
    refine nameWorld (fun W0 => Kp [] w W0 ∧ w.heap.size < W0.heap.size ∧ (∀ i, W0.cell? ⟨w.heap.size, i, none⟩ = ([.string a, .bool s, .string b, .bool t] : List Value)[i]?) ∧ (∀ i, W0.frozen? ⟨w.heap.size, i, none⟩ = false)) ⟨by (repeat (first | exact Kp.refl _ _ | apply Kp.alloc | apply Kp.drew | apply Kp.drewN | (refine Kp.setCell ?_ (Or.inr (by dsimp only; omega)) _) | (refine Kp.trans ?_ (by assumption)))), by simp, by intro i; simp [go_sem], by intro i; simp [go_sem]⟩ ?_; rintro W0 ⟨hk, hs0, c0, f0⟩
    go_wp2_with fail
    refine valid_p.mono ?_; rintro e w1 ⟨rfl, hk1⟩
    have d0 := kpc hk1 hs0 c0
    have e0 := kpf hk1 hs0 f0
    have hs1 := Nat.lt_of_lt_of_le hs0 hk1.size
    have hl1 := hl.kp0 (hk.trans hk1)
    rw [hv]
    clear c0 f0 hf hv
    go_wp2_with fail
    go_loopw [16] (fun i wr => ∃ k : Nat, ∃ x : Bnd, i = .int .i64 k ∧ k ≤ n ∧ Kp [] w1 wr ∧ (∀ i, wr.cell? ⟨w1.heap.size, i, none⟩ = ([.string x.key, .bool x.top] : List Value)[i]?) ∧ (∀ i, wr.frozen? ⟨w1.heap.size, i, none⟩ = false) ∧ w1.heap.size < wr.heap.size ∧ Hid (tgo ⟨b, t⟩ x k (l.drop k) = tgo ⟨b, t⟩ ⟨a, s⟩ 0 l))
      (fun i _ => n - (intOf i).toNat)
    case atStart => exact ⟨0, ⟨a, s⟩, rfl, Nat.zero_le _, (Kp.refl _ _).alloc _, by intro i; simp [go_sem], by intro i; simp [go_sem], by simp, rfl⟩
    case round =>
      obtain ⟨k, ⟨xk, xt⟩, rfl, hkn, hkr, cx, fx, hsx, hT⟩ := hrel
      simp only at cx
      have dr := kpc hkr hs1 d0
      have hsr := Nat.lt_of_lt_of_le hs1 hkr.size
      by_cases hlt : k < n
      · have hlt' : (k : Int) < (n : Int) := by omega
        have hk0 : (0 : Int) ≤ (k : Int) := by omega
        have hkl : k < l.length := by rw [← Hn.out]; exact hlt
        obtain ⟨⟨⟨rk, rt⟩, ⟨sk, st⟩⟩, hr⟩ : ∃ r, l[k]? = some r := ⟨l[k], List.getElem?_eq_getElem hkl⟩
        have hlr := hl1.kp0 hkr
        obtain ⟨lb, lo, rfl, hlb, q0, q1, q2, q3⟩ := hlr.at hr
        simp only at q0 q1 q2 q3
        have Hr := Lib.hid hr
        clear hr
        go_upto_region 7 with fail
        refine nameWorld (fun W3 => Kp [] wr W3 ∧ wr.heap.size < W3.heap.size ∧ (∀ i, W3.cell? ⟨wr.heap.size, i, none⟩ = ([.string rk, .bool rt, .string sk, .bool st] : List Value)[i]?) ∧ (∀ i, W3.frozen? ⟨wr.heap.size, i, none⟩ = false)) ⟨by (repeat (first | exact Kp.refl _ _ | apply Kp.alloc | apply Kp.drew | apply Kp.drewN | (refine Kp.setCell ?_ (Or.inr (by dsimp only; omega)) _) | (refine Kp.trans ?_ (by assumption)))), by simp, by intro i; simp [go_sem], by intro i; simp [go_sem]⟩ ?_; rintro W3 ⟨hk, hs0, c0, f0⟩
        have cA := kpc hk hsx cx
        have fA := kpf hk hsx fx
        have hsA := Nat.lt_of_lt_of_le hsx hk.size
        have cR := kpc hk hsr dr
        have fR := kpf hk hsr (kpf hkr hs1 e0)
        have hsR := Nat.lt_of_lt_of_le hsr hk.size
        have hk3 : Kp [] w1 W3 := hkr.trans hk
        clear cx fx dr q0 q1 q2 q3 hlr hlb hsx
        have hstep : tgo ⟨b, t⟩ ⟨xk, xt⟩ k (l.drop k) = if emp ⟨⟨rk, rt⟩, ⟨sk, st⟩⟩ then ((k : Int), 1) else if cmp ⟨rk, rt⟩ ⟨xk, xt⟩ > 0 then ((k : Int), 9) else if cmp ⟨rk, rt⟩ ⟨xk, xt⟩ < 0 then ((k : Int), 10) else if cmp ⟨sk, st⟩ ⟨b, t⟩ > 0 then ((k : Int), 2) else tgo ⟨b, t⟩ ⟨sk, st⟩ (k + 1) (l.drop (k + 1)) := by
          have := List.getElem?_eq_some_iff.1 Hr.out
          obtain ⟨h1, h2⟩ := this
          rw [List.drop_eq_getElem_cons h1, h2]; rfl
        rw [hT.out] at hstep
        have Hs := Lib.hid hstep
        clear hstep hT
        cases h1 : emp ⟨⟨rk, rt⟩, ⟨sk, st⟩⟩
        · by_cases h2 : 0 < cmp ⟨rk, rt⟩ ⟨xk, xt⟩
          · have hf : tgo ⟨b, t⟩ ⟨a, s⟩ 0 l = ((k : Int), 9) := by rw [Hs.out, h1, if_neg (by simp), if_pos h2]
            have Hf := Lib.hid hf; clear hf Hs
            go_wp2_with (first | (go_at_call 42; refine (empty_p).mono ?_; rintro e w' ⟨rfl, hb⟩; have hb2 := Kp.trans (a := W3) (by (repeat (first | exact Kp.refl _ _ | apply Kp.alloc | apply Kp.drew | apply Kp.drewN | (refine Kp.setCell ?_ (Or.inr (by dsimp only; omega)) _) | (refine Kp.trans ?_ (by assumption))))) hb; have hsz := hb2.size; have hc := kpc hb2 hs0 c0; have hf := kpf hb2 hs0 f0; have hs := Nat.lt_of_lt_of_le hs0 hb2.size; have hc := kpc hb2 hsA cA; have hf := kpf hb2 hsA fA; have hs := Nat.lt_of_lt_of_le hsA hb2.size; have hc := kpc hb2 hsR cR; have hf := kpf hb2 hsR fR; have hs := Nat.lt_of_lt_of_le hsR hb2.size) | (go_at_call 15; refine (compare_p).mono ?_; rintro e w' ⟨rfl, hb⟩; have hb2 := Kp.trans (a := W3) (by (repeat (first | exact Kp.refl _ _ | apply Kp.alloc | apply Kp.drew | apply Kp.drewN | (refine Kp.setCell ?_ (Or.inr (by dsimp only; omega)) _) | (refine Kp.trans ?_ (by assumption))))) hb; have hsz := hb2.size; have hc := kpc hb2 hs0 c0; have hf := kpf hb2 hs0 f0; have hs := Nat.lt_of_lt_of_le hs0 hb2.size; have hc := kpc hb2 hsA cA; have hf := kpf hb2 hsA fA; have hs := Nat.lt_of_lt_of_le hsA hb2.size; have hc := kpc hb2 hsR cR; have hf := kpf hb2 hsR fR; have hs := Nat.lt_of_lt_of_le hsR hb2.size))
            go_ret2
            exact ⟨by rw [Hf.out]; rfl, by (repeat (first | exact Kp.refl _ _ | apply Kp.alloc | apply Kp.drew | apply Kp.drewN | (refine Kp.setCell ?_ (Or.inr (by dsimp only; omega)) _) | (refine Kp.trans ?_ (by assumption))))⟩
          · by_cases h3 : cmp ⟨rk, rt⟩ ⟨xk, xt⟩ < 0
            · have hf : tgo ⟨b, t⟩ ⟨a, s⟩ 0 l = ((k : Int), 10) := by rw [Hs.out, h1, if_neg (by simp), if_neg h2, if_pos h3]
              have Hf := Lib.hid hf; clear hf Hs
              go_wp2_with (first | (go_at_call 42; refine (empty_p).mono ?_; rintro e w' ⟨rfl, hb⟩; have hb2 := Kp.trans (a := W3) (by (repeat (first | exact Kp.refl _ _ | apply Kp.alloc | apply Kp.drew | apply Kp.drewN | (refine Kp.setCell ?_ (Or.inr (by dsimp only; omega)) _) | (refine Kp.trans ?_ (by assumption))))) hb; have hsz := hb2.size; have hc := kpc hb2 hs0 c0; have hf := kpf hb2 hs0 f0; have hs := Nat.lt_of_lt_of_le hs0 hb2.size; have hc := kpc hb2 hsA cA; have hf := kpf hb2 hsA fA; have hs := Nat.lt_of_lt_of_le hsA hb2.size; have hc := kpc hb2 hsR cR; have hf := kpf hb2 hsR fR; have hs := Nat.lt_of_lt_of_le hsR hb2.size) | (go_at_call 15; refine (compare_p).mono ?_; rintro e w' ⟨rfl, hb⟩; have hb2 := Kp.trans (a := W3) (by (repeat (first | exact Kp.refl _ _ | apply Kp.alloc | apply Kp.drew | apply Kp.drewN | (refine Kp.setCell ?_ (Or.inr (by dsimp only; omega)) _) | (refine Kp.trans ?_ (by assumption))))) hb; have hsz := hb2.size; have hc := kpc hb2 hs0 c0; have hf := kpf hb2 hs0 f0; have hs := Nat.lt_of_lt_of_le hs0 hb2.size; have hc := kpc hb2 hsA cA; have hf := kpf hb2 hsA fA; have hs := Nat.lt_of_lt_of_le hsA hb2.size; have hc := kpc hb2 hsR cR; have hf := kpf hb2 hsR fR; have hs := Nat.lt_of_lt_of_le hsR hb2.size))
              go_ret2
              exact ⟨by rw [Hf.out]; rfl, by (repeat (first | exact Kp.refl _ _ | apply Kp.alloc | apply Kp.drew | apply Kp.drewN | (refine Kp.setCell ?_ (Or.inr (by dsimp only; omega)) _) | (refine Kp.trans ?_ (by assumption))))⟩
            · by_cases h4 : 0 < cmp ⟨sk, st⟩ ⟨b, t⟩
              · have hf : tgo ⟨b, t⟩ ⟨a, s⟩ 0 l = ((k : Int), 2) := by rw [Hs.out, h1, if_neg (by simp), if_neg h2, if_neg h3, if_pos h4]
                have Hf := Lib.hid hf; clear hf Hs
                go_wp2_with (first | (go_at_call 42; refine (empty_p).mono ?_; rintro e w' ⟨rfl, hb⟩; have hb2 := Kp.trans (a := W3) (by (repeat (first | exact Kp.refl _ _ | apply Kp.alloc | apply Kp.drew | apply Kp.drewN | (refine Kp.setCell ?_ (Or.inr (by dsimp only; omega)) _) | (refine Kp.trans ?_ (by assumption))))) hb; have hsz := hb2.size; have hc := kpc hb2 hs0 c0; have hf := kpf hb2 hs0 f0; have hs := Nat.lt_of_lt_of_le hs0 hb2.size; have hc := kpc hb2 hsA cA; have hf := kpf hb2 hsA fA; have hs := Nat.lt_of_lt_of_le hsA hb2.size; have hc := kpc hb2 hsR cR; have hf := kpf hb2 hsR fR; have hs := Nat.lt_of_lt_of_le hsR hb2.size) | (go_at_call 15; refine (compare_p).mono ?_; rintro e w' ⟨rfl, hb⟩; have hb2 := Kp.trans (a := W3) (by (repeat (first | exact Kp.refl _ _ | apply Kp.alloc | apply Kp.drew | apply Kp.drewN | (refine Kp.setCell ?_ (Or.inr (by dsimp only; omega)) _) | (refine Kp.trans ?_ (by assumption))))) hb; have hsz := hb2.size; have hc := kpc hb2 hs0 c0; have hf := kpf hb2 hs0 f0; have hs := Nat.lt_of_lt_of_le hs0 hb2.size; have hc := kpc hb2 hsA cA; have hf := kpf hb2 hsA fA; have hs := Nat.lt_of_lt_of_le hsA hb2.size; have hc := kpc hb2 hsR cR; have hf := kpf hb2 hsR fR; have hs := Nat.lt_of_lt_of_le hsR hb2.size))
                go_ret2
                exact ⟨by rw [Hf.out]; rfl, by (repeat (first | exact Kp.refl _ _ | apply Kp.alloc | apply Kp.drew | apply Kp.drewN | (refine Kp.setCell ?_ (Or.inr (by dsimp only; omega)) _) | (refine Kp.trans ?_ (by assumption))))⟩
              · have hf : tgo ⟨b, t⟩ ⟨sk, st⟩ (k + 1) (l.drop (k + 1)) = tgo ⟨b, t⟩ ⟨a, s⟩ 0 l := by rw [Hs.out, h1, if_neg (by simp), if_neg h2, if_neg h3, if_neg h4]
                have Hf := Lib.hid hf
                clear hf Hs
                go_wp2_with (first | (go_at_call 42; refine (empty_p).mono ?_; rintro e w' ⟨rfl, hb⟩; have hb2 := Kp.trans (a := W3) (by (repeat (first | exact Kp.refl _ _ | apply Kp.alloc | apply Kp.drew | apply Kp.drewN | (refine Kp.setCell ?_ (Or.inr (by dsimp only; omega)) _) | (refine Kp.trans ?_ (by assumption))))) hb; have hsz := hb2.size; have hc := kpc hb2 hs0 c0; have hf := kpf hb2 hs0 f0; have hs := Nat.lt_of_lt_of_le hs0 hb2.size; have hc := kpc hb2 hsA cA; have hf := kpf hb2 hsA fA; have hs := Nat.lt_of_lt_of_le hsA hb2.size; have hc := kpc hb2 hsR cR; have hf := kpf hb2 hsR fR; have hs := Nat.lt_of_lt_of_le hsR hb2.size) | (go_at_call 15; refine (compare_p).mono ?_; rintro e w' ⟨rfl, hb⟩; have hb2 := Kp.trans (a := W3) (by (repeat (first | exact Kp.refl _ _ | apply Kp.alloc | apply Kp.drew | apply Kp.drewN | (refine Kp.setCell ?_ (Or.inr (by dsimp only; omega)) _) | (refine Kp.trans ?_ (by assumption))))) hb; have hsz := hb2.size; have hc := kpc hb2 hs0 c0; have hf := kpf hb2 hs0 f0; have hs := Nat.lt_of_lt_of_le hs0 hb2.size; have hc := kpc hb2 hsA cA; have hf := kpf hb2 hsA fA; have hs := Nat.lt_of_lt_of_le hsA hb2.size; have hc := kpc hb2 hsR cR; have hf := kpf hb2 hsR fR; have hs := Nat.lt_of_lt_of_le hsR hb2.size))
                go_roundw
                case rel => exact ⟨k + 1, ⟨sk, st⟩, by go_num, by omega, by (repeat (first | exact Kp.refl _ _ | apply Kp.alloc | apply Kp.drew | apply Kp.drewN | (refine Kp.setCell ?_ (Or.inr (by dsimp only; omega)) _) | (refine Kp.trans ?_ (by assumption)))), cells_set (L := [.string xk, .bool xt]) (vs := [.string sk, .bool st]) (by assumption) rfl, frz [.string sk, .bool st] (by assumption), by simp; omega, Hf⟩
                case measure => simp [intOf]; omega
        · have hf : tgo ⟨b, t⟩ ⟨a, s⟩ 0 l = ((k : Int), 1) := by rw [Hs.out, h1, if_pos rfl]
          have Hf := Lib.hid hf; clear hf Hs
          go_wp2_with (first | (go_at_call 42; refine (empty_p).mono ?_; rintro e w' ⟨rfl, hb⟩; have hb2 := Kp.trans (a := W3) (by (repeat (first | exact Kp.refl _ _ | apply Kp.alloc | apply Kp.drew | apply Kp.drewN | (refine Kp.setCell ?_ (Or.inr (by dsimp only; omega)) _) | (refine Kp.trans ?_ (by assumption))))) hb; have hsz := hb2.size; have hc := kpc hb2 hs0 c0; have hf := kpf hb2 hs0 f0; have hs := Nat.lt_of_lt_of_le hs0 hb2.size; have hc := kpc hb2 hsA cA; have hf := kpf hb2 hsA fA; have hs := Nat.lt_of_lt_of_le hsA hb2.size; have hc := kpc hb2 hsR cR; have hf := kpf hb2 hsR fR; have hs := Nat.lt_of_lt_of_le hsR hb2.size))
          go_ret2
          exact ⟨by rw [Hf.out]; rfl, by (repeat (first | exact Kp.refl _ _ | apply Kp.alloc | apply Kp.drew | apply Kp.drewN | (refine Kp.setCell ?_ (Or.inr (by dsimp only; omega)) _) | (refine Kp.trans ?_ (by assumption))))⟩
      · obtain rfl : k = n := by omega
        have hd : l.drop k = [] := List.drop_eq_nil_of_le (by rw [← Hn.out]; exact Nat.le_refl _)
        have hf : tgo ⟨b, t⟩ ⟨a, s⟩ 0 l = if cmp ⟨xk, xt⟩ ⟨b, t⟩ < 0 then ((k : Int), 9) else ((k : Int), 0) := by rw [← hT.out, hd]; rfl
        by_cases h1 : cmp ⟨xk, xt⟩ ⟨b, t⟩ < 0
        · rw [if_pos h1] at hf
          have Hf := Lib.hid hf; clear hf hT hd
          go_wp2_with (first | (go_at_call 15; refine (compare_p).mono ?_; rintro e w' ⟨rfl, hb⟩; obtain ⟨hc, hf, hz⟩ := kcell hb))
          go_ret2
          exact ⟨by rw [Hf.out]; rfl, by (repeat (first | exact Kp.refl _ _ | apply Kp.alloc | apply Kp.drew | apply Kp.drewN | (refine Kp.setCell ?_ (Or.inr (by dsimp only; omega)) _) | (refine Kp.trans ?_ (by assumption))))⟩
        · rw [if_neg h1] at hf
          have Hf := Lib.hid hf; clear hf hT hd
          go_wp2_with (first | (go_at_call 15; refine (compare_p).mono ?_; rintro e w' ⟨rfl, hb⟩; obtain ⟨hc, hf, hz⟩ := kcell hb))
          go_ret2
          exact ⟨by rw [Hf.out]; rfl, by (repeat (first | exact Kp.refl _ _ | apply Kp.alloc | apply Kp.drew | apply Kp.drewN | (refine Kp.setCell ?_ (Or.inr (by dsimp only; omega)) _) | (refine Kp.trans ?_ (by assumption))))⟩
end Go.Proofs.YtddjhemncniidaaDoor
