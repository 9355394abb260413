/-
  Lemmas: The law ReceiptMakes holds of its model.
-/
import Derived.Test.YtlbnhhfaedhgfaaGreatDoorPR32
import Derived.Test.YtlbnhhfaedhgfaaGreatDoorPR35
namespace Go.Proofs.YtlbnhhfaedhgfaaGreatDoor
set_option linter.unusedSimpArgs false
set_option linter.unusedVariables false
open Go.RowKit
def smallW (w : TWalk) : Prop := okC w.Visits ∧ w.Visits.length ≤ 20
theorem makes_l1 (a : List TWalk) (ha : a.length ≤ 1000) : ∀ (k fuel m : Nat), m + k = a.length → k < fuel → (∀ w ∈ a.take m, smallW w) → Tot (Mlaw29_ReceiptMakes_l1 a fuel (m : Int)) (CtlP (fun b => b = true) fun _ => ∀ w ∈ a, smallW w)
  | _, 0, _, _, h, _ => absurd h (by omega)
  | 0, fuel + 1, m, h1, _, h => by
    rw [Mlaw29_ReceiptMakes_l1.eq_2, decide_eq_false (by omega), sel_false, obnd_some, ocbnd_ret]
    refine tot_some ?_
    rw [List.take_of_length_le (by omega)] at h
    exact h
  | k + 1, fuel + 1, m, h1, h2, h => by
    have hm : m < a.length := by omega
    rw [Mlaw29_ReceiptMakes_l1.eq_2, decide_eq_true (by omega), sel_true, obnd_some, ocbnd_nxt, lget_nat, List.getElem?_eq_getElem hm, obnd_some, rawake_ok]
    have aw : Tot (obnd (some true) fun y18 => some (Ctl.ret y18 : Ctl Bool Unit)) (CtlP (fun b => b = true) fun _ => ∀ w ∈ a, smallW w) := tot_some rfl
    refine tot_bnd (tot_sel (fun _ => aw) fun h3 => tot_sel (fun _ => aw) fun _ => tot_sel (fun _ => aw) fun _ => ?_)
    rw [i64w_id (by omega) (by omega), show (m : Int) + 1 = ((m + 1 : Nat) : Int) by omega]
    refine makes_l1 a ha k fuel (m + 1) (by omega) (by omega) fun w hw => ?_
    rw [List.take_succ_eq_append_getElem hm] at hw
    rcases List.mem_append.1 hw with hw | hw
    · exact h w hw
    · rw [List.mem_singleton.1 hw]
      exact small_ok (by simpa using h3)
theorem visA_small : ∀ {l : List TWalk}, (∀ w ∈ l, smallW w) → (visA l).length ≤ l.length * 20 ∧ ∀ v ∈ visA l, v.View.Rows.length ≤ 10000
  | [], _ => by simp [visA]
  | w :: l, h => by
    obtain ⟨i1, i2⟩ := visA_small (l := l) fun x hx => h x (List.mem_cons_of_mem _ hx)
    have hw := h w List.mem_cons_self
    have hw2 := hw.2
    unfold visA at i1 i2 ⊢
    rw [List.flatMap_cons, List.length_append, List.length_cons, Nat.succ_mul]
    refine ⟨by omega, fun v hv => ?_⟩
    rcases List.mem_append.1 hv with hv | hv
    · exact hw.1.rows v hv
    · exact i2 v hv
theorem receiptMakes_ok (l : List Int) (a b : List TWalk) : Mlaw29_ReceiptMakes l a b = some true := by
  have key : Tot (Mlaw29_ReceiptMakes l a b) fun b => b = true := by
    unfold Mlaw29_ReceiptMakes
    rw [rawake_ok]
    refine tot_obnd (R := fun c => c = false → a.length ≤ 10 ∧ b.length ≤ 10) (tot_sel (fun _ => tot_some (by simp)) fun h1 => tot_some fun h2 => ?_) fun c hc => tot_sel (fun _ => tot_obnd (tot_some (Q := fun b => b = true) rfl) fun b h => tot_some h) fun hcf => ?_
    · have := of_decide_eq_false h1
      have := of_decide_eq_false h2
      omega
    · obtain ⟨ha, hb⟩ := hc hcf
      refine tot_obnd (tot_new l) fun τ hτ => tot_obnd (tot_query hτ) fun y7 h7 => tot_net2 h7.1 (by omega) (by omega) fun y8 t vs k1 k2 k3 k4 k5 => ?_
      obtain ⟨w1, e1, r1, -, n1⟩ := run_ok h7.2 k3 k5 (by omega)
      have g7 := h7.2.2.1
      rw [e1, obnd_some]
      refine tot_obnd (tot_query k1) fun y11 h11 => ?_
      obtain ⟨w2, e2, r2, -, n2⟩ := run_ok h11.2 k3 k5 (by omega)
      rw [e2, obnd_some, app_le (by simp; omega), obnd_some, List.nil_append, app_le (by omega), obnd_some]
      have := makes_l1 (a ++ b) (by simp; omega) (a ++ b).length FU 0 (by omega) (by unfold FU; simp; omega) (by simp)
      rw [show ((0 : Nat) : Int) = 0 from rfl] at this
      refine tot_join this fun _ hsm => ?_
      obtain ⟨a1, a2⟩ := visA_small (l := a) fun w hw => hsm w (List.mem_append_left _ hw)
      obtain ⟨b1, b2⟩ := visA_small (l := b) fun w hw => hsm w (List.mem_append_right _ hw)
      obtain ⟨m1, m2⟩ := make_eq y7.1 a b (by omega) (by omega) (by omega) a2 b2
      have ev : visA [w1, w2] = w1.Visits ++ w2.Visits := by simp [visA]
      obtain ⟨m3, m4⟩ := make_eq y7.1 [w1, w2] a (by omega) (by rw [ev, List.length_append]; omega) (by omega) (by
        rw [ev]
        intro v hv
        rcases List.mem_append.1 hv with hv | hv
        · exact r1.ok.rows v hv
        · exact r2.ok.rows v hv) a2
      rw [m1, m2, m3, m4]
      simp only [obnd_some, sameReceipt_refl, sel_true]
      exact tot_some rfl
  obtain ⟨b, e, h⟩ := key
  rw [e, h]
end Go.Proofs.YtlbnhhfaedhgfaaGreatDoor
