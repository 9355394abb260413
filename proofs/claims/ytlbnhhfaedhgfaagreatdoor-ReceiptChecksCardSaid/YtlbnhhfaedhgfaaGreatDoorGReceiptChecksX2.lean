/-
  Lemmas: The law ReceiptChecks holds of its model.
-/
import Derived.Test.YtlbnhhfaedhgfaaGreatDoorPB27
import Derived.Test.YtlbnhhfaedhgfaaGreatDoorPB31
import Derived.Test.YtlbnhhfaedhgfaaGreatDoorPB29
import Derived.Test.YtlbnhhfaedhgfaaGreatDoorPB30
import Derived.Test.YtlbnhhfaedhgfaaGreatDoorPB26
import Derived.Test.YtlbnhhfaedhgfaaGreatDoorGReceiptChecksX1
set_option linter.unusedSimpArgs false
set_option linter.unusedVariables false
namespace Go.Proofs.YtlbnhhfaedhgfaaGreatDoor
open Go.RowKit
theorem Cc.ok {n m : Nat} {l : List TVisit} (h : Cc n m l) (hn : n ≤ 1000) (hm : m ≤ 10000) : okC l := ⟨by have := h.1; omega, fun v hv => by have := h.2 v hv; omega⟩
theorem checks_l1 (y : TReceipt × List Kv × TTape) (hq : y.1.Query.Ranges.length ≤ 1000) : ∀ (fuel : Nat) (x : List Int) (a : Int) (l1 l2 : List TVisit) (i : Nat), okT ⟨x, a⟩ → Cc (100 + i) (8 + i) l1 → Cc (100 + i) (8 + i) l2 → i ≤ 4 → 4 - i < fuel → Tot (Mlaw29_ReceiptChecks_l1 y fuel x a l1 l2 (i : Int)) (CtlP (fun b => b = true) fun z => okT ⟨z.1, z.2⟩)
  | 0, _, _, _, _, _, _, _, _, _, h => absurd h (by omega)
  | fuel + 1, x, a, l1, l2, i, h, h1, h2, hi, hf => by
    rw [Mlaw29_ReceiptChecks_l1.eq_2]
    refine tot_join (R := fun _ => i < 4) (tot_sel (fun h3 => tot_some (by have := of_decide_eq_true h3; show i < 4; omega)) fun _ => tot_some h) fun _ hi4 => ?_
    refine tot_obnd (tot_bool h (by omega)) fun y10 h10 => ?_
    refine tot_obnd (R := fun z => okT ⟨z.1, z.2.1⟩ ∧ Cc (100 + (i + 1)) (8 + (i + 1)) z.2.2.1 ∧ Cc (100 + (i + 1)) (8 + (i + 1)) z.2.2.2) (tot_sel (fun _ => tot_obnd (tot_spoil h10 h1 (by omega) (by omega)) fun z hz => tot_some ⟨hz.1, hz.2, h2.up⟩) fun _ => tot_obnd (tot_spoil h10 h2 (by omega) (by omega)) fun z hz => tot_some ⟨hz.1, h1.up, hz.2⟩) ?_
    rintro ⟨x13, x14, s15, s16⟩ ⟨g1, g2, g3⟩
    simp only at g1 g2 g3 ⊢
    have k1 := g2.ok (by omega) (by omega)
    have k2 := g3.ok (by omega) (by omega)
    rw [ragree_ok ⟨y.1.Query, s15, s16⟩ (by simp only; omega) k1 k2, obnd_some, Bool.not_true, sel_false, ragree_ok ⟨y.1.Query, s15, s15⟩ (by simp only; omega) k1 k1, obnd_some, Bool.not_true, sel_false, i64w_id (by omega) (by omega), show (i : Int) + 1 = ((i + 1 : Nat) : Int) by omega]
    exact checks_l1 y hq fuel _ _ _ _ (i + 1) g1 g2 g3 (by omega) (by omega)
theorem visits_8 {t : List Kv} {q : TQuery} {w : TWalk} (h : Run t q w) (ht : t.length ≤ 8) (hw : w.Visits.length ≤ 100) : Cc (100 + 0) (8 + 0) w.Visits := ⟨by omega, fun v hv => by
  rw [h.ri v hv]
  have := List.length_filter_le (fun x : Kv => contains v.Part x.key) t
  omega⟩
theorem receiptChecks_ok (l : List Int) : Mlaw29_ReceiptChecks l = some true := by
  have key : Tot (Mlaw29_ReceiptChecks l) fun b => b = true := by
    unfold Mlaw29_ReceiptChecks
    rw [rawake_ok]
    refine tot_obnd (tot_new l) fun τ hτ => tot_obnd (tot_good hτ) fun y3 h3 => ?_
    obtain ⟨k0, q, w, k1, k2, k3, k4, k5, k6, k7⟩ := h3
    have g4 := k1.2.1
    have hv := visits_8 k4 k3 k6
    have e1 : y3.1.Query = q := by rw [k7]
    have e2 : y3.1.First = w.Visits := by rw [k7]
    have e3 : y3.1.Second = w.Visits := by rw [k7]
    rw [ragree_ok y3.1 (by rw [e1]; omega) (by rw [e2]; exact k4.okC) (by rw [e3]; exact k4.okC), obnd_some, Bool.not_true, sel_false]
    have := checks_l1 y3 (by rw [e1]; omega) FU y3.2.2.l y3.2.2.at_ y3.1.First y3.1.Second 0 k0 (by rw [e2]; exact hv) (by rw [e3]; exact hv) (by omega) (by unfold FU; omega)
    rw [show ((0 : Nat) : Int) = 0 from rfl] at this
    refine tot_join this ?_
    rintro ⟨x19, x20⟩ m1
    simp only at m1 ⊢
    refine tot_obnd (tot_oddQuery m1) fun y21 h21 => ?_
    have h22 := h21.2
    rw [ragree_ok ⟨y21.1, y3.1.First, y3.1.Second⟩ (by simp only; omega) (by simp only; rw [e2]; exact k4.okC) (by simp only; rw [e3]; exact k4.okC), obnd_some, sel_true]
    exact tot_obnd (tot_some (Q := fun b => b = true) rfl) fun b h => tot_some h
  obtain ⟨b, e, h⟩ := key
  rw [e, h]
end Go.Proofs.YtlbnhhfaedhgfaaGreatDoor
