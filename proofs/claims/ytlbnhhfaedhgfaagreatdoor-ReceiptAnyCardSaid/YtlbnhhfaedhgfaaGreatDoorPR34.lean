/-
  Lemmas: The law ReceiptAny holds of its model.
-/
import Derived.Test.YtlbnhhfaedhgfaaGreatDoorPR32
import Derived.Test.YtlbnhhfaedhgfaaGreatDoorPR33
namespace Go.Proofs.YtlbnhhfaedhgfaaGreatDoor
set_option linter.unusedSimpArgs false
set_option linter.unusedVariables false
open Go.RowKit
theorem receiptAny_ok (l : List Int) (raw : TReceipt) : Mlaw29_ReceiptAny l raw = some true := by
  have key : Tot (Mlaw29_ReceiptAny l raw) fun b => b = true := by
    unfold Mlaw29_ReceiptAny
    rw [rawake_ok]
    refine tot_obnd (R := fun b => b = false → okC raw.First ∧ okC raw.Second ∧ raw.Query.Ranges.length ≤ 80) (tot_bnd (tot_sel (fun _ => tot_some (by simp)) fun h1 => tot_bnd (tot_sel (fun _ => tot_some (by simp)) fun h2 => tot_some fun h3 => ?_))) fun b hb => tot_sel (fun _ => tot_obnd (tot_some (Q := fun b => b = true) rfl) fun b h => tot_some h) fun hbf => ?_
    · refine ⟨(small_ok (by simpa using h1)).1, (small_ok (by simpa using h2)).1, ?_⟩
      have := of_decide_eq_false h3
      omega
    · obtain ⟨c1, c2, c3⟩ := hb hbf
      refine tot_obnd (tot_new l) fun τ hτ => tot_obnd (tot_good hτ) fun y8 h8 => ?_
      obtain ⟨-, q, w, k1, k2, k3, k4, k5, k6, k7⟩ := h8
      have g4 := k1.2.1
      rw [k7, ragree_ok raw (by omega) c1 c2, obnd_some, sel_true]
      simp only
      rw [ragree_ok ⟨q, raw.First, raw.First⟩ (by simp only; omega) c1 c1, obnd_some, sel_true, ragree_ok ⟨raw.Query, w.Visits, w.Visits⟩ (by simp only; omega) k4.okC k4.okC, obnd_some, sel_true]
      exact tot_obnd (tot_some (Q := fun b => b = true) rfl) fun b h => tot_some h
  obtain ⟨b, e, h⟩ := key
  rw [e, h]
end Go.Proofs.YtlbnhhfaedhgfaaGreatDoor
