/-
  Lemmas: The law ReceiptProves holds of its model.
-/
import Derived.Test.YtlbnhhfaedhgfaaGreatDoorPR37
import Derived.Test.YtlbnhhfaedhgfaaGreatDoorPR32
import Derived.Test.YtlbnhhfaedhgfaaGreatDoorPR38
namespace Go.Proofs.YtlbnhhfaedhgfaaGreatDoor
set_option linter.unusedSimpArgs false
set_option linter.unusedVariables false
open Go.RowKit
theorem receiptProves_ok (l : List Int) : Mlaw29_ReceiptProves l = some true := by
  have key : Tot (Mlaw29_ReceiptProves l) fun b => b = true := by
    unfold Mlaw29_ReceiptProves
    rw [rawake_ok]
    refine tot_obnd (tot_new l) fun τ hτ => tot_obnd (tot_good hτ) fun y3 h3 => ?_
    obtain ⟨-, q, w, k1, k2, k3, k4, k5, k6, k7⟩ := h3
    have g4 := k1.2.1
    have ht := run_tiled k1 k4 k5
    rw [k7]
    obtain ⟨a, e1, -, e3⟩ := check_eq ⟨q, w.Visits, w.Visits⟩ (by simp only; omega) k4.okC k4.okC
    have e0 : checkE ⟨q, w.Visits, w.Visits⟩ = 0 := by
      unfold checkE
      simp only
      rw [ht, if_neg (by simp), if_neg (by simp), sameVs_refl, if_pos rfl]
    rw [e0] at e1 e3
    obtain ⟨e4, e5⟩ := e3 rfl
    obtain ⟨b, e6, e7, -, e8⟩ := answer_ref y3.2.1 q (by omega) k1.1 k2
    have e9 : qtk q.Kind q.Count (rowsW w.Visits) = qtk q.Kind q.Count (qslices y3.2.1 (qranges q.Kind q.Ranges q.Key q.Count)) := done_rows k2 k4.qe k4.ri k4.gd k5
    have hrows : a.Rows = b.Rows := by rw [e4, e7]; exact e9
    have hfold : a.Fold = b.Fold := by
      rw [hrows, e8] at e5
      exact (Option.some.inj e5).symm
    have hab : a = b := by
      cases a; cases b
      simp only at hrows hfold
      rw [hrows, hfold]
    simp only [e1, obnd_some, e6, decide_true, sel_true, hab, sameAnswer_refl]
    exact tot_some rfl
  obtain ⟨b, e, h⟩ := key
  rw [e, h]
end Go.Proofs.YtlbnhhfaedhgfaaGreatDoor
