/-
  Lemmas: The law AuditAny holds of its model.
-/
import Derived.Test.YtohpjdeohpamaaaGreatPA32
import Derived.Test.YtohpjdeohpamaaaGreatPA33
set_option linter.unusedSimpArgs false
set_option linter.unusedVariables false
namespace Go.Proofs.YtohpjdeohpamaaaGreat
open Go.RowKit
theorem okRs_small {l : List TRecord} (h : l.length + totN l ≤ 200) : ∀ r ∈ l, okR r.Receipt := fun r hr => by
  obtain ⟨-, h2, h3, h4⟩ := small_rec h hr
  exact ⟨by omega, h3, h4⟩
theorem check_long (t : List Kv) {l : List TRecord} (h : 4096 < l.length) : Maudit_Check t l = some (0, 3) := by
  unfold Maudit_Check
  rw [decide_eq_true (by omega)]; rfl
theorem auditAny_ok (rows : List Kv) {raw : List TRecord} (h : allB TRecord.okb raw) (kind query : Int) : Mlaw37_AuditAny rows raw kind query = some true := by
  unfold Mlaw37_AuditAny
  rw [small_val h, obnd_some]
  by_cases hs : raw.length + totN raw ≤ 200
  · rw [decide_eq_true hs]
    simp only [Bool.not_true, sel_false, obnd_some]
    by_cases hr : 40 < (rows.length : Int)
    · rw [decide_eq_true hr, sel_true, aawake_ok]; rfl
    · rw [decide_eq_false hr, sel_false, app_le (by simp; omega), obnd_some, List.nil_append, irem, if_neg (by omega), obnd_some, app_le (by simp; omega), obnd_some]
      have hk := okRs_small hs
      have hk2 : ∀ r ∈ raw ++ [(TRecord.mk (i64w (kind.tmod 6)) ([] : List TWrite) ⟨#[]⟩ ⟨#[]⟩ false query (TReceipt.mk (TQuery.mk 0 ([] : List Rng) ⟨#[]⟩ 0) ([] : List TVisit) ([] : List TVisit)))], okR r.Receipt := fun r hr => by
        rcases List.mem_append.1 hr with hr | hr
        · exact hk r hr
        · rw [List.mem_singleton.1 hr]; exact ⟨by simp, ⟨by simp, by simp⟩, ⟨by simp, by simp⟩⟩
      rw [eq_audit_Check _ _ hk, obnd_some, eq_ref37_Check _ _ hk, obnd_some, eq_audit_Check _ _ hk2, obnd_some, eq_ref37_Check _ _ hk2, obnd_some, check_long _ (by rw [List.length_replicate]; omega), obnd_some]
      simp only [decide_true, sel_true, aawake_ok, obnd_some]
  · rw [decide_eq_false hs]
    simp only [Bool.not_false, sel_true, obnd_some, aawake_ok]
end Go.Proofs.YtohpjdeohpamaaaGreat
