/-
  Lemmas: The example of chapter 37.
-/
import Derived.Test.YtohpjdeohpamaaaGreatDoorPA27
import Derived.Test.YtohpjdeohpamaaaGreatDoorPA28
set_option linter.unusedSimpArgs false
set_option linter.unusedVariables false
namespace Go.Proofs.YtohpjdeohpamaaaGreatDoor
open Go.RowKit
theorem emp_all : emp Mwld_All = false := by kernel_rfl
theorem tot_writeIn {τ : TTape} (h : okT τ) : Tot (Mwld_Tape_WriteIn τ Mwld_All) fun y => okT y.2 ∧ vwr y.1 = true := by
  obtain ⟨k, τ1, e1, h1, hk⟩ := keyIn_ok h Mwld_All emp_all
  have hv : vk k = true := by
    unfold contains at hk
    simp only [Bool.and_eq_true] at hk
    exact hk.1.1.2
  unfold Mwld_Tape_WriteIn
  rw [e1, obnd_some]
  refine tot_obnd (tot_bool h1 (by omega)) fun y2 h2 => tot_sel (fun hb => ?_) fun hb => ?_
  · obtain ⟨v, τ3, e3, h3, hv3⟩ := value_ok h2
    rw [e3, obnd_some]
    refine tot_some ⟨h3, ?_⟩
    have : y2.1 = false := by simpa using hb
    unfold vwr
    simp [hv, hv3, this]
  · refine tot_some ⟨h2, ?_⟩
    have : y2.1 = true := by simpa using hb
    unfold vwr
    simp [hv, this]
    exact Nat.zero_le _
theorem okC_nil : okC [] := ⟨by simp, by simp⟩
theorem whole_q : (Mwld_Whole).Ranges.length = 1 := rfl
theorem okR_none : okR ⟨⟨0, [], ⟨#[]⟩, 0⟩, [], []⟩ := ⟨by simp, okC_nil, okC_nil⟩
theorem okR_begin : okR ⟨Mwld_Whole, [], []⟩ := ⟨by rw [whole_q]; omega, okC_nil, okC_nil⟩
theorem okC_visits {t : List Kv} (h : t.length ≤ 1024) : okC (Mlaw37_visits t) := ⟨by show (1 : Nat) ≤ 1000; omega, fun v hv => by
  have : v = ⟨⟨1, Mwld_All, ⟨0, 0⟩, t⟩, Mwld_All⟩ := by simpa [Mlaw37_visits, bnd_eq] using hv
  rw [this]; simp only; omega⟩
theorem okR_proof {t : List Kv} (h : t.length ≤ 1024) : okR (Mlaw37_proof t) := ⟨by show (Mwld_Whole).Ranges.length < 1000000; rw [whole_q]; omega, okC_visits h, okC_visits h⟩
def okL (n : Nat) (l : List TRecord) : Prop := l.length ≤ n ∧ ∀ r ∈ l, okR r.Receipt ∧ r.Writes.length ≤ 1000
theorem okL.add {n : Nat} {l : List TRecord} (h : okL n l) {r : TRecord} (hr : okR r.Receipt) (hw : r.Writes.length ≤ 1000) : okL (n + 1) (l ++ [r]) := ⟨by have := h.1; simp; omega, fun x hx => by
  rcases List.mem_append.1 hx with hx | hx
  · exact h.2 x hx
  · rw [List.mem_singleton.1 hx]; exact ⟨hr, hw⟩⟩
theorem okL.up {n m : Nat} {l : List TRecord} (h : okL n l) (hm : n ≤ m) : okL m l := ⟨Nat.le_trans h.1 hm, h.2⟩
end Go.Proofs.YtohpjdeohpamaaaGreatDoor
namespace Go.Proofs.YtohpjdeohpamaaaGreatDoor
open Go.RowKit
theorem aawake_ok : Mlaw37_awake = some true := by kernel_rfl
end Go.Proofs.YtohpjdeohpamaaaGreatDoor
