/-
  The tape: keys, bounds, ranges.
-/
import Derived.Test.YtddjhemncniidaaDoorT1
import Derived.Test.YtddjhemncniidaaDoorM1
namespace Go.Proofs.YtddjhemncniidaaDoor
set_option linter.unusedSimpArgs false
set_option linter.unusedVariables false
open Go.RowKit

/-- One of the six letters. -/
theorem letter {w : World} {bt : Nat} (ht : Tp w bt) {r : Int} (hr : 0 ≤ r ∧ (1 ≤ (6 : Int) → r < 6) ∧ ((6 : Int) < 1 → r = 0)) : ∃ s : ByteArray, ∃ k : Nat, r = k ∧ k < 6 ∧ w.cell? ⟨0, k, none⟩ = some (.string s) ∧ s.size ≤ 1 := by
  obtain ⟨k, rfl⟩ := Int.eq_ofNat_of_zero_le hr.1
  have := hr.2.1 (by omega)
  obtain ⟨s, h1, h2⟩ := ht.lt k (by omega)
  exact ⟨s, k, rfl, by omega, h1, h2⟩

set_option maxHeartbeats 1000000 in
theorem key_any {bt : Nat} {w : World} (ht : Tp w bt) :
    Calls Tryd.prog 30 #[.pointer (some ⟨bt, 0, none⟩)] w fun e w' => ∃ r : ByteArray, e = .returned (.string r) ∧ r.size ≤ 64 ∧ Kp [bt] w w' ∧ Tp w' bt := by
  go_enter Tryd.func30, Tryd.ntmps30
  go_wp2_with fail
  refine (next_any ht (by omega) (by omega)).mono ?_; rintro e w1 ⟨r, rfl, hr, hk, ht1⟩
  obtain ⟨hr0, hr1, hr2⟩ := hr
  have h12 := hr1 (by omega)
  clear hr1 hr2
  by_cases h10 : r = 10
  · subst h10
    go_wp2_with fail
    refine (next_any ht1 (by omega) (by omega)).mono ?_; rintro e w2 ⟨r2, rfl, hr2, hk2, ht2⟩
    obtain ⟨s, k, rfl, hk6, hs1, hs2⟩ := letter ht2 hr2
    have hk6' : (k : Int) < 6 := by omega
    have hk60 : (0 : Int) ≤ (k : Int) := by omega
    unfold Chosen at hr2
    go_wp2_with (go_at_call 49; refine (long_any 64 rfl hs2 (by omega)).mono ?_; rintro e w' ⟨o, rfl, ho, rfl⟩)
    go_ret
    exact ⟨o, rfl, by omega, hk.trans hk2, ht2⟩
  · by_cases h11 : r = 11
    · subst h11
      go_wp2_with fail
      go_ret
      exact ⟨_, rfl, Nat.zero_le _, hk, ht1⟩
    · have b10 : (r == 10) = false := by simpa using h10
      have b11 : (r == 11) = false := by simpa using h11
      clear h10 h11
      go_wp2_with fail
      refine (next_any ht1 (by omega) (by omega)).mono ?_; rintro e w2 ⟨r2, rfl, hr2, hk2, ht2⟩
      obtain ⟨hr20, hr21, hr22⟩ := hr2
      have hr2b := hr21 (by omega)
      clear hr21 hr22
      go_wp2_with fail
      go_loopw [3, 4] (fun o i wr => ∃ k : Nat, ∃ x : ByteArray, k ≤ 3 ∧ i = .int .i64 k ∧ o = .string x ∧ x.size + k ≤ 3 ∧ Kp [bt] w wr ∧ Tp wr bt) (fun _ i _ => (intOf i).toNat)
      case atStart =>
        obtain ⟨k, rfl⟩ := Int.eq_ofNat_of_zero_le hr20
        exact ⟨k + 1, ⟨#[]⟩, by omega, by congr 1; omega, rfl, (show 0 + (k + 1) ≤ 3 by omega), hk.trans hk2, ht2⟩
      case round =>
        obtain ⟨k, x, hk3, rfl, rfl, hx, hkr, htr⟩ := hrel
        by_cases hlt : 0 < k
        · go_wp2_with fail
          refine (next_any htr (by omega) (by omega)).mono ?_; rintro e w3 ⟨r3, rfl, hr3, hk3', ht3⟩
          obtain ⟨s, j, rfl, hj6, hs1, hs2⟩ := letter ht3 hr3
          have hj6' : (j : Int) < 6 := by omega
          have hj60 : (0 : Int) ≤ (j : Int) := by omega
          unfold Chosen at hr3
          go_wp2_with fail
          go_roundw
          case rel => exact ⟨k - 1, x ++ s, by omega, by congr 1; omega, rfl, by rw [ByteArray.size_append]; omega, hkr.trans hk3', ht3⟩
          case measure => simp [intOf]; omega
        · go_wp2_with fail
          go_ret
          exact ⟨x, rfl, by omega, hkr, htr⟩

theorem oddKey_any {bt : Nat} {w : World} (ht : Tp w bt) :
    Calls Tryd.prog 35 #[.pointer (some ⟨bt, 0, none⟩)] w fun e w' => ∃ r : ByteArray, e = .returned (.string r) ∧ r.size ≤ 65 ∧ Kp [bt] w w' ∧ Tp w' bt := by
  go_enter Tryd.func35, Tryd.ntmps35
  go_wp2_with fail
  refine (bool_any ht (by omega) (by omega)).mono ?_; rintro e w1 ⟨r, rfl, hk, ht1⟩
  cases r
  · go_wp2_with fail
    refine (key_any ht1).mono ?_; rintro e w2 ⟨r2, rfl, hr2, hk2, ht2⟩
    go_wp2_with fail
    go_ret
    exact ⟨r2, rfl, by omega, hk.trans hk2, ht2⟩
  · go_wp2_with fail
    refine (next_any ht1 (by omega) (by omega)).mono ?_; rintro e w2 ⟨r2, rfl, hr2, hk2, ht2⟩
    obtain ⟨s, k, rfl, hk6, hs1, hs2⟩ := letter ht2 hr2
    have hk6' : (k : Int) < 6 := by omega
    have hk60 : (0 : Int) ≤ (k : Int) := by omega
    unfold Chosen at hr2
    go_wp2_with (go_at_call 49; refine (long_any 65 rfl hs2 (by omega)).mono ?_; rintro e w' ⟨o, rfl, ho, rfl⟩)
    go_ret
    exact ⟨o, rfl, by omega, hk.trans hk2, ht2⟩
end Go.Proofs.YtddjhemncniidaaDoor
