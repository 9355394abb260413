/-
  Walks of keyspace and its reference: keys, bounds, ranges.
-/
import Derived.Test.YtddjhemncniidaaDoorChecked
import Derived.Test.YtddjhemncniidaaDoorK0
import Derived.Test.YtddjhemncniidaaDoorM1
namespace Go.Proofs.YtddjhemncniidaaDoor
set_option linter.unusedSimpArgs false
set_option linter.unusedVariables false
open Go.RowKit

theorem bl_gt {a b : ByteArray} (h : Op.bytesLess a.toList b.toList = false) (k : (!a.toList == b.toList) = true) : Op.bytesLess b.toList a.toList = true := by
  cases e : Op.bytesLess b.toList a.toList with
  | true => rfl
  | false => have := bytesLess_total h e; simp [this] at k
theorem bl_ge {a b : ByteArray} (k : (!a.toList == b.toList) = false) : Op.bytesLess b.toList a.toList = false := by
  have : a.toList = b.toList := by simpa using k
  rw [this]; exact bytesLess_irrefl _
theorem bl_ge2 {a b : ByteArray} (h : (!Op.bytesLess a.toList b.toList) = false ∨ (!a.toList == b.toList) = false) (k : Op.bytesLess a.toList b.toList = false) : Op.bytesLess b.toList a.toList = false := by
  rcases h with h | h
  · simp [k] at h
  · exact bl_ge h

theorem vk_eq (s : ByteArray) : decide ((s.size : Int) ≤ 64) = vk s := by
  simp only [vk]; congr 1; simp; omega

theorem validKey_p {s : ByteArray} {w : World} :
    Calls Tryd.prog 19 #[.string s] w fun e w' => e = .returned (.bool (vk s)) ∧ w = w' := by
  go_enter Tryd.func19, Tryd.ntmps19
  go_wp2
  go_ret
  exact ⟨ret_bool (vk_eq s), rfl⟩

theorem compare_p {a b : ByteArray} {s t : Bool} {w : World} :
    Calls Tryd.prog 15 #[.agg #[.string a, .bool s], .agg #[.string b, .bool t]] w fun e w' => e = .returned (.int .i64 (cmp ⟨a, s⟩ ⟨b, t⟩)) ∧ Kp [] w w' := by
  go_enter Tryd.func15, Tryd.ntmps15
  go_wp2
  all_goals go_ret
  all_goals refine ⟨ret_int ?_, ((Kp.refl _ _).alloc _).alloc _⟩
  all_goals first | (simp [cmp, Bnd.lt, *]; done) | (rename_i h1 h2; simp [cmp, Bnd.lt, *, bl_gt h1 h2]; done) | (rename_i h1 h2; simp [cmp, Bnd.lt, *, bl_ge h2]; done) | (rename_i h1; simp [cmp, Bnd.lt, *, bl_gt (by simpa using h1.1) h1.2, show Op.bytesLess a.toList b.toList = false by simpa using h1.1]; done) | (rename_i h1 h2; simp [cmp, Bnd.lt, *, bl_ge2 h1 h2]; done)

theorem validBound_p {a : ByteArray} {s : Bool} {w : World} :
    Calls Tryd.prog 17 #[.agg #[.string a, .bool s]] w fun e w' => e = .returned (.bool (vb ⟨a, s⟩)) ∧ Kp [] w w' := by
  go_enter Tryd.func17, Tryd.ntmps17
  go_wp2_with (go_at_call 19; refine (validKey_p).mono ?_; rintro e w' ⟨rfl, rfl⟩)
  all_goals go_ret
  all_goals refine ⟨ret_bool ?_, ((Kp.refl _ _).alloc _)⟩
  all_goals simp [vb, *]

theorem valid_p {a b : ByteArray} {s t : Bool} {w : World} :
    Calls Tryd.prog 45 #[.agg #[.string a, .bool s, .string b, .bool t]] w fun e w' => e = .returned (.bool (vld ⟨⟨a, s⟩, ⟨b, t⟩⟩)) ∧ Kp [] w w' := by
  go_enter Tryd.func45, Tryd.ntmps45
  go_wp2_with (first | (go_at_call 17; refine (validBound_p).mono ?_; rintro e w' ⟨rfl, hb⟩; obtain ⟨hc, hf, hz⟩ := kcell hb) | (go_at_call 15; refine (compare_p).mono ?_; rintro e w' ⟨rfl, hb⟩; obtain ⟨hc, hf, hz⟩ := kcell hb))
  all_goals go_ret
  all_goals refine ⟨ret_bool ?_, ?_⟩
  all_goals first | (simp [vld, *]; done) | (repeat (first | exact Kp.refl _ _ | apply Kp.alloc | apply Kp.drew | apply Kp.drewN | (refine Kp.setCell ?_ (Or.inr (by dsimp only; omega)) _) | (refine Kp.trans ?_ (by assumption))))

theorem empty_p {a b : ByteArray} {s t : Bool} {w : World} :
    Calls Tryd.prog 42 #[.agg #[.string a, .bool s, .string b, .bool t]] w fun e w' => e = .returned (.bool (emp ⟨⟨a, s⟩, ⟨b, t⟩⟩)) ∧ Kp [] w w' := by
  go_enter Tryd.func42, Tryd.ntmps42
  go_wp2_with (first | (go_at_call 45; refine (valid_p).mono ?_; rintro e w' ⟨rfl, hb⟩; obtain ⟨hc, hf, hz⟩ := kcell hb) | (go_at_call 15; refine (compare_p).mono ?_; rintro e w' ⟨rfl, hb⟩; obtain ⟨hc, hf, hz⟩ := kcell hb))
  all_goals go_ret
  all_goals refine ⟨ret_bool ?_, ?_⟩
  all_goals first | (simp [emp, *]; done) | (repeat (first | exact Kp.refl _ _ | apply Kp.alloc | apply Kp.drew | apply Kp.drewN | (refine Kp.setCell ?_ (Or.inr (by dsimp only; omega)) _) | (refine Kp.trans ?_ (by assumption))))

theorem validKey_r {s : ByteArray} {w : World} :
    Calls Tryd.prog 20 #[.string s] w fun e w' => e = .returned (.bool (vk s)) ∧ w = w' := by
  go_enter Tryd.func20, Tryd.ntmps20
  go_wp2
  go_ret
  exact ⟨ret_bool (vk_eq s), rfl⟩

theorem compare_r {a b : ByteArray} {s t : Bool} {w : World} :
    Calls Tryd.prog 16 #[.agg #[.string a, .bool s], .agg #[.string b, .bool t]] w fun e w' => e = .returned (.int .i64 (cmp ⟨a, s⟩ ⟨b, t⟩)) ∧ Kp [] w w' := by
  go_enter Tryd.func16, Tryd.ntmps16
  go_wp2
  all_goals go_ret
  all_goals refine ⟨ret_int ?_, ((Kp.refl _ _).alloc _).alloc _⟩
  all_goals first | (simp [cmp, Bnd.lt, *]; done) | (rename_i h1 h2; simp [cmp, Bnd.lt, *, bl_gt h1 h2]; done) | (rename_i h1 h2; simp [cmp, Bnd.lt, *, bl_ge h2]; done) | (rename_i h1; simp [cmp, Bnd.lt, *, bl_gt (by simpa using h1.1) h1.2, show Op.bytesLess a.toList b.toList = false by simpa using h1.1]; done) | (rename_i h1 h2; simp [cmp, Bnd.lt, *, bl_ge2 h1 h2]; done)

theorem validBound_r {a : ByteArray} {s : Bool} {w : World} :
    Calls Tryd.prog 18 #[.agg #[.string a, .bool s]] w fun e w' => e = .returned (.bool (vb ⟨a, s⟩)) ∧ Kp [] w w' := by
  go_enter Tryd.func18, Tryd.ntmps18
  go_wp2_with (go_at_call 20; refine (validKey_r).mono ?_; rintro e w' ⟨rfl, rfl⟩)
  all_goals go_ret
  all_goals refine ⟨ret_bool ?_, ((Kp.refl _ _).alloc _)⟩
  all_goals simp [vb, *]

theorem valid_r {a b : ByteArray} {s t : Bool} {w : World} :
    Calls Tryd.prog 46 #[.agg #[.string a, .bool s, .string b, .bool t]] w fun e w' => e = .returned (.bool (vld ⟨⟨a, s⟩, ⟨b, t⟩⟩)) ∧ Kp [] w w' := by
  go_enter Tryd.func46, Tryd.ntmps46
  go_wp2_with (first | (go_at_call 18; refine (validBound_r).mono ?_; rintro e w' ⟨rfl, hb⟩; obtain ⟨hc, hf, hz⟩ := kcell hb) | (go_at_call 16; refine (compare_r).mono ?_; rintro e w' ⟨rfl, hb⟩; obtain ⟨hc, hf, hz⟩ := kcell hb))
  all_goals go_ret
  all_goals refine ⟨ret_bool ?_, ?_⟩
  all_goals first | (simp [vld, *]; done) | (repeat (first | exact Kp.refl _ _ | apply Kp.alloc | apply Kp.drew | apply Kp.drewN | (refine Kp.setCell ?_ (Or.inr (by dsimp only; omega)) _) | (refine Kp.trans ?_ (by assumption))))

theorem empty_r {a b : ByteArray} {s t : Bool} {w : World} :
    Calls Tryd.prog 27 #[.agg #[.string a, .bool s, .string b, .bool t]] w fun e w' => e = .returned (.bool (emp ⟨⟨a, s⟩, ⟨b, t⟩⟩)) ∧ Kp [] w w' := by
  go_enter Tryd.func27, Tryd.ntmps27
  go_wp2_with (first | (go_at_call 46; refine (valid_r).mono ?_; rintro e w' ⟨rfl, hb⟩; obtain ⟨hc, hf, hz⟩ := kcell hb) | (go_at_call 16; refine (compare_r).mono ?_; rintro e w' ⟨rfl, hb⟩; obtain ⟨hc, hf, hz⟩ := kcell hb))
  all_goals go_ret
  all_goals refine ⟨ret_bool ?_, ?_⟩
  all_goals first | (simp [emp, *]; done) | (repeat (first | exact Kp.refl _ _ | apply Kp.alloc | apply Kp.drew | apply Kp.drewN | (refine Kp.setCell ?_ (Or.inr (by dsimp only; omega)) _) | (refine Kp.trans ?_ (by assumption))))

end Go.Proofs.YtddjhemncniidaaDoor
