/-
  Walks of keyspace and its reference: keys in ranges, the lesser and greater of two bounds.
-/
import Derived.Test.YtddjhemncniidaaDoorW1a
namespace Go.Proofs.YtddjhemncniidaaDoor
set_option linter.unusedSimpArgs false
set_option linter.unusedVariables false
open Go.RowKit

theorem contains_p {a b k : ByteArray} {s t : Bool} {w : World} :
    Calls Tryd.prog 32 #[.agg #[.string a, .bool s, .string b, .bool t], .string k] w fun e w' => e = .returned (.bool (contains ⟨⟨a, s⟩, ⟨b, t⟩⟩ k)) ∧ Kp [] w w' := by
  go_enter Tryd.func32, Tryd.ntmps32
  go_wp2_with (first | (go_at_call 42; refine (empty_p).mono ?_; rintro e w' ⟨rfl, hb⟩; obtain ⟨hc, hf, hz⟩ := kcell hb) | (go_at_call 15; refine (compare_p).mono ?_; rintro e w' ⟨rfl, hb⟩; obtain ⟨hc, hf, hz⟩ := kcell hb) | (go_at_call 19; refine (validKey_p).mono ?_; rintro e w' ⟨rfl, rfl⟩))
  all_goals go_ret
  all_goals refine ⟨ret_bool ?_, ?_⟩
  all_goals first | (simp [contains, *]; done) | ((repeat (first | exact Kp.refl _ _ | apply Kp.alloc | apply Kp.drew | apply Kp.drewN | (refine Kp.setCell ?_ (Or.inr (by dsimp only; omega)) _) | (refine Kp.trans ?_ (by assumption)))); done) | (simp [contains, *]; intros; omega)

theorem adjacent_p {a b c d : ByteArray} {s t u v : Bool} {w : World} :
    Calls Tryd.prog 41 #[.agg #[.string a, .bool s, .string b, .bool t], .agg #[.string c, .bool u, .string d, .bool v]] w fun e w' => e = .returned (.bool (adj ⟨⟨a, s⟩, ⟨b, t⟩⟩ ⟨⟨c, u⟩, ⟨d, v⟩⟩)) ∧ Kp [] w w' := by
  go_enter Tryd.func41, Tryd.ntmps41
  go_wp2_with (first | (go_at_call 42; refine (empty_p).mono ?_; rintro e w' ⟨rfl, hb⟩; obtain ⟨hc, hf, hz⟩ := kcell hb) | (go_at_call 15; refine (compare_p).mono ?_; rintro e w' ⟨rfl, hb⟩; obtain ⟨hc, hf, hz⟩ := kcell hb))
  all_goals go_ret
  all_goals refine ⟨ret_bool ?_, ?_⟩
  all_goals first | (simp [adj, *]; done) | (repeat (first | exact Kp.refl _ _ | apply Kp.alloc | apply Kp.drew | apply Kp.drewN | (refine Kp.setCell ?_ (Or.inr (by dsimp only; omega)) _) | (refine Kp.trans ?_ (by assumption))))
theorem contains_r {a b k : ByteArray} {s t : Bool} {w : World} :
    Calls Tryd.prog 50 #[.agg #[.string a, .bool s, .string b, .bool t], .string k] w fun e w' => e = .returned (.bool (contains ⟨⟨a, s⟩, ⟨b, t⟩⟩ k)) ∧ Kp [] w w' := by
  go_enter Tryd.func50, Tryd.ntmps50
  go_wp2_with (first | (go_at_call 27; refine (empty_r).mono ?_; rintro e w' ⟨rfl, hb⟩; obtain ⟨hc, hf, hz⟩ := kcell hb) | (go_at_call 16; refine (compare_r).mono ?_; rintro e w' ⟨rfl, hb⟩; obtain ⟨hc, hf, hz⟩ := kcell hb) | (go_at_call 20; refine (validKey_r).mono ?_; rintro e w' ⟨rfl, rfl⟩))
  all_goals go_ret
  all_goals refine ⟨ret_bool ?_, ?_⟩
  all_goals first | (simp [contains, *]; done) | ((repeat (first | exact Kp.refl _ _ | apply Kp.alloc | apply Kp.drew | apply Kp.drewN | (refine Kp.setCell ?_ (Or.inr (by dsimp only; omega)) _) | (refine Kp.trans ?_ (by assumption)))); done) | (simp [contains, *]; intros; omega)

theorem adjacent_r {a b c d : ByteArray} {s t u v : Bool} {w : World} :
    Calls Tryd.prog 53 #[.agg #[.string a, .bool s, .string b, .bool t], .agg #[.string c, .bool u, .string d, .bool v]] w fun e w' => e = .returned (.bool (adj ⟨⟨a, s⟩, ⟨b, t⟩⟩ ⟨⟨c, u⟩, ⟨d, v⟩⟩)) ∧ Kp [] w w' := by
  go_enter Tryd.func53, Tryd.ntmps53
  go_wp2_with (first | (go_at_call 27; refine (empty_r).mono ?_; rintro e w' ⟨rfl, hb⟩; obtain ⟨hc, hf, hz⟩ := kcell hb) | (go_at_call 16; refine (compare_r).mono ?_; rintro e w' ⟨rfl, hb⟩; obtain ⟨hc, hf, hz⟩ := kcell hb))
  all_goals go_ret
  all_goals refine ⟨ret_bool ?_, ?_⟩
  all_goals first | (simp [adj, *]; done) | (repeat (first | exact Kp.refl _ _ | apply Kp.alloc | apply Kp.drew | apply Kp.drewN | (refine Kp.setCell ?_ (Or.inr (by dsimp only; omega)) _) | (refine Kp.trans ?_ (by assumption))))

theorem greater_p {a b : ByteArray} {s t : Bool} {w : World} :
    Calls Tryd.prog 47 #[.agg #[.string a, .bool s], .agg #[.string b, .bool t]] w fun e w' => ∃ m : Bnd, e = .returned (.agg #[.string m.key, .bool m.top]) ∧ Hid (m = greater ⟨a, s⟩ ⟨b, t⟩) ∧ Kp [] w w' := by
  go_enter Tryd.func47, Tryd.ntmps47
  go_wp2_with (first | (go_at_call 15; refine (compare_p).mono ?_; rintro e w' ⟨rfl, hb⟩; obtain ⟨hc, hf, hz⟩ := kcell hb))
  · exact bodyPost_ret (v := .agg #[.string b, .bool t]) (by simp [results, Tryd.results47, go_sem, *]) rfl ⟨⟨b, t⟩, rfl, by simp [Hid, greater, *], by (repeat (first | exact Kp.refl _ _ | apply Kp.alloc | apply Kp.drew | apply Kp.drewN | (refine Kp.setCell ?_ (Or.inr (by dsimp only; omega)) _) | (refine Kp.trans ?_ (by assumption))))⟩
  · exact bodyPost_ret (v := .agg #[.string a, .bool s]) (by simp [results, Tryd.results47, go_sem, *]) rfl ⟨⟨a, s⟩, rfl, by unfold Hid greater; rw [if_neg (by omega)], by (repeat (first | exact Kp.refl _ _ | apply Kp.alloc | apply Kp.drew | apply Kp.drewN | (refine Kp.setCell ?_ (Or.inr (by dsimp only; omega)) _) | (refine Kp.trans ?_ (by assumption))))⟩
theorem lesser_p {a b : ByteArray} {s t : Bool} {w : World} :
    Calls Tryd.prog 48 #[.agg #[.string a, .bool s], .agg #[.string b, .bool t]] w fun e w' => ∃ m : Bnd, e = .returned (.agg #[.string m.key, .bool m.top]) ∧ Hid (m = lesser ⟨a, s⟩ ⟨b, t⟩) ∧ Kp [] w w' := by
  go_enter Tryd.func48, Tryd.ntmps48
  go_wp2_with (first | (go_at_call 15; refine (compare_p).mono ?_; rintro e w' ⟨rfl, hb⟩; obtain ⟨hc, hf, hz⟩ := kcell hb))
  · exact bodyPost_ret (v := .agg #[.string b, .bool t]) (by simp [results, Tryd.results48, go_sem, *]) rfl ⟨⟨b, t⟩, rfl, by simp [Hid, lesser, *], by (repeat (first | exact Kp.refl _ _ | apply Kp.alloc | apply Kp.drew | apply Kp.drewN | (refine Kp.setCell ?_ (Or.inr (by dsimp only; omega)) _) | (refine Kp.trans ?_ (by assumption))))⟩
  · exact bodyPost_ret (v := .agg #[.string a, .bool s]) (by simp [results, Tryd.results48, go_sem, *]) rfl ⟨⟨a, s⟩, rfl, by unfold Hid lesser; rw [if_neg (by omega)], by (repeat (first | exact Kp.refl _ _ | apply Kp.alloc | apply Kp.drew | apply Kp.drewN | (refine Kp.setCell ?_ (Or.inr (by dsimp only; omega)) _) | (refine Kp.trans ?_ (by assumption))))⟩
theorem greatest_r {a b : ByteArray} {s t : Bool} {w : World} :
    Calls Tryd.prog 59 #[.agg #[.string a, .bool s], .agg #[.string b, .bool t]] w fun e w' => ∃ m : Bnd, e = .returned (.agg #[.string m.key, .bool m.top]) ∧ Hid (m = greatest ⟨a, s⟩ ⟨b, t⟩) ∧ Kp [] w w' := by
  go_enter Tryd.func59, Tryd.ntmps59
  go_wp2_with (first | (go_at_call 16; refine (compare_r).mono ?_; rintro e w' ⟨rfl, hb⟩; obtain ⟨hc, hf, hz⟩ := kcell hb))
  · exact bodyPost_ret (v := .agg #[.string a, .bool s]) (by simp [results, Tryd.results59, go_sem, *]) rfl ⟨⟨a, s⟩, rfl, by simp [Hid, greatest, *], by (repeat (first | exact Kp.refl _ _ | apply Kp.alloc | apply Kp.drew | apply Kp.drewN | (refine Kp.setCell ?_ (Or.inr (by dsimp only; omega)) _) | (refine Kp.trans ?_ (by assumption))))⟩
  · exact bodyPost_ret (v := .agg #[.string b, .bool t]) (by simp [results, Tryd.results59, go_sem, *]) rfl ⟨⟨b, t⟩, rfl, by unfold Hid greatest; rw [if_neg (by omega)], by (repeat (first | exact Kp.refl _ _ | apply Kp.alloc | apply Kp.drew | apply Kp.drewN | (refine Kp.setCell ?_ (Or.inr (by dsimp only; omega)) _) | (refine Kp.trans ?_ (by assumption))))⟩
theorem least_r {a b : ByteArray} {s t : Bool} {w : World} :
    Calls Tryd.prog 61 #[.agg #[.string a, .bool s], .agg #[.string b, .bool t]] w fun e w' => ∃ m : Bnd, e = .returned (.agg #[.string m.key, .bool m.top]) ∧ Hid (m = least ⟨a, s⟩ ⟨b, t⟩) ∧ Kp [] w w' := by
  go_enter Tryd.func61, Tryd.ntmps61
  go_wp2_with (first | (go_at_call 16; refine (compare_r).mono ?_; rintro e w' ⟨rfl, hb⟩; obtain ⟨hc, hf, hz⟩ := kcell hb))
  · exact bodyPost_ret (v := .agg #[.string a, .bool s]) (by simp [results, Tryd.results61, go_sem, *]) rfl ⟨⟨a, s⟩, rfl, by simp [Hid, least, *], by (repeat (first | exact Kp.refl _ _ | apply Kp.alloc | apply Kp.drew | apply Kp.drewN | (refine Kp.setCell ?_ (Or.inr (by dsimp only; omega)) _) | (refine Kp.trans ?_ (by assumption))))⟩
  · exact bodyPost_ret (v := .agg #[.string b, .bool t]) (by simp [results, Tryd.results61, go_sem, *]) rfl ⟨⟨b, t⟩, rfl, by unfold Hid least; rw [if_neg (by omega)], by (repeat (first | exact Kp.refl _ _ | apply Kp.alloc | apply Kp.drew | apply Kp.drewN | (refine Kp.setCell ?_ (Or.inr (by dsimp only; omega)) _) | (refine Kp.trans ?_ (by assumption))))⟩
end Go.Proofs.YtddjhemncniidaaDoor
