/-
  The tape: its state in memory, what its methods leave of it.
-/
import Derived.Test.YtddjhemncniidaaDoorP0
namespace Go.Proofs.YtddjhemncniidaaDoor
set_option linter.unusedSimpArgs false
set_option linter.unusedVariables false
open Go.RowKit

/-- Block bt is a tape that can be read; the letters stand where they stand; all that it needs lies at bt and below. -/
structure Tp (w : World) (bt : Nat) : Prop where
  ne : 0 < bt
  lt : ∀ i, i < 6 → ∃ s : ByteArray, w.cell? ⟨0, i, none⟩ = some (.string s) ∧ s.size ≤ 1
  tape : ∃ (p : Option Addr) (n c k : Nat), w.heap[bt]? = some (.cells #[.slice p n c, .int .i64 k] 61 (0, 0)) ∧ k ≤ n ∧ n ≤ 600 ∧
    (0 < n → ∃ ab ao : Nat, p = some ⟨ab, ao, none⟩ ∧ ab < bt ∧ ∀ i, i < n → ∃ z : Int, -9223372036854775808 ≤ z ∧ z ≤ 9223372036854775807 ∧ w.cell? ⟨ab, ao + i, none⟩ = some (.int .i64 z))

theorem Tp.size {w : World} {bt : Nat} (h : Tp w bt) : bt < w.heap.size := by
  obtain ⟨p, n, c, k, h1, -⟩ := h.tape
  exact (Array.getElem?_eq_some_iff.1 h1).1

/-- What leaves the tape's own block and all lower ones alone leaves the tape. -/
theorem Tp.same {w w' : World} {bt : Nat} (h : Tp w bt) (hs : ∀ k, k ≤ bt → w'.heap[k]? = w.heap[k]?) : Tp w' bt := by
  obtain ⟨p, n, c, k, h1, h2, h3, h4⟩ := h.tape
  refine ⟨h.ne, fun i hi => ?_, p, n, c, k, by rw [hs bt (Nat.le_refl _)]; exact h1, h2, h3, fun hn => ?_⟩
  · obtain ⟨s, e, h'⟩ := h.lt i hi
    exact ⟨s, by rw [World.cell?_of_block (hs _ (Nat.le_of_lt h.ne))]; exact e, h'⟩
  · obtain ⟨ab, ao, e1, e2, e4⟩ := h4 hn
    refine ⟨ab, ao, e1, e2, fun i hi => ?_⟩
    obtain ⟨z, z1, z2, z3⟩ := e4 i hi
    exact ⟨z, z1, z2, by rw [World.cell?_of_block (hs _ (Nat.le_of_lt e2))]; exact z3⟩
theorem Tp.kept {w w' : World} {bt : Nat} (h : Tp w bt) {X : List Nat} (hk : Kp X w w') (hx : ∀ k ∈ X, bt < k) : Tp w' bt :=
  h.same fun k hk' => hk.block k (Nat.lt_of_le_of_lt hk' h.size) fun hm => by have := hx k hm; omega
theorem Tp.kp {w w' : World} {bt : Nat} (h : Tp w bt) (hk : Kp [] w w') : Tp w' bt := h.kept hk (by simp)
theorem Tp.setCell {w : World} {bt : Nat} (h : Tp w bt) {p : Addr} (hp : bt < p.block) (v : Value) : Tp (w.setCell p v) bt :=
  h.same fun k hk => Below.heap_setCell _ _ _ _ (by omega)
theorem tp_set {w : World} {bt B : Nat} {vs : List Value} {o : Nat} (h : Tp w bt) (hB : bt < B) : Tp (w.setCells B o vs) bt := by
  induction vs generalizing o w with
  | nil => exact h
  | cons v r ih => exact ih (h.setCell hB v)
theorem Tp.alloc {w : World} {bt : Nat} (h : Tp w bt) (o : Obj) : Tp (w.alloc o) bt := h.kp ((Kp.refl _ _).alloc _)
theorem Tp.drew {w : World} {bt : Nat} (h : Tp w bt) : Tp w.drew bt := h.kp (Kp.refl _ _).drew

def md (v n : Int) : Int := if v.tmod n < 0 then v.tmod n + n else v.tmod n
theorem md_rng {v n : Int} (h : 1 ≤ n) : 0 ≤ md v n ∧ md v n < n := by
  unfold md
  have h1 := Int.lt_tmod_of_pos v (show 0 < n by omega)
  have h2 := Int.tmod_lt_of_pos v (show 0 < n by omega)
  split <;> omega

theorem mod_any {v n : Int} {w : World} (h : 1 ≤ n) (h2 : n ≤ 9223372036854775807) :
    Calls Tryd.prog 36 #[.int .i64 v, .int .i64 n] w fun e w' => e = .returned (.int .i64 (md v n)) ∧ w = w' := by
  have h1 := Int.lt_tmod_of_pos v (show 0 < n by omega)
  have h2 := Int.tmod_lt_of_pos v (show 0 < n by omega)
  go_enter Tryd.func36, Tryd.ntmps36
  go_wp2
  all_goals go_ret
  · exact ⟨ret_int (by simp only [md]; rw [if_pos (by omega)]), rfl⟩
  · exact ⟨ret_int (by simp only [md]; rw [if_neg (by omega)]), rfl⟩

theorem heap_set {w : World} {b o : Nat} {c : Array Value} {T : TypeId} {fr : Nat × Nat} (v : Value) (h : w.heap[b]? = some (.cells c T fr)) :
    (w.setCell ⟨b, o, none⟩ v).heap[b]? = some (.cells (c.setIfInBounds o v) T fr) := by
  simp [World.setCell, Array.getElem?_modify, h]

/-- What a choice is: from 0 to n - 1; 0 if n is less than 1. -/
def Chosen (n r : Int) : Prop := 0 ≤ r ∧ (1 ≤ n → r < n) ∧ (n < 1 → r = 0)

set_option maxHeartbeats 1000000 in
theorem next_any {bt : Nat} {n : Int} {w : World} (ht : Tp w bt) (hn1 : -9223372036854775808 ≤ n) (hn2 : n ≤ 9223372036854775807) :
    Calls Tryd.prog 24 #[.pointer (some ⟨bt, 0, none⟩), .int .i64 n] w fun e w' => ∃ r : Int, e = .returned (.int .i64 r) ∧ Chosen n r ∧ Kp [bt] w w' ∧ Tp w' bt := by
  obtain ⟨p, len, c, k, hb, hk, hl, hz⟩ := ht.tape
  have Hz := Lib.hid hz
  clear hz
  have ct := boxc hb
  have ft := boxf hb
  have Hb := Lib.hid hb
  clear hb
  have hs := ht.size
  have gt := grc hs ct
  by_cases h1 : n < 1
  · clear ct ft gt Hz
    go_enter Tryd.func24, Tryd.ntmps24
    go_upto_region 1 with fail
    refine wp_region_q0 13 _ mixed (by kernel_rfl) (by kernel_rfl) (by kernel_rfl) ((Kp.refl _ _).drew) ?_; simp only [List.map_cons, List.map_nil, List.take_succ_cons, List.take_zero, noAlloc]; (repeat (first | (refine wpQK_step (fun K hK => ?_); go_simp; first | (refine hK _ ?_; clear hK K) | (apply Exists.intro; refine ⟨fun _ => ?_, hK _ ?_⟩; ((first | fail)); clear hK K)))); refine wpQK_nil ?_; intro wx hkx; simp only [List.drop_succ_cons, List.drop_zero]
    go_wp2
    go_ret
    exact ⟨0, rfl, ⟨by omega, by omega, by omega⟩, hkx.of_nil, ht.kp hkx⟩
  · by_cases h2 : len ≤ k
    · have h2' : ((len : Int) ≤ (k : Int)) := by omega
      clear ct ft Hz
      go_enter Tryd.func24, Tryd.ntmps24
      go_upto_region 1 with fail
      refine wp_region_q0 13 _ mixed (by kernel_rfl) (by kernel_rfl) (by kernel_rfl) ((Kp.refl _ _).drew) ?_; simp only [List.map_cons, List.map_nil, List.take_succ_cons, List.take_zero, noAlloc]; (repeat (first | (refine wpQK_step (fun K hK => ?_); go_simp; first | (refine hK _ ?_; clear hK K) | (apply Exists.intro; refine ⟨fun _ => ?_, hK _ ?_⟩; ((first | fail)); clear hK K)))); refine wpQK_nil ?_; intro wx hkx; simp only [List.drop_succ_cons, List.drop_zero]
      go_wp2
      go_ret
      exact ⟨0, rfl, ⟨by omega, by omega, by omega⟩, hkx.of_nil, ht.kp hkx⟩
    · have h2' : ¬ ((len : Int) ≤ (k : Int)) := by omega
      obtain ⟨ab, ao, rfl, hab, hcell⟩ := Hz.out (by omega)
      have hab2 : ab < w.heap.size := Nat.lt_trans hab hs
      obtain ⟨z, z1, z2, hz3⟩ := hcell k (by omega)
      have Hc := Lib.hid hcell
      clear hcell
      go_enter Tryd.func24, Tryd.ntmps24
      go_upto_region 1 with fail
      refine wp_region_q0 13 _ mixed (by kernel_rfl) (by kernel_rfl) (by kernel_rfl) ((Kp.refl _ _).drew) ?_; simp only [List.map_cons, List.map_nil, List.take_succ_cons, List.take_zero, noAlloc]; (repeat (first | (refine wpQK_step (fun K hK => ?_); go_simp; first | (refine hK _ ?_; clear hK K) | (apply Exists.intro; refine ⟨fun _ => ?_, hK _ ?_⟩; ((first | fail)); clear hK K)))); refine wpQK_nil ?_; intro wx hkx; simp only [List.drop_succ_cons, List.drop_zero]
      have cx := kpc hkx hs ct
      have fx := kpf hkx hs ft
      clear gt ct ft
      go_upto_region 4 with fail
      refine nameWorld (fun W1 => Kp [bt] w W1 ∧ W1.heap[bt]? = some (.cells #[.slice (some ⟨ab, ao, none⟩) len c, .int .i64 ((k : Int) + 1)] 61 (0, 0))) ⟨hkx.of_nil.setCell (Or.inl (by simp)) _, heap_set (o := 1) _ ((hkx.block bt hs (by simp)).trans Hb.out)⟩ ?_
      rintro W1 ⟨hk1, hb1⟩
      clear cx fx
      have hb2 : W1.heap[bt]? = some (.cells #[.slice (some ⟨ab, ao, none⟩) len c, .int .i64 (k + 1 : Nat)] 61 (0, 0)) := hb1
      have hz1 : W1.cell? ⟨ab, ao + k, none⟩ = some (.int .i64 z) := by rw [hk1.cell (p := ⟨ab, ao + k, none⟩) hab2 (by simp; omega)]; exact hz3
      have ht1 : Tp W1 bt := by
        refine ⟨ht.ne, fun i hi => ?_, _, len, c, k + 1, hb2, by omega, hl, fun _ => ⟨ab, ao, rfl, hab, fun i hi => ?_⟩⟩
        · obtain ⟨s, h1, h2⟩ := ht.lt i hi
          exact ⟨s, by rw [hk1.cell (p := ⟨_, i, none⟩) (Nat.lt_trans ht.ne hs) (by have := ht.ne; simp; omega)]; exact h1, h2⟩
        · obtain ⟨z', a1, a2, a3⟩ := Hc.out i hi
          exact ⟨z', a1, a2, by rw [hk1.cell (p := ⟨ab, ao + i, none⟩) hab2 (by simp; omega)]; exact a3⟩
      have g1 := grc (W0 := W1) (Nat.lt_of_lt_of_le hs hk1.size) (boxc hb1)
      have g2 : ∀ p, (gr W1 p).cell? ⟨ab, ao + k, none⟩ = some (.int .i64 z) := fun p => ((kp_gr W1 p).cell (p := ⟨ab, ao + k, none⟩) (Nat.lt_of_lt_of_le hab2 hk1.size) (by simp)).trans hz1
      clear hb1 hb2 hz1 hz3
      have hkl : (k : Int) < (len : Int) := by omega
      have hk0 : (0 : Int) ≤ (k : Int) := by omega
      have ek : IntKind.i64.wrap (k : Int) = (k : Int) := IntWalk.i64_in _ (by omega)
      refine wp_region_q0 13 _ mixed (by kernel_rfl) (by kernel_rfl) (by kernel_rfl) ((Kp.refl _ _).drew) ?_; simp only [List.map_cons, List.map_nil, List.take_succ_cons, List.take_zero, noAlloc]; (repeat (first | (refine wpQK_step (fun K hK => ?_); go_simp; first | (refine hK _ ?_; clear hK K) | (apply Exists.intro; refine ⟨fun _ => ?_, hK _ ?_⟩; ((first | exact (mod_any (by omega) hn2).mono fun _ _ ⟨he, hw⟩ => ⟨he, hw ▸ Kp.refl _ _⟩)); clear hK K)))); refine wpQK_nil ?_; intro wx hkx; simp only [List.drop_succ_cons, List.drop_zero]
      clear ek g1 g2
      go_wp2
      go_ret
      have hr := md_rng (v := z) (n := n) (by omega)
      exact ⟨md z n, rfl, ⟨hr.1, fun _ => hr.2, fun h => by omega⟩, hk1.trans hkx.of_nil, ht1.kp hkx⟩

/-- The arm of a walk behind a call that moves the tape. -/
theorem tk {bt : Nat} {W w' : World} (h : Kp [bt] W w') : ∀ b o, b < W.heap.size → b ≠ bt → w'.cell? ⟨b, o, none⟩ = W.cell? ⟨b, o, none⟩ := fun b o hb hne => h.cell (p := ⟨b, o, none⟩) hb (by simpa using hne)

theorem bool_any {bt : Nat} {n : Int} {w : World} (ht : Tp w bt) (hn1 : 1 ≤ n) (hn2 : n ≤ 9223372036854775807) :
    Calls Tryd.prog 43 #[.pointer (some ⟨bt, 0, none⟩), .int .i64 n] w fun e w' => ∃ r : Bool, e = .returned (.bool r) ∧ Kp [bt] w w' ∧ Tp w' bt := by
  go_enter Tryd.func43, Tryd.ntmps43
  go_wp2_with (go_at_call 24; refine (next_any ht (by omega) (by omega)).mono ?_; rintro e w' ⟨r, rfl, hr, hk, ht'⟩; unfold Chosen at hr)
  go_ret
  exact ⟨_, rfl, hk, ht'⟩

theorem long_any {s : ByteArray} (n : Nat) {m : Int} {w : World} (hm : m = (n : Int)) (hs : s.size ≤ 1) (hn : n ≤ 100) :
    Calls Tryd.prog 49 #[.string s, .int .i64 m] w fun e w' => ∃ r : ByteArray, e = .returned (.string r) ∧ r.size ≤ n ∧ w = w' := by
  subst hm
  go_enter Tryd.func49, Tryd.ntmps49
  go_wp2
  go_loop [5, 6] (fun o i => ∃ k : Nat, ∃ r : ByteArray, k ≤ n ∧ i = .int .i64 k ∧ o = .string r ∧ r.size ≤ k) (fun _ i => n - (intOf i).toNat)
  case atStart => exact ⟨0, ⟨#[]⟩, Nat.zero_le _, rfl, rfl, Nat.le_refl _⟩
  case round =>
    obtain ⟨k, r, hk, rfl, rfl, hr⟩ := hrel
    by_cases hlt : k < n
    · go_wp2
      go_round
      case rel => exact ⟨k + 1, r ++ s, by omega, by go_num, rfl, by rw [ByteArray.size_append]; omega⟩
      case measure => simp [intOf]; omega
    · go_wp2
      go_ret
      exact ⟨r, rfl, by omega, rfl⟩
end Go.Proofs.YtddjhemncniidaaDoor
