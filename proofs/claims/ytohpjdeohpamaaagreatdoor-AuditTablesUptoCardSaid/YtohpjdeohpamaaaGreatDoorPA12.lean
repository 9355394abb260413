/-
  Lemmas: The walk of Union in keyspace.
-/
import Derived.Test.YtohpjdeohpamaaaGreatDoorChecked
import Derived.Test.YtohpjdeohpamaaaGreatDoorPA1
import Derived.Test.YtohpjdeohpamaaaGreatDoorPA4
import Derived.Test.YtohpjdeohpamaaaGreatDoorPA10
import Derived.Test.YtohpjdeohpamaaaGreatDoorPA8
import Derived.Test.YtohpjdeohpamaaaGreatDoorPA11
import Derived.Handy
import Derived.Test.YtohpjdeohpamaaaGreatDoorProg
import Derived.Shelf.SlLaysF0
import Derived.Shelf.SlSortCmp.WholeK
import Derived.Lib.SliceRun
import Derived.Shelf.SlSortCmp.NoneTotal
set_option linter.unusedSimpArgs false
set_option linter.unusedVariables false
namespace Go.Proofs.YtohpjdeohpamaaaGreatDoor
open Go.RowKit

theorem bl_gt {a b : ByteArray} (h : Op.bytesLess a.toList b.toList = false) (k : (!a.toList == b.toList) = true) : Op.bytesLess b.toList a.toList = true := by
  cases e : Op.bytesLess b.toList a.toList with
  | true => rfl
  | false => have := bytesLess_total h e; simp [this] at k
theorem bl_ge {a b : ByteArray} (k : (!a.toList == b.toList) = false) : Op.bytesLess b.toList a.toList = false := by
  have : a.toList = b.toList := by simpa using k
  rw [this]; exact bytesLess_irrefl _
theorem bl_ge2 {a b : ByteArray} (h : (!Op.bytesLess a.toList b.toList) = false ∨ (!a.toList == b.toList) = false) (k : Op.bytesLess a.toList b.toList = false) : Op.bytesLess b.toList a.toList = false := by
  rcases h with h | h
  · simp [k] at h
  · exact bl_ge h

theorem vk_eq (s : ByteArray) : decide ((s.size : Int) ≤ 64) = vk s := by
  simp only [vk]; congr 1; simp; omega

theorem validKey_p {s : ByteArray} {w : World} :
    Calls Tryz.prog 124 #[.string s] w fun e w' => e = .returned (.bool (vk s)) ∧ w = w' := by
  go_enter Tryz.func124, Tryz.ntmps124
  go_wp2
  go_ret
  exact ⟨ret_bool (vk_eq s), rfl⟩

theorem compare_p {a b : ByteArray} {s t : Bool} {w : World} :
    Calls Tryz.prog 160 #[.agg #[.string a, .bool s], .agg #[.string b, .bool t]] w fun e w' => e = .returned (.int .i64 (cmp ⟨a, s⟩ ⟨b, t⟩)) ∧ Kp [] w w' := by
  go_enter Tryz.func160, Tryz.ntmps160
  go_wp2
  all_goals go_ret
  all_goals refine ⟨ret_int ?_, ((Kp.refl _ _).alloc _).alloc _⟩
  all_goals first | (simp [cmp, Bnd.lt, *]; done) | (rename_i h1 h2; simp [cmp, Bnd.lt, *, bl_gt h1 h2]; done) | (rename_i h1 h2; simp [cmp, Bnd.lt, *, bl_ge h2]; done) | (rename_i h1; simp [cmp, Bnd.lt, *, bl_gt (by simpa using h1.1) h1.2, show Op.bytesLess a.toList b.toList = false by simpa using h1.1]; done) | (rename_i h1 h2; simp [cmp, Bnd.lt, *, bl_ge2 h1 h2]; done)

theorem validBound_p {a : ByteArray} {s : Bool} {w : World} :
    Calls Tryz.prog 166 #[.agg #[.string a, .bool s]] w fun e w' => e = .returned (.bool (vb ⟨a, s⟩)) ∧ Kp [] w w' := by
  go_enter Tryz.func166, Tryz.ntmps166
  go_wp2_with (go_at_call 124; refine (validKey_p).mono ?_; rintro e w' ⟨rfl, rfl⟩)
  all_goals go_ret
  all_goals refine ⟨ret_bool ?_, ((Kp.refl _ _).alloc _)⟩
  all_goals simp [vb, *]

theorem valid_p {a b : ByteArray} {s t : Bool} {w : World} :
    Calls Tryz.prog 123 #[.agg #[.string a, .bool s, .string b, .bool t]] w fun e w' => e = .returned (.bool (vld ⟨⟨a, s⟩, ⟨b, t⟩⟩)) ∧ Kp [] w w' := by
  go_enter Tryz.func123, Tryz.ntmps123
  go_wp2_with (first | (go_at_call 166; refine (validBound_p).mono ?_; rintro e w' ⟨rfl, hb⟩; obtain ⟨hc, hf, hz⟩ := kcell hb) | (go_at_call 160; refine (compare_p).mono ?_; rintro e w' ⟨rfl, hb⟩; obtain ⟨hc, hf, hz⟩ := kcell hb))
  all_goals go_ret
  all_goals refine ⟨ret_bool ?_, ?_⟩
  all_goals first | (simp [vld, *]; done) | (repeat (first | exact Kp.refl _ _ | apply Kp.alloc | apply Kp.drew | apply Kp.drewN | (refine Kp.setCell ?_ (Or.inr (by dsimp only; omega)) _) | (refine Kp.trans ?_ (by assumption))))

theorem empty_p {a b : ByteArray} {s t : Bool} {w : World} :
    Calls Tryz.prog 169 #[.agg #[.string a, .bool s, .string b, .bool t]] w fun e w' => e = .returned (.bool (emp ⟨⟨a, s⟩, ⟨b, t⟩⟩)) ∧ Kp [] w w' := by
  go_enter Tryz.func169, Tryz.ntmps169
  go_wp2_with (first | (go_at_call 123; refine (valid_p).mono ?_; rintro e w' ⟨rfl, hb⟩; obtain ⟨hc, hf, hz⟩ := kcell hb) | (go_at_call 160; refine (compare_p).mono ?_; rintro e w' ⟨rfl, hb⟩; obtain ⟨hc, hf, hz⟩ := kcell hb))
  all_goals go_ret
  all_goals refine ⟨ret_bool ?_, ?_⟩
  all_goals first | (simp [emp, *]; done) | (repeat (first | exact Kp.refl _ _ | apply Kp.alloc | apply Kp.drew | apply Kp.drewN | (refine Kp.setCell ?_ (Or.inr (by dsimp only; omega)) _) | (refine Kp.trans ?_ (by assumption))))

end Go.Proofs.YtohpjdeohpamaaaGreatDoor
namespace Go.Proofs.YtohpjdeohpamaaaGreatDoor
open Go.RowKit

theorem greater_p {a b : ByteArray} {s t : Bool} {w : World} :
    Calls Tryz.prog 172 #[.agg #[.string a, .bool s], .agg #[.string b, .bool t]] w fun e w' => ∃ m : Bnd, e = .returned (.agg #[.string m.key, .bool m.top]) ∧ Hid (m = greater ⟨a, s⟩ ⟨b, t⟩) ∧ Kp [] w w' := by
  go_enter Tryz.func172, Tryz.ntmps172
  go_wp2_with (first | (go_at_call 160; refine (compare_p).mono ?_; rintro e w' ⟨rfl, hb⟩; obtain ⟨hc, hf, hz⟩ := kcell hb))
  · exact bodyPost_ret (v := .agg #[.string b, .bool t]) (by simp [results, Tryz.results172, go_sem, *]) rfl ⟨⟨b, t⟩, rfl, by simp [Hid, greater, *], by (repeat (first | exact Kp.refl _ _ | apply Kp.alloc | apply Kp.drew | apply Kp.drewN | (refine Kp.setCell ?_ (Or.inr (by dsimp only; omega)) _) | (refine Kp.trans ?_ (by assumption))))⟩
  · exact bodyPost_ret (v := .agg #[.string a, .bool s]) (by simp [results, Tryz.results172, go_sem, *]) rfl ⟨⟨a, s⟩, rfl, by unfold Hid greater; rw [if_neg (by omega)], by (repeat (first | exact Kp.refl _ _ | apply Kp.alloc | apply Kp.drew | apply Kp.drewN | (refine Kp.setCell ?_ (Or.inr (by dsimp only; omega)) _) | (refine Kp.trans ?_ (by assumption))))⟩
end Go.Proofs.YtohpjdeohpamaaaGreatDoor
namespace Go.Proofs.YtohpjdeohpamaaaGreatDoor
open Go.RowKit

inductive Cut (hi : Bnd) : Bnd → List Rng → Prop
  | last {lo : Bnd} : Cut hi lo [⟨lo, hi⟩]
  | cons {lo b : Bnd} {l : List Rng} : lo.lt b = true → b.lt hi = true → vb b = true → Cut hi b l → Cut hi lo (⟨lo, b⟩ :: l)
def CutTo (lo hi x : Bnd) (out : List Rng) : Prop := ∀ t, Cut hi x t → Cut hi lo (out ++ t)
theorem CutTo.nil {lo hi : Bnd} : CutTo lo hi lo [] := fun _ h => h
theorem CutTo.snoc {lo hi x b : Bnd} {out : List Rng} (h : CutTo lo hi x out) (h1 : x.lt b = true) (h2 : b.lt hi = true) (h3 : vb b = true) : CutTo lo hi b (out ++ [⟨x, b⟩]) := fun t ht => by
  rw [List.append_assoc]; exact h _ (.cons h1 h2 h3 ht)
theorem CutTo.done {lo hi x : Bnd} {out : List Rng} (h : CutTo lo hi x out) : Cut hi lo (out ++ [⟨x, hi⟩]) := h _ .last
end Go.Proofs.YtohpjdeohpamaaaGreatDoor
namespace Go.Proofs.YtohpjdeohpamaaaGreatDoor
open Go.RowKit

def mrg : Rng → List Rng → List Rng
  | c, [] => [c]
  | c, r :: l => if cmp r.lo c.hi ≤ 0 then mrg ⟨c.lo, greater c.hi r.hi⟩ l else c :: mrg r l
def mrgAll : List Rng → List Rng
  | [] => []
  | r :: l => mrg r l
def ne (r : Rng) : Bool := !emp r
def leLo (x y : Rng) : Bool := !(y.lo.lt x.lo)
def union (l : List Rng) : List Rng := mrgAll ((l.filter ne).mergeSort leLo)

structure Nrm (l : List Rng) : Prop where
  ne : ∀ r ∈ l, emp r = false
  gap : l.Pairwise fun x y => x.hi.lt y.lo = true
def Pt (l : List Rng) (b : Bnd) : Prop := ∃ r ∈ l, b.lt r.lo = false ∧ b.lt r.hi = true
abbrev Srt (l : List Rng) : Prop := l.Pairwise fun x y => y.lo.lt x.lo = false

theorem pt_cons {x : Rng} {l : List Rng} {b : Bnd} : Pt (x :: l) b ↔ (b.lt x.lo = false ∧ b.lt x.hi = true) ∨ Pt l b := by simp [Pt]
theorem pt_nil {b : Bnd} : ¬ Pt [] b := by simp [Pt]
theorem pt_perm {l m : List Rng} (h : l.Perm m) {b : Bnd} : Pt l b ↔ Pt m b := by simp only [Pt, h.mem_iff]
theorem Nrm.tail {x : Rng} {l : List Rng} (h : Nrm (x :: l)) : Nrm l := ⟨fun r hr => h.ne r (List.mem_cons_of_mem _ hr), (List.pairwise_cons.1 h.gap).2⟩
theorem Nrm.far {x : Rng} {l : List Rng} (h : Nrm (x :: l)) {b : Bnd} (hb : vb b = true) (hp : Pt l b) : x.hi.lt b = true ∧ x.lo.lt b = true := by
  obtain ⟨r, hr, h1, h2⟩ := hp
  have g := (List.pairwise_cons.1 h.gap).1 r hr
  have a := (emp_iff x).1 (h.ne x List.mem_cons_self)
  have c := (emp_iff r).1 (h.ne r (List.mem_cons_of_mem _ hr))
  have k := lt_le c.1 hb g h1
  exact ⟨k, lt_trans a.2.2 k⟩
theorem nrm_ext : ∀ {l m : List Rng}, Nrm l → Nrm m → (∀ b, vb b = true → (Pt l b ↔ Pt m b)) → l = m
  | [], [], _, _, _ => rfl
  | [], y :: m, _, hm, h => by
    have c := (emp_iff y).1 (hm.ne y List.mem_cons_self)
    exact absurd ((h y.lo c.1).2 (pt_cons.2 (.inl ⟨lt_irrefl _, c.2.2⟩))) pt_nil
  | x :: l, [], hl, _, h => by
    have c := (emp_iff x).1 (hl.ne x List.mem_cons_self)
    exact absurd ((h x.lo c.1).1 (pt_cons.2 (.inl ⟨lt_irrefl _, c.2.2⟩))) pt_nil
  | x :: l, y :: m, hl, hm, h => by
    have a := (emp_iff x).1 (hl.ne x List.mem_cons_self)
    have c := (emp_iff y).1 (hm.ne y List.mem_cons_self)
    have hlo : x.lo = y.lo := by
      refine lt_total a.1 c.1 ?_ ?_
      · rcases pt_cons.1 ((h x.lo a.1).1 (pt_cons.2 (.inl ⟨lt_irrefl _, a.2.2⟩))) with h1 | h1
        · exact h1.1
        · exact lt_asymm (hm.far a.1 h1).2
      · rcases pt_cons.1 ((h y.lo c.1).2 (pt_cons.2 (.inl ⟨lt_irrefl _, c.2.2⟩))) with h1 | h1
        · exact h1.1
        · exact lt_asymm (hl.far c.1 h1).2
    have hhi : x.hi = y.hi := by
      refine lt_total a.2.1 c.2.1 ?_ ?_
      · cases hh : x.hi.lt y.hi
        · rfl
        · rcases pt_cons.1 ((h x.hi a.2.1).2 (pt_cons.2 (.inl ⟨by rw [← hlo]; exact lt_asymm a.2.2, hh⟩))) with h1 | h1
          · rw [lt_irrefl] at h1; exact absurd h1.2 (by simp)
          · have := (hl.far a.2.1 h1).1; rw [lt_irrefl] at this; exact this.symm
      · cases hh : y.hi.lt x.hi
        · rfl
        · rcases pt_cons.1 ((h y.hi c.2.1).1 (pt_cons.2 (.inl ⟨by rw [hlo]; exact lt_asymm c.2.2, hh⟩))) with h1 | h1
          · rw [lt_irrefl] at h1; exact absurd h1.2 (by simp)
          · have := (hm.far c.2.1 h1).1; rw [lt_irrefl] at this; exact this.symm
    obtain rfl : x = y := by cases x; cases y; simp only at hlo hhi; rw [hlo, hhi]
    congr 1
    refine nrm_ext hl.tail hm.tail fun b hb => ⟨fun hp => ?_, fun hp => ?_⟩
    · have f := (hl.far hb hp).1
      rcases pt_cons.1 ((h b hb).1 (pt_cons.2 (.inr hp))) with h1 | h1
      · rw [lt_asymm f] at h1; exact absurd h1.2 (by simp)
      · exact h1
    · have f := (hm.far hb hp).1
      rcases pt_cons.1 ((h b hb).2 (pt_cons.2 (.inr hp))) with h1 | h1
      · rw [lt_asymm f] at h1; exact absurd h1.2 (by simp)
      · exact h1

theorem mrg_lo : ∀ (l : List Rng) (c : Rng), (∀ r ∈ l, r.lo.lt c.lo = false) → Srt l → ∀ r ∈ mrg c l, r.lo.lt c.lo = false
  | [], c, _, _, r, hr => by simp [mrg] at hr; subst hr; exact lt_irrefl _
  | x :: l, c, hc, hs, r, hr => by
    have hs' := List.pairwise_cons.1 hs
    unfold mrg at hr
    split at hr
    · exact mrg_lo l ⟨c.lo, greater c.hi x.hi⟩ (fun r hr => hc r (List.mem_cons_of_mem _ hr)) hs'.2 r hr
    · rcases List.mem_cons.1 hr with rfl | hr
      · exact lt_irrefl _
      · have h1 := mrg_lo l x hs'.1 hs'.2 r hr
        have h2 := hc x List.mem_cons_self
        cases h3 : r.lo.lt c.lo
        · rfl
        · rename_i h4
          exfalso
          have h5 : c.hi.lt x.lo = true := (cmp_pos _ _).1 (by omega)
          simp only [Bnd.lt, Bool.and_eq_true, Bool.or_eq_true, Bool.not_eq_true', Bool.and_eq_false_iff, Bool.not_eq_false', Bool.or_eq_false_iff] at *
          grind [bytesLess_trans, bytesLess_total, bytesLess_asymm]
theorem mrg_nrm : ∀ (l : List Rng) (c : Rng), emp c = false → (∀ r ∈ l, emp r = false) → (∀ r ∈ l, r.lo.lt c.lo = false) → Srt l → Nrm (mrg c l) ∧ ∀ b, vb b = true → (Pt (mrg c l) b ↔ Pt (c :: l) b)
  | [], c, h, _, _, _ => ⟨⟨by simp [mrg, h], by simp [mrg]⟩, fun b _ => Iff.rfl⟩
  | x :: l, c, h, hn, hc, hs => by
    have hs' := List.pairwise_cons.1 hs
    have a := (emp_iff c).1 h
    have hx := (emp_iff x).1 (hn x List.mem_cons_self)
    have hlo := hc x List.mem_cons_self
    unfold mrg
    split
    · rename_i h1
      have h1' : c.hi.lt x.lo = false := by
        cases h2 : c.hi.lt x.lo
        · rfl
        · have := (cmp_pos x.lo c.hi).2 h2; omega
      have hg := greater_vb a.2.1 hx.2.1
      have hcg : emp ⟨c.lo, greater c.hi x.hi⟩ = false := by
        refine (emp_iff _).2 ⟨a.1, hg, ?_⟩
        simp only [greater_if]; split
        · rename_i h2; exact lt_trans a.2.2 h2
        · exact a.2.2
      obtain ⟨g1, g2⟩ := mrg_nrm l ⟨c.lo, greater c.hi x.hi⟩ hcg (fun r hr => hn r (List.mem_cons_of_mem _ hr)) (fun r hr => hc r (List.mem_cons_of_mem _ hr)) hs'.2
      refine ⟨g1, fun b hb => (g2 b hb).trans ?_⟩
      simp only [pt_cons]
      rw [← or_assoc]
      refine or_congr ?_ Iff.rfl
      have e1 := a.1; have e2 := a.2.1; have e3 := a.2.2; have e4 := hx.1; have e5 := hx.2.1; have e6 := hx.2.2
      simp only [greater_if]
      constructor
      · rintro ⟨k1, k2⟩
        split at k2
        · cases hbc : b.lt c.hi
          · right; refine ⟨?_, k2⟩
            cases hq : b.lt x.lo
            · rfl
            · exfalso; have := le_lt hb e2 hbc hq; rw [this] at h1'; cases h1'
          · left; exact ⟨k1, rfl⟩
        · left; exact ⟨k1, k2⟩
      · rintro (⟨k1, k2⟩ | ⟨k1, k2⟩)
        · refine ⟨k1, ?_⟩
          split
          · rename_i h2; exact lt_trans k2 h2
          · exact k2
        · refine ⟨?_, ?_⟩
          · cases hq : b.lt c.lo
            · rfl
            · exfalso; have := lt_le e1 e4 hq hlo; rw [this] at k1; cases k1
          · split
            · exact k2
            · rename_i h2; exact lt_le e5 e2 k2 (by simpa using h2)
    · rename_i h1
      have h1' : c.hi.lt x.lo = true := (cmp_pos _ _).1 (by omega)
      obtain ⟨g1, g2⟩ := mrg_nrm l x (hn x List.mem_cons_self) (fun r hr => hn r (List.mem_cons_of_mem _ hr)) hs'.1 hs'.2
      refine ⟨⟨fun r hr => ?_, List.pairwise_cons.2 ⟨fun r hr => ?_, g1.gap⟩⟩, fun b hb => ?_⟩
      · rcases List.mem_cons.1 hr with rfl | hr
        · exact h
        · exact g1.ne r hr
      · exact lt_le hx.1 ((emp_iff r).1 (g1.ne r hr)).1 h1' (mrg_lo l x hs'.1 hs'.2 r hr)
      · rw [pt_cons, pt_cons, g2 b hb]
theorem mrgAll_nrm {l : List Rng} (hn : ∀ r ∈ l, emp r = false) (hs : Srt l) : Nrm (mrgAll l) ∧ ∀ b, vb b = true → (Pt (mrgAll l) b ↔ Pt l b) := by
  cases l with
  | nil => exact ⟨⟨by simp [mrgAll], by simp [mrgAll]⟩, fun _ _ => Iff.rfl⟩
  | cons x l =>
    have hs' := List.pairwise_cons.1 hs
    exact mrg_nrm l x (hn x List.mem_cons_self) (fun r hr => hn r (List.mem_cons_of_mem _ hr)) hs'.1 hs'.2
theorem mem_ne {l : List Rng} {r : Rng} (h : r ∈ l.filter ne) : emp r = false := by simpa [ne] using (List.mem_filter.1 h).2
theorem leLo_total (l : List Rng) (a b : Rng) : (leLo a b || leLo b a) = true := by
  simp only [leLo, Bool.or_eq_true, Bool.not_eq_true']
  cases h : b.lo.lt a.lo
  · exact .inl rfl
  · exact .inr (lt_asymm h)
theorem leLo_trans (a b c : Rng) (h : leLo a b = true) (k : leLo b c = true) : leLo a c = true := by
  simp only [leLo, Bool.not_eq_true'] at *
  simp only [Bnd.lt, Bool.and_eq_false_iff, Bool.not_eq_false', Bool.or_eq_false_iff] at *
  grind [bytesLess_trans, bytesLess_total, bytesLess_asymm]
theorem union_of_sorted {l s : List Rng} (hp : s.Perm (l.filter ne)) (hs : Srt s) : mrgAll s = union l := by
  have hn : ∀ r ∈ s, emp r = false := fun r hr => mem_ne (hp.mem_iff.1 hr)
  have hp2 : ((l.filter ne).mergeSort leLo).Perm (l.filter ne) := List.mergeSort_perm _ _
  have hs2 : Srt ((l.filter ne).mergeSort leLo) := by
    have := List.pairwise_mergeSort (le := leLo) leLo_trans (leLo_total l) (l.filter ne)
    exact this.imp fun h => by simpa [leLo] using h
  have g1 := mrgAll_nrm hn hs
  have g2 := mrgAll_nrm (fun r hr => mem_ne (hp2.mem_iff.1 hr)) hs2
  exact nrm_ext g1.1 g2.1 fun b hb => (g1.2 b hb).trans ((pt_perm (hp.trans hp2.symm)).trans (g2.2 b hb).symm)
theorem filter_ne {l : List Rng} (h : ∀ r ∈ l, emp r = false) : l.filter ne = l := List.filter_eq_self.2 fun r hr => by simp [ne, h r hr]
end Go.Proofs.YtohpjdeohpamaaaGreatDoor
namespace Go.Proofs.YtohpjdeohpamaaaGreatDoor
open Go.RowKit
attribute [local irreducible] contains emp vld vb vk adj isect hull proper greater lesser greatest least cmp Bnd.lt Op.bytesLess Calls Oper.wp wpList Code.wp Oper.upon
theorem empty_p_w (x : Rng) {w : World} : Calls Tryz.prog 169 #[.agg #[.string x.lo.key, .bool x.lo.top, .string x.hi.key, .bool x.hi.top]] w fun e w' => e = .returned (.bool (emp x)) ∧ Kp [] w w' := empty_p
def fidx (l : List Rng) : Int := if l.any emp then (l.findIdx emp : Int) else -1
set_option maxHeartbeats 1000000 in
theorem indexFunc_e {p : Option Addr} {n c : Nat} {l : List Rng} {w : World} (h1 : Rd w 4 (.slice p n c) n (rvals l)) (hn : n ≤ 1000000) :
    Calls Tryz.prog 204 #[.slice p n c, .func (.func 169) #[] #[]] w fun e w' => e = .returned (.int .i64 (fidx l)) ∧ Kp [] w w' := by
  have hl : l.length = n := h1.count rvz (by decide)
  have Hl := Lib.hid hl
  clear hl
  obtain ⟨tt, htt⟩ : ∃ tt, tt = fidx l := ⟨_, rfl⟩
  rw [← htt]
  have Ht := Lib.hid htt
  clear htt
  go_enter Tryz.func204, Tryz.ntmps204
  have hR := Rep.refl w
  generalize w = w0 at hR h1
  go_wp2_with (first | (refine wl_ld hR ?_) | (refine wl_st hR ?_; (try clear hF); clear hR; intro w hR; have hF := hR.fx) | (refine wl_mem hR ?_; (try clear hF); clear hR; intro w B hR; have hF := hR.fx))
  go_loopw [8] (fun i wr => ∃ k : Nat, i = .int .i64 k ∧ k ≤ n ∧ Hid (∀ j r, j < k → l[j]? = some r → emp r = false) ∧ Rep w0 nof [] [] wr) (fun i _ => n - (intOf i).toNat)
  case atStart => exact ⟨0, rfl, Nat.zero_le _, Lib.hid (fun j r hj => by omega), hR⟩
  case round =>
    obtain ⟨k, rfl, hk, hno, hR⟩ := hrel
    by_cases hlt : k < n
    · have hlt' : (k : Int) < (n : Int) := by omega
      obtain ⟨r, hr⟩ : ∃ r, l[k]? = some r := ⟨l[k]'(by rw [Hl.out]; exact hlt), List.getElem?_eq_getElem _⟩
      obtain ⟨b, o, rfl, hR⟩ := h1.rw.elem rvz (by decide) hr hR
      have Hr := Lib.hid hr
      clear hr
      simp only [Rng.vals] at hR
      have hF := hR.fx
      cases he : emp r
      · go_wp2_with (first | (refine wl_ld hR ?_) | (refine wl_st hR ?_; (try clear hF); clear hR; intro w hR; have hF := hR.fx) | (refine wl_mem hR ?_; (try clear hF); clear hR; intro w B hR; have hF := hR.fx) | (go_at_call 169; refine (empty_p_w r).mono ?_; rintro e w ⟨rfl, hb⟩; replace hR := hR.kp0 hb; (try clear hF); clear hb; have hF := hR.fx))
        go_roundw
        case rel => exact ⟨k + 1, by go_num, by omega, Lib.hid (fun j x hj hx => by
          by_cases hjk : j = k
          · subst hjk; rw [Hr.out] at hx; obtain rfl := Option.some.inj hx; exact he
          · exact hno.out j x (by omega) hx), hR.sub sub_any sub_any⟩
        case measure => simp [intOf]; omega
      · go_wp2_with (first | (refine wl_ld hR ?_) | (refine wl_st hR ?_; (try clear hF); clear hR; intro w hR; have hF := hR.fx) | (refine wl_mem hR ?_; (try clear hF); clear hR; intro w B hR; have hF := hR.fx) | (go_at_call 169; refine (empty_p_w r).mono ?_; rintro e w ⟨rfl, hb⟩; replace hR := hR.kp0 hb; (try clear hF); clear hb; have hF := hR.fx))
        go_ret
        refine ⟨?_, hR.kp_nof⟩
        have h1 : l.findIdx emp = k := by
          rw [List.findIdx_eq (by rw [Hl.out]; exact hlt)]
          refine ⟨?_, fun j hj => ?_⟩
          · rw [(List.getElem?_eq_some_iff.1 Hr.out).2]; exact he
          · simpa using hno.out j _ hj (List.getElem?_eq_getElem (by rw [Hl.out]; omega))
        have h2 : l.any emp = true := List.any_eq_true.2 ⟨r, List.mem_of_getElem? Hr.out, he⟩
        rw [Ht.out]; simp [fidx, h1, h2]
    · obtain rfl : k = n := by omega
      go_wp2
      go_ret
      refine ⟨?_, hR.kp_nof⟩
      have h2 : l.any emp = false := by
        rw [List.any_eq_false]; intro x hx
        obtain ⟨j, hj, rfl⟩ := List.mem_iff_getElem.1 hx
        simpa using hno.out j _ (by rw [← Hl.out]; exact hj) (List.getElem?_eq_getElem hj)
      rw [Ht.out]; simp [fidx, h2]
end Go.Proofs.YtohpjdeohpamaaaGreatDoor
namespace Go.Proofs.YtohpjdeohpamaaaGreatDoor
open Go.RowKit
attribute [local irreducible] contains emp vld vb vk adj isect hull proper greater lesser greatest least cmp Bnd.lt Op.bytesLess Calls Oper.wp wpList Code.wp Oper.upon
theorem filter_all {l : List Rng} (h : l.any emp = false) : l.filter ne = l := filter_ne fun r hr => by
  have := List.any_eq_false.1 h r hr; simpa using this
theorem take_snoc {l : List Rng} {j : Nat} {r : Rng} (h : l[j]? = some r) : l.take (j + 1) = l.take j ++ [r] := by
  rw [List.take_add_one, h]; rfl
set_option maxRecDepth 100000 in
set_option maxHeartbeats 4000000 in
theorem deleteFunc_e {w0 w : World} {X : Fr} {R : List Win} {S sl pre post : List OB} {v : Value} {n : Nat} {l : List Rng} (hR : Rep w0 X R S w) (hO : OS sl 77 4 v n (rvals l)) (hC : Ctx S sl pre post) (hn : n ≤ 1000000) :
    Calls Tryz.prog 167 #[v, .func (.func 169) #[] #[]] w fun e w' => ∃ v' sl', e = .returned v' ∧ OS sl' 77 4 v' (l.filter ne).length (rvals (l.filter ne)) ∧ Rep w0 X R (pre ++ (sl' ++ post)) w' := by
  have hl : l.length = n := (hO.rdC hR hC).count rvz (by decide)
  have Hl := Lib.hid hl
  clear hl
  obtain ⟨g0, c0, hv⟩ : ∃ p c, v = .slice p n c := by obtain ⟨p, c, e, -⟩ := (hO.rdC hR hC).ex; exact ⟨p, c, e⟩
  have e := hC.eq
  subst e
  clear hC
  subst hv
  cases ha : l.any emp
  · have hf : fidx l = -1 := by simp [fidx, ha]
    have hff := filter_all ha
    have H2 := indexFunc_e (hO.rdC hR CtxI.out) hn
    rw [hf] at H2
    rw [hff, Hl.out]
    clear hf hff ha
    go_enter Tryz.func167, Tryz.ntmps167
    go_wp2_with (first | (refine wl_ld hR ?_) | (refine wl_st hR ?_; (try clear hF); clear hR; intro w hR; have hF := hR.fx) | (refine wl_mem hR ?_; (try clear hF); clear hR; intro w B hR; have hF := hR.fx) | (go_at_call 204; refine (H2).mono ?_; rintro e w ⟨rfl, hb⟩; replace hR := hR.kp0 hb; (try clear hF); clear hb; have hF := hR.fx))
    go_ret
    exact ⟨_, _, rfl, hO, hR⟩
  · obtain ⟨i0, hi0⟩ : ∃ i0, l.findIdx emp = i0 := ⟨_, rfl⟩
    have hi1 : i0 < l.length := by rw [← hi0, List.findIdx_lt_length]; simpa using ha
    have hf : fidx l = (i0 : Int) := by simp [fidx, ha, hi0]
    have hpre : (l.take (i0 + 1)).filter ne = l.take i0 := by
      have h1 : ne l[i0] = false := by
        have := List.findIdx_getElem (p := emp) (xs := l) (w := by rw [hi0]; exact hi1)
        simp only [hi0] at this; simp [ne, this]
      rw [take_snoc (List.getElem?_eq_getElem hi1), List.filter_append, List.filter_cons, h1]
      simp only [Bool.false_eq_true, if_false, List.filter_nil, List.append_nil]
      refine filter_ne fun r hr => ?_
      obtain ⟨j, hj, rfl⟩ := List.mem_iff_getElem.1 hr
      have hj' : j < i0 := by simp at hj; omega
      have := List.not_of_lt_findIdx (p := emp) (xs := l) (i := j) (by rw [hi0]; exact hj')
      simpa using this
    have hin : i0 < n := by rw [← Hl.out]; exact hi1
    obtain ⟨g, rfl⟩ : ∃ g, g0 = some ⟨g, 0, none⟩ := by
      rcases hO.2 with ⟨-, -, h0⟩ | ⟨g, cap, sp, -, e, -⟩
      · omega
      · simp only [Value.slice.injEq] at e; exact ⟨g, e.1⟩
    have hcap : n ≤ c0 := by
      rcases hO.2 with ⟨-, -, h0⟩ | ⟨g, cap, sp, -, e, h2, -⟩
      · omega
      · simp only [Value.slice.injEq] at e; rw [e.2.2]; exact h2
    have H2 := indexFunc_e (hO.rdC hR CtxI.out) hn
    rw [hf] at H2
    have hne : ¬ ((i0 : Int) = -1) := by omega
    have Hp := Lib.hid hpre
    clear hf hpre hi1 hi0 ha
    go_enter Tryz.func167, Tryz.ntmps167
    go_wp2_with (first | (refine wl_ld hR ?_) | (refine wl_st hR ?_; (try clear hF); clear hR; intro w hR; have hF := hR.fx) | (refine wl_mem hR ?_; (try clear hF); clear hR; intro w B hR; have hF := hR.fx) | (go_at_call 204; refine (H2).mono ?_; rintro e w ⟨rfl, hb⟩; replace hR := hR.kp0 hb; (try clear hF); clear hb; have hF := hR.fx))
    have hb0 : ((i0 : Int) == -1) = false := by simp
    simp only [hb0]
    clear hb0
    rename (((i0 : Int) == -1) = false) => hb1
    clear hb1
    go_loopw [5, 6] (fun i j wr => ∃ i' j' : Nat, ∃ cur sl, i = .int .i64 i' ∧ j = .int .i64 j' ∧ i' < j' ∧ j' ≤ n ∧ OS sl 77 4 (.slice (some ⟨g, 0, none⟩) n c0) n (rvals cur) ∧ Hid (cur.length = n) ∧ Hid (cur.take i' = (l.take j').filter ne) ∧ Hid (cur.drop j' = l.drop j') ∧ Rep w0 X R (pre ++ (sl ++ post)) wr) (fun _ j _ => n - (intOf j).toNat)
    case atStart => exact ⟨i0, i0 + 1, l, sl, rfl, by go_num, by omega, by omega, hO, Hl, Lib.hid Hp.out.symm, Lib.hid rfl, hR⟩
    case round =>
      obtain ⟨i, j, cur, sl, rfl, rfl, hij, hjn, hO, hcl, ht, hd, hR⟩ := hrel
      clear H2
      by_cases hlt : j < n
      · have hlt' : (j : Int) < (n : Int) := by omega
        obtain ⟨r, hr⟩ : ∃ r, l[j]? = some r := ⟨l[j]'(by rw [Hl.out]; exact hlt), List.getElem?_eq_getElem _⟩
        have hr2 : cur[j]? = some r := by
          have := congrArg (fun x => x[0]?) hd.out
          simpa [hr] using this
        have hv : ((rvals cur).drop (j * 4)).take 4 = [.string r.lo.key, .bool r.lo.top, .string r.hi.key, .bool r.hi.top] := fl_elem rvz hr2
        have hov : j * 4 + 4 ≤ (rvals cur).length := by rw [rvals_length, hcl.out]; omega
        have hoi : i * 4 + 4 ≤ (rvals cur).length := by rw [rvals_length, hcl.out]; omega
        have Hv := Lib.hid hv
        have Hov := Lib.hid hov
        have Hoi := Lib.hid hoi
        have Hr := Lib.hid hr
        clear hv hov hoi hr hr2
        have hi0 : (0 : Int) ≤ (i : Int) := by omega
        have hin' : (i : Int) < (n : Int) := by omega
        cases he : emp r
        · go_wp2_with (first | (refine wpList_ld_os hR rfl rfl hO CtxI.out rfl (by exact inferInstance) (by exact rfl) Hov.out Hv.out (by simp only [Act.put, List.setIfInBounds_toArray, List.set_cons_zero, List.set_cons_succ, ldW, if_true, Bool.false_eq_true, if_false, List.headD_cons]; exact rfl) ?_) | (refine wpList_st_os hR rfl rfl rfl hO CtxI.out rfl rfl (by exact inferInstance) Hoi.out (by exact rfl) ?_; (try clear hF); clear hR; intro sl w hO hR; (try simp only [List.cons_append, List.nil_append] at hR); have hF := hR.fx) | (refine wl_ld hR ?_) | (refine wl_st hR ?_; (try clear hF); clear hR; intro w hR; have hF := hR.fx) | (refine wl_mem hR ?_; (try clear hF); clear hR; intro w B hR; have hF := hR.fx) | (go_at_call 169; refine (empty_p_w r).mono ?_; rintro e w ⟨rfl, hb⟩; replace hR := hR.kp0 hb; (try clear hF); clear hb; have hF := hR.fx))
          have hst : stL (i * 4) [.string r.lo.key, .bool r.lo.top, .string r.hi.key, .bool r.hi.top] (rvals cur) = rvals (cur.set i r) := stL_rvals r cur i (by rw [hcl.out]; omega)
          rw [hst] at hO
          go_roundw
          case rel =>
            refine ⟨i + 1, j + 1, cur.set i r, sl, by go_num, by go_num, by omega, by omega, hO, Lib.hid (by rw [List.length_set]; exact hcl.out), Lib.hid ?_, Lib.hid ?_, by simpa only [List.append_nil] using hR.sub sub_any⟩
            · rw [take_snoc Hr.out, List.filter_append, List.filter_cons_of_pos (by simp [ne, he]), List.filter_nil, ← ht.out]
              rw [take_snoc (r := r) (by rw [List.getElem?_set_self (by rw [hcl.out]; omega)]), List.take_set_of_le (Nat.le_refl _)]
            · rw [List.drop_set_of_lt (by omega)]
              have := congrArg (fun x => x.drop 1) hd.out
              simpa [List.drop_drop, Nat.add_comm] using this
          case measure => simp [intOf]; omega
        · go_wp2_with (first | (refine wpList_ld_os hR rfl rfl hO CtxI.out rfl (by exact inferInstance) (by exact rfl) Hov.out Hv.out (by simp only [Act.put, List.setIfInBounds_toArray, List.set_cons_zero, List.set_cons_succ, ldW, if_true, Bool.false_eq_true, if_false, List.headD_cons]; exact rfl) ?_) | (refine wl_ld hR ?_) | (refine wl_st hR ?_; (try clear hF); clear hR; intro w hR; have hF := hR.fx) | (refine wl_mem hR ?_; (try clear hF); clear hR; intro w B hR; have hF := hR.fx) | (go_at_call 169; refine (empty_p_w r).mono ?_; rintro e w ⟨rfl, hb⟩; replace hR := hR.kp0 hb; (try clear hF); clear hb; have hF := hR.fx))
          go_roundw
          case rel =>
            refine ⟨i, j + 1, cur, sl, by go_num, by go_num, by omega, by omega, hO, hcl, Lib.hid ?_, Lib.hid ?_, hR.sub sub_any⟩
            · rw [take_snoc Hr.out, List.filter_append, List.filter_cons_of_neg (by simp [ne, he]), List.filter_nil, List.append_nil]; exact ht.out
            · have := congrArg (fun x => x.drop 1) hd.out
              simpa [List.drop_drop, Nat.add_comm] using this
          case measure => simp [intOf]; omega
      · obtain rfl : j = n := by omega
        go_wp2_with (first | (refine wl_ld hR ?_) | (refine wl_st hR ?_; (try clear hF); clear hR; intro w hR; have hF := hR.fx) | (refine wl_mem hR ?_; (try clear hF); clear hR; intro w B hR; have hF := hR.fx) | (refine wpList_clear_os hR rfl rfl rfl rfl (by exact inferInstance) ZeroI.out rfl hO CtxI.out (by omega) (by omega) ?_; (try clear hF); clear hR; intro sl w hO hR; have hF := hR.fx))
        have hst : (rvals cur).take (i * 4) = rvals (l.filter ne) := by
          rw [rvals_take, ht.out, List.take_of_length_le (by rw [Hl.out]; exact Nat.le_refl _)]
        rw [hst] at hO
        have hli : (l.filter ne).length = i := by
          have := hO.1; rw [rvals_length] at this; omega
        rw [hli]
        go_ret
        exact ⟨_, _, rfl, hO, by simpa only [List.append_nil] using hR⟩
end Go.Proofs.YtohpjdeohpamaaaGreatDoor
namespace Go.Proofs
open Go.Shelf
def Tryz.sortR_ren : Go.Shelf.Ren := ⟨fun | 6 => 170 | 15 => 206 | 14 => 205 | 28 => 273 | 29 => 274 | 20 => 265 | 21 => 266 | 22 => 267 | 23 => 268 | 24 => 269 | 25 => 270 | 26 => 271 | 27 => 272 | 46 => 313 | 47 => 314 | 48 => 315 | 49 => 316 | 50 => 317 | 57 => 328 | n => n, fun | 22 => 23 | 24 => 77 | 25 => 250 | 3 => 3 | 39 => 283 | 0 => 0 | 53 => 158 | 55 => 348 | 4 => 4 | 46 => 341 | 45 => 340 | 50 => 48 | 5 => 5 | 9 => 9 | 66 => 387 | 70 => 391 | 76 => 405 | 77 => 240 | n => n, fun | n => n⟩
theorem Tryz.sortR : Go.Proofs.SlLaysF0.n6 Tryz.prog Tryz.sortR_ren := {
  mixed := by kernel_rfl
  f6 := ⟨Tryz.f170.name, by decide, Tryz.func170.trans (congrArg some (by kernel_rfl))⟩
  f14 := ⟨Tryz.f205.name, by decide, Tryz.func205.trans (congrArg some (by kernel_rfl))⟩
  f15 := Tryz.func206.trans (congrArg some (by kernel_rfl))
  f20 := ⟨Tryz.f265.name, by decide, Tryz.func265.trans (congrArg some (by kernel_rfl))⟩
  f21 := ⟨Tryz.f266.name, by decide, Tryz.func266.trans (congrArg some (by kernel_rfl))⟩
  f22 := ⟨Tryz.f267.name, by decide, Tryz.func267.trans (congrArg some (by kernel_rfl))⟩
  f23 := ⟨Tryz.f268.name, by decide, Tryz.func268.trans (congrArg some (by kernel_rfl))⟩
  f24 := ⟨Tryz.f269.name, by decide, Tryz.func269.trans (congrArg some (by kernel_rfl))⟩
  f25 := ⟨Tryz.f270.name, by decide, Tryz.func270.trans (congrArg some (by kernel_rfl))⟩
  f26 := ⟨Tryz.f271.name, by decide, Tryz.func271.trans (congrArg some (by kernel_rfl))⟩
  f27 := ⟨Tryz.f272.name, by decide, Tryz.func272.trans (congrArg some (by kernel_rfl))⟩
  f28 := Tryz.func273.trans (congrArg some (by kernel_rfl))
  f29 := Tryz.func274.trans (congrArg some (by kernel_rfl))
  f46 := ⟨Tryz.f313.name, by decide, Tryz.func313.trans (congrArg some (by kernel_rfl))⟩
  f47 := Tryz.func314.trans (congrArg some (by kernel_rfl))
  f48 := Tryz.func315.trans (congrArg some (by kernel_rfl))
  f49 := ⟨Tryz.f316.name, by decide, Tryz.func316.trans (congrArg some (by kernel_rfl))⟩
  f50 := ⟨Tryz.f317.name, by decide, Tryz.func317.trans (congrArg some (by kernel_rfl))⟩
  f57 := ⟨Tryz.f328.name, by decide, Tryz.func328.trans (congrArg some (by kernel_rfl))⟩
  t0 := Tryz.underlying0
  a0 := Tryz.isAgg0
  z0 := Tryz.sizeOf0
  v0 := Tryz.zeroValue0
  t3 := Tryz.underlying3
  a3 := Tryz.isAgg3
  z3 := Tryz.sizeOf3
  v3 := Tryz.zeroValue3
  t4 := Tryz.underlying4
  a4 := Tryz.isAgg4
  z4 := Tryz.sizeOf4
  v4 := Tryz.zeroValue4
  t5 := Tryz.underlying5
  a5 := Tryz.isAgg5
  z5 := Tryz.sizeOf5
  v5 := Tryz.zeroValue5
  t9 := Tryz.underlying9
  a9 := Tryz.isAgg9
  z9 := Tryz.sizeOf9
  v9 := Tryz.zeroValue9
  t22 := Tryz.underlying23
  a22 := Tryz.isAgg23
  z22 := Tryz.sizeOf23
  v22 := Tryz.zeroValue23
  t25 := Tryz.underlying250
  a25 := Tryz.isAgg250
  z25 := Tryz.sizeOf250
  v25 := Tryz.zeroValue250
  t39 := Tryz.underlying283
  a39 := Tryz.isAgg283
  z39 := Tryz.sizeOf283
  v39 := Tryz.zeroValue283
  t45 := Tryz.underlying340
  a45 := Tryz.isAgg340
  z45 := Tryz.sizeOf340
  v45 := Tryz.zeroValue340
  t46 := Tryz.underlying341
  a46 := Tryz.isAgg341
  z46 := Tryz.sizeOf341
  v46 := Tryz.zeroValue341
  t50 := Tryz.underlying48
  a50 := Tryz.isAgg48
  z50 := Tryz.sizeOf48
  v50 := Tryz.zeroValue48
  t53 := Tryz.underlying158
  a53 := Tryz.isAgg158
  z53 := Tryz.sizeOf158
  v53 := Tryz.zeroValue158
  t55 := Tryz.underlying348
  a55 := Tryz.isAgg348
  z55 := Tryz.sizeOf348
  v55 := Tryz.zeroValue348
  t66 := Tryz.underlying387
  a66 := Tryz.isAgg387
  z66 := Tryz.sizeOf387
  v66 := Tryz.zeroValue387
  t70 := Tryz.underlying391
  a70 := Tryz.isAgg391
  z70 := Tryz.sizeOf391
  v70 := Tryz.zeroValue391
  t76 := Tryz.underlying405
  a76 := Tryz.isAgg405
  z76 := Tryz.sizeOf405
  v76 := Tryz.zeroValue405
  t77 := Tryz.underlying240
  a77 := Tryz.isAgg240
  z77 := Tryz.sizeOf240
  v77 := Tryz.zeroValue240 }
end Go.Proofs
namespace Go.Proofs.YtohpjdeohpamaaaGreatDoor
open Go.RowKit Go.Shelf
attribute [local irreducible] contains emp vld vb vk adj isect hull proper greater lesser greatest least cmp Bnd.lt Op.bytesLess Calls Oper.wp wpList Code.wp Oper.upon
set_option maxRecDepth 100000 in
set_option maxHeartbeats 1000000 in
theorem clone_e {p : Option Addr} {n c : Nat} {l : List Rng} {w : World} (h1 : Rd w 4 (.slice p n c) n (rvals l)) (hn : n ≤ 1000000) :
    Calls Tryz.prog 168 #[.slice p n c] w fun e w' => ∃ v sl, e = .returned v ∧ OS sl 77 4 v n (rvals l) ∧ Rep w nof [] sl w' := by
  have q := fun w a n c n' c' => Lib.run_eql_slice_nil (P := Tryz.prog) w 23 _ a n c n' c' Tryz.underlying23
  cases p with
  | none =>
    obtain rfl : n = 0 := by
      obtain ⟨p, c', e, -, h⟩ := h1.ex
      rcases h with h | ⟨b, o, h, -⟩
      · exact h
      · simp only [Value.slice.injEq] at e; rw [h] at e; cases e.1
    obtain rfl : l = [] := by have := h1.count rvz (by decide); exact List.eq_nil_of_length_eq_zero this
    go_enter Tryz.func168, Tryz.ntmps168
    have hR := Rep.refl w
    generalize w = w0 at hR h1
    go_wp2_with (first | (refine wl_ld hR ?_) | (refine wl_st hR ?_; (try clear hF); clear hR; intro w hR; have hF := hR.fx) | (refine wl_mem hR ?_; (try clear hF); clear hR; intro w B hR; have hF := hR.fx))
    go_ret
    exact ⟨_, _, rfl, OS.nil _ _, hR⟩
  | some ad =>
    go_enter Tryz.func168, Tryz.ntmps168
    have hR := Rep.refl w
    generalize w = w0 at hR h1
    go_wp2_with (first | (refine wl_append (h1 := rvals_one l) hR rfl rfl rfl rfl rfl (OS.lit B 0 [] (by simp) (by decide)) (h1.kp hR.kp_nof) ?_; (try clear hF); clear hR; intro v sl w hO hR; have hF := hR.fx) | (refine wl_ld hR ?_) | (refine wl_st hR ?_; (try clear hF); clear hR; intro w hR; have hF := hR.fx) | (refine wl_mem hR ?_; (try clear hF); clear hR; intro w B hR; have hF := hR.fx))
    go_ret
    refine ⟨_, _, rfl, by simpa using hO, hR.sub sub_any⟩

instance : Inhabited Rng := ⟨zr⟩
open Go.Sort in
theorem flatK_fl {α : Type} [Inhabited α] {enc : α → List Value} {k : Nat} (hz : ∀ x, (enc x).length = k) (l : List α) : flatK enc k l.toArray = (fl enc l).toArray := by
  apply Array.ext_getElem?
  intro t
  have hl := fl_length hz l
  by_cases ht : t < l.length * k
  · have hk : 0 < k := Nat.pos_of_ne_zero fun h => by rw [h] at ht; omega
    have hi : t / k < l.length := (Nat.div_lt_iff_lt_mul hk).2 ht
    have hj : t % k < k := Nat.mod_lt t hk
    have h1 := fl_get hz (List.getElem?_eq_getElem hi) (j := t % k) (List.getElem?_eq_getElem (by rw [hz]; exact hj))
    rw [show t / k * k + t % k = t by rw [Nat.mul_comm]; exact Nat.div_add_mod t k] at h1
    rw [List.getElem?_toArray (xs := fl enc l), h1]
    simp only [flatK, Array.getElem?_map, Array.getElem?_range, List.size_toArray, ht, if_true, Option.map_some]
    congr 1
    rw [getElem!_pos l.toArray (t / k) (by simpa using hi), getElem!_pos _ (t % k) (by simp [hz, hj])]
    simp
  · rw [List.getElem?_toArray (xs := fl enc l), List.getElem?_eq_none (by omega), Array.getElem?_eq_none (by simp; omega)]
open Go.Sort in
theorem sorted_rep {w0 w : World} {X : Fr} {R : List Win} {S sl pre post : List OB} {E : TypeId} {n cap g m : Nat} {l s : List Rng} {os : Array Obj} (hR : Rep w0 X R S w) (hO : OS sl E 4 (.slice (some ⟨g, 0, none⟩) n cap) n (rvals l)) (hC : Ctx S sl pre post) (hs : s.length = l.length) :
    ∃ sl', OS sl' E 4 (.slice (some ⟨g, 0, none⟩) n cap) n (rvals s) ∧ Rep w0 X R (pre ++ (sl' ++ post)) (sortWorldK Rng.vals 4 w g 0 m s.toArray os) := by
  rcases hO.2 with ⟨-, e, -⟩ | ⟨g', cap', sp, rfl, e, h2, h3, h4⟩
  · simp at e
  · simp only [Value.slice.injEq, Option.some.injEq, Addr.mk.injEq, and_true, true_and] at e
    obtain ⟨rfl, rfl⟩ := e
    have hmem : (⟨g, E, rvals l ++ sp⟩ : OB) ∈ S := (sub_ctx hC).subset List.mem_cons_self
    have hg : w.heap[g]? = some (.cells (rvals l ++ sp).toArray E (0, 0)) := hR.own _ hmem
    have hlt : g < w.heap.size := hR.lt hmem
    have hsl : (rvals s).length = (rvals l).length := by rw [rvals_length, rvals_length, hs]
    refine ⟨[⟨g, E, rvals s ++ sp⟩], ⟨by rw [hsl]; exact hO.1, .inr ⟨g, cap, sp, rfl, rfl, h2, h3, by rw [List.length_append, hsl, ← List.length_append]; exact h4⟩⟩, ?_⟩
    have hF : flatK Rng.vals 4 s.toArray = (rvals s).toArray := flatK_fl rvz s
    refine hR.replace hC (B := g) (fun k hk hne => ?_) rfl rfl rfl ?_ ?_ (.inl ⟨_, List.mem_cons_self, rfl⟩)
    · simp only [sortWorldK, putRowK, putRow, mapBlock, grow]
      rw [Array.getElem?_append_left (by simpa [ahead] using hk), Array.getElem?_modify, if_neg (Ne.symm hne)]; rfl
    · simp [sortWorldK, putRowK, putRow, mapBlock, grow, ahead]
    · simp only [sortWorldK, putRowK, putRow, mapBlock, grow]
      rw [Array.getElem?_append_left (by simpa [ahead] using hlt), Array.getElem?_modify, if_pos rfl]
      have ha : (Go.Sort.ahead w m).heap[g]? = some (.cells (rvals l ++ sp).toArray E (0, 0)) := hg
      rw [ha, hF]
      simp only [Option.map_some, onCells]
      congr 2
      apply Array.ext_getElem?
      intro k
      simp only [putCells, Array.getElem?_mapIdx, List.getElem?_toArray, List.size_toArray, Nat.zero_le, true_and, Nat.zero_add, Nat.sub_zero, id]
      by_cases hk : k < (rvals s).length
      · rw [List.getElem?_append_left hk, List.getElem?_append_left (by omega), List.getElem?_eq_getElem hk, List.getElem?_eq_getElem (by omega)]
        simp only [Option.map_some, hk, if_true]
        rw [getElem!_pos _ k (by simpa using hk)]; simp
      · rw [List.getElem?_append_right (by omega), List.getElem?_append_right (by omega), hsl]
        have hk' : ¬ k < (rvals l).length := by omega
        cases sp[k - (rvals l).length]? <;> simp [hk']
open Go.Sort in
theorem holds_os {w0 w : World} {X : Fr} {R : List Win} {S sl pre post : List OB} {E : TypeId} {n cap g : Nat} {l : List Rng} (hR : Rep w0 X R S w) (hO : OS sl E 4 (.slice (some ⟨g, 0, none⟩) n cap) n (rvals l)) (hC : Ctx S sl pre post) : HoldsK Rng.vals 4 w g 0 l.toArray := by
  rcases hO.2 with ⟨-, e, -⟩ | ⟨g', cap', sp, rfl, e, h2, h3, h4⟩
  · simp at e
  · simp only [Value.slice.injEq, Option.some.injEq, Addr.mk.injEq, and_true, true_and] at e
    obtain ⟨rfl, rfl⟩ := e
    have hmem : (⟨g, E, rvals l ++ sp⟩ : OB) ∈ S := (sub_ctx hC).subset List.mem_cons_self
    have hg : w.heap[g]? = some (.cells (rvals l ++ sp).toArray E (0, 0)) := hR.own _ hmem
    unfold HoldsK
    rw [flatK_fl rvz l]
    intro j hj
    have hj' : j < (rvals l).length := by rw [rvals_fl]; simpa using hj
    constructor
    · rw [Nat.zero_add, hR.cells hmem]
      simp only [id]
      rw [List.getElem?_append_left hj', List.getElem?_eq_getElem hj', getElem!_pos _ j hj]; rfl
    · simp [World.frozen?, hg]
def cmpLo (x y : Rng) : Int := cmp x.lo y.lo
theorem ltOf_lo (x y : Rng) : Go.Proofs.ltOf cmpLo x y = x.lo.lt y.lo := by
  have := cmp_neg x.lo y.lo
  unfold Go.Proofs.ltOf cmpLo
  cases h : x.lo.lt y.lo
  · rw [h] at this; simpa using this
  · rw [h] at this; simpa using this
theorem swo_lo : Go.Sort.SWO (Go.Proofs.ltOf cmpLo) := by
  refine ⟨fun x => ?_, fun x y z h k => ?_, fun x y z h k => ?_⟩
  · rw [ltOf_lo]; exact lt_irrefl _
  · rw [ltOf_lo] at *; exact lt_trans h k
  · rw [ltOf_lo] at *
    have h1 := leLo_trans z y x (by simp [leLo, k]) (by simp [leLo, h])
    simpa [leLo] using h1
theorem compare_gp {a b : ByteArray} {s t : Bool} {w : World} :
    Calls Tryz.prog 160 #[.agg #[.string a, .bool s], .agg #[.string b, .bool t]] w fun e w' => e = .returned (.int .i64 (cmp ⟨a, s⟩ ⟨b, t⟩)) ∧ ∃ o1 o2, w' = (w.alloc o1).alloc o2 := by
  go_enter Tryz.func160, Tryz.ntmps160
  go_wp2
  all_goals go_ret
  all_goals refine ⟨ret_int ?_, _, _, rfl⟩
  all_goals first | (simp [cmp, Bnd.lt, *]; done) | (rename_i h1 h2; simp [cmp, Bnd.lt, *, bl_gt h1 h2]; done) | (rename_i h1 h2; simp [cmp, Bnd.lt, *, bl_ge h2]; done) | (rename_i h1; simp [cmp, Bnd.lt, *, bl_gt (by simpa using h1.1) h1.2, show Op.bytesLess a.toList b.toList = false by simpa using h1.1]; done) | (rename_i h1 h2; simp [cmp, Bnd.lt, *, bl_ge2 h1 h2]; done)
set_option maxRecDepth 100000 in
set_option maxHeartbeats 1000000 in
theorem closure_lo (x y : Rng) (w : World) : Calls Tryz.prog 171 #[.agg x.vals.toArray, .agg y.vals.toArray] w fun e w' => e = .returned (.int .i64 (cmpLo x y)) ∧ ∃ q os', w' = Go.Sort.grow (w.drewN q) os' := by
  simp only [Rng.vals, cmpLo]
  go_enter Tryz.func171, Tryz.ntmps171
  go_wp2_with (go_at_call 160; refine (compare_gp).mono ?_; rintro e w' ⟨rfl, o1, o2, rfl⟩)
  go_ret
  exact ⟨rfl, 0, _, by rw [Go.Sort.alloc_eq_grow, Go.Sort.alloc_eq_grow, Go.Sort.alloc_eq_grow, Go.Sort.alloc_eq_grow, Go.Sort.grow_grow, Go.Sort.grow_grow, Go.Sort.grow_grow]; rfl⟩
theorem sortFunc_e {w0 w : World} {X : Fr} {R : List Win} {S sl pre post : List OB} {v : Value} {n : Nat} {l : List Rng} (hR : Rep w0 X R S w) (hO : OS sl 77 4 v n (rvals l)) (hC : Ctx S sl pre post) (hn : n ≤ 1000000) :
    Calls Tryz.prog 170 #[v, .func (.func 171) #[] #[]] w fun e w' => e = .returned (.tuple #[]) ∧ ∃ s sl', s.Perm l ∧ Srt s ∧ OS sl' 77 4 v n (rvals s) ∧ Rep w0 X R (pre ++ (sl' ++ post)) w' := by
  have hl : l.length = n := (hO.rdC hR hC).count rvz (by decide)
  rcases hO.2 with ⟨hsl, hv, hn0⟩ | ⟨g, cap, sp, hsl, hv, -⟩
  · have h0 : l = [] := List.eq_nil_of_length_eq_zero (hl.trans hn0)
    subst h0 hv hn0
    refine (AnyF.slices_SortFunc_none Tryz.sortR none 0 _ w).mono ?_
    rintro e w' ⟨rfl, rfl⟩
    exact ⟨rfl, [], sl, List.Perm.refl _, .nil, hO, by rw [hC.eq] at hR; exact hR⟩
  · subst hv hl
    have eg : ∀ args w, (callFunc 171 args).run Tryz.prog w = .ok (.enter 171 args) w := enters_of Tryz.func171 (by kernel_rfl) rfl
    refine (AnyQ.slices_SortFunc Tryz.sortR 4 Tryz.isAgg77 Tryz.sizeOf77 Rng.vals rvz (fun x v hv => by have := List.all_eq_true.1 (show x.vals.all Value.oneCell' = true from rfl) v hv; exact this) cmpLo swo_lo 171 #[] g 0 cap l.toArray w eg (fun m os dk _ x y => (closure_lo x y _).mono fun e w' ⟨he, hk⟩ => ⟨he, hk⟩) (holds_os hR hO hC) (hR.lt ((sub_ctx hC).subset (by rw [hsl]; exact List.mem_cons_self))) (by simp; omega)).mono ?_
    rintro e w' ⟨rfl, d', m, os, hp, hs, rfl⟩
    obtain ⟨s, rfl⟩ : ∃ s : List Rng, d' = s.toArray := ⟨d'.toList, by simp⟩
    have hsz : s.length = l.length := by simpa using hp.1
    obtain ⟨sl', h1, h2⟩ := sorted_rep (m := m) (os := os) hR hO hC hsz
    refine ⟨rfl, s, sl', ?_, ?_, h1, h2⟩
    · have := hp.2.2
      simpa [hsz, List.take_of_length_le (Nat.le_of_eq hsz)] using this
    · refine List.pairwise_iff_getElem.2 fun i j hi hj hij => ?_
      have := hs i j (Nat.zero_le _) hij (by simpa [← hsz] using hj)
      rw [ltOf_lo, getElem!_pos _ j (by simpa using hj), getElem!_pos _ i (by simpa using hi)] at this
      simpa using this
end Go.Proofs.YtohpjdeohpamaaaGreatDoor
namespace Go.Proofs.YtohpjdeohpamaaaGreatDoor
open Go.RowKit
attribute [local irreducible] contains emp vld vb vk adj isect hull proper greater lesser greatest least cmp Bnd.lt Op.bytesLess Calls Oper.wp wpList Code.wp Oper.upon
theorem Rep.back {w0 w1 w : World} {S : List OB} (h : Rep w1 nof [] S w) (hk : Kp [] w0 w1) : Rep w0 nof [] S w :=
  ⟨hk.trans h.kp, h.own, h.ne, fun e he => Nat.le_trans hk.size (h.new e he), by simp, trivial, fun _ _ _ _ => trivial, by simp [nof]⟩
theorem Rep.rebase0 {w0 w : World} {X : Fr} {R : List Win} {S : List OB} (h : Rep w0 X R S w) : Rep w X [] [] w := h.rebaseS.sub (List.Sublist.refl _) (List.nil_sublist _)
theorem compare_p_v (a b : Bnd) {w : World} : Calls Tryz.prog 160 #[.agg #[.string a.key, .bool a.top], .agg #[.string b.key, .bool b.top]] w fun e w' => e = .returned (.int .i64 (cmp a b)) ∧ Kp [] w w' := compare_p
theorem greater_p_v (a b : Bnd) {w : World} : Calls Tryz.prog 172 #[.agg #[.string a.key, .bool a.top], .agg #[.string b.key, .bool b.top]] w fun e w' => e = .returned (.agg #[.string (greater a b).key, .bool (greater a b).top]) ∧ Kp [] w w' :=
  (greater_p (w := w)).mono fun e w' ⟨m, he, hm, hk⟩ => ⟨by rw [he, hm], hk⟩
theorem mrg_join {c r : Rng} {l : List Rng} (h : cmp r.lo c.hi ≤ 0) : mrg c (r :: l) = mrg ⟨c.lo, greater c.hi r.hi⟩ l := by rw [mrg, if_pos h]
theorem mrg_next {c r : Rng} {l : List Rng} (h : ¬ cmp r.lo c.hi ≤ 0) : mrg c (r :: l) = c :: mrg r l := by rw [mrg, if_neg h]
theorem last_hi {done : List Rng} {cur : Rng} {d : Nat} (hd : done.length = d) : ((rvals (done ++ [cur])).drop (d * 4 + 2)).take 2 = [.string cur.hi.key, .bool cur.hi.top] :=
  (fl_part rvz (l := done ++ [cur]) (k := d) (r := cur) (by rw [← hd]; simp) 2 2 (by decide)).trans rfl
def Mrg (out rest tot : List Rng) : Prop := (out = [] ∧ mrgAll rest = tot) ∨ ∃ done cur, out = done ++ [cur] ∧ done ++ mrg cur rest = tot
theorem OS.val {sl : List OB} {E : TypeId} {z n : Nat} {v : Value} {xs : List Value} (h : OS sl E z v n xs) : ∃ q c, v = .slice q n c := by
  rcases h.2 with ⟨-, rfl, rfl⟩ | ⟨g, cap, sp, -, rfl, -⟩
  · exact ⟨_, _, rfl⟩
  · exact ⟨_, _, rfl⟩
theorem OS.val1 {sl : List OB} {E : TypeId} {z n : Nat} {v : Value} {xs : List Value} (h : OS sl E z v n xs) (hn : 0 < n) : ∃ g c, v = .slice (some ⟨g, 0, none⟩) n c ∧ n ≤ c := by
  rcases h.2 with ⟨-, rfl, rfl⟩ | ⟨g, cap, sp, -, rfl, h1, -⟩
  · omega
  · exact ⟨_, _, rfl, h1⟩
set_option maxRecDepth 100000 in
set_option maxHeartbeats 4000000 in
theorem union_p {p : Option Addr} {n c : Nat} {l : List Rng} {w : World} (h1 : Rd w 4 (.slice p n c) n (rvals l)) (hn : n ≤ 1000000) :
    Calls Tryz.prog 126 #[.slice p n c] w fun e w' => ∃ r sl, e = .returned r ∧ OS sl 77 4 r (union l).length (rvals (union l)) ∧ Rep w nof [] sl w' := by
  have hl : l.length = n := h1.count rvz (by decide)
  have hm : (l.filter ne).length ≤ n := by rw [← hl]; exact List.length_filter_le _ _
  have Hu := Lib.hid (fun s hp hs => union_of_sorted (l := l) (s := s) hp hs)
  obtain ⟨tot, htot⟩ : ∃ tot, tot = union l := ⟨_, rfl⟩
  rw [← htot]
  rw [← htot] at Hu
  obtain ⟨fl0, hfl⟩ : ∃ f, f = l.filter ne := ⟨_, rfl⟩
  have Hf := Lib.hid hfl
  rw [← hfl] at hm
  have Hl := Lib.hid hl
  clear hfl hl htot
  go_enter Tryz.func126, Tryz.ntmps126
  have hR := Rep.refl w
  generalize w = w0 at hR h1
  go_wp2_with fail
  refine (clone_e h1 hn).mono ?_
  rintro e w ⟨v, sl, rfl, hO, hb⟩
  replace hR := hR.join hb
  clear hb
  go_wp2_with fail
  refine (deleteFunc_e hR hO CtxI.out hn).mono ?_
  clear hR hO
  rintro e w ⟨v, sl, rfl, hO, hR⟩
  rw [← Hf.out] at hO
  go_wp2_with fail
  refine (sortFunc_e hR hO CtxI.out (by omega)).mono ?_
  clear hR hO
  rintro e w ⟨rfl, s, sl, hp, hs, hO, hR⟩
  have hsl := hp.length_eq
  rw [← hsl] at hO hm
  have hrw := hO.rw hR CtxI.out
  have hk1 := hR.kp_nof
  replace hR := hR.rebase0
  have Ht := Lib.hid ((Hu.out) s (by rw [← Hf.out]; exact hp) hs)
  clear hO hp hs Hu
  obtain ⟨m, hmm⟩ : ∃ m, m = s.length := ⟨_, rfl⟩
  have Hm := Lib.hid hmm
  rw [← hmm] at hrw hm
  obtain ⟨q, cc, hv⟩ : ∃ q cc, v = .slice q m cc := by obtain ⟨q, cc, e, -⟩ := hrw.ex; exact ⟨q, cc, e⟩
  subst hv
  clear hmm hsl
  generalize w = w1 at hR hk1 hrw
  have hF := hR.fx
  go_wp2_with fail
  go_loopw [4, 15] (fun v i wr => ∃ k : Nat, ∃ out slo, i = .int .i64 k ∧ k ≤ m ∧ OS slo 77 4 v out.length (rvals out) ∧ Hid (Mrg out (s.drop k) tot) ∧ Hid (out.length ≤ k) ∧ Rep w1 nof [] slo wr) (fun _ i _ => m - (intOf i).toNat)
  case atStart => exact ⟨0, [], [], rfl, Nat.zero_le _, OS.nil _ _, Lib.hid (.inl ⟨rfl, by rw [List.drop_zero]; exact Ht.out⟩), Lib.hid (Nat.le_refl _), hR⟩
  case round =>
    obtain ⟨k, out, slo, rfl, hkm, hO, hM, hok, hR⟩ := hrel
    have hF := hR.fx
    by_cases hlt : k < m
    · have hlt' : (k : Int) < (m : Int) := by omega
      obtain ⟨r, hr⟩ : ∃ r, s[k]? = some r := ⟨s[k]'(by rw [← Hm.out]; exact hlt), List.getElem?_eq_getElem _⟩
      obtain ⟨b, o, rfl, hR⟩ := hrw.elem rvz (by decide) hr hR
      have hdr : s.drop k = r :: s.drop (k + 1) := by
        obtain ⟨g1, g2⟩ := List.getElem?_eq_some_iff.1 hr
        rw [List.drop_eq_getElem_cons g1, g2]
      have Hd := Lib.hid hdr
      clear hdr hr
      simp only [Rng.vals] at hR
      have hF := hR.fx
      rcases hM.out with ⟨hout, htot⟩ | ⟨done, cur, hout, htot⟩
      · subst hout
        have Hg : Hid (Mrg [r] (s.drop (k + 1)) tot) := Lib.hid (.inr ⟨[], r, rfl, by rw [← htot, Hd.out]; rfl⟩)
        clear hM htot Hd
        obtain ⟨q2, c2, rfl⟩ := hO.val
        simp only [List.length_nil] at hO ⊢
        go_upto_region 8 with (first | (refine wl_ld hR ?_) | (refine wl_st hR ?_; (try clear hF); clear hR; intro w hR; have hF := hR.fx) | (refine wl_mem hR ?_; (try clear hF); clear hR; intro w B6 hR; have hF := hR.fx))
        refine wp_region_C 13 (0 :: 1 :: 2 :: 3 :: 4 :: 5 :: 6 :: 7 :: 8 :: 9 :: 10 :: 11 :: 12 :: []) [11] hR mixed (by kernel_rfl) ?_; (try clear hF); clear hR; (repeat (first | (refine dk ?_; intro B) | (refine dk_call0 (fun w hR => ?_); first | (go_at_call 160; refine (compare_p_v r.lo r.hi).mono ?_; rintro e w' ⟨rfl, hb⟩; refine ⟨_, rfl, hb, dn ?_⟩; clear hR hb)))); refine dc_nil ?_; intro w hR; have hF := hR.fx; try simp only [List.drop_succ_cons, List.drop_zero]
        go_wp2_with (first | (refine wl_append hR rfl rfl rfl rfl rfl (hO) (At.rd hR UpI.at rfl) ?_; (try clear hF); clear hR; intro v sl w hO hR; have hF := hR.fx) | (refine wl_ld hR ?_) | (refine wl_st hR ?_; (try clear hF); clear hR; intro w hR; have hF := hR.fx) | (refine wl_mem hR ?_; (try clear hF); clear hR; intro w B hR; have hF := hR.fx))
        go_roundw
        case rel => exact ⟨k + 1, [r], sl, by go_num, by omega, by simpa [rvals, Rng.vals] using hO, Hg, Lib.hid (by simp), hR.sub sub_any sub_any⟩
        case measure => simp [intOf]; omega
      · subst hout
        obtain ⟨d, hd⟩ : ∃ d, done.length = d := ⟨_, rfl⟩
        obtain ⟨g, c2, rfl, hc2⟩ := hO.val1 (by simp)
        have hlen : (done ++ [cur]).length = d + 1 := by simp [hd]
        rw [hlen] at hO hc2 ⊢
        have hok' := hok.out
        rw [hlen] at hok'
        have Hv := Lib.hid (last_hi (cur := cur) hd)
        have Hl4 : Hid (d * 4 + 2 + 2 ≤ (rvals (done ++ [cur])).length) := Lib.hid (by rw [rvals_length, hlen]; omega)
        have hdp : (0 : Int) < (d : Int) + 1 := by omega
        have hdd : (d : Int) < (d : Int) + 1 := by omega
        have hd0 : (0 : Int) ≤ (d : Int) := by omega
        have hwr : IntKind.i64.wrap (d : Int) = d := IntWalk.i64_in _ (by omega)
        by_cases hj : cmp r.lo cur.hi ≤ 0
        · have Hg : Hid (Mrg (done ++ [⟨cur.lo, greater cur.hi r.hi⟩]) (s.drop (k + 1)) tot) := Lib.hid (.inr ⟨done, _, rfl, by rw [← htot, Hd.out, mrg_join hj]⟩)
          clear hM htot Hd
          go_upto_region 8 with (first | (refine wl_ld hR ?_) | (refine wl_st hR ?_; (try clear hF); clear hR; intro w hR; have hF := hR.fx) | (refine wl_mem hR ?_; (try clear hF); clear hR; intro w B6 hR; have hF := hR.fx))
          refine wp_region_C 13 (0 :: 1 :: 2 :: 3 :: 4 :: 5 :: 6 :: 7 :: 8 :: 9 :: 10 :: 11 :: 12 :: []) [11] hR mixed (by kernel_rfl) ?_; (try clear hF); clear hR; (repeat (first | (refine dc_ld_own rfl rfl rfl rfl hO CtxI.out rfl (by exact inferInstance) (by exact rfl) Hl4.out Hv.out (by simp only [Act.put, List.setIfInBounds_toArray, List.set_cons_zero, List.set_cons_succ, ldW, if_true, Bool.false_eq_true, if_false, List.headD_cons]; exact rfl) ?_) | (refine dk ?_; intro B) | (refine dk_call0 (fun w hR => ?_); first | (go_at_call 160; refine (compare_p_v r.lo cur.hi).mono ?_; rintro e w' ⟨rfl, hb⟩; refine ⟨_, rfl, hb, dn ?_⟩; clear hR hb)))); refine dc_nil ?_; intro w hR; have hF := hR.fx; try simp only [List.drop_succ_cons, List.drop_zero]
          go_upto_region 9 with (first | (refine wl_ld hR ?_) | (refine wl_st hR ?_; (try clear hF); clear hR; intro w hR; have hF := hR.fx) | (refine wl_mem hR ?_; (try clear hF); clear hR; intro w B hR; have hF := hR.fx))
          refine wp_region_C 14 (0 :: 1 :: 2 :: 3 :: 4 :: 5 :: 6 :: 7 :: 8 :: 9 :: 10 :: 11 :: 12 :: 13 :: []) [11] hR mixed (by kernel_rfl) ?_; (try clear hF); clear hR; (repeat (first | (refine dc_ld_own rfl rfl rfl rfl hO CtxI.out rfl (by exact inferInstance) (by exact rfl) Hl4.out Hv.out (by simp only [Act.put, List.setIfInBounds_toArray, List.set_cons_zero, List.set_cons_succ, ldW, if_true, Bool.false_eq_true, if_false, List.headD_cons]; exact rfl) ?_) | (refine dk ?_; intro B) | (refine dk_call0 (fun w hR => ?_); first | (go_at_call 172; refine (greater_p_v cur.hi r.hi).mono ?_; rintro e w' ⟨rfl, hb⟩; refine ⟨_, rfl, hb, dn ?_⟩; clear hR hb)))); refine dc_nil ?_; intro w hR; have hF := hR.fx; try simp only [List.drop_succ_cons, List.drop_zero]
          go_wp2_with (first | (refine wpList_st_os hR rfl rfl rfl hO CtxI.out rfl rfl (by exact inferInstance) Hl4.out (by exact rfl) ?_; (try clear hF); clear hR; intro sl w hO hR; (try simp only [List.cons_append, List.nil_append] at hR); have hF := hR.fx) | (refine wl_ld hR ?_) | (refine wl_st hR ?_; (try clear hF); clear hR; intro w hR; have hF := hR.fx) | (refine wl_mem hR ?_; (try clear hF); clear hR; intro w B hR; have hF := hR.fx))
          have hst : stL (d * 4 + 2) [.string (greater cur.hi r.hi).key, .bool (greater cur.hi r.hi).top] (rvals (done ++ [cur])) = rvals (done ++ [⟨cur.lo, greater cur.hi r.hi⟩]) := by
            rw [stL_rvals_hi _ _ _ cur (by rw [← hd]; simp), ← hd]; simp
          rw [hst] at hO
          go_roundw
          case rel => exact ⟨k + 1, _, sl, by go_num, by omega, by simpa [hd] using hO, Hg, Lib.hid (by simp [hd]; omega), by simpa only [List.append_nil] using hR.sub sub_any sub_any⟩
          case measure => simp [intOf]; omega
        · have Hg : Hid (Mrg ((done ++ [cur]) ++ [r]) (s.drop (k + 1)) tot) := Lib.hid (.inr ⟨done ++ [cur], r, rfl, by rw [← htot, Hd.out, mrg_next hj, List.append_assoc]; rfl⟩)
          clear hM htot Hd
          go_upto_region 8 with (first | (refine wl_ld hR ?_) | (refine wl_st hR ?_; (try clear hF); clear hR; intro w hR; have hF := hR.fx) | (refine wl_mem hR ?_; (try clear hF); clear hR; intro w B6 hR; have hF := hR.fx))
          refine wp_region_C 13 (0 :: 1 :: 2 :: 3 :: 4 :: 5 :: 6 :: 7 :: 8 :: 9 :: 10 :: 11 :: 12 :: []) [11] hR mixed (by kernel_rfl) ?_; (try clear hF); clear hR; (repeat (first | (refine dc_ld_own rfl rfl rfl rfl hO CtxI.out rfl (by exact inferInstance) (by exact rfl) Hl4.out Hv.out (by simp only [Act.put, List.setIfInBounds_toArray, List.set_cons_zero, List.set_cons_succ, ldW, if_true, Bool.false_eq_true, if_false, List.headD_cons]; exact rfl) ?_) | (refine dk ?_; intro B) | (refine dk_call0 (fun w hR => ?_); first | (go_at_call 160; refine (compare_p_v r.lo cur.hi).mono ?_; rintro e w' ⟨rfl, hb⟩; refine ⟨_, rfl, hb, dn ?_⟩; clear hR hb)))); refine dc_nil ?_; intro w hR; have hF := hR.fx; try simp only [List.drop_succ_cons, List.drop_zero]
          go_wp2_with (first | (refine wl_append hR rfl rfl rfl rfl rfl (hO) (At.rd hR UpI.at rfl) ?_; (try clear hF); clear hR; intro v sl w hO hR; have hF := hR.fx) | (refine wl_ld hR ?_) | (refine wl_st hR ?_; (try clear hF); clear hR; intro w hR; have hF := hR.fx) | (refine wl_mem hR ?_; (try clear hF); clear hR; intro w B hR; have hF := hR.fx))
          go_roundw
          case rel => exact ⟨k + 1, (done ++ [cur]) ++ [r], sl, by go_num, by omega, by simpa [hd, rvals, Rng.vals] using hO, Hg, Lib.hid (by simp [hd]; omega), hR.sub sub_any sub_any⟩
          case measure => simp [intOf]; omega
    · obtain rfl : k = m := by omega
      have hf : out = tot := by
        rcases hM.out with ⟨h1, h2⟩ | ⟨done, cur, h1, h2⟩
        · rw [h1, ← h2, List.drop_eq_nil_of_le (by rw [Hm.out]; exact Nat.le_refl _)]; rfl
        · rw [h1, ← h2, List.drop_eq_nil_of_le (by rw [Hm.out]; exact Nat.le_refl _)]; rfl
      subst hf
      go_wp2_with (first | (refine wl_ld hR ?_) | (refine wl_st hR ?_; (try clear hF); clear hR; intro w hR; have hF := hR.fx) | (refine wl_mem hR ?_; (try clear hF); clear hR; intro w B hR; have hF := hR.fx))
      go_ret
      exact ⟨_, _, rfl, hO, hR.back hk1⟩
end Go.Proofs.YtohpjdeohpamaaaGreatDoor
