/-
  Lemmas: The law ReceiptRefuses holds of its model.
-/
import Derived.Test.YtlbnhhfaedhgfaaGreatDoorPB1
import Derived.Laws.Rows
import Derived.Laws.CopyRow
import Derived.WalkKit
import Derived.Test.YtlbnhhfaedhgfaaGreatDoorPB14
import Derived.Test.YtlbnhhfaedhgfaaGreatDoorPB15
import Derived.Deep.Slices
import Derived.Test.YtlbnhhfaedhgfaaGreatDoorPB18
import Derived.Test.YtlbnhhfaedhgfaaGreatDoorPB19
import Derived.Test.YtlbnhhfaedhgfaaGreatDoorPB20
import Derived.Test.YtlbnhhfaedhgfaaGreatDoorPB21
import Derived.Test.YtlbnhhfaedhgfaaGreatDoorPB22
import Derived.Test.YtlbnhhfaedhgfaaGreatDoorPB31
import Derived.Test.YtlbnhhfaedhgfaaGreatDoorPB26
import Derived.Test.YtlbnhhfaedhgfaaGreatDoorPB30
import Derived.Test.YtlbnhhfaedhgfaaGreatDoorPB27
import Derived.Test.YtlbnhhfaedhgfaaGreatDoorPB2
import Derived.Test.YtlbnhhfaedhgfaaGreatDoorPB4
import Derived.Test.YtlbnhhfaedhgfaaGreatDoorPB16
import Derived.Test.YtlbnhhfaedhgfaaGreatDoorPB17
import Derived.Test.YtlbnhhfaedhgfaaGreatDoorPB23
import Derived.Test.YtlbnhhfaedhgfaaGreatDoorPB28
set_option linter.unusedSimpArgs false
set_option linter.unusedVariables false
namespace Go.Proofs.YtlbnhhfaedhgfaaGreatDoor
open Go.RowKit

theorem UpI.to {S : List OB} {b : Nat} {T : TypeId} {c c' : List Value} {F : List Value → List OB} [h : UpI S b T c F] : To S b T c c' (F c') := h.out c'
section
variable {P : Program} {ops : Array Oper} {Q : Exit → Act → World → Prop} {a a' : Act} {w w0 : World} {rest : List Oper} {o : Oper} {X : Fr} {R : List Win} {S S' : List OB} {T T' : TypeId} {x y : Operand} {b off n : Nat} {c : List Value} {ag : Bool}

end
end Go.Proofs.YtlbnhhfaedhgfaaGreatDoor
namespace Go.Proofs.YtlbnhhfaedhgfaaGreatDoor
open Go.RowKit

theorem cmp_eq0 (a b : Bnd) : cmp a b = 0 ↔ a.lt b = false ∧ b.lt a = false := by
  unfold cmp; split
  · simp [*]
  · split <;> simp [*]
end Go.Proofs.YtlbnhhfaedhgfaaGreatDoor
namespace Go.Proofs.YtlbnhhfaedhgfaaGreatDoor
open Go.ChangeShapes Go.WideShapes Go.ChangeAt Go.RowKit Go.Joins
set_option maxRecDepth 100000
def anyB (_ : Bool) : Prop := True
section
variable {P : Program} {T E : TypeId} {W : World}
theorem opn_bool (h : P.underlying T = some .bool) : Opn P T dsB anyB := ⟨fun hx => by
  obtain ⟨b, rfl, -⟩ := DataW.trod_bool h hx
  exact ⟨b, trivial, .cons (.c rfl) .nil⟩⟩
variable {H : Type} {enc : TypeId × Value → H}
end
end Go.Proofs.YtlbnhhfaedhgfaaGreatDoor
namespace Go.Proofs.YtlbnhhfaedhgfaaGreatDoor
open Go.RowKit
set_option maxRecDepth 100000
set_option maxHeartbeats 4000000
attribute [local irreducible] WK WC WL Wk Rel OpD OpV WD WO sel bnd obnd app lget lsl sget ssl scat letg iquo irem Op.bytesLess
theorem Mref20_Same_sp {a1 : List Kv} {b2 : List Kv} {y : Bool} (hm : Mref20_Same a1 b2 = some y) : Spec Tryz.prog 43 [.d (lst Kv.ds a1), .d (lst Kv.ds b2)] [] fun u h => u = vB y ∧ h = [] := by
 refine si Tryz.func43 Tryz.ntmps43 Tryz.results43 fun B w0 ρ0 => ?_
 unfold Mref20_Same at hm
 refine sr ?_
 refine sr ?_
 refine wc_cs hm ?_ ?_ <;> clear hm <;> intro hm
 ·refine sr ?_
  refine sx ?_
  cases hm
  exact wk_r
 refine sx ?_
 refine sr ?_
 obtain ⟨mu1, hm1, hm⟩ := obnd_o hm
 refine wc_cut' (fun st => mu1 = Ctl.nxt () ∧ st = ⟨[], []⟩) ?_ ?_
 ·refine wc_block ?_
  refine wc_len 0 rfl (fun hlenm5 => ?_)
  refine wc_loopw (fun κ st => ∃ (m5 : Nat) , κ = a1.length - m5 ∧ m5 ≤ a1.length ∧ Mref20_Same_l1 a1 b2 (a1.drop m5) (m5 : Int) = some mu1 ∧ st = ⟨[(0, .d (lst Kv.ds a1)), (1, .d (lst Kv.ds b2)), (12, vI (a1.length : Int)), (13, vI (m5 : Int))], []⟩) [] ⟨0, rfl, Nat.zero_le _, hm1, rfl⟩ ?_
  rintro κ _ ⟨m5, rfl, hlem5, hm1, rfl⟩
  rcases Nat.lt_or_ge m5 a1.length with hltm5 | hgem5
  ·obtain ⟨r3, hxm5, hdr⟩ := drop_c hltm5
   rw [hdr, Mref20_Same_l1.eq_2] at hm1
   refine sr ?_
   refine wc_seq ?_
   refine wc_cond_tt (lt_t hltm5) rfl ?_
   refine sx ?_
   refine sr ?_
   refine wc_seq ?_
   refine wc_draw (id := 6) [⟨0, 0, [0]⟩, ⟨1, 0, [5]⟩, ⟨2, 3, [16, 17]⟩, ⟨3, 7, [18]⟩, ⟨4, 0, [1]⟩, ⟨5, 0, [5]⟩, ⟨6, 48, [20, 21]⟩, ⟨7, 112, [22]⟩, ⟨8, 255, [19, 23]⟩] mixed (by kernel_rfl) ?_
   refine ss ?_
   obtain ⟨e6, hy, hm1⟩ := obnd_o hm1
   refine wd_r [] (o_ixg (ys := [dS e6.key, dS e6.val]) hy rfl rfl rfl rfl) rfl (by first | exact .no rfl | exact .y rfl rfl rfl rfl) rfl rfl ?_
   refine ss ?_
   obtain ⟨e7, hy, hm1⟩ := obnd_o hm1
   refine wd_r [] (o_ixg (ys := [dS e7.key, dS e7.val]) hy rfl rfl rfl rfl) rfl (by first | exact .no rfl | exact .y rfl rfl rfl rfl) rfl rfl ?_
   refine ss ?_
   refine wc_cs hm1 ?_ ?_ <;> clear hm1 <;> intro hm1
   ·refine sr ?_
    refine sx ?_
    cases hm1
    replace hm := ocbnd_r hm
    cases hm
    exact wk_r
   refine sx ?_
   refine sr ?_
   refine wl_r (o_inc hltm5 hlenm5 rfl rfl rfl) rfl rfl rfl ?_
   refine ss ?_
   exact wk_loopw [] ⟨m5 + 1, rfl, hltm5, hm1, rfl⟩ (by omega)
  ·rw [drop_n hgem5, Mref20_Same_l1.eq_1] at hm1
   refine sr ?_
   refine wc_seq ?_
   refine wc_cond_ff (lt_f hgem5) rfl ?_
   refine wc_exit ?_
   refine ss ?_
   cases hm1
   exact wk_cutw [] ⟨rfl, rfl⟩
 rintro _ ⟨rfl, rfl⟩
 replace hm := ocbnd_n hm
 refine sr ?_
 refine sx ?_
 cases hm
 exact wk_r

end Go.Proofs.YtlbnhhfaedhgfaaGreatDoor
namespace Go.Proofs.YtlbnhhfaedhgfaaGreatDoor
open Go.RowKit
set_option maxRecDepth 100000
set_option maxHeartbeats 4000000
attribute [local irreducible] WK WC WL Wk Rel OpD OpV WD WO sel bnd obnd app lget lsl sget ssl scat letg iquo irem Op.bytesLess
attribute [local irreducible] qchk qranges union
theorem Mref24_SameRange_sp {a1 : Rng} {b2 : Rng} {y : Bool} (hm : Mref24_SameRange a1 b2 = y) : Spec Tryz.prog 39 [.a [vS a1.lo.key, vB a1.lo.top, vS a1.hi.key, vB a1.hi.top], .a [vS b2.lo.key, vB b2.lo.top, vS b2.hi.key, vB b2.hi.top]] [] fun u h => u = vB y ∧ h = [] := by
 refine si Tryz.func39 Tryz.ntmps39 Tryz.results39 fun B w0 ρ0 => ?_
 unfold Mref24_SameRange at hm
 refine sr ?_
 refine sr ?_
 obtain ⟨y3, hy, hm⟩ := bnd_o hm
 refine wl_cq (Mref1_Compare_sp (hm := hy)) ?_
 refine ss ?_
 refine wl_sg hm ?_ ?_ <;> clear hm <;> intro hm
 ·refine ss ?_
  obtain ⟨y4, hy, hm⟩ := bnd_o hm
  refine wl_cq (Mref1_Compare_sp (hm := hy)) ?_
  refine sx ?_
  subst hm
  exact wk_r
 refine sx ?_
 subst hm
 exact wk_r

end Go.Proofs.YtlbnhhfaedhgfaaGreatDoor
namespace Go.Proofs.YtlbnhhfaedhgfaaGreatDoor
open Go.RowKit
set_option maxRecDepth 100000
set_option maxHeartbeats 4000000
attribute [local irreducible] WK WC WL Wk Rel OpD OpV WD WO sel bnd obnd app lget lsl sget ssl scat letg iquo irem Op.bytesLess
attribute [local irreducible] qchk qranges union
theorem Mref28_SameVisit_sp {a1 : TVisit} {b2 : TVisit} {y : Bool} (hm : Mref28_SameVisit a1 b2 = some y) : Spec Tryz.prog 112 [.a [vI a1.View.Owner, vS a1.View.Interval.lo.key, vB a1.View.Interval.lo.top, vS a1.View.Interval.hi.key, vB a1.View.Interval.hi.top, vI a1.View.Stamp.Epoch, vI a1.View.Stamp.Version, .d (lst Kv.ds a1.View.Rows), vS a1.Part.lo.key, vB a1.Part.lo.top, vS a1.Part.hi.key, vB a1.Part.hi.top], .a [vI b2.View.Owner, vS b2.View.Interval.lo.key, vB b2.View.Interval.lo.top, vS b2.View.Interval.hi.key, vB b2.View.Interval.hi.top, vI b2.View.Stamp.Epoch, vI b2.View.Stamp.Version, .d (lst Kv.ds b2.View.Rows), vS b2.Part.lo.key, vB b2.Part.lo.top, vS b2.Part.hi.key, vB b2.Part.hi.top]] [] fun u h => u = vB y ∧ h = [] := by
 refine si Tryz.func112 Tryz.ntmps112 Tryz.results112 fun B w0 ρ0 => ?_
 unfold Mref28_SameVisit at hm
 refine sr ?_
 refine sr ?_
 refine wl_sg hm ?_ ?_ <;> clear hm <;> intro hm
 ·refine ss ?_
  refine wl_sg hm ?_ ?_ <;> clear hm <;> intro hm
  ·refine ss ?_
   obtain ⟨y3, hy, hm⟩ := bnd_o hm
   refine wl_cq (Mref24_SameRange_sp (hm := hy)) ?_
   refine ss ?_
   refine wl_sg hm ?_ ?_ <;> clear hm <;> intro hm
   ·refine ss ?_
    obtain ⟨y4, hy, hm⟩ := bnd_o hm
    refine wl_cq (Mref24_SameRange_sp (hm := hy)) ?_
    refine ss ?_
    refine wl_sg hm ?_ ?_ <;> clear hm <;> intro hm
    ·refine ss ?_
     obtain ⟨y5, hy, hm⟩ := obnd_o hm
     refine wl_cq (Mref20_Same_sp (hm := hy)) ?_
     refine sx ?_
     cases hm
     exact wk_r
    refine sx ?_
    cases hm
    exact wk_r
   refine sx ?_
   cases hm
   exact wk_r
  refine sx ?_
  cases hm
  exact wk_r
 refine sx ?_
 cases hm
 exact wk_r

theorem Mref28_SameVisits_sp {a1 : List TVisit} {b2 : List TVisit} {y : Bool} (hm : Mref28_SameVisits a1 b2 = some y) : Spec Tryz.prog 121 [.d (lst TVisit.ds a1), .d (lst TVisit.ds b2)] [] fun u h => u = vB y ∧ h = [] := by
 refine si Tryz.func121 Tryz.ntmps121 Tryz.results121 fun B w0 ρ0 => ?_
 unfold Mref28_SameVisits at hm
 refine sr ?_
 refine sr ?_
 refine wc_cs hm ?_ ?_ <;> clear hm <;> intro hm
 ·refine sr ?_
  refine sx ?_
  cases hm
  exact wk_r
 refine sx ?_
 refine sr ?_
 obtain ⟨mu1, hm1, hm⟩ := obnd_o hm
 refine wc_cut' (fun st => mu1 = Ctl.nxt () ∧ st = ⟨[], []⟩) ?_ ?_
 ·refine wc_block ?_
  refine wc_len 0 rfl (fun hlenm5 => ?_)
  refine wc_loopw (fun κ st => ∃ (m5 : Nat) , κ = a1.length - m5 ∧ m5 ≤ a1.length ∧ Mref28_SameVisits_l1 a1 b2 (a1.drop m5) (m5 : Int) = some mu1 ∧ st = ⟨[(0, .d (lst TVisit.ds a1)), (1, .d (lst TVisit.ds b2)), (12, vI (a1.length : Int)), (13, vI (m5 : Int))], []⟩) [] ⟨0, rfl, Nat.zero_le _, hm1, rfl⟩ ?_
  rintro κ _ ⟨m5, rfl, hlem5, hm1, rfl⟩
  rcases Nat.lt_or_ge m5 a1.length with hltm5 | hgem5
  ·obtain ⟨r3, hxm5, hdr⟩ := drop_c hltm5
   rw [hdr, Mref28_SameVisits_l1.eq_2] at hm1
   refine sr ?_
   refine wc_seq ?_
   refine wc_cond_tt (lt_t hltm5) rfl ?_
   refine sx ?_
   refine sr ?_
   refine wc_seq ?_
   refine wc_draw (id := 6) [⟨0, 0, [0]⟩, ⟨1, 0, [5]⟩, ⟨2, 3, [16, 17]⟩, ⟨3, 7, [18]⟩, ⟨4, 0, [1]⟩, ⟨5, 0, [5]⟩, ⟨6, 48, [20, 21]⟩, ⟨7, 112, [22]⟩, ⟨8, 255, [19, 23]⟩, ⟨9, 511, [24]⟩] mixed (by kernel_rfl) ?_
   refine ss ?_
   obtain ⟨e6, hy, hm1⟩ := obnd_o hm1
   refine wd_r [] (o_ixg (ys := [dI e6.View.Owner, dS e6.View.Interval.lo.key, dB e6.View.Interval.lo.top, dS e6.View.Interval.hi.key, dB e6.View.Interval.hi.top, dI e6.View.Stamp.Epoch, dI e6.View.Stamp.Version, lst Kv.ds e6.View.Rows, dS e6.Part.lo.key, dB e6.Part.lo.top, dS e6.Part.hi.key, dB e6.Part.hi.top]) hy rfl rfl rfl rfl) rfl (by first | exact .no rfl | exact .y rfl rfl rfl rfl) rfl rfl ?_
   refine ss ?_
   obtain ⟨e7, hy, hm1⟩ := obnd_o hm1
   refine wd_r [] (o_ixg (ys := [dI e7.View.Owner, dS e7.View.Interval.lo.key, dB e7.View.Interval.lo.top, dS e7.View.Interval.hi.key, dB e7.View.Interval.hi.top, dI e7.View.Stamp.Epoch, dI e7.View.Stamp.Version, lst Kv.ds e7.View.Rows, dS e7.Part.lo.key, dB e7.Part.lo.top, dS e7.Part.hi.key, dB e7.Part.hi.top]) hy rfl rfl rfl rfl) rfl (by first | exact .no rfl | exact .y rfl rfl rfl rfl) rfl rfl ?_
   refine ss ?_
   obtain ⟨y8, hy, hm1⟩ := obnd_o hm1
   refine wd_cs (Mref28_SameVisit_sp (hm := hy)) rfl rfl rfl (by repeat (first | exact Vws.nil | apply Vws.cons | exact Vw.nil | exact Vw.d _ | exact Vw.q _ | apply Vw.a)) rfl rfl (by first | exact .no rfl | exact .y rfl rfl rfl rfl) rfl rfl rfl ?_
   refine ss ?_
   refine wc_cs hm1 ?_ ?_ <;> clear hm1 <;> intro hm1
   ·refine sr ?_
    refine sx ?_
    cases hm1
    replace hm := ocbnd_r hm
    cases hm
    exact wk_r
   refine sx ?_
   refine sr ?_
   refine wl_r (o_inc hltm5 hlenm5 rfl rfl rfl) rfl rfl rfl ?_
   refine ss ?_
   exact wk_loopw [] ⟨m5 + 1, rfl, hltm5, hm1, rfl⟩ (by omega)
  ·rw [drop_n hgem5, Mref28_SameVisits_l1.eq_1] at hm1
   refine sr ?_
   refine wc_seq ?_
   refine wc_cond_ff (lt_f hgem5) rfl ?_
   refine wc_exit ?_
   refine ss ?_
   cases hm1
   exact wk_cutw [] ⟨rfl, rfl⟩
 rintro _ ⟨rfl, rfl⟩
 replace hm := ocbnd_n hm
 refine sr ?_
 refine sx ?_
 cases hm
 exact wk_r

end Go.Proofs.YtlbnhhfaedhgfaaGreatDoor
namespace Go.Proofs.YtlbnhhfaedhgfaaGreatDoor
open Go.RowKit
theorem sameRange_refl (r : Rng) : Mref24_SameRange r r = true := by
  unfold Mref24_SameRange
  simp only [bnd_eq, eq_ref1_Compare, cmp_self]; rfl
end Go.Proofs.YtlbnhhfaedhgfaaGreatDoor
namespace Go.Proofs.YtlbnhhfaedhgfaaGreatDoor
open Go.RowKit
theorem range_eqb (a b : Rng) : (decide (a.lo.key = b.lo.key) && decide (a.lo.top = b.lo.top) && decide (a.hi.key = b.hi.key) && decide (a.hi.top = b.hi.top)) = decide (a = b) := by
  rcases a with ⟨⟨a1, a2⟩, ⟨a3, a4⟩⟩
  rcases b with ⟨⟨b1, b2⟩, ⟨b3, b4⟩⟩
  simp [Bool.and_assoc]
end Go.Proofs.YtlbnhhfaedhgfaaGreatDoor
namespace Go.Proofs.YtlbnhhfaedhgfaaGreatDoor
open Go.RowKit
theorem Gd.tail {x : Rng} {l m m' : List Rng} (g : Gd (x :: l) m) (hm : ∀ b, vb b = true → (Pt m' b ↔ Pt m b ∧ b.lt x.hi = false)) : Gd l m' := by
  obtain ⟨n, s, t⟩ := g
  obtain ⟨s1, s2⟩ := List.pairwise_cons.1 s
  have hx := (emp_iff x).1 (n x List.mem_cons_self)
  refine ⟨fun r hr => n r (List.mem_cons_of_mem _ hr), s2, fun b hb => ?_⟩
  rw [hm b hb, ← t b hb, pt_cons]
  constructor
  · intro h
    refine ⟨.inr h, ?_⟩
    obtain ⟨c, hc, h1, h2⟩ := h
    have vc := (emp_iff c).1 (n c (List.mem_cons_of_mem _ hc))
    cases hh : b.lt x.hi with
    | false => rfl
    | true => rw [lt_le hx.2.1 vc.1 hh (s1 c hc)] at h1; cases h1
  · rintro ⟨h | h, h2⟩
    · rw [h.2] at h2; cases h2
    · exact h
theorem Gd.first {x : Rng} {l m : List Rng} {p h : Bnd} (g : Gd (x :: l) (⟨p, h⟩ :: m)) (hp : vb p = true) (hh : p.lt h = true) (hn : ∀ y ∈ m, emp y = false) (hm : ∀ y ∈ m, y.lo.lt p = false) : x.lo = p := by
  obtain ⟨n, s, t⟩ := g
  obtain ⟨s1, s2⟩ := List.pairwise_cons.1 s
  have hx := (emp_iff x).1 (n x List.mem_cons_self)
  refine lt_total hx.1 hp ?_ ?_
  · rcases pt_cons.1 ((t x.lo hx.1).1 (pt_cons.2 (.inl ⟨lt_irrefl _, hx.2.2⟩))) with h1 | ⟨c, hc, h1, h2⟩
    · exact h1.1
    · have vc := (emp_iff c).1 (hn c hc)
      cases hh : x.lo.lt p with
      | false => rfl
      | true => rw [lt_le hp vc.1 hh (hm c hc)] at h1; cases h1
  · rcases pt_cons.1 ((t p hp).2 (pt_cons.2 (.inl ⟨lt_irrefl _, hh⟩))) with h1 | ⟨c, hc, h1, h2⟩
    · exact h1.1
    · have vc := (emp_iff c).1 (n c (List.mem_cons_of_mem _ hc))
      cases h4 : p.lt x.lo with
      | false => rfl
      | true =>
        have h5 : p.lt x.hi = true := lt_trans h4 hx.2.2
        rw [lt_le hx.2.1 vc.1 h5 (s1 c hc)] at h1; cases h1
theorem Gd.nil_right {l : List Rng} (g : Gd l []) : l = [] := by
  cases l with
  | nil => rfl
  | cons x l =>
    have hx := (emp_iff x).1 (g.ne x List.mem_cons_self)
    exact absurd ((g.pts x.lo hx.1).1 (pt_cons.2 (.inl ⟨lt_irrefl _, hx.2.2⟩))) pt_nil
theorem Nrm.drop {R : List Rng} (h : Nrm R) (a : Nat) : Nrm (R.drop a) := ⟨fun r hr => h.ne r (List.mem_of_mem_drop hr), h.gap.sublist (List.drop_sublist a R)⟩
theorem scan {R : List Rng} (hR : Nrm R) : ∀ (V : List TVisit) (T : List Rng) (a : Nat) (r : Rng) (R' : List Rng) (p : Bnd), R.drop a = r :: R' → vb p = true → p.lt r.hi = true → p.lt r.lo = false → Gd (V.map (·.Part) ++ T) (⟨p, r.hi⟩ :: R') → ∃ a' : Nat, tl2 R V a p = .nxt (a' : Int) ∧ (T = [] → a' = R.length)
  | [], T, a, r, R', p, hd, hp, h1, h2, g => by
    refine ⟨a, rfl, fun hT => ?_⟩
    exfalso
    subst hT
    obtain ⟨c, hc, _⟩ := (g.pts p hp).2 (pt_cons.2 (.inl ⟨lt_irrefl _, h1⟩))
    simp at hc
  | v :: V, T, a, r, R', p, hd, hp, h1, h2, g => by
    have hN := hR.drop a
    rw [hd] at hN
    obtain ⟨n1, n2⟩ := hN
    obtain ⟨q1, q2⟩ := List.pairwise_cons.1 n2
    have hr := (emp_iff r).1 (n1 r List.mem_cons_self)
    have hget : R[a]? = some r := by rw [← List.head?_drop, hd]; rfl
    have hdrop : R.drop (a + 1) = R' := by rw [← List.tail_drop, hd]; rfl
    rw [List.map_cons, List.cons_append] at g
    have hv := (emp_iff v.Part).1 (g.ne _ List.mem_cons_self)
    have hfar : ∀ y ∈ R', r.hi.lt y.lo = true := fun y hy => q1 y hy
    have hlo : v.Part.lo = p := g.first hp h1 (fun y hy => n1 y (List.mem_cons_of_mem _ hy)) fun y hy => lt_asymm (lt_trans h1 (hfar y hy))
    have hhi : r.hi.lt v.Part.hi = false := by
      cases hh : r.hi.lt v.Part.hi with
      | false => rfl
      | true =>
        have hin : Pt (v.Part :: (V.map (·.Part) ++ T)) r.hi := pt_cons.2 (.inl ⟨by rw [hlo]; exact lt_asymm h1, hh⟩)
        rcases pt_cons.1 ((g.pts r.hi hr.2.1).1 hin) with ⟨_, h4⟩ | ⟨c, hc, h4, _⟩
        · rw [lt_irrefl] at h4; cases h4
        · rw [hfar c hc] at h4; cases h4
    have c1 : cmp v.Part.lo p = 0 := by rw [hlo, cmp_self]
    have c2 : ¬ 0 < cmp v.Part.hi r.hi := fun hh => by
      rw [(cmp_pos _ _).1 hh] at hhi; cases hhi
    rw [tl2, hget]
    simp only
    rw [if_neg (by omega), if_neg (by omega), if_neg c2]
    by_cases c3 : cmp v.Part.hi r.hi = 0
    · rw [if_pos c3]
      have he : v.Part.hi = r.hi := lt_total hv.2.1 hr.2.1 ((cmp_eq0 _ _).1 c3).1 ((cmp_eq0 _ _).1 c3).2
      have g' : Gd (V.map (·.Part) ++ T) R' := g.tail fun b hb => by
        rw [he, pt_cons]
        constructor
        · intro h
          refine ⟨.inr h, ?_⟩
          obtain ⟨c, hc, h4, _⟩ := h
          cases hh : b.lt r.hi with
          | false => rfl
          | true => rw [lt_trans hh (hfar c hc)] at h4; cases h4
        · rintro ⟨h | h, h5⟩
          · rw [h.2] at h5; cases h5
          · exact h
      cases hR' : R' with
      | nil =>
        subst hR'
        have h0 := g'.nil_right
        have hV : V = [] := by
          cases V with
          | nil => rfl
          | cons x V => simp at h0
        subst hV
        have hlen : R.length = a + 1 := by
          have e1 := congrArg List.length hd
          simp only [List.length_drop, List.length_cons, List.length_nil] at e1
          omega
        refine ⟨a + 1, rfl, fun _ => hlen.symm⟩
      | cons r2 R2 =>
        subst hR'
        have hget2 : R[a + 1]? = some r2 := by rw [← List.head?_drop, hdrop]; rfl
        have hr2 := (emp_iff r2).1 (n1 r2 (by simp))
        rw [hget2]
        exact scan hR V T (a + 1) r2 R2 r2.lo hdrop hr2.1 hr2.2.2 (lt_irrefl _) g'
    · rw [if_neg c3]
      have hlt : v.Part.hi.lt r.hi = true := by
        have := cmp_rng v.Part.hi r.hi
        exact (cmp_neg _ _).1 (by omega)
      have hpv : p.lt v.Part.hi = true := by rw [← hlo]; exact hv.2.2
      refine scan hR V T a r R' v.Part.hi hd hv.2.1 hlt ?_ (g.tail fun b hb => ?_)
      · cases hh : v.Part.hi.lt r.lo with
        | false => rfl
        | true => rw [lt_trans hpv hh] at h2; cases h2
      · rw [pt_cons, pt_cons]
        constructor
        · rintro (⟨h3, h4⟩ | h3)
          · refine ⟨.inl ⟨?_, h4⟩, h3⟩
            cases hh : b.lt p with
            | false => rfl
            | true => rw [lt_trans hh hpv] at h3; cases h3
          · refine ⟨.inr h3, ?_⟩
            obtain ⟨c, hc, h4, _⟩ := h3
            cases hh : b.lt v.Part.hi with
            | false => rfl
            | true => rw [lt_trans (lt_trans hh hlt) (hfar c hc)] at h4; cases h4
        · rintro ⟨⟨_, h4⟩ | h3, h5⟩
          · exact .inl ⟨h5, h4⟩
          · exact .inr h3
theorem tl1_all : ∀ {l : List TVisit}, (∀ v ∈ l, vOk v = true ∧ rOk v = true) → tl1 l = .nxt ()
  | [], _ => rfl
  | v :: l, h => by
    obtain ⟨h1, h2⟩ := h v List.mem_cons_self
    rw [tl1, if_pos h1, if_pos h2]
    exact tl1_all fun x hx => h x (List.mem_cons_of_mem _ hx)
theorem qrg_one {q : TQuery} (h : q.Kind = 4) : (qrg q).length ≤ 1 := by
  unfold qrg qranges
  split
  · refine Nat.le_trans (union_len _) ?_
    unfold qrs
    rw [if_neg (by omega), if_neg (by omega), if_neg (by omega)]
    simp
  · simp
theorem count_pos {q : TQuery} (h : qch q = 0) (hk : q.Kind = 3 ∨ q.Kind = 4) : 1 ≤ q.Count := by
  unfold qch qchk at h
  apply Classical.byContradiction
  intro hc
  split at h
  · omega
  split at h
  · omega
  split at h
  · omega
  split at h
  · omega
  split at h
  · omega
  · rename_i h5
    exact h5 (.inl ⟨hk, .inl (by omega)⟩)
theorem gd_first_all {x : Rng} {l R : List Rng} (g : Gd (x :: l) R) (hR : Nrm R) : ∃ r R', R = r :: R' ∧ x.lo = r.lo := by
  cases R with
  | nil => exact absurd g.nil_right (by simp)
  | cons r R' =>
    have hr := (emp_iff r).1 (hR.ne r List.mem_cons_self)
    have q1 := (List.pairwise_cons.1 hR.gap).1
    exact ⟨r, R', rfl, g.first (p := r.lo) (h := r.hi) hr.1 hr.2.2 (fun y hy => hR.ne y (List.mem_cons_of_mem _ hy)) fun y hy => lt_asymm (lt_trans hr.2.2 (q1 y hy))⟩
theorem run_tiled {t : List Kv} {q : TQuery} (hq : qok q) {w : TWalk} (h : Run t q w) (hd : doneW w = true) : tilingW q w.Visits = 0 := by
  have h0 : qch q = 0 := hq.1
  have hR := qrg_nrm q
  have hg := h.gd
  have he := h.qe
  unfold tilingW
  rw [if_neg (by simp [h0]), tl1_all h.vi]
  simp only
  -- it is enough to scan
  have fin : ∀ a' : Nat, tl2 (qrg q) w.Visits 0 (posT q w.Visits) = .nxt (a' : Int) → (a' = (qrg q).length ∨ (q.Kind = 3 ∧ enough q ((rowsW w.Visits).length : Int) = true)) → (match tl2 (qrg q) w.Visits 0 (posT q w.Visits) with
      | .ret e => e
      | .nxt a => if a < ((qrg q).length : Int) then (if q.Kind = 3 ∧ enough q ((rowsW w.Visits).length : Int) = true then (0 : Int) else 9) else 0) = 0 := by
    intro a' e h1
    rw [e]
    simp only
    rcases h1 with h1 | h1
    · rw [if_neg (by omega)]
    · rw [if_pos h1]; split <;> rfl
  -- what is to be scanned
  have body : ∀ (V : List TVisit) (T : List Rng), V = w.Visits → Gd (V.map (·.Part) ++ T) (qrg q) → (downQ q = false ∨ T = []) → (T = [] ∨ (q.Kind = 3 ∧ enough q ((rowsW w.Visits).length : Int) = true)) → ∃ a' : Nat, tl2 (qrg q) V 0 (posT q V) = .nxt (a' : Int) ∧ (a' = (qrg q).length ∨ (q.Kind = 3 ∧ enough q ((rowsW w.Visits).length : Int) = true)) := by
    intro V T hV g hdn hT
    cases hQ : qrg q with
    | nil =>
      rw [hQ] at g
      have := g.nil_right
      have hV0 : V = [] := by
        cases V with
        | nil => rfl
        | cons x V => simp at this
      subst hV0
      exact ⟨0, rfl, .inl rfl⟩
    | cons r R' =>
      have hr := (emp_iff r).1 (hR.ne r (by rw [hQ]; simp))
      have hp : posT q V = r.lo := by
        cases V with
        | nil => unfold posT; rw [hQ]
        | cons x V =>
          unfold posT
          rw [hQ]
          simp only
          split
          · rw [List.map_cons, List.cons_append] at g
            obtain ⟨r2, R2, e1, e2⟩ := gd_first_all g hR
            rw [hQ] at e1
            simp only [List.cons.injEq] at e1
            rw [e2, e1.1]
          · rfl
      rw [hp]
      have g2 : Gd (V.map (·.Part) ++ T) (⟨r.lo, r.hi⟩ :: R') := by rw [hQ] at g; exact g
      obtain ⟨a', e, h1⟩ := scan hR V T 0 r R' r.lo (by rw [List.drop_zero]; exact hQ) hr.1 hr.2.2 (lt_irrefl _) g2
      rw [hQ] at e
      refine ⟨a', e, ?_⟩
      rcases hT with hT | hT
      · have := h1 hT
        rw [hQ] at this
        exact .inl this
      · exact .inr hT
  unfold partsW at hg
  rw [he] at hg
  have hd2 := hd
  unfold doneW at hd2
  rw [he] at hd2
  cases hdn : downQ q with
  | false =>
    rw [if_neg (by simp [hdn])] at hg
    have hT : w.Todo = [] ∨ (q.Kind = 3 ∧ enough q ((rowsW w.Visits).length : Int) = true) := by
      cases hTd : w.Todo with
      | nil => exact .inl rfl
      | cons a l =>
        rw [hTd] at hd2
        have hen : enough q ((rowsW w.Visits).length : Int) = true := hd2
        refine .inr ⟨?_, hen⟩
        unfold enough at hen
        simp only [Bool.and_eq_true, Bool.or_eq_true, decide_eq_true_eq] at hen
        have : q.Kind ≠ 4 := by
          have := of_decide_eq_false hdn
          exact this
        omega
    obtain ⟨a', e, h1⟩ := body w.Visits w.Todo rfl hg (.inl hdn) hT
    exact fin a' e h1
  | true =>
    rw [if_pos hdn] at hg
    have hk : q.Kind = 4 := of_decide_eq_true hdn
    cases hTd : w.Todo with
    | nil =>
      rw [hTd, List.nil_append] at hg
      obtain ⟨a', e, h1⟩ := body w.Visits [] rfl (by rw [List.append_nil]; exact hg) (.inr rfl) (.inl rfl)
      exact fin a' e h1
    | cons x0 l0 =>
      rw [hTd] at hd2
      have hen : enough q ((rowsW w.Visits).length : Int) = true := hd2
      have hc := count_pos h0 (.inr hk)
      cases hV : w.Visits with
      | nil =>
        exfalso
        rw [hV] at hen
        unfold enough rowsW at hen
        simp only [Bool.and_eq_true, decide_eq_true_eq, List.flatMap_nil, List.length_nil] at hen
        have := hen.2
        omega
      | cons v V =>
        rw [hTd, hV] at hg
        have h1 := qrg_one hk
        obtain ⟨r, R', hQ, _⟩ := gd_first_all (x := x0) hg hR
        have hR0 : R' = [] := by
          rw [hQ] at h1
          exact List.eq_nil_of_length_eq_zero (by simpa using h1)
        subst hR0
        have hr := (emp_iff r).1 (hR.ne r (by rw [hQ]; simp))
        -- behind what is left
        obtain ⟨n, s, p⟩ := hg
        rw [hQ] at p
        rw [List.map_cons] at n s p
        have hv := (emp_iff v.Part).1 (n v.Part (by simp))
        have s3 := List.pairwise_append.1 s
        have before : ∀ c ∈ x0 :: l0, v.Part.lo.lt c.hi = false := fun c hc => s3.2.2 c hc v.Part (by simp)
        have hin : v.Part.lo.lt r.lo = false ∧ v.Part.lo.lt r.hi = true := by
          have := (p v.Part.lo hv.1).1 ⟨v.Part, by simp, lt_irrefl _, hv.2.2⟩
          rcases pt_cons.1 this with h2 | h2
          · exact h2
          · exact absurd h2 pt_nil
        have g : Gd ((v :: V).map (·.Part) ++ []) (⟨v.Part.lo, r.hi⟩ :: []) := by
          rw [List.append_nil, List.map_cons]
          refine ⟨fun c hc => n c (List.mem_append_right _ hc), s3.2.1, fun b hb => ?_⟩
          have s4 := (List.pairwise_cons.1 s3.2.1).1
          rw [pt_cons (x := ⟨v.Part.lo, r.hi⟩)]
          constructor
          · intro hb2
            left
            refine ⟨?_, ?_⟩
            · rcases pt_cons.1 hb2 with h3 | ⟨c, hc, h3, h4⟩
              · exact h3.1
              · have vc := (emp_iff c).1 (n c (List.mem_append_right _ (List.mem_cons_of_mem _ hc)))
                cases hh : b.lt v.Part.lo with
                | false => rfl
                | true =>
                  have := lt_trans hh hv.2.2
                  rw [lt_le hv.2.1 vc.1 this (s4 c hc)] at h3; cases h3
            · rcases pt_cons.1 ((p b hb).1 (pt_app.2 (.inr hb2))) with h3 | h3
              · exact h3.2
              · exact absurd h3 pt_nil
          · rintro (⟨h3, h4⟩ | h3)
            · have hbr : b.lt r.lo = false := by
                cases hh : b.lt r.lo with
                | false => rfl
                | true =>
                  cases h5 : v.Part.lo.lt r.lo with
                  | true => rw [hin.1] at h5; cases h5
                  | false => rw [lt_le hr.1 hv.1 hh h5] at h3; cases h3
              rcases pt_app.1 ((p b hb).2 (pt_cons.2 (.inl ⟨hbr, h4⟩))) with ⟨c, hc, h5, h6⟩ | h5
              · have vc := (emp_iff c).1 (n c (List.mem_append_left _ hc))
                rw [lt_le vc.2.1 hv.1 h6 (before c hc)] at h3; cases h3
              · exact h5
            · exact absurd h3 pt_nil
        have hpos : posT q (v :: V) = v.Part.lo := by
          unfold posT
          rw [hV] at hen
          rw [hdn, hen]; rfl
        obtain ⟨a', e, h2⟩ := scan hR (v :: V) [] 0 r [] v.Part.lo (by rw [List.drop_zero]; exact hQ) hv.1 hin.2 hin.1 g
        rw [← hV]
        exact fin a' (by rw [hV, hpos]; exact e) (.inl (h2 rfl))
theorem sameVs_refl : ∀ l : List TVisit, sameVs l l = true
  | [] => rfl
  | v :: l => by
    rw [sameVs, sameVs_refl l]
    unfold sameV
    simp [sameRange_refl]
end Go.Proofs.YtlbnhhfaedhgfaaGreatDoor
namespace Go.Proofs.YtlbnhhfaedhgfaaGreatDoor
open Go.RowKit
set_option maxRecDepth 100000
set_option maxHeartbeats 4000000
attribute [local irreducible] WK WC WL Wk Rel OpD OpV WD WO sel bnd obnd app lget lsl sget ssl scat letg iquo irem Op.bytesLess
attribute [local irreducible] qchk qranges union
def Mlaw29_exact_l1 (a1 : List TVisit) (b2 : List TVisit) : List TVisit → Int → Option (Ctl Bool Unit)
  | [], i =>
  some (Ctl.nxt ())
  | r4 :: xs5, i =>
  obnd (lget a1 i) fun e7 =>
  obnd (lget b2 i) fun e8 =>
  sel (!(decide (e7.Part.lo.key = e8.Part.lo.key) && decide (e7.Part.lo.top = e8.Part.lo.top) && decide (e7.Part.hi.key = e8.Part.hi.key) && decide (e7.Part.hi.top = e8.Part.hi.top))) (
   some (Ctl.ret false)) (
   obnd (lget a1 i) fun e9 =>
   obnd (lget b2 i) fun e10 =>
   sel (!(decide (e9.View.Interval.lo.key = e10.View.Interval.lo.key) && decide (e9.View.Interval.lo.top = e10.View.Interval.lo.top) && decide (e9.View.Interval.hi.key = e10.View.Interval.hi.key) && decide (e9.View.Interval.hi.top = e10.View.Interval.hi.top))) (
    some (Ctl.ret false)) (
    Mlaw29_exact_l1 a1 b2 xs5 (i + 1)))
def Mlaw29_exact (a1 : List TVisit) (b2 : List TVisit) : Option Bool :=
 obnd (Mref28_SameVisits a1 b2) fun y3 =>
 sel (!y3) (
  some false) (
  obnd (
   Mlaw29_exact_l1 a1 b2 a1 0 : Option (Ctl Bool Unit)) fun mu => ocbnd mu fun (_ : Unit) =>
  some true)
theorem Mlaw29_exact_sp {a1 : List TVisit} {b2 : List TVisit} {y : Bool} (hm : Mlaw29_exact a1 b2 = some y) : Spec Tryz.prog 53 [.d (lst TVisit.ds a1), .d (lst TVisit.ds b2)] [] fun u h => u = vB y ∧ h = [] := by
 refine si Tryz.func53 Tryz.ntmps53 Tryz.results53 fun B w0 ρ0 => ?_
 unfold Mlaw29_exact at hm
 refine sr ?_
 refine sr ?_
 obtain ⟨y3, hy, hm⟩ := obnd_o hm
 refine wl_cq (Mref28_SameVisits_sp (hm := hy)) ?_
 refine ss ?_
 refine wc_cs hm ?_ ?_ <;> clear hm <;> intro hm
 ·refine sr ?_
  refine sx ?_
  cases hm
  exact wk_r
 refine sx ?_
 refine sr ?_
 obtain ⟨mu1, hm1, hm⟩ := obnd_o hm
 refine wc_cut' (fun st => mu1 = Ctl.nxt () ∧ st = ⟨[], []⟩) ?_ ?_
 ·refine wc_block ?_
  refine wc_len 0 rfl (fun hlenm6 => ?_)
  refine wc_loopw (fun κ st => ∃ (m6 : Nat) , κ = a1.length - m6 ∧ m6 ≤ a1.length ∧ Mlaw29_exact_l1 a1 b2 (a1.drop m6) (m6 : Int) = some mu1 ∧ st = ⟨[(0, .d (lst TVisit.ds a1)), (1, .d (lst TVisit.ds b2)), (11, vI (a1.length : Int)), (12, vI (m6 : Int))], []⟩) [] ⟨0, rfl, Nat.zero_le _, hm1, rfl⟩ ?_
  rintro κ _ ⟨m6, rfl, hlem6, hm1, rfl⟩
  rcases Nat.lt_or_ge m6 a1.length with hltm6 | hgem6
  ·obtain ⟨r4, hxm6, hdr⟩ := drop_c hltm6
   rw [hdr, Mlaw29_exact_l1.eq_2] at hm1
   refine sr ?_
   refine wc_seq ?_
   refine wc_cond_tt (lt_t hltm6) rfl ?_
   refine sx ?_
   refine sr ?_
   refine wc_seq ?_
   refine wc_draw (id := 6) [⟨0, 0, [0]⟩, ⟨1, 0, [5]⟩, ⟨2, 3, [15, 16]⟩, ⟨3, 7, [17]⟩, ⟨4, 15, [18]⟩, ⟨5, 0, [1]⟩, ⟨6, 0, [5]⟩, ⟨7, 96, [20, 21]⟩, ⟨8, 224, [22]⟩, ⟨9, 480, [23]⟩, ⟨10, 1023, [19, 24]⟩, ⟨11, 2047, [25]⟩, ⟨12, 4095, [0, 26]⟩, ⟨13, 4095, [5, 26]⟩, ⟨14, 16383, [26, 27, 28]⟩, ⟨15, 32767, [26, 29]⟩, ⟨16, 65535, [26, 30]⟩, ⟨17, 131071, [26, 31]⟩, ⟨18, 4095, [1, 26]⟩, ⟨19, 4095, [5, 26]⟩, ⟨20, 790527, [26, 33, 34]⟩, ⟨21, 1839103, [26, 35]⟩, ⟨22, 3936255, [26, 36]⟩, ⟨23, 8130559, [26, 37]⟩, ⟨24, 16777215, [26, 32, 38]⟩, ⟨25, 33554431, [26, 39]⟩] mixed (by kernel_rfl) ?_
   refine ss ?_
   obtain ⟨e7, hy, hm1⟩ := obnd_o hm1
   refine wd_r [] (o_ixg (ys := [dI e7.View.Owner, dS e7.View.Interval.lo.key, dB e7.View.Interval.lo.top, dS e7.View.Interval.hi.key, dB e7.View.Interval.hi.top, dI e7.View.Stamp.Epoch, dI e7.View.Stamp.Version, lst Kv.ds e7.View.Rows, dS e7.Part.lo.key, dB e7.Part.lo.top, dS e7.Part.hi.key, dB e7.Part.hi.top]) hy rfl rfl rfl rfl) rfl (by first | exact .no rfl | exact .y rfl rfl rfl rfl) rfl rfl ?_
   refine ss ?_
   obtain ⟨e8, hy, hm1⟩ := obnd_o hm1
   refine wd_r [] (o_ixg (ys := [dI e8.View.Owner, dS e8.View.Interval.lo.key, dB e8.View.Interval.lo.top, dS e8.View.Interval.hi.key, dB e8.View.Interval.hi.top, dI e8.View.Stamp.Epoch, dI e8.View.Stamp.Version, lst Kv.ds e8.View.Rows, dS e8.Part.lo.key, dB e8.Part.lo.top, dS e8.Part.hi.key, dB e8.Part.hi.top]) hy rfl rfl rfl rfl) rfl (by first | exact .no rfl | exact .y rfl rfl rfl rfl) rfl rfl ?_
   refine ss ?_
   refine wd_gp rfl rfl rfl rfl (fun h => ?_) (fun h => ?_)
   ·replace hm1 := sel_t h hm1
    refine ss ?_
    refine wc_cond_t rfl ?_
    refine sr ?_
    refine sx ?_
    cases hm1
    replace hm := ocbnd_r hm
    cases hm
    exact wk_r
   replace hm1 := sel_f h hm1
   refine ss ?_
   obtain ⟨e9, hy, hm1⟩ := obnd_o hm1
   refine wd_r [] (o_ixg (ys := [dI e9.View.Owner, dS e9.View.Interval.lo.key, dB e9.View.Interval.lo.top, dS e9.View.Interval.hi.key, dB e9.View.Interval.hi.top, dI e9.View.Stamp.Epoch, dI e9.View.Stamp.Version, lst Kv.ds e9.View.Rows, dS e9.Part.lo.key, dB e9.Part.lo.top, dS e9.Part.hi.key, dB e9.Part.hi.top]) hy rfl rfl rfl rfl) rfl (by first | exact .no rfl | exact .y rfl rfl rfl rfl) rfl rfl ?_
   refine ss ?_
   obtain ⟨e10, hy, hm1⟩ := obnd_o hm1
   refine wd_r [] (o_ixg (ys := [dI e10.View.Owner, dS e10.View.Interval.lo.key, dB e10.View.Interval.lo.top, dS e10.View.Interval.hi.key, dB e10.View.Interval.hi.top, dI e10.View.Stamp.Epoch, dI e10.View.Stamp.Version, lst Kv.ds e10.View.Rows, dS e10.Part.lo.key, dB e10.Part.lo.top, dS e10.Part.hi.key, dB e10.Part.hi.top]) hy rfl rfl rfl rfl) rfl (by first | exact .no rfl | exact .y rfl rfl rfl rfl) rfl rfl ?_
   refine ss ?_
   refine wc_cs hm1 ?_ ?_ <;> clear hm1 <;> intro hm1
   ·refine sr ?_
    refine sx ?_
    cases hm1
    replace hm := ocbnd_r hm
    cases hm
    exact wk_r
   refine sx ?_
   refine sr ?_
   refine wl_r (o_inc hltm6 hlenm6 rfl rfl rfl) rfl rfl rfl ?_
   refine ss ?_
   exact wk_loopw [] ⟨m6 + 1, rfl, hltm6, hm1, rfl⟩ (by omega)
  ·rw [drop_n hgem6, Mlaw29_exact_l1.eq_1] at hm1
   refine sr ?_
   refine wc_seq ?_
   refine wc_cond_ff (lt_f hgem6) rfl ?_
   refine wc_exit ?_
   refine ss ?_
   cases hm1
   exact wk_cutw [] ⟨rfl, rfl⟩
 rintro _ ⟨rfl, rfl⟩
 replace hm := ocbnd_n hm
 refine sr ?_
 refine sx ?_
 cases hm
 exact wk_r

def Mlaw29_ReceiptRefuses (l1 : List Int) (second2 : Bool) : Option Bool :=
 obnd (Mwld_New l1) fun y3 =>
 obnd (Mlaw29_good y3) fun y4 =>
 obnd (
  sel second2 (
   obnd (Mlaw29_spoil y4.2.2 y4.1.Second) fun y5 =>
   some (y4.1.First, y5.1)) (
   obnd (Mlaw29_spoil y4.2.2 y4.1.First) fun y6 =>
   some (y6.1, y4.1.Second)) : Option (List TVisit × List TVisit)) fun (s7, s8) =>
 obnd (Mreceipt_Check (TReceipt.mk y4.1.Query s7 s8)) fun y9 =>
 obnd (Mlaw29_exact y4.1.First s7) fun y10 =>
 sel y10 (
  obnd (Mlaw29_exact y4.1.Second s8) fun y11 =>
  sel ((!decide (y9.2 = 0)) == (!y11)) (
   obnd (Mlaw29_awake) fun y12 =>
   some y12) (
   some false)) (
  sel ((!decide (y9.2 = 0)) == (!false)) (
   obnd (Mlaw29_awake) fun y13 =>
   some y13) (
   some false))
theorem Mlaw29_ReceiptRefuses_sp {l1 : List Int} {second2 : Bool} {y : Bool} (hm : Mlaw29_ReceiptRefuses l1 second2 = some y) : Spec Tryz.prog 9 [.d (lst dsI l1), vB second2] [] fun u h => u = vB y ∧ h = [] := by
 refine si Tryz.func9 Tryz.ntmps9 Tryz.results9 fun B w0 ρ0 => ?_
 unfold Mlaw29_ReceiptRefuses at hm
 refine sr ?_
 refine sr ?_
 obtain ⟨y3, hy, hm⟩ := obnd_o hm
 refine wl_mkn (u' := .p 201201 0) (h' := [(201201, some (.box 119 [.d (lst dsI y3.l), vI y3.at_]))]) (Mwld_New_sp (hm := hy)) 201200 rfl rfl rfl (by repeat (first | exact Vws.nil | apply Vws.cons | exact Vw.nil | exact Vw.d _ | exact Vw.q _ | apply Vw.a)) rfl (by (try simp only [renH, Option.map_some, Blk.ren, rens_d]); rfl) rfl rfl rfl rfl ?_
 refine sr ?_
 obtain ⟨y4, hy, hm⟩ := obnd_o hm
 refine wl_iq (Mlaw29_good_sp (hm := hy)) 201201 ?_
 refine sr ?_
 refine sr ?_
 obtain ⟨mu1, hm1, hm⟩ := obnd_o hm
 refine wc_cut' (fun st => ∃ (s7 : List TVisit) (s8 : List TVisit), mu1 = (s7, s8) ∧ st = ⟨[(6, .p 106 0), (8, .p 108 0)], [(106, some (.box 81 [vI y4.1.Query.Kind, .d (lst Rng.ds y4.1.Query.Ranges), vS y4.1.Query.Key, vI y4.1.Query.Count, .d (lst TVisit.ds y4.1.First), .d (lst TVisit.ds y4.1.Second)])), (108, some (.box 81 [vI y4.1.Query.Kind, .d (lst Rng.ds y4.1.Query.Ranges), vS y4.1.Query.Key, vI y4.1.Query.Count, .d (lst TVisit.ds s7), .d (lst TVisit.ds s8)]))]⟩) ?_ ?_
 ·refine wc_cs hm1 ?_ ?_ <;> clear hm1 <;> intro hm1
  ·refine sr ?_
   obtain ⟨y5, hy, hm1⟩ := obnd_o hm1
   refine wl_iq (Mlaw29_spoil_sp (hm := hy)) 201201 ?_
   refine ss ?_
   cases hm1
   exact wk_cutw [(106, 106), (108, 108)] ⟨_, _, rfl, rfl⟩
  refine sr ?_
  obtain ⟨y6, hy, hm1⟩ := obnd_o hm1
  refine wl_iq (Mlaw29_spoil_sp (hm := hy)) 201201 ?_
  refine ss ?_
  cases hm1
  exact wk_cutw [(106, 106), (108, 108)] ⟨_, _, rfl, rfl⟩
 rintro _ ⟨s7, s8, rfl, rfl⟩
 refine sr ?_
 obtain ⟨y9, hy, hm⟩ := obnd_o hm
 refine wl_cq (Mreceipt_Check_sp (hm := hy)) ?_
 refine sr ?_
 obtain ⟨y10, hy, hm⟩ := obnd_o hm
 refine wl_cq (Mlaw29_exact_sp (hm := hy)) ?_
 refine ss ?_
 refine wl_sg hm ?_ ?_ <;> clear hm <;> intro hm
 ·refine ss ?_
  obtain ⟨y11, hy, hm⟩ := obnd_o hm
  refine wl_cq (Mlaw29_exact_sp (hm := hy)) ?_
  refine ss ?_
  refine wl_sg hm ?_ ?_ <;> clear hm <;> intro hm
  ·refine ss ?_
   obtain ⟨y12, hy, hm⟩ := obnd_o hm
   refine wl_cq (Mlaw29_awake_sp (hm := hy)) ?_
   refine sx ?_
   cases hm
   exact wk_r
  refine sx ?_
  cases hm
  exact wk_r
 refine ss ?_
 refine wl_sg hm ?_ ?_ <;> clear hm <;> intro hm
 ·refine ss ?_
  obtain ⟨y13, hy, hm⟩ := obnd_o hm
  refine wl_cq (Mlaw29_awake_sp (hm := hy)) ?_
  refine sx ?_
  cases hm
  exact wk_r
 refine sx ?_
 cases hm
 exact wk_r

end Go.Proofs.YtlbnhhfaedhgfaaGreatDoor
namespace Go.Proofs.YtlbnhhfaedhgfaaGreatDoor
open Go.RowKit
theorem same_rng {a b : Rng} (ha : vb a.lo = true ∧ vb a.hi = true) (hb : vb b.lo = true ∧ vb b.hi = true) (h : Mref24_SameRange a b = true) : a = b := by
  unfold Mref24_SameRange at h
  simp only [bnd_eq, eq_ref1_Compare, sel_and, Bool.and_eq_true, decide_eq_true_eq] at h
  obtain ⟨h1, h2⟩ := h
  obtain ⟨k1, k2⟩ := (cmp_eq0 _ _).1 h1
  obtain ⟨k3, k4⟩ := (cmp_eq0 _ _).1 h2
  have e1 := lt_total ha.1 hb.1 k1 k2
  have e2 := lt_total ha.2 hb.2 k3 k4
  cases a; cases b
  simp only at e1 e2
  rw [e1, e2]
theorem vOk_rng {v : TVisit} (h : vOk v = true) : (vb v.View.Interval.lo = true ∧ vb v.View.Interval.hi = true) ∧ (vb v.Part.lo = true ∧ vb v.Part.hi = true) := by
  unfold vOk at h
  simp only [Bool.and_eq_true, Bool.not_eq_true'] at h
  have h1 := (emp_iff _).1 (valid_emp h.1.1)
  have h2 := (emp_iff _).1 h.1.2
  exact ⟨⟨h1.1, h1.2.1⟩, ⟨h2.1, h2.2.1⟩⟩
theorem visit_ext {a b : TVisit} (h : sameV a b = true) (h1 : a.View.Interval = b.View.Interval) (h2 : a.Part = b.Part) : a = b := by
  unfold sameV at h
  simp only [Bool.and_eq_true, decide_eq_true_eq] at h
  obtain ⟨⟨⟨⟨⟨g1, g2⟩, g3⟩, -⟩, -⟩, g4⟩ := h
  obtain ⟨⟨ao, ai, ⟨ae, av⟩, ar⟩, ap⟩ := a
  obtain ⟨⟨bo, bi, ⟨be, bv⟩, br⟩, bp⟩ := b
  simp only at g1 g2 g3 g4 h1 h2
  subst g1 g2 g3 g4 h1 h2
  rfl
theorem same_eq {a b : TVisit} (ha : vOk a = true) (hb : vOk b = true) (h : sameV a b = true) : a = b := by
  have h0 := h
  unfold sameV at h
  simp only [Bool.and_eq_true] at h
  obtain ⟨⟨⟨-, g1⟩, g2⟩, -⟩ := h
  exact visit_ext h0 (same_rng (vOk_rng ha).1 (vOk_rng hb).1 g1) (same_rng (vOk_rng ha).2 (vOk_rng hb).2 g2)
theorem sames_eq : ∀ {a b : List TVisit}, (∀ v ∈ a, vOk v = true) → (∀ v ∈ b, vOk v = true) → sameVs a b = true → a = b
  | [], [], _, _, _ => rfl
  | x :: a, y :: b, h1, h2, h => by
    simp only [sameVs, Bool.and_eq_true] at h
    rw [same_eq (h1 x List.mem_cons_self) (h2 y List.mem_cons_self) h.1, sames_eq (fun v hv => h1 v (List.mem_cons_of_mem _ hv)) (fun v hv => h2 v (List.mem_cons_of_mem _ hv)) h.2]
  | [], _ :: _, _, _, h => by simp [sameVs] at h
  | _ :: _, [], _, _, h => by simp [sameVs] at h
theorem check_same {r : TReceipt} (h : checkE r = 0) : r.First = r.Second ∧ tilingW r.Query r.First = 0 := by
  unfold checkE at h
  split at h
  · contradiction
  · rename_i h1
    have h1 : tilingW r.Query r.First = 0 := Classical.byContradiction h1
    split at h
    · contradiction
    · rename_i h2
      have h2 : tilingW r.Query r.Second = 0 := Classical.byContradiction h2
      split at h
      · rename_i h3
        exact ⟨sames_eq (fun v hv => ((tiling_0 h1).2 v hv).1) (fun v hv => ((tiling_0 h2).2 v hv).1) h3, h1⟩
      · omega
def prts (v : TVisit) : Rng × Rng := (v.Part, v.View.Interval)
theorem exact_eq : ∀ {a b : List TVisit}, a.length = b.length → (sameVs a b && decide (a.map prts = b.map prts)) = decide (a = b)
  | [], [], _ => rfl
  | x :: a, y :: b, h => by
    have ih := exact_eq (a := a) (b := b) (by simpa using h)
    by_cases hxy : x = y ∧ a = b
    · obtain ⟨rfl, rfl⟩ := hxy
      rw [sameVs_refl]; simp
    · have hne : (x :: a) ≠ (y :: b) := fun e => hxy (by simpa using e)
      rw [decide_eq_false hne]
      cases hs : sameVs (x :: a) (y :: b) with
      | false => rfl
      | true =>
        rw [Bool.true_and]
        refine decide_eq_false fun he => ?_
        simp only [sameVs, Bool.and_eq_true] at hs
        simp only [List.map_cons, List.cons.injEq] at he
        obtain ⟨e1, e2⟩ := he
        have e1 := Prod.mk.inj e1
        have : x = y := visit_ext hs.1 e1.2 e1.1
        have h2 : decide (a = b) = true := by rw [← ih, hs.2, e2]; simp
        exact hxy ⟨this, of_decide_eq_true h2⟩
  | [], _ :: _, h => by simp at h
  | _ :: _, [], h => by simp at h
theorem prts_drop {a b : List TVisit} (h : a.length = b.length) {m : Nat} (hm : m < a.length) : decide ((a.drop m).map prts = (b.drop m).map prts) = (decide (a[m].Part = (b[m]'(by omega)).Part) && (decide (a[m].View.Interval = (b[m]'(by omega)).View.Interval) && decide ((a.drop (m + 1)).map prts = (b.drop (m + 1)).map prts))) := by
  rw [List.drop_eq_getElem_cons hm, List.drop_eq_getElem_cons (l := b) (by omega)]
  simp only [List.map_cons, List.cons.injEq, prts, Prod.mk.injEq, Bool.decide_and, Bool.and_assoc]
theorem exact_l1 (a b : List TVisit) (h : a.length = b.length) : ∀ (xs : List TVisit) (m : Nat), a.drop m = xs → m ≤ a.length → Mlaw29_exact_l1 a b xs (m : Int) = some (sel (decide ((a.drop m).map prts = (b.drop m).map prts)) (.nxt ()) (.ret false))
  | [], m, h1, hm => by
    have h2 : a.length - m = 0 := by have := congrArg List.length h1; simpa using this
    rw [Mlaw29_exact_l1.eq_1, h1, List.drop_eq_nil_of_le (by omega)]; rfl
  | r :: xs, m, h1, hm => by
    obtain ⟨h2, h3⟩ := drop_get h1
    have h4 := (List.getElem?_eq_some_iff.1 h2).1
    rw [Mlaw29_exact_l1.eq_2, lget_nat, lget_nat, List.getElem?_eq_getElem h4, List.getElem?_eq_getElem (show m < b.length by omega)]
    simp only [obnd_some]
    rw [range_eqb, range_eqb, show (m : Int) + 1 = ((m + 1 : Nat) : Int) by omega, exact_l1 a b h xs (m + 1) h3 h4, prts_drop h h4]
    cases decide (a[m].Part = (b[m]'(by omega)).Part) <;> cases decide (a[m].View.Interval = (b[m]'(by omega)).View.Interval) <;> rfl
theorem eq_exact (a b : List TVisit) : Mlaw29_exact a b = some (decide (a = b)) := by
  unfold Mlaw29_exact
  rw [eq_ref28_SameVisits, obnd_some]
  cases hs : sameVs a b with
  | false =>
    have : a ≠ b := fun e => by rw [e, sameVs_refl] at hs; cases hs
    rw [decide_eq_false this]; rfl
  | true =>
    have hl := sameVs_len hs
    have e := exact_eq hl
    rw [hs, Bool.true_and] at e
    have := exact_l1 a b hl a 0 rfl (Nat.zero_le _)
    rw [show ((0 : Nat) : Int) = 0 from rfl, List.drop_zero, List.drop_zero, e] at this
    rw [Bool.not_true, sel_false, this, obnd_some]
    cases decide (a = b) <;> rfl
theorem visits_9 {t : List Kv} {q : TQuery} {w : TWalk} (h : Run t q w) (ht : t.length ≤ 8) (hw : w.Visits.length ≤ 100) : Cc 100 8 w.Visits := ⟨by omega, fun v hv => by
  rw [h.ri v hv]
  have := List.length_filter_le (fun x : Kv => contains v.Part x.key) t
  omega⟩
theorem Cc.ok9 {n m : Nat} {l : List TVisit} (h : Cc n m l) (hn : n ≤ 1000) (hm : m ≤ 10000) : okC l := ⟨by have := h.1; omega, fun v hv => by have := h.2 v hv; omega⟩
theorem receiptRefuses_ok (l : List Int) (sec : Bool) : Mlaw29_ReceiptRefuses l sec = some true := by
  have key : Tot (Mlaw29_ReceiptRefuses l sec) fun b => b = true := by
    unfold Mlaw29_ReceiptRefuses
    rw [rawake_ok]
    refine tot_obnd (tot_new l) fun τ hτ => tot_obnd (tot_good hτ) fun y4 h4 => ?_
    obtain ⟨k0, q, w, k1, k2, k3, k4, k5, k6, k7⟩ := h4
    have g4 := k1.2.1
    have hv := visits_9 k4 k3 k6
    have e1 : y4.1.Query = q := by rw [k7]
    have e2 : y4.1.First = w.Visits := by rw [k7]
    have e3 : y4.1.Second = w.Visits := by rw [k7]
    have tl := run_tiled k1 k4 k5
    refine tot_obnd (R := fun z => (okC z.1 ∧ okC z.2) ∧ (z.1 = w.Visits ∨ z.2 = w.Visits)) (tot_sel (fun _ => tot_obnd (tot_spoil k0 (by rw [e3]; exact hv) (by omega) (by omega)) fun z hz => tot_some ⟨⟨by simp only; rw [e2]; exact k4.okC, hz.2.ok9 (by omega) (by omega)⟩, .inl e2⟩) fun _ => tot_obnd (tot_spoil k0 (by rw [e2]; exact hv) (by omega) (by omega)) fun z hz => tot_some ⟨⟨hz.2.ok9 (by omega) (by omega), by simp only; rw [e3]; exact k4.okC⟩, .inr e3⟩) ?_
    rintro ⟨s7, s8⟩ ⟨⟨g1, g2⟩, g3⟩
    simp only at g1 g2 g3 ⊢
    obtain ⟨a, c1, -, -⟩ := check_eq ⟨y4.1.Query, s7, s8⟩ (by simp only; rw [e1]; omega) g1 g2
    rw [c1, obnd_some, e2, e3, eq_exact, eq_exact, obnd_some, obnd_some]
    simp only
    have iff0 : decide (checkE ⟨y4.1.Query, s7, s8⟩ = 0) = (decide (w.Visits = s7) && decide (w.Visits = s8)) := by
      rw [e1]
      by_cases hh : w.Visits = s7 ∧ w.Visits = s8
      · obtain ⟨rfl, h2⟩ := hh
        subst h2
        have : checkE ⟨q, w.Visits, w.Visits⟩ = 0 := by
          unfold checkE
          simp only
          rw [tl, if_neg (by simp), if_neg (by simp), sameVs_refl, if_pos rfl]
        rw [this]; simp
      · have hne : checkE ⟨q, s7, s8⟩ ≠ 0 := fun hc => by
          have h1 := (check_same hc).1
          simp only at h1
          rcases g3 with h2 | h2
          · exact hh ⟨h2.symm, by rw [← h1, h2]⟩
          · exact hh ⟨by rw [h1, h2], h2.symm⟩
        rw [decide_eq_false hne]
        cases d1 : decide (w.Visits = s7) with
        | false => rfl
        | true =>
          cases d2 : decide (w.Visits = s8) with
          | false => rfl
          | true => exact absurd ⟨of_decide_eq_true d1, of_decide_eq_true d2⟩ hh
    rw [iff0]
    cases decide (w.Visits = s7) <;> cases decide (w.Visits = s8) <;> exact tot_some rfl
  obtain ⟨b, e, h⟩ := key
  rw [e, h]
end Go.Proofs.YtlbnhhfaedhgfaaGreatDoor
