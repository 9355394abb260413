/-
  Lemmas: The law ReceiptHonest holds of its model.
-/
import Derived.WalkKit
import Derived.Test.YtlbnhhfaedhgfaaGreatDoorPB14
import Derived.Test.YtlbnhhfaedhgfaaGreatDoorPB15
import Derived.Deep.Slices
import Derived.Test.YtlbnhhfaedhgfaaGreatDoorPB18
import Derived.Test.YtlbnhhfaedhgfaaGreatDoorPB19
import Derived.Test.YtlbnhhfaedhgfaaGreatDoorPB27
import Derived.Test.YtlbnhhfaedhgfaaGreatDoorPB29
import Derived.Test.YtlbnhhfaedhgfaaGreatDoorPB30
import Derived.Test.YtlbnhhfaedhgfaaGreatDoorPB31
import Derived.Test.YtlbnhhfaedhgfaaGreatDoorPB26
import Derived.Test.YtlbnhhfaedhgfaaGreatDoorPB4
import Derived.Test.YtlbnhhfaedhgfaaGreatDoorPB16
import Derived.Test.YtlbnhhfaedhgfaaGreatDoorPB17
set_option linter.unusedSimpArgs false
set_option linter.unusedVariables false
namespace Go.Proofs.YtlbnhhfaedhgfaaGreatDoor
open Go.RowKit

theorem cmp_eq0 (a b : Bnd) : cmp a b = 0 ↔ a.lt b = false ∧ b.lt a = false := by
  unfold cmp; split
  · simp [*]
  · split <;> simp [*]
end Go.Proofs.YtlbnhhfaedhgfaaGreatDoor
namespace Go.Proofs.YtlbnhhfaedhgfaaGreatDoor
open Go.ChangeShapes Go.WideShapes Go.ChangeAt Go.RowKit Go.Joins
set_option maxRecDepth 100000
def anyB (_ : Bool) : Prop := True
def szS (s : ByteArray) : Prop := s.size ≤ 9223372036854775807
section
variable {P : Program} {T E : TypeId} {W : World}
theorem opn_bool (h : P.underlying T = some .bool) : Opn P T dsB anyB := ⟨fun hx => by
  obtain ⟨b, rfl, -⟩ := DataW.trod_bool h hx
  exact ⟨b, trivial, .cons (.c rfl) .nil⟩⟩
theorem opn_str (h : P.underlying T = some .string) : Opn P T dsS szS := ⟨fun hx => by
  obtain ⟨s, rfl, -, hs⟩ := DataW.trod_string h hx
  exact ⟨s, hs, .cons (.c rfl) .nil⟩⟩
variable {H : Type} {enc : TypeId × Value → H}
theorem of_field {fs : Array Field} {n : Nat} {cs : List Value} {xs : List (DataW H × List MemPlace)} {α : Type} {f : α → List D} {I : α → Prop} {o c : Nat} (hf : ∀ (i : Nat) (g : Field), fs[i]? = some g → DataW.trod enc P W 0 (fun _ => true) true n g.type ((cs.drop g.offset).take (P.cellsOf g.type)) = xs[i]?)
    (hlen : xs.length = fs.size) (i : Nat) {g : Field} (hg : fs[i]? = some g) (ht : g.type = T) (ho : g.offset = o) (hc : P.cellsOf T = c) [hO : Opn P T f I] : ∃ a : α, I a ∧ RDs W (fun b => b < W.heap.size) (f a) ((cs.drop o).take c) := by
  have h1 := hf i g hg
  have hi : i < xs.length := by rw [hlen]; exact (Array.getElem?_eq_some_iff.1 hg).1
  rw [List.getElem?_eq_getElem hi, ht, ho, hc] at h1
  exact hO.out h1
theorem chain_of {ok : Nat → Prop} {cs : List Value} {xs ys : List D} {o c : Nat} (h1 : RDs W ok xs ((cs.drop o).take c)) (h2 : RDs W ok ys (cs.drop (o + c))) : RDs W ok (xs ++ ys) (cs.drop o) := by
  have := h1.append h2
  rwa [← List.drop_drop, List.take_append_drop] at this
theorem fin_of {ok : Nat → Prop} {cs : List Value} {n : Nat} (hl : cs.length = P.cellsOf T) (hc : P.cellsOf T = n) : RDs W ok [] (cs.drop n) := by
  rw [List.drop_eq_nil_of_le (by omega)]
  exact .nil
theorem rvs_d {ok : Nat → Prop} {ρ : Lc} : ∀ {xs : List D} {vs : List Value}, RDs W ok xs vs → RVs W ok ρ (xs.map .d) vs
  | _, _, .nil => .nil
  | _, _, .cons h t => .cons (.d h) (rvs_d t)
theorem arg_agg {α : Type} {f : α → List D} {I : α → Prop} [hO : Opn P T f I] {fs : Array Field} {ρ : Lc} {base : Nat} {v : Value} {d : DataW H} {ps : List MemPlace} (hu : P.underlying T = some (.struct fs)) (hv : Value.okWide P W .any base T v) (h : DataW.Trod enc P W 0 (fun _ => true) true T v d ps) :
    ∃ a : α, I a ∧ RV W (fun b => b < W.heap.size) ρ (.a ((f a).map .d)) v := by
  obtain ⟨cs, rfl, -⟩ := okWide_struct hu hv
  obtain ⟨fuel, h⟩ := h
  obtain ⟨a, h1, h2⟩ := hO.out h
  exact ⟨a, h1, by have := RV.a (rvs_d (ρ := ρ) h2); simpa [Value.cells] using this⟩
end
end Go.Proofs.YtlbnhhfaedhgfaaGreatDoor
namespace Go.Proofs.YtlbnhhfaedhgfaaGreatDoor
open Go.RowKit
set_option maxRecDepth 100000
set_option maxHeartbeats 4000000
attribute [local irreducible] WK WC WL Wk Rel OpD OpV WD WO sel bnd obnd app lget lsl sget ssl scat letg iquo irem Op.bytesLess
def Mref1_Same_l1 (a1 : List Rng) (b2 : List Rng) : Nat → Int → Option (Ctl Bool Unit)
  | 0, _ => none
  | fuel + 1, i3 =>
  obnd (
   sel (decide (i3 < (a1.length : Int))) (
    some (Ctl.nxt ())) (
    some (Ctl.ret (Ctl.nxt ()))) : Option (Ctl (Ctl Bool Unit) Unit)) fun mu => ocbnd mu fun (_ : Unit) =>
  obnd (lget a1 i3) fun e4 =>
  obnd (lget b2 i3) fun e5 =>
  sel (!(decide (e4.lo.key = e5.lo.key) && decide (e4.lo.top = e5.lo.top) && decide (e4.hi.key = e5.hi.key) && decide (e4.hi.top = e5.hi.top))) (
   some (Ctl.ret false)) (
   Mref1_Same_l1 a1 b2 fuel (i64w (i3 + 1)))
def Mref1_Same (a1 : List Rng) (b2 : List Rng) : Option Bool :=
 sel (!decide ((a1.length : Int) = (b2.length : Int))) (
  some false) (
  obnd (
   Mref1_Same_l1 a1 b2 FU 0 : Option (Ctl Bool Unit)) fun mu => ocbnd mu fun (_ : Unit) =>
  some true)
theorem Mref1_Same_sp {a1 : List Rng} {b2 : List Rng} {y : Bool} (hm : Mref1_Same a1 b2 = some y) : Spec Tryz.prog 31 [.d (lst Rng.ds a1), .d (lst Rng.ds b2)] [] fun u h => u = vB y ∧ h = [] := by
 refine si Tryz.func31 Tryz.ntmps31 Tryz.results31 fun B w0 ρ0 => ?_
 unfold Mref1_Same at hm
 refine sr ?_
 refine sr ?_
 refine wc_cs hm ?_ ?_ <;> clear hm <;> intro hm
 ·refine sr ?_
  refine sx ?_
  cases hm
  exact wk_r
 refine sx ?_
 refine sr ?_
 obtain ⟨mu1, hm1, hm⟩ := obnd_o hm
 refine wc_cut' (fun st => mu1 = Ctl.nxt () ∧ st = ⟨[], []⟩) ?_ ?_
 ·refine wc_block ?_
  refine wc_loopw (fun κ st => ∃ (i3 : Int), Mref1_Same_l1 a1 b2 κ i3 = some mu1 ∧ st = ⟨[(0, .d (lst Rng.ds a1)), (1, .d (lst Rng.ds b2)), (5, vI i3)], []⟩) [] ⟨_, hm1, rfl⟩ ?_
  rintro κ _ ⟨i3, hm1, rfl⟩
  cases κ with
  | zero => rw [Mref1_Same_l1.eq_1] at hm1; cases hm1
  | succ κ =>
   rw [Mref1_Same_l1.eq_2] at hm1
   refine sr ?_
   obtain ⟨mu2, hm2, hm1⟩ := obnd_o hm1
   refine wc_cut' (fun st => mu2 = Ctl.nxt () ∧ st = ⟨[(0, .d (lst Rng.ds a1)), (1, .d (lst Rng.ds b2)), (5, vI i3)], []⟩) ?_ ?_
   ·refine wc_cs hm2 ?_ ?_ <;> clear hm2 <;> intro hm2
    ·refine sx ?_
     cases hm2
     exact wk_cutw [] ⟨rfl, rfl⟩
    refine wc_exit ?_
    refine ss ?_
    cases hm2
    replace hm1 := ocbnd_r hm1
    cases hm1
    exact wk_cutw [] ⟨rfl, rfl⟩
   rintro _ ⟨rfl, rfl⟩
   replace hm1 := ocbnd_n hm1
   refine ss ?_
   refine wc_seq ?_
   refine wc_block ?_
   refine wc_seq ?_
   refine wc_draw (id := 6) [⟨0, 0, [0]⟩, ⟨1, 0, [5]⟩, ⟨2, 3, [17, 18]⟩, ⟨3, 7, [19]⟩, ⟨4, 0, [1]⟩, ⟨5, 0, [5]⟩, ⟨6, 48, [21, 22]⟩, ⟨7, 112, [23]⟩, ⟨8, 255, [20, 24]⟩] mixed (by kernel_rfl) ?_
   refine ss ?_
   obtain ⟨e4, hy, hm1⟩ := obnd_o hm1
   refine wd_r [] (o_ixg (ys := [dS e4.lo.key, dB e4.lo.top, dS e4.hi.key, dB e4.hi.top]) hy rfl rfl rfl rfl) rfl (by first | exact .no rfl | exact .y rfl rfl rfl rfl) rfl rfl ?_
   refine ss ?_
   obtain ⟨e5, hy, hm1⟩ := obnd_o hm1
   refine wd_r [] (o_ixg (ys := [dS e5.lo.key, dB e5.lo.top, dS e5.hi.key, dB e5.hi.top]) hy rfl rfl rfl rfl) rfl (by first | exact .no rfl | exact .y rfl rfl rfl rfl) rfl rfl ?_
   refine ss ?_
   refine wc_cs hm1 ?_ ?_ <;> clear hm1 <;> intro hm1
   ·refine sr ?_
    refine sx ?_
    cases hm1
    replace hm := ocbnd_r hm
    cases hm
    exact wk_r
   refine sx ?_
   refine sr ?_
   refine wl_r (o_add rfl rfl rfl rfl) rfl rfl rfl ?_
   refine ss ?_
   exact wk_loopw [] ⟨_, hm1, rfl⟩ (Nat.lt_succ_self _)
 rintro _ ⟨rfl, rfl⟩
 replace hm := ocbnd_n hm
 refine sr ?_
 refine sx ?_
 cases hm
 exact wk_r

end Go.Proofs.YtlbnhhfaedhgfaaGreatDoor
namespace Go.Proofs.YtlbnhhfaedhgfaaGreatDoor
open Go.RowKit
def Mref1_Union (l : List Rng) : Option (List Rng) := if l.length ≤ 1000000 then some (union l) else none
theorem Mref1_Union_sp {l : List Rng} {y : List Rng} (hm : Mref1_Union l = some y) : Spec Tryz.prog 32 [.d (lst Rng.ds l)] [] fun u h => u = .d (lst Rng.ds y) ∧ h = [] := by
  unfold Mref1_Union at hm
  split at hm
  · obtain rfl := Option.some.inj hm
    exact (inferInstance : Ct Tryz.prog 32 [.d (lst Rng.ds l)] _ _).out (by assumption)
  · cases hm
set_option maxRecDepth 100000
set_option maxHeartbeats 4000000
attribute [local irreducible] WK WC WL Wk Rel OpD OpV WD WO sel bnd obnd app lget lsl sget ssl scat letg iquo irem Op.bytesLess
attribute [local irreducible] qchk qranges union
end Go.Proofs.YtlbnhhfaedhgfaaGreatDoor
namespace Go.Proofs.YtlbnhhfaedhgfaaGreatDoor
open Go.RowKit
theorem sameL_l1 (a : List Rng) (ha : a.length ≤ 1000000) : ∀ (k fuel m : Nat), m + k = a.length → k < fuel → Mref1_Same_l1 a a fuel (m : Int) = some (.nxt ())
  | _, 0, _, _, h => absurd h (by omega)
  | 0, fuel + 1, m, h1, _ => by
    rw [Mref1_Same_l1.eq_2, decide_eq_false (by omega), sel_false, obnd_some, ocbnd_ret]
  | k + 1, fuel + 1, m, h1, h2 => by
    have hm : m < a.length := by omega
    rw [Mref1_Same_l1.eq_2, decide_eq_true (by omega), sel_true, obnd_some, ocbnd_nxt]
    simp only [lget_nat, List.getElem?_eq_getElem hm, obnd_some, decide_true, Bool.and_self, Bool.not_true, sel_false]
    rw [i64w_id (by omega) (by omega), show (m : Int) + 1 = ((m + 1 : Nat) : Int) by omega]
    exact sameL_l1 a ha k fuel (m + 1) (by omega) (by omega)
theorem sameL_refl (a : List Rng) (ha : a.length ≤ 1000000) : Mref1_Same a a = some true := by
  unfold Mref1_Same
  have := sameL_l1 a ha a.length FU 0 (by omega) (by unfold FU; omega)
  rw [show ((0 : Nat) : Int) = 0 from rfl] at this
  simp only [decide_true, Bool.not_true, sel_false, this, obnd_some, ocbnd_nxt]
end Go.Proofs.YtlbnhhfaedhgfaaGreatDoor
namespace Go.Proofs.YtlbnhhfaedhgfaaGreatDoor
open Go.RowKit
set_option maxRecDepth 100000
set_option maxHeartbeats 4000000
attribute [local irreducible] WK WC WL Wk Rel OpD OpV WD WO sel bnd obnd app lget lsl sget ssl scat letg iquo irem Op.bytesLess
attribute [local irreducible] qchk qranges union
def Mlaw29_small_l1 : List TVisit → Ctl Bool Unit
  | [] =>
  Ctl.nxt ()
  | r2 :: xs3 =>
  sel (decide (40 < (r2.View.Rows.length : Int))) (
   Ctl.ret false) (
   Mlaw29_small_l1 xs3)
def Mlaw29_small (l1 : List TVisit) : Bool :=
 bnd (
  Mlaw29_small_l1 l1 : Ctl Bool Unit) fun mu => cbnd mu fun (_ : Unit) =>
 decide ((l1.length : Int) ≤ 20)
theorem Mlaw29_small_sp {l1 : List TVisit} {y : Bool} (hm : Mlaw29_small l1 = y) : Spec Tryz.prog 50 [.d (lst TVisit.ds l1)] [] fun u h => u = vB y ∧ h = [] := by
 refine si Tryz.func50 Tryz.ntmps50 Tryz.results50 fun B w0 ρ0 => ?_
 unfold Mlaw29_small at hm
 refine sr ?_
 refine sr ?_
 obtain ⟨mu1, hm1, hm⟩ := bnd_o hm
 refine wc_cut' (fun st => mu1 = Ctl.nxt () ∧ st = ⟨[(0, .d (lst TVisit.ds l1))], []⟩) ?_ ?_
 ·refine wc_block ?_
  refine wc_len 5 rfl (fun hlenm4 => ?_)
  refine wc_loopw (fun κ st => ∃ (m4 : Nat) , κ = l1.length - m4 ∧ m4 ≤ l1.length ∧ Mlaw29_small_l1 (l1.drop m4) = mu1 ∧ st = ⟨[(0, .d (lst TVisit.ds l1)), (5, .d (lst TVisit.ds l1)), (6, vI (l1.length : Int)), (7, vI (m4 : Int))], []⟩) [] ⟨0, rfl, Nat.zero_le _, hm1, rfl⟩ ?_
  rintro κ _ ⟨m4, rfl, hlem4, hm1, rfl⟩
  rcases Nat.lt_or_ge m4 l1.length with hltm4 | hgem4
  ·obtain ⟨r2, hxm4, hdr⟩ := drop_c hltm4
   rw [hdr, Mlaw29_small_l1.eq_2] at hm1
   refine sr ?_
   refine wc_seq ?_
   refine wc_cond_tt (lt_t hltm4) rfl ?_
   refine sx ?_
   refine sr ?_
   refine wl_r (o_ixm (ys := [dI r2.View.Owner, dS r2.View.Interval.lo.key, dB r2.View.Interval.lo.top, dS r2.View.Interval.hi.key, dB r2.View.Interval.hi.top, dI r2.View.Stamp.Epoch, dI r2.View.Stamp.Version, lst Kv.ds r2.View.Rows, dS r2.Part.lo.key, dB r2.Part.lo.top, dS r2.Part.hi.key, dB r2.Part.hi.top]) hxm4 rfl rfl rfl rfl) rfl rfl rfl ?_
   refine sr ?_
   refine wc_cs hm1 ?_ ?_ <;> clear hm1 <;> intro hm1
   ·refine sr ?_
    refine sx ?_
    subst hm1
    replace hm := cbnd_r hm
    subst hm
    exact wk_r
   refine sx ?_
   refine sr ?_
   refine wl_r (o_inc hltm4 hlenm4 rfl rfl rfl) rfl rfl rfl ?_
   refine ss ?_
   exact wk_loopw [] ⟨m4 + 1, rfl, hltm4, hm1, rfl⟩ (by omega)
  ·rw [drop_n hgem4, Mlaw29_small_l1.eq_1] at hm1
   refine sr ?_
   refine wc_seq ?_
   refine wc_cond_ff (lt_f hgem4) rfl ?_
   refine wc_exit ?_
   refine ss ?_
   subst hm1
   exact wk_cutw [] ⟨rfl, rfl⟩
 rintro _ ⟨rfl, rfl⟩
 replace hm := cbnd_n hm
 refine sr ?_
 refine sx ?_
 subst hm
 exact wk_r

end Go.Proofs.YtlbnhhfaedhgfaaGreatDoor
namespace Go.Proofs.YtlbnhhfaedhgfaaGreatDoor
open Go.RowKit
theorem small_eq (l : List TVisit) : Mlaw29_small l = ((l.all fun v => decide (v.View.Rows.length ≤ 40)) && decide (l.length ≤ 20)) := by
  have e : ∀ l : List TVisit, Mlaw29_small_l1 l = sel (l.all fun v => decide (v.View.Rows.length ≤ 40)) (.nxt ()) (.ret false) := by
    intro l
    induction l with
    | nil => rfl
    | cons v l ih =>
      rw [Mlaw29_small_l1.eq_2, ih, List.all_cons]
      by_cases h : v.View.Rows.length ≤ 40
      · rw [decide_eq_false (by omega), sel_false, decide_eq_true h, Bool.true_and]
      · rw [decide_eq_true (by omega), sel_true, decide_eq_false h, Bool.false_and]; rfl
  unfold Mlaw29_small
  rw [e, bnd_eq]
  have h2 : decide ((l.length : Int) ≤ 20) = decide (l.length ≤ 20) := decide_eq_decide.2 (by omega)
  rw [h2]
  cases (l.all fun v => decide (v.View.Rows.length ≤ 40)) <;> rfl
theorem small_ok {l : List TVisit} (h : Mlaw29_small l = true) : okC l ∧ l.length ≤ 20 := by
  rw [small_eq] at h
  simp only [Bool.and_eq_true, decide_eq_true_eq, List.all_eq_true] at h
  exact ⟨⟨by omega, fun v hv => by have := h.1 v hv; omega⟩, h.2⟩
end Go.Proofs.YtlbnhhfaedhgfaaGreatDoor
namespace Go.Proofs.YtlbnhhfaedhgfaaGreatDoor
open Go.RowKit
theorem Gd.tail {x : Rng} {l m m' : List Rng} (g : Gd (x :: l) m) (hm : ∀ b, vb b = true → (Pt m' b ↔ Pt m b ∧ b.lt x.hi = false)) : Gd l m' := by
  obtain ⟨n, s, t⟩ := g
  obtain ⟨s1, s2⟩ := List.pairwise_cons.1 s
  have hx := (emp_iff x).1 (n x List.mem_cons_self)
  refine ⟨fun r hr => n r (List.mem_cons_of_mem _ hr), s2, fun b hb => ?_⟩
  rw [hm b hb, ← t b hb, pt_cons]
  constructor
  · intro h
    refine ⟨.inr h, ?_⟩
    obtain ⟨c, hc, h1, h2⟩ := h
    have vc := (emp_iff c).1 (n c (List.mem_cons_of_mem _ hc))
    cases hh : b.lt x.hi with
    | false => rfl
    | true => rw [lt_le hx.2.1 vc.1 hh (s1 c hc)] at h1; cases h1
  · rintro ⟨h | h, h2⟩
    · rw [h.2] at h2; cases h2
    · exact h
theorem Gd.first {x : Rng} {l m : List Rng} {p h : Bnd} (g : Gd (x :: l) (⟨p, h⟩ :: m)) (hp : vb p = true) (hh : p.lt h = true) (hn : ∀ y ∈ m, emp y = false) (hm : ∀ y ∈ m, y.lo.lt p = false) : x.lo = p := by
  obtain ⟨n, s, t⟩ := g
  obtain ⟨s1, s2⟩ := List.pairwise_cons.1 s
  have hx := (emp_iff x).1 (n x List.mem_cons_self)
  refine lt_total hx.1 hp ?_ ?_
  · rcases pt_cons.1 ((t x.lo hx.1).1 (pt_cons.2 (.inl ⟨lt_irrefl _, hx.2.2⟩))) with h1 | ⟨c, hc, h1, h2⟩
    · exact h1.1
    · have vc := (emp_iff c).1 (hn c hc)
      cases hh : x.lo.lt p with
      | false => rfl
      | true => rw [lt_le hp vc.1 hh (hm c hc)] at h1; cases h1
  · rcases pt_cons.1 ((t p hp).2 (pt_cons.2 (.inl ⟨lt_irrefl _, hh⟩))) with h1 | ⟨c, hc, h1, h2⟩
    · exact h1.1
    · have vc := (emp_iff c).1 (n c (List.mem_cons_of_mem _ hc))
      cases h4 : p.lt x.lo with
      | false => rfl
      | true =>
        have h5 : p.lt x.hi = true := lt_trans h4 hx.2.2
        rw [lt_le hx.2.1 vc.1 h5 (s1 c hc)] at h1; cases h1
theorem Nrm.drop {R : List Rng} (h : Nrm R) (a : Nat) : Nrm (R.drop a) := ⟨fun r hr => h.ne r (List.mem_of_mem_drop hr), h.gap.sublist (List.drop_sublist a R)⟩
end Go.Proofs.YtlbnhhfaedhgfaaGreatDoor
namespace Go.Proofs.YtlbnhhfaedhgfaaGreatDoor
open Go.RowKit
set_option maxRecDepth 100000
set_option maxHeartbeats 4000000
attribute [local irreducible] WK WC WL Wk Rel OpD OpV WD WO sel bnd obnd app lget lsl sget ssl scat letg iquo irem Op.bytesLess
attribute [local irreducible] qchk qranges union
def Mlaw29_ReceiptHonest_l1 : Nat → List Int → Int → List TVisit → List TVisit → Int → Option (List TVisit × List TVisit)
  | 0, _, _, _, _, _ => none
  | fuel + 1, x10, x11, r12, r13, i14 =>
  obnd (
   sel (decide (0 < i14)) (
    some (Ctl.nxt ())) (
    some (Ctl.ret (r12, r13))) : Option (Ctl (List TVisit × List TVisit) Unit)) fun mu => ocbnd mu fun (_ : Unit) =>
  obnd (Mlaw29_spoil (TTape.mk x10 x11) r12) fun y15 =>
  obnd (Mwld_Tape_Bool y15.2 3) fun y16 =>
  sel y16.1 (
   Mlaw29_ReceiptHonest_l1 fuel y16.2.l y16.2.at_ y15.1 y15.1 (i64w (i14 - 1))) (
   Mlaw29_ReceiptHonest_l1 fuel y16.2.l y16.2.at_ y15.1 r13 (i64w (i14 - 1)))
def Mlaw29_ReceiptHonest_l4 (r25 : TVisit) : List Kv → Int → Option (Ctl (Ctl (Ctl (Ctl (Ctl Bool Unit) Unit) (List Rng × Int)) (List Rng × Int)) Int)
  | [], n29 =>
  some (Ctl.nxt n29)
  | r30 :: xs31, n29 =>
  bnd (Mref1_Contains r25.Part r30.key) fun y33 =>
  sel (!y33) (
   some (Ctl.ret (Ctl.ret (Ctl.ret (Ctl.ret (Ctl.ret false)))))) (
   bnd (Mref1_Contains r25.View.Interval r30.key) fun y34 =>
   sel (!y34) (
    some (Ctl.ret (Ctl.ret (Ctl.ret (Ctl.ret (Ctl.ret false)))))) (
    Mlaw29_ReceiptHonest_l4 r25 xs31 (i64w (n29 + 1))))
def Mlaw29_ReceiptHonest_l3 : List TVisit → List Rng → Int → Option (Ctl (Ctl (Ctl Bool Unit) Unit) (List Rng × Int))
  | [], parts23, n24 =>
  some (Ctl.nxt (parts23, n24))
  | r25 :: xs26, parts23, n24 =>
  obnd (
   obnd (app parts23 ([r25.Part] : List Rng)) fun l28 =>
   obnd (
    Mlaw29_ReceiptHonest_l4 r25 r25.View.Rows n24 : Option (Ctl (Ctl (Ctl (Ctl (Ctl Bool Unit) Unit) (List Rng × Int)) (List Rng × Int)) Int)) fun mu => ocbnd mu fun n35 =>
   some (Ctl.nxt (l28, n35)) : Option (Ctl (Ctl (Ctl (Ctl Bool Unit) Unit) (List Rng × Int)) (List Rng × Int))) fun mu => ocbnd mu fun (parts36, n37) =>
  Mlaw29_ReceiptHonest_l3 xs26 parts36 n37
def Mlaw29_ReceiptHonest_l5 (y22 : (TAnswer × Int)) : List Kv → Int → Option (Ctl (Ctl (Ctl Bool Unit) Unit) Unit)
  | [], i =>
  some (Ctl.nxt ())
  | r45 :: xs46, i =>
  sel (decide (0 < i)) (
   obnd (lget y22.1.Rows (i64w (i - 1))) fun e48 =>
   sel (!bl e48.key r45.key) (
    some (Ctl.ret (Ctl.ret (Ctl.ret false)))) (
    Mlaw29_ReceiptHonest_l5 y22 xs46 (i + 1))) (
   Mlaw29_ReceiptHonest_l5 y22 xs46 (i + 1))
def Mlaw29_ReceiptHonest_l2 : List TReceipt → Option (Ctl Bool Unit)
  | [] =>
  some (Ctl.nxt ())
  | r19 :: xs20 =>
  obnd (
   obnd (Mreceipt_Check r19) fun y22 =>
   obnd (
    sel (!decide (y22.2 = 0)) (
     some (Ctl.ret (Ctl.nxt ()))) (
     some (Ctl.nxt ())) : Option (Ctl (Ctl (Ctl Bool Unit) Unit) Unit)) fun mu => ocbnd mu fun (_ : Unit) =>
   obnd (
    Mlaw29_ReceiptHonest_l3 r19.First [] 0 : Option (Ctl (Ctl (Ctl Bool Unit) Unit) (List Rng × Int))) fun mu => ocbnd mu fun (parts38, n39) =>
   obnd (Mref1_Union parts38) fun y40 =>
   obnd (Mref22_Ranges r19.Query) fun y41 =>
   obnd (Mref1_Same y40 y41) fun y42 =>
   obnd (
    sel (!y42) (
     bnd (Mref22_Enough r19.Query n39) fun y43 =>
     sel (!y43) (
      some true) (
      sel (decide (n39 < (y22.1.Rows.length : Int))) (
       some true) (
       some (!decide ((r19.First.length : Int) = (r19.Second.length : Int)))))) (
     sel (decide (n39 < (y22.1.Rows.length : Int))) (
      some true) (
      some (!decide ((r19.First.length : Int) = (r19.Second.length : Int))))) : Option Bool) fun x44 =>
   sel x44 (
    some (Ctl.ret (Ctl.ret false))) (
    obnd (
     Mlaw29_ReceiptHonest_l5 y22 y22.1.Rows 0 : Option (Ctl (Ctl (Ctl Bool Unit) Unit) Unit)) fun mu => ocbnd mu fun (_ : Unit) =>
    some (Ctl.nxt ())) : Option (Ctl (Ctl Bool Unit) Unit)) fun mu => ocbnd mu fun (_ : Unit) =>
  Mlaw29_ReceiptHonest_l2 xs20
def Mlaw29_ReceiptHonest (l1 : List Int) (raw2 : TReceipt) : Option Bool :=
 obnd (
  bnd (Mlaw29_small raw2.First) fun y3 =>
  sel (!y3) (
   some true) (
   bnd (Mlaw29_small raw2.Second) fun y4 =>
   sel (!y4) (
    some true) (
    some (decide (80 < (raw2.Query.Ranges.length : Int))))) : Option Bool) fun x5 =>
 sel x5 (
  obnd (Mlaw29_awake) fun y6 =>
  some y6) (
  obnd (Mwld_New l1) fun y7 =>
  obnd (Mlaw29_good y7) fun y8 =>
  obnd (Mwld_Tape_Next y8.2.2 3) fun y9 =>
  obnd (
   Mlaw29_ReceiptHonest_l1 FU y9.2.l y9.2.at_ y8.1.First y8.1.Second y9.1 : Option (List TVisit × List TVisit)) fun (r17, r18) =>
  obnd (
   Mlaw29_ReceiptHonest_l2 ([raw2, (TReceipt.mk y8.1.Query r17 r18)] : List TReceipt) : Option (Ctl Bool Unit)) fun mu => ocbnd mu fun (_ : Unit) =>
  obnd (Mlaw29_awake) fun y49 =>
  some y49)
theorem Mlaw29_ReceiptHonest_sp {l1 : List Int} {raw2 : TReceipt} {y : Bool} (hm : Mlaw29_ReceiptHonest l1 raw2 = some y) : Spec Tryz.prog 10 [.d (lst dsI l1), .a [vI raw2.Query.Kind, .d (lst Rng.ds raw2.Query.Ranges), vS raw2.Query.Key, vI raw2.Query.Count, .d (lst TVisit.ds raw2.First), .d (lst TVisit.ds raw2.Second)]] [] fun u h => u = vB y ∧ h = [] := by
 refine si Tryz.func10 Tryz.ntmps10 Tryz.results10 fun B w0 ρ0 => ?_
 unfold Mlaw29_ReceiptHonest at hm
 refine sr ?_
 refine wc_seq ?_
 refine wc_seq ?_
 obtain ⟨mu1, hm1, hm⟩ := obnd_o hm
 refine wc_cut' (fun st => ∃ (x5 : Bool), x5 = mu1 ∧ st = ⟨[(0, .d (lst dsI l1)), (3, .p 103 0), (38, vB x5)], [(103, some (.box 81 [vI raw2.Query.Kind, .d (lst Rng.ds raw2.Query.Ranges), vS raw2.Query.Key, vI raw2.Query.Count, .d (lst TVisit.ds raw2.First), .d (lst TVisit.ds raw2.Second)]))]⟩) ?_ ?_
 ·refine sr ?_
  obtain ⟨y3, hy, hm1⟩ := bnd_o hm1
  refine wl_cq (Mlaw29_small_sp (hm := hy)) ?_
  refine ss ?_
  refine wl_sg hm1 ?_ ?_ <;> clear hm1 <;> intro hm1
  ·refine ss ?_
   cases hm1
   exact wk_cutw [(103, 103)] ⟨_, rfl, rfl⟩
  refine ss ?_
  obtain ⟨y4, hy, hm1⟩ := bnd_o hm1
  refine wl_cq (Mlaw29_small_sp (hm := hy)) ?_
  refine ss ?_
  refine wl_sg hm1 ?_ ?_ <;> clear hm1 <;> intro hm1
  ·refine ss ?_
   cases hm1
   exact wk_cutw [(103, 103)] ⟨_, rfl, rfl⟩
  refine ss ?_
  cases hm1
  exact wk_cutw [(103, 103)] ⟨_, rfl, rfl⟩
 rintro _ ⟨x5, rfl, rfl⟩
 refine ss ?_
 refine wc_cs hm ?_ ?_ <;> clear hm <;> intro hm
 ·refine sr ?_
  obtain ⟨y6, hy, hm⟩ := obnd_o hm
  refine wl_cq (Mlaw29_awake_sp (hm := hy)) ?_
  refine sx ?_
  cases hm
  exact wk_r
 refine sx ?_
 refine sr ?_
 obtain ⟨y7, hy, hm⟩ := obnd_o hm
 refine wl_mkn (u' := .p 204101 0) (h' := [(204101, some (.box 119 [.d (lst dsI y7.l), vI y7.at_]))]) (Mwld_New_sp (hm := hy)) 204100 rfl rfl rfl (by repeat (first | exact Vws.nil | apply Vws.cons | exact Vw.nil | exact Vw.d _ | exact Vw.q _ | apply Vw.a)) rfl (by (try simp only [renH, Option.map_some, Blk.ren, rens_d]); rfl) rfl rfl rfl rfl ?_
 refine sr ?_
 obtain ⟨y8, hy, hm⟩ := obnd_o hm
 refine wl_iq (Mlaw29_good_sp (hm := hy)) 204101 ?_
 refine sr ?_
 obtain ⟨y9, hy, hm⟩ := obnd_o hm
 refine wl_iq (Mwld_Tape_Next_sp (hm := hy)) 204101 ?_
 refine ss ?_
 obtain ⟨mu1, hm1, hm⟩ := obnd_o hm
 refine wc_cut' (fun st => ∃ (r17 : List TVisit) (r18 : List TVisit), mu1 = (r17, r18) ∧ st = ⟨[(3, .p 103 0), (6, .p 106 0)], [(103, some (.box 81 [vI raw2.Query.Kind, .d (lst Rng.ds raw2.Query.Ranges), vS raw2.Query.Key, vI raw2.Query.Count, .d (lst TVisit.ds raw2.First), .d (lst TVisit.ds raw2.Second)])), (106, some (.box 81 [vI y8.1.Query.Kind, .d (lst Rng.ds y8.1.Query.Ranges), vS y8.1.Query.Key, vI y8.1.Query.Count, .d (lst TVisit.ds r17), .d (lst TVisit.ds r18)]))]⟩) ?_ ?_
 ·refine wc_block ?_
  refine wc_loopw (fun κ st => ∃ (x10 : List Int) (x11 : Int) (r12 : List TVisit) (r13 : List TVisit) (i14 : Int), Mlaw29_ReceiptHonest_l1 κ x10 x11 r12 r13 i14 = some mu1 ∧ st = ⟨[(3, .p 103 0), (5, .p 204101 0), (6, .p 106 0), (8, vI i14)], [(103, some (.box 81 [vI raw2.Query.Kind, .d (lst Rng.ds raw2.Query.Ranges), vS raw2.Query.Key, vI raw2.Query.Count, .d (lst TVisit.ds raw2.First), .d (lst TVisit.ds raw2.Second)])), (106, some (.box 81 [vI y8.1.Query.Kind, .d (lst Rng.ds y8.1.Query.Ranges), vS y8.1.Query.Key, vI y8.1.Query.Count, .d (lst TVisit.ds r12), .d (lst TVisit.ds r13)])), (204101, some (.box 119 [.d (lst dsI x10), vI x11]))]⟩) [(103, 103), (106, 106), (204101, 204101)] ⟨_, _, _, _, _, hm1, rfl⟩ ?_
  rintro κ _ ⟨x10, x11, r12, r13, i14, hm1, rfl⟩
  cases κ with
  | zero => rw [Mlaw29_ReceiptHonest_l1.eq_1] at hm1; cases hm1
  | succ κ =>
   rw [Mlaw29_ReceiptHonest_l1.eq_2] at hm1
   refine sr ?_
   obtain ⟨mu2, hm2, hm1⟩ := obnd_o hm1
   refine wc_cut' (fun st => mu2 = Ctl.nxt () ∧ st = ⟨[(3, .p 103 0), (5, .p 204101 0), (6, .p 106 0), (8, vI i14)], [(103, some (.box 81 [vI raw2.Query.Kind, .d (lst Rng.ds raw2.Query.Ranges), vS raw2.Query.Key, vI raw2.Query.Count, .d (lst TVisit.ds raw2.First), .d (lst TVisit.ds raw2.Second)])), (106, some (.box 81 [vI y8.1.Query.Kind, .d (lst Rng.ds y8.1.Query.Ranges), vS y8.1.Query.Key, vI y8.1.Query.Count, .d (lst TVisit.ds r12), .d (lst TVisit.ds r13)])), (204101, some (.box 119 [.d (lst dsI x10), vI x11]))]⟩) ?_ ?_
   ·refine wc_cs hm2 ?_ ?_ <;> clear hm2 <;> intro hm2
    ·refine sx ?_
     cases hm2
     exact wk_cutw [(103, 103), (106, 106), (204101, 204101)] ⟨rfl, rfl⟩
    refine wc_exit ?_
    refine ss ?_
    cases hm2
    replace hm1 := ocbnd_r hm1
    cases hm1
    exact wk_cutw [(103, 103), (106, 106)] ⟨_, _, rfl, rfl⟩
   rintro _ ⟨rfl, rfl⟩
   replace hm1 := ocbnd_n hm1
   refine sr ?_
   obtain ⟨y15, hy, hm1⟩ := obnd_o hm1
   refine wl_iq (Mlaw29_spoil_sp (hm := hy)) 204101 ?_
   refine sr ?_
   obtain ⟨y16, hy, hm1⟩ := obnd_o hm1
   refine wl_iq (Mwld_Tape_Bool_sp (hm := hy)) 204101 ?_
   refine ss ?_
   refine wc_cs hm1 ?_ ?_ <;> clear hm1 <;> intro hm1
   ·refine sr ?_
    refine sr ?_
    exact wk_loopw [(103, 103), (106, 106), (204101, 204101)] ⟨_, _, _, _, _, hm1, rfl⟩ (Nat.lt_succ_self _)
   refine sx ?_
   refine sr ?_
   exact wk_loopw [(103, 103), (106, 106), (204101, 204101)] ⟨_, _, _, _, _, hm1, rfl⟩ (Nat.lt_succ_self _)
 rintro _ ⟨r17, r18, rfl, rfl⟩
 refine sr ?_
 refine wl_bt TReceipt.ds [raw2, (TReceipt.mk y8.1.Query r17 r18)] rfl rfl (by simp only [flatV, cellsV, List.cons_append, List.nil_append, List.append_nil]; exact rfl) rfl rfl rfl rfl rfl rfl ?_
 refine ss ?_
 obtain ⟨mu1, hm1, hm⟩ := obnd_o hm
 refine wc_cut' (fun st => mu1 = Ctl.nxt () ∧ st = ⟨[], []⟩) ?_ ?_
 ·refine wc_block ?_
  refine wc_len 65 rfl (fun hlenm21 => ?_)
  refine wc_loopw (fun κ st => ∃ (m21 : Nat) , κ = ([raw2, (TReceipt.mk y8.1.Query r17 r18)] : List TReceipt).length - m21 ∧ m21 ≤ ([raw2, (TReceipt.mk y8.1.Query r17 r18)] : List TReceipt).length ∧ Mlaw29_ReceiptHonest_l2 (([raw2, (TReceipt.mk y8.1.Query r17 r18)] : List TReceipt).drop m21) = some mu1 ∧ st = ⟨[(65, .d (lst TReceipt.ds ([raw2, (TReceipt.mk y8.1.Query r17 r18)] : List TReceipt))), (66, vI (([raw2, (TReceipt.mk y8.1.Query r17 r18)] : List TReceipt).length : Int)), (67, vI (m21 : Int))], []⟩) [] ⟨0, rfl, Nat.zero_le _, hm1, rfl⟩ ?_
  rintro κ _ ⟨m21, rfl, hlem21, hm1, rfl⟩
  rcases Nat.lt_or_ge m21 ([raw2, (TReceipt.mk y8.1.Query r17 r18)] : List TReceipt).length with hltm21 | hgem21
  ·obtain ⟨r19, hxm21, hdr⟩ := drop_c hltm21
   rw [hdr, Mlaw29_ReceiptHonest_l2.eq_2] at hm1
   refine sr ?_
   refine wc_seq ?_
   refine wc_cond_tt (lt_t hltm21) rfl ?_
   refine sx ?_
   refine wc_seq ?_
   obtain ⟨mu2, hm2, hm1⟩ := obnd_o hm1
   refine wc_cut' (fun st => mu2 = Ctl.nxt () ∧ st = ⟨[(65, .d (lst TReceipt.ds ([raw2, (TReceipt.mk y8.1.Query r17 r18)] : List TReceipt))), (66, vI (([raw2, (TReceipt.mk y8.1.Query r17 r18)] : List TReceipt).length : Int)), (67, vI (m21 : Int))], []⟩) ?_ ?_
   ·refine sr ?_
    refine wl_r (o_ixm (ys := [dI r19.Query.Kind, lst Rng.ds r19.Query.Ranges, dS r19.Query.Key, dI r19.Query.Count, lst TVisit.ds r19.First, lst TVisit.ds r19.Second]) hxm21 rfl rfl rfl rfl) rfl rfl rfl ?_
    refine sr ?_
    obtain ⟨y22, hy, hm2⟩ := obnd_o hm2
    refine wl_cq (Mreceipt_Check_sp (hm := hy)) ?_
    refine sr ?_
    obtain ⟨mu3, hm3, hm2⟩ := obnd_o hm2
    refine wc_cut' (fun st => mu3 = Ctl.nxt () ∧ st = ⟨[(10, .p 110 0), (11, .p 111 0), (65, .d (lst TReceipt.ds ([raw2, (TReceipt.mk y8.1.Query r17 r18)] : List TReceipt))), (66, vI (([raw2, (TReceipt.mk y8.1.Query r17 r18)] : List TReceipt).length : Int)), (67, vI (m21 : Int))], [(110, some (.box 81 [vI r19.Query.Kind, .d (lst Rng.ds r19.Query.Ranges), vS r19.Query.Key, vI r19.Query.Count, .d (lst TVisit.ds r19.First), .d (lst TVisit.ds r19.Second)])), (111, some (.box 75 [.d (lst Kv.ds y22.1.Rows), vI y22.1.Fold.Count, vI y22.1.Fold.Numbers, vI y22.1.Fold.Sum, vI y22.1.Fold.Low, vI y22.1.Fold.High, vS y22.1.Fold.First, vS y22.1.Fold.Last]))]⟩) ?_ ?_
    ·refine wc_cs hm3 ?_ ?_ <;> clear hm3 <;> intro hm3
     ·refine wc_exit ?_
      refine ss ?_
      cases hm3
      replace hm2 := ocbnd_r hm2
      cases hm2
      exact wk_cutw [] ⟨rfl, rfl⟩
     refine sx ?_
     cases hm3
     exact wk_cutw [(110, 110), (111, 111)] ⟨rfl, rfl⟩
    rintro _ ⟨rfl, rfl⟩
    replace hm2 := ocbnd_n hm2
    refine sr ?_
    refine sr ?_
    refine sr ?_
    obtain ⟨mu3, hm3, hm2⟩ := obnd_o hm2
    refine wc_cut' (fun st => ∃ (parts38 : List Rng) (n39 : Int), mu3 = Ctl.nxt (parts38, n39) ∧ st = ⟨[(10, .p 110 0), (11, .p 111 0), (13, .d (lst Rng.ds parts38)), (14, vI n39), (65, .d (lst TReceipt.ds ([raw2, (TReceipt.mk y8.1.Query r17 r18)] : List TReceipt))), (66, vI (([raw2, (TReceipt.mk y8.1.Query r17 r18)] : List TReceipt).length : Int)), (67, vI (m21 : Int))], [(110, some (.box 81 [vI r19.Query.Kind, .d (lst Rng.ds r19.Query.Ranges), vS r19.Query.Key, vI r19.Query.Count, .d (lst TVisit.ds r19.First), .d (lst TVisit.ds r19.Second)])), (111, some (.box 75 [.d (lst Kv.ds y22.1.Rows), vI y22.1.Fold.Count, vI y22.1.Fold.Numbers, vI y22.1.Fold.Sum, vI y22.1.Fold.Low, vI y22.1.Fold.High, vS y22.1.Fold.First, vS y22.1.Fold.Last]))]⟩) ?_ ?_
    ·refine wc_block ?_
     refine wc_wk (wk_nil 13 5001 42 4 rfl rfl) ?_
     refine wc_len 79 rfl (fun hlenm27 => ?_)
     refine wc_loopw (fun κ st => ∃ (m27 : Nat) (parts23 : List Rng) (n24 : Int), κ = r19.First.length - m27 ∧ m27 ≤ r19.First.length ∧ Mlaw29_ReceiptHonest_l3 (r19.First.drop m27) parts23 n24 = some mu3 ∧ st = ⟨[(10, .p 110 0), (11, .p 111 0), (13, .h 5001), (14, vI n24), (65, .d (lst TReceipt.ds ([raw2, (TReceipt.mk y8.1.Query r17 r18)] : List TReceipt))), (66, vI (([raw2, (TReceipt.mk y8.1.Query r17 r18)] : List TReceipt).length : Int)), (67, vI (m21 : Int)), (79, .d (lst TVisit.ds r19.First)), (80, vI (r19.First.length : Int)), (81, vI (m27 : Int))], [(110, some (.box 81 [vI r19.Query.Kind, .d (lst Rng.ds r19.Query.Ranges), vS r19.Query.Key, vI r19.Query.Count, .d (lst TVisit.ds r19.First), .d (lst TVisit.ds r19.Second)])), (111, some (.box 75 [.d (lst Kv.ds y22.1.Rows), vI y22.1.Fold.Count, vI y22.1.Fold.Numbers, vI y22.1.Fold.Sum, vI y22.1.Fold.Low, vI y22.1.Fold.High, vS y22.1.Fold.First, vS y22.1.Fold.Last])), (5001, some (arrT 42 4 Rng.ds parts23))]⟩) [(110, 110), (111, 111), (5001, 5001)] ⟨0, _, _, rfl, Nat.zero_le _, hm3, rfl⟩ ?_
     rintro κ _ ⟨m27, parts23, n24, rfl, hlem27, hm3, rfl⟩
     rcases Nat.lt_or_ge m27 r19.First.length with hltm27 | hgem27
     ·obtain ⟨r25, hxm27, hdr⟩ := drop_c hltm27
      rw [hdr, Mlaw29_ReceiptHonest_l3.eq_2] at hm3
      refine sr ?_
      refine wc_seq ?_
      refine wc_cond_tt (lt_t hltm27) rfl ?_
      refine sx ?_
      refine wc_seq ?_
      obtain ⟨mu4, hm4, hm3⟩ := obnd_o hm3
      refine wc_cut' (fun st => ∃ (parts36 : List Rng) (n37 : Int), mu4 = Ctl.nxt (parts36, n37) ∧ st = ⟨[(10, .p 110 0), (11, .p 111 0), (13, .h 5002), (14, vI n37), (65, .d (lst TReceipt.ds ([raw2, (TReceipt.mk y8.1.Query r17 r18)] : List TReceipt))), (66, vI (([raw2, (TReceipt.mk y8.1.Query r17 r18)] : List TReceipt).length : Int)), (67, vI (m21 : Int)), (79, .d (lst TVisit.ds r19.First)), (80, vI (r19.First.length : Int)), (81, vI (m27 : Int))], [(110, some (.box 81 [vI r19.Query.Kind, .d (lst Rng.ds r19.Query.Ranges), vS r19.Query.Key, vI r19.Query.Count, .d (lst TVisit.ds r19.First), .d (lst TVisit.ds r19.Second)])), (111, some (.box 75 [.d (lst Kv.ds y22.1.Rows), vI y22.1.Fold.Count, vI y22.1.Fold.Numbers, vI y22.1.Fold.Sum, vI y22.1.Fold.Low, vI y22.1.Fold.High, vS y22.1.Fold.First, vS y22.1.Fold.Last])), (5002, some (arrT 42 4 Rng.ds parts36))]⟩) ?_ ?_
      ·refine sr ?_
       refine wl_r (o_ixm (ys := [dI r25.View.Owner, dS r25.View.Interval.lo.key, dB r25.View.Interval.lo.top, dS r25.View.Interval.hi.key, dB r25.View.Interval.hi.top, dI r25.View.Stamp.Epoch, dI r25.View.Stamp.Version, lst Kv.ds r25.View.Rows, dS r25.Part.lo.key, dB r25.Part.lo.top, dS r25.Part.hi.key, dB r25.Part.hi.top]) hxm27 rfl rfl rfl rfl) rfl rfl rfl ?_
       refine sr ?_
       refine wl_bt Rng.ds [r25.Part] rfl rfl (by simp only [flatV, cellsV, List.cons_append, List.nil_append, List.append_nil]; exact rfl) rfl rfl rfl rfl rfl rfl ?_
       refine ss ?_
       obtain ⟨l28, hy, hm4⟩ := obnd_o hm4
       refine wl_2 (n_app (k' := 189) hy rfl rfl rfl rfl rfl rfl rfl rfl) rfl rfl rfl rfl ?_
       refine sr ?_
       obtain ⟨mu5, hm5, hm4⟩ := obnd_o hm4
       refine wc_cut' (fun st => ∃ (n35 : Int), mu5 = Ctl.nxt n35 ∧ st = ⟨[(10, .p 110 0), (11, .p 111 0), (13, .h 189), (14, vI n35), (65, .d (lst TReceipt.ds ([raw2, (TReceipt.mk y8.1.Query r17 r18)] : List TReceipt))), (66, vI (([raw2, (TReceipt.mk y8.1.Query r17 r18)] : List TReceipt).length : Int)), (67, vI (m21 : Int)), (79, .d (lst TVisit.ds r19.First)), (80, vI (r19.First.length : Int)), (81, vI (m27 : Int))], [(110, some (.box 81 [vI r19.Query.Kind, .d (lst Rng.ds r19.Query.Ranges), vS r19.Query.Key, vI r19.Query.Count, .d (lst TVisit.ds r19.First), .d (lst TVisit.ds r19.Second)])), (111, some (.box 75 [.d (lst Kv.ds y22.1.Rows), vI y22.1.Fold.Count, vI y22.1.Fold.Numbers, vI y22.1.Fold.Sum, vI y22.1.Fold.Low, vI y22.1.Fold.High, vS y22.1.Fold.First, vS y22.1.Fold.Last])), (189, some (arrT 42 4 Rng.ds l28))]⟩) ?_ ?_
       ·refine wc_block ?_
        refine wc_len 92 rfl (fun hlenm32 => ?_)
        refine wc_loopw (fun κ st => ∃ (m32 : Nat) (n29 : Int), κ = r25.View.Rows.length - m32 ∧ m32 ≤ r25.View.Rows.length ∧ Mlaw29_ReceiptHonest_l4 r25 (r25.View.Rows.drop m32) n29 = some mu5 ∧ st = ⟨[(10, .p 110 0), (11, .p 111 0), (13, .h 189), (14, vI n29), (16, .p 116 0), (65, .d (lst TReceipt.ds ([raw2, (TReceipt.mk y8.1.Query r17 r18)] : List TReceipt))), (66, vI (([raw2, (TReceipt.mk y8.1.Query r17 r18)] : List TReceipt).length : Int)), (67, vI (m21 : Int)), (79, .d (lst TVisit.ds r19.First)), (80, vI (r19.First.length : Int)), (81, vI (m27 : Int)), (92, .d (lst Kv.ds r25.View.Rows)), (93, vI (r25.View.Rows.length : Int)), (94, vI (m32 : Int))], [(110, some (.box 81 [vI r19.Query.Kind, .d (lst Rng.ds r19.Query.Ranges), vS r19.Query.Key, vI r19.Query.Count, .d (lst TVisit.ds r19.First), .d (lst TVisit.ds r19.Second)])), (111, some (.box 75 [.d (lst Kv.ds y22.1.Rows), vI y22.1.Fold.Count, vI y22.1.Fold.Numbers, vI y22.1.Fold.Sum, vI y22.1.Fold.Low, vI y22.1.Fold.High, vS y22.1.Fold.First, vS y22.1.Fold.Last])), (116, some (.box 62 [vI r25.View.Owner, vS r25.View.Interval.lo.key, vB r25.View.Interval.lo.top, vS r25.View.Interval.hi.key, vB r25.View.Interval.hi.top, vI r25.View.Stamp.Epoch, vI r25.View.Stamp.Version, .d (lst Kv.ds r25.View.Rows), vS r25.Part.lo.key, vB r25.Part.lo.top, vS r25.Part.hi.key, vB r25.Part.hi.top])), (189, some (arrT 42 4 Rng.ds l28))]⟩) [(110, 110), (111, 111), (116, 116), (189, 189)] ⟨0, _, rfl, Nat.zero_le _, hm5, rfl⟩ ?_
        rintro κ _ ⟨m32, n29, rfl, hlem32, hm5, rfl⟩
        rcases Nat.lt_or_ge m32 r25.View.Rows.length with hltm32 | hgem32
        ·obtain ⟨r30, hxm32, hdr⟩ := drop_c hltm32
         rw [hdr, Mlaw29_ReceiptHonest_l4.eq_2] at hm5
         refine sr ?_
         refine wc_seq ?_
         refine wc_cond_tt (lt_t hltm32) rfl ?_
         refine sx ?_
         refine sr ?_
         refine wl_r (o_ixm (ys := [dS r30.key, dS r30.val]) hxm32 rfl rfl rfl rfl) rfl rfl rfl ?_
         refine sr ?_
         obtain ⟨y33, hy, hm5⟩ := bnd_o hm5
         refine wl_cq (Mref1_Contains_sp (hm := hy)) ?_
         refine ss ?_
         refine wl_sg hm5 ?_ ?_ <;> clear hm5 <;> intro hm5
         ·refine ss ?_
          refine wc_cond_t rfl ?_
          refine sr ?_
          refine sx ?_
          cases hm5
          replace hm4 := ocbnd_r hm4
          cases hm4
          replace hm3 := ocbnd_r hm3
          cases hm3
          replace hm2 := ocbnd_r hm2
          cases hm2
          replace hm1 := ocbnd_r hm1
          cases hm1
          replace hm := ocbnd_r hm
          cases hm
          exact wk_r
         refine ss ?_
         obtain ⟨y34, hy, hm5⟩ := bnd_o hm5
         refine wl_cq (Mref1_Contains_sp (hm := hy)) ?_
         refine ss ?_
         refine wc_cs hm5 ?_ ?_ <;> clear hm5 <;> intro hm5
         ·refine sr ?_
          refine sx ?_
          cases hm5
          replace hm4 := ocbnd_r hm4
          cases hm4
          replace hm3 := ocbnd_r hm3
          cases hm3
          replace hm2 := ocbnd_r hm2
          cases hm2
          replace hm1 := ocbnd_r hm1
          cases hm1
          replace hm := ocbnd_r hm
          cases hm
          exact wk_r
         refine sx ?_
         refine sr ?_
         refine wl_r (o_add rfl rfl rfl rfl) rfl rfl rfl ?_
         refine sr ?_
         refine wl_r (o_inc hltm32 hlenm32 rfl rfl rfl) rfl rfl rfl ?_
         refine ss ?_
         exact wk_loopw [(110, 110), (111, 111), (116, 116), (189, 189)] ⟨m32 + 1, _, rfl, hltm32, hm5, rfl⟩ (by omega)
        ·rw [drop_n hgem32, Mlaw29_ReceiptHonest_l4.eq_1] at hm5
         refine sr ?_
         refine wc_seq ?_
         refine wc_cond_ff (lt_f hgem32) rfl ?_
         refine wc_exit ?_
         refine ss ?_
         cases hm5
         exact wk_cutw [(110, 110), (111, 111), (189, 189)] ⟨_, rfl, rfl⟩
       rintro _ ⟨n35, rfl, rfl⟩
       replace hm4 := ocbnd_n hm4
       refine ss ?_
       cases hm4
       exact wk_cutw [(110, 110), (111, 111), (5002, 189)] ⟨_, _, rfl, rfl⟩
      rintro _ ⟨parts36, n37, rfl, rfl⟩
      replace hm3 := ocbnd_n hm3
      refine sr ?_
      refine wl_r (o_inc hltm27 hlenm27 rfl rfl rfl) rfl rfl rfl ?_
      refine ss ?_
      exact wk_loopw [(110, 110), (111, 111), (5001, 5002)] ⟨m27 + 1, _, _, rfl, hltm27, hm3, rfl⟩ (by omega)
     ·rw [drop_n hgem27, Mlaw29_ReceiptHonest_l3.eq_1] at hm3
      refine sr ?_
      refine wc_seq ?_
      refine wc_cond_ff (lt_f hgem27) rfl ?_
      refine wc_exit ?_
      refine ss ?_
      cases hm3
      exact wk_cutw [(110, 110), (111, 111)] ⟨_, _, rfl, rfl⟩
    rintro _ ⟨parts38, n39, rfl, rfl⟩
    replace hm2 := ocbnd_n hm2
    refine ss ?_
    refine wc_seq ?_
    refine wc_draw (id := 30) [⟨0, 0, [13]⟩, ⟨2, 0, [10]⟩, ⟨3, 4, [119]⟩, ⟨1, 1, [117]⟩, ⟨4, 15, [120]⟩, ⟨5, 31, [118, 121]⟩, ⟨6, 63, [122]⟩] mixed (by kernel_rfl) ?_
    refine ss ?_
    obtain ⟨y40, hy, hm2⟩ := obnd_o hm2
    refine wd_cs (Mref1_Union_sp (hm := hy)) rfl rfl rfl (by repeat (first | exact Vws.nil | apply Vws.cons | exact Vw.nil | exact Vw.d _ | exact Vw.q _ | apply Vw.a)) rfl rfl (by first | exact .no rfl | exact .y rfl rfl rfl rfl) rfl rfl rfl ?_
    refine ss ?_
    obtain ⟨y41, hy, hm2⟩ := obnd_o hm2
    refine wd_cs (Mref22_Ranges_sp (hm := hy)) rfl rfl rfl (by repeat (first | exact Vws.nil | apply Vws.cons | exact Vw.nil | exact Vw.d _ | exact Vw.q _ | apply Vw.a)) rfl rfl (by first | exact .no rfl | exact .y rfl rfl rfl rfl) rfl rfl rfl ?_
    refine ss ?_
    obtain ⟨y42, hy, hm2⟩ := obnd_o hm2
    refine wd_cs (Mref1_Same_sp (hm := hy)) rfl rfl rfl (by repeat (first | exact Vws.nil | apply Vws.cons | exact Vw.nil | exact Vw.d _ | exact Vw.q _ | apply Vw.a)) rfl rfl (by first | exact .no rfl | exact .y rfl rfl rfl rfl) rfl rfl rfl ?_
    refine ss ?_
    refine wc_seq ?_
    refine wc_seq ?_
    obtain ⟨mu3, hm3, hm2⟩ := obnd_o hm2
    refine wc_cut' (fun st => ∃ (x44 : Bool), x44 = mu3 ∧ st = ⟨[(11, .p 111 0), (65, .d (lst TReceipt.ds ([raw2, (TReceipt.mk y8.1.Query r17 r18)] : List TReceipt))), (66, vI (([raw2, (TReceipt.mk y8.1.Query r17 r18)] : List TReceipt).length : Int)), (67, vI (m21 : Int)), (147, vB x44)], [(111, some (.box 75 [.d (lst Kv.ds y22.1.Rows), vI y22.1.Fold.Count, vI y22.1.Fold.Numbers, vI y22.1.Fold.Sum, vI y22.1.Fold.Low, vI y22.1.Fold.High, vS y22.1.Fold.First, vS y22.1.Fold.Last]))]⟩) ?_ ?_
    ·refine sr ?_
     refine wl_sg hm3 ?_ ?_ <;> clear hm3 <;> intro hm3
     ·refine ss ?_
      obtain ⟨y43, hy, hm3⟩ := bnd_o hm3
      refine wl_cq (Mref22_Enough_sp (hm := hy)) ?_
      refine ss ?_
      refine wl_sg hm3 ?_ ?_ <;> clear hm3 <;> intro hm3
      ·refine ss ?_
       cases hm3
       exact wk_cutw [(111, 111)] ⟨_, rfl, rfl⟩
      refine ss ?_
      refine wl_sg hm3 ?_ ?_ <;> clear hm3 <;> intro hm3
      ·refine ss ?_
       cases hm3
       exact wk_cutw [(111, 111)] ⟨_, rfl, rfl⟩
      refine ss ?_
      cases hm3
      exact wk_cutw [(111, 111)] ⟨_, rfl, rfl⟩
     refine ss ?_
     refine wl_sg hm3 ?_ ?_ <;> clear hm3 <;> intro hm3
     ·refine ss ?_
      cases hm3
      exact wk_cutw [(111, 111)] ⟨_, rfl, rfl⟩
     refine ss ?_
     cases hm3
     exact wk_cutw [(111, 111)] ⟨_, rfl, rfl⟩
    rintro _ ⟨x44, rfl, rfl⟩
    refine ss ?_
    refine wc_cs hm2 ?_ ?_ <;> clear hm2 <;> intro hm2
    ·refine sr ?_
     refine sx ?_
     cases hm2
     replace hm1 := ocbnd_r hm1
     cases hm1
     replace hm := ocbnd_r hm
     cases hm
     exact wk_r
    refine sx ?_
    refine sr ?_
    obtain ⟨mu3, hm3, hm2⟩ := obnd_o hm2
    refine wc_cut' (fun st => mu3 = Ctl.nxt () ∧ st = ⟨[(65, .d (lst TReceipt.ds ([raw2, (TReceipt.mk y8.1.Query r17 r18)] : List TReceipt))), (66, vI (([raw2, (TReceipt.mk y8.1.Query r17 r18)] : List TReceipt).length : Int)), (67, vI (m21 : Int))], []⟩) ?_ ?_
    ·refine wc_block ?_
     refine wc_len 149 rfl (fun hlenm47 => ?_)
     refine wc_loopw (fun κ st => ∃ (m47 : Nat) , κ = y22.1.Rows.length - m47 ∧ m47 ≤ y22.1.Rows.length ∧ Mlaw29_ReceiptHonest_l5 y22 (y22.1.Rows.drop m47) (m47 : Int) = some mu3 ∧ st = ⟨[(11, .p 111 0), (65, .d (lst TReceipt.ds ([raw2, (TReceipt.mk y8.1.Query r17 r18)] : List TReceipt))), (66, vI (([raw2, (TReceipt.mk y8.1.Query r17 r18)] : List TReceipt).length : Int)), (67, vI (m21 : Int)), (149, .d (lst Kv.ds y22.1.Rows)), (150, vI (y22.1.Rows.length : Int)), (151, vI (m47 : Int))], [(111, some (.box 75 [.d (lst Kv.ds y22.1.Rows), vI y22.1.Fold.Count, vI y22.1.Fold.Numbers, vI y22.1.Fold.Sum, vI y22.1.Fold.Low, vI y22.1.Fold.High, vS y22.1.Fold.First, vS y22.1.Fold.Last]))]⟩) [(111, 111)] ⟨0, rfl, Nat.zero_le _, hm3, rfl⟩ ?_
     rintro κ _ ⟨m47, rfl, hlem47, hm3, rfl⟩
     rcases Nat.lt_or_ge m47 y22.1.Rows.length with hltm47 | hgem47
     ·obtain ⟨r45, hxm47, hdr⟩ := drop_c hltm47
      rw [hdr, Mlaw29_ReceiptHonest_l5.eq_2] at hm3
      refine sr ?_
      refine wc_seq ?_
      refine wc_cond_tt (lt_t hltm47) rfl ?_
      refine sx ?_
      refine sr ?_
      refine wl_r (o_ixm (ys := [dS r45.key, dS r45.val]) hxm47 rfl rfl rfl rfl) rfl rfl rfl ?_
      refine ss ?_
      refine wc_seq ?_
      refine wc_draw (id := 36) [⟨0, 0, [20]⟩, ⟨1, 1, [156]⟩, ⟨2, 3, [157]⟩, ⟨3, 7, [11, 158]⟩, ⟨4, 15, [158, 159]⟩, ⟨5, 7, [20, 158]⟩, ⟨6, 39, [158, 161]⟩, ⟨7, 127, [158, 160, 162]⟩, ⟨8, 255, [158, 163]⟩, ⟨9, 511, [158, 164]⟩, ⟨10, 7, [21, 158]⟩, ⟨11, 1031, [158, 166]⟩, ⟨12, 4095, [158, 165, 167]⟩, ⟨13, 8191, [158, 168]⟩] mixed (by kernel_rfl) ?_
      refine ss ?_
      refine wd_gp rfl rfl rfl rfl (fun h => ?_) (fun h => ?_)
      ·replace hm3 := sel_t h hm3
       refine ss ?_
       obtain ⟨e48, hy, hm3⟩ := obnd_o hm3
       refine wd_r [] (o_ixg (ys := [dS e48.key, dS e48.val]) hy rfl rfl rfl rfl) rfl (by first | exact .no rfl | exact .y rfl rfl rfl rfl) rfl rfl ?_
       refine ss ?_
       refine wc_cs hm3 ?_ ?_ <;> clear hm3 <;> intro hm3
       ·refine sr ?_
        refine sx ?_
        cases hm3
        replace hm2 := ocbnd_r hm2
        cases hm2
        replace hm1 := ocbnd_r hm1
        cases hm1
        replace hm := ocbnd_r hm
        cases hm
        exact wk_r
       refine sx ?_
       refine sr ?_
       refine wl_r (o_inc hltm47 hlenm47 rfl rfl rfl) rfl rfl rfl ?_
       refine ss ?_
       exact wk_loopw [(111, 111)] ⟨m47 + 1, rfl, hltm47, hm3, rfl⟩ (by omega)
      replace hm3 := sel_f h hm3
      refine ss ?_
      refine wc_cond_f rfl ?_
      refine sx ?_
      refine sr ?_
      refine wl_r (o_inc hltm47 hlenm47 rfl rfl rfl) rfl rfl rfl ?_
      refine ss ?_
      exact wk_loopw [(111, 111)] ⟨m47 + 1, rfl, hltm47, hm3, rfl⟩ (by omega)
     ·rw [drop_n hgem47, Mlaw29_ReceiptHonest_l5.eq_1] at hm3
      refine sr ?_
      refine wc_seq ?_
      refine wc_cond_ff (lt_f hgem47) rfl ?_
      refine wc_exit ?_
      refine ss ?_
      cases hm3
      exact wk_cutw [] ⟨rfl, rfl⟩
    rintro _ ⟨rfl, rfl⟩
    replace hm2 := ocbnd_n hm2
    refine ss ?_
    cases hm2
    exact wk_cutw [] ⟨rfl, rfl⟩
   rintro _ ⟨rfl, rfl⟩
   replace hm1 := ocbnd_n hm1
   refine sr ?_
   refine wl_r (o_inc hltm21 hlenm21 rfl rfl rfl) rfl rfl rfl ?_
   refine ss ?_
   exact wk_loopw [] ⟨m21 + 1, rfl, hltm21, hm1, rfl⟩ (by omega)
  ·rw [drop_n hgem21, Mlaw29_ReceiptHonest_l2.eq_1] at hm1
   refine sr ?_
   refine wc_seq ?_
   refine wc_cond_ff (lt_f hgem21) rfl ?_
   refine wc_exit ?_
   refine ss ?_
   cases hm1
   exact wk_cutw [] ⟨rfl, rfl⟩
 rintro _ ⟨rfl, rfl⟩
 replace hm := ocbnd_n hm
 refine sr ?_
 obtain ⟨y49, hy, hm⟩ := obnd_o hm
 refine wl_cq (Mlaw29_awake_sp (hm := hy)) ?_
 refine sx ?_
 cases hm
 exact wk_r

end Go.Proofs.YtlbnhhfaedhgfaaGreatDoor
namespace Go.Proofs.YtlbnhhfaedhgfaaGreatDoor
open Go.RowKit
theorem tl2_srt {R : List Rng} (hR : Nrm R) : ∀ (l : List TVisit) (a : Nat) (p : Bnd) (a' : Int), (∀ v ∈ l, emp v.Part = false) → vb p = true → tl2 R l a p = .nxt a' → (∀ u ∈ l, u.Part.lo.lt p = false) ∧ (l.map (·.Part)).Pairwise fun x y => y.lo.lt x.hi = false
  | [], _, _, _, _, _, _ => ⟨by simp, by simp⟩
  | v :: l, a, p, a', hne, hp, h => by
    have hv := (emp_iff v.Part).1 (hne v List.mem_cons_self)
    have hl : ∀ u ∈ l, emp u.Part = false := fun u hu => hne u (List.mem_cons_of_mem _ hu)
    rw [tl2] at h
    cases hr : R[a]? with
    | none => rw [hr] at h; simp at h
    | some e =>
      rw [hr] at h
      simp only at h
      split at h
      · simp at h
      rename_i h1
      split at h
      · simp at h
      rename_i h2
      split at h
      · simp at h
      rename_i h3
      have c1 := cmp_rng v.Part.lo p
      have h0 : cmp v.Part.lo p = 0 := by omega
      have hlo : v.Part.lo = p := lt_total hv.1 hp ((cmp_eq0 _ _).1 h0).1 ((cmp_eq0 _ _).1 h0).2
      -- all that follow lie behind the end of this one
      have fin : ∀ (a2 : Nat) (p2 : Bnd), vb p2 = true → p2.lt v.Part.hi = false → tl2 R l a2 p2 = .nxt a' → (∀ u ∈ v :: l, u.Part.lo.lt p = false) ∧ ((v :: l).map (·.Part)).Pairwise fun x y => y.lo.lt x.hi = false := fun a2 p2 k1 k2 k3 => by
        obtain ⟨i1, i2⟩ := tl2_srt hR l a2 p2 a' hl k1 k3
        have far : ∀ u ∈ l, u.Part.lo.lt v.Part.hi = false := fun u hu => by
          have vu := (emp_iff u.Part).1 (hl u hu)
          have h4 := i1 u hu
          cases hh : u.Part.lo.lt v.Part.hi with
          | false => rfl
          | true => rw [lt_le hv.2.1 k1 hh k2] at h4; cases h4
        refine ⟨fun u hu => ?_, ?_⟩
        · rcases List.mem_cons.1 hu with rfl | hu
          · rw [hlo]; exact lt_irrefl _
          · have h4 := far u hu
            cases hh : u.Part.lo.lt p with
            | false => rfl
            | true =>
              rw [← hlo] at hh
              rw [lt_trans hh hv.2.2] at h4; cases h4
        · rw [List.map_cons, List.pairwise_cons]
          refine ⟨fun x hx => ?_, i2⟩
          obtain ⟨u, hu, rfl⟩ := List.mem_map.1 hx
          exact far u hu
      split at h
      · rename_i h5
        have he := (emp_iff e).1 (hR.ne e (List.mem_of_getElem? hr))
        have hhi : v.Part.hi = e.hi := lt_total hv.2.1 he.2.1 ((cmp_eq0 _ _).1 h5).1 ((cmp_eq0 _ _).1 h5).2
        cases hr2 : R[a + 1]? with
        | none =>
          rw [hr2] at h
          exact fin _ _ hv.2.1 (lt_irrefl _) h
        | some x =>
          rw [hr2] at h
          have hx := (emp_iff x).1 (hR.ne x (List.mem_of_getElem? hr2))
          obtain ⟨i1, e1⟩ := List.getElem?_eq_some_iff.1 hr
          obtain ⟨i2, e2⟩ := List.getElem?_eq_some_iff.1 hr2
          have g := List.pairwise_iff_getElem.1 hR.gap a (a + 1) i1 i2 (by omega)
          rw [e1, e2] at g
          exact fin _ _ hx.1 (by rw [hhi]; exact lt_asymm g) h
      · exact fin _ _ hv.2.1 (lt_irrefl _) h
theorem tl2_cov {R : List Rng} (hR : Nrm R) : ∀ (l : List TVisit) (a : Nat) (r : Rng) (R' : List Rng) (p : Bnd) (a' : Int), R.drop a = r :: R' → (∀ v ∈ l, emp v.Part = false) → vb p = true → p.lt r.hi = true → tl2 R l a p = .nxt a' → (R.length : Int) ≤ a' → ∀ b, vb b = true → (Pt (l.map (·.Part)) b ↔ Pt (⟨p, r.hi⟩ :: R') b)
  | [], a, r, R', p, a', hd, _, _, _, h, ha => by
    exfalso
    have e : a' = (a : Int) := by
      rw [tl2] at h
      injection h with h
      exact h.symm
    have := congrArg List.length hd
    simp only [List.length_drop, List.length_cons] at this
    omega
  | v :: l, a, r, R', p, a', hd, hne, hp, hpr, h, ha => by
    have hN := hR.drop a
    rw [hd] at hN
    obtain ⟨n1, n2⟩ := hN
    have hr := (emp_iff r).1 (n1 r List.mem_cons_self)
    have hget : R[a]? = some r := by rw [← List.head?_drop, hd]; rfl
    have hdrop : R.drop (a + 1) = R' := by rw [← List.tail_drop, hd]; rfl
    have hv := (emp_iff v.Part).1 (hne v List.mem_cons_self)
    have hl : ∀ u ∈ l, emp u.Part = false := fun u hu => hne u (List.mem_cons_of_mem _ hu)
    rw [tl2, hget] at h
    simp only at h
    split at h
    · simp at h
    rename_i h1
    split at h
    · simp at h
    rename_i h2
    split at h
    · simp at h
    rename_i h3
    have c1 := cmp_rng v.Part.lo p
    have h0 : cmp v.Part.lo p = 0 := by omega
    have hlo : v.Part.lo = p := lt_total hv.1 hp ((cmp_eq0 _ _).1 h0).1 ((cmp_eq0 _ _).1 h0).2
    intro b hb
    rw [List.map_cons, pt_cons, pt_cons, hlo]
    split at h
    · rename_i h5
      have hhi : v.Part.hi = r.hi := lt_total hv.2.1 hr.2.1 ((cmp_eq0 _ _).1 h5).1 ((cmp_eq0 _ _).1 h5).2
      rw [hhi]
      have key : Pt (l.map (·.Part)) b ↔ Pt R' b := by
        cases hR' : R' with
        | nil =>
          subst hR'
          have hlen : R.length = a + 1 := by
            have e1 := congrArg List.length hd
            simp only [List.length_drop, List.length_cons, List.length_nil] at e1
            omega
          cases l with
          | nil => exact Iff.rfl
          | cons x l =>
            exfalso
            rw [tl2, List.getElem?_eq_none (by omega)] at h
            simp at h
        | cons r2 R2 =>
          subst hR'
          have hget2 : R[a + 1]? = some r2 := by rw [← List.head?_drop, hdrop]; rfl
          have hr2 := (emp_iff r2).1 (n1 r2 (by simp))
          rw [hget2] at h
          exact tl2_cov hR l (a + 1) r2 R2 r2.lo a' hdrop hl hr2.1 hr2.2.2 h ha b hb
      rw [key]
    · rename_i h5
      have hlt : v.Part.hi.lt r.hi = true := by
        have := cmp_rng v.Part.hi r.hi
        exact (cmp_neg _ _).1 (by omega)
      have ih := tl2_cov hR l a r R' v.Part.hi a' hd hl hv.2.1 hlt h ha b hb
      rw [ih, pt_cons]
      have hpv : p.lt v.Part.hi = true := by rw [← hlo]; exact hv.2.2
      constructor
      · rintro (⟨k1, k2⟩ | ⟨k1, k2⟩ | k)
        · exact .inl ⟨k1, lt_trans k2 hlt⟩
        · refine .inl ⟨?_, k2⟩
          cases hh : b.lt p with
          | false => rfl
          | true => rw [lt_trans hh hpv] at k1; cases k1
        · exact .inr k
      · rintro (⟨k1, k2⟩ | k)
        · cases hh : b.lt v.Part.hi with
          | true => exact .inl ⟨k1, rfl⟩
          | false => exact .inr (.inl ⟨rfl, k2⟩)
        · exact .inr (.inr k)
theorem tiled_facts {q : TQuery} {l : List TVisit} (h : tilingW q l = 0) : ((l.map (·.Part)).Pairwise fun x y => y.lo.lt x.hi = false) ∧ (union (l.map (·.Part)) = qrg q ∨ enough q ((rowsW l).length : Int) = true) := by
  obtain ⟨h0, hv⟩ := tiling_0 h
  have hR := qrg_nrm q
  have hne : ∀ v ∈ l, emp v.Part = false := fun v hv' => by
    have := (hv v hv').1
    unfold vOk at this
    simp only [Bool.and_eq_true, Bool.not_eq_true'] at this
    exact this.1.2
  have hneL : ∀ r ∈ l.map (·.Part), emp r = false := fun r hr => by
    obtain ⟨v, hv', rfl⟩ := List.mem_map.1 hr
    exact hne v hv'
  have ht : tl1 l = .nxt () := by
    cases e : tl1 l with
    | nxt u => rfl
    | ret z =>
      unfold tilingW at h
      rw [if_neg (by simp [h0]), e] at h
      exact absurd h (tl1_ret e)
  unfold tilingW at h
  rw [if_neg (by simp [h0]), ht] at h
  simp only at h
  -- where it begins
  have hposv : vb (posT q l) = true := by
    unfold posT
    have first : vb (match qrg q with | r :: _ => r.lo | [] => zb) = true := by
      cases hQ : qrg q with
      | nil => exact vb_zb
      | cons r R' => exact ((emp_iff r).1 (hR.ne r (by rw [hQ]; simp))).1
    cases l with
    | nil => exact first
    | cons v l =>
      simp only
      split
      · exact ((emp_iff v.Part).1 (hne v List.mem_cons_self)).1
      · exact first
  cases e : tl2 (qrg q) l 0 (posT q l) with
  | ret z =>
    exfalso
    rw [e] at h
    have nz : ∀ (l : List TVisit) (a : Nat) (p : Bnd) (z : Int), tl2 (qrg q) l a p = .ret z → z ≠ 0 := by
      intro l
      induction l with
      | nil => intro a p z h; simp [tl2] at h
      | cons v l ih =>
        intro a p z h
        rw [tl2] at h
        split at h
        · injection h with h; omega
        · split at h
          · injection h with h; omega
          split at h
          · injection h with h; omega
          split at h
          · injection h with h; omega
          split at h
          · exact ih _ _ _ h
          · exact ih _ _ _ h
    exact nz _ _ _ _ e h
  | nxt a' =>
    rw [e] at h
    simp only at h
    refine ⟨(tl2_srt hR l 0 _ a' hne hposv e).2, ?_⟩
    cases hen : enough q ((rowsW l).length : Int) with
    | true => exact .inr rfl
    | false =>
      left
      rw [hen] at h
      have ha : ((qrg q).length : Int) ≤ a' := by
        apply Classical.byContradiction
        intro hh
        rw [if_pos (by omega), if_neg (by simp)] at h
        omega
      have hpos : posT q l = match qrg q with | r :: _ => r.lo | [] => zb := by
        unfold posT
        cases l with
        | nil => rfl
        | cons v l =>
          simp only
          rw [hen, Bool.and_false, if_neg (by simp)]
          cases qrg q <;> rfl
      refine union_eq hR fun b hb => ?_
      rw [filter_ne hneL]
      cases hQ : qrg q with
      | nil =>
        cases l with
        | nil => exact Iff.rfl
        | cons v l =>
          exfalso
          rw [hQ, tl2] at e
          simp at e
      | cons r R' =>
        have hr := (emp_iff r).1 (hR.ne r (by rw [hQ]; simp))
        rw [hQ] at hpos
        simp only at hpos
        rw [hpos] at e
        exact tl2_cov hR l 0 r R' r.lo a' (by rw [List.drop_zero]; exact hQ) hne hr.1 hr.2.2 e ha b hb
theorem rowsW_srt : ∀ {l : List TVisit}, (∀ v ∈ l, vOk v = true ∧ rOk v = true) → ((l.map (·.Part)).Pairwise fun x y => y.lo.lt x.hi = false) → (rowsW l).Pairwise fun a b => bl a.key b.key = true
  | [], _, _ => by simp [rowsW]
  | v :: l, h, hs => by
    rw [List.map_cons, List.pairwise_cons] at hs
    have ih := rowsW_srt (l := l) (fun x hx => h x (List.mem_cons_of_mem _ hx)) hs.2
    unfold rowsW at ih ⊢
    rw [List.flatMap_cons, List.pairwise_append]
    refine ⟨((tvalid_iff _).1 (vOk_rows (h v List.mem_cons_self).1)).2.2, ih, fun x hx y hy => ?_⟩
    obtain ⟨u, hu, hyu⟩ := List.mem_flatMap.1 hy
    have rv := (h v List.mem_cons_self).2
    have ru := (h u (List.mem_cons_of_mem _ hu)).2
    unfold rOk at rv ru
    obtain ⟨a1, a2, a3, a4⟩ := contains_lo' (List.all_eq_true.1 rv x hx)
    obtain ⟨b1, b2, b3, b4⟩ := contains_lo' (List.all_eq_true.1 ru y hyu)
    have hsu := hs.1 u.Part (List.mem_map.2 ⟨u, hu, rfl⟩)
    have v1 := (emp_iff v.Part).1 a1
    have v2 := (emp_iff u.Part).1 b1
    have vy : vb ⟨y.key, false⟩ = true := by simp [vb, b2]
    have k1 : Bnd.lt ⟨x.key, false⟩ u.Part.lo = true := lt_le v1.2.1 v2.1 a4 hsu
    have k2 : Bnd.lt ⟨x.key, false⟩ ⟨y.key, false⟩ = true := lt_le v2.1 vy k1 b3
    rwa [bl_lt] at k2
theorem qtk_srt {k c : Int} {l : List Kv} (h : l.Pairwise fun a b => bl a.key b.key = true) : (qtk k c l).Pairwise fun a b => bl a.key b.key = true := by
  unfold qtk
  split
  · exact h.sublist (List.take_sublist _ _)
  split
  · exact h.sublist (List.drop_sublist _ _)
  · exact h
theorem same_l1 (a b : List Rng) (ha : a.length = b.length) (hl : a.length ≤ 1000000) : ∀ (k fuel m : Nat), m + k = a.length → k < fuel → ∃ c, Mref1_Same_l1 a b fuel (m : Int) = some c
  | _, 0, _, _, h => absurd h (by omega)
  | 0, fuel + 1, m, h1, _ => by
    rw [Mref1_Same_l1.eq_2, decide_eq_false (by omega), sel_false, obnd_some, ocbnd_ret]
    exact ⟨_, rfl⟩
  | k + 1, fuel + 1, m, h1, h2 => by
    rw [Mref1_Same_l1.eq_2, decide_eq_true (by omega), sel_true, obnd_some, ocbnd_nxt, lget_nat, List.getElem?_eq_getElem (by omega), obnd_some, lget_nat, List.getElem?_eq_getElem (by omega), obnd_some, sel_ite]
    split
    · exact ⟨_, rfl⟩
    · rw [i64w_id (by omega) (by omega), show (m : Int) + 1 = ((m + 1 : Nat) : Int) by omega]
      exact same_l1 a b ha hl k fuel (m + 1) (by omega) (by omega)
theorem same_tot (a b : List Rng) (hl : a.length ≤ 1000000) : ∃ s, Mref1_Same a b = some s := by
  unfold Mref1_Same
  by_cases h : a.length = b.length
  · obtain ⟨c, e⟩ := same_l1 a b h hl a.length FU 0 (by omega) (by unfold FU; omega)
    rw [show ((0 : Nat) : Int) = 0 from rfl] at e
    rw [decide_eq_true (by omega), Bool.not_true, sel_false, e, obnd_some]
    cases c with
    | ret r => exact ⟨_, ocbnd_ret _ _⟩
    | nxt u => exact ⟨_, ocbnd_nxt _ _⟩
  · rw [decide_eq_false (by omega), Bool.not_false, sel_true]
    exact ⟨_, rfl⟩
theorem honest_l4 (v : TVisit) : ∀ (l : List Kv) (n : Int), 0 ≤ n → n + l.length ≤ 100000000 → (∀ x ∈ l, contains v.Part x.key = true ∧ contains v.View.Interval x.key = true) → Mlaw29_ReceiptHonest_l4 v l n = some (.nxt (n + l.length))
  | [], n, _, _, _ => by rw [Mlaw29_ReceiptHonest_l4.eq_1]; simp
  | x :: l, n, h0, h1, h => by
    simp only [List.length_cons] at h1
    obtain ⟨g1, g2⟩ := h x List.mem_cons_self
    rw [Mlaw29_ReceiptHonest_l4.eq_2, bnd_eq, bnd_eq, eq_ref1_Contains, eq_ref1_Contains, g1, g2, Bool.not_true, sel_false, sel_false, i64w_id (by omega) (by omega), honest_l4 v l (n + 1) (by omega) (by omega) fun y hy => h y (List.mem_cons_of_mem _ hy)]
    simp only [List.length_cons]
    congr 2
    omega
theorem honest_l3 : ∀ (l : List TVisit) (ps : List Rng) (n : Int), 0 ≤ n → n + (rowsW l).length ≤ 100000000 → ps.length + l.length ≤ 1000000 → (∀ v ∈ l, vOk v = true ∧ rOk v = true) → Mlaw29_ReceiptHonest_l3 l ps n = some (.nxt (ps ++ l.map (·.Part), n + (rowsW l).length))
  | [], ps, n, _, _, _, _ => by rw [Mlaw29_ReceiptHonest_l3.eq_1]; simp [rowsW]
  | v :: l, ps, n, h0, h1, h2, h => by
    have er : rowsW (v :: l) = v.View.Rows ++ rowsW l := by unfold rowsW; rw [List.flatMap_cons]
    rw [er, List.length_append] at h1 ⊢
    simp only [List.length_cons] at h2
    obtain ⟨g1, g2⟩ := h v List.mem_cons_self
    have g3 : ∀ x ∈ v.View.Rows, contains v.Part x.key = true ∧ contains v.View.Interval x.key = true := fun x hx => by
      unfold rOk at g2
      unfold vOk validV at g1
      simp only [Bool.and_eq_true] at g1
      exact ⟨List.all_eq_true.1 g2 x hx, List.all_eq_true.1 g1.1.1.2 x hx⟩
    rw [Mlaw29_ReceiptHonest_l3.eq_2, app_le (by simp; omega), obnd_some, honest_l4 v v.View.Rows n h0 (by omega) g3, obnd_some, ocbnd_nxt, obnd_some, ocbnd_nxt]
    simp only
    rw [honest_l3 l _ _ (by omega) (by omega) (by simp; omega) fun x hx => h x (List.mem_cons_of_mem _ hx)]
    simp only [List.map_cons, List.append_assoc, List.cons_append, List.nil_append]
    congr 3
    omega
theorem honest_l5 (y : TAnswer × Int) (hl : y.1.Rows.length ≤ 100000000) (hs : y.1.Rows.Pairwise fun a b => bl a.key b.key = true) : ∀ (xs : List Kv) (m : Nat), y.1.Rows.drop m = xs → Mlaw29_ReceiptHonest_l5 y xs (m : Int) = some (.nxt ())
  | [], m, _ => by rw [Mlaw29_ReceiptHonest_l5.eq_1]
  | x :: xs, m, h => by
    obtain ⟨h1, h2⟩ := drop_get h
    obtain ⟨h3, h4⟩ := List.getElem?_eq_some_iff.1 h1
    have ih := honest_l5 y hl hs xs (m + 1) h2
    rw [Mlaw29_ReceiptHonest_l5.eq_2, show (m : Int) + 1 = ((m + 1 : Nat) : Int) by omega, ih]
    cases m with
    | zero => rfl
    | succ m =>
      have := List.pairwise_iff_getElem.1 hs m (m + 1) (by omega) h3 (by omega)
      rw [h4] at this
      rw [decide_eq_true (by omega), sel_true, i64w_id (by omega) (by omega), show ((m + 1 : Nat) : Int) - 1 = (m : Int) by omega, lget_nat, List.getElem?_eq_getElem (by omega), obnd_some, this]; rfl
theorem honest_l2 : ∀ l : List TReceipt, (∀ r ∈ l, r.Query.Ranges.length ≤ 1000 ∧ okC r.First ∧ okC r.Second) → Mlaw29_ReceiptHonest_l2 l = some (.nxt ())
  | [], _ => rfl
  | r :: l, h => by
    obtain ⟨hq, h1, h2⟩ := h r List.mem_cons_self
    have ih := honest_l2 l fun x hx => h x (List.mem_cons_of_mem _ hx)
    obtain ⟨a, c1, -, c3⟩ := check_eq r (by omega) h1 h2
    rw [Mlaw29_ReceiptHonest_l2.eq_2, c1, obnd_some, ih]
    simp only
    by_cases hc : checkE r = 0
    · rw [decide_eq_true hc, Bool.not_true, sel_false, obnd_some, ocbnd_nxt]
      obtain ⟨e1, -⟩ := c3 hc
      have t1 : tilingW r.Query r.First = 0 := by
        unfold checkE at hc
        split at hc
        · contradiction
        · rename_i hh; exact Classical.byContradiction hh
      have hlen : r.First.length = r.Second.length := by
        unfold checkE at hc
        split at hc
        · contradiction
        split at hc
        · contradiction
        split at hc
        · rename_i hh; exact sameVs_len hh
        · omega
      obtain ⟨f1, f2⟩ := tiled_facts t1
      have hv := (tiling_0 t1).2
      have hrl : (rowsW r.First).length ≤ 10000000 := h1.w.rlen
      have hvis := h1.vis
      have e3 := honest_l3 r.First [] 0 (by omega) (by omega) (by simp; omega) hv
      rw [List.nil_append, Int.zero_add] at e3
      have eu : Mref1_Union (r.First.map (·.Part)) = some (union (r.First.map (·.Part))) := if_pos (by simp; omega)
      have er : Mref22_Ranges r.Query = some (qrg r.Query) := if_pos (by omega)
      rw [e3, obnd_some, ocbnd_nxt]
      simp only
      rw [eu, obnd_some, er, obnd_some]
      have hql := qtk_len r.Query.Kind r.Query.Count (rowsW r.First)
      have srt : a.Rows.Pairwise fun a b => bl a.key b.key = true := by rw [e1]; exact qtk_srt (rowsW_srt hv f1)
      have hal : a.Rows.length ≤ (rowsW r.First).length := by rw [e1]; exact hql
      have e5 := honest_l5 (a, checkE r) (by simp only; omega) srt a.Rows 0 rfl
      rw [show ((0 : Nat) : Int) = 0 from rfl] at e5
      have tail : (sel (decide (((rowsW r.First).length : Int) < (a.Rows.length : Int))) (some true) (some (!decide ((r.First.length : Int) = (r.Second.length : Int)))) : Option Bool) = some false := by
        rw [decide_eq_false (by omega), sel_false, decide_eq_true (by omega)]; rfl
      have hsame : ∃ s, Mref1_Same (union (r.First.map (·.Part))) (qrg r.Query) = some s ∧ (s = true ∨ enough r.Query ((rowsW r.First).length : Int) = true) := by
        rcases f2 with f2 | f2
        · have h64 := qrg_64 r.Query
          rw [f2]
          exact ⟨true, sameL_refl _ (by omega), .inl rfl⟩
        · have hul := union_len (r.First.map (·.Part))
          have h64 := qrg_64 r.Query
          rw [List.length_map] at hul
          obtain ⟨s, es⟩ := same_tot (union (r.First.map (·.Part))) (qrg r.Query) (by omega)
          exact ⟨s, es, .inr f2⟩
      obtain ⟨s, es, hs⟩ := hsame
      rw [es, obnd_some]
      have hx : (sel (!s) (bnd (Mref22_Enough r.Query ((rowsW r.First).length : Int)) fun y43 => sel (!y43) (some true) (sel (decide (((rowsW r.First).length : Int) < (a.Rows.length : Int))) (some true) (some (!decide ((r.First.length : Int) = (r.Second.length : Int)))))) (sel (decide (((rowsW r.First).length : Int) < (a.Rows.length : Int))) (some true) (some (!decide ((r.First.length : Int) = (r.Second.length : Int))))) : Option Bool) = some false := by
        rw [bnd_eq, eq_ref22_Enough, tail]
        rcases hs with rfl | hs
        · rfl
        · rw [hs]; cases s <;> rfl
      rw [hx, obnd_some, sel_false, e5, obnd_some, ocbnd_nxt, obnd_some, ocbnd_nxt]
    · rw [decide_eq_false hc, Bool.not_false, sel_true, obnd_some, ocbnd_ret, obnd_some, ocbnd_nxt]
theorem honest_l1 : ∀ (fuel : Nat) (x : List Int) (a : Int) (l1 l2 : List TVisit) (i : Int) (n : Nat), okT ⟨x, a⟩ → Cc n (n + 8) l1 → Cc n (n + 8) l2 → i.toNat < fuel → n + i.toNat ≤ 500 → i ≤ 100 → Tot (Mlaw29_ReceiptHonest_l1 fuel x a l1 l2 i) fun z => okC z.1 ∧ okC z.2
  | 0, _, _, _, _, _, _, _, _, _, h, _, _ => absurd h (by omega)
  | fuel + 1, x, a, l1, l2, i, n, h, h1, h2, hf, hn, hi => by
    have up : ∀ {l : List TVisit}, Cc n (n + 8) l → okC l := fun hl => ⟨by have := hl.1; omega, fun v hv => by have := hl.2 v hv; omega⟩
    rw [Mlaw29_ReceiptHonest_l1.eq_2]
    refine tot_join (R := fun _ => 0 < i) (tot_sel (fun h3 => tot_some (show 0 < i from of_decide_eq_true h3)) fun _ => tot_some ⟨up h1, up h2⟩) fun _ hi0 => ?_
    refine tot_obnd (tot_spoil h h1 (by omega) (by omega)) fun y15 h15 => tot_obnd (tot_bool h15.1 (by omega)) fun y16 h16 => ?_
    rw [i64w_id (by omega) (by omega)]
    have e : n + 8 + 1 = n + 1 + 8 := by omega
    have g1 := h15.2
    have g2 := h2.up
    rw [e] at g1 g2
    exact tot_sel (fun _ => honest_l1 fuel _ _ _ _ (i - 1) (n + 1) h16 g1 g1 (by omega) (by omega) (by omega)) fun _ => honest_l1 fuel _ _ _ _ (i - 1) (n + 1) h16 g1 g2 (by omega) (by omega) (by omega)
theorem receiptHonest_ok (l : List Int) (raw : TReceipt) : Mlaw29_ReceiptHonest l raw = some true := by
  have key : Tot (Mlaw29_ReceiptHonest l raw) fun b => b = true := by
    unfold Mlaw29_ReceiptHonest
    rw [rawake_ok]
    refine tot_obnd (R := fun b => b = false → okC raw.First ∧ okC raw.Second ∧ raw.Query.Ranges.length ≤ 80) (tot_bnd (tot_sel (fun _ => tot_some (by simp)) fun h1 => tot_bnd (tot_sel (fun _ => tot_some (by simp)) fun h2 => tot_some fun h3 => ?_))) fun b hb => tot_sel (fun _ => tot_obnd (tot_some (Q := fun b => b = true) rfl) fun b h => tot_some h) fun hbf => ?_
    · refine ⟨(small_ok (by simpa using h1)).1, (small_ok (by simpa using h2)).1, ?_⟩
      have := of_decide_eq_false h3
      omega
    · obtain ⟨c1, c2, c3⟩ := hb hbf
      refine tot_obnd (tot_new l) fun τ hτ => tot_obnd (tot_good hτ) fun y8 h8 => ?_
      obtain ⟨k0, q, w, k1, k2, k3, k4, k5, k6, k7⟩ := h8
      have g4 := k1.2.1
      have e1 : y8.1.Query = q := by rw [k7]
      have e2 : y8.1.First = w.Visits := by rw [k7]
      have e3 : y8.1.Second = w.Visits := by rw [k7]
      have hc : Cc 100 (100 + 8) w.Visits := ⟨by omega, fun v hv => by
        rw [k4.ri v hv]
        have := List.length_filter_le (fun x : Kv => contains v.Part x.key) y8.2.1
        omega⟩
      refine tot_obnd (tot_next k0 (by omega)) fun y9 h9 => ?_
      have cho := h9.2
      unfold Cho at cho
      refine tot_obnd (honest_l1 FU _ _ y8.1.First y8.1.Second y9.1 100 h9.1 (by rw [e2]; exact hc) (by rw [e3]; exact hc) (by unfold FU; omega) (by omega) (by omega)) ?_
      rintro ⟨r17, r18⟩ ⟨m1, m2⟩
      simp only at m1 m2 ⊢
      rw [honest_l2 [raw, ⟨y8.1.Query, r17, r18⟩] (fun r hr => by
        simp only [List.mem_cons, List.not_mem_nil, or_false] at hr
        rcases hr with rfl | rfl
        · exact ⟨by omega, c1, c2⟩
        · exact ⟨by simp only; rw [e1]; omega, m1, m2⟩), obnd_some, ocbnd_nxt]
      exact tot_obnd (tot_some (Q := fun b => b = true) rfl) fun b h => tot_some h
  obtain ⟨b, e, h⟩ := key
  rw [e, h]
end Go.Proofs.YtlbnhhfaedhgfaaGreatDoor
