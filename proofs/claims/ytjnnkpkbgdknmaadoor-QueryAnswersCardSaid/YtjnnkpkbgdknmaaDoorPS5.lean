/-
  Lemmas: The walk of Union in the reference. / The walk of keyspace.Prefix. / The walk of Prefix in the reference. / Contracts of the first engine, over states: Union, Prefix. / What the rows of the laws share, for walks over states: the letters that the listed variable holds, the numbers of the tape, the post. / Arguments of the laws, opened, as values of a walk over states; from a walk over states to the row's claim. / Arguments that are rows and whole numbers. / Functions as models: a function's walk follows a term that a program has printed from its code ('sel': ways part, 'bnd', 'obnd': what is called or may fail, 'Ctl': ways out of a piece of code).
-/
import Derived.Test.YtjnnkpkbgdknmaaDoorPS4
import Derived.Test.YtjnnkpkbgdknmaaDoorPS2
import Derived.Laws.IdiomStrings
import Derived.Laws.BytesArg
import Derived.Test.YtjnnkpkbgdknmaaDoorPS3
import Derived.Test.YtjnnkpkbgdknmaaDoorCards
import Derived.Test.YtjnnkpkbgdknmaaDoorTie
import Derived.WalkKit
import Derived.ProofKit
import Derived.OpenShut
import Derived.Deep.DeepHandedRow
import Derived.Lib.LaidTab
import Derived.Lib.SmallJoins
import Derived.Deep.Slices
namespace Go.Proofs.YtjnnkpkbgdknmaaDoor
set_option linter.unusedSimpArgs false
set_option linter.unusedVariables false
open Go.RowKit
attribute [local irreducible] contains emp vld vb vk adj isect hull proper greater lesser greatest least cmp Bnd.lt Op.bytesLess Calls Oper.wp wpList Code.wp Oper.upon
theorem empty_r_w (x : Rng) {w : World} : Calls Tryd.prog 57 #[.agg #[.string x.lo.key, .bool x.lo.top, .string x.hi.key, .bool x.hi.top]] w fun e w' => e = .returned (.bool (emp x)) ∧ Kp [] w w' := empty_r
theorem compare_r_w (a b : Bnd) {w : World} : Calls Tryd.prog 72 #[.agg #[.string a.key, .bool a.top], .agg #[.string b.key, .bool b.top]] w fun e w' => e = .returned (.int .i64 (cmp a b)) ∧ Kp [] w w' := compare_r
theorem ins_list {out : List Rng} {z r : Rng} {j m : Nat} (hm : out.length = m) (hj : j ≤ m) : ((out ++ [z]).take (j + 1) ++ ((out ++ [z]).drop j).take (m - j)).set j r = out.take j ++ r :: out.drop j := by
  subst hm
  have h2 : ((out ++ [z]).drop j).take (out.length - j) = out.drop j := by
    rw [List.drop_append_of_le_length hj]; exact List.take_left' (by simp)
  have h1 : ((out ++ [z]).take (j + 1)).set j r = out.take j ++ [r] := by
    have h2 : (out ++ [z]).take (j + 1) = out.take j ++ [(out ++ [z])[j]'(by simp; omega)] := by
      rw [List.take_add_one, List.getElem?_eq_getElem (by simp; omega), List.take_append_of_le_length hj]; rfl
    rw [h2, List.set_append_right _ _ (by simp; omega)]
    simp [Nat.min_eq_left hj]
  rw [h2, List.set_append_left _ _ (by simp; omega), h1, List.append_assoc]; rfl
theorem ins_perm {out : List Rng} {r : Rng} {j : Nat} : (out.take j ++ r :: out.drop j).Perm (out ++ [r]) := by
  refine List.perm_middle.trans ?_
  rw [List.take_append_drop]
  exact (List.perm_append_singleton r out).symm
theorem ins_srt {out : List Rng} {r : Rng} {j : Nat} (hs : Srt out) (h1 : ∀ i x, j ≤ i → out[i]? = some x → r.lo.lt x.lo = true) (h2 : ∀ x, 0 < j → out[j - 1]? = some x → r.lo.lt x.lo = false) (hj : j ≤ out.length) : Srt (out.take j ++ r :: out.drop j) := by
  refine List.pairwise_append.2 ⟨hs.sublist (List.take_sublist _ _), List.pairwise_cons.2 ⟨fun y hy => ?_, hs.sublist (List.drop_sublist _ _)⟩, fun x hx y hy => ?_⟩
  · obtain ⟨i, hi, rfl⟩ := List.mem_iff_getElem.1 hy
    rw [List.getElem_drop]
    exact lt_asymm (h1 (j + i) _ (by omega) (List.getElem?_eq_getElem _))
  · obtain ⟨i, hi, rfl⟩ := List.mem_iff_getElem.1 hx
    have hi' : i < j := by simp at hi; omega
    rw [List.getElem_take]
    have hr : r.lo.lt out[i].lo = false := by
      have h3 := h2 (out[j - 1]'(by omega)) (by omega) (List.getElem?_eq_getElem (by omega))
      by_cases hij : i = j - 1
      · subst hij; exact h3
      · have h4 : leLo out[i] (out[j - 1]'(by omega)) = true := by simp [leLo, List.pairwise_iff_getElem.1 hs i (j - 1) (by omega) (by omega) (by omega)]
        have h5 := leLo_trans _ _ r h4 (by simp [leLo, h3])
        simpa [leLo] using h5
    rcases List.mem_cons.1 hy with rfl | hy
    · exact hr
    · obtain ⟨q, hq, rfl⟩ := List.mem_iff_getElem.1 hy
      rw [List.getElem_drop]
      exact List.pairwise_iff_getElem.1 hs i (j + q) (by omega) (by simp at hq; omega) (by omega)
theorem elem_lo {out : List Rng} {x : Rng} {d : Nat} (hd : out[d]? = some x) : ((rvals out).drop (d * 4)).take 2 = [.string x.lo.key, .bool x.lo.top] :=
  (fl_part rvz (l := out) (k := d) (r := x) hd 0 2 (by decide)).trans rfl
set_option maxRecDepth 100000 in
set_option maxHeartbeats 8000000 in
theorem union_r {p : Option Addr} {n c : Nat} {l : List Rng} {w : World} (h1 : Rd w 4 (.slice p n c) n (rvals l)) (hn : n ≤ 1000000) :
    Calls Tryd.prog 61 #[.slice p n c] w fun e w' => ∃ r sl, e = .returned r ∧ OS sl 50 4 r (union l).length (rvals (union l)) ∧ Rep w nof [] sl w' := by
  have hl : l.length = n := h1.count rvz (by decide)
  have Hu := Lib.hid (fun s hp hs => union_of_sorted (l := l) (s := s) hp hs)
  obtain ⟨tot, htot⟩ : ∃ tot, tot = union l := ⟨_, rfl⟩
  rw [← htot]
  rw [← htot] at Hu
  have Hl := Lib.hid hl
  clear hl htot
  go_enter Tryd.func61, Tryd.ntmps61
  have hR := Rep.refl w
  generalize w = w0 at hR h1
  have hrl := h1.rw
  go_wp2_with fail
  go_loopw [3, 4] (fun v i wr => ∃ k : Nat, ∃ out slo, i = .int .i64 k ∧ k ≤ n ∧ OS slo 50 4 v out.length (rvals out) ∧ Hid (out.Perm ((l.take k).filter ne)) ∧ Hid (Srt out) ∧ Rep w0 nof [] slo wr) (fun _ i _ => n - (intOf i).toNat)
  case atStart => exact ⟨0, [], [], rfl, Nat.zero_le _, OS.nil _ _, Lib.hid (List.Perm.refl _), Lib.hid .nil, hR⟩
  case round =>
    obtain ⟨k, out, slo, rfl, hkn, hO, hP, hS, hR⟩ := hrel
    have hF := hR.fx
    by_cases hlt : k < n
    · have hlt' : (k : Int) < (n : Int) := by omega
      have hk0 : (0 : Int) ≤ (k : Int) := by omega
      obtain ⟨r, hr⟩ : ∃ r, l[k]? = some r := ⟨l[k]'(by rw [Hl.out]; exact hlt), List.getElem?_eq_getElem _⟩
      have hts := take_snoc hr
      obtain ⟨b, o, rfl, hR⟩ := hrl.elem rvz (by decide) hr hR
      have Hr := Lib.hid hts
      clear hts hr
      simp only [Rng.vals] at hR
      have hF := hR.fx
      cases he : emp r
      · have hpl := hP.out.length_eq
        have hml : out.length ≤ n := by rw [hpl]; exact Nat.le_trans (List.length_filter_le _ _) (by rw [List.length_take, Hl.out]; omega)
        obtain ⟨q2, c2, rfl⟩ := hO.val
        obtain ⟨m, hm⟩ : ∃ m, out.length = m := ⟨_, rfl⟩
        rw [hm] at hO hml ⊢
        have Hm := Lib.hid hm
        clear hm hpl
        go_wp2_with (first | (refine wl_ld hR ?_) | (refine wl_st hR ?_; (try clear hF); clear hR; intro w hR; have hF := hR.fx) | (refine wl_mem hR ?_; (try clear hF); clear hR; intro w B hR; have hF := hR.fx) | (go_at_call 57; refine (empty_r_w r).mono ?_; rintro e w ⟨rfl, hb⟩; replace hR := hR.kp0 hb; (try clear hF); clear hb; have hF := hR.fx))
        go_loopw [5] (fun a wr => ∃ j : Nat, a = .int .i64 j ∧ j ≤ m ∧ Hid (∀ i x, j ≤ i → out[i]? = some x → r.lo.lt x.lo = true) ∧ Rep w0 nof [⟨b, o + k * 4, [.string r.lo.key, .bool r.lo.top, .string r.hi.key, .bool r.hi.top]⟩] slo wr) (fun a _ => (intOf a).toNat)
        case atStart => exact ⟨m, rfl, Nat.le_refl _, Lib.hid (fun i x hi hx => by have := (List.getElem?_eq_some_iff.1 hx).1; rw [Hm.out] at this; omega), hR⟩
        case round =>
          obtain ⟨j, rfl, hjm, hA, hR⟩ := hrel
          have hF := hR.fx
          by_cases hj : 0 < j
          · obtain ⟨j, rfl⟩ : ∃ j', j = j' + 1 := ⟨j - 1, by omega⟩
            obtain ⟨x, hx⟩ : ∃ x, out[j]? = some x := ⟨out[j]'(by rw [Hm.out]; omega), List.getElem?_eq_getElem _⟩
            have Hv := Lib.hid (elem_lo hx)
            have Hl4 : Hid (j * 4 + 2 ≤ (rvals out).length) := Lib.hid (by rw [rvals_length, Hm.out]; omega)
            have Hx := Lib.hid hx
            clear hx
            obtain ⟨g, c2, hv2, hc2⟩ := hO.val1 (by omega)
            simp only [Value.slice.injEq, true_and] at hv2
            obtain ⟨rfl, rfl⟩ := hv2
            have hjp : (0 : Int) < (j : Int) + 1 := by omega
            have hj0 : (0 : Int) ≤ (j : Int) := by omega
            have hjm' : (j : Int) < (m : Int) := by omega
            have hwr : IntKind.i64.wrap (j : Int) = j := IntWalk.i64_in _ (by omega)
            by_cases hc : 0 < cmp x.lo r.lo
            · go_upto_region 7 with fail
              refine wp_region_C 16 (0 :: 1 :: 2 :: 3 :: 4 :: 5 :: 6 :: 7 :: 8 :: 9 :: 10 :: 11 :: 12 :: 13 :: 14 :: 15 :: []) [14] hR mixed (by kernel_rfl) ?_; (try clear hF); clear hR; (repeat (first | (refine dc_ld_own rfl rfl rfl rfl hO CtxI.out rfl (by exact inferInstance) (by exact rfl) Hl4.out Hv.out (by simp only [Act.put, List.setIfInBounds_toArray, List.set_cons_zero, List.set_cons_succ, ldW, if_true, Bool.false_eq_true, if_false, List.headD_cons]; exact rfl) ?_) | (refine dk ?_; intro B) | (refine dk_call0 (fun w hR => ?_); first | (go_at_call 72; refine (compare_r_w x.lo r.lo).mono ?_; rintro e w' ⟨rfl, hb⟩; refine ⟨_, rfl, hb, dn ?_⟩; clear hR hb)))); refine dc_nil ?_; intro w hR; have hF := hR.fx; try simp only [List.drop_succ_cons, List.drop_zero]
              go_wp2_with fail
              go_roundw
              case rel => exact ⟨j, rfl, by omega, Lib.hid (fun i y hi hy => by
                by_cases hij : i = j
                · subst hij; rw [Hx.out] at hy; obtain rfl := Option.some.inj hy; exact (cmp_pos _ _).1 hc
                · exact hA.out i y (by omega) hy), hR.sub sub_any sub_any⟩
              case measure => simp [intOf] <;> omega
            · have Hx0 : Hid (r.lo.lt x.lo = false) := Lib.hid (Bool.eq_false_iff.2 fun hq => hc ((cmp_pos _ _).2 hq))
              go_upto_region 7 with fail
              refine wp_region_C 16 (0 :: 1 :: 2 :: 3 :: 4 :: 5 :: 6 :: 7 :: 8 :: 9 :: 10 :: 11 :: 12 :: 13 :: 14 :: 15 :: []) [14] hR mixed (by kernel_rfl) ?_; (try clear hF); clear hR; (repeat (first | (refine dc_ld_own rfl rfl rfl rfl hO CtxI.out rfl (by exact inferInstance) (by exact rfl) Hl4.out Hv.out (by simp only [Act.put, List.setIfInBounds_toArray, List.set_cons_zero, List.set_cons_succ, ldW, if_true, Bool.false_eq_true, if_false, List.headD_cons]; exact rfl) ?_) | (refine dk ?_; intro B) | (refine dk_call0 (fun w hR => ?_); first | (go_at_call 72; refine (compare_r_w x.lo r.lo).mono ?_; rintro e w' ⟨rfl, hb⟩; refine ⟨_, rfl, hb, dn ?_⟩; clear hR hb)))); refine dc_nil ?_; intro w hR; have hF := hR.fx; try simp only [List.drop_succ_cons, List.drop_zero]
              have hwr1 : IntKind.i64.wrap (((j : Int) + 1) + 1) = ((j : Int) + 1) + 1 := IntWalk.i64_in _ (by omega)
              go_upto_region 10 with (first | (refine wl_append hR rfl rfl rfl rfl rfl (hO) (At.rd hR UpI.at rfl) ?_; (try clear hF); clear hR; intro v sl w hO hR; have hF := hR.fx) | (refine wl_ld hR ?_) | (refine wl_st hR ?_; (try clear hF); clear hR; intro w hR; have hF := hR.fx) | (refine wl_mem hR ?_; (try clear hF); clear hR; intro w B9 hR; have hF := hR.fx))
              have hz : rvals out ++ [.string ⟨#[]⟩, .bool false, .string ⟨#[]⟩, .bool false] = rvals (out ++ [zr]) := by simp [rvals, Rng.vals, zr, zb]
              rw [hz] at hO
              clear hz
              obtain ⟨g, c3, rfl, hc3⟩ := hO.val1 (by omega)
              have hi1 : (0 : Int) ≤ ((j : Int) + 1) + 1 := by omega
              have hi2 : ((j : Int) + 1) + 1 ≤ (m : Int) + 1 := by omega
              have hi3 : (0 : Int) ≤ ((j : Int) + 1) := by omega
              have hi4 : ((j : Int) + 1) ≤ (m : Int) + 1 := by omega
              have hi5 : ((j : Int) + 1) < (m : Int) + 1 := by omega
              refine wp_region_C 7 (0 :: 1 :: 2 :: 3 :: 4 :: 5 :: 6 :: []) [] hR mixed (by kernel_rfl) ?_; (try clear hF); clear hR; (repeat (first | (refine dc_slice_end (lo := (j + 1) + 1) rfl rfl rfl rfl rfl rfl (by exact inferInstance) (by omega) (by omega) ?_; intro o1 ho1; refine dn ?_) | (refine dc_slice_end (lo := (j + 1)) rfl rfl rfl rfl rfl rfl (by exact inferInstance) (by omega) (by omega) ?_; intro o2 ho2; refine dn ?_) | (refine dk ?_; intro B))); refine dc_nil ?_; intro w hR; have hF := hR.fx; try simp only [List.drop_succ_cons, List.drop_zero]
              go_wp2_with (first | (refine wpList_copy_os (i := (j + 1)) hR rfl rfl rfl rfl rfl (by exact inferInstance) (rvals_one _) hO CtxI.out ⟨by omega, by omega, fun hh => by have := ho1.out (by omega); omega, fun hh => by have := ho2.out (by omega); omega⟩ ?_; (try clear hF); clear hR; intro sl w hO hR; have hF := hR.fx; refine dn ?_) | (refine wpList_st_os hR rfl rfl rfl hO CtxI.out rfl rfl (by exact inferInstance) (by simp only [List.length_append, List.length_take, List.length_drop, rvals_length, List.length_singleton, Hm.out]; omega) (by exact rfl) ?_; (try clear hF); clear hR; intro sl w hO hR; (try simp only [List.cons_append, List.nil_append] at hR); have hF := hR.fx) | (refine wl_ld hR ?_) | (refine wl_st hR ?_; (try clear hF); clear hR; intro w hR; have hF := hR.fx) | (refine wl_mem hR ?_; (try clear hF); clear hR; intro w B hR; have hF := hR.fx))
              have hst : stL ((j + 1) * 4) [.string r.lo.key, .bool r.lo.top, .string r.hi.key, .bool r.hi.top] ((rvals (out ++ [zr])).take (((j + 1) + 1) * 4) ++ ((rvals (out ++ [zr])).drop ((j + 1) * 4)).take ((m + 1 - ((j + 1) + 1)) * 4)) = rvals (out.take (j + 1) ++ r :: out.drop (j + 1)) := by
                rw [rvals_take, rvals_drop, rvals_take, ← rvals_append, show m + 1 - ((j + 1) + 1) = m - (j + 1) by omega]
                exact (stL_rvals r _ (j + 1) (by simp [Hm.out]; omega)).trans (by rw [ins_list Hm.out (by omega)])
              rw [hst] at hO
              clear hst
              have hlen : (out.take (j + 1) ++ r :: out.drop (j + 1)).length = m + 1 := by simp [Hm.out]; omega
              go_roundw
              case rel =>
                refine ⟨k + 1, out.take (j + 1) ++ r :: out.drop (j + 1), sl, by go_num, by omega, by rw [hlen]; exact hO, Lib.hid ?_, Lib.hid ?_, hR.sub sub_any sub_any⟩
                · rw [Hr.out, List.filter_append, List.filter_cons_of_pos (by simp [ne, he]), List.filter_nil]
                  exact ins_perm.trans (hP.out.append_right [r])
                · exact ins_srt hS.out hA.out (fun y hy0 hy => by rw [show j + 1 - 1 = j by omega, Hx.out] at hy; obtain rfl := Option.some.inj hy; exact Hx0.out) (by rw [Hm.out]; omega)
              case measure => simp [intOf] <;> omega
          · have hnj : ¬ ((0 : Int) < (j : Int)) := by omega
            go_upto_region 7 with fail
            refine wp_region_C 16 (0 :: 1 :: 2 :: 3 :: 4 :: 5 :: 6 :: 7 :: 8 :: 9 :: 10 :: 11 :: 12 :: 13 :: 14 :: 15 :: []) [14] hR mixed (by kernel_rfl) ?_; (try clear hF); clear hR; (repeat (first | (refine dk ?_; intro B) | (refine dk_call0 (fun w hR => ?_); first | (go_at_call 72; refine (compare_r_w r.lo r.lo).mono ?_; rintro e w' ⟨rfl, hb⟩; refine ⟨_, rfl, hb, dn ?_⟩; clear hR hb)))); refine dc_nil ?_; intro w hR; have hF := hR.fx; try simp only [List.drop_succ_cons, List.drop_zero]
            have hwr1 : IntKind.i64.wrap ((j : Int) + 1) = (j : Int) + 1 := IntWalk.i64_in _ (by omega)
            go_upto_region 10 with (first | (refine wl_append hR rfl rfl rfl rfl rfl (hO) (At.rd hR UpI.at rfl) ?_; (try clear hF); clear hR; intro v sl w hO hR; have hF := hR.fx) | (refine wl_ld hR ?_) | (refine wl_st hR ?_; (try clear hF); clear hR; intro w hR; have hF := hR.fx) | (refine wl_mem hR ?_; (try clear hF); clear hR; intro w B9 hR; have hF := hR.fx))
            have hz : rvals out ++ [.string ⟨#[]⟩, .bool false, .string ⟨#[]⟩, .bool false] = rvals (out ++ [zr]) := by simp [rvals, Rng.vals, zr, zb]
            rw [hz] at hO
            clear hz
            obtain ⟨g, c3, rfl, hc3⟩ := hO.val1 (by omega)
            have hi1 : (0 : Int) ≤ (j : Int) + 1 := by omega
            have hi2 : (j : Int) + 1 ≤ (m : Int) + 1 := by omega
            have hi3 : (0 : Int) ≤ (j : Int) := by omega
            have hi4 : (j : Int) ≤ (m : Int) + 1 := by omega
            have hi5 : (j : Int) < (m : Int) + 1 := by omega
            refine wp_region_C 7 (0 :: 1 :: 2 :: 3 :: 4 :: 5 :: 6 :: []) [] hR mixed (by kernel_rfl) ?_; (try clear hF); clear hR; (repeat (first | (refine dc_slice_end (lo := j + 1) rfl rfl rfl rfl rfl rfl (by exact inferInstance) (by omega) (by omega) ?_; intro o1 ho1; refine dn ?_) | (refine dc_slice_end (lo := j) rfl rfl rfl rfl rfl rfl (by exact inferInstance) (by omega) (by omega) ?_; intro o2 ho2; refine dn ?_) | (refine dk ?_; intro B))); refine dc_nil ?_; intro w hR; have hF := hR.fx; try simp only [List.drop_succ_cons, List.drop_zero]
            go_wp2_with (first | (refine wpList_copy_os (i := j) hR rfl rfl rfl rfl rfl (by exact inferInstance) (rvals_one _) hO CtxI.out ⟨by omega, by omega, fun hh => by have := ho1.out (by omega); omega, fun hh => by have := ho2.out (by omega); omega⟩ ?_; (try clear hF); clear hR; intro sl w hO hR; have hF := hR.fx; refine dn ?_) | (refine wpList_st_os hR rfl rfl rfl hO CtxI.out rfl rfl (by exact inferInstance) (by simp only [List.length_append, List.length_take, List.length_drop, rvals_length, List.length_singleton, Hm.out]; omega) (by exact rfl) ?_; (try clear hF); clear hR; intro sl w hO hR; (try simp only [List.cons_append, List.nil_append] at hR); have hF := hR.fx) | (refine wl_ld hR ?_) | (refine wl_st hR ?_; (try clear hF); clear hR; intro w hR; have hF := hR.fx) | (refine wl_mem hR ?_; (try clear hF); clear hR; intro w B hR; have hF := hR.fx))
            have hst : stL (j * 4) [.string r.lo.key, .bool r.lo.top, .string r.hi.key, .bool r.hi.top] ((rvals (out ++ [zr])).take ((j + 1) * 4) ++ ((rvals (out ++ [zr])).drop (j * 4)).take ((m + 1 - (j + 1)) * 4)) = rvals (out.take j ++ r :: out.drop j) := by
              rw [rvals_take, rvals_drop, rvals_take, ← rvals_append, show m + 1 - (j + 1) = m - j by omega]
              exact (stL_rvals r _ j (by simp [Hm.out]; omega)).trans (by rw [ins_list Hm.out (by omega)])
            rw [hst] at hO
            clear hst
            have hlen : (out.take j ++ r :: out.drop j).length = m + 1 := by simp [Hm.out]; omega
            go_roundw
            case rel =>
              refine ⟨k + 1, out.take j ++ r :: out.drop j, sl, by go_num, by omega, by rw [hlen]; exact hO, Lib.hid ?_, Lib.hid ?_, hR.sub sub_any sub_any⟩
              · rw [Hr.out, List.filter_append, List.filter_cons_of_pos (by simp [ne, he]), List.filter_nil]
                exact ins_perm.trans (hP.out.append_right [r])
              · exact ins_srt hS.out hA.out (fun y hy0 hy => absurd hy0 hj) (by rw [Hm.out]; omega)
            case measure => simp [intOf] <;> omega
      · go_wp2_with (first | (refine wl_ld hR ?_) | (refine wl_st hR ?_; (try clear hF); clear hR; intro w hR; have hF := hR.fx) | (refine wl_mem hR ?_; (try clear hF); clear hR; intro w B hR; have hF := hR.fx) | (go_at_call 57; refine (empty_r_w r).mono ?_; rintro e w ⟨rfl, hb⟩; replace hR := hR.kp0 hb; (try clear hF); clear hb; have hF := hR.fx))
        go_roundw
        case rel => exact ⟨k + 1, out, slo, by go_num, by omega, hO, Lib.hid (by rw [Hr.out, List.filter_append, List.filter_cons_of_neg (by simp [ne, he]), List.filter_nil, List.append_nil]; exact hP.out), hS, hR.sub sub_any sub_any⟩
        case measure => simp [intOf] <;> omega
    · obtain rfl : k = n := by omega
      have hpl : out.Perm (l.filter ne) := by have := hP.out; rwa [List.take_of_length_le (by rw [Hl.out]; exact Nat.le_refl _)] at this
      have hm : out.length ≤ k := by rw [hpl.length_eq, ← Hl.out]; exact List.length_filter_le _ _
      have Ht := Lib.hid (Hu.out out hpl hS.out)
      have hrw := hO.rw hR CtxI.out
      have hk1 := hR.kp_nof
      replace hR := hR.rebase0
      clear hO hS hP Hu hpl hrl h1
      obtain ⟨m, hmm⟩ : ∃ m, m = out.length := ⟨_, rfl⟩
      have Hm := Lib.hid hmm
      rw [← hmm] at hrw hm
      obtain ⟨q, cc, hv⟩ : ∃ q cc, u3 = .slice q m cc := by obtain ⟨q, cc, e, -⟩ := hrw.ex; exact ⟨q, cc, e⟩
      subst hv
      clear hmm
      generalize wr = w1 at hR hk1 hrw
      clear hF
      have hF := hR.fx
      go_wp2_with fail
      go_loopw [6, 7] (fun v i wr => ∃ k : Nat, ∃ os slo, i = .int .i64 k ∧ k ≤ m ∧ OS slo 50 4 v os.length (rvals os) ∧ Hid (Mrg os (out.drop k) tot) ∧ Hid (os.length ≤ k) ∧ Rep w1 nof [] slo wr) (fun _ i _ => m - (intOf i).toNat)
      case atStart => exact ⟨0, [], [], rfl, Nat.zero_le _, OS.nil _ _, Lib.hid (.inl ⟨rfl, by rw [List.drop_zero]; exact Ht.out⟩), Lib.hid (Nat.le_refl _), hR⟩
      case round =>
        obtain ⟨k, os, slo, rfl, hkm, hO, hM, hok, hR⟩ := hrel
        have hF := hR.fx
        by_cases hlt : k < m
        · have hlt' : (k : Int) < (m : Int) := by omega
          have hk0 : (0 : Int) ≤ (k : Int) := by omega
          obtain ⟨r, hr⟩ : ∃ r, out[k]? = some r := ⟨out[k]'(by rw [← Hm.out]; exact hlt), List.getElem?_eq_getElem _⟩
          obtain ⟨b, o, rfl, hR⟩ := hrw.elem rvz (by decide) hr hR
          have hdr : out.drop k = r :: out.drop (k + 1) := by
            obtain ⟨g1, g2⟩ := List.getElem?_eq_some_iff.1 hr
            rw [List.drop_eq_getElem_cons g1, g2]
          have Hd := Lib.hid hdr
          clear hdr hr
          simp only [Rng.vals] at hR
          have hF := hR.fx
          rcases hM.out with ⟨hout, htot⟩ | ⟨done, cur, hout, htot⟩
          · subst hout
            have Hg : Hid (Mrg [r] (out.drop (k + 1)) tot) := Lib.hid (.inr ⟨[], r, rfl, by rw [← htot, Hd.out]; rfl⟩)
            clear hM htot Hd
            obtain ⟨q2, c2, rfl⟩ := hO.val
            simp only [List.length_nil] at hO ⊢
            go_upto_region 17 with (first | (refine wl_ld hR ?_) | (refine wl_st hR ?_; (try clear hF); clear hR; intro w hR; have hF := hR.fx) | (refine wl_mem hR ?_; (try clear hF); clear hR; intro w B hR; have hF := hR.fx))
            refine wp_region_C 16 (0 :: 1 :: 2 :: 3 :: 4 :: 5 :: 6 :: 7 :: 8 :: 9 :: 10 :: 11 :: 12 :: 13 :: 14 :: 15 :: []) [14] hR mixed (by kernel_rfl) ?_; (try clear hF); clear hR; (repeat (first | (refine dk ?_; intro B) | (refine dk_call0 (fun w hR => ?_); first | (go_at_call 72; refine (compare_r_w r.lo r.hi).mono ?_; rintro e w' ⟨rfl, hb⟩; refine ⟨_, rfl, hb, dn ?_⟩; clear hR hb)))); refine dc_nil ?_; intro w hR; have hF := hR.fx; try simp only [List.drop_succ_cons, List.drop_zero]
            go_wp2_with (first | (refine wl_append hR rfl rfl rfl rfl rfl (hO) (At.rd hR UpI.at rfl) ?_; (try clear hF); clear hR; intro v sl w hO hR; have hF := hR.fx) | (refine wl_ld hR ?_) | (refine wl_st hR ?_; (try clear hF); clear hR; intro w hR; have hF := hR.fx) | (refine wl_mem hR ?_; (try clear hF); clear hR; intro w B hR; have hF := hR.fx))
            go_roundw
            case rel => exact ⟨k + 1, [r], sl, by go_num, by omega, by simpa [rvals, Rng.vals] using hO, Hg, Lib.hid (by simp), hR.sub sub_any sub_any⟩
            case measure => simp [intOf] <;> omega
          · subst hout
            obtain ⟨d, hd⟩ : ∃ d, done.length = d := ⟨_, rfl⟩
            obtain ⟨g, c2, rfl, hc2⟩ := hO.val1 (by simp)
            have hlen : (done ++ [cur]).length = d + 1 := by simp [hd]
            rw [hlen] at hO hc2 ⊢
            have hok' := hok.out
            rw [hlen] at hok'
            have Hv := Lib.hid (last_hi (cur := cur) hd)
            have Hl4 : Hid (d * 4 + 2 + 2 ≤ (rvals (done ++ [cur])).length) := Lib.hid (by rw [rvals_length, hlen]; omega)
            have hdp : (0 : Int) < (d : Int) + 1 := by omega
            have hdd : (d : Int) < (d : Int) + 1 := by omega
            have hd0 : (0 : Int) ≤ (d : Int) := by omega
            have hwr : IntKind.i64.wrap (d : Int) = d := IntWalk.i64_in _ (by omega)
            by_cases hj : cmp r.lo cur.hi ≤ 0
            · have Hg : Hid (Mrg (done ++ [⟨cur.lo, greater cur.hi r.hi⟩]) (out.drop (k + 1)) tot) := Lib.hid (.inr ⟨done, _, rfl, by rw [← htot, Hd.out, mrg_join hj]⟩)
              clear hM htot Hd
              go_upto_region 17 with (first | (refine wl_ld hR ?_) | (refine wl_st hR ?_; (try clear hF); clear hR; intro w hR; have hF := hR.fx) | (refine wl_mem hR ?_; (try clear hF); clear hR; intro w B hR; have hF := hR.fx))
              refine wp_region_C 16 (0 :: 1 :: 2 :: 3 :: 4 :: 5 :: 6 :: 7 :: 8 :: 9 :: 10 :: 11 :: 12 :: 13 :: 14 :: 15 :: []) [14] hR mixed (by kernel_rfl) ?_; (try clear hF); clear hR; (repeat (first | (refine dc_ld_own rfl rfl rfl rfl hO CtxI.out rfl (by exact inferInstance) (by exact rfl) Hl4.out Hv.out (by simp only [Act.put, List.setIfInBounds_toArray, List.set_cons_zero, List.set_cons_succ, ldW, if_true, Bool.false_eq_true, if_false, List.headD_cons]; exact rfl) ?_) | (refine dk ?_; intro B) | (refine dk_call0 (fun w hR => ?_); first | (go_at_call 72; refine (compare_r_w r.lo cur.hi).mono ?_; rintro e w' ⟨rfl, hb⟩; refine ⟨_, rfl, hb, dn ?_⟩; clear hR hb)))); refine dc_nil ?_; intro w hR; have hF := hR.fx; try simp only [List.drop_succ_cons, List.drop_zero]
              go_upto_region 18 with (first | (refine wl_ld hR ?_) | (refine wl_st hR ?_; (try clear hF); clear hR; intro w hR; have hF := hR.fx) | (refine wl_mem hR ?_; (try clear hF); clear hR; intro w B hR; have hF := hR.fx))
              refine wp_region_C 17 (0 :: 1 :: 2 :: 3 :: 4 :: 5 :: 6 :: 7 :: 8 :: 9 :: 10 :: 11 :: 12 :: 13 :: 14 :: 15 :: 16 :: []) [14] hR mixed (by kernel_rfl) ?_; (try clear hF); clear hR; (repeat (first | (refine dc_ld_own rfl rfl rfl rfl hO CtxI.out rfl (by exact inferInstance) (by exact rfl) Hl4.out Hv.out (by simp only [Act.put, List.setIfInBounds_toArray, List.set_cons_zero, List.set_cons_succ, ldW, if_true, Bool.false_eq_true, if_false, List.headD_cons]; exact rfl) ?_) | (refine dk ?_; intro B) | (refine dk_call0 (fun w hR => ?_); first | (go_at_call 88; refine (greatest_r_v cur.hi r.hi).mono ?_; rintro e w' ⟨rfl, hb⟩; refine ⟨_, rfl, hb, dn ?_⟩; clear hR hb)))); refine dc_nil ?_; intro w hR; have hF := hR.fx; try simp only [List.drop_succ_cons, List.drop_zero]
              go_wp2_with (first | (refine wpList_st_os hR rfl rfl rfl hO CtxI.out rfl rfl (by exact inferInstance) Hl4.out (by exact rfl) ?_; (try clear hF); clear hR; intro sl w hO hR; (try simp only [List.cons_append, List.nil_append] at hR); have hF := hR.fx) | (refine wl_ld hR ?_) | (refine wl_st hR ?_; (try clear hF); clear hR; intro w hR; have hF := hR.fx) | (refine wl_mem hR ?_; (try clear hF); clear hR; intro w B hR; have hF := hR.fx))
              have hst : stL (d * 4 + 2) [.string (greater cur.hi r.hi).key, .bool (greater cur.hi r.hi).top] (rvals (done ++ [cur])) = rvals (done ++ [⟨cur.lo, greater cur.hi r.hi⟩]) := by
                rw [stL_rvals_hi _ _ _ cur (by rw [← hd]; simp), ← hd]; simp
              rw [hst] at hO
              go_roundw
              case rel => exact ⟨k + 1, _, sl, by go_num, by omega, by simpa [hd] using hO, Hg, Lib.hid (by simp [hd]; omega), by simpa only [List.append_nil] using hR.sub sub_any sub_any⟩
              case measure => simp [intOf] <;> omega
            · have Hg : Hid (Mrg ((done ++ [cur]) ++ [r]) (out.drop (k + 1)) tot) := Lib.hid (.inr ⟨done ++ [cur], r, rfl, by rw [← htot, Hd.out, mrg_next hj, List.append_assoc]; rfl⟩)
              clear hM htot Hd
              go_upto_region 17 with (first | (refine wl_ld hR ?_) | (refine wl_st hR ?_; (try clear hF); clear hR; intro w hR; have hF := hR.fx) | (refine wl_mem hR ?_; (try clear hF); clear hR; intro w B hR; have hF := hR.fx))
              refine wp_region_C 16 (0 :: 1 :: 2 :: 3 :: 4 :: 5 :: 6 :: 7 :: 8 :: 9 :: 10 :: 11 :: 12 :: 13 :: 14 :: 15 :: []) [14] hR mixed (by kernel_rfl) ?_; (try clear hF); clear hR; (repeat (first | (refine dc_ld_own rfl rfl rfl rfl hO CtxI.out rfl (by exact inferInstance) (by exact rfl) Hl4.out Hv.out (by simp only [Act.put, List.setIfInBounds_toArray, List.set_cons_zero, List.set_cons_succ, ldW, if_true, Bool.false_eq_true, if_false, List.headD_cons]; exact rfl) ?_) | (refine dk ?_; intro B) | (refine dk_call0 (fun w hR => ?_); first | (go_at_call 72; refine (compare_r_w r.lo cur.hi).mono ?_; rintro e w' ⟨rfl, hb⟩; refine ⟨_, rfl, hb, dn ?_⟩; clear hR hb)))); refine dc_nil ?_; intro w hR; have hF := hR.fx; try simp only [List.drop_succ_cons, List.drop_zero]
              go_wp2_with (first | (refine wl_append hR rfl rfl rfl rfl rfl (hO) (At.rd hR UpI.at rfl) ?_; (try clear hF); clear hR; intro v sl w hO hR; have hF := hR.fx) | (refine wl_ld hR ?_) | (refine wl_st hR ?_; (try clear hF); clear hR; intro w hR; have hF := hR.fx) | (refine wl_mem hR ?_; (try clear hF); clear hR; intro w B hR; have hF := hR.fx))
              go_roundw
              case rel => exact ⟨k + 1, (done ++ [cur]) ++ [r], sl, by go_num, by omega, by simpa [hd, rvals, Rng.vals] using hO, Hg, Lib.hid (by simp [hd]; omega), hR.sub sub_any sub_any⟩
              case measure => simp [intOf] <;> omega
        · obtain rfl : k = m := by omega
          have hf : os = tot := by
            rcases hM.out with ⟨h1, h2⟩ | ⟨done, cur, h1, h2⟩
            · rw [h1, ← h2, List.drop_eq_nil_of_le (by rw [Hm.out]; exact Nat.le_refl _)]; rfl
            · rw [h1, ← h2, List.drop_eq_nil_of_le (by rw [Hm.out]; exact Nat.le_refl _)]; rfl
          subst hf
          go_wp2_with (first | (refine wl_ld hR ?_) | (refine wl_st hR ?_; (try clear hF); clear hR; intro w hR; have hF := hR.fx) | (refine wl_mem hR ?_; (try clear hF); clear hR; intro w B hR; have hF := hR.fx))
          go_ret
          exact ⟨_, _, rfl, hO, hR.back hk1⟩
end Go.Proofs.YtjnnkpkbgdknmaaDoor
namespace Go.Proofs.YtjnnkpkbgdknmaaDoor
set_option linter.unusedSimpArgs false
set_option linter.unusedVariables false
open Go.RowKit
attribute [local irreducible] contains emp vld vb vk adj isect hull proper greater lesser greatest least cmp Bnd.lt Op.bytesLess Calls Oper.wp wpList Code.wp Oper.upon

theorem bytesRow_cell {p : ByteArray} {c i : Nat} (hi : i < p.toList.length) : (bytesRow p c)[i]? = some (.int .u8 (p.toList[i].toNat : Int)) := by
  have h : i < p.data.size := by have := hi; rwa [len_toList] at this
  have e : p.toList[i] = p.data[i] := by simp [ByteArray.toList_eq]
  rw [e, ← Array.getElem?_toList]
  simp only [bytesRow, Array.toList_append, Array.toList_map, Array.toList_replicate]
  rw [List.getElem?_append_left (by simpa using h), List.getElem?_map]
  simp only [Array.getElem?_toList, Array.getElem?_eq_getElem h, Option.map_some]
theorem cell_new (w : World) (C : Array Value) (T : TypeId) (f : Nat × Nat) (i : Nat) : (w.alloc (.cells C T f)).cell? ⟨w.heap.size, i, none⟩ = C[i]? := by
  unfold World.alloc World.cell?; simp only [Array.getElem?_push_size]; rfl
theorem frozen_new (w : World) (C : Array Value) (T : TypeId) (a b i : Nat) : (w.alloc (.cells C T (a, b))).frozen? ⟨w.heap.size, i, none⟩ = decide (a ≤ i ∧ i < b) := by
  unfold World.alloc World.frozen?; simp only [Array.getElem?_push_size]; simp

structure ByB (w : World) (b : Nat) (l : List UInt8) : Prop where
  lt : b < w.heap.size
  cell : ∀ i (h : i < l.length), w.cell? ⟨b, i, none⟩ = some (.int .u8 (l[i].toNat : Int))
  fz : ∀ i, i < l.length → w.frozen? ⟨b, i, none⟩ = false
theorem Rep.aside {w0 w : World} {X : Fr} {R : List Win} {S : List OB} (h : Rep w0 X R S w) {b o : Nat} (hb : w0.heap.size ≤ b) (hS : ∀ e ∈ S, e.b ≠ b) (v : Value) : Rep w0 X R S (w.setCell ⟨b, o, none⟩ v) := by
  have hk : ∀ k, k ≠ b → (w.setCell ⟨b, o, none⟩ v).heap[k]? = w.heap[k]? := fun k hk => Below.heap_setCell _ _ _ _ (by simpa using hk)
  refine ⟨⟨h.kp.os, h.kp.tape, h.kp.output, by simpa [World.setCell] using h.kp.size, fun i hi hx => ?_⟩, fun e he => ?_, h.ne, h.new, h.win, ?_, h.js, h.xl⟩
  · rw [hk i (by omega)]; exact h.kp.block i hi hx
  · rw [hk e.b (hS e he)]; exact h.own e he
  · exact h.js w _ h.j fun k hk' => hk k (by omega)

set_option maxRecDepth 100000 in
set_option maxHeartbeats 4000000 in
theorem prefix_p {p : ByteArray} {w : World} :
    Calls Tryd.prog 66 #[.string p] w fun e w' => ∃ m : Rng, e = .returned (.agg #[.string m.lo.key, .bool m.lo.top, .string m.hi.key, .bool m.hi.top]) ∧ Hid (m = pfx p) ∧ Kp [] w w' := by
  have kc := fun (w : World) => run_bytes_of_string (P := Tryd.prog) w 9 100 5 p Tryd.underlying9 Tryd.underlying100 Tryd.underlying5
  go_enter Tryd.func66, Tryd.ntmps66
  have hR := Rep.refl w
  generalize w = w0 at hR
  cases hv : vk p
  · go_wp2_with (first | (refine wl_ld hR ?_) | (refine wl_st hR ?_; (try clear hF); clear hR; intro w hR; have hF := hR.fx) | (refine wl_mem hR ?_; (try clear hF); clear hR; intro w B2 hR; have hF := hR.fx) | (go_at_call 43; refine (validKey_p).mono ?_; rintro e w ⟨rfl, rfl⟩))
    (exact ret_cell hR Tryd.results66 rfl UpI.at (by exact inferInstance) rfl ⟨zr, rfl, by simp [Hid, pfx, hv], hR.kp_nof⟩)
  · go_upto_region 3 with (first | (refine wl_ld hR ?_) | (refine wl_st hR ?_; (try clear hF); clear hR; intro w hR; have hF := hR.fx) | (refine wl_mem hR ?_; (try clear hF); clear hR; intro w B2 hR; have hF := hR.fx) | (go_at_call 43; refine (validKey_p).mono ?_; rintro e w ⟨rfl, rfl⟩))
    go_upto_region 5 with (first | (refine wl_ld hR ?_) | (refine wl_st hR ?_; (try clear hF); clear hR; intro w hR; have hF := hR.fx) | (refine wl_mem hR ?_; (try clear hF); clear hR; intro w B3 hR; have hF := hR.fx))
    have hW : ∀ n, (bytesRow p n).size = p.size + (n - p.size) := fun n => by simp only [bytesRow, Array.size_append, Array.size_map, Array.size_replicate]; rfl
    have hcap := grownCap_ge w p.size 0 5
    generalize grownCap w p.size 0 5 = c at hcap ⊢
    refine nameWorld (fun W1 => Rep w0 nof [] [⟨B3, 50, [.string p, .bool false, .string ⟨#[]⟩, .bool true]⟩, ⟨B2, 50, [.string ⟨#[]⟩, .bool false, .string ⟨#[]⟩, .bool false]⟩] W1 ∧ ByB W1 w.heap.size p.toList ∧ w0.heap.size ≤ w.heap.size ∧ B3 < w.heap.size ∧ B2 < w.heap.size) ?_ ?_
    · have hk2 : Kp [] w ((w.alloc (Obj.cells (bytesRow p c) 5 ((bytesRow p c).size, (bytesRow p c).size + 1))).drew) := by (repeat (first | exact Kp.refl _ _ | apply Kp.alloc | apply Kp.drew | apply Kp.drewN | (refine Kp.setCell ?_ (Or.inr (by dsimp only; omega)) _) | (refine Kp.trans ?_ (by assumption))))
      refine ⟨hR.kp0 hk2, ⟨by simp, fun i hi => (cell_new _ _ _ _ i).trans (bytesRow_cell hi), fun i hi => (frozen_new _ _ _ _ _ i).trans (decide_eq_false ?_)⟩, hR.kp.size, hR.lt (List.mem_cons_self), hR.lt (List.mem_cons_of_mem _ List.mem_cons_self)⟩
      rw [hW]; rw [len_toList] at hi; omega
    clear hR hF kc hW
    rintro W1 ⟨hR, hB, hs0, hs3, hs2⟩
    generalize w.heap.size = BB at hB hs0 hs3 hs2 ⊢
    have hpl := len_toList p
    have hps : p.size ≤ 64 := by simpa [vk] using hv
    have hF := hR.fx
    have hc0 : (0 : Int) ≤ (c : Int) := by omega
    go_loop [4] (fun v => ∃ n : Nat, v = .slice (some ⟨BB, 0, none⟩) n c ∧ n ≤ p.size ∧ Hid (upl (p.toList.take n) = upl p.toList)) (fun v => match v with | .slice _ n _ => n | _ => 0)
    case atStart => exact ⟨p.size, rfl, Nat.le_refl _, Lib.hid (by rw [List.take_of_length_le (by omega)])⟩
    case round =>
      obtain ⟨n, rfl, hn, hu⟩ := hrel
      cases n with
      | zero =>
        have hu' := hu.out
        go_wp2_with (first | (refine wl_ld hR ?_) | (refine wl_st hR ?_; (try clear hF); clear hR; intro w hR; have hF := hR.fx) | (refine wl_mem hR ?_; (try clear hF); clear hR; intro w B hR; have hF := hR.fx))
        have hup : pfx p = ⟨⟨p, false⟩, ⟨⟨#[]⟩, true⟩⟩ := by rw [pfx, if_pos hv, upb, ← hu']; rfl
        (exact ret_cell hR Tryd.results66 rfl UpI.at (by exact inferInstance) rfl ⟨pfx p, by rw [hup], rfl, hR.kp_nof⟩)
      | succ m =>
        have hml : m < p.toList.length := by omega
        have hx := hB.cell m hml
        have hz := hB.fz m hml
        have hm0 : (0 : Int) ≤ (m : Int) := by omega
        have hm1 : ((m : Int) + 1 ≤ (c : Int)) := by omega
        by_cases h255 : p.toList[m] = 255
        · rw [h255] at hx
          go_wp2_with (first | (refine wl_ld hR ?_) | (refine wl_st hR ?_; (try clear hF); clear hR; intro w hR; have hF := hR.fx) | (refine wl_mem hR ?_; (try clear hF); clear hR; intro w B hR; have hF := hR.fx))
          have e := List.take_append_getElem hml
          go_round
          case rel => exact ⟨m, rfl, by omega, Lib.hid (by rw [← hu.out, ← e, h255, upl_255])⟩
          case measure => simp
        · have hlast := upl_last (p.toList.take m) h255
          have e := List.take_append_getElem hml
          rw [e, hu.out] at hlast
          have hx2 : p.toList[m].toNat < 255 := by
            have := p.toList[m].toNat_lt
            have : p.toList[m].toNat ≠ 255 := fun e => h255 (UInt8.toNat_inj.1 (by simpa using e))
            omega
          have hbe : ((p.toList[m].toNat : Int) == 255) = false := beq_eq_false_iff_ne.2 (by omega)
          have hx3 : ((p.toList[m].toNat : Int) ≤ 254) := by omega
          have hx4 : (0 : Int) ≤ (p.toList[m].toNat : Int) := by omega
          have Hl := Lib.hid hlast
          clear hlast e hu
          generalize hxm : p.toList[m] = x at hx hx2 hbe hx3 hx4 Hl h255
          have Hxm := Lib.hid hxm
          clear hxm h255 hx2
          go_upto_region 10 with (first | (refine wl_ld hR ?_) | (refine wl_st hR ?_; (try clear hF); clear hR; intro w hR; have hF := hR.fx) | (refine wl_mem hR ?_; (try clear hF); clear hR; intro w B hR; have hF := hR.fx))
          have hlen : (p.toList.take m ++ [x + 1]).length = m + 1 := by simp; omega
          have hxn : (x + 1).toNat = x.toNat + 1 := by rw [UInt8.toNat_add]; have : (1 : UInt8).toNat = 1 := rfl; omega
          refine nameWorld (fun W2 => Rep w0 nof [] [⟨B3, 50, [.string p, .bool false, .string ⟨#[]⟩, .bool true]⟩, ⟨B2, 50, [.string ⟨#[]⟩, .bool false, .string ⟨#[]⟩, .bool false]⟩] W2 ∧ (∀ j (h : j < (p.toList.take m ++ [x + 1]).length), W2.cell? ⟨BB, j, none⟩ = some (.int .u8 ((p.toList.take m ++ [x + 1])[j].toNat : Int)))) ⟨hR.aside hs0 (by simp only [List.mem_cons, List.not_mem_nil, or_false, forall_eq_or_imp, forall_eq]; omega) _, ?_⟩ ?_
          · intro j h
            rw [hlen] at h
            by_cases hjm : j = m
            · subst hjm
              rw [World.cell?_setCell_same (h := hx)]
              rw [List.getElem_append_right (by simp; omega)]
              simp only [List.getElem_singleton, hxn]
              push_cast
              rfl
            · rw [World.cell?_setCell_other (w := W1) (a := ⟨BB, m, none⟩) (b := ⟨BB, j, none⟩) (h := by simp <;> omega), hB.cell j (by omega), List.getElem_append_left (by simp; omega), List.getElem_take]
          clear hR hF hB hx hz
          rintro W2 ⟨hR, hB⟩
          have kb := run_convert_bytes_back (P := Tryd.prog) W2 100 9 5 ⟨BB, 0, none⟩ c (p.toList.take m ++ [x + 1]) Tryd.underlying100 Tryd.underlying5 Tryd.underlying9 (fun j hj => by rw [addr_add, Nat.zero_add]; exact hB j hj)
          rw [hlen] at kb
          have hup : pfx p = ⟨⟨p, false⟩, ⟨⟨(p.toList.take m ++ [x + 1]).toArray⟩, false⟩⟩ := by rw [pfx, if_pos hv, upb, Hl.out]
          generalize p.toList.take m ++ [x + 1] = q at kb hup
          have Hup := Lib.hid hup
          clear hup hB Hl Hxm hbe hx3 hx4 hxn hlen
          have hF := hR.fx
          go_wp2_with (first | (refine wl_ld hR ?_) | (refine wl_st hR ?_; (try clear hF); clear hR; intro w hR; have hF := hR.fx) | (refine wl_mem hR ?_; (try clear hF); clear hR; intro w B hR; have hF := hR.fx))
          (exact ret_cell hR Tryd.results66 rfl UpI.at (by exact inferInstance) rfl ⟨pfx p, by rw [Hup.out], rfl, hR.kp_nof⟩)
end Go.Proofs.YtjnnkpkbgdknmaaDoor
namespace Go.Proofs.YtjnnkpkbgdknmaaDoor
set_option linter.unusedSimpArgs false
set_option linter.unusedVariables false
open Go.RowKit
attribute [local irreducible] contains emp vld vb vk adj isect hull proper greater lesser greatest least cmp Bnd.lt Op.bytesLess Calls Oper.wp wpList Code.wp Oper.upon
theorem dc_conv {P : Program} {L : List Oper} {w0 : World} {X : Fr} {R : List Win} {im : List Nat} {Qf : Act → List OB → Prop} {i : Nat} {r : List Nat} {a a' : Act} {S : List OB} {op : Oper} {s d : TypeId} {x : Operand} {v u : Value}
    (ho : nth L i = some op) (hi : im.contains i = false) (hw : Region.wanted op (yielded L.toArray a.tmps) = true) (hop : op.op = .convert s d x) (hx : a.eval x = v) (hr : ∀ w, Rep w0 X R S w → (convert s d v).run P w = .ok u w) (ha : a.put op.dst u = a')
    (h : DC P L.toArray w0 X R im Qf r a' S) : DC P L.toArray w0 X R im Qf (i :: r) a S := by
  refine dc_read ho hi hw (fun w hR => ?_) ha h
  unfold execOp
  rw [hop]
  simp [hx, hr w hR]
theorem dc_cat {P : Program} {L : List Oper} {w0 : World} {X : Fr} {R : List Win} {im : List Nat} {Qf : Act → List OB → Prop} {i : Nat} {r : List Nat} {a a' : Act} {S : List OB} {op : Oper} {s d : TypeId} {x y : Operand} {s1 s2 : ByteArray}
    (ho : nth L i = some op) (hi : im.contains i = false) (hw : Region.wanted op (yielded L.toArray a.tmps) = true) (hop : op.op = .binOp .add s x y d) (hx : a.eval x = .string s1) (hy : a.eval y = .string s2) (hs : s1.size + s2.size ≤ 9223372036854775807) (ha : a.put op.dst (.string (s1 ++ s2)) = a')
    (h : DC P L.toArray w0 X R im Qf r a' S) : DC P L.toArray w0 X R im Qf (i :: r) a S := by
  refine dc_pure ho hi hw (fun w => ?_) ha h
  unfold execOp
  rw [hop]
  simp [hx, hy, eqGuard, binOp, run_string_add_sum w s1 s2 hs]
theorem conv1 {w : World} {B : Nat} {x : UInt8} {v : Int} (hc : ∀ i, w.cell? ⟨B, i, none⟩ = ([.int .u8 v] : List Value)[i]?) (hv : v = (x.toNat : Int)) : (convert 100 9 (.slice (some ⟨B, 0, none⟩) 1 1)).run Tryd.prog w = .ok (.string ⟨#[x]⟩) w :=
  run_convert_bytes_back (P := Tryd.prog) w 100 9 5 ⟨B, 0, none⟩ 1 [x] Tryd.underlying100 Tryd.underlying5 Tryd.underlying9 fun j hj => by
    obtain rfl : j = 0 := by simp at hj; omega
    rw [addr_add, hc, hv]; rfl
set_option maxRecDepth 100000 in
set_option maxHeartbeats 4000000 in
theorem prefix_r {p : ByteArray} {w : World} :
    Calls Tryd.prog 60 #[.string p] w fun e w' => ∃ m : Rng, e = .returned (.agg #[.string m.lo.key, .bool m.lo.top, .string m.hi.key, .bool m.hi.top]) ∧ Hid (m = pfx p) ∧ Kp [] w w' := by
  go_enter Tryd.func60, Tryd.ntmps60
  have hR := Rep.refl w
  generalize w = w0 at hR
  cases hv : vk p
  · go_wp2_with (first | (refine wl_ld hR ?_) | (refine wl_st hR ?_; (try clear hF); clear hR; intro w hR; have hF := hR.fx) | (refine wl_mem hR ?_; (try clear hF); clear hR; intro w B2 hR; have hF := hR.fx) | (go_at_call 46; refine (validKey_r).mono ?_; rintro e w ⟨rfl, rfl⟩))
    (exact ret_cell hR Tryd.results60 rfl UpI.at (by exact inferInstance) rfl ⟨zr, rfl, by simp [Hid, pfx, hv], hR.kp_nof⟩)
  · go_wp2_with (first | (refine wl_ld hR ?_) | (refine wl_st hR ?_; (try clear hF); clear hR; intro w hR; have hF := hR.fx) | (refine wl_mem hR ?_; (try clear hF); clear hR; intro w B2 hR; have hF := hR.fx) | (go_at_call 46; refine (validKey_r).mono ?_; rintro e w ⟨rfl, rfl⟩))
    have hpl := len_toList p
    have hps : p.size ≤ 64 := by simpa [vk] using hv
    go_loopw [3] (fun v wr => ∃ n : Nat, v = .int .i64 n ∧ n ≤ p.size ∧ Hid (upl (p.toList.take n) = upl p.toList) ∧ Rep w0 nof [] [⟨B2, 50, [.string ⟨#[]⟩, .bool false, .string ⟨#[]⟩, .bool false]⟩] wr) (fun v _ => (intOf v).toNat)
    case atStart => exact ⟨p.size, rfl, Nat.le_refl _, Lib.hid (by rw [List.take_of_length_le (by omega)]), hR⟩
    case round =>
      obtain ⟨n, rfl, hn, hu, hR⟩ := hrel
      have hF := hR.fx
      cases n with
      | zero =>
        have hu' := hu.out
        go_wp2_with (first | (refine wl_ld hR ?_) | (refine wl_st hR ?_; (try clear hF); clear hR; intro w hR; have hF := hR.fx) | (refine wl_mem hR ?_; (try clear hF); clear hR; intro w B hR; have hF := hR.fx))
        have hup : pfx p = ⟨⟨p, false⟩, ⟨⟨#[]⟩, true⟩⟩ := by rw [pfx, if_pos hv, upb, ← hu']; rfl
        (exact ret_cell hR Tryd.results60 rfl UpI.at (by exact inferInstance) rfl ⟨pfx p, by rw [hup], rfl, hR.kp_nof⟩)
      | succ m =>
        have hml : m < p.toList.length := by omega
        have hm0 : (0 : Int) ≤ (m : Int) := by omega
        have hm1 : ((m : Int) < (p.size : Int)) := by omega
        have hm2 : m < p.size := by omega
        have hm3 : ((m : Int) ≤ (p.size : Int)) := by omega
        have hmp : (0 : Int) < (m : Int) + 1 := by omega
        have hwr : IntKind.i64.wrap (m : Int) = m := IntWalk.i64_in _ (by omega)
        have hpm : p[m] = p.toList[m] := by simp [ByteArray.toList_eq]; rfl
        have e := List.take_append_getElem hml
        by_cases h255 : p.toList[m] = 255
        · have hb : ((p[m].toNat : Int) == 255) = true := by rw [hpm, h255]; rfl
          clear hpm
          go_wp2_with (first | (refine wl_ld hR ?_) | (refine wl_st hR ?_; (try clear hF); clear hR; intro w hR; have hF := hR.fx) | (refine wl_mem hR ?_; (try clear hF); clear hR; intro w B hR; have hF := hR.fx))
          go_roundw
          case rel => exact ⟨m, rfl, by omega, Lib.hid (by rw [← hu.out, ← e, h255, upl_255]), hR⟩
          case measure => simp [intOf]
        · have hlast := upl_last (p.toList.take m) h255
          rw [e, hu.out] at hlast
          have hx2 : p[m].toNat < 255 := by
            rw [hpm]
            have := p.toList[m].toNat_lt
            have : p.toList[m].toNat ≠ 255 := fun e => h255 (UInt8.toNat_inj.1 (by simpa using e))
            omega
          have hb : ((p[m].toNat : Int) == 255) = false := beq_eq_false_iff_ne.2 (by omega)
          have hx1 : (p[m] + 1).toNat = p[m].toNat + 1 := by rw [UInt8.toNat_add]; have : (1 : UInt8).toNat = 1 := rfl; omega
          have H8 : Hid (((p[m].toNat : Int) + 1) % 256 = ((p[m] + 1).toNat : Int)) := Lib.hid (by rw [hx1]; omega)
          have hup : pfx p = ⟨⟨p, false⟩, ⟨⟨(p.toList.take m ++ [p[m] + 1]).toArray⟩, false⟩⟩ := by rw [pfx, if_pos hv, upb, hlast, hpm]
          have Hup := Lib.hid hup
          clear hup hlast e hu hx1 hpm
          have Hex : Hid ((p.extract 0 m).size + (⟨#[p[m] + 1]⟩ : ByteArray).size ≤ 9223372036854775807) := Lib.hid (by rw [ByteArray.size_extract]; show _ + 1 ≤ _; omega)
          go_upto_region 8 with (first | (refine wl_ld hR ?_) | (refine wl_st hR ?_; (try clear hF); clear hR; intro w hR; have hF := hR.fx) | (refine wl_mem hR ?_; (try clear hF); clear hR; intro w B hR; have hF := hR.fx))
          refine wp_region_C 16 (0 :: 1 :: 2 :: 3 :: 4 :: 5 :: 6 :: 7 :: 8 :: 9 :: 10 :: 11 :: 12 :: 13 :: 14 :: 15 :: []) [11] hR mixed (by kernel_rfl) ?_; (try clear hF); clear hR; (repeat (first | (refine dc_conv (v := .slice (some ⟨B, 0, none⟩) 1 1) rfl rfl rfl rfl rfl (fun w hR => conv1 (B := B) (x := p[m] + 1) (hR.cells List.mem_cons_self) H8.out) (by simp only [Act.put, List.setIfInBounds_toArray, List.set_cons_zero, List.set_cons_succ]; exact rfl) ?_) | (refine dc_cat rfl rfl rfl rfl rfl rfl Hex.out (by simp only [Act.put, List.setIfInBounds_toArray, List.set_cons_zero, List.set_cons_succ]; exact rfl) ?_) | (refine dk ?_; intro B))); refine dc_nil ?_; intro w hR; have hF := hR.fx; try simp only [List.drop_succ_cons, List.drop_zero]
          go_wp2_with (first | (refine wl_ld hR ?_) | (refine wl_st hR ?_; (try clear hF); clear hR; intro w hR; have hF := hR.fx) | (refine wl_mem hR ?_; (try clear hF); clear hR; intro w B hR; have hF := hR.fx))
          have hk : p.extract 0 m ++ (⟨#[p[m] + 1]⟩ : ByteArray) = ⟨(p.toList.take m ++ [p[m] + 1]).toArray⟩ := by
            apply ba_eq
            simp only [ByteArray.toList_eq, ByteArray.data_append, ByteArray.data_extract, Array.toList_append, Array.toList_extract, Nat.sub_zero, List.extract_eq_take_drop, List.drop_zero]
          (exact ret_cell hR Tryd.results60 rfl UpI.at (by exact inferInstance) rfl ⟨pfx p, by rw [Hup.out, ← hk], rfl, hR.kp_nof⟩)
end Go.Proofs.YtjnnkpkbgdknmaaDoor
namespace Go.Proofs.YtjnnkpkbgdknmaaDoor
set_option linter.unusedSimpArgs false
set_option linter.unusedVariables false
open Go.RowKit
theorem Step.ofKp {B : Nat → Prop} {H0 : Hp} {ρ : Lc} {w w' : World} (h : Kp [] w w') : Step B H0 [] ρ ρ w w' :=
  ⟨h.os, h.tape, h.output, h.size, fun _ _ h => h, fun k l h => .inl h, fun b hb _ => h.block b hb (by simp), fun k hk => by simp [look] at hk, fun k blk hk => by simp [look] at hk, fun k k' blk blk' l l' b hk => by simp [look] at hk⟩
theorem rds_ds {w : World} {ok : Nat → Prop} : ∀ {ds : List D} {vs us : List Value}, ds = vs.map D.c → RDs w ok ds us → us = vs
  | [], [], _, _, .nil => rfl
  | [], _ :: _, _, h, _ => by simp at h
  | d :: ds, [], _, h, _ => by simp at h
  | d :: ds, v :: vs, _, h, .cons h1 h2 => by
    simp only [List.map_cons, List.cons.injEq] at h
    obtain ⟨rfl, h⟩ := h
    cases h1
    rw [rds_ds h h2]
theorem ds_rvals (l : List Rng) : l.flatMap Rng.ds = (rvals l).map D.c := by
  induction l with
  | nil => rfl
  | cons r t ih => simp only [List.flatMap_cons, ih, rvals, List.map_append]; rfl
theorem rds_of {w : World} {ok : Nat → Prop} : ∀ {vs : List Value}, vs.all Value.oneCell' = true → RDs w ok (vs.map D.c) vs
  | [], _ => .nil
  | v :: vs, h => by
    simp only [List.all_cons, Bool.and_eq_true] at h
    exact .cons (.c h.1) (rds_of h.2)
theorem rvalsE_one (l : List Rng) : (rvals l).all Value.oneCell' = true := by
  rw [List.all_eq_true]
  intro v hv
  simp only [rvals, List.mem_flatMap] at hv
  obtain ⟨r, -, hr⟩ := hv
  exact List.all_eq_true.1 (show r.vals.all Value.oneCell' = true from rfl) v hr
theorem rd_l {w : World} {ok : Nat → Prop} {n : Nat} {xs : List D} {v : Value} (h : RD w ok (.l n xs) v) : (n = 0 ∧ xs = [] ∧ ∃ p c, v = .slice p 0 c) ∨ ∃ c b o vs, v = .slice (some ⟨b, o, none⟩) n c ∧ n ≤ c ∧ n ≤ maxLen ∧ ok b ∧ RDs w ok xs vs ∧ ∀ j v, vs[j]? = some v → w.cell? ⟨b, o + j, none⟩ = some v := by
  cases h with
  | nil p c => exact .inl ⟨rfl, rfl, p, c, rfl⟩
  | l g1 g0 g2 g3 g4 => exact .inr ⟨_, _, _, _, rfl, g1, g0, g2, g3, g4⟩
theorem union_ct {f : FuncId} {fn : Func} (hf : Tryd.prog.funcs[f]? = some fn) (hn : (fn.name == "runtime.NumGoroutine") = false) (hb : fn.body.isNone = false) (l : List Rng) (hl : l.length ≤ 1000000)
    (hc : ∀ {p : Option Addr} {n c : Nat} {w : World}, Rd w 4 (.slice p n c) n (rvals l) → n ≤ 1000000 → Calls Tryd.prog f #[.slice p n c] w fun e w' => ∃ r sl, e = .returned r ∧ OS sl 50 4 r (union l).length (rvals (union l)) ∧ Rep w nof [] sl w') :
    Spec Tryd.prog f [.d (lst Rng.ds l)] [] fun u h => u = .d (lst Rng.ds (union l)) ∧ h = [] := by
  refine ⟨⟨fn, hf, hn, hb⟩, fun B w ρ vs hB hvs hr hlive => ?_⟩
  cases hvs with
  | cons h1 h2 =>
  cases h2
  cases h1 with
  | d h1 =>
  have hrl : (rvals l).length = l.length * 4 := by rw [rvals_length]; omega
  have hRd : ∃ p c, (‹Value› : Value) = .slice p l.length c ∧ Rd w 4 (.slice p l.length c) l.length (rvals l) := by
    rcases rd_l h1 with ⟨e1, e2, p, c, rfl⟩ | ⟨c, b, o, vs, rfl, g1, _, g2, g3, g4⟩
    · exact ⟨p, c, by rw [e1], hrl, p, c, by rw [e1], by omega, .inl e1⟩
    · have e3 := rds_ds (ds_rvals l) g3
      subst e3
      exact ⟨_, _, rfl, hrl, _, _, rfl, g1, .inr ⟨_, _, rfl, g2.1, g4⟩⟩
  obtain ⟨p, c, rfl, hRd⟩ := hRd
  refine (hc hRd hl).mono ?_
  rintro e w' ⟨r, sl, rfl, hO, hR⟩
  refine ⟨r, _, [], ρ, rfl, ⟨rfl, rfl⟩, Step.ofKp hR.kp_nof, ?_, fun k hk => by simp [look] at hk⟩
  obtain ⟨ho1, ho2⟩ := hO
  rcases ho2 with ⟨rfl, rfl, h0⟩ | ⟨g, cap, sp, rfl, rfl, h3, h4, h5⟩
  · have : union l = [] := List.eq_nil_of_length_eq_zero h0
    rw [this]; exact .d (.nil _ _)
  · have hown := hR.own _ List.mem_cons_self
    have hnew := hR.new _ List.mem_cons_self
    simp only at hown hnew
    have hlt := (Array.getElem?_eq_some_iff.1 hown).1
    refine .d ?_
    rw [lst, ds_rvals]
    refine .l h3 (Nat.le_trans h3 h4) ⟨hlt, hB _ hnew, fun k l' hk e => ?_⟩ (rds_of (rvalsE_one _)) fun j v hv => ?_
    · have := hr.lt k l' g hk e; omega
    · rw [World.cell?, hown]; simp [List.getElem?_append_left (List.getElem?_eq_some_iff.1 hv).1, hv]
instance union_cp (l : List Rng) : Ct Tryd.prog 58 [.d (lst Rng.ds l)] (l.length ≤ 1000000) (.d (lst Rng.ds (union l))) := ⟨fun h => union_ct Tryd.func58 rfl rfl l h fun h1 h2 => union_p h1 h2⟩
instance union_cr (l : List Rng) : Ct Tryd.prog 61 [.d (lst Rng.ds l)] (l.length ≤ 1000000) (.d (lst Rng.ds (union l))) := ⟨fun h => union_ct Tryd.func61 rfl rfl l h fun h1 h2 => union_r h1 h2⟩
theorem prefix_ct {f : FuncId} {fn : Func} (hf : Tryd.prog.funcs[f]? = some fn) (hn : (fn.name == "runtime.NumGoroutine") = false) (hb : fn.body.isNone = false) (p : ByteArray)
    (hc : ∀ {w : World}, Calls Tryd.prog f #[.string p] w fun e w' => ∃ m : Rng, e = .returned (.agg #[.string m.lo.key, .bool m.lo.top, .string m.hi.key, .bool m.hi.top]) ∧ Hid (m = pfx p) ∧ Kp [] w w') :
    Spec Tryd.prog f [vS p] [] fun u h => u = .a [vS (pfx p).lo.key, vB (pfx p).lo.top, vS (pfx p).hi.key, vB (pfx p).hi.top] ∧ h = [] := by
  refine ⟨⟨fn, hf, hn, hb⟩, fun B w ρ vs hB hvs hr hlive => ?_⟩
  cases hvs with
  | cons h1 h2 =>
  cases h2
  cases rv_c h1
  refine hc.mono ?_
  rintro e w' ⟨m, rfl, hm, hk⟩
  have hm := hm.out
  subst hm
  exact ⟨_, _, [], ρ, rfl, ⟨rfl, rfl⟩, Step.ofKp hk, .a (.cons (.d (.c rfl)) (.cons (.d (.c rfl)) (.cons (.d (.c rfl)) (.cons (.d (.c rfl)) .nil)))), fun k hk => by simp [look] at hk⟩
instance prefix_cp (p : ByteArray) : Ct Tryd.prog 66 [vS p] True (.a [vS (pfx p).lo.key, vB (pfx p).lo.top, vS (pfx p).hi.key, vB (pfx p).hi.top]) := ⟨fun _ => prefix_ct Tryd.func66 rfl rfl p prefix_p⟩
instance prefix_cr (p : ByteArray) : Ct Tryd.prog 60 [vS p] True (.a [vS (pfx p).lo.key, vB (pfx p).lo.top, vS (pfx p).hi.key, vB (pfx p).hi.top]) := ⟨fun _ => prefix_ct Tryd.func60 rfl rfl p prefix_r⟩
end Go.Proofs.YtjnnkpkbgdknmaaDoor
namespace Go.Proofs.YtjnnkpkbgdknmaaDoor
set_option linter.unusedSimpArgs false
set_option linter.unusedVariables false
open Go.ChangeShapes Go.WideShapes Go.ChangeAt Go.RowKit Go.Joins

theorem own : ownKnob Tryd.prog.godebug = none := by kernel_rfl
theorem laidOut : laidOutB Tryd.prog = true := by kernel_rfl
theorem gLetters : Tryd.prog.globalNamed "skipgraph/skipgraphworld.letters" = some 0 := by kernel_rfl
theorem gLettersType : (Tryd.prog.globals[(0 : Nat)]?).map (·.type) = some 83 := by kernel_rfl
theorem cellsL : Tryd.prog.cellsOf 83 = 6 := by kernel_rfl
theorem cellsS : Tryd.prog.cellsOf 9 = 1 := by kernel_rfl

theorem letters_ok {W : World} (h : laidMetH Tryd.prog [("skipgraph/skipgraphworld.letters", Rows.laid_skipgraph_skipgraphworld_letters)] W) :
    ∀ e ∈ GL, e.1 < W.heap.size ∧ ∀ (j : Nat) (v : Value), e.2[j]? = some v → W.cell? ⟨e.1, j, none⟩ = some v := by
  obtain ⟨ps, ⟨g', t', cs, fuel, p, q, hg', ht', hvar, hd, _, _⟩, _⟩ := (h : laidMet Tryd.prog [("skipgraph/skipgraphworld.letters", Rows.laid_skipgraph_skipgraphworld_letters)] W)
  obtain rfl := Option.some.inj (gLetters.symm.trans hg')
  obtain rfl := Option.some.inj (gLettersType.symm.trans ht')
  obtain ⟨xs, m, rfl, hx, hlen, hxl, hel⟩ := DataW.trod_array Tryd.underlying83 hd
  simp only [cellsS, cellsL, Nat.mul_one] at hlen hel
  have hxs : xs.map (·.1) = [.lit (.string [97]), .lit (.string [98]), .lit (.string [99]), .lit (.string [0]), .lit (.string [255]), .lit (.string [109])] := by
    have := congrArg Prod.fst hx
    simpa [Rows.laid_skipgraph_skipgraphworld_letters] using this.symm
  have key : ∀ i, i < 6 → ∃ s : ByteArray, cs[i]? = some (.string s) ∧ ([.lit (.string [97]), .lit (.string [98]), .lit (.string [99]), .lit (.string [0]), .lit (.string [255]), .lit (.string [109])] : List (DataW Unit))[i]? = some (.lit (.string s.data.toList)) := by
    intro i hi
    have h1 := hel i hi
    obtain ⟨y, hy⟩ : ∃ y, xs[i]? = some y := ⟨xs[i], List.getElem?_eq_getElem (by omega)⟩
    rw [hy] at h1
    obtain ⟨s, e1, rfl, _⟩ := DataW.trod_string Tryd.underlying9 h1
    have h2 : (xs.map (·.1))[i]? = some (.lit (.string s.data.toList)) := by simp [hy]
    rw [hxs] at h2
    refine ⟨s, ?_, h2⟩
    have := congrArg (·[0]?) e1
    simpa [List.getElem?_take, List.getElem?_drop] using this
  intro e he
  obtain rfl : e = _ := List.mem_singleton.1 he
  have cell : ∀ i, i < 6 → W.cell? ⟨0, i, none⟩ = cs[i]? := fun i hi => by
    obtain ⟨s, h1, _⟩ := key i hi
    exact World.var?_cell gLetters hvar i
  have bs : ∀ (s : ByteArray) (l : List UInt8), s.data.toList = l → s = ⟨l.toArray⟩ := fun s l h => by
    cases s with | mk a => simp only at h; subst h; simp
  have all : ∀ j v, ([.string ⟨#[97]⟩, .string ⟨#[98]⟩, .string ⟨#[99]⟩, .string ⟨#[0]⟩, .string ⟨#[255]⟩, .string ⟨#[109]⟩] : List Value)[j]? = some v → W.cell? ⟨0, j, none⟩ = some v := fun j v hv => by
    have hj : j < 6 := (List.getElem?_eq_some_iff.1 hv).1
    obtain ⟨s, h1, h2⟩ := key j hj
    rw [cell j hj, h1]
    have : j = 0 ∨ j = 1 ∨ j = 2 ∨ j = 3 ∨ j = 4 ∨ j = 5 := by omega
    rcases this with rfl | rfl | rfl | rfl | rfl | rfl <;> (simp at h2 hv; rw [← hv, bs s _ h2.symm])
  exact ⟨World.block_lt_of_cell? W ⟨0, 0, none⟩ (all 0 _ rfl), all⟩

set_option maxRecDepth 100000 in
theorem ints_of {H : Type} {enc : TypeId × Value → H} {W : World} {v : Value} {d : DataW H} {ps : List MemPlace} {base : Nat}
    (hv : Value.okWide Tryd.prog W .any base 22 v) (h : DataW.Trod enc Tryd.prog W 0 (fun _ => true) true 22 v d ps) : ∃ L : List Int, L.length ≤ 9223372036854775807 ∧ (∀ z ∈ L, -9223372036854775808 ≤ z ∧ z ≤ 9223372036854775807) ∧ RD W (fun b => b < W.heap.size) (i64s L) v := by
  obtain ⟨a0, len, cap, rfl⟩ := okWide_slice Tryd.underlying22 hv
  obtain ⟨fuel, hf⟩ := h
  rcases open_ints Tryd.underlying22 Tryd.underlying3 (by kernel_rfl) hf with ⟨hcs, hx⟩ | ⟨a, len', cap', zs, hcs, _, hl, hm, hz, hx, hcell, hwz⟩
  · simp only [Value.cells, List.cons.injEq, Value.slice.injEq, and_true] at hcs
    obtain ⟨rfl, rfl, rfl⟩ := hcs
    refine ⟨[], Nat.zero_le _, ?_, RD.nil _ _⟩
    intro z hz; cases hz
  · simp only [Value.cells, List.cons.injEq, Value.slice.injEq, and_true] at hcs
    obtain ⟨rfl, rfl, rfl⟩ := hcs
    unfold maxLen at hm
    have hzl : zs.length = cap := by simpa using hz
    have hlen : (zs.take len).length = len := by rw [List.length_take]; omega
    refine ⟨zs.take len, by omega, fun z hz' => bounds_i64 (hwz z (List.mem_of_mem_take hz')), ?_⟩
    by_cases h0 : zs.length = 0
    · have : zs = [] := List.eq_nil_of_length_eq_zero h0
      subst this
      obtain rfl : len = 0 := by simp at hzl; omega
      simp only [List.take_nil]
      exact .nil _ _
    obtain ⟨b, off, rfl, hc⟩ := ints_at hcell (by omega)
    have hrd : ∀ l : List Int, RDs W (fun b => b < W.heap.size) (l.flatMap dsI) (l.map (.int .i64)) := fun l => by
      induction l with
      | nil => exact .nil
      | cons z l ih => exact .cons (.c rfl) ih
    have key := RD.l (w := W) (ok := fun b => b < W.heap.size) (n := len) (c := cap) (o := off) hl (by unfold maxLen; omega) (World.block_lt_of_cell? W ⟨b, off + 0, none⟩ (hc 0 (by omega))) (hrd (zs.take len)) fun j v hj => by
      have hj' : j < (zs.take len).length := by simpa using (List.getElem?_eq_some_iff.1 hj).1
      have hj2 : j < zs.length := by omega
      rw [hc j hj2]
      rw [List.getElem?_map, List.getElem?_take, if_pos (by omega), List.getElem?_eq_getElem hj2] at hj
      rw [List.getD_eq_getElem?_getD, List.getElem?_eq_getElem hj2]
      simpa using hj
    rw [show i64s (zs.take len) = .l len ((zs.take len).flatMap dsI) by unfold i64s lst; rw [hlen]]
    exact key

theorem trodAll_later {H : Type} {enc : TypeId × Value → H} {P : Program} (hl : laidOutB P = true) {W W' : World} (hb : Below W.heap.size W W') (ts : List TypeId) :
    ∀ (vs : List Value) (ds : List (DataW H)) (ps : List MemPlace), (ts.all fun t => P.readableRec t && decide (t < P.types.size)) = true →
      DataW.TrodAll enc P W 0 (fun _ => true) true ts vs ds ps → (∀ x ∈ ps, x.block < W.heap.size) → DataW.TrodAll enc P W' 0 (fun b => decide (b < W.heap.size)) true ts vs ds ps := by
  induction ts with
  | nil =>
    intro vs ds ps _ h _
    cases vs <;> cases ds <;> first | exact h | exact h.elim
  | cons t ts ih =>
    intro vs ds ps hr h hlt
    cases vs with
    | nil => exact h.elim
    | cons v vs =>
      cases ds with
      | nil => exact h.elim
      | cons d ds =>
        simp only [List.all_cons, Bool.and_eq_true, decide_eq_true_eq] at hr
        obtain ⟨p, q, h1, h2, rfl⟩ := h
        exact ⟨p, q, Below.trod hl hr.1.1 hr.1.2 h1 hb (fun x hx => hlt x (List.mem_append_left _ hx)), ih vs ds q (by simpa using hr.2) h2 (fun x hx => hlt x (List.mem_append_right _ hx)), rfl⟩

theorem law_post {H : Type} {enc : TypeId × Value → H} {f : Func} {s : ChangeSpec} {W W' : World} {args : Array Value} {ds gs : List (DataW H)} {before : List MemPlace}
    (hvars : s.vars = []) (hres : f.resultTypes = #[4]) (hr : (f.params.toList.all fun t => Tryd.prog.readableRec t && decide (t < Tryd.prog.types.size)) = true)
    (hfn : s.fn H (ds ++ gs) = { results := [.lit (.bool true)], args := ds }) (hW : DataW.Whole enc Tryd.prog f.params.toList s.vars false W args.toList ds gs before) (hk : Kp [] W W') :
    s.post enc Tryd.prog f false true false false W args (.bool true) W' := by
  have hb := hk.below
  have hlt : ∀ x ∈ before, x.block < W.heap.size := fun x hx => hW.lt x hx
  have hW' := hW
  obtain ⟨p, q, hA, hV, rfl, -, -⟩ := hW
  refine ⟨ds, gs, p ++ q, [], p, [], hW', ?_, ?_, ?_, Below.frame hb _, fun h => by cases h⟩
  · rw [hfn, hres]
    exact trodAll_mk1 (shut_bool Tryd.underlying4 true)
  · rw [hfn]
    exact trodAll_later laidOut hb _ _ _ _ hr hA (fun x hx => hlt x (List.mem_append_left _ hx))
  · rw [hfn, hvars]
    rfl

noncomputable def laidWorld (os : Os) : World :=
  { World.holding Tryd.prog os ⟨#[], #[], []⟩ with heap := (World.holding Tryd.prog os ⟨#[], #[], []⟩).heap.modify 0 fun
      | .cells _ t frozen => .cells #[.string ⟨#[97]⟩, .string ⟨#[98]⟩, .string ⟨#[99]⟩, .string ⟨#[0]⟩, .string ⟨#[255]⟩, .string ⟨#[109]⟩] t frozen
      | o => o }
end Go.Proofs.YtjnnkpkbgdknmaaDoor
namespace Go.Proofs.YtjnnkpkbgdknmaaDoor
set_option linter.unusedSimpArgs false
set_option linter.unusedVariables false
open Go.ChangeShapes Go.WideShapes Go.ChangeAt Go.RowKit Go.Joins
set_option maxRecDepth 100000
section
variable {H : Type} {enc : TypeId × Value → H} {W : World} {base : Nat} {fuel : Nat} {cs : List Value} {x : DataW H × List MemPlace}
theorem trod_bound (h : DataW.trod enc Tryd.prog W 0 (fun _ => true) true fuel 48 cs = some x) : ∃ b : Bnd, cs = [.string b.key, .bool b.top] ∧ b.key.size ≤ maxLen := by
  obtain ⟨y0, y1, n, -, hl, h0, h1⟩ := trod_struct2 Tryd.underlying48 h
  obtain ⟨a, e0, -, ha⟩ := DataW.trod_string Tryd.underlying9 h0
  obtain ⟨s, e1, -⟩ := DataW.trod_bool Tryd.underlying4 h1
  have hc : Tryd.prog.cellsOf 48 = 2 := by kernel_rfl
  have hs : Tryd.prog.cellsOf 9 = 1 := by kernel_rfl
  have hb : Tryd.prog.cellsOf 4 = 1 := by kernel_rfl
  rw [hc] at hl
  match cs, hl with
  | [c0, c1], _ =>
    simp only [hs, hb, List.drop_zero, List.drop_succ_cons, List.take_succ_cons, List.take_zero, List.cons.injEq, and_true] at e0 e1
    subst e0 e1
    exact ⟨⟨a, s⟩, rfl, ha⟩
theorem trod_range (h : DataW.trod enc Tryd.prog W 0 (fun _ => true) true fuel 50 cs = some x) : ∃ r : Rng, cs = r.vals ∧ r.lo.key.size ≤ maxLen ∧ r.hi.key.size ≤ maxLen := by
  obtain ⟨y0, y1, n, -, hl, h0, h1⟩ := trod_struct2 Tryd.underlying50 h
  obtain ⟨a, e0, ha⟩ := trod_bound h0
  obtain ⟨b, e1, hb⟩ := trod_bound h1
  have hc : Tryd.prog.cellsOf 50 = 4 := by kernel_rfl
  have hs : Tryd.prog.cellsOf 48 = 2 := by kernel_rfl
  rw [hc] at hl
  match cs, hl with
  | [c0, c1, c2, c3], _ =>
    simp only [hs, List.drop_zero, List.drop_succ_cons, List.take_succ_cons, List.take_zero, List.cons.injEq, and_true] at e0 e1
    obtain ⟨rfl, rfl⟩ := e0
    obtain ⟨rfl, rfl⟩ := e1
    exact ⟨⟨a, b⟩, rfl, ha, hb⟩
end
theorem rvals_row {w : World} {b o : Nat} {f : Nat → Rng} : ∀ n, (∀ i, i < n → ∀ j u, (f i).vals[j]? = some u → w.cell? ⟨b, o + i * 4 + j, none⟩ = some u) →
    ∀ j u, (rvals ((List.range n).map f))[j]? = some u → w.cell? ⟨b, o + j, none⟩ = some u := by
  intro n h j u hj
  have hlen : j < 4 * n := by have := (List.getElem?_eq_some_iff.1 hj).1; rw [rvals_length] at this; simpa using this
  have hr : ((List.range n).map f)[j / 4]? = some (f (j / 4)) := by
    rw [List.getElem?_map, List.getElem?_range (by omega)]; rfl
  have hv : ∃ u', (f (j / 4)).vals[j % 4]? = some u' := ⟨_, List.getElem?_eq_getElem (by simp [Rng.vals]; omega)⟩
  obtain ⟨u', hu'⟩ := hv
  have g := rvals_get _ _ _ hr _ _ hu'
  have e : j / 4 * 4 + j % 4 = j := by omega
  rw [e, hj] at g
  obtain rfl := Option.some.inj g
  have := h (j / 4) (by omega) _ _ hu'
  rwa [show o + j / 4 * 4 + j % 4 = o + j by omega] at this
theorem rngs_cs {H : Type} {enc : TypeId × Value → H} {W : World} {fuel : Nat} {cs : List Value} {x : DataW H × List MemPlace} (hf : DataW.trod enc Tryd.prog W 0 (fun _ => true) true fuel 23 cs = some x) :
    ∃ p n c l, cs = [.slice p n c] ∧ n ≤ maxLen ∧ Rd W 4 (.slice p n c) n (rvals l) := by
  have hc4 : Tryd.prog.cellsOf 50 = 4 := by kernel_rfl
  rcases Go.Deep.open_slice Tryd.underlying23 hf with ⟨hcs, -⟩ | ⟨a, len', cap', m, k, D, Pl, hcs, -, hl, hml, hm, -, hx⟩
  · exact ⟨_, _, _, [], hcs, Nat.zero_le _, by simp [rvals], _, _, rfl, Nat.le_refl _, .inl rfl⟩
  · subst hcs
    rw [hc4] at hx
    have hm' : m = cap' := by simpa using hm
    subst hm'
    have each : ∀ i, ∃ r : Rng, i < m → ∀ j u, r.vals[j]? = some u → W.cell? (a.add (i * 4 + j)) = some u := by
      intro i
      by_cases hi : i < m
      · obtain ⟨cs, h1, h2⟩ := hx i hi
        obtain ⟨r, rfl, -, -⟩ := trod_range h2
        obtain ⟨-, -, hcell⟩ := World.cells?_some h1
        refine ⟨r, fun _ j u hj => ?_⟩
        have hj4 : j < 4 := by have := (List.getElem?_eq_some_iff.1 hj).1; simpa [Rng.vals] using this
        rw [← Go.Deep.add_add, hcell j hj4, hj]
      · exact ⟨⟨⟨⟨#[]⟩, false⟩, ⟨⟨#[]⟩, false⟩⟩, fun h => absurd h hi⟩
    let f : Nat → Rng := fun i => Classical.choose (each i)
    have hfe : ∀ i, i < m → ∀ j u, (f i).vals[j]? = some u → W.cell? (a.add (i * 4 + j)) = some u := fun i => Classical.choose_spec (each i)
    refine ⟨_, len', m, (List.range len').map f, rfl, by omega, by rw [rvals_length]; simp [Nat.mul_comm], _, _, rfl, hl, ?_⟩
    by_cases h0 : len' = 0
    · exact .inl h0
    right
    obtain ⟨b, off, spot⟩ := a
    have hc0 := hfe 0 (by omega) 0 _ rfl
    have hspot : spot = none := by simpa [Addr.add] using World.cell?_spot hc0
    subst hspot
    refine ⟨b, off, rfl, World.block_lt_of_cell? W ⟨b, off + (0 * 4 + 0), none⟩ (by rw [← Go.WideShapes.add_plain]; exact hc0), ?_⟩
    exact rvals_row len' fun i hi j u hj => by rw [Nat.add_assoc, ← Go.WideShapes.add_plain]; exact hfe i (by omega) j u hj
theorem rd_rngs {W : World} {v : Value} {n : Nat} {l : List Rng} (hml : n ≤ maxLen) (h : Rd W 4 v n (rvals l)) : RD W (fun b => b < W.heap.size) (lst Rng.ds l) v := by
  have hn : l.length = n := by have := h.len; rw [rvals_length] at this; omega
  obtain ⟨p, c, rfl, h1, h2⟩ := h.ex
  subst hn
  rcases h2 with h2 | ⟨b, o, rfl, hb, hc⟩
  · have : l = [] := List.eq_nil_of_length_eq_zero h2
    subst this; exact .nil _ _
  · rw [lst, ds_rvals]
    exact .l h1 hml hb (rds_of (rvalsE_one _)) hc
def two63 (n : Int) : Prop := -9223372036854775808 ≤ n ∧ n ≤ 9223372036854775807
theorem qry_of {H : Type} {enc : TypeId × Value → H} {W : World} {v : Value} {d : DataW H} {ps : List MemPlace} {base : Nat}
    (hv : Value.okWide Tryd.prog W .any base 25 v) (h : DataW.Trod enc Tryd.prog W 0 (fun _ => true) true 25 v d ps) : ∃ (k : Int) (l : List Rng) (key : ByteArray) (c : Int), RV W (fun b => b < W.heap.size) (fun _ => none) (vQ k l key c) v ∧ two63 k ∧ two63 c ∧ key.size ≤ maxLen := by
  obtain ⟨c0, c1, c2, c3, y0, y1, y2, y3, n, rfl, -, -, h0, h1, h2, h3⟩ := open_agg4 Tryd.underlying25 (by kernel_rfl) (by kernel_rfl) hv h
  obtain ⟨k, e0, -, b0⟩ := DataW.trod_int Tryd.underlying3 h0
  obtain ⟨p, n, c, l, e1, hml, hR⟩ := rngs_cs h1
  obtain ⟨key, e2, -, hk⟩ := DataW.trod_string Tryd.underlying9 h2
  obtain ⟨cc, e3, -, b3⟩ := DataW.trod_int Tryd.underlying3 h3
  simp only [List.cons.injEq, and_true] at e0 e1 e2 e3
  subst e0 e1 e2 e3
  exact ⟨k, l, key, cc, .a (.cons (.d (.c rfl)) (.cons (.d (rd_rngs hml hR)) (.cons (.d (.c rfl)) (.cons (.d (.c rfl)) .nil)))), bounds_i64 b0, bounds_i64 b3, hk⟩
theorem law_of_spec {f : FuncId} {us : List V} (hs : Spec Tryd.prog f us [] fun u h => u = vB true ∧ h = []) {W : World} (hg : ∀ e ∈ GL, e.1 < W.heap.size ∧ ∀ (j : Nat) (v : Value), e.2[j]? = some v → W.cell? ⟨e.1, j, none⟩ = some v) {vs : List Value} (hvs : RVs W (fun b => b < W.heap.size) (fun _ => none) us vs) :
    Calls Tryd.prog f vs.toArray W fun e W' => e = .returned (.bool true) ∧ Kp [] W W' := by
  have hok : ∀ b, b < W.heap.size → okb (fun _ => True) W (fun _ => none) b := fun b hb => ⟨hb, trivial, fun k l h => (by cases h)⟩
  refine (hs.run (fun _ => True) W (fun _ => none) vs (fun _ _ => trivial) (hvs.mono (fun b hb => ⟨hok b hb, rfl⟩) fun _ _ h => h) ⟨fun k blk h => (by simp [look] at h), fun k k' blk blk' l l' b h => (by simp [look] at h), fun k l b h => (by cases h), fun e he => ⟨hok _ (hg e he).1, (hg e he).2⟩⟩ (fun k l h => (by cases h))).mono ?_
  rintro e W' ⟨r, u, h, ρ', rfl, ⟨rfl, rfl⟩, hst, hrv, -⟩
  rw [rv_c hrv]
  exact ⟨rfl, hst.os, hst.tape, hst.output, hst.size, fun b hb _ => hst.keep b hb fun k l _ hk => by cases hk⟩
end Go.Proofs.YtjnnkpkbgdknmaaDoor
namespace Go.Proofs.YtjnnkpkbgdknmaaDoor
set_option linter.unusedSimpArgs false
set_option linter.unusedVariables false
open Go.ChangeShapes Go.WideShapes Go.ChangeAt Go.RowKit Go.Joins
set_option maxRecDepth 100000
theorem flat2 {α : Type} {f g : α → Value} : ∀ {l : List α} {j : Nat} {u : Value}, (l.flatMap fun r => [f r, g r])[j]? = some u → ∃ i r, l[i]? = some r ∧ ((j = i * 2 + 0 ∧ u = f r) ∨ (j = i * 2 + 1 ∧ u = g r))
  | [], j, u, h => by simp at h
  | a :: l, 0, u, h => ⟨0, a, rfl, .inl ⟨rfl, by simpa using h.symm⟩⟩
  | a :: l, 1, u, h => ⟨0, a, rfl, .inr ⟨rfl, by simpa using h.symm⟩⟩
  | a :: l, j + 2, u, h => by
    obtain ⟨i, r, h1, h2⟩ := flat2 (l := l) (j := j) (u := u) (by simpa using h)
    refine ⟨i + 1, r, by simpa using h1, ?_⟩
    rcases h2 with ⟨rfl, e⟩ | ⟨rfl, e⟩
    · exact .inl ⟨by omega, e⟩
    · exact .inr ⟨by omega, e⟩
abbrev kvals (l : List Kv) : List Value := l.flatMap fun r => [.string r.key, .string r.val]
theorem kvals_rds {W : World} {ok : Nat → Prop} : ∀ l : List Kv, RDs W ok (l.flatMap Kv.ds) (kvals l)
  | [] => .nil
  | _ :: l => .cons (.c rfl) (.cons (.c rfl) (kvals_rds l))
section
variable {H : Type} {enc : TypeId × Value → H} {W : World} {base : Nat}
theorem trod_kv {fuel : Nat} {cs : List Value} {x : DataW H × List MemPlace} (h : DataW.trod enc Tryd.prog W 0 (fun _ => true) true fuel 59 cs = some x) : ∃ r : Kv, cs = [.string r.key, .string r.val] := by
  obtain ⟨y0, y1, n, -, hl, h0, h1⟩ := trod_struct2 Tryd.underlying59 h
  obtain ⟨a, e0, -, ha⟩ := DataW.trod_string Tryd.underlying9 h0
  obtain ⟨s, e1, -⟩ := DataW.trod_string Tryd.underlying9 h1
  have hc : Tryd.prog.cellsOf 59 = 2 := by kernel_rfl
  have hs : Tryd.prog.cellsOf 9 = 1 := by kernel_rfl
  rw [hc] at hl
  match cs, hl with
  | [c0, c1], _ =>
    simp only [hs, List.drop_zero, List.drop_succ_cons, List.take_succ_cons, List.take_zero, List.cons.injEq, and_true] at e0 e1
    subst e0 e1
    exact ⟨⟨a, s⟩, rfl⟩
theorem rows_of {v : Value} {d : DataW H} {ps : List MemPlace} (hv : Value.okWide Tryd.prog W .any base 33 v) (h : DataW.Trod enc Tryd.prog W 0 (fun _ => true) true 33 v d ps) : ∃ l : List Kv, True ∧ RD W (fun b => b < W.heap.size) (rows l) v := by
  obtain ⟨a0, len0, cap0, rfl⟩ := okWide_slice Tryd.underlying33 hv
  obtain ⟨fuel, hf⟩ := h
  have hc4 : Tryd.prog.cellsOf 59 = 2 := by kernel_rfl
  rcases Go.Deep.open_slice Tryd.underlying33 hf with ⟨hcs, -⟩ | ⟨a, len', cap', m, k, D, Pl, hcs, -, hl, hml, hm, -, hx⟩
  · simp only [Value.cells, List.cons.injEq, Value.slice.injEq, and_true] at hcs
    obtain ⟨rfl, rfl, rfl⟩ := hcs
    exact ⟨[], trivial, RD.nil _ _⟩
  · simp only [Value.cells, List.cons.injEq, Value.slice.injEq, and_true] at hcs
    obtain ⟨rfl, rfl, rfl⟩ := hcs
    rw [hc4] at hx
    have hm' : m = cap0 := by simpa using hm
    subst hm'
    have each : ∀ i, ∃ r : Kv, i < m → W.cell? (a.add (i * 2 + 0)) = some (.string r.key) ∧ W.cell? (a.add (i * 2 + 1)) = some (.string r.val) := by
      intro i
      by_cases hi : i < m
      · obtain ⟨cs, h1, h2⟩ := hx i hi
        obtain ⟨r, rfl⟩ := trod_kv h2
        obtain ⟨-, -, hcell⟩ := World.cells?_some h1
        refine ⟨r, fun _ => ⟨?_, ?_⟩⟩
        · rw [← Go.Deep.add_add, hcell 0 (by omega)]; rfl
        · rw [← Go.Deep.add_add, hcell 1 (by omega)]; rfl
      · exact ⟨⟨⟨#[]⟩, ⟨#[]⟩⟩, fun h => absurd h hi⟩
    let f : Nat → Kv := fun i => Classical.choose (each i)
    have hfe : ∀ i, i < m → W.cell? (a.add (i * 2 + 0)) = some (.string (f i).key) ∧ W.cell? (a.add (i * 2 + 1)) = some (.string (f i).val) := fun i => Classical.choose_spec (each i)
    by_cases h0 : len0 = 0
    · subst h0
      exact ⟨[], trivial, RD.nil _ _⟩
    obtain ⟨b, off, spot⟩ := a
    have hc0 := (hfe 0 (by omega)).1
    have hspot : spot = none := by simpa [Addr.add] using World.cell?_spot hc0
    subst hspot
    refine ⟨(List.range len0).map f, trivial, ?_⟩
    rw [show rows ((List.range len0).map f) = .l len0 (((List.range len0).map f).flatMap Kv.ds) by unfold rows lst; rw [List.length_map, List.length_range]]
    refine RD.l hl (by omega) (World.block_lt_of_cell? W ⟨b, off + (0 * 2 + 0), none⟩ (by rw [← Go.WideShapes.add_plain]; exact hc0)) (kvals_rds _) fun j u hj => ?_
    obtain ⟨i, r, h1, h2⟩ := flat2 hj
    have hi : i < len0 := by have := (List.getElem?_eq_some_iff.1 h1).1; simpa using this
    rw [List.getElem?_map, List.getElem?_range hi] at h1
    obtain rfl := Option.some.inj h1
    have hh := hfe i (by omega)
    rw [← Go.WideShapes.add_plain]
    rcases h2 with ⟨rfl, rfl⟩ | ⟨rfl, rfl⟩
    · exact hh.1
    · exact hh.2
end
end Go.Proofs.YtjnnkpkbgdknmaaDoor
namespace Go.Proofs.YtjnnkpkbgdknmaaDoor
set_option linter.unusedSimpArgs false
set_option linter.unusedVariables false
open Go.RowKit
abbrev i64w (x : Int) : Int := IntKind.i64.wrap x
def sel {α : Type} (b : Bool) (x y : α) : α := match b with
  | true => x
  | false => y
def bnd {α β : Type} (x : α) (k : α → β) : β := k x
def obnd {α β : Type} (x : Option α) (k : α → Option β) : Option β := match x with
  | some a => k a
  | none => none
inductive Ctl (R S : Type) where
  | ret (r : R)
  | nxt (s : S)
def cbnd {R S : Type} (m : Ctl R S) (k : S → R) : R := match m with
  | .ret r => r
  | .nxt s => k s
def ocbnd {R S : Type} (m : Ctl R S) (k : S → Option R) : Option R := match m with
  | .ret r => some r
  | .nxt s => k s
section
variable {α β R S : Type}
theorem sel_t {b : Bool} {x y z : α} (h : b = true) (hm : sel b x y = z) : x = z := by subst h; exact hm
theorem sel_f {b : Bool} {x y z : α} (h : b = false) (hm : sel b x y = z) : y = z := by subst h; exact hm
theorem bnd_o {x : α} {k : α → β} {z : β} (hm : bnd x k = z) : ∃ y, x = y ∧ k y = z := ⟨x, rfl, hm⟩
theorem obnd_o {x : Option α} {k : α → Option β} {z : β} (hm : obnd x k = some z) : ∃ y, x = some y ∧ k y = some z := by
  cases x with
  | none => cases hm
  | some a => exact ⟨a, rfl, hm⟩
theorem cbnd_r {r : R} {k : S → R} {z : R} (hm : cbnd (.ret r) k = z) : r = z := hm
theorem cbnd_n {s : S} {k : S → R} {z : R} (hm : cbnd (.nxt s) k = z) : k s = z := hm
theorem ocbnd_r {r : R} {k : S → Option R} {z : R} (hm : ocbnd (.ret r) k = some z) : some r = some z := hm
theorem ocbnd_n {s : S} {k : S → Option R} {z : R} (hm : ocbnd (.nxt s) k = some z) : k s = some z := hm
theorem sel_ite (b : Bool) (x y : α) : sel b x y = if b = true then x else y := by cases b <;> rfl
theorem bnd_eq (x : α) (k : α → β) : bnd x k = k x := rfl
theorem obnd_some (x : α) (k : α → Option β) : obnd (some x) k = k x := rfl
theorem cbnd_ret (r : R) (k : S → R) : cbnd (.ret r) k = r := rfl
theorem cbnd_nxt (s : S) (k : S → R) : cbnd (.nxt s) k = k s := rfl
theorem ocbnd_ret (r : R) (k : S → Option R) : ocbnd (.ret r) k = some r := rfl
theorem ocbnd_nxt (s : S) (k : S → Option R) : ocbnd (.nxt s) k = k s := rfl
end
theorem by_dec {p g : Prop} [Decidable p] (h1 : decide p = true → g) (h2 : decide p = false → g) : g := by
  cases h : decide p with
  | true => exact h1 h
  | false => exact h2 h
def lget {α : Type} (xs : List α) (i : Int) : Option α := if 0 ≤ i then xs[i.toNat]? else none
def lsl {α : Type} (xs : List α) (lo hi : Int) : Option (List α) := if 0 ≤ lo ∧ lo ≤ hi ∧ hi ≤ xs.length then some ((xs.drop lo.toNat).take (hi.toNat - lo.toNat)) else none
def app {α : Type} (xs ys : List α) : Option (List α) := if xs.length + ys.length ≤ 4294967296 then some (xs ++ ys) else none
def sget (s : ByteArray) (i : Int) : Option Int := if 0 ≤ i ∧ i < s.size then some (s.get! i.toNat).toNat else none
def ssl (s : ByteArray) (lo hi : Int) : Option ByteArray := if 0 ≤ lo ∧ lo ≤ hi ∧ hi ≤ s.size then some (s.extract lo.toNat hi.toNat) else none
def scat (s t : ByteArray) : Option ByteArray := if s.size + t.size ≤ 9223372036854775807 then some (s ++ t) else none
def letg (i : Int) : Option ByteArray := if 0 ≤ i ∧ i < 6 then some (letter i.toNat) else none
def iquo (k : IntKind) (a b : Int) : Option Int := if b = 0 then none else some (k.wrap (a.tdiv b))
def irem (a b : Int) : Option Int := if b = 0 then none else some (a.tmod b)
def dsB (b : Bool) : List D := [dB b]
instance : Len dsB 1 := ⟨fun _ => rfl⟩
def dsS (b : ByteArray) : List D := [dS b]
instance : Len dsS 1 := ⟨fun _ => rfl⟩
def dsK (k : IntKind) (z : Int) : List D := [.c (.int k z)]
instance {k : IntKind} : Len (dsK k) 1 := ⟨fun _ => rfl⟩
def dsL {α : Type} (f : α → List D) (l : List α) : List D := [lst f l]
instance {α : Type} {f : α → List D} : Len (dsL f) 1 := ⟨fun _ => rfl⟩
def FU : Nat := 4294967296
theorem lget_o {α : Type} {xs : List α} {i : Int} {x : α} (h : lget xs i = some x) : ∃ m : Nat, i = m ∧ xs[m]? = some x := by
  unfold lget at h
  split at h
  · exact ⟨i.toNat, by omega, h⟩
  · cases h
theorem drop_c {α : Type} {l : List α} {m : Nat} (h : m < l.length) : ∃ x, l[m]? = some x ∧ l.drop m = x :: l.drop (m + 1) := ⟨l[m], List.getElem?_eq_getElem h, List.drop_eq_getElem_cons h⟩
theorem drop_n {α : Type} {l : List α} {m : Nat} (h : l.length ≤ m) : l.drop m = [] := List.drop_eq_nil_of_le h
section
variable {Γ : Cx} {k : Kont} {st st' : St} {x y : Code} {c : Operand} {b : Bool} {id : Nat}
theorem wc_cut' (I : St → Prop) (h : WC Γ x (.cut I k) st) (hk : ∀ st, I st → WK Γ k .normal st) : WC Γ x k st := fun a w hr => wp_mono (h a w hr) (by
  rintro e a w ⟨st, hk', hr⟩
  cases e with
  | normal => obtain ⟨st', h1, h2⟩ := hk'; exact ⟨st', hk st' h2, h1 a w hr⟩
  | _ => exact ⟨st, hk', hr⟩)
theorem wc_cond_tt (hb : b = true) (hc : ev st.sl c = some (vB b)) (h : WC Γ x k st) : WC Γ (.cond c x y) k st := wc_cond hc (fun _ => h) (fun e => by rw [hb] at e; cases e)
theorem wc_cond_ff (hb : b = false) (hc : ev st.sl c = some (vB b)) (h : WC Γ y k st) : WC Γ (.cond c x y) k st := wc_cond hc (fun e => by rw [hb] at e; cases e) (fun _ => h)
theorem lt_t {m n : Nat} (h : m < n) : decide ((m : Int) < (n : Int)) = true := by simpa using h
theorem lt_f {m n : Nat} (h : n ≤ m) : decide ((m : Int) < (n : Int)) = false := by simpa using h
theorem wc_len (t : Nat) {n : Nat} {xs : List D} (h : look st.sl t = some (.d (.l n xs))) (hk : n ≤ 9223372036854775807 → WC Γ x k st) : WC Γ x k st := fun a w hr => by
  refine hk ?_ a w hr
  obtain ⟨ρ, hr⟩ := hr
  obtain ⟨v, -, h2⟩ := hr.sr t _ h
  cases h2 with
  | d h2 =>
    cases h2 with
    | nil => omega
    | l _ h3 => exact h3
end
section
variable {P : Program} {o : Oper} {H : Hp} {sl : List (Nat × V)} {x y z : Operand} {T U E t : TypeId} {zz bytes : Nat} {i j : Int} {s s' : ByteArray} {kk : IntKind} {k d k' : Nat}
theorem o_inc {m n : Nat} (hm : m < n) (hn : n ≤ 9223372036854775807) (hop : o.op = .binOp .add T x y U) (hx : ev sl x = some (vI (m : Int))) (hy : ev sl y = some (vI 1)) : OpD P o H sl 0 0 (vI ((m + 1 : Nat) : Int)) [] := o_add hop hx hy (by rw [w64 (by omega) (by omega)]; omega)
theorem o_ixm {α : Type} {f : α → List D} {xs : List α} {ys : List D} {m : Nat} {a : α} (hg : xs[m]? = some a) [hS : Sl P t E zz bytes] [hL : Len f zz] (hop : o.op = .indexAddr t x y) (hx : ev sl x = some (.d (lst f xs))) (hy : ev sl y = some (vI (m : Int))) (hz : f a = ys) : OpD P o H sl 0 0 (.q ys) [] := by
  obtain ⟨h1, h2⟩ := List.getElem?_eq_some_iff.1 hg
  exact o_ixe hop hx hy hL.len rfl h1 (by rw [h2]; exact hz)
theorem o_ixg {α : Type} {f : α → List D} {xs : List α} {ys : List D} {a : α} (hg : lget xs i = some a) [hS : Sl P t E zz bytes] [hL : Len f zz] (hop : o.op = .indexAddr t x y) (hx : ev sl x = some (.d (lst f xs))) (hy : ev sl y = some (vI i)) (hz : f a = ys) : OpD P o H sl 0 0 (.q ys) [] := by
  obtain ⟨m, rfl, h1⟩ := lget_o hg
  exact o_ixm h1 hop hx hy hz
theorem o_lsl {α : Type} {f : α → List D} {lo hi : Option Operand} {xs ys : List α} (hg : lsl xs i j = some ys) [hS : Sl P t E zz bytes] [hL : Len f zz] (hop : o.op = .slice t x lo hi none) (hx : ev sl x = some (.d (lst f xs))) (hlo : evo sl 0 lo = some (vI i)) (hhi : evo sl (xs.length : Int) hi = some (vI j)) : OpD P o H sl 0 0 (.d (lst f ys)) [] := by
  unfold lsl at hg
  split at hg
  · rename_i h
    exact o_slice_ti hop hx hlo hhi h.1 h.2.1 h.2.2 hL.len (Option.some.inj hg)
  · cases hg
theorem o_sget {n : Int} (hg : sget s i = some n) (hop : o.op = .index t x y) (hx : ev sl x = some (vS s)) (hy : ev sl y = some (vI i)) (ht : P.underlying t = some .string) : OpD P o H sl 0 0 (.d (.c (.int .u8 n))) [] := by
  unfold sget at hg
  split at hg
  · rename_i h
    rw [← Option.some.inj hg]
    exact o_index_si hop hx hy ht h.1 h.2
  · cases hg
theorem o_ssl {lo hi : Option Operand} (hg : ssl s i j = some s') (hop : o.op = .slice t x lo hi none) (hx : ev sl x = some (vS s)) (ht : P.underlying t = some .string) (hlo : evo sl 0 lo = some (vI i)) (hhi : evo sl (s.size : Int) hi = some (vI j)) : OpD P o H sl 0 0 (vS s') [] := by
  unfold ssl at hg
  split at hg
  · rename_i h
    exact o_slice_si hop hx ht hlo hhi h.1 h.2.1 h.2.2 (Option.some.inj hg)
  · cases hg
theorem o_scat {r : ByteArray} (hg : scat s s' = some r) (hop : o.op = .binOp .add T x y U) (hx : ev sl x = some (vS s)) (hy : ev sl y = some (vS s')) : OpD P o H sl 0 0 (vS r) [] := by
  unfold scat at hg
  split at hg
  · rename_i h
    rw [← Option.some.inj hg]
    exact o_sadd hop hx hy h
  · cases hg
theorem o_letg {r : ByteArray} (hg : letg i = some r) (hop : o.op = .indexAddr T (.global 0) y) (hy : ev sl y = some (vI i)) (hTE : Ar P T 6 E) (hE : Ty P E 1 false) : OpD P o H sl 0 0 (.q [dS r]) [] := by
  unfold letg at hg
  split at hg
  · rename_i h
    rw [← Option.some.inj hg]
    exact o_ixl hop hy hTE hE (Int.toNat_of_nonneg h.1).symm (by omega)
  · cases hg
theorem o_irem {n : Int} (hg : irem i j = some n) (hop : o.op = .binOp .rem T x y U) (hx : ev sl x = some (.d (.c (.int kk i)))) (hy : ev sl y = some (.d (.c (.int kk j)))) : OpD P o H sl 0 0 (.d (.c (.int kk n))) [] := by
  unfold irem at hg
  split at hg
  · cases hg
  · exact o_rem hop hx hy (by assumption) (Option.some.inj hg)
theorem o_ixa {α : Type} {f : α → V} {es : List α} {a : α} {len : Nat} (hg : lget es i = some a) (hop : o.op = .index t x y) (hx : ev sl x = some (.a (es.map f))) (hy : ev sl y = some (vI i)) (hTE : Ar P t len E) (hE : Ty P E 1 false) (hl : es.length = len) : OpD P o H sl 0 0 (f a) [] := by
  obtain ⟨m, rfl, h1⟩ := lget_o hg
  have h2 := (List.getElem?_eq_some_iff.1 h1).1
  refine o_index_a hop hx hy hTE hE (by omega) (by omega) ?_
  rw [List.getElem?_map, Int.toNat_natCast, h1]; rfl
theorem app_o {α : Type} {xs ys r : List α} (h : app xs ys = some r) : xs.length + ys.length ≤ 4294967296 ∧ r = xs ++ ys := by
  unfold app at h
  split at h
  · exact ⟨by assumption, (Option.some.inj h).symm⟩
  · cases h
theorem le_by {n bytes : Nat} (h : n ≤ 4294967296) (hb : Nat.ble bytes 32768 = true) : n * bytes ≤ 140737488355328 := by
  have := Nat.mul_le_mul h (Nat.le_of_ble_eq_true hb); omega
theorem n_appn {α : Type} {f : α → List D} {ys r : List α} (hg : app [] ys = some r) [hS : Sl P t E zz bytes] [hL : Len f zz] (hop : o.op = .call { callee := .builtin .append, args := #[x, y], argTypes := #[t, t] }) (hd : o.dst = some d) (hk : d + 100 = k) (hx : ev sl x = some (.d (.c (.slice none 0 0)))) (hy : ev sl y = some (.d (lst f ys))) (hb : Nat.ble bytes 32768 = true) : OpD P o H sl k 1 (.h k) [(k, some (arrT E zz f r))] := by
  obtain ⟨h1, rfl⟩ := app_o hg
  simp only [List.length_nil, Nat.zero_add] at h1
  exact n_append_nt hop hd hk hx hy hL.len (le_by h1 hb) (by omega)
theorem n_app {α : Type} {f : α → List D} {xs ys r : List α} (hg : app xs ys = some r) [hS : Sl P t E zz bytes] [hL : Len f zz] (hop : o.op = .call { callee := .builtin .append, args := #[x, y], argTypes := #[t, t] }) (hd : o.dst = some d) (hk : d + 100 = k') (hx : ev sl x = some (.h k)) (hy : ev sl y = some (.d (lst f ys))) (hH : look H k = some (some (arrT E zz f xs))) (hb : Nat.ble bytes 32768 = true) (hkk : (!Nat.beq k k') = true) : OpD P o H sl k' 1 (.h k') [(k, none), (k', some (arrT E zz f r))] := by
  obtain ⟨h1, rfl⟩ := app_o hg
  exact n_append_t hop hd hk hx hy hH hL.len (le_by h1 hb) (by omega) hkk
end
section
variable {Γ : Cx} {P : Program} {k : Kont} {sl : List (Nat × V)} {H hp : Hp} {o : Oper} {ops : Array Oper} {i an d kt : Nat} {ts : List Nat} {r : List PI} {F : List Ft} {f : FuncId} {us uc : List V} {x : Operand} {xs : Array Operand} {ats : Array TypeId} {u u' : V} {rest : List Oper} {blk blk0 blk' blk1 : Blk}
theorem wd_app {α : Type} {f : α → List D} {xs ys rr : List α} {kk k' E z bytes t : Nat} {y : Operand} (hg' : app xs ys = some rr) [hS : Sl Γ.P t E z bytes] [hL : Len f z] (hop : o.op = .call { callee := .builtin .append, args := #[x, y], argTypes := #[t, t] }) (hd : o.dst = some d) (hkd : d + 100 = k') (hx : ev (keep ts sl) x = some (.h kk)) (hy : ev (keep ts sl) y = some (.d (lst f ys))) (hH : look hp kk = some (some (arrT E z f xs))) (hb : Nat.ble bytes 32768 = true)
    (hkk : (!Nat.beq kk k') = true) (hw : Wt ops o (keep ts sl) true) (hdl : Nat.blt d Γ.nt = true) (hfr : freshB hp k' 1 = true) (hfo : okF ⟨⟨i, an, ts⟩, [kk], [kk, k'], k', 1⟩ F = true)
    (hk : WD Γ ops k r (⟨⟨i, an, ts⟩, [kk], [kk, k'], k', 1⟩ :: F) ⟨(d, .h k') :: sl, (kk, none) :: (k', some (arrT E z f rr)) :: hp⟩) : WO Γ ops k o i an ts r F ⟨sl, hp⟩ := by
  obtain ⟨h1, rfl⟩ := app_o hg'
  exact wd_append_t hop hd hkd hx hy hH hL.len (le_by h1 hb) (by omega) hkk hw hdl hfr hfo hk
theorem wl_cs (hs : Spec Γ.P f us [] fun u1 h1 => u1 = u ∧ h1 = []) (hop : o.op = .call { callee := .value x, args := xs, argTypes := ats }) (hx : ev sl x = some (.d (.c (.func (.func f) #[] #[])))) (ha : evl sl xs.toList = some uc) (hv : Vws [] [] uc us) (hu : u.ren (rn [] 100000) = u)
    (hg : o.guard = none) (hd : o.dst = some d) (hdl : Nat.blt d Γ.nt = true) (hf : freshB hp 100000 100 = true) (hk : WL Γ ops rest k ⟨(d, u) :: sl, hp⟩) : WL Γ ops (o :: rest) k ⟨sl, hp⟩ := wl_cp (o_callp 100000 hs hop hx ha hv hu) hg hd hdl hf hk
theorem wd_cs (hs : Spec Γ.P f us [] fun u1 h1 => u1 = u ∧ h1 = []) (hop : o.op = .call { callee := .value x, args := xs, argTypes := ats }) (hx : ev (keep ts sl) x = some (.d (.c (.func (.func f) #[] #[])))) (ha : evl (keep ts sl) xs.toList = some uc) (hv : Vws [] [] uc us) (hu : u.ren (rn [] 100000) = u)
    (hd : o.dst = some d) (hw : Wt ops o (keep ts sl) true) (hdl : Nat.blt d Γ.nt = true) (hfr : freshB hp 100000 100 = true) (hf : okF ⟨⟨i, an, ts⟩, [], [], 100000, 100⟩ F = true)
    (hk : WD Γ ops k r (⟨⟨i, an, ts⟩, [], [], 100000, 100⟩ :: F) ⟨(d, u) :: sl, hp⟩) : WO Γ ops k o i an ts r F ⟨sl, hp⟩ := wd_cp [] (o_callp 100000 hs hop hx ha hv hu) hd hw hdl hfr hf hk
theorem o_io (hs : Spec P f us [(0, some blk)] fun u1 h1 => u1 = u ∧ h1 = [(0, some blk')]) (kt : Nat) (hop : o.op = .call { callee := .value x, args := xs, argTypes := ats }) (hx : ev sl x = some (.d (.c (.func (.func f) #[] #[])))) (ha : evl sl xs.toList = some uc) (hv : Vws [] [(0, kt)] uc us)
    (hH : look H kt = some (some blk0)) (hb : Vb [] [(0, kt)] blk0 blk) (hu : u.ren (rn [(0, kt)] 100000) = u) (hb' : blk'.ren (rn [(0, kt)] 100000) = blk') : OpV P o H sl 100000 100 fun u' h' => u' = u ∧ h' = [(kt, some blk')] := by
  have hal : aliveB H [(0, kt)] = true := by simp only [aliveB, List.all_cons, List.all_nil, Bool.and_true, hH]
  have h0 : look [(0, kt)] 0 = some kt := rfl
  refine (o_call 100000 [(0, kt)] hs hop hx ha hv (VH.cons h0 hH hb VH.nil) hal rfl (by rfl)).mono ?_
  rintro u1 h1 ⟨u0, h0', ⟨rfl, rfl⟩, rfl, rfl⟩
  refine ⟨hu, ?_⟩
  simp only [renH, Option.map_some, hb']
  rfl
theorem wl_io (hs : Spec Γ.P f us [(0, some blk)] fun u1 h1 => u1 = u ∧ h1 = [(0, some blk')]) (kt : Nat) (hop : o.op = .call { callee := .value x, args := xs, argTypes := ats }) (hx : ev sl x = some (.d (.c (.func (.func f) #[] #[])))) (ha : evl sl xs.toList = some uc) (hv : Vws [] [(0, kt)] uc us)
    (hH : look hp kt = some (some blk0)) (hb : Vb [] [(0, kt)] blk0 blk) (hu : u.ren (rn [(0, kt)] 100000) = u) (hb' : blk'.ren (rn [(0, kt)] 100000) = blk')
    (hg : o.guard = none) (hd : o.dst = some d) (hdl : Nat.blt d Γ.nt = true) (hf : freshB hp 100000 100 = true) (hk : WL Γ ops rest k ⟨(d, u) :: sl, (kt, some blk') :: hp⟩) : WL Γ ops (o :: rest) k ⟨sl, hp⟩ :=
  wl_v (o_io hs kt hop hx ha hv hH hb hu hb') hg hd hdl hf (by rintro _ _ ⟨rfl, rfl⟩; exact hk)
theorem wd_io (hs : Spec Γ.P f us [(0, some blk)] fun u1 h1 => u1 = u ∧ h1 = [(0, some blk')]) (kt : Nat) (hop : o.op = .call { callee := .value x, args := xs, argTypes := ats }) (hx : ev (keep ts sl) x = some (.d (.c (.func (.func f) #[] #[])))) (ha : evl (keep ts sl) xs.toList = some uc) (hv : Vws [] [(0, kt)] uc us)
    (hH : look hp kt = some (some blk0)) (hb : Vb [] [(0, kt)] blk0 blk) (hu : u.ren (rn [(0, kt)] 100000) = u) (hb' : blk'.ren (rn [(0, kt)] 100000) = blk')
    (hd : o.dst = some d) (hw : Wt ops o (keep ts sl) true) (hdl : Nat.blt d Γ.nt = true) (hfr : freshB hp 100000 100 = true) (hf : okF ⟨⟨i, an, ts⟩, [kt], [kt], 100000, 100⟩ F = true) (hnd : (r.all fun q => bitN q.an i) = true)
    (hk : WD Γ ops k r (⟨⟨i, an, ts⟩, [kt], [kt], 100000, 100⟩ :: F) ⟨(d, u) :: sl, (kt, some blk') :: hp⟩) : WO Γ ops k o i an ts r F ⟨sl, hp⟩ :=
  wd_v [kt] [kt] (o_io hs kt hop hx ha hv (by rw [keep1]; exact hH) hb hu hb') hd hw hdl hfr hf hnd (by rintro _ _ ⟨rfl, rfl⟩; exact inW_1 _ _) (by rintro _ _ ⟨rfl, rfl⟩; exact hk)
end
section
variable {Γ : Cx} {P : Program} {k : Kont} {sl : List (Nat × V)} {H hp h h' : Hp} {o : Oper} {ops : Array Oper} {i an d kt : Nat} {ts : List Nat} {r : List PI} {F : List Ft} {f : FuncId} {us uc : List V} {x : Operand} {xs : Array Operand} {ats : Array TypeId} {u u' : V} {rest : List Oper}
theorem o_mkn (hs : Spec P f us [] fun u1 h1 => u1 = u ∧ h1 = h) (M : Nat) (hop : o.op = .call { callee := .value x, args := xs, argTypes := ats }) (hx : ev sl x = some (.d (.c (.func (.func f) #[] #[])))) (ha : evl sl xs.toList = some uc) (hv : Vws [] [] uc us)
    (hu : u.ren (rn [] M) = u') (hh : renH (rn [] M) h = h') : OpV P o H sl M 100 fun u1 h1 => u1 = u' ∧ h1 = h' := by
  refine (o_call M [] hs hop hx ha hv VH.nil rfl rfl rfl).mono ?_
  rintro u1 h1 ⟨u0, h0', ⟨rfl, rfl⟩, rfl, rfl⟩
  exact ⟨hu, hh⟩
theorem wl_mkn (hs : Spec Γ.P f us [] fun u1 h1 => u1 = u ∧ h1 = h) (M : Nat) (hop : o.op = .call { callee := .value x, args := xs, argTypes := ats }) (hx : ev sl x = some (.d (.c (.func (.func f) #[] #[])))) (ha : evl sl xs.toList = some uc) (hv : Vws [] [] uc us)
    (hu : u.ren (rn [] M) = u') (hh : renH (rn [] M) h = h') (hg : o.guard = none) (hd : o.dst = some d) (hdl : Nat.blt d Γ.nt = true) (hf : freshB hp M 100 = true) (hk : WL Γ ops rest k ⟨(d, u') :: sl, h' ++ hp⟩) : WL Γ ops (o :: rest) k ⟨sl, hp⟩ :=
  wl_v (o_mkn hs M hop hx ha hv hu hh) hg hd hdl hf (by rintro _ _ ⟨rfl, rfl⟩; exact hk)
theorem o_gen {blk blk0 : Blk} (hs : Spec P f us [(0, some blk)] fun u1 h1 => u1 = u ∧ h1 = h) (kt M : Nat) (hop : o.op = .call { callee := .value x, args := xs, argTypes := ats }) (hx : ev sl x = some (.d (.c (.func (.func f) #[] #[])))) (ha : evl sl xs.toList = some uc) (hv : Vws [] [(0, kt)] uc us)
    (hH : look H kt = some (some blk0)) (hb : Vb [] [(0, kt)] blk0 blk) (hu : u.ren (rn [(0, kt)] M) = u') (hh : renH (rn [(0, kt)] M) h = h') : OpV P o H sl M 100 fun u1 h1 => u1 = u' ∧ h1 = h' := by
  have hal : aliveB H [(0, kt)] = true := by simp only [aliveB, List.all_cons, List.all_nil, Bool.and_true, hH]
  have h0 : look [(0, kt)] 0 = some kt := rfl
  refine (o_call M [(0, kt)] hs hop hx ha hv (VH.cons h0 hH hb VH.nil) hal rfl (by rfl)).mono ?_
  rintro u1 h1 ⟨u0, h0', ⟨rfl, rfl⟩, rfl, rfl⟩
  exact ⟨hu, hh⟩
theorem wl_gen {blk blk0 : Blk} (hs : Spec Γ.P f us [(0, some blk)] fun u1 h1 => u1 = u ∧ h1 = h) (kt M : Nat) (hop : o.op = .call { callee := .value x, args := xs, argTypes := ats }) (hx : ev sl x = some (.d (.c (.func (.func f) #[] #[])))) (ha : evl sl xs.toList = some uc) (hv : Vws [] [(0, kt)] uc us)
    (hH : look hp kt = some (some blk0)) (hb : Vb [] [(0, kt)] blk0 blk) (hu : u.ren (rn [(0, kt)] M) = u') (hh : renH (rn [(0, kt)] M) h = h') (hg : o.guard = none) (hd : o.dst = some d) (hdl : Nat.blt d Γ.nt = true) (hf : freshB hp M 100 = true) (hk : WL Γ ops rest k ⟨(d, u') :: sl, h' ++ hp⟩) : WL Γ ops (o :: rest) k ⟨sl, hp⟩ :=
  wl_v (o_gen hs kt M hop hx ha hv hH hb hu hh) hg hd hdl hf (by rintro _ _ ⟨rfl, rfl⟩; exact hk)
end
section
variable {P : Program} {o : Oper} {H : Hp} {sl : List (Nat × V)} {x y : Operand} {T U E t : TypeId} {zz bytes n off k : Nat} {i : Int} {ag : Bool} {α : Type} {f : α → List D} {xs : List α} {a a' : α} {u : V}
theorem lget_set (h : lget xs i = some a) (b : α) : lget (xs.set i.toNat b) i = some b := by
  obtain ⟨m, rfl, h1⟩ := lget_o h
  have := (List.getElem?_eq_some_iff.1 h1).1
  unfold lget
  rw [if_pos (by omega)]
  simp [this]
theorem o_ixo (hg : lget xs i = some a) [hS : Sl P t E zz bytes] (hop : o.op = .indexAddr t x y) (hx : ev sl x = some (.h k)) (hy : ev sl y = some (vI i)) (hH : look H k = some (some (arrT E zz f xs))) : OpD P o H sl 0 0 (.e k (i.toNat * zz)) [] := by
  obtain ⟨m, rfl, h1⟩ := lget_o hg
  exact o_ixh hop hx hy hH rfl (List.getElem?_eq_some_iff.1 h1).1
theorem flat_get {z : Nat} (hf : ∀ a, (f a).length = z) (hg : lget xs i = some a) (j : Nat) (hj : j < z) : (xs.flatMap f)[i.toNat * z + j]? = (f a)[j]? := by
  obtain ⟨m, rfl, h1⟩ := lget_o hg
  have h2 := List.getElem?_eq_getElem (l := f a) (i := j) (by rw [hf]; exact hj)
  rw [h2]
  exact flat_at hf h1 j _ h2
theorem flat_le {z : Nat} (hf : ∀ a, (f a).length = z) (hg : lget xs i = some a) : i.toNat * z + z ≤ (xs.flatMap f).length := by
  obtain ⟨m, rfl, h1⟩ := lget_o hg
  have h2 := (List.getElem?_eq_some_iff.1 h1).1
  have h3 : (xs.flatMap f).length = xs.length * z := by
    clear hg h1 h2
    induction xs with
    | nil => simp
    | cons b l ih => rw [List.flatMap_cons, List.length_append, hf, ih, List.length_cons, Nat.add_mul]; omega
  rw [h3, Int.toNat_natCast, ← Nat.succ_mul]
  exact Nat.mul_le_mul_right _ h2
theorem o_ldo (hg : lget xs i = some a) [hL : Len f zz] (hop : o.op = .load T x) (hx : ev sl x = some (.e k (i.toNat * zz + off))) (hH : look H k = some (some (arrT E zz f xs))) (hT : Ty P T n ag) (hl : (Nat.ble (off + n) zz && (ag || n == 1)) = true) (hu : ldE ag n off (f a) = some u) : OpD P o H sl 0 0 u [] := by
  simp only [Bool.and_eq_true, Nat.ble_eq] at hl
  have h1 := flat_le hL.len hg
  refine o_loade hop hx hH hT ?_ ?_
  · simp only [Bool.and_eq_true, Nat.ble_eq, List.length_map]
    exact ⟨by omega, hl.2⟩
  · unfold ldC
    unfold ldE at hu
    cases ag with
    | true =>
      simp only [cond_true] at hu ⊢
      rw [← hu]
      congr 2
      apply List.ext_getElem?
      intro j
      simp only [List.getElem?_take, List.getElem?_drop, List.getElem?_map]
      split
      · rw [Nat.add_assoc, flat_get hL.len hg _ (by omega)]
      · rfl
    | false =>
      simp only [cond_false] at hu ⊢
      rw [List.getElem?_map, flat_get hL.len hg _ (by simp at hl; omega)]
      exact hu
theorem stV_app : ∀ (o : Nat) (vs c e : List V), stV (c.length + o) vs (c ++ e) = c ++ stV o vs e
  | o, [], c, e => by simp [stV]
  | o, v :: vs, [], e => by simp
  | o, v :: vs, x :: c, e => by
    rw [List.length_cons, show c.length + 1 + o = (c.length + o) + 1 by omega, List.cons_append, stV, stV_app o (v :: vs) c e, List.cons_append]
theorem stV_left : ∀ (o : Nat) (vs c e : List V), o + vs.length ≤ c.length → stV o vs (c ++ e) = stV o vs c ++ e
  | _, [], c, e, _ => by simp [stV]
  | 0, v :: vs, [], e, h => by simp at h
  | 0, v :: vs, x :: c, e, h => by
    simp only [List.cons_append, stV]
    rw [stV_left 0 vs c e (by simp at h; omega)]
  | o + 1, v :: vs, [], e, h => by simp at h
  | o + 1, v :: vs, x :: c, e, h => by
    simp only [List.cons_append, stV]
    rw [stV_left o (v :: vs) c e (by simp at h ⊢; omega)]
theorem stV_flat {z : Nat} (hf : ∀ a, (f a).length = z) (vs : List V) (ho : off + vs.length ≤ z) (a' : α) (hc : stV off vs ((f a).map V.d) = (f a').map V.d) : ∀ (xs : List α) (m : Nat), xs[m]? = some a → stV (m * z + off) vs ((xs.flatMap f).map V.d) = ((xs.set m a').flatMap f).map V.d
  | [], m, h => by simp at h
  | b :: l, 0, h => by
    obtain rfl : b = a := by simpa using h
    rw [Nat.zero_mul, Nat.zero_add, List.flatMap_cons, List.map_append, stV_left _ _ _ _ (by rw [List.length_map, hf]; exact ho), hc, List.set_cons_zero, List.flatMap_cons, List.map_append]
  | b :: l, m + 1, h => by
    have ih := stV_flat hf vs ho a' hc l m (by simpa using h)
    have e : (m + 1) * z + off = ((f b).map V.d).length + (m * z + off) := by rw [List.length_map, hf, Nat.succ_mul]; omega
    rw [List.flatMap_cons, List.map_append, e, stV_app, ih, List.set_cons_succ, List.flatMap_cons, List.map_append]
theorem o_sto {ys : List α} (hg : lget xs i = some a) (he : xs.set i.toNat a' = ys) [hL : Len f zz] (hop : o.op = .store T x y) (hx : ev sl x = some (.e k (i.toNat * zz + off))) (hy : ev sl y = some u) (hH : look H k = some (some (arrT E zz f xs))) (hT : Ty P T n ag) (hl : (Nat.ble (off + n) zz && (cellsV u).length == n && (cellsV u).all cellV && Nat.blt 0 n) = true)
    (hc : stV off (cellsV u) ((f a).map V.d) = (f a').map V.d) : OpD P o H sl 0 0 .un [(k, some (arrT E zz f ys))] := by
  subst he
  simp only [Bool.and_eq_true, Nat.ble_eq, beq_iff_eq] at hl
  obtain ⟨⟨⟨h1, h2⟩, h3⟩, h4⟩ := hl
  have h5 := flat_le hL.len hg
  obtain ⟨m, rfl, h6⟩ := lget_o hg
  have hs := stV_flat hL.len (cellsV u) (by rw [h2]; exact h1) a' hc xs m h6
  rw [Int.toNat_natCast] at hx h5
  have hst := o_storee (H := H) (sl := sl) hop hx hy hH hT (by rw [List.length_map]; omega) (by simp [h2, h3]) (blt_lt h4) hs
  unfold arrT
  rw [List.length_set, Int.toNat_natCast]
  exact hst
end
section
variable {Γ : Cx} {k : Kont} {sl : List (Nat × V)} {hp : Hp} {o : Oper} {ops : Array Oper} {i an d : Nat} {ts : List Nat} {r : List PI} {F : List Ft} {x y : Operand} {T E t : TypeId} {zz bytes n off kk : Nat} {j : Int} {ag : Bool} {α : Type} {f : α → List D} {xs ys : List α} {a a' : α} {u : V}
theorem wd_ixo (hg : lget xs j = some a) [hS : Sl Γ.P t E zz bytes] (hop : o.op = .indexAddr t x y) (hx : ev (keep ts sl) x = some (.h kk)) (hy : ev (keep ts sl) y = some (vI j)) (hH : look hp kk = some (some (arrT E zz f xs))) (hd : o.dst = some d) (hw : Wt ops o (keep ts sl) true) (hdl : Nat.blt d Γ.nt = true) (hf : okF ⟨⟨i, an, ts⟩, [kk], [], 0, 0⟩ F = true)
    (hk : WD Γ ops k r (⟨⟨i, an, ts⟩, [kk], [], 0, 0⟩ :: F) ⟨(d, .e kk (j.toNat * zz)) :: sl, hp⟩) : WO Γ ops k o i an ts r F ⟨sl, hp⟩ :=
  wd_r [kk] (o_ixo hg hop hx hy (by rw [keep1]; exact hH)) hd hw hdl hf hk
theorem wd_ldo (hg : lget xs j = some a) [hL : Len f zz] (hop : o.op = .load T x) (hx : ev (keep ts sl) x = some (.e kk (j.toNat * zz + off))) (hH : look hp kk = some (some (arrT E zz f xs))) (hT : Ty Γ.P T n ag) (hl : (Nat.ble (off + n) zz && (ag || n == 1)) = true) (hu : ldE ag n off (f a) = some u) (hd : o.dst = some d) (hw : Wt ops o (keep ts sl) true) (hdl : Nat.blt d Γ.nt = true) (hf : okF ⟨⟨i, an, ts⟩, [kk], [], 0, 0⟩ F = true)
    (hk : WD Γ ops k r (⟨⟨i, an, ts⟩, [kk], [], 0, 0⟩ :: F) ⟨(d, u) :: sl, hp⟩) : WO Γ ops k o i an ts r F ⟨sl, hp⟩ :=
  wd_r [kk] (o_ldo hg hop hx (by rw [keep1]; exact hH) hT hl hu) hd hw hdl hf hk
theorem wd_sto (hg : lget xs j = some a) (he : xs.set j.toNat a' = ys) [hL : Len f zz] (hop : o.op = .store T x y) (hx : ev (keep ts sl) x = some (.e kk (j.toNat * zz + off))) (hy : ev (keep ts sl) y = some u) (hH : look hp kk = some (some (arrT E zz f xs))) (hT : Ty Γ.P T n ag) (hl : (Nat.ble (off + n) zz && (cellsV u).length == n && (cellsV u).all cellV && Nat.blt 0 n) = true)
    (hc : stV off (cellsV u) ((f a).map V.d) = (f a').map V.d) (hd : o.dst = none) (hw : Wt ops o (keep ts sl) true) (hf : okF ⟨⟨i, an, ts⟩, [kk], [kk], 0, 0⟩ F = true)
    (hk : WD Γ ops k r (⟨⟨i, an, ts⟩, [kk], [kk], 0, 0⟩ :: F) ⟨sl, (kk, some (arrT E zz f ys)) :: hp⟩) : WO Γ ops k o i an ts r F ⟨sl, hp⟩ :=
  wd_0 [kk] (o_sto hg he hop hx hy (by rw [keep1]; exact hH) hT hl hc) hd hw hf hk
end
section
variable {Γ : Cx} {P : Program} {ks : List Nat} {rs : List ResultVar} {Ψ : V → Hp → Prop} {st st' : St} {us : List V} {u : V} {h : Hp} {k : Kont} {n m : Nat}
theorem wk_ret (h4 : Ψ u []) (h1 : resV st rs = some us := by rfl) (h2 : resT P st rs := by (repeat (first | exact trivial | refine resT_cell rfl rfl (by exact inferInstance) ?_))) (hp : postB ks st [] [] = true := by rfl) (h3 : Vw st.hp [] (one us) u := by (first | exact Vw.nil | exact Vw.d _ | (repeat (first | exact Vws.nil | apply Vws.cons | exact Vw.nil | exact Vw.d _ | apply Vw.a | apply Vw.t | exact Vw.fh rfl rfl (vws_dm _) | exact Vw.fh rfl rfl Vws.nil)); done)) : WK Γ (.fn (PostV P ks rs Ψ)) .ret st := wk_pure h1 h2 hp h3 h4
theorem wk_reti (f : List (Nat × Nat)) (h4 : Ψ u h) (h1 : resV st rs = some us := by rfl) (h2 : resT P st rs := by (repeat (first | exact trivial | refine resT_cell rfl rfl (by exact inferInstance) ?_))) (hp : postB ks st f h = true := by rfl) (h3 : Vw st.hp f (one us) u := by (first | exact Vw.nil | exact Vw.d _ | (repeat (first | exact Vws.nil | apply Vws.cons | exact Vw.nil | exact Vw.d _ | exact Vw.h rfl | exact Vw.p rfl | apply Vw.a | apply Vw.t | exact Vw.fh rfl rfl (vws_dm _) | exact Vw.fh rfl rfl Vws.nil)); done)) (h5 : VH st.hp st.hp f h := by repeat (first | refine VH.cons rfl rfl vb_tpb ?_ | refine VH.cons rfl rfl (Vb.ob _) ?_ | exact VS.nil | exact VH.nil | exact Vws.nil | refine VS.cons rfl ?_ ?_ | refine VH.cons rfl rfl (Vb.box ?_) ?_ | refine VH.cons rfl rfl (Vb.arr ?_) ?_ | exact vws_dm _ | refine Vws.cons ?_ ?_ | exact Vw.d _ | exact Vw.p rfl | exact Vw.h rfl | exact Vw.e rfl | exact Vw.s rfl | exact Vw.q _ | refine Vw.a ?_ | refine Vw.t ?_ | exact Vw.nil | exact Vw.fh rfl rfl (vws_dm _) | exact Vw.un _)) : WK Γ (.fn (PostV P ks rs Ψ)) .ret st := wk_own f h1 h2 hp h3 h5 h4
theorem wk_reti_n (f : List (Nat × Nat)) (h4 : Ψ u h) (h1 : resV st rs = some us := by rfl) (h2 : resT P st rs := by (repeat (first | exact trivial | refine resT_cell rfl rfl (by exact inferInstance) ?_))) (hp : postB ks st f h = true := by rfl) (h3 : Vw st.hp f (one us) u := by (first | exact Vw.nil | exact Vw.d _ | (repeat (first | exact Vws.nil | apply Vws.cons | exact Vw.nil | exact Vw.d _ | exact Vw.h rfl | exact Vw.p rfl | apply Vw.a | apply Vw.t | exact Vw.fh rfl rfl (vws_dm _) | exact Vw.fh rfl rfl Vws.nil)); done)) (h5 : VH st.hp st.hp f h := by repeat (first | refine VH.cons rfl rfl vb_tpb ?_ | refine VH.cons rfl rfl (Vb.ob _) ?_ | exact VS.nil | exact VH.nil | exact Vws.nil | refine VS.cons rfl ?_ ?_ | refine VH.cons rfl rfl (Vb.box ?_) ?_ | refine VH.cons rfl rfl (Vb.arr ?_) ?_ | exact vws_dm _ | refine Vws.cons ?_ ?_ | exact Vw.d _ | exact Vw.p rfl | exact Vw.h rfl | exact Vw.e rfl | exact Vw.s rfl | exact Vw.q _ | refine Vw.a ?_ | refine Vw.t ?_ | exact Vw.nil | exact Vw.fh rfl rfl (vws_dm _) | exact Vw.un _)) : WK Γ (.fn (PostV P ks rs Ψ)) .normal st := wk_fn_n (Wk.refl _ _) ⟨us, f, u, h, h1, h2, hp, h3, h5, h4⟩
theorem wk_cutw {I : St → Prop} (f : List (Nat × Nat)) (h : I st') (hal : aliveB st.hp f = true := by rfl) (hol : olds f = true := by rfl) (hks : (Γ.ks.all fun k => match look f k with | some k' => Nat.beq k k' | none => false) = true := by rfl) (hd : (f.all fun e => (look st'.hp e.1).isSome) = true := by rfl) (hs : VS st.hp f st.sl st'.sl := by repeat (first | refine VH.cons rfl rfl vb_tpb ?_ | refine VH.cons rfl rfl (Vb.ob _) ?_ | exact VS.nil | exact VH.nil | exact Vws.nil | refine VS.cons rfl ?_ ?_ | refine VH.cons rfl rfl (Vb.box ?_) ?_ | refine VH.cons rfl rfl (Vb.arr ?_) ?_ | exact vws_dm _ | refine Vws.cons ?_ ?_ | exact Vw.d _ | exact Vw.p rfl | exact Vw.h rfl | exact Vw.e rfl | exact Vw.s rfl | exact Vw.q _ | refine Vw.a ?_ | refine Vw.t ?_ | exact Vw.nil | exact Vw.fh rfl rfl (vws_dm _) | exact Vw.un _)) (hh : VH st.hp st.hp f st'.hp := by repeat (first | refine VH.cons rfl rfl vb_tpb ?_ | refine VH.cons rfl rfl (Vb.ob _) ?_ | exact VS.nil | exact VH.nil | exact Vws.nil | refine VS.cons rfl ?_ ?_ | refine VH.cons rfl rfl (Vb.box ?_) ?_ | refine VH.cons rfl rfl (Vb.arr ?_) ?_ | exact vws_dm _ | refine Vws.cons ?_ ?_ | exact Vw.d _ | exact Vw.p rfl | exact Vw.h rfl | exact Vw.e rfl | exact Vw.s rfl | exact Vw.q _ | refine Vw.a ?_ | refine Vw.t ?_ | exact Vw.nil | exact Vw.fh rfl rfl (vws_dm _) | exact Vw.un _)) : WK Γ (.cut I k) .normal st := wk_cut_n (wk f hal hol hks hd hs hh) h
theorem wk_loopw {I : Nat → St → Prop} (f : List (Nat × Nat)) (h : I m st') (hm : m < n) (hal : aliveB st.hp f = true := by rfl) (hol : olds f = true := by rfl) (hks : (Γ.ks.all fun k => match look f k with | some k' => Nat.beq k k' | none => false) = true := by rfl) (hd : (f.all fun e => (look st'.hp e.1).isSome) = true := by rfl) (hs : VS st.hp f st.sl st'.sl := by repeat (first | refine VH.cons rfl rfl vb_tpb ?_ | refine VH.cons rfl rfl (Vb.ob _) ?_ | exact VS.nil | exact VH.nil | exact Vws.nil | refine VS.cons rfl ?_ ?_ | refine VH.cons rfl rfl (Vb.box ?_) ?_ | refine VH.cons rfl rfl (Vb.arr ?_) ?_ | exact vws_dm _ | refine Vws.cons ?_ ?_ | exact Vw.d _ | exact Vw.p rfl | exact Vw.h rfl | exact Vw.e rfl | exact Vw.s rfl | exact Vw.q _ | refine Vw.a ?_ | refine Vw.t ?_ | exact Vw.nil | exact Vw.fh rfl rfl (vws_dm _) | exact Vw.un _)) (hh : VH st.hp st.hp f st'.hp := by repeat (first | refine VH.cons rfl rfl vb_tpb ?_ | refine VH.cons rfl rfl (Vb.ob _) ?_ | exact VS.nil | exact VH.nil | exact Vws.nil | refine VS.cons rfl ?_ ?_ | refine VH.cons rfl rfl (Vb.box ?_) ?_ | refine VH.cons rfl rfl (Vb.arr ?_) ?_ | exact vws_dm _ | refine Vws.cons ?_ ?_ | exact Vw.d _ | exact Vw.p rfl | exact Vw.h rfl | exact Vw.e rfl | exact Vw.s rfl | exact Vw.q _ | refine Vw.a ?_ | refine Vw.t ?_ | exact Vw.nil | exact Vw.fh rfl rfl (vws_dm _) | exact Vw.un _)) : WK Γ (.loop I n k) .normal st := wk_loop_n m (wk f hal hol hks hd hs hh) hm h
theorem wc_loopw (I : Nat → St → Prop) {x : Code} (f : List (Nat × Nat)) (h0 : I n st') (hr : ∀ n st, I n st → WC Γ x (.loop I n k) st) (hal : aliveB st.hp f = true := by rfl) (hol : olds f = true := by rfl) (hks : (Γ.ks.all fun k => match look f k with | some k' => Nat.beq k k' | none => false) = true := by rfl) (hd : (f.all fun e => (look st'.hp e.1).isSome) = true := by rfl) (hs : VS st.hp f st.sl st'.sl := by repeat (first | refine VH.cons rfl rfl vb_tpb ?_ | refine VH.cons rfl rfl (Vb.ob _) ?_ | exact VS.nil | exact VH.nil | exact Vws.nil | refine VS.cons rfl ?_ ?_ | refine VH.cons rfl rfl (Vb.box ?_) ?_ | refine VH.cons rfl rfl (Vb.arr ?_) ?_ | exact vws_dm _ | refine Vws.cons ?_ ?_ | exact Vw.d _ | exact Vw.p rfl | exact Vw.h rfl | exact Vw.e rfl | exact Vw.s rfl | exact Vw.q _ | refine Vw.a ?_ | refine Vw.t ?_ | exact Vw.nil | exact Vw.fh rfl rfl (vws_dm _) | exact Vw.un _)) (hh : VH st.hp st.hp f st'.hp := by repeat (first | refine VH.cons rfl rfl vb_tpb ?_ | refine VH.cons rfl rfl (Vb.ob _) ?_ | exact VS.nil | exact VH.nil | exact Vws.nil | refine VS.cons rfl ?_ ?_ | refine VH.cons rfl rfl (Vb.box ?_) ?_ | refine VH.cons rfl rfl (Vb.arr ?_) ?_ | exact vws_dm _ | refine Vws.cons ?_ ?_ | exact Vw.d _ | exact Vw.p rfl | exact Vw.h rfl | exact Vw.e rfl | exact Vw.s rfl | exact Vw.q _ | refine Vw.a ?_ | refine Vw.t ?_ | exact Vw.nil | exact Vw.fh rfl rfl (vws_dm _) | exact Vw.un _)) : WC Γ (.loop x) k st := wc_loop I n st' (wk f hal hol hks hd hs hh) h0 hr
end
theorem sl {g h : Prop} (k : h) (f : h → g := by (first | (apply j_wk; first | exact wk_seq | exact wk_block_n | exact wk_seq_r | exact wk_block_r | exact wk_loop_r | exact wk_seq_e | exact wk_block_e | exact wk_block_o rfl | exact wk_loop_e | exact wk_cut_r | exact wk_cut_e) | (apply j_wl; first | (apply j_lg; first | exact wl_gt rfl rfl rfl | exact wl_gs' rfl rfl rfl rfl rfl rfl rfl | exact wl_gu rfl rfl rfl rfl rfl rfl) | exact wl_nil | (apply j_lmv; first | exact wl_r (o_move rfl rfl) rfl rfl rfl) | (apply j_las; first | exact wl_r (o_assign rfl rfl) rfl rfl rfl) | (apply j_lld; first | exact wl_r (o_load rfl rfl rfl (by exact inferInstance) rfl (by simp only [fillV, stV, cellsV, ldC, ldE, cond_true, cond_false, List.map_cons, List.map_nil, List.drop_zero, List.drop_succ_cons, List.take_succ_cons, List.take_zero, List.getElem?_cons_zero, List.getElem?_cons_succ, Nat.reduceAdd, Option.map_some]; exact rfl)) rfl rfl rfl | exact wl_r (o_loadq rfl rfl (by exact inferInstance) rfl (by simp only [fillV, stV, cellsV, ldC, ldE, cond_true, cond_false, List.map_cons, List.map_nil, List.drop_zero, List.drop_succ_cons, List.take_succ_cons, List.take_zero, List.getElem?_cons_zero, List.getElem?_cons_succ, Nat.reduceAdd, Option.map_some]; exact rfl)) rfl rfl rfl | exact wl_r (o_loade rfl rfl rfl (by exact inferInstance) rfl (by simp only [fillV, stV, cellsV, ldC, ldE, cond_true, cond_false, List.map_cons, List.map_nil, List.drop_zero, List.drop_succ_cons, List.take_succ_cons, List.take_zero, List.getElem?_cons_zero, List.getElem?_cons_succ, Nat.reduceAdd, Option.map_some]; exact rfl)) rfl rfl rfl) | (apply j_lfa; first | exact wl_r (o_fa rfl rfl) rfl rfl rfl | exact wl_r (o_faq rfl rfl (by simp only [List.drop_zero, List.drop_succ_cons]; exact rfl)) rfl rfl rfl | exact wl_r (o_fae rfl rfl) rfl rfl rfl) | (apply j_lpk; first | exact wl_r (o_pick rfl rfl rfl) rfl rfl rfl) | (apply j_lbi; first | exact wl_r (o_sub rfl rfl rfl rfl) rfl rfl rfl | exact wl_r (o_mul rfl rfl rfl rfl) rfl rfl rfl | exact wl_r (o_seq rfl rfl rfl) rfl rfl rfl | exact wl_r (o_sne rfl rfl rfl) rfl rfl rfl | exact wl_r (o_slt rfl rfl rfl) rfl rfl rfl | exact wl_r (o_sgt rfl rfl rfl) rfl rfl rfl | exact wl_r (o_sle rfl rfl rfl) rfl rfl rfl | exact wl_r (o_sge rfl rfl rfl) rfl rfl rfl | exact wl_r (o_ilt rfl rfl rfl) rfl rfl rfl | exact wl_r (o_ile rfl rfl rfl) rfl rfl rfl | exact wl_r (o_igt rfl rfl rfl) rfl rfl rfl | exact wl_r (o_ige rfl rfl rfl) rfl rfl rfl | exact wl_r (o_ieq rfl rfl rfl) rfl rfl rfl | exact wl_r (o_ine rfl rfl rfl) rfl rfl rfl | exact wl_r (o_beq rfl rfl rfl (by kernel_rfl)) rfl rfl rfl | exact wl_r (o_bne rfl rfl rfl (by kernel_rfl)) rfl rfl rfl | exact wl_r (o_eqc rfl rfl rfl (by simp only [ccV, Option.map_some]; exact rfl) (by simp only [ccV, Option.map_some]; exact rfl) (by exact inferInstance)) rfl rfl rfl | exact wl_r (o_nec rfl rfl rfl (by simp only [ccV, Option.map_some]; exact rfl) (by simp only [ccV, Option.map_some]; exact rfl) (by exact inferInstance)) rfl rfl rfl) | (apply j_lun; first | exact wl_r (o_not rfl rfl) rfl rfl rfl | exact wl_r (o_neg rfl rfl rfl) rfl rfl rfl) | (apply j_lex; first | exact wl_r (o_extract rfl rfl rfl) rfl rfl rfl) | (apply j_lbd; first | exact wl_r (o_build rfl rfl rfl (by simp only [fillV, stV, cellsV, ldC, ldE, cond_true, cond_false, List.map_cons, List.map_nil, List.drop_zero, List.drop_succ_cons, List.take_succ_cons, List.take_zero, List.getElem?_cons_zero, List.getElem?_cons_succ, Nat.reduceAdd, Option.map_some]; exact rfl)) rfl rfl rfl | exact wl_r (o_builda rfl rfl rfl (by simp only [fillV, stV, cellsV, ldC, ldE, cond_true, cond_false, List.map_cons, List.map_nil, List.drop_zero, List.drop_succ_cons, List.take_succ_cons, List.take_zero, List.getElem?_cons_zero, List.getElem?_cons_succ, Nat.reduceAdd, Option.map_some]; exact rfl)) rfl rfl rfl) | (apply j_lcb; first | exact wl_r (o_len_d rfl rfl) rfl rfl rfl | exact wl_r (o_len_h rfl rfl rfl) rfl rfl rfl | exact wl_r (o_len_s rfl rfl (by kernel_rfl)) rfl rfl rfl | exact wl_r (o_len_n rfl rfl) rfl rfl rfl | exact wl_r (o_len_v rfl rfl) rfl rfl rfl | exact wl_r (o_min rfl rfl rfl) rfl rfl rfl | exact wl_r (o_max rfl rfl rfl) rfl rfl rfl) | (apply j_lst; first | exact wl_0 (lo := 0) (nn := 0) (o_store rfl rfl rfl rfl (by exact inferInstance) rfl (by simp only [fillV, stV, cellsV, ldC, ldE, cond_true, cond_false, List.map_cons, List.map_nil, List.drop_zero, List.drop_succ_cons, List.take_succ_cons, List.take_zero, List.getElem?_cons_zero, List.getElem?_cons_succ, Nat.reduceAdd, Option.map_some]; exact rfl)) rfl rfl (fresh0 _ _)) | (apply j_lal; exact wl_1 (n_alloc rfl rfl (by simp only [Nat.reduceAdd]; exact rfl) (by exact ZeroI.out) rfl rfl) rfl rfl rfl rfl) | (apply j_lbx; exact wl_1 (n_box rfl rfl (by simp only [Nat.reduceAdd]; exact rfl) rfl rfl (by simp only [cellsV]; exact rfl)) rfl rfl rfl rfl) | exact wl_r (o_field rfl rfl rfl (by simp only [fillV, stV, cellsV, ldC, ldE, cond_true, cond_false, List.map_cons, List.map_nil, List.drop_zero, List.drop_succ_cons, List.take_succ_cons, List.take_zero, List.getElem?_cons_zero, List.getElem?_cons_succ, Nat.reduceAdd, Option.map_some]; exact rfl)) rfl rfl rfl | exact wl_r (o_nilc rfl rfl) rfl rfl rfl | exact wl_r (o_feq rfl rfl rfl (by kernel_rfl) (by first | exact rfl | assumption)) rfl rfl rfl) | (apply j_wo; first | exact wd_s rfl rfl (by first | exact .n rfl rfl rfl rfl rfl | exact .u rfl rfl rfl rfl) (hf := rfl) | (apply j_omv; first | exact wd_r [] (o_move rfl rfl) rfl (by first | exact .no rfl | exact .y rfl rfl rfl rfl) rfl rfl) | (apply j_oas; first | exact wd_r [] (o_assign rfl rfl) rfl (by first | exact .no rfl | exact .y rfl rfl rfl rfl) rfl rfl) | (apply j_old; first | exact wd_r [] (o_loadq rfl rfl (by exact inferInstance) rfl (by simp only [fillV, stV, cellsV, ldC, ldE, cond_true, cond_false, List.map_cons, List.map_nil, List.drop_zero, List.drop_succ_cons, List.take_succ_cons, List.take_zero, List.getElem?_cons_zero, List.getElem?_cons_succ, Nat.reduceAdd, Option.map_some]; exact rfl)) rfl (by first | exact .no rfl | exact .y rfl rfl rfl rfl) rfl rfl | exact wd_ld rfl rfl rfl (by exact inferInstance) rfl (by simp only [fillV, stV, cellsV, ldC, ldE, cond_true, cond_false, List.map_cons, List.map_nil, List.drop_zero, List.drop_succ_cons, List.take_succ_cons, List.take_zero, List.getElem?_cons_zero, List.getElem?_cons_succ, Nat.reduceAdd, Option.map_some]; exact rfl) rfl (by first | exact .no rfl | exact .y rfl rfl rfl rfl) rfl rfl | exact wd_lde rfl rfl rfl (by exact inferInstance) rfl (by simp only [fillV, stV, cellsV, ldC, ldE, cond_true, cond_false, List.map_cons, List.map_nil, List.drop_zero, List.drop_succ_cons, List.take_succ_cons, List.take_zero, List.getElem?_cons_zero, List.getElem?_cons_succ, Nat.reduceAdd, Option.map_some]; exact rfl) rfl (by first | exact .no rfl | exact .y rfl rfl rfl rfl) rfl rfl) | (apply j_ofa; first | exact wd_r [] (o_fa rfl rfl) rfl (by first | exact .no rfl | exact .y rfl rfl rfl rfl) rfl rfl | exact wd_r [] (o_faq rfl rfl (by simp only [List.drop_zero, List.drop_succ_cons]; exact rfl)) rfl (by first | exact .no rfl | exact .y rfl rfl rfl rfl) rfl rfl | exact wd_r [] (o_fae rfl rfl) rfl (by first | exact .no rfl | exact .y rfl rfl rfl rfl) rfl rfl) | (apply j_opk; first | exact wd_r [] (o_pick rfl rfl rfl) rfl (by first | exact .no rfl | exact .y rfl rfl rfl rfl) rfl rfl) | (apply j_obi; first | exact wd_r [] (o_sub rfl rfl rfl rfl) rfl (by first | exact .no rfl | exact .y rfl rfl rfl rfl) rfl rfl | exact wd_r [] (o_mul rfl rfl rfl rfl) rfl (by first | exact .no rfl | exact .y rfl rfl rfl rfl) rfl rfl | exact wd_r [] (o_seq rfl rfl rfl) rfl (by first | exact .no rfl | exact .y rfl rfl rfl rfl) rfl rfl | exact wd_r [] (o_sne rfl rfl rfl) rfl (by first | exact .no rfl | exact .y rfl rfl rfl rfl) rfl rfl | exact wd_r [] (o_slt rfl rfl rfl) rfl (by first | exact .no rfl | exact .y rfl rfl rfl rfl) rfl rfl | exact wd_r [] (o_sgt rfl rfl rfl) rfl (by first | exact .no rfl | exact .y rfl rfl rfl rfl) rfl rfl | exact wd_r [] (o_sle rfl rfl rfl) rfl (by first | exact .no rfl | exact .y rfl rfl rfl rfl) rfl rfl | exact wd_r [] (o_sge rfl rfl rfl) rfl (by first | exact .no rfl | exact .y rfl rfl rfl rfl) rfl rfl | exact wd_r [] (o_ilt rfl rfl rfl) rfl (by first | exact .no rfl | exact .y rfl rfl rfl rfl) rfl rfl | exact wd_r [] (o_ile rfl rfl rfl) rfl (by first | exact .no rfl | exact .y rfl rfl rfl rfl) rfl rfl | exact wd_r [] (o_igt rfl rfl rfl) rfl (by first | exact .no rfl | exact .y rfl rfl rfl rfl) rfl rfl | exact wd_r [] (o_ige rfl rfl rfl) rfl (by first | exact .no rfl | exact .y rfl rfl rfl rfl) rfl rfl | exact wd_r [] (o_ieq rfl rfl rfl) rfl (by first | exact .no rfl | exact .y rfl rfl rfl rfl) rfl rfl | exact wd_r [] (o_ine rfl rfl rfl) rfl (by first | exact .no rfl | exact .y rfl rfl rfl rfl) rfl rfl | exact wd_r [] (o_beq rfl rfl rfl (by kernel_rfl)) rfl (by first | exact .no rfl | exact .y rfl rfl rfl rfl) rfl rfl | exact wd_r [] (o_bne rfl rfl rfl (by kernel_rfl)) rfl (by first | exact .no rfl | exact .y rfl rfl rfl rfl) rfl rfl | exact wd_r [] (o_eqc rfl rfl rfl (by simp only [ccV, Option.map_some]; exact rfl) (by simp only [ccV, Option.map_some]; exact rfl) (by exact inferInstance)) rfl (by first | exact .no rfl | exact .y rfl rfl rfl rfl) rfl rfl | exact wd_r [] (o_nec rfl rfl rfl (by simp only [ccV, Option.map_some]; exact rfl) (by simp only [ccV, Option.map_some]; exact rfl) (by exact inferInstance)) rfl (by first | exact .no rfl | exact .y rfl rfl rfl rfl) rfl rfl) | (apply j_oun; first | exact wd_r [] (o_not rfl rfl) rfl (by first | exact .no rfl | exact .y rfl rfl rfl rfl) rfl rfl | exact wd_r [] (o_neg rfl rfl rfl) rfl (by first | exact .no rfl | exact .y rfl rfl rfl rfl) rfl rfl) | (apply j_oex; first | exact wd_r [] (o_extract rfl rfl rfl) rfl (by first | exact .no rfl | exact .y rfl rfl rfl rfl) rfl rfl) | (apply j_obd; first | exact wd_r [] (o_build rfl rfl rfl (by simp only [fillV, stV, cellsV, ldC, ldE, cond_true, cond_false, List.map_cons, List.map_nil, List.drop_zero, List.drop_succ_cons, List.take_succ_cons, List.take_zero, List.getElem?_cons_zero, List.getElem?_cons_succ, Nat.reduceAdd, Option.map_some]; exact rfl)) rfl (by first | exact .no rfl | exact .y rfl rfl rfl rfl) rfl rfl | exact wd_r [] (o_builda rfl rfl rfl (by simp only [fillV, stV, cellsV, ldC, ldE, cond_true, cond_false, List.map_cons, List.map_nil, List.drop_zero, List.drop_succ_cons, List.take_succ_cons, List.take_zero, List.getElem?_cons_zero, List.getElem?_cons_succ, Nat.reduceAdd, Option.map_some]; exact rfl)) rfl (by first | exact .no rfl | exact .y rfl rfl rfl rfl) rfl rfl) | (apply j_ocb; first | exact wd_r [] (o_len_d rfl rfl) rfl (by first | exact .no rfl | exact .y rfl rfl rfl rfl) rfl rfl | exact wd_r [] (o_len_s rfl rfl (by kernel_rfl)) rfl (by first | exact .no rfl | exact .y rfl rfl rfl rfl) rfl rfl | exact wd_r [] (o_len_n rfl rfl) rfl (by first | exact .no rfl | exact .y rfl rfl rfl rfl) rfl rfl | exact wd_r [] (o_len_v rfl rfl) rfl (by first | exact .no rfl | exact .y rfl rfl rfl rfl) rfl rfl | exact wd_r [] (o_min rfl rfl rfl) rfl (by first | exact .no rfl | exact .y rfl rfl rfl rfl) rfl rfl | exact wd_r [] (o_max rfl rfl rfl) rfl (by first | exact .no rfl | exact .y rfl rfl rfl rfl) rfl rfl | exact wd_lenh rfl rfl rfl rfl (by first | exact .no rfl | exact .y rfl rfl rfl rfl) rfl rfl) | (apply j_ost; first | exact wd_st rfl rfl rfl rfl (by exact inferInstance) rfl (by simp only [fillV, stV, cellsV, ldC, ldE, cond_true, cond_false, List.map_cons, List.map_nil, List.drop_zero, List.drop_succ_cons, List.take_succ_cons, List.take_zero, List.getElem?_cons_zero, List.getElem?_cons_succ, Nat.reduceAdd, Option.map_some]; exact rfl) rfl (by first | exact .no rfl | exact .y rfl rfl rfl rfl) rfl) | (apply j_oal; first | exact wd_1 [] (n_alloc rfl rfl (by simp only [Nat.reduceAdd]; exact rfl) (by exact ZeroI.out) rfl rfl) rfl (by first | exact .no rfl | exact .y rfl rfl rfl rfl) rfl rfl rfl) | (apply j_obx; first | exact wd_1 [] (n_box rfl rfl (by simp only [Nat.reduceAdd]; exact rfl) rfl rfl (by simp only [cellsV]; exact rfl)) rfl (by first | exact .no rfl | exact .y rfl rfl rfl rfl) rfl rfl rfl) | exact wd_r [] (o_field rfl rfl rfl (by simp only [fillV, stV, cellsV, ldC, ldE, cond_true, cond_false, List.map_cons, List.map_nil, List.drop_zero, List.drop_succ_cons, List.take_succ_cons, List.take_zero, List.getElem?_cons_zero, List.getElem?_cons_succ, Nat.reduceAdd, Option.map_some]; exact rfl)) rfl (by first | exact .no rfl | exact .y rfl rfl rfl rfl) rfl rfl | exact wd_r [] (o_nilc rfl rfl) rfl (by first | exact .no rfl | exact .y rfl rfl rfl rfl) rfl rfl | exact wd_r [] (o_feq rfl rfl rfl (by kernel_rfl) (by first | exact rfl | assumption)) rfl (by first | exact .no rfl | exact .y rfl rfl rfl rfl) rfl rfl) | exact wd_nil | exact wd_op rfl)) : g := f k
end Go.Proofs.YtjnnkpkbgdknmaaDoor
