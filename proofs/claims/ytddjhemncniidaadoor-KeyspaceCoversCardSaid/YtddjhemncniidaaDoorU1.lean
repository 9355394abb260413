/-
  Walks of the library's IndexFunc, DeleteFunc and Clone at lists of ranges.
-/
import Derived.Test.YtddjhemncniidaaDoorK11
import Derived.Test.YtddjhemncniidaaDoorV1
import Derived.Test.YtddjhemncniidaaDoorM8
namespace Go.Proofs.YtddjhemncniidaaDoor
set_option linter.unusedSimpArgs false
set_option linter.unusedVariables false
open Go.RowKit
attribute [local irreducible] contains emp vld vb vk adj isect hull proper greater lesser greatest least cmp Bnd.lt Op.bytesLess Calls Oper.wp wpList Code.wp Oper.upon
theorem empty_p_w (x : Rng) {w : World} : Calls Tryd.prog 42 #[.agg #[.string x.lo.key, .bool x.lo.top, .string x.hi.key, .bool x.hi.top]] w fun e w' => e = .returned (.bool (emp x)) ∧ Kp [] w w' := empty_p
def fidx (l : List Rng) : Int := if l.any emp then (l.findIdx emp : Int) else -1
set_option maxHeartbeats 1000000 in
theorem indexFunc_e {p : Option Addr} {n c : Nat} {l : List Rng} {w : World} (h1 : Rd w 4 (.slice p n c) n (rvals l)) (hn : n ≤ 1000000) :
    Calls Tryd.prog 62 #[.slice p n c, .func (.func 42) #[] #[]] w fun e w' => e = .returned (.int .i64 (fidx l)) ∧ Kp [] w w' := by
  have hl : l.length = n := h1.count rvz (by decide)
  have Hl := Lib.hid hl
  clear hl
  obtain ⟨tt, htt⟩ : ∃ tt, tt = fidx l := ⟨_, rfl⟩
  rw [← htt]
  have Ht := Lib.hid htt
  clear htt
  go_enter Tryd.func62, Tryd.ntmps62
  have hR := Rep.refl w
  generalize w = w0 at hR h1
  go_wp2_with (first | (refine wpList_box hR rfl rfl rfl rfl ?_; (try clear hF); clear hR; intro w B hR; (have hF := hR.facts); (try simp only [Facts, WFacts, facts_app, and_true, Nat.reduceAdd, Nat.zero_add] at hF); refine ⟨_, (by simp only [Act.put, List.setIfInBounds_toArray, List.set_cons_zero, List.set_cons_succ]; exact rfl), ?_⟩) | (refine wpList_alloc hR rfl rfl rfl (by first | exact zo2 | exact zo3 | exact zo4 | exact zo5 | exact zo9 | exact zo12 | exact zo20 | exact zo21 | exact zo22 | exact zo24 | exact zo25 | exact zo33 | exact zo35 | exact zo39 | exact zo48 | exact zo61 | exact zo66 | exact zo67 | exact zo75 | exact zo85 | exact zo87 | exact zo92 | exact zo106 | exact zo111) ?_; (try clear hF); clear hR; intro w B hR; (have hF := hR.facts); (try simp only [Facts, WFacts, facts_app, and_true, Nat.reduceAdd, Nat.zero_add] at hF); refine ⟨_, (by simp only [Act.put, List.setIfInBounds_toArray, List.set_cons_zero, List.set_cons_succ]; exact rfl), ?_⟩) | (refine wpList_st hR rfl rfl rfl rfl rfl (by repeat (first | exact At.here | apply At.there | apply At.skip)) (by first | exact ty2 | exact ty3 | exact ty4 | exact ty5 | exact ty9 | exact ty12 | exact ty20 | exact ty21 | exact ty22 | exact ty24 | exact ty25 | exact ty33 | exact ty35 | exact ty39 | exact ty48 | exact ty61 | exact ty66 | exact ty67 | exact ty75 | exact ty85 | exact ty87 | exact ty92 | exact ty106 | exact ty111) (by simp only [stL]; exact rfl) (by repeat (first | exact To.here | apply To.there | apply To.skip)) rfl ?_; (try clear hF); clear hR; intro w hR; (have hF := hR.facts); (try simp only [Facts, WFacts, facts_app, and_true, Nat.reduceAdd, Nat.zero_add] at hF)) | (refine wpList_bs hR rfl rfl rfl (by first | exact sl22 | exact sl33 | exact sl48 | exact sl67) rfl (by simp only [List.map_cons, List.map_nil, flat, eval_tmp, eval_con, List.getD_cons_succ, List.getD_cons_zero, cells_agg, cells_bool, cells_int, cells_str, cells_sl, cells_ptr, cells_map, cells_fn, List.cons_append, List.nil_append, List.append_nil]; exact rfl) ?_; (try clear hF); clear hR; intro w B hR; (have hF := hR.facts); (try simp only [Facts, WFacts, facts_app, and_true, Nat.reduceAdd, Nat.zero_add] at hF); refine ⟨_, (by simp only [Act.put, List.setIfInBounds_toArray, List.set_cons_zero, List.set_cons_succ]; exact rfl), ?_⟩) | (refine wpList_ld hR rfl rfl rfl (by repeat (first | exact At.here | apply At.there | apply At.skip)) (by first | exact ty2 | exact ty3 | exact ty4 | exact ty5 | exact ty9 | exact ty12 | exact ty20 | exact ty21 | exact ty22 | exact ty24 | exact ty25 | exact ty33 | exact ty35 | exact ty39 | exact ty48 | exact ty61 | exact ty66 | exact ty67 | exact ty75 | exact ty85 | exact ty87 | exact ty92 | exact ty106 | exact ty111) rfl (by simp only [Act.put, List.setIfInBounds_toArray, List.set_cons_zero, List.set_cons_succ, ldV, List.drop_succ_cons, List.drop_zero, List.take_succ_cons, List.take_zero, List.getD_cons_zero, List.getD_cons_succ]; exact rfl) ?_))
  go_loopw [8] (fun i wr => ∃ k : Nat, i = .int .i64 k ∧ k ≤ n ∧ Hid (∀ j r, j < k → l[j]? = some r → emp r = false) ∧ Rep w0 nof [] [] wr) (fun i _ => n - (intOf i).toNat)
  case atStart => exact ⟨0, rfl, Nat.zero_le _, Lib.hid (fun j r hj => by omega), hR⟩
  case round =>
    obtain ⟨k, rfl, hk, hno, hR⟩ := hrel
    by_cases hlt : k < n
    · have hlt' : (k : Int) < (n : Int) := by omega
      obtain ⟨r, hr⟩ : ∃ r, l[k]? = some r := ⟨l[k]'(by rw [Hl.out]; exact hlt), List.getElem?_eq_getElem _⟩
      obtain ⟨b, o, rfl, hR⟩ := h1.rw.elem rvz (by decide) hr hR
      have Hr := Lib.hid hr
      clear hr
      simp only [Rng.vals] at hR
      (have hF := hR.facts); (try simp only [Facts, WFacts, facts_app, and_true, Nat.reduceAdd, Nat.zero_add] at hF)
      cases he : emp r
      · go_wp2_with (first | (refine wpList_box hR rfl rfl rfl rfl ?_; (try clear hF); clear hR; intro w B hR; (have hF := hR.facts); (try simp only [Facts, WFacts, facts_app, and_true, Nat.reduceAdd, Nat.zero_add] at hF); refine ⟨_, (by simp only [Act.put, List.setIfInBounds_toArray, List.set_cons_zero, List.set_cons_succ]; exact rfl), ?_⟩) | (refine wpList_alloc hR rfl rfl rfl (by first | exact zo2 | exact zo3 | exact zo4 | exact zo5 | exact zo9 | exact zo12 | exact zo20 | exact zo21 | exact zo22 | exact zo24 | exact zo25 | exact zo33 | exact zo35 | exact zo39 | exact zo48 | exact zo61 | exact zo66 | exact zo67 | exact zo75 | exact zo85 | exact zo87 | exact zo92 | exact zo106 | exact zo111) ?_; (try clear hF); clear hR; intro w B hR; (have hF := hR.facts); (try simp only [Facts, WFacts, facts_app, and_true, Nat.reduceAdd, Nat.zero_add] at hF); refine ⟨_, (by simp only [Act.put, List.setIfInBounds_toArray, List.set_cons_zero, List.set_cons_succ]; exact rfl), ?_⟩) | (refine wpList_st hR rfl rfl rfl rfl rfl (by repeat (first | exact At.here | apply At.there | apply At.skip)) (by first | exact ty2 | exact ty3 | exact ty4 | exact ty5 | exact ty9 | exact ty12 | exact ty20 | exact ty21 | exact ty22 | exact ty24 | exact ty25 | exact ty33 | exact ty35 | exact ty39 | exact ty48 | exact ty61 | exact ty66 | exact ty67 | exact ty75 | exact ty85 | exact ty87 | exact ty92 | exact ty106 | exact ty111) (by simp only [stL]; exact rfl) (by repeat (first | exact To.here | apply To.there | apply To.skip)) rfl ?_; (try clear hF); clear hR; intro w hR; (have hF := hR.facts); (try simp only [Facts, WFacts, facts_app, and_true, Nat.reduceAdd, Nat.zero_add] at hF)) | (refine wpList_bs hR rfl rfl rfl (by first | exact sl22 | exact sl33 | exact sl48 | exact sl67) rfl (by simp only [List.map_cons, List.map_nil, flat, eval_tmp, eval_con, List.getD_cons_succ, List.getD_cons_zero, cells_agg, cells_bool, cells_int, cells_str, cells_sl, cells_ptr, cells_map, cells_fn, List.cons_append, List.nil_append, List.append_nil]; exact rfl) ?_; (try clear hF); clear hR; intro w B hR; (have hF := hR.facts); (try simp only [Facts, WFacts, facts_app, and_true, Nat.reduceAdd, Nat.zero_add] at hF); refine ⟨_, (by simp only [Act.put, List.setIfInBounds_toArray, List.set_cons_zero, List.set_cons_succ]; exact rfl), ?_⟩) | (refine wpList_ld hR rfl rfl rfl (by repeat (first | exact At.here | apply At.there | apply At.skip)) (by first | exact ty2 | exact ty3 | exact ty4 | exact ty5 | exact ty9 | exact ty12 | exact ty20 | exact ty21 | exact ty22 | exact ty24 | exact ty25 | exact ty33 | exact ty35 | exact ty39 | exact ty48 | exact ty61 | exact ty66 | exact ty67 | exact ty75 | exact ty85 | exact ty87 | exact ty92 | exact ty106 | exact ty111) rfl (by simp only [Act.put, List.setIfInBounds_toArray, List.set_cons_zero, List.set_cons_succ, ldV, List.drop_succ_cons, List.drop_zero, List.take_succ_cons, List.take_zero, List.getD_cons_zero, List.getD_cons_succ]; exact rfl) ?_) | (go_at_call 42; refine (empty_p_w r).mono ?_; rintro e w ⟨rfl, hb⟩; replace hR := hR.kp0 hb; (try clear hF); clear hb; (have hF := hR.facts); (try simp only [Facts, WFacts, facts_app, and_true, Nat.reduceAdd, Nat.zero_add] at hF)))
        go_roundw
        case rel => exact ⟨k + 1, by go_num, by omega, Lib.hid (fun j x hj hx => by
          by_cases hjk : j = k
          · subst hjk; rw [Hr.out] at hx; obtain rfl := Option.some.inj hx; exact he
          · exact hno.out j x (by omega) hx), hR.sub (by repeat (first | exact List.Sublist.refl _ | exact List.nil_sublist _ | exact List.sublist_append_left _ _ | apply List.Sublist.cons_cons | apply List.Sublist.cons | (apply List.Sublist.append_right) | (apply List.sublist_append_of_sublist_right))) (by repeat (first | exact List.Sublist.refl _ | exact List.nil_sublist _ | exact List.sublist_append_left _ _ | apply List.Sublist.cons_cons | apply List.Sublist.cons | (apply List.Sublist.append_right) | (apply List.sublist_append_of_sublist_right)))⟩
        case measure => simp [intOf]; omega
      · go_wp2_with (first | (refine wpList_box hR rfl rfl rfl rfl ?_; (try clear hF); clear hR; intro w B hR; (have hF := hR.facts); (try simp only [Facts, WFacts, facts_app, and_true, Nat.reduceAdd, Nat.zero_add] at hF); refine ⟨_, (by simp only [Act.put, List.setIfInBounds_toArray, List.set_cons_zero, List.set_cons_succ]; exact rfl), ?_⟩) | (refine wpList_alloc hR rfl rfl rfl (by first | exact zo2 | exact zo3 | exact zo4 | exact zo5 | exact zo9 | exact zo12 | exact zo20 | exact zo21 | exact zo22 | exact zo24 | exact zo25 | exact zo33 | exact zo35 | exact zo39 | exact zo48 | exact zo61 | exact zo66 | exact zo67 | exact zo75 | exact zo85 | exact zo87 | exact zo92 | exact zo106 | exact zo111) ?_; (try clear hF); clear hR; intro w B hR; (have hF := hR.facts); (try simp only [Facts, WFacts, facts_app, and_true, Nat.reduceAdd, Nat.zero_add] at hF); refine ⟨_, (by simp only [Act.put, List.setIfInBounds_toArray, List.set_cons_zero, List.set_cons_succ]; exact rfl), ?_⟩) | (refine wpList_st hR rfl rfl rfl rfl rfl (by repeat (first | exact At.here | apply At.there | apply At.skip)) (by first | exact ty2 | exact ty3 | exact ty4 | exact ty5 | exact ty9 | exact ty12 | exact ty20 | exact ty21 | exact ty22 | exact ty24 | exact ty25 | exact ty33 | exact ty35 | exact ty39 | exact ty48 | exact ty61 | exact ty66 | exact ty67 | exact ty75 | exact ty85 | exact ty87 | exact ty92 | exact ty106 | exact ty111) (by simp only [stL]; exact rfl) (by repeat (first | exact To.here | apply To.there | apply To.skip)) rfl ?_; (try clear hF); clear hR; intro w hR; (have hF := hR.facts); (try simp only [Facts, WFacts, facts_app, and_true, Nat.reduceAdd, Nat.zero_add] at hF)) | (refine wpList_bs hR rfl rfl rfl (by first | exact sl22 | exact sl33 | exact sl48 | exact sl67) rfl (by simp only [List.map_cons, List.map_nil, flat, eval_tmp, eval_con, List.getD_cons_succ, List.getD_cons_zero, cells_agg, cells_bool, cells_int, cells_str, cells_sl, cells_ptr, cells_map, cells_fn, List.cons_append, List.nil_append, List.append_nil]; exact rfl) ?_; (try clear hF); clear hR; intro w B hR; (have hF := hR.facts); (try simp only [Facts, WFacts, facts_app, and_true, Nat.reduceAdd, Nat.zero_add] at hF); refine ⟨_, (by simp only [Act.put, List.setIfInBounds_toArray, List.set_cons_zero, List.set_cons_succ]; exact rfl), ?_⟩) | (refine wpList_ld hR rfl rfl rfl (by repeat (first | exact At.here | apply At.there | apply At.skip)) (by first | exact ty2 | exact ty3 | exact ty4 | exact ty5 | exact ty9 | exact ty12 | exact ty20 | exact ty21 | exact ty22 | exact ty24 | exact ty25 | exact ty33 | exact ty35 | exact ty39 | exact ty48 | exact ty61 | exact ty66 | exact ty67 | exact ty75 | exact ty85 | exact ty87 | exact ty92 | exact ty106 | exact ty111) rfl (by simp only [Act.put, List.setIfInBounds_toArray, List.set_cons_zero, List.set_cons_succ, ldV, List.drop_succ_cons, List.drop_zero, List.take_succ_cons, List.take_zero, List.getD_cons_zero, List.getD_cons_succ]; exact rfl) ?_) | (go_at_call 42; refine (empty_p_w r).mono ?_; rintro e w ⟨rfl, hb⟩; replace hR := hR.kp0 hb; (try clear hF); clear hb; (have hF := hR.facts); (try simp only [Facts, WFacts, facts_app, and_true, Nat.reduceAdd, Nat.zero_add] at hF)))
        go_ret
        refine ⟨?_, hR.kp_nof⟩
        have h1 : l.findIdx emp = k := by
          rw [List.findIdx_eq (by rw [Hl.out]; exact hlt)]
          refine ⟨?_, fun j hj => ?_⟩
          · rw [(List.getElem?_eq_some_iff.1 Hr.out).2]; exact he
          · simpa using hno.out j _ hj (List.getElem?_eq_getElem (by rw [Hl.out]; omega))
        have h2 : l.any emp = true := List.any_eq_true.2 ⟨r, List.mem_of_getElem? Hr.out, he⟩
        rw [Ht.out]; simp [fidx, h1, h2]
    · obtain rfl : k = n := by omega
      go_wp2
      go_ret
      refine ⟨?_, hR.kp_nof⟩
      have h2 : l.any emp = false := by
        rw [List.any_eq_false]; intro x hx
        obtain ⟨j, hj, rfl⟩ := List.mem_iff_getElem.1 hx
        simpa using hno.out j _ (by rw [← Hl.out]; exact hj) (List.getElem?_eq_getElem hj)
      rw [Ht.out]; simp [fidx, h2]
end Go.Proofs.YtddjhemncniidaaDoor
