/-
  Walks of the library's Clone and SortFunc at lists of ranges.
-/
import Derived.Test.YtddjhemncniidaaDoorU2
import Derived.Shelf.SlSortCmp.WholeK
import Derived.Lib.SliceRun
import Derived.Shelf.SlSortCmp.NoneTotal
import Derived.Test.YtddjhemncniidaaDoorS1
namespace Go.Proofs.YtddjhemncniidaaDoor
set_option linter.unusedSimpArgs false
set_option linter.unusedVariables false
open Go.RowKit Go.Shelf
attribute [local irreducible] contains emp vld vb vk adj isect hull proper greater lesser greatest least cmp Bnd.lt Op.bytesLess Calls Oper.wp wpList Code.wp Oper.upon
set_option maxRecDepth 100000 in
set_option maxHeartbeats 1000000 in
theorem clone_e {p : Option Addr} {n c : Nat} {l : List Rng} {w : World} (h1 : Rd w 4 (.slice p n c) n (rvals l)) (hn : n ≤ 1000000) :
    Calls Tryd.prog 56 #[.slice p n c] w fun e w' => ∃ v sl, e = .returned v ∧ OS sl 35 4 v n (rvals l) ∧ Rep w nof [] sl w' := by
  have q := fun w a n c n' c' => Lib.run_eql_slice_nil (P := Tryd.prog) w 33 _ a n c n' c' Tryd.underlying33
  cases p with
  | none =>
    obtain rfl : n = 0 := by
      obtain ⟨p, c', e, -, h⟩ := h1.ex
      rcases h with h | ⟨b, o, h, -⟩
      · exact h
      · simp only [Value.slice.injEq] at e; rw [h] at e; cases e.1
    obtain rfl : l = [] := by have := h1.count rvz (by decide); exact List.eq_nil_of_length_eq_zero this
    go_enter Tryd.func56, Tryd.ntmps56
    have hR := Rep.refl w
    generalize w = w0 at hR h1
    go_wp2_with (first | (refine wpList_box hR rfl rfl rfl rfl ?_; (try clear hF); clear hR; intro w B hR; (have hF := hR.facts); (try simp only [Facts, WFacts, facts_app, and_true, Nat.reduceAdd, Nat.zero_add] at hF); refine ⟨_, (by simp only [Act.put, List.setIfInBounds_toArray, List.set_cons_zero, List.set_cons_succ]; exact rfl), ?_⟩) | (refine wpList_alloc hR rfl rfl rfl (by first | exact zo2 | exact zo3 | exact zo4 | exact zo5 | exact zo9 | exact zo12 | exact zo20 | exact zo21 | exact zo22 | exact zo24 | exact zo25 | exact zo33 | exact zo35 | exact zo39 | exact zo48 | exact zo61 | exact zo66 | exact zo67 | exact zo75 | exact zo85 | exact zo87 | exact zo92 | exact zo106 | exact zo111) ?_; (try clear hF); clear hR; intro w B hR; (have hF := hR.facts); (try simp only [Facts, WFacts, facts_app, and_true, Nat.reduceAdd, Nat.zero_add] at hF); refine ⟨_, (by simp only [Act.put, List.setIfInBounds_toArray, List.set_cons_zero, List.set_cons_succ]; exact rfl), ?_⟩) | (refine wpList_st hR rfl rfl rfl rfl rfl (by repeat (first | exact At.here | apply At.there | apply At.skip)) (by first | exact ty2 | exact ty3 | exact ty4 | exact ty5 | exact ty9 | exact ty12 | exact ty20 | exact ty21 | exact ty22 | exact ty24 | exact ty25 | exact ty33 | exact ty35 | exact ty39 | exact ty48 | exact ty61 | exact ty66 | exact ty67 | exact ty75 | exact ty85 | exact ty87 | exact ty92 | exact ty106 | exact ty111) (by simp only [stL]; exact rfl) (by repeat (first | exact To.here | apply To.there | apply To.skip)) rfl ?_; (try clear hF); clear hR; intro w hR; (have hF := hR.facts); (try simp only [Facts, WFacts, facts_app, and_true, Nat.reduceAdd, Nat.zero_add] at hF)) | (refine wpList_bs hR rfl rfl rfl (by first | exact sl22 | exact sl33 | exact sl48 | exact sl67) rfl (by simp only [List.map_cons, List.map_nil, flat, eval_tmp, eval_con, List.getD_cons_succ, List.getD_cons_zero, cells_agg, cells_bool, cells_int, cells_str, cells_sl, cells_ptr, cells_map, cells_fn, List.cons_append, List.nil_append, List.append_nil]; exact rfl) ?_; (try clear hF); clear hR; intro w B hR; (have hF := hR.facts); (try simp only [Facts, WFacts, facts_app, and_true, Nat.reduceAdd, Nat.zero_add] at hF); refine ⟨_, (by simp only [Act.put, List.setIfInBounds_toArray, List.set_cons_zero, List.set_cons_succ]; exact rfl), ?_⟩) | (refine wpList_ld hR rfl rfl rfl (by repeat (first | exact At.here | apply At.there | apply At.skip)) (by first | exact ty2 | exact ty3 | exact ty4 | exact ty5 | exact ty9 | exact ty12 | exact ty20 | exact ty21 | exact ty22 | exact ty24 | exact ty25 | exact ty33 | exact ty35 | exact ty39 | exact ty48 | exact ty61 | exact ty66 | exact ty67 | exact ty75 | exact ty85 | exact ty87 | exact ty92 | exact ty106 | exact ty111) rfl (by simp only [Act.put, List.setIfInBounds_toArray, List.set_cons_zero, List.set_cons_succ, ldV, List.drop_succ_cons, List.drop_zero, List.take_succ_cons, List.take_zero, List.getD_cons_zero, List.getD_cons_succ]; exact rfl) ?_))
    go_ret
    exact ⟨_, _, rfl, OS.nil _ _, hR⟩
  | some ad =>
    go_enter Tryd.func56, Tryd.ntmps56
    have hR := Rep.refl w
    generalize w = w0 at hR h1
    go_wp2_with (first | (refine wpList_append hR rfl rfl rfl rfl rfl (by first | exact sl22 | exact sl33 | exact sl48 | exact sl67) (OS.lit B 0 [] (by simp) (by decide)) (by repeat (first | exact Ctx.here | exact Ctx.last | exact Ctx.one | apply Ctx.there | apply Ctx.skip)) (h1.kp hR.kp_nof) (rvals_one l) (by omega) (by omega) ?_; (try clear hF); clear hR; intro v sl w hO hR; (try simp only [List.cons_append, List.nil_append] at hR); (have hF := hR.facts); (try simp only [Facts, WFacts, facts_app, and_true, Nat.reduceAdd, Nat.zero_add] at hF); refine ⟨_, (by simp only [Act.put, List.setIfInBounds_toArray, List.set_cons_zero, List.set_cons_succ]; exact rfl), ?_⟩) | (refine wpList_box hR rfl rfl rfl rfl ?_; (try clear hF); clear hR; intro w B hR; (have hF := hR.facts); (try simp only [Facts, WFacts, facts_app, and_true, Nat.reduceAdd, Nat.zero_add] at hF); refine ⟨_, (by simp only [Act.put, List.setIfInBounds_toArray, List.set_cons_zero, List.set_cons_succ]; exact rfl), ?_⟩) | (refine wpList_alloc hR rfl rfl rfl (by first | exact zo2 | exact zo3 | exact zo4 | exact zo5 | exact zo9 | exact zo12 | exact zo20 | exact zo21 | exact zo22 | exact zo24 | exact zo25 | exact zo33 | exact zo35 | exact zo39 | exact zo48 | exact zo61 | exact zo66 | exact zo67 | exact zo75 | exact zo85 | exact zo87 | exact zo92 | exact zo106 | exact zo111) ?_; (try clear hF); clear hR; intro w B hR; (have hF := hR.facts); (try simp only [Facts, WFacts, facts_app, and_true, Nat.reduceAdd, Nat.zero_add] at hF); refine ⟨_, (by simp only [Act.put, List.setIfInBounds_toArray, List.set_cons_zero, List.set_cons_succ]; exact rfl), ?_⟩) | (refine wpList_st hR rfl rfl rfl rfl rfl (by repeat (first | exact At.here | apply At.there | apply At.skip)) (by first | exact ty2 | exact ty3 | exact ty4 | exact ty5 | exact ty9 | exact ty12 | exact ty20 | exact ty21 | exact ty22 | exact ty24 | exact ty25 | exact ty33 | exact ty35 | exact ty39 | exact ty48 | exact ty61 | exact ty66 | exact ty67 | exact ty75 | exact ty85 | exact ty87 | exact ty92 | exact ty106 | exact ty111) (by simp only [stL]; exact rfl) (by repeat (first | exact To.here | apply To.there | apply To.skip)) rfl ?_; (try clear hF); clear hR; intro w hR; (have hF := hR.facts); (try simp only [Facts, WFacts, facts_app, and_true, Nat.reduceAdd, Nat.zero_add] at hF)) | (refine wpList_bs hR rfl rfl rfl (by first | exact sl22 | exact sl33 | exact sl48 | exact sl67) rfl (by simp only [List.map_cons, List.map_nil, flat, eval_tmp, eval_con, List.getD_cons_succ, List.getD_cons_zero, cells_agg, cells_bool, cells_int, cells_str, cells_sl, cells_ptr, cells_map, cells_fn, List.cons_append, List.nil_append, List.append_nil]; exact rfl) ?_; (try clear hF); clear hR; intro w B hR; (have hF := hR.facts); (try simp only [Facts, WFacts, facts_app, and_true, Nat.reduceAdd, Nat.zero_add] at hF); refine ⟨_, (by simp only [Act.put, List.setIfInBounds_toArray, List.set_cons_zero, List.set_cons_succ]; exact rfl), ?_⟩) | (refine wpList_ld hR rfl rfl rfl (by repeat (first | exact At.here | apply At.there | apply At.skip)) (by first | exact ty2 | exact ty3 | exact ty4 | exact ty5 | exact ty9 | exact ty12 | exact ty20 | exact ty21 | exact ty22 | exact ty24 | exact ty25 | exact ty33 | exact ty35 | exact ty39 | exact ty48 | exact ty61 | exact ty66 | exact ty67 | exact ty75 | exact ty85 | exact ty87 | exact ty92 | exact ty106 | exact ty111) rfl (by simp only [Act.put, List.setIfInBounds_toArray, List.set_cons_zero, List.set_cons_succ, ldV, List.drop_succ_cons, List.drop_zero, List.take_succ_cons, List.take_zero, List.getD_cons_zero, List.getD_cons_succ]; exact rfl) ?_))
    go_ret
    refine ⟨_, _, rfl, by simpa using hO, hR.sub (by repeat (first | exact List.Sublist.refl _ | exact List.nil_sublist _ | exact List.sublist_append_left _ _ | apply List.Sublist.cons_cons | apply List.Sublist.cons | (apply List.Sublist.append_right) | (apply List.sublist_append_of_sublist_right)))⟩

/-! ### The sort -/
instance : Inhabited Rng := ⟨zr⟩
open Go.Sort in
theorem flatK_fl {α : Type} [Inhabited α] {enc : α → List Value} {k : Nat} (hz : ∀ x, (enc x).length = k) (l : List α) : flatK enc k l.toArray = (fl enc l).toArray := by
  apply Array.ext_getElem?
  intro t
  have hl := fl_length hz l
  by_cases ht : t < l.length * k
  · have hk : 0 < k := Nat.pos_of_ne_zero fun h => by rw [h] at ht; omega
    have hi : t / k < l.length := (Nat.div_lt_iff_lt_mul hk).2 ht
    have hj : t % k < k := Nat.mod_lt t hk
    have h1 := fl_get hz (List.getElem?_eq_getElem hi) (j := t % k) (List.getElem?_eq_getElem (by rw [hz]; exact hj))
    rw [show t / k * k + t % k = t by rw [Nat.mul_comm]; exact Nat.div_add_mod t k] at h1
    rw [List.getElem?_toArray (xs := fl enc l), h1]
    simp only [flatK, Array.getElem?_map, Array.getElem?_range, List.size_toArray, ht, if_true, Option.map_some]
    congr 1
    rw [getElem!_pos l.toArray (t / k) (by simpa using hi), getElem!_pos _ (t % k) (by simp [hz, hj])]
    simp
  · rw [List.getElem?_toArray (xs := fl enc l), List.getElem?_eq_none (by omega), Array.getElem?_eq_none (by simp; omega)]
open Go.Sort in
theorem sorted_rep {w0 w : World} {X : Fr} {R : List Win} {S sl pre post : List OB} {E : TypeId} {n cap g m : Nat} {l s : List Rng} {os : Array Obj} (hR : Rep w0 X R S w) (hO : OS sl E 4 (.slice (some ⟨g, 0, none⟩) n cap) n (rvals l)) (hC : Ctx S sl pre post) (hs : s.length = l.length) :
    ∃ sl', OS sl' E 4 (.slice (some ⟨g, 0, none⟩) n cap) n (rvals s) ∧ Rep w0 X R (pre ++ (sl' ++ post)) (sortWorldK Rng.vals 4 w g 0 m s.toArray os) := by
  rcases hO.2 with ⟨-, e, -⟩ | ⟨g', cap', sp, rfl, e, h2, h3, h4⟩
  · simp at e
  · simp only [Value.slice.injEq, Option.some.injEq, Addr.mk.injEq, and_true, true_and] at e
    obtain ⟨rfl, rfl⟩ := e
    have hmem : (⟨g, E, rvals l ++ sp⟩ : OB) ∈ S := (sub_ctx hC).subset List.mem_cons_self
    have hg : w.heap[g]? = some (.cells (rvals l ++ sp).toArray E (0, 0)) := hR.own _ hmem
    have hlt : g < w.heap.size := hR.lt hmem
    have hsl : (rvals s).length = (rvals l).length := by rw [rvals_length, rvals_length, hs]
    refine ⟨[⟨g, E, rvals s ++ sp⟩], ⟨by rw [hsl]; exact hO.1, .inr ⟨g, cap, sp, rfl, rfl, h2, h3, by rw [List.length_append, hsl, ← List.length_append]; exact h4⟩⟩, ?_⟩
    have hF : flatK Rng.vals 4 s.toArray = (rvals s).toArray := flatK_fl rvz s
    refine hR.replace hC (B := g) (fun k hk hne => ?_) rfl rfl rfl ?_ ?_ (.inl ⟨_, List.mem_cons_self, rfl⟩)
    · simp only [sortWorldK, putRowK, putRow, mapBlock, grow]
      rw [Array.getElem?_append_left (by simpa [ahead] using hk), Array.getElem?_modify, if_neg (Ne.symm hne)]; rfl
    · simp [sortWorldK, putRowK, putRow, mapBlock, grow, ahead]
    · simp only [sortWorldK, putRowK, putRow, mapBlock, grow]
      rw [Array.getElem?_append_left (by simpa [ahead] using hlt), Array.getElem?_modify, if_pos rfl]
      have ha : (Go.Sort.ahead w m).heap[g]? = some (.cells (rvals l ++ sp).toArray E (0, 0)) := hg
      rw [ha, hF]
      simp only [Option.map_some, onCells]
      congr 2
      apply Array.ext_getElem?
      intro k
      simp only [putCells, Array.getElem?_mapIdx, List.getElem?_toArray, List.size_toArray, Nat.zero_le, true_and, Nat.zero_add, Nat.sub_zero, id]
      by_cases hk : k < (rvals s).length
      · rw [List.getElem?_append_left hk, List.getElem?_append_left (by omega), List.getElem?_eq_getElem hk, List.getElem?_eq_getElem (by omega)]
        simp only [Option.map_some, hk, if_true]
        rw [getElem!_pos _ k (by simpa using hk)]; simp
      · rw [List.getElem?_append_right (by omega), List.getElem?_append_right (by omega), hsl]
        have hk' : ¬ k < (rvals l).length := by omega
        cases sp[k - (rvals l).length]? <;> simp [hk']
open Go.Sort in
theorem holds_os {w0 w : World} {X : Fr} {R : List Win} {S sl pre post : List OB} {E : TypeId} {n cap g : Nat} {l : List Rng} (hR : Rep w0 X R S w) (hO : OS sl E 4 (.slice (some ⟨g, 0, none⟩) n cap) n (rvals l)) (hC : Ctx S sl pre post) : HoldsK Rng.vals 4 w g 0 l.toArray := by
  rcases hO.2 with ⟨-, e, -⟩ | ⟨g', cap', sp, rfl, e, h2, h3, h4⟩
  · simp at e
  · simp only [Value.slice.injEq, Option.some.injEq, Addr.mk.injEq, and_true, true_and] at e
    obtain ⟨rfl, rfl⟩ := e
    have hmem : (⟨g, E, rvals l ++ sp⟩ : OB) ∈ S := (sub_ctx hC).subset List.mem_cons_self
    have hg : w.heap[g]? = some (.cells (rvals l ++ sp).toArray E (0, 0)) := hR.own _ hmem
    unfold HoldsK
    rw [flatK_fl rvz l]
    intro j hj
    have hj' : j < (rvals l).length := by rw [rvals_fl]; simpa using hj
    constructor
    · rw [Nat.zero_add, hR.cells hmem]
      simp only [id]
      rw [List.getElem?_append_left hj', List.getElem?_eq_getElem hj', getElem!_pos _ j hj]; rfl
    · simp [World.frozen?, hg]
def cmpLo (x y : Rng) : Int := cmp x.lo y.lo
theorem ltOf_lo (x y : Rng) : Go.Proofs.ltOf cmpLo x y = x.lo.lt y.lo := by
  have := cmp_neg x.lo y.lo
  unfold Go.Proofs.ltOf cmpLo
  cases h : x.lo.lt y.lo
  · rw [h] at this; simpa using this
  · rw [h] at this; simpa using this
theorem swo_lo : Go.Sort.SWO (Go.Proofs.ltOf cmpLo) := by
  refine ⟨fun x => ?_, fun x y z h k => ?_, fun x y z h k => ?_⟩
  · rw [ltOf_lo]; exact lt_irrefl _
  · rw [ltOf_lo] at *; exact lt_trans h k
  · rw [ltOf_lo] at *
    have h1 := leLo_trans z y x (by simp [leLo, k]) (by simp [leLo, h])
    simpa [leLo] using h1
theorem compare_gp {a b : ByteArray} {s t : Bool} {w : World} :
    Calls Tryd.prog 15 #[.agg #[.string a, .bool s], .agg #[.string b, .bool t]] w fun e w' => e = .returned (.int .i64 (cmp ⟨a, s⟩ ⟨b, t⟩)) ∧ ∃ o1 o2, w' = (w.alloc o1).alloc o2 := by
  go_enter Tryd.func15, Tryd.ntmps15
  go_wp2
  all_goals go_ret
  all_goals refine ⟨ret_int ?_, _, _, rfl⟩
  all_goals first | (simp [cmp, Bnd.lt, *]; done) | (rename_i h1 h2; simp [cmp, Bnd.lt, *, bl_gt h1 h2]; done) | (rename_i h1 h2; simp [cmp, Bnd.lt, *, bl_ge h2]; done) | (rename_i h1; simp [cmp, Bnd.lt, *, bl_gt (by simpa using h1.1) h1.2, show Op.bytesLess a.toList b.toList = false by simpa using h1.1]; done) | (rename_i h1 h2; simp [cmp, Bnd.lt, *, bl_ge2 h1 h2]; done)
set_option maxRecDepth 100000 in
set_option maxHeartbeats 1000000 in
theorem closure_lo (x y : Rng) (w : World) : Calls Tryd.prog 58 #[.agg x.vals.toArray, .agg y.vals.toArray] w fun e w' => e = .returned (.int .i64 (cmpLo x y)) ∧ ∃ q os', w' = Go.Sort.grow (w.drewN q) os' := by
  simp only [Rng.vals, cmpLo]
  go_enter Tryd.func58, Tryd.ntmps58
  go_wp2_with (go_at_call 15; refine (compare_gp).mono ?_; rintro e w' ⟨rfl, o1, o2, rfl⟩)
  go_ret
  exact ⟨rfl, 0, _, by rw [Go.Sort.alloc_eq_grow, Go.Sort.alloc_eq_grow, Go.Sort.alloc_eq_grow, Go.Sort.alloc_eq_grow, Go.Sort.grow_grow, Go.Sort.grow_grow, Go.Sort.grow_grow]; rfl⟩
theorem sortFunc_e {w0 w : World} {X : Fr} {R : List Win} {S sl pre post : List OB} {v : Value} {n : Nat} {l : List Rng} (hR : Rep w0 X R S w) (hO : OS sl 35 4 v n (rvals l)) (hC : Ctx S sl pre post) (hn : n ≤ 1000000) :
    Calls Tryd.prog 57 #[v, .func (.func 58) #[] #[]] w fun e w' => e = .returned (.tuple #[]) ∧ ∃ s sl', s.Perm l ∧ Srt s ∧ OS sl' 35 4 v n (rvals s) ∧ Rep w0 X R (pre ++ (sl' ++ post)) w' := by
  have hl : l.length = n := (hO.rdC hR hC).count rvz (by decide)
  rcases hO.2 with ⟨hsl, hv, hn0⟩ | ⟨g, cap, sp, hsl, hv, -⟩
  · have h0 : l = [] := List.eq_nil_of_length_eq_zero (hl.trans hn0)
    subst h0 hv hn0
    refine (AnyF.slices_SortFunc_none Tryd.sortR none 0 _ w).mono ?_
    rintro e w' ⟨rfl, rfl⟩
    exact ⟨rfl, [], sl, List.Perm.refl _, .nil, hO, by rw [hC.eq] at hR; exact hR⟩
  · subst hv hl
    have eg : ∀ args w, (callFunc 58 args).run Tryd.prog w = .ok (.enter 58 args) w := enters_of Tryd.func58 (by kernel_rfl) rfl
    refine (AnyQ.slices_SortFunc Tryd.sortR 4 Tryd.isAgg35 Tryd.sizeOf35 Rng.vals rvz (fun x v hv => by have := List.all_eq_true.1 (show x.vals.all Value.oneCell' = true from rfl) v hv; exact this) cmpLo swo_lo 58 #[] g 0 cap l.toArray w eg (fun m os dk _ x y => (closure_lo x y _).mono fun e w' ⟨he, hk⟩ => ⟨he, hk⟩) (holds_os hR hO hC) (hR.lt ((sub_ctx hC).subset (by rw [hsl]; exact List.mem_cons_self))) (by simp; omega)).mono ?_
    rintro e w' ⟨rfl, d', m, os, hp, hs, rfl⟩
    obtain ⟨s, rfl⟩ : ∃ s : List Rng, d' = s.toArray := ⟨d'.toList, by simp⟩
    have hsz : s.length = l.length := by simpa using hp.1
    obtain ⟨sl', h1, h2⟩ := sorted_rep (m := m) (os := os) hR hO hC hsz
    refine ⟨rfl, s, sl', ?_, ?_, h1, h2⟩
    · have := hp.2.2
      simpa [hsz, List.take_of_length_le (Nat.le_of_eq hsz)] using this
    · refine List.pairwise_iff_getElem.2 fun i j hi hj hij => ?_
      have := hs i j (Nat.zero_le _) hij (by simpa [← hsz] using hj)
      rw [ltOf_lo, getElem!_pos _ j (by simpa using hj), getElem!_pos _ i (by simpa using hi)] at this
      simpa using this
end Go.Proofs.YtddjhemncniidaaDoor
