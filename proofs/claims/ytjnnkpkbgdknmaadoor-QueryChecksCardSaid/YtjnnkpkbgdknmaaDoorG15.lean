/-
  Lemmas: Walks of the library's Clone and SortFunc at lists of ranges. / The walk of Union in keyspace. / The walk of Union in the reference. / The walk of keyspace.Prefix. / The walk of Prefix in the reference. / Contracts of the first engine, over states: Union, Prefix. / What the rows of the laws share, for walks over states: the letters that the listed variable holds, the numbers of the tape, the post. / Arguments of the laws, opened, as values of a walk over states; from a walk over states to the row's claim. / Contracts: equal queries, well-formed queries. / Contracts: the makers of a query's ranges; its check in the program. / Contracts: the ranges of a query. / Aggregates in the program, of rows whose value is 1. / The length of a union. / An answer of the program (of one row whose value is 1); the examples of the chapter. / The walks of QueryChecks and QueryRanges, over states: they return true.
-/
import Derived.Test.YtjnnkpkbgdknmaaDoorG14
import Derived.Shelf.SlSortCmp.WholeK
import Derived.Lib.SliceRun
import Derived.Shelf.SlSortCmp.NoneTotal
import Derived.Test.YtjnnkpkbgdknmaaDoorG12
import Derived.Laws.IdiomStrings
import Derived.Laws.BytesArg
import Derived.Test.YtjnnkpkbgdknmaaDoorG13
import Derived.Test.YtjnnkpkbgdknmaaDoorCards
import Derived.Test.YtjnnkpkbgdknmaaDoorTie
import Derived.WalkKit
import Derived.ProofKit
import Derived.OpenShut
import Derived.Deep.DeepHandedRow
import Derived.Lib.LaidTab
import Derived.Lib.SmallJoins
import Derived.Deep.Slices
namespace Go.Proofs.YtjnnkpkbgdknmaaDoor
set_option linter.unusedSimpArgs false
set_option linter.unusedVariables false
open Go.RowKit Go.Shelf
attribute [local irreducible] contains emp vld vb vk adj isect hull proper greater lesser greatest least cmp Bnd.lt Op.bytesLess Calls Oper.wp wpList Code.wp Oper.upon
set_option maxRecDepth 100000 in
set_option maxHeartbeats 1000000 in
theorem clone_e {p : Option Addr} {n c : Nat} {l : List Rng} {w : World} (h1 : Rd w 4 (.slice p n c) n (rvals l)) (hn : n ≤ 1000000) :
    Calls Tryd.prog 83 #[.slice p n c] w fun e w' => ∃ v sl, e = .returned v ∧ OS sl 50 4 v n (rvals l) ∧ Rep w nof [] sl w' := by
  have q := fun w a n c n' c' => Lib.run_eql_slice_nil (P := Tryd.prog) w 23 _ a n c n' c' Tryd.underlying23
  cases p with
  | none =>
    obtain rfl : n = 0 := by
      obtain ⟨p, c', e, -, h⟩ := h1.ex
      rcases h with h | ⟨b, o, h, -⟩
      · exact h
      · simp only [Value.slice.injEq] at e; rw [h] at e; cases e.1
    obtain rfl : l = [] := by have := h1.count rvz (by decide); exact List.eq_nil_of_length_eq_zero this
    go_enter Tryd.func83, Tryd.ntmps83
    have hR := Rep.refl w
    generalize w = w0 at hR h1
    go_wp2_with (first | (refine wl_ld hR ?_) | (refine wl_st hR ?_; (try clear hF); clear hR; intro w hR; have hF := hR.fx) | (refine wl_mem hR ?_; (try clear hF); clear hR; intro w B hR; have hF := hR.fx))
    go_ret
    exact ⟨_, _, rfl, OS.nil _ _, hR⟩
  | some ad =>
    go_enter Tryd.func83, Tryd.ntmps83
    have hR := Rep.refl w
    generalize w = w0 at hR h1
    go_wp2_with (first | (refine wl_append (h1 := rvals_one l) hR rfl rfl rfl rfl rfl (OS.lit B 0 [] (by simp) (by decide)) (h1.kp hR.kp_nof) ?_; (try clear hF); clear hR; intro v sl w hO hR; have hF := hR.fx) | (refine wl_ld hR ?_) | (refine wl_st hR ?_; (try clear hF); clear hR; intro w hR; have hF := hR.fx) | (refine wl_mem hR ?_; (try clear hF); clear hR; intro w B hR; have hF := hR.fx))
    go_ret
    refine ⟨_, _, rfl, by simpa using hO, hR.sub sub_any⟩

/-! ### The sort -/
instance : Inhabited Rng := ⟨zr⟩
open Go.Sort in
theorem flatK_fl {α : Type} [Inhabited α] {enc : α → List Value} {k : Nat} (hz : ∀ x, (enc x).length = k) (l : List α) : flatK enc k l.toArray = (fl enc l).toArray := by
  apply Array.ext_getElem?
  intro t
  have hl := fl_length hz l
  by_cases ht : t < l.length * k
  · have hk : 0 < k := Nat.pos_of_ne_zero fun h => by rw [h] at ht; omega
    have hi : t / k < l.length := (Nat.div_lt_iff_lt_mul hk).2 ht
    have hj : t % k < k := Nat.mod_lt t hk
    have h1 := fl_get hz (List.getElem?_eq_getElem hi) (j := t % k) (List.getElem?_eq_getElem (by rw [hz]; exact hj))
    rw [show t / k * k + t % k = t by rw [Nat.mul_comm]; exact Nat.div_add_mod t k] at h1
    rw [List.getElem?_toArray (xs := fl enc l), h1]
    simp only [flatK, Array.getElem?_map, Array.getElem?_range, List.size_toArray, ht, if_true, Option.map_some]
    congr 1
    rw [getElem!_pos l.toArray (t / k) (by simpa using hi), getElem!_pos _ (t % k) (by simp [hz, hj])]
    simp
  · rw [List.getElem?_toArray (xs := fl enc l), List.getElem?_eq_none (by omega), Array.getElem?_eq_none (by simp; omega)]
open Go.Sort in
theorem sorted_rep {w0 w : World} {X : Fr} {R : List Win} {S sl pre post : List OB} {E : TypeId} {n cap g m : Nat} {l s : List Rng} {os : Array Obj} (hR : Rep w0 X R S w) (hO : OS sl E 4 (.slice (some ⟨g, 0, none⟩) n cap) n (rvals l)) (hC : Ctx S sl pre post) (hs : s.length = l.length) :
    ∃ sl', OS sl' E 4 (.slice (some ⟨g, 0, none⟩) n cap) n (rvals s) ∧ Rep w0 X R (pre ++ (sl' ++ post)) (sortWorldK Rng.vals 4 w g 0 m s.toArray os) := by
  rcases hO.2 with ⟨-, e, -⟩ | ⟨g', cap', sp, rfl, e, h2, h3, h4⟩
  · simp at e
  · simp only [Value.slice.injEq, Option.some.injEq, Addr.mk.injEq, and_true, true_and] at e
    obtain ⟨rfl, rfl⟩ := e
    have hmem : (⟨g, E, rvals l ++ sp⟩ : OB) ∈ S := (sub_ctx hC).subset List.mem_cons_self
    have hg : w.heap[g]? = some (.cells (rvals l ++ sp).toArray E (0, 0)) := hR.own _ hmem
    have hlt : g < w.heap.size := hR.lt hmem
    have hsl : (rvals s).length = (rvals l).length := by rw [rvals_length, rvals_length, hs]
    refine ⟨[⟨g, E, rvals s ++ sp⟩], ⟨by rw [hsl]; exact hO.1, .inr ⟨g, cap, sp, rfl, rfl, h2, h3, by rw [List.length_append, hsl, ← List.length_append]; exact h4⟩⟩, ?_⟩
    have hF : flatK Rng.vals 4 s.toArray = (rvals s).toArray := flatK_fl rvz s
    refine hR.replace hC (B := g) (fun k hk hne => ?_) rfl rfl rfl ?_ ?_ (.inl ⟨_, List.mem_cons_self, rfl⟩)
    · simp only [sortWorldK, putRowK, putRow, mapBlock, grow]
      rw [Array.getElem?_append_left (by simpa [ahead] using hk), Array.getElem?_modify, if_neg (Ne.symm hne)]; rfl
    · simp [sortWorldK, putRowK, putRow, mapBlock, grow, ahead]
    · simp only [sortWorldK, putRowK, putRow, mapBlock, grow]
      rw [Array.getElem?_append_left (by simpa [ahead] using hlt), Array.getElem?_modify, if_pos rfl]
      have ha : (Go.Sort.ahead w m).heap[g]? = some (.cells (rvals l ++ sp).toArray E (0, 0)) := hg
      rw [ha, hF]
      simp only [Option.map_some, onCells]
      congr 2
      apply Array.ext_getElem?
      intro k
      simp only [putCells, Array.getElem?_mapIdx, List.getElem?_toArray, List.size_toArray, Nat.zero_le, true_and, Nat.zero_add, Nat.sub_zero, id]
      by_cases hk : k < (rvals s).length
      · rw [List.getElem?_append_left hk, List.getElem?_append_left (by omega), List.getElem?_eq_getElem hk, List.getElem?_eq_getElem (by omega)]
        simp only [Option.map_some, hk, if_true]
        rw [getElem!_pos _ k (by simpa using hk)]; simp
      · rw [List.getElem?_append_right (by omega), List.getElem?_append_right (by omega), hsl]
        have hk' : ¬ k < (rvals l).length := by omega
        cases sp[k - (rvals l).length]? <;> simp [hk']
open Go.Sort in
theorem holds_os {w0 w : World} {X : Fr} {R : List Win} {S sl pre post : List OB} {E : TypeId} {n cap g : Nat} {l : List Rng} (hR : Rep w0 X R S w) (hO : OS sl E 4 (.slice (some ⟨g, 0, none⟩) n cap) n (rvals l)) (hC : Ctx S sl pre post) : HoldsK Rng.vals 4 w g 0 l.toArray := by
  rcases hO.2 with ⟨-, e, -⟩ | ⟨g', cap', sp, rfl, e, h2, h3, h4⟩
  · simp at e
  · simp only [Value.slice.injEq, Option.some.injEq, Addr.mk.injEq, and_true, true_and] at e
    obtain ⟨rfl, rfl⟩ := e
    have hmem : (⟨g, E, rvals l ++ sp⟩ : OB) ∈ S := (sub_ctx hC).subset List.mem_cons_self
    have hg : w.heap[g]? = some (.cells (rvals l ++ sp).toArray E (0, 0)) := hR.own _ hmem
    unfold HoldsK
    rw [flatK_fl rvz l]
    intro j hj
    have hj' : j < (rvals l).length := by rw [rvals_fl]; simpa using hj
    constructor
    · rw [Nat.zero_add, hR.cells hmem]
      simp only [id]
      rw [List.getElem?_append_left hj', List.getElem?_eq_getElem hj', getElem!_pos _ j hj]; rfl
    · simp [World.frozen?, hg]
def cmpLo (x y : Rng) : Int := cmp x.lo y.lo
theorem ltOf_lo (x y : Rng) : Go.Proofs.ltOf cmpLo x y = x.lo.lt y.lo := by
  have := cmp_neg x.lo y.lo
  unfold Go.Proofs.ltOf cmpLo
  cases h : x.lo.lt y.lo
  · rw [h] at this; simpa using this
  · rw [h] at this; simpa using this
theorem swo_lo : Go.Sort.SWO (Go.Proofs.ltOf cmpLo) := by
  refine ⟨fun x => ?_, fun x y z h k => ?_, fun x y z h k => ?_⟩
  · rw [ltOf_lo]; exact lt_irrefl _
  · rw [ltOf_lo] at *; exact lt_trans h k
  · rw [ltOf_lo] at *
    have h1 := leLo_trans z y x (by simp [leLo, k]) (by simp [leLo, h])
    simpa [leLo] using h1
theorem compare_gp {a b : ByteArray} {s t : Bool} {w : World} :
    Calls Tryd.prog 70 #[.agg #[.string a, .bool s], .agg #[.string b, .bool t]] w fun e w' => e = .returned (.int .i64 (cmp ⟨a, s⟩ ⟨b, t⟩)) ∧ ∃ o1 o2, w' = (w.alloc o1).alloc o2 := by
  go_enter Tryd.func70, Tryd.ntmps70
  go_wp2
  all_goals go_ret
  all_goals refine ⟨ret_int ?_, _, _, rfl⟩
  all_goals first | (simp [cmp, Bnd.lt, *]; done) | (rename_i h1 h2; simp [cmp, Bnd.lt, *, bl_gt h1 h2]; done) | (rename_i h1 h2; simp [cmp, Bnd.lt, *, bl_ge h2]; done) | (rename_i h1; simp [cmp, Bnd.lt, *, bl_gt (by simpa using h1.1) h1.2, show Op.bytesLess a.toList b.toList = false by simpa using h1.1]; done) | (rename_i h1 h2; simp [cmp, Bnd.lt, *, bl_ge2 h1 h2]; done)
set_option maxRecDepth 100000 in
set_option maxHeartbeats 1000000 in
theorem closure_lo (x y : Rng) (w : World) : Calls Tryd.prog 86 #[.agg x.vals.toArray, .agg y.vals.toArray] w fun e w' => e = .returned (.int .i64 (cmpLo x y)) ∧ ∃ q os', w' = Go.Sort.grow (w.drewN q) os' := by
  simp only [Rng.vals, cmpLo]
  go_enter Tryd.func86, Tryd.ntmps86
  go_wp2_with (go_at_call 70; refine (compare_gp).mono ?_; rintro e w' ⟨rfl, o1, o2, rfl⟩)
  go_ret
  exact ⟨rfl, 0, _, by rw [Go.Sort.alloc_eq_grow, Go.Sort.alloc_eq_grow, Go.Sort.alloc_eq_grow, Go.Sort.alloc_eq_grow, Go.Sort.grow_grow, Go.Sort.grow_grow, Go.Sort.grow_grow]; rfl⟩
theorem sortFunc_e {w0 w : World} {X : Fr} {R : List Win} {S sl pre post : List OB} {v : Value} {n : Nat} {l : List Rng} (hR : Rep w0 X R S w) (hO : OS sl 50 4 v n (rvals l)) (hC : Ctx S sl pre post) (hn : n ≤ 1000000) :
    Calls Tryd.prog 85 #[v, .func (.func 86) #[] #[]] w fun e w' => e = .returned (.tuple #[]) ∧ ∃ s sl', s.Perm l ∧ Srt s ∧ OS sl' 50 4 v n (rvals s) ∧ Rep w0 X R (pre ++ (sl' ++ post)) w' := by
  have hl : l.length = n := (hO.rdC hR hC).count rvz (by decide)
  rcases hO.2 with ⟨hsl, hv, hn0⟩ | ⟨g, cap, sp, hsl, hv, -⟩
  · have h0 : l = [] := List.eq_nil_of_length_eq_zero (hl.trans hn0)
    subst h0 hv hn0
    refine (AnyF.slices_SortFunc_none Tryd.sortR none 0 _ w).mono ?_
    rintro e w' ⟨rfl, rfl⟩
    exact ⟨rfl, [], sl, List.Perm.refl _, .nil, hO, by rw [hC.eq] at hR; exact hR⟩
  · subst hv hl
    have eg : ∀ args w, (callFunc 86 args).run Tryd.prog w = .ok (.enter 86 args) w := enters_of Tryd.func86 (by kernel_rfl) rfl
    refine (AnyQ.slices_SortFunc Tryd.sortR 4 Tryd.isAgg50 Tryd.sizeOf50 Rng.vals rvz (fun x v hv => by have := List.all_eq_true.1 (show x.vals.all Value.oneCell' = true from rfl) v hv; exact this) cmpLo swo_lo 86 #[] g 0 cap l.toArray w eg (fun m os dk _ x y => (closure_lo x y _).mono fun e w' ⟨he, hk⟩ => ⟨he, hk⟩) (holds_os hR hO hC) (hR.lt ((sub_ctx hC).subset (by rw [hsl]; exact List.mem_cons_self))) (by simp; omega)).mono ?_
    rintro e w' ⟨rfl, d', m, os, hp, hs, rfl⟩
    obtain ⟨s, rfl⟩ : ∃ s : List Rng, d' = s.toArray := ⟨d'.toList, by simp⟩
    have hsz : s.length = l.length := by simpa using hp.1
    obtain ⟨sl', h1, h2⟩ := sorted_rep (m := m) (os := os) hR hO hC hsz
    refine ⟨rfl, s, sl', ?_, ?_, h1, h2⟩
    · have := hp.2.2
      simpa [hsz, List.take_of_length_le (Nat.le_of_eq hsz)] using this
    · refine List.pairwise_iff_getElem.2 fun i j hi hj hij => ?_
      have := hs i j (Nat.zero_le _) hij (by simpa [← hsz] using hj)
      rw [ltOf_lo, getElem!_pos _ j (by simpa using hj), getElem!_pos _ i (by simpa using hi)] at this
      simpa using this
end Go.Proofs.YtjnnkpkbgdknmaaDoor
namespace Go.Proofs.YtjnnkpkbgdknmaaDoor
set_option linter.unusedSimpArgs false
set_option linter.unusedVariables false
open Go.RowKit
attribute [local irreducible] contains emp vld vb vk adj isect hull proper greater lesser greatest least cmp Bnd.lt Op.bytesLess Calls Oper.wp wpList Code.wp Oper.upon
theorem Rep.back {w0 w1 w : World} {S : List OB} (h : Rep w1 nof [] S w) (hk : Kp [] w0 w1) : Rep w0 nof [] S w :=
  ⟨hk.trans h.kp, h.own, h.ne, fun e he => Nat.le_trans hk.size (h.new e he), by simp, trivial, fun _ _ _ _ => trivial, by simp [nof]⟩
theorem Rep.rebase0 {w0 w : World} {X : Fr} {R : List Win} {S : List OB} (h : Rep w0 X R S w) : Rep w X [] [] w := h.rebaseS.sub (List.Sublist.refl _) (List.nil_sublist _)
theorem compare_p_v (a b : Bnd) {w : World} : Calls Tryd.prog 70 #[.agg #[.string a.key, .bool a.top], .agg #[.string b.key, .bool b.top]] w fun e w' => e = .returned (.int .i64 (cmp a b)) ∧ Kp [] w w' := compare_p
theorem greater_p_v (a b : Bnd) {w : World} : Calls Tryd.prog 87 #[.agg #[.string a.key, .bool a.top], .agg #[.string b.key, .bool b.top]] w fun e w' => e = .returned (.agg #[.string (greater a b).key, .bool (greater a b).top]) ∧ Kp [] w w' :=
  (greater_p (w := w)).mono fun e w' ⟨m, he, hm, hk⟩ => ⟨by rw [he, hm], hk⟩
theorem greatest_r_v (a b : Bnd) {w : World} : Calls Tryd.prog 88 #[.agg #[.string a.key, .bool a.top], .agg #[.string b.key, .bool b.top]] w fun e w' => e = .returned (.agg #[.string (greater a b).key, .bool (greater a b).top]) ∧ Kp [] w w' :=
  (greatest_r (w := w)).mono fun e w' ⟨m, he, hm, hk⟩ => ⟨by rw [he, hm, greatest_eq], hk⟩
theorem mrgAll_cons {r : Rng} {l : List Rng} : mrgAll (r :: l) = mrg r l := rfl
theorem mrg_join {c r : Rng} {l : List Rng} (h : cmp r.lo c.hi ≤ 0) : mrg c (r :: l) = mrg ⟨c.lo, greater c.hi r.hi⟩ l := by rw [mrg, if_pos h]
theorem mrg_next {c r : Rng} {l : List Rng} (h : ¬ cmp r.lo c.hi ≤ 0) : mrg c (r :: l) = c :: mrg r l := by rw [mrg, if_neg h]
theorem last_hi {done : List Rng} {cur : Rng} {d : Nat} (hd : done.length = d) : ((rvals (done ++ [cur])).drop (d * 4 + 2)).take 2 = [.string cur.hi.key, .bool cur.hi.top] :=
  (fl_part rvz (l := done ++ [cur]) (k := d) (r := cur) (by rw [← hd]; simp) 2 2 (by decide)).trans rfl
/-- Where the merging stands: out laid so far, rest still to come. -/
def Mrg (out rest tot : List Rng) : Prop := (out = [] ∧ mrgAll rest = tot) ∨ ∃ done cur, out = done ++ [cur] ∧ done ++ mrg cur rest = tot
theorem OS.val {sl : List OB} {E : TypeId} {z n : Nat} {v : Value} {xs : List Value} (h : OS sl E z v n xs) : ∃ q c, v = .slice q n c := by
  rcases h.2 with ⟨-, rfl, rfl⟩ | ⟨g, cap, sp, -, rfl, -⟩
  · exact ⟨_, _, rfl⟩
  · exact ⟨_, _, rfl⟩
theorem OS.val1 {sl : List OB} {E : TypeId} {z n : Nat} {v : Value} {xs : List Value} (h : OS sl E z v n xs) (hn : 0 < n) : ∃ g c, v = .slice (some ⟨g, 0, none⟩) n c ∧ n ≤ c := by
  rcases h.2 with ⟨-, rfl, rfl⟩ | ⟨g, cap, sp, -, rfl, h1, -⟩
  · omega
  · exact ⟨_, _, rfl, h1⟩
theorem mrg_le : ∀ (l : List Rng) (c : Rng), (mrg c l).length ≤ l.length + 1
  | [], c => by simp [mrg]
  | r :: l, c => by
    unfold mrg; split
    · have := mrg_le l ⟨c.lo, greater c.hi r.hi⟩; simp; omega
    · have := mrg_le l r; simp; omega
theorem mrgAll_le (l : List Rng) : (mrgAll l).length ≤ l.length := by
  cases l with
  | nil => simp [mrgAll]
  | cons r l => exact mrg_le l r
set_option maxRecDepth 100000 in
set_option maxHeartbeats 4000000 in
theorem union_p {p : Option Addr} {n c : Nat} {l : List Rng} {w : World} (h1 : Rd w 4 (.slice p n c) n (rvals l)) (hn : n ≤ 1000000) :
    Calls Tryd.prog 58 #[.slice p n c] w fun e w' => ∃ r sl, e = .returned r ∧ OS sl 50 4 r (union l).length (rvals (union l)) ∧ Rep w nof [] sl w' := by
  have hl : l.length = n := h1.count rvz (by decide)
  have hm : (l.filter ne).length ≤ n := by rw [← hl]; exact List.length_filter_le _ _
  have Hu := Lib.hid (fun s hp hs => union_of_sorted (l := l) (s := s) hp hs)
  obtain ⟨tot, htot⟩ : ∃ tot, tot = union l := ⟨_, rfl⟩
  rw [← htot]
  rw [← htot] at Hu
  obtain ⟨fl0, hfl⟩ : ∃ f, f = l.filter ne := ⟨_, rfl⟩
  have Hf := Lib.hid hfl
  rw [← hfl] at hm
  have Hl := Lib.hid hl
  clear hfl hl htot
  go_enter Tryd.func58, Tryd.ntmps58
  have hR := Rep.refl w
  generalize w = w0 at hR h1
  go_wp2_with fail
  refine (clone_e h1 hn).mono ?_
  rintro e w ⟨v, sl, rfl, hO, hb⟩
  replace hR := hR.join hb
  clear hb
  go_wp2_with fail
  refine (deleteFunc_e hR hO CtxI.out hn).mono ?_
  clear hR hO
  rintro e w ⟨v, sl, rfl, hO, hR⟩
  rw [← Hf.out] at hO
  go_wp2_with fail
  refine (sortFunc_e hR hO CtxI.out (by omega)).mono ?_
  clear hR hO
  rintro e w ⟨rfl, s, sl, hp, hs, hO, hR⟩
  have hsl := hp.length_eq
  rw [← hsl] at hO hm
  have hrw := hO.rw hR CtxI.out
  have hk1 := hR.kp_nof
  replace hR := hR.rebase0
  have Ht := Lib.hid ((Hu.out) s (by rw [← Hf.out]; exact hp) hs)
  clear hO hp hs Hu
  obtain ⟨m, hmm⟩ : ∃ m, m = s.length := ⟨_, rfl⟩
  have Hm := Lib.hid hmm
  rw [← hmm] at hrw hm
  obtain ⟨q, cc, hv⟩ : ∃ q cc, v = .slice q m cc := by obtain ⟨q, cc, e, -⟩ := hrw.ex; exact ⟨q, cc, e⟩
  subst hv
  clear hmm hsl
  generalize w = w1 at hR hk1 hrw
  have hF := hR.fx
  go_wp2_with fail
  go_loopw [4, 15] (fun v i wr => ∃ k : Nat, ∃ out slo, i = .int .i64 k ∧ k ≤ m ∧ OS slo 50 4 v out.length (rvals out) ∧ Hid (Mrg out (s.drop k) tot) ∧ Hid (out.length ≤ k) ∧ Rep w1 nof [] slo wr) (fun _ i _ => m - (intOf i).toNat)
  case atStart => exact ⟨0, [], [], rfl, Nat.zero_le _, OS.nil _ _, Lib.hid (.inl ⟨rfl, by rw [List.drop_zero]; exact Ht.out⟩), Lib.hid (Nat.le_refl _), hR⟩
  case round =>
    obtain ⟨k, out, slo, rfl, hkm, hO, hM, hok, hR⟩ := hrel
    have hF := hR.fx
    by_cases hlt : k < m
    · have hlt' : (k : Int) < (m : Int) := by omega
      obtain ⟨r, hr⟩ : ∃ r, s[k]? = some r := ⟨s[k]'(by rw [← Hm.out]; exact hlt), List.getElem?_eq_getElem _⟩
      obtain ⟨b, o, rfl, hR⟩ := hrw.elem rvz (by decide) hr hR
      have hdr : s.drop k = r :: s.drop (k + 1) := by
        obtain ⟨g1, g2⟩ := List.getElem?_eq_some_iff.1 hr
        rw [List.drop_eq_getElem_cons g1, g2]
      have Hd := Lib.hid hdr
      clear hdr hr
      simp only [Rng.vals] at hR
      have hF := hR.fx
      rcases hM.out with ⟨hout, htot⟩ | ⟨done, cur, hout, htot⟩
      · subst hout
        have Hg : Hid (Mrg [r] (s.drop (k + 1)) tot) := Lib.hid (.inr ⟨[], r, rfl, by rw [← htot, Hd.out]; rfl⟩)
        clear hM htot Hd
        obtain ⟨q2, c2, rfl⟩ := hO.val
        simp only [List.length_nil] at hO ⊢
        go_upto_region 8 with (first | (refine wl_ld hR ?_) | (refine wl_st hR ?_; (try clear hF); clear hR; intro w hR; have hF := hR.fx) | (refine wl_mem hR ?_; (try clear hF); clear hR; intro w B6 hR; have hF := hR.fx))
        refine wp_region_C 13 (0 :: 1 :: 2 :: 3 :: 4 :: 5 :: 6 :: 7 :: 8 :: 9 :: 10 :: 11 :: 12 :: []) [11] hR mixed (by kernel_rfl) ?_; (try clear hF); clear hR; (repeat (first | (refine dk ?_; intro B) | (refine dk_call0 (fun w hR => ?_); first | (go_at_call 70; refine (compare_p_v r.lo r.hi).mono ?_; rintro e w' ⟨rfl, hb⟩; refine ⟨_, rfl, hb, dn ?_⟩; clear hR hb)))); refine dc_nil ?_; intro w hR; have hF := hR.fx; try simp only [List.drop_succ_cons, List.drop_zero]
        go_wp2_with (first | (refine wl_append hR rfl rfl rfl rfl rfl (hO) (At.rd hR UpI.at rfl) ?_; (try clear hF); clear hR; intro v sl w hO hR; have hF := hR.fx) | (refine wl_ld hR ?_) | (refine wl_st hR ?_; (try clear hF); clear hR; intro w hR; have hF := hR.fx) | (refine wl_mem hR ?_; (try clear hF); clear hR; intro w B hR; have hF := hR.fx))
        go_roundw
        case rel => exact ⟨k + 1, [r], sl, by go_num, by omega, by simpa [rvals, Rng.vals] using hO, Hg, Lib.hid (by simp), hR.sub sub_any sub_any⟩
        case measure => simp [intOf]; omega
      · subst hout
        obtain ⟨d, hd⟩ : ∃ d, done.length = d := ⟨_, rfl⟩
        obtain ⟨g, c2, rfl, hc2⟩ := hO.val1 (by simp)
        have hlen : (done ++ [cur]).length = d + 1 := by simp [hd]
        rw [hlen] at hO hc2 ⊢
        have hok' := hok.out
        rw [hlen] at hok'
        have Hv := Lib.hid (last_hi (cur := cur) hd)
        have Hl4 : Hid (d * 4 + 2 + 2 ≤ (rvals (done ++ [cur])).length) := Lib.hid (by rw [rvals_length, hlen]; omega)
        have hdp : (0 : Int) < (d : Int) + 1 := by omega
        have hdd : (d : Int) < (d : Int) + 1 := by omega
        have hd0 : (0 : Int) ≤ (d : Int) := by omega
        have hwr : IntKind.i64.wrap (d : Int) = d := IntWalk.i64_in _ (by omega)
        by_cases hj : cmp r.lo cur.hi ≤ 0
        · have Hg : Hid (Mrg (done ++ [⟨cur.lo, greater cur.hi r.hi⟩]) (s.drop (k + 1)) tot) := Lib.hid (.inr ⟨done, _, rfl, by rw [← htot, Hd.out, mrg_join hj]⟩)
          clear hM htot Hd
          go_upto_region 8 with (first | (refine wl_ld hR ?_) | (refine wl_st hR ?_; (try clear hF); clear hR; intro w hR; have hF := hR.fx) | (refine wl_mem hR ?_; (try clear hF); clear hR; intro w B6 hR; have hF := hR.fx))
          refine wp_region_C 13 (0 :: 1 :: 2 :: 3 :: 4 :: 5 :: 6 :: 7 :: 8 :: 9 :: 10 :: 11 :: 12 :: []) [11] hR mixed (by kernel_rfl) ?_; (try clear hF); clear hR; (repeat (first | (refine dc_ld_own rfl rfl rfl rfl hO CtxI.out rfl (by exact inferInstance) (by exact rfl) Hl4.out Hv.out (by simp only [Act.put, List.setIfInBounds_toArray, List.set_cons_zero, List.set_cons_succ, ldW, if_true, Bool.false_eq_true, if_false, List.headD_cons]; exact rfl) ?_) | (refine dk ?_; intro B) | (refine dk_call0 (fun w hR => ?_); first | (go_at_call 70; refine (compare_p_v r.lo cur.hi).mono ?_; rintro e w' ⟨rfl, hb⟩; refine ⟨_, rfl, hb, dn ?_⟩; clear hR hb)))); refine dc_nil ?_; intro w hR; have hF := hR.fx; try simp only [List.drop_succ_cons, List.drop_zero]
          go_upto_region 9 with (first | (refine wl_ld hR ?_) | (refine wl_st hR ?_; (try clear hF); clear hR; intro w hR; have hF := hR.fx) | (refine wl_mem hR ?_; (try clear hF); clear hR; intro w B hR; have hF := hR.fx))
          refine wp_region_C 14 (0 :: 1 :: 2 :: 3 :: 4 :: 5 :: 6 :: 7 :: 8 :: 9 :: 10 :: 11 :: 12 :: 13 :: []) [11] hR mixed (by kernel_rfl) ?_; (try clear hF); clear hR; (repeat (first | (refine dc_ld_own rfl rfl rfl rfl hO CtxI.out rfl (by exact inferInstance) (by exact rfl) Hl4.out Hv.out (by simp only [Act.put, List.setIfInBounds_toArray, List.set_cons_zero, List.set_cons_succ, ldW, if_true, Bool.false_eq_true, if_false, List.headD_cons]; exact rfl) ?_) | (refine dk ?_; intro B) | (refine dk_call0 (fun w hR => ?_); first | (go_at_call 87; refine (greater_p_v cur.hi r.hi).mono ?_; rintro e w' ⟨rfl, hb⟩; refine ⟨_, rfl, hb, dn ?_⟩; clear hR hb)))); refine dc_nil ?_; intro w hR; have hF := hR.fx; try simp only [List.drop_succ_cons, List.drop_zero]
          go_wp2_with (first | (refine wpList_st_os hR rfl rfl rfl hO CtxI.out rfl rfl (by exact inferInstance) Hl4.out (by exact rfl) ?_; (try clear hF); clear hR; intro sl w hO hR; (try simp only [List.cons_append, List.nil_append] at hR); have hF := hR.fx) | (refine wl_ld hR ?_) | (refine wl_st hR ?_; (try clear hF); clear hR; intro w hR; have hF := hR.fx) | (refine wl_mem hR ?_; (try clear hF); clear hR; intro w B hR; have hF := hR.fx))
          have hst : stL (d * 4 + 2) [.string (greater cur.hi r.hi).key, .bool (greater cur.hi r.hi).top] (rvals (done ++ [cur])) = rvals (done ++ [⟨cur.lo, greater cur.hi r.hi⟩]) := by
            rw [stL_rvals_hi _ _ _ cur (by rw [← hd]; simp), ← hd]; simp
          rw [hst] at hO
          go_roundw
          case rel => exact ⟨k + 1, _, sl, by go_num, by omega, by simpa [hd] using hO, Hg, Lib.hid (by simp [hd]; omega), by simpa only [List.append_nil] using hR.sub sub_any sub_any⟩
          case measure => simp [intOf]; omega
        · have Hg : Hid (Mrg ((done ++ [cur]) ++ [r]) (s.drop (k + 1)) tot) := Lib.hid (.inr ⟨done ++ [cur], r, rfl, by rw [← htot, Hd.out, mrg_next hj, List.append_assoc]; rfl⟩)
          clear hM htot Hd
          go_upto_region 8 with (first | (refine wl_ld hR ?_) | (refine wl_st hR ?_; (try clear hF); clear hR; intro w hR; have hF := hR.fx) | (refine wl_mem hR ?_; (try clear hF); clear hR; intro w B6 hR; have hF := hR.fx))
          refine wp_region_C 13 (0 :: 1 :: 2 :: 3 :: 4 :: 5 :: 6 :: 7 :: 8 :: 9 :: 10 :: 11 :: 12 :: []) [11] hR mixed (by kernel_rfl) ?_; (try clear hF); clear hR; (repeat (first | (refine dc_ld_own rfl rfl rfl rfl hO CtxI.out rfl (by exact inferInstance) (by exact rfl) Hl4.out Hv.out (by simp only [Act.put, List.setIfInBounds_toArray, List.set_cons_zero, List.set_cons_succ, ldW, if_true, Bool.false_eq_true, if_false, List.headD_cons]; exact rfl) ?_) | (refine dk ?_; intro B) | (refine dk_call0 (fun w hR => ?_); first | (go_at_call 70; refine (compare_p_v r.lo cur.hi).mono ?_; rintro e w' ⟨rfl, hb⟩; refine ⟨_, rfl, hb, dn ?_⟩; clear hR hb)))); refine dc_nil ?_; intro w hR; have hF := hR.fx; try simp only [List.drop_succ_cons, List.drop_zero]
          go_wp2_with (first | (refine wl_append hR rfl rfl rfl rfl rfl (hO) (At.rd hR UpI.at rfl) ?_; (try clear hF); clear hR; intro v sl w hO hR; have hF := hR.fx) | (refine wl_ld hR ?_) | (refine wl_st hR ?_; (try clear hF); clear hR; intro w hR; have hF := hR.fx) | (refine wl_mem hR ?_; (try clear hF); clear hR; intro w B hR; have hF := hR.fx))
          go_roundw
          case rel => exact ⟨k + 1, (done ++ [cur]) ++ [r], sl, by go_num, by omega, by simpa [hd, rvals, Rng.vals] using hO, Hg, Lib.hid (by simp [hd]; omega), hR.sub sub_any sub_any⟩
          case measure => simp [intOf]; omega
    · obtain rfl : k = m := by omega
      have hf : out = tot := by
        rcases hM.out with ⟨h1, h2⟩ | ⟨done, cur, h1, h2⟩
        · rw [h1, ← h2, List.drop_eq_nil_of_le (by rw [Hm.out]; exact Nat.le_refl _)]; rfl
        · rw [h1, ← h2, List.drop_eq_nil_of_le (by rw [Hm.out]; exact Nat.le_refl _)]; rfl
      subst hf
      go_wp2_with (first | (refine wl_ld hR ?_) | (refine wl_st hR ?_; (try clear hF); clear hR; intro w hR; have hF := hR.fx) | (refine wl_mem hR ?_; (try clear hF); clear hR; intro w B hR; have hF := hR.fx))
      go_ret
      exact ⟨_, _, rfl, hO, hR.back hk1⟩
end Go.Proofs.YtjnnkpkbgdknmaaDoor
namespace Go.Proofs.YtjnnkpkbgdknmaaDoor
set_option linter.unusedSimpArgs false
set_option linter.unusedVariables false
open Go.RowKit
attribute [local irreducible] contains emp vld vb vk adj isect hull proper greater lesser greatest least cmp Bnd.lt Op.bytesLess Calls Oper.wp wpList Code.wp Oper.upon
theorem empty_r_w (x : Rng) {w : World} : Calls Tryd.prog 57 #[.agg #[.string x.lo.key, .bool x.lo.top, .string x.hi.key, .bool x.hi.top]] w fun e w' => e = .returned (.bool (emp x)) ∧ Kp [] w w' := empty_r
theorem compare_r_w (a b : Bnd) {w : World} : Calls Tryd.prog 72 #[.agg #[.string a.key, .bool a.top], .agg #[.string b.key, .bool b.top]] w fun e w' => e = .returned (.int .i64 (cmp a b)) ∧ Kp [] w w' := compare_r
theorem ins_list {out : List Rng} {z r : Rng} {j m : Nat} (hm : out.length = m) (hj : j ≤ m) : ((out ++ [z]).take (j + 1) ++ ((out ++ [z]).drop j).take (m - j)).set j r = out.take j ++ r :: out.drop j := by
  subst hm
  have h2 : ((out ++ [z]).drop j).take (out.length - j) = out.drop j := by
    rw [List.drop_append_of_le_length hj]; exact List.take_left' (by simp)
  have h1 : ((out ++ [z]).take (j + 1)).set j r = out.take j ++ [r] := by
    have h2 : (out ++ [z]).take (j + 1) = out.take j ++ [(out ++ [z])[j]'(by simp; omega)] := by
      rw [List.take_add_one, List.getElem?_eq_getElem (by simp; omega), List.take_append_of_le_length hj]; rfl
    rw [h2, List.set_append_right _ _ (by simp; omega)]
    simp [Nat.min_eq_left hj]
  rw [h2, List.set_append_left _ _ (by simp; omega), h1, List.append_assoc]; rfl
theorem ins_perm {out : List Rng} {r : Rng} {j : Nat} : (out.take j ++ r :: out.drop j).Perm (out ++ [r]) := by
  refine List.perm_middle.trans ?_
  rw [List.take_append_drop]
  exact (List.perm_append_singleton r out).symm
theorem ins_srt {out : List Rng} {r : Rng} {j : Nat} (hs : Srt out) (h1 : ∀ i x, j ≤ i → out[i]? = some x → r.lo.lt x.lo = true) (h2 : ∀ x, 0 < j → out[j - 1]? = some x → r.lo.lt x.lo = false) (hj : j ≤ out.length) : Srt (out.take j ++ r :: out.drop j) := by
  refine List.pairwise_append.2 ⟨hs.sublist (List.take_sublist _ _), List.pairwise_cons.2 ⟨fun y hy => ?_, hs.sublist (List.drop_sublist _ _)⟩, fun x hx y hy => ?_⟩
  · obtain ⟨i, hi, rfl⟩ := List.mem_iff_getElem.1 hy
    rw [List.getElem_drop]
    exact lt_asymm (h1 (j + i) _ (by omega) (List.getElem?_eq_getElem _))
  · obtain ⟨i, hi, rfl⟩ := List.mem_iff_getElem.1 hx
    have hi' : i < j := by simp at hi; omega
    rw [List.getElem_take]
    have hr : r.lo.lt out[i].lo = false := by
      have h3 := h2 (out[j - 1]'(by omega)) (by omega) (List.getElem?_eq_getElem (by omega))
      by_cases hij : i = j - 1
      · subst hij; exact h3
      · have h4 : leLo out[i] (out[j - 1]'(by omega)) = true := by simp [leLo, List.pairwise_iff_getElem.1 hs i (j - 1) (by omega) (by omega) (by omega)]
        have h5 := leLo_trans _ _ r h4 (by simp [leLo, h3])
        simpa [leLo] using h5
    rcases List.mem_cons.1 hy with rfl | hy
    · exact hr
    · obtain ⟨q, hq, rfl⟩ := List.mem_iff_getElem.1 hy
      rw [List.getElem_drop]
      exact List.pairwise_iff_getElem.1 hs i (j + q) (by omega) (by simp at hq; omega) (by omega)
theorem elem_lo {out : List Rng} {x : Rng} {d : Nat} (hd : out[d]? = some x) : ((rvals out).drop (d * 4)).take 2 = [.string x.lo.key, .bool x.lo.top] :=
  (fl_part rvz (l := out) (k := d) (r := x) hd 0 2 (by decide)).trans rfl
set_option maxRecDepth 100000 in
set_option maxHeartbeats 8000000 in
theorem union_r {p : Option Addr} {n c : Nat} {l : List Rng} {w : World} (h1 : Rd w 4 (.slice p n c) n (rvals l)) (hn : n ≤ 1000000) :
    Calls Tryd.prog 61 #[.slice p n c] w fun e w' => ∃ r sl, e = .returned r ∧ OS sl 50 4 r (union l).length (rvals (union l)) ∧ Rep w nof [] sl w' := by
  have hl : l.length = n := h1.count rvz (by decide)
  have Hu := Lib.hid (fun s hp hs => union_of_sorted (l := l) (s := s) hp hs)
  obtain ⟨tot, htot⟩ : ∃ tot, tot = union l := ⟨_, rfl⟩
  rw [← htot]
  rw [← htot] at Hu
  have Hl := Lib.hid hl
  clear hl htot
  go_enter Tryd.func61, Tryd.ntmps61
  have hR := Rep.refl w
  generalize w = w0 at hR h1
  have hrl := h1.rw
  go_wp2_with fail
  go_loopw [3, 4] (fun v i wr => ∃ k : Nat, ∃ out slo, i = .int .i64 k ∧ k ≤ n ∧ OS slo 50 4 v out.length (rvals out) ∧ Hid (out.Perm ((l.take k).filter ne)) ∧ Hid (Srt out) ∧ Rep w0 nof [] slo wr) (fun _ i _ => n - (intOf i).toNat)
  case atStart => exact ⟨0, [], [], rfl, Nat.zero_le _, OS.nil _ _, Lib.hid (List.Perm.refl _), Lib.hid .nil, hR⟩
  case round =>
    obtain ⟨k, out, slo, rfl, hkn, hO, hP, hS, hR⟩ := hrel
    have hF := hR.fx
    by_cases hlt : k < n
    · have hlt' : (k : Int) < (n : Int) := by omega
      have hk0 : (0 : Int) ≤ (k : Int) := by omega
      obtain ⟨r, hr⟩ : ∃ r, l[k]? = some r := ⟨l[k]'(by rw [Hl.out]; exact hlt), List.getElem?_eq_getElem _⟩
      have hts := take_snoc hr
      obtain ⟨b, o, rfl, hR⟩ := hrl.elem rvz (by decide) hr hR
      have Hr := Lib.hid hts
      clear hts hr
      simp only [Rng.vals] at hR
      have hF := hR.fx
      cases he : emp r
      · have hpl := hP.out.length_eq
        have hml : out.length ≤ n := by rw [hpl]; exact Nat.le_trans (List.length_filter_le _ _) (by rw [List.length_take, Hl.out]; omega)
        obtain ⟨q2, c2, rfl⟩ := hO.val
        obtain ⟨m, hm⟩ : ∃ m, out.length = m := ⟨_, rfl⟩
        rw [hm] at hO hml ⊢
        have Hm := Lib.hid hm
        clear hm hpl
        go_wp2_with (first | (refine wl_ld hR ?_) | (refine wl_st hR ?_; (try clear hF); clear hR; intro w hR; have hF := hR.fx) | (refine wl_mem hR ?_; (try clear hF); clear hR; intro w B hR; have hF := hR.fx) | (go_at_call 57; refine (empty_r_w r).mono ?_; rintro e w ⟨rfl, hb⟩; replace hR := hR.kp0 hb; (try clear hF); clear hb; have hF := hR.fx))
        go_loopw [5] (fun a wr => ∃ j : Nat, a = .int .i64 j ∧ j ≤ m ∧ Hid (∀ i x, j ≤ i → out[i]? = some x → r.lo.lt x.lo = true) ∧ Rep w0 nof [⟨b, o + k * 4, [.string r.lo.key, .bool r.lo.top, .string r.hi.key, .bool r.hi.top]⟩] slo wr) (fun a _ => (intOf a).toNat)
        case atStart => exact ⟨m, rfl, Nat.le_refl _, Lib.hid (fun i x hi hx => by have := (List.getElem?_eq_some_iff.1 hx).1; rw [Hm.out] at this; omega), hR⟩
        case round =>
          obtain ⟨j, rfl, hjm, hA, hR⟩ := hrel
          have hF := hR.fx
          by_cases hj : 0 < j
          · obtain ⟨j, rfl⟩ : ∃ j', j = j' + 1 := ⟨j - 1, by omega⟩
            obtain ⟨x, hx⟩ : ∃ x, out[j]? = some x := ⟨out[j]'(by rw [Hm.out]; omega), List.getElem?_eq_getElem _⟩
            have Hv := Lib.hid (elem_lo hx)
            have Hl4 : Hid (j * 4 + 2 ≤ (rvals out).length) := Lib.hid (by rw [rvals_length, Hm.out]; omega)
            have Hx := Lib.hid hx
            clear hx
            obtain ⟨g, c2, hv2, hc2⟩ := hO.val1 (by omega)
            simp only [Value.slice.injEq, true_and] at hv2
            obtain ⟨rfl, rfl⟩ := hv2
            have hjp : (0 : Int) < (j : Int) + 1 := by omega
            have hj0 : (0 : Int) ≤ (j : Int) := by omega
            have hjm' : (j : Int) < (m : Int) := by omega
            have hwr : IntKind.i64.wrap (j : Int) = j := IntWalk.i64_in _ (by omega)
            by_cases hc : 0 < cmp x.lo r.lo
            · go_upto_region 7 with fail
              refine wp_region_C 16 (0 :: 1 :: 2 :: 3 :: 4 :: 5 :: 6 :: 7 :: 8 :: 9 :: 10 :: 11 :: 12 :: 13 :: 14 :: 15 :: []) [14] hR mixed (by kernel_rfl) ?_; (try clear hF); clear hR; (repeat (first | (refine dc_ld_own rfl rfl rfl rfl hO CtxI.out rfl (by exact inferInstance) (by exact rfl) Hl4.out Hv.out (by simp only [Act.put, List.setIfInBounds_toArray, List.set_cons_zero, List.set_cons_succ, ldW, if_true, Bool.false_eq_true, if_false, List.headD_cons]; exact rfl) ?_) | (refine dk ?_; intro B) | (refine dk_call0 (fun w hR => ?_); first | (go_at_call 72; refine (compare_r_w x.lo r.lo).mono ?_; rintro e w' ⟨rfl, hb⟩; refine ⟨_, rfl, hb, dn ?_⟩; clear hR hb)))); refine dc_nil ?_; intro w hR; have hF := hR.fx; try simp only [List.drop_succ_cons, List.drop_zero]
              go_wp2_with fail
              go_roundw
              case rel => exact ⟨j, rfl, by omega, Lib.hid (fun i y hi hy => by
                by_cases hij : i = j
                · subst hij; rw [Hx.out] at hy; obtain rfl := Option.some.inj hy; exact (cmp_pos _ _).1 hc
                · exact hA.out i y (by omega) hy), hR.sub sub_any sub_any⟩
              case measure => simp [intOf] <;> omega
            · have Hx0 : Hid (r.lo.lt x.lo = false) := Lib.hid (Bool.eq_false_iff.2 fun hq => hc ((cmp_pos _ _).2 hq))
              go_upto_region 7 with fail
              refine wp_region_C 16 (0 :: 1 :: 2 :: 3 :: 4 :: 5 :: 6 :: 7 :: 8 :: 9 :: 10 :: 11 :: 12 :: 13 :: 14 :: 15 :: []) [14] hR mixed (by kernel_rfl) ?_; (try clear hF); clear hR; (repeat (first | (refine dc_ld_own rfl rfl rfl rfl hO CtxI.out rfl (by exact inferInstance) (by exact rfl) Hl4.out Hv.out (by simp only [Act.put, List.setIfInBounds_toArray, List.set_cons_zero, List.set_cons_succ, ldW, if_true, Bool.false_eq_true, if_false, List.headD_cons]; exact rfl) ?_) | (refine dk ?_; intro B) | (refine dk_call0 (fun w hR => ?_); first | (go_at_call 72; refine (compare_r_w x.lo r.lo).mono ?_; rintro e w' ⟨rfl, hb⟩; refine ⟨_, rfl, hb, dn ?_⟩; clear hR hb)))); refine dc_nil ?_; intro w hR; have hF := hR.fx; try simp only [List.drop_succ_cons, List.drop_zero]
              have hwr1 : IntKind.i64.wrap (((j : Int) + 1) + 1) = ((j : Int) + 1) + 1 := IntWalk.i64_in _ (by omega)
              go_upto_region 10 with (first | (refine wl_append hR rfl rfl rfl rfl rfl (hO) (At.rd hR UpI.at rfl) ?_; (try clear hF); clear hR; intro v sl w hO hR; have hF := hR.fx) | (refine wl_ld hR ?_) | (refine wl_st hR ?_; (try clear hF); clear hR; intro w hR; have hF := hR.fx) | (refine wl_mem hR ?_; (try clear hF); clear hR; intro w B9 hR; have hF := hR.fx))
              have hz : rvals out ++ [.string ⟨#[]⟩, .bool false, .string ⟨#[]⟩, .bool false] = rvals (out ++ [zr]) := by simp [rvals, Rng.vals, zr, zb]
              rw [hz] at hO
              clear hz
              obtain ⟨g, c3, rfl, hc3⟩ := hO.val1 (by omega)
              have hi1 : (0 : Int) ≤ ((j : Int) + 1) + 1 := by omega
              have hi2 : ((j : Int) + 1) + 1 ≤ (m : Int) + 1 := by omega
              have hi3 : (0 : Int) ≤ ((j : Int) + 1) := by omega
              have hi4 : ((j : Int) + 1) ≤ (m : Int) + 1 := by omega
              have hi5 : ((j : Int) + 1) < (m : Int) + 1 := by omega
              refine wp_region_C 7 (0 :: 1 :: 2 :: 3 :: 4 :: 5 :: 6 :: []) [] hR mixed (by kernel_rfl) ?_; (try clear hF); clear hR; (repeat (first | (refine dc_slice_end (lo := (j + 1) + 1) rfl rfl rfl rfl rfl rfl (by exact inferInstance) (by omega) (by omega) ?_; intro o1 ho1; refine dn ?_) | (refine dc_slice_end (lo := (j + 1)) rfl rfl rfl rfl rfl rfl (by exact inferInstance) (by omega) (by omega) ?_; intro o2 ho2; refine dn ?_) | (refine dk ?_; intro B))); refine dc_nil ?_; intro w hR; have hF := hR.fx; try simp only [List.drop_succ_cons, List.drop_zero]
              go_wp2_with (first | (refine wpList_copy_os (i := (j + 1)) hR rfl rfl rfl rfl rfl (by exact inferInstance) (rvals_one _) hO CtxI.out ⟨by omega, by omega, fun hh => by have := ho1.out (by omega); omega, fun hh => by have := ho2.out (by omega); omega⟩ ?_; (try clear hF); clear hR; intro sl w hO hR; have hF := hR.fx; refine dn ?_) | (refine wpList_st_os hR rfl rfl rfl hO CtxI.out rfl rfl (by exact inferInstance) (by simp only [List.length_append, List.length_take, List.length_drop, rvals_length, List.length_singleton, Hm.out]; omega) (by exact rfl) ?_; (try clear hF); clear hR; intro sl w hO hR; (try simp only [List.cons_append, List.nil_append] at hR); have hF := hR.fx) | (refine wl_ld hR ?_) | (refine wl_st hR ?_; (try clear hF); clear hR; intro w hR; have hF := hR.fx) | (refine wl_mem hR ?_; (try clear hF); clear hR; intro w B hR; have hF := hR.fx))
              have hst : stL ((j + 1) * 4) [.string r.lo.key, .bool r.lo.top, .string r.hi.key, .bool r.hi.top] ((rvals (out ++ [zr])).take (((j + 1) + 1) * 4) ++ ((rvals (out ++ [zr])).drop ((j + 1) * 4)).take ((m + 1 - ((j + 1) + 1)) * 4)) = rvals (out.take (j + 1) ++ r :: out.drop (j + 1)) := by
                rw [rvals_take, rvals_drop, rvals_take, ← rvals_append, show m + 1 - ((j + 1) + 1) = m - (j + 1) by omega]
                exact (stL_rvals r _ (j + 1) (by simp [Hm.out]; omega)).trans (by rw [ins_list Hm.out (by omega)])
              rw [hst] at hO
              clear hst
              have hlen : (out.take (j + 1) ++ r :: out.drop (j + 1)).length = m + 1 := by simp [Hm.out]; omega
              go_roundw
              case rel =>
                refine ⟨k + 1, out.take (j + 1) ++ r :: out.drop (j + 1), sl, by go_num, by omega, by rw [hlen]; exact hO, Lib.hid ?_, Lib.hid ?_, hR.sub sub_any sub_any⟩
                · rw [Hr.out, List.filter_append, List.filter_cons_of_pos (by simp [ne, he]), List.filter_nil]
                  exact ins_perm.trans (hP.out.append_right [r])
                · exact ins_srt hS.out hA.out (fun y hy0 hy => by rw [show j + 1 - 1 = j by omega, Hx.out] at hy; obtain rfl := Option.some.inj hy; exact Hx0.out) (by rw [Hm.out]; omega)
              case measure => simp [intOf] <;> omega
          · have hnj : ¬ ((0 : Int) < (j : Int)) := by omega
            go_upto_region 7 with fail
            refine wp_region_C 16 (0 :: 1 :: 2 :: 3 :: 4 :: 5 :: 6 :: 7 :: 8 :: 9 :: 10 :: 11 :: 12 :: 13 :: 14 :: 15 :: []) [14] hR mixed (by kernel_rfl) ?_; (try clear hF); clear hR; (repeat (first | (refine dk ?_; intro B) | (refine dk_call0 (fun w hR => ?_); first | (go_at_call 72; refine (compare_r_w r.lo r.lo).mono ?_; rintro e w' ⟨rfl, hb⟩; refine ⟨_, rfl, hb, dn ?_⟩; clear hR hb)))); refine dc_nil ?_; intro w hR; have hF := hR.fx; try simp only [List.drop_succ_cons, List.drop_zero]
            have hwr1 : IntKind.i64.wrap ((j : Int) + 1) = (j : Int) + 1 := IntWalk.i64_in _ (by omega)
            go_upto_region 10 with (first | (refine wl_append hR rfl rfl rfl rfl rfl (hO) (At.rd hR UpI.at rfl) ?_; (try clear hF); clear hR; intro v sl w hO hR; have hF := hR.fx) | (refine wl_ld hR ?_) | (refine wl_st hR ?_; (try clear hF); clear hR; intro w hR; have hF := hR.fx) | (refine wl_mem hR ?_; (try clear hF); clear hR; intro w B9 hR; have hF := hR.fx))
            have hz : rvals out ++ [.string ⟨#[]⟩, .bool false, .string ⟨#[]⟩, .bool false] = rvals (out ++ [zr]) := by simp [rvals, Rng.vals, zr, zb]
            rw [hz] at hO
            clear hz
            obtain ⟨g, c3, rfl, hc3⟩ := hO.val1 (by omega)
            have hi1 : (0 : Int) ≤ (j : Int) + 1 := by omega
            have hi2 : (j : Int) + 1 ≤ (m : Int) + 1 := by omega
            have hi3 : (0 : Int) ≤ (j : Int) := by omega
            have hi4 : (j : Int) ≤ (m : Int) + 1 := by omega
            have hi5 : (j : Int) < (m : Int) + 1 := by omega
            refine wp_region_C 7 (0 :: 1 :: 2 :: 3 :: 4 :: 5 :: 6 :: []) [] hR mixed (by kernel_rfl) ?_; (try clear hF); clear hR; (repeat (first | (refine dc_slice_end (lo := j + 1) rfl rfl rfl rfl rfl rfl (by exact inferInstance) (by omega) (by omega) ?_; intro o1 ho1; refine dn ?_) | (refine dc_slice_end (lo := j) rfl rfl rfl rfl rfl rfl (by exact inferInstance) (by omega) (by omega) ?_; intro o2 ho2; refine dn ?_) | (refine dk ?_; intro B))); refine dc_nil ?_; intro w hR; have hF := hR.fx; try simp only [List.drop_succ_cons, List.drop_zero]
            go_wp2_with (first | (refine wpList_copy_os (i := j) hR rfl rfl rfl rfl rfl (by exact inferInstance) (rvals_one _) hO CtxI.out ⟨by omega, by omega, fun hh => by have := ho1.out (by omega); omega, fun hh => by have := ho2.out (by omega); omega⟩ ?_; (try clear hF); clear hR; intro sl w hO hR; have hF := hR.fx; refine dn ?_) | (refine wpList_st_os hR rfl rfl rfl hO CtxI.out rfl rfl (by exact inferInstance) (by simp only [List.length_append, List.length_take, List.length_drop, rvals_length, List.length_singleton, Hm.out]; omega) (by exact rfl) ?_; (try clear hF); clear hR; intro sl w hO hR; (try simp only [List.cons_append, List.nil_append] at hR); have hF := hR.fx) | (refine wl_ld hR ?_) | (refine wl_st hR ?_; (try clear hF); clear hR; intro w hR; have hF := hR.fx) | (refine wl_mem hR ?_; (try clear hF); clear hR; intro w B hR; have hF := hR.fx))
            have hst : stL (j * 4) [.string r.lo.key, .bool r.lo.top, .string r.hi.key, .bool r.hi.top] ((rvals (out ++ [zr])).take ((j + 1) * 4) ++ ((rvals (out ++ [zr])).drop (j * 4)).take ((m + 1 - (j + 1)) * 4)) = rvals (out.take j ++ r :: out.drop j) := by
              rw [rvals_take, rvals_drop, rvals_take, ← rvals_append, show m + 1 - (j + 1) = m - j by omega]
              exact (stL_rvals r _ j (by simp [Hm.out]; omega)).trans (by rw [ins_list Hm.out (by omega)])
            rw [hst] at hO
            clear hst
            have hlen : (out.take j ++ r :: out.drop j).length = m + 1 := by simp [Hm.out]; omega
            go_roundw
            case rel =>
              refine ⟨k + 1, out.take j ++ r :: out.drop j, sl, by go_num, by omega, by rw [hlen]; exact hO, Lib.hid ?_, Lib.hid ?_, hR.sub sub_any sub_any⟩
              · rw [Hr.out, List.filter_append, List.filter_cons_of_pos (by simp [ne, he]), List.filter_nil]
                exact ins_perm.trans (hP.out.append_right [r])
              · exact ins_srt hS.out hA.out (fun y hy0 hy => absurd hy0 hj) (by rw [Hm.out]; omega)
            case measure => simp [intOf] <;> omega
      · go_wp2_with (first | (refine wl_ld hR ?_) | (refine wl_st hR ?_; (try clear hF); clear hR; intro w hR; have hF := hR.fx) | (refine wl_mem hR ?_; (try clear hF); clear hR; intro w B hR; have hF := hR.fx) | (go_at_call 57; refine (empty_r_w r).mono ?_; rintro e w ⟨rfl, hb⟩; replace hR := hR.kp0 hb; (try clear hF); clear hb; have hF := hR.fx))
        go_roundw
        case rel => exact ⟨k + 1, out, slo, by go_num, by omega, hO, Lib.hid (by rw [Hr.out, List.filter_append, List.filter_cons_of_neg (by simp [ne, he]), List.filter_nil, List.append_nil]; exact hP.out), hS, hR.sub sub_any sub_any⟩
        case measure => simp [intOf] <;> omega
    · obtain rfl : k = n := by omega
      have hpl : out.Perm (l.filter ne) := by have := hP.out; rwa [List.take_of_length_le (by rw [Hl.out]; exact Nat.le_refl _)] at this
      have hm : out.length ≤ k := by rw [hpl.length_eq, ← Hl.out]; exact List.length_filter_le _ _
      have Ht := Lib.hid (Hu.out out hpl hS.out)
      have hrw := hO.rw hR CtxI.out
      have hk1 := hR.kp_nof
      replace hR := hR.rebase0
      clear hO hS hP Hu hpl hrl h1
      obtain ⟨m, hmm⟩ : ∃ m, m = out.length := ⟨_, rfl⟩
      have Hm := Lib.hid hmm
      rw [← hmm] at hrw hm
      obtain ⟨q, cc, hv⟩ : ∃ q cc, u3 = .slice q m cc := by obtain ⟨q, cc, e, -⟩ := hrw.ex; exact ⟨q, cc, e⟩
      subst hv
      clear hmm
      generalize wr = w1 at hR hk1 hrw
      clear hF
      have hF := hR.fx
      go_wp2_with fail
      go_loopw [6, 7] (fun v i wr => ∃ k : Nat, ∃ os slo, i = .int .i64 k ∧ k ≤ m ∧ OS slo 50 4 v os.length (rvals os) ∧ Hid (Mrg os (out.drop k) tot) ∧ Hid (os.length ≤ k) ∧ Rep w1 nof [] slo wr) (fun _ i _ => m - (intOf i).toNat)
      case atStart => exact ⟨0, [], [], rfl, Nat.zero_le _, OS.nil _ _, Lib.hid (.inl ⟨rfl, by rw [List.drop_zero]; exact Ht.out⟩), Lib.hid (Nat.le_refl _), hR⟩
      case round =>
        obtain ⟨k, os, slo, rfl, hkm, hO, hM, hok, hR⟩ := hrel
        have hF := hR.fx
        by_cases hlt : k < m
        · have hlt' : (k : Int) < (m : Int) := by omega
          have hk0 : (0 : Int) ≤ (k : Int) := by omega
          obtain ⟨r, hr⟩ : ∃ r, out[k]? = some r := ⟨out[k]'(by rw [← Hm.out]; exact hlt), List.getElem?_eq_getElem _⟩
          obtain ⟨b, o, rfl, hR⟩ := hrw.elem rvz (by decide) hr hR
          have hdr : out.drop k = r :: out.drop (k + 1) := by
            obtain ⟨g1, g2⟩ := List.getElem?_eq_some_iff.1 hr
            rw [List.drop_eq_getElem_cons g1, g2]
          have Hd := Lib.hid hdr
          clear hdr hr
          simp only [Rng.vals] at hR
          have hF := hR.fx
          rcases hM.out with ⟨hout, htot⟩ | ⟨done, cur, hout, htot⟩
          · subst hout
            have Hg : Hid (Mrg [r] (out.drop (k + 1)) tot) := Lib.hid (.inr ⟨[], r, rfl, by rw [← htot, Hd.out]; rfl⟩)
            clear hM htot Hd
            obtain ⟨q2, c2, rfl⟩ := hO.val
            simp only [List.length_nil] at hO ⊢
            go_upto_region 17 with (first | (refine wl_ld hR ?_) | (refine wl_st hR ?_; (try clear hF); clear hR; intro w hR; have hF := hR.fx) | (refine wl_mem hR ?_; (try clear hF); clear hR; intro w B hR; have hF := hR.fx))
            refine wp_region_C 16 (0 :: 1 :: 2 :: 3 :: 4 :: 5 :: 6 :: 7 :: 8 :: 9 :: 10 :: 11 :: 12 :: 13 :: 14 :: 15 :: []) [14] hR mixed (by kernel_rfl) ?_; (try clear hF); clear hR; (repeat (first | (refine dk ?_; intro B) | (refine dk_call0 (fun w hR => ?_); first | (go_at_call 72; refine (compare_r_w r.lo r.hi).mono ?_; rintro e w' ⟨rfl, hb⟩; refine ⟨_, rfl, hb, dn ?_⟩; clear hR hb)))); refine dc_nil ?_; intro w hR; have hF := hR.fx; try simp only [List.drop_succ_cons, List.drop_zero]
            go_wp2_with (first | (refine wl_append hR rfl rfl rfl rfl rfl (hO) (At.rd hR UpI.at rfl) ?_; (try clear hF); clear hR; intro v sl w hO hR; have hF := hR.fx) | (refine wl_ld hR ?_) | (refine wl_st hR ?_; (try clear hF); clear hR; intro w hR; have hF := hR.fx) | (refine wl_mem hR ?_; (try clear hF); clear hR; intro w B hR; have hF := hR.fx))
            go_roundw
            case rel => exact ⟨k + 1, [r], sl, by go_num, by omega, by simpa [rvals, Rng.vals] using hO, Hg, Lib.hid (by simp), hR.sub sub_any sub_any⟩
            case measure => simp [intOf] <;> omega
          · subst hout
            obtain ⟨d, hd⟩ : ∃ d, done.length = d := ⟨_, rfl⟩
            obtain ⟨g, c2, rfl, hc2⟩ := hO.val1 (by simp)
            have hlen : (done ++ [cur]).length = d + 1 := by simp [hd]
            rw [hlen] at hO hc2 ⊢
            have hok' := hok.out
            rw [hlen] at hok'
            have Hv := Lib.hid (last_hi (cur := cur) hd)
            have Hl4 : Hid (d * 4 + 2 + 2 ≤ (rvals (done ++ [cur])).length) := Lib.hid (by rw [rvals_length, hlen]; omega)
            have hdp : (0 : Int) < (d : Int) + 1 := by omega
            have hdd : (d : Int) < (d : Int) + 1 := by omega
            have hd0 : (0 : Int) ≤ (d : Int) := by omega
            have hwr : IntKind.i64.wrap (d : Int) = d := IntWalk.i64_in _ (by omega)
            by_cases hj : cmp r.lo cur.hi ≤ 0
            · have Hg : Hid (Mrg (done ++ [⟨cur.lo, greater cur.hi r.hi⟩]) (out.drop (k + 1)) tot) := Lib.hid (.inr ⟨done, _, rfl, by rw [← htot, Hd.out, mrg_join hj]⟩)
              clear hM htot Hd
              go_upto_region 17 with (first | (refine wl_ld hR ?_) | (refine wl_st hR ?_; (try clear hF); clear hR; intro w hR; have hF := hR.fx) | (refine wl_mem hR ?_; (try clear hF); clear hR; intro w B hR; have hF := hR.fx))
              refine wp_region_C 16 (0 :: 1 :: 2 :: 3 :: 4 :: 5 :: 6 :: 7 :: 8 :: 9 :: 10 :: 11 :: 12 :: 13 :: 14 :: 15 :: []) [14] hR mixed (by kernel_rfl) ?_; (try clear hF); clear hR; (repeat (first | (refine dc_ld_own rfl rfl rfl rfl hO CtxI.out rfl (by exact inferInstance) (by exact rfl) Hl4.out Hv.out (by simp only [Act.put, List.setIfInBounds_toArray, List.set_cons_zero, List.set_cons_succ, ldW, if_true, Bool.false_eq_true, if_false, List.headD_cons]; exact rfl) ?_) | (refine dk ?_; intro B) | (refine dk_call0 (fun w hR => ?_); first | (go_at_call 72; refine (compare_r_w r.lo cur.hi).mono ?_; rintro e w' ⟨rfl, hb⟩; refine ⟨_, rfl, hb, dn ?_⟩; clear hR hb)))); refine dc_nil ?_; intro w hR; have hF := hR.fx; try simp only [List.drop_succ_cons, List.drop_zero]
              go_upto_region 18 with (first | (refine wl_ld hR ?_) | (refine wl_st hR ?_; (try clear hF); clear hR; intro w hR; have hF := hR.fx) | (refine wl_mem hR ?_; (try clear hF); clear hR; intro w B hR; have hF := hR.fx))
              refine wp_region_C 17 (0 :: 1 :: 2 :: 3 :: 4 :: 5 :: 6 :: 7 :: 8 :: 9 :: 10 :: 11 :: 12 :: 13 :: 14 :: 15 :: 16 :: []) [14] hR mixed (by kernel_rfl) ?_; (try clear hF); clear hR; (repeat (first | (refine dc_ld_own rfl rfl rfl rfl hO CtxI.out rfl (by exact inferInstance) (by exact rfl) Hl4.out Hv.out (by simp only [Act.put, List.setIfInBounds_toArray, List.set_cons_zero, List.set_cons_succ, ldW, if_true, Bool.false_eq_true, if_false, List.headD_cons]; exact rfl) ?_) | (refine dk ?_; intro B) | (refine dk_call0 (fun w hR => ?_); first | (go_at_call 88; refine (greatest_r_v cur.hi r.hi).mono ?_; rintro e w' ⟨rfl, hb⟩; refine ⟨_, rfl, hb, dn ?_⟩; clear hR hb)))); refine dc_nil ?_; intro w hR; have hF := hR.fx; try simp only [List.drop_succ_cons, List.drop_zero]
              go_wp2_with (first | (refine wpList_st_os hR rfl rfl rfl hO CtxI.out rfl rfl (by exact inferInstance) Hl4.out (by exact rfl) ?_; (try clear hF); clear hR; intro sl w hO hR; (try simp only [List.cons_append, List.nil_append] at hR); have hF := hR.fx) | (refine wl_ld hR ?_) | (refine wl_st hR ?_; (try clear hF); clear hR; intro w hR; have hF := hR.fx) | (refine wl_mem hR ?_; (try clear hF); clear hR; intro w B hR; have hF := hR.fx))
              have hst : stL (d * 4 + 2) [.string (greater cur.hi r.hi).key, .bool (greater cur.hi r.hi).top] (rvals (done ++ [cur])) = rvals (done ++ [⟨cur.lo, greater cur.hi r.hi⟩]) := by
                rw [stL_rvals_hi _ _ _ cur (by rw [← hd]; simp), ← hd]; simp
              rw [hst] at hO
              go_roundw
              case rel => exact ⟨k + 1, _, sl, by go_num, by omega, by simpa [hd] using hO, Hg, Lib.hid (by simp [hd]; omega), by simpa only [List.append_nil] using hR.sub sub_any sub_any⟩
              case measure => simp [intOf] <;> omega
            · have Hg : Hid (Mrg ((done ++ [cur]) ++ [r]) (out.drop (k + 1)) tot) := Lib.hid (.inr ⟨done ++ [cur], r, rfl, by rw [← htot, Hd.out, mrg_next hj, List.append_assoc]; rfl⟩)
              clear hM htot Hd
              go_upto_region 17 with (first | (refine wl_ld hR ?_) | (refine wl_st hR ?_; (try clear hF); clear hR; intro w hR; have hF := hR.fx) | (refine wl_mem hR ?_; (try clear hF); clear hR; intro w B hR; have hF := hR.fx))
              refine wp_region_C 16 (0 :: 1 :: 2 :: 3 :: 4 :: 5 :: 6 :: 7 :: 8 :: 9 :: 10 :: 11 :: 12 :: 13 :: 14 :: 15 :: []) [14] hR mixed (by kernel_rfl) ?_; (try clear hF); clear hR; (repeat (first | (refine dc_ld_own rfl rfl rfl rfl hO CtxI.out rfl (by exact inferInstance) (by exact rfl) Hl4.out Hv.out (by simp only [Act.put, List.setIfInBounds_toArray, List.set_cons_zero, List.set_cons_succ, ldW, if_true, Bool.false_eq_true, if_false, List.headD_cons]; exact rfl) ?_) | (refine dk ?_; intro B) | (refine dk_call0 (fun w hR => ?_); first | (go_at_call 72; refine (compare_r_w r.lo cur.hi).mono ?_; rintro e w' ⟨rfl, hb⟩; refine ⟨_, rfl, hb, dn ?_⟩; clear hR hb)))); refine dc_nil ?_; intro w hR; have hF := hR.fx; try simp only [List.drop_succ_cons, List.drop_zero]
              go_wp2_with (first | (refine wl_append hR rfl rfl rfl rfl rfl (hO) (At.rd hR UpI.at rfl) ?_; (try clear hF); clear hR; intro v sl w hO hR; have hF := hR.fx) | (refine wl_ld hR ?_) | (refine wl_st hR ?_; (try clear hF); clear hR; intro w hR; have hF := hR.fx) | (refine wl_mem hR ?_; (try clear hF); clear hR; intro w B hR; have hF := hR.fx))
              go_roundw
              case rel => exact ⟨k + 1, (done ++ [cur]) ++ [r], sl, by go_num, by omega, by simpa [hd, rvals, Rng.vals] using hO, Hg, Lib.hid (by simp [hd]; omega), hR.sub sub_any sub_any⟩
              case measure => simp [intOf] <;> omega
        · obtain rfl : k = m := by omega
          have hf : os = tot := by
            rcases hM.out with ⟨h1, h2⟩ | ⟨done, cur, h1, h2⟩
            · rw [h1, ← h2, List.drop_eq_nil_of_le (by rw [Hm.out]; exact Nat.le_refl _)]; rfl
            · rw [h1, ← h2, List.drop_eq_nil_of_le (by rw [Hm.out]; exact Nat.le_refl _)]; rfl
          subst hf
          go_wp2_with (first | (refine wl_ld hR ?_) | (refine wl_st hR ?_; (try clear hF); clear hR; intro w hR; have hF := hR.fx) | (refine wl_mem hR ?_; (try clear hF); clear hR; intro w B hR; have hF := hR.fx))
          go_ret
          exact ⟨_, _, rfl, hO, hR.back hk1⟩
end Go.Proofs.YtjnnkpkbgdknmaaDoor
namespace Go.Proofs.YtjnnkpkbgdknmaaDoor
set_option linter.unusedSimpArgs false
set_option linter.unusedVariables false
open Go.RowKit
attribute [local irreducible] contains emp vld vb vk adj isect hull proper greater lesser greatest least cmp Bnd.lt Op.bytesLess Calls Oper.wp wpList Code.wp Oper.upon

theorem bytesRow_cell {p : ByteArray} {c i : Nat} (hi : i < p.toList.length) : (bytesRow p c)[i]? = some (.int .u8 (p.toList[i].toNat : Int)) := by
  have h : i < p.data.size := by have := hi; rwa [len_toList] at this
  have e : p.toList[i] = p.data[i] := by simp [ByteArray.toList_eq]
  rw [e, ← Array.getElem?_toList]
  simp only [bytesRow, Array.toList_append, Array.toList_map, Array.toList_replicate]
  rw [List.getElem?_append_left (by simpa using h), List.getElem?_map]
  simp only [Array.getElem?_toList, Array.getElem?_eq_getElem h, Option.map_some]
theorem cell_new (w : World) (C : Array Value) (T : TypeId) (f : Nat × Nat) (i : Nat) : (w.alloc (.cells C T f)).cell? ⟨w.heap.size, i, none⟩ = C[i]? := by
  unfold World.alloc World.cell?; simp only [Array.getElem?_push_size]; rfl
theorem frozen_new (w : World) (C : Array Value) (T : TypeId) (a b i : Nat) : (w.alloc (.cells C T (a, b))).frozen? ⟨w.heap.size, i, none⟩ = decide (a ≤ i ∧ i < b) := by
  unfold World.alloc World.frozen?; simp only [Array.getElem?_push_size]; simp

/-- Block b of w holds the bytes l. -/
structure ByB (w : World) (b : Nat) (l : List UInt8) : Prop where
  lt : b < w.heap.size
  cell : ∀ i (h : i < l.length), w.cell? ⟨b, i, none⟩ = some (.int .u8 (l[i].toNat : Int))
  fz : ∀ i, i < l.length → w.frozen? ⟨b, i, none⟩ = false
/-- A cell of a block that the list does not name is stored into. -/
theorem Rep.aside {w0 w : World} {X : Fr} {R : List Win} {S : List OB} (h : Rep w0 X R S w) {b o : Nat} (hb : w0.heap.size ≤ b) (hS : ∀ e ∈ S, e.b ≠ b) (v : Value) : Rep w0 X R S (w.setCell ⟨b, o, none⟩ v) := by
  have hk : ∀ k, k ≠ b → (w.setCell ⟨b, o, none⟩ v).heap[k]? = w.heap[k]? := fun k hk => Below.heap_setCell _ _ _ _ (by simpa using hk)
  refine ⟨⟨h.kp.os, h.kp.tape, h.kp.output, by simpa [World.setCell] using h.kp.size, fun i hi hx => ?_⟩, fun e he => ?_, h.ne, h.new, h.win, ?_, h.js, h.xl⟩
  · rw [hk i (by omega)]; exact h.kp.block i hi hx
  · rw [hk e.b (hS e he)]; exact h.own e he
  · exact h.js w _ h.j fun k hk' => hk k (by omega)

set_option maxRecDepth 100000 in
set_option maxHeartbeats 4000000 in
theorem prefix_p {p : ByteArray} {w : World} :
    Calls Tryd.prog 66 #[.string p] w fun e w' => ∃ m : Rng, e = .returned (.agg #[.string m.lo.key, .bool m.lo.top, .string m.hi.key, .bool m.hi.top]) ∧ Hid (m = pfx p) ∧ Kp [] w w' := by
  have kc := fun (w : World) => run_bytes_of_string (P := Tryd.prog) w 9 100 5 p Tryd.underlying9 Tryd.underlying100 Tryd.underlying5
  go_enter Tryd.func66, Tryd.ntmps66
  have hR := Rep.refl w
  generalize w = w0 at hR
  cases hv : vk p
  · go_wp2_with (first | (refine wl_ld hR ?_) | (refine wl_st hR ?_; (try clear hF); clear hR; intro w hR; have hF := hR.fx) | (refine wl_mem hR ?_; (try clear hF); clear hR; intro w B2 hR; have hF := hR.fx) | (go_at_call 43; refine (validKey_p).mono ?_; rintro e w ⟨rfl, rfl⟩))
    (exact ret_cell hR Tryd.results66 rfl UpI.at (by exact inferInstance) rfl ⟨zr, rfl, by simp [Hid, pfx, hv], hR.kp_nof⟩)
  · go_upto_region 3 with (first | (refine wl_ld hR ?_) | (refine wl_st hR ?_; (try clear hF); clear hR; intro w hR; have hF := hR.fx) | (refine wl_mem hR ?_; (try clear hF); clear hR; intro w B2 hR; have hF := hR.fx) | (go_at_call 43; refine (validKey_p).mono ?_; rintro e w ⟨rfl, rfl⟩))
    go_upto_region 5 with (first | (refine wl_ld hR ?_) | (refine wl_st hR ?_; (try clear hF); clear hR; intro w hR; have hF := hR.fx) | (refine wl_mem hR ?_; (try clear hF); clear hR; intro w B3 hR; have hF := hR.fx))
    have hW : ∀ n, (bytesRow p n).size = p.size + (n - p.size) := fun n => by simp only [bytesRow, Array.size_append, Array.size_map, Array.size_replicate]; rfl
    have hcap := grownCap_ge w p.size 0 5
    generalize grownCap w p.size 0 5 = c at hcap ⊢
    refine nameWorld (fun W1 => Rep w0 nof [] [⟨B3, 50, [.string p, .bool false, .string ⟨#[]⟩, .bool true]⟩, ⟨B2, 50, [.string ⟨#[]⟩, .bool false, .string ⟨#[]⟩, .bool false]⟩] W1 ∧ ByB W1 w.heap.size p.toList ∧ w0.heap.size ≤ w.heap.size ∧ B3 < w.heap.size ∧ B2 < w.heap.size) ?_ ?_
    · have hk2 : Kp [] w ((w.alloc (Obj.cells (bytesRow p c) 5 ((bytesRow p c).size, (bytesRow p c).size + 1))).drew) := by (repeat (first | exact Kp.refl _ _ | apply Kp.alloc | apply Kp.drew | apply Kp.drewN | (refine Kp.setCell ?_ (Or.inr (by dsimp only; omega)) _) | (refine Kp.trans ?_ (by assumption))))
      refine ⟨hR.kp0 hk2, ⟨by simp, fun i hi => (cell_new _ _ _ _ i).trans (bytesRow_cell hi), fun i hi => (frozen_new _ _ _ _ _ i).trans (decide_eq_false ?_)⟩, hR.kp.size, hR.lt (List.mem_cons_self), hR.lt (List.mem_cons_of_mem _ List.mem_cons_self)⟩
      rw [hW]; rw [len_toList] at hi; omega
    clear hR hF kc hW
    rintro W1 ⟨hR, hB, hs0, hs3, hs2⟩
    generalize w.heap.size = BB at hB hs0 hs3 hs2 ⊢
    have hpl := len_toList p
    have hps : p.size ≤ 64 := by simpa [vk] using hv
    have hF := hR.fx
    have hc0 : (0 : Int) ≤ (c : Int) := by omega
    go_loop [4] (fun v => ∃ n : Nat, v = .slice (some ⟨BB, 0, none⟩) n c ∧ n ≤ p.size ∧ Hid (upl (p.toList.take n) = upl p.toList)) (fun v => match v with | .slice _ n _ => n | _ => 0)
    case atStart => exact ⟨p.size, rfl, Nat.le_refl _, Lib.hid (by rw [List.take_of_length_le (by omega)])⟩
    case round =>
      obtain ⟨n, rfl, hn, hu⟩ := hrel
      cases n with
      | zero =>
        have hu' := hu.out
        go_wp2_with (first | (refine wl_ld hR ?_) | (refine wl_st hR ?_; (try clear hF); clear hR; intro w hR; have hF := hR.fx) | (refine wl_mem hR ?_; (try clear hF); clear hR; intro w B hR; have hF := hR.fx))
        have hup : pfx p = ⟨⟨p, false⟩, ⟨⟨#[]⟩, true⟩⟩ := by rw [pfx, if_pos hv, upb, ← hu']; rfl
        (exact ret_cell hR Tryd.results66 rfl UpI.at (by exact inferInstance) rfl ⟨pfx p, by rw [hup], rfl, hR.kp_nof⟩)
      | succ m =>
        have hml : m < p.toList.length := by omega
        have hx := hB.cell m hml
        have hz := hB.fz m hml
        have hm0 : (0 : Int) ≤ (m : Int) := by omega
        have hm1 : ((m : Int) + 1 ≤ (c : Int)) := by omega
        by_cases h255 : p.toList[m] = 255
        · rw [h255] at hx
          go_wp2_with (first | (refine wl_ld hR ?_) | (refine wl_st hR ?_; (try clear hF); clear hR; intro w hR; have hF := hR.fx) | (refine wl_mem hR ?_; (try clear hF); clear hR; intro w B hR; have hF := hR.fx))
          have e := List.take_append_getElem hml
          go_round
          case rel => exact ⟨m, rfl, by omega, Lib.hid (by rw [← hu.out, ← e, h255, upl_255])⟩
          case measure => simp
        · have hlast := upl_last (p.toList.take m) h255
          have e := List.take_append_getElem hml
          rw [e, hu.out] at hlast
          have hx2 : p.toList[m].toNat < 255 := by
            have := p.toList[m].toNat_lt
            have : p.toList[m].toNat ≠ 255 := fun e => h255 (UInt8.toNat_inj.1 (by simpa using e))
            omega
          have hbe : ((p.toList[m].toNat : Int) == 255) = false := beq_eq_false_iff_ne.2 (by omega)
          have hx3 : ((p.toList[m].toNat : Int) ≤ 254) := by omega
          have hx4 : (0 : Int) ≤ (p.toList[m].toNat : Int) := by omega
          have Hl := Lib.hid hlast
          clear hlast e hu
          generalize hxm : p.toList[m] = x at hx hx2 hbe hx3 hx4 Hl h255
          have Hxm := Lib.hid hxm
          clear hxm h255 hx2
          go_upto_region 10 with (first | (refine wl_ld hR ?_) | (refine wl_st hR ?_; (try clear hF); clear hR; intro w hR; have hF := hR.fx) | (refine wl_mem hR ?_; (try clear hF); clear hR; intro w B hR; have hF := hR.fx))
          have hlen : (p.toList.take m ++ [x + 1]).length = m + 1 := by simp; omega
          have hxn : (x + 1).toNat = x.toNat + 1 := by rw [UInt8.toNat_add]; have : (1 : UInt8).toNat = 1 := rfl; omega
          refine nameWorld (fun W2 => Rep w0 nof [] [⟨B3, 50, [.string p, .bool false, .string ⟨#[]⟩, .bool true]⟩, ⟨B2, 50, [.string ⟨#[]⟩, .bool false, .string ⟨#[]⟩, .bool false]⟩] W2 ∧ (∀ j (h : j < (p.toList.take m ++ [x + 1]).length), W2.cell? ⟨BB, j, none⟩ = some (.int .u8 ((p.toList.take m ++ [x + 1])[j].toNat : Int)))) ⟨hR.aside hs0 (by simp only [List.mem_cons, List.not_mem_nil, or_false, forall_eq_or_imp, forall_eq]; omega) _, ?_⟩ ?_
          · intro j h
            rw [hlen] at h
            by_cases hjm : j = m
            · subst hjm
              rw [World.cell?_setCell_same (h := hx)]
              rw [List.getElem_append_right (by simp; omega)]
              simp only [List.getElem_singleton, hxn]
              push_cast
              rfl
            · rw [World.cell?_setCell_other (w := W1) (a := ⟨BB, m, none⟩) (b := ⟨BB, j, none⟩) (h := by simp <;> omega), hB.cell j (by omega), List.getElem_append_left (by simp; omega), List.getElem_take]
          clear hR hF hB hx hz
          rintro W2 ⟨hR, hB⟩
          have kb := run_convert_bytes_back (P := Tryd.prog) W2 100 9 5 ⟨BB, 0, none⟩ c (p.toList.take m ++ [x + 1]) Tryd.underlying100 Tryd.underlying5 Tryd.underlying9 (fun j hj => by rw [addr_add, Nat.zero_add]; exact hB j hj)
          rw [hlen] at kb
          have hup : pfx p = ⟨⟨p, false⟩, ⟨⟨(p.toList.take m ++ [x + 1]).toArray⟩, false⟩⟩ := by rw [pfx, if_pos hv, upb, Hl.out]
          generalize p.toList.take m ++ [x + 1] = q at kb hup
          have Hup := Lib.hid hup
          clear hup hB Hl Hxm hbe hx3 hx4 hxn hlen
          have hF := hR.fx
          go_wp2_with (first | (refine wl_ld hR ?_) | (refine wl_st hR ?_; (try clear hF); clear hR; intro w hR; have hF := hR.fx) | (refine wl_mem hR ?_; (try clear hF); clear hR; intro w B hR; have hF := hR.fx))
          (exact ret_cell hR Tryd.results66 rfl UpI.at (by exact inferInstance) rfl ⟨pfx p, by rw [Hup.out], rfl, hR.kp_nof⟩)
theorem prefix_p_v {p : ByteArray} {z : Rng} {w : World} (h : Hid (pfx p = z)) :
    Calls Tryd.prog 66 #[.string p] w fun e w' => e = .returned (.agg #[.string z.lo.key, .bool z.lo.top, .string z.hi.key, .bool z.hi.top]) ∧ Kp [] w w' :=
  prefix_p.mono fun _ _ ⟨m, he, hm, hk⟩ => by have := hm.out; have h2 := h.out; subst this; subst h2; exact ⟨he, hk⟩
end Go.Proofs.YtjnnkpkbgdknmaaDoor
namespace Go.Proofs.YtjnnkpkbgdknmaaDoor
set_option linter.unusedSimpArgs false
set_option linter.unusedVariables false
open Go.RowKit
attribute [local irreducible] contains emp vld vb vk adj isect hull proper greater lesser greatest least cmp Bnd.lt Op.bytesLess Calls Oper.wp wpList Code.wp Oper.upon
theorem dc_conv {P : Program} {L : List Oper} {w0 : World} {X : Fr} {R : List Win} {im : List Nat} {Qf : Act → List OB → Prop} {i : Nat} {r : List Nat} {a a' : Act} {S : List OB} {op : Oper} {s d : TypeId} {x : Operand} {v u : Value}
    (ho : nth L i = some op) (hi : im.contains i = false) (hw : Region.wanted op (yielded L.toArray a.tmps) = true) (hop : op.op = .convert s d x) (hx : a.eval x = v) (hr : ∀ w, Rep w0 X R S w → (convert s d v).run P w = .ok u w) (ha : a.put op.dst u = a')
    (h : DC P L.toArray w0 X R im Qf r a' S) : DC P L.toArray w0 X R im Qf (i :: r) a S := by
  refine dc_read ho hi hw (fun w hR => ?_) ha h
  unfold execOp
  rw [hop]
  simp [hx, hr w hR]
theorem dc_cat {P : Program} {L : List Oper} {w0 : World} {X : Fr} {R : List Win} {im : List Nat} {Qf : Act → List OB → Prop} {i : Nat} {r : List Nat} {a a' : Act} {S : List OB} {op : Oper} {s d : TypeId} {x y : Operand} {s1 s2 : ByteArray}
    (ho : nth L i = some op) (hi : im.contains i = false) (hw : Region.wanted op (yielded L.toArray a.tmps) = true) (hop : op.op = .binOp .add s x y d) (hx : a.eval x = .string s1) (hy : a.eval y = .string s2) (hs : s1.size + s2.size ≤ 9223372036854775807) (ha : a.put op.dst (.string (s1 ++ s2)) = a')
    (h : DC P L.toArray w0 X R im Qf r a' S) : DC P L.toArray w0 X R im Qf (i :: r) a S := by
  refine dc_pure ho hi hw (fun w => ?_) ha h
  unfold execOp
  rw [hop]
  simp [hx, hy, eqGuard, binOp, run_string_add_sum w s1 s2 hs]
theorem conv1 {w : World} {B : Nat} {x : UInt8} {v : Int} (hc : ∀ i, w.cell? ⟨B, i, none⟩ = ([.int .u8 v] : List Value)[i]?) (hv : v = (x.toNat : Int)) : (convert 100 9 (.slice (some ⟨B, 0, none⟩) 1 1)).run Tryd.prog w = .ok (.string ⟨#[x]⟩) w :=
  run_convert_bytes_back (P := Tryd.prog) w 100 9 5 ⟨B, 0, none⟩ 1 [x] Tryd.underlying100 Tryd.underlying5 Tryd.underlying9 fun j hj => by
    obtain rfl : j = 0 := by simp at hj; omega
    rw [addr_add, hc, hv]; rfl
set_option maxRecDepth 100000 in
set_option maxHeartbeats 4000000 in
theorem prefix_r {p : ByteArray} {w : World} :
    Calls Tryd.prog 60 #[.string p] w fun e w' => ∃ m : Rng, e = .returned (.agg #[.string m.lo.key, .bool m.lo.top, .string m.hi.key, .bool m.hi.top]) ∧ Hid (m = pfx p) ∧ Kp [] w w' := by
  go_enter Tryd.func60, Tryd.ntmps60
  have hR := Rep.refl w
  generalize w = w0 at hR
  cases hv : vk p
  · go_wp2_with (first | (refine wl_ld hR ?_) | (refine wl_st hR ?_; (try clear hF); clear hR; intro w hR; have hF := hR.fx) | (refine wl_mem hR ?_; (try clear hF); clear hR; intro w B2 hR; have hF := hR.fx) | (go_at_call 46; refine (validKey_r).mono ?_; rintro e w ⟨rfl, rfl⟩))
    (exact ret_cell hR Tryd.results60 rfl UpI.at (by exact inferInstance) rfl ⟨zr, rfl, by simp [Hid, pfx, hv], hR.kp_nof⟩)
  · go_wp2_with (first | (refine wl_ld hR ?_) | (refine wl_st hR ?_; (try clear hF); clear hR; intro w hR; have hF := hR.fx) | (refine wl_mem hR ?_; (try clear hF); clear hR; intro w B2 hR; have hF := hR.fx) | (go_at_call 46; refine (validKey_r).mono ?_; rintro e w ⟨rfl, rfl⟩))
    have hpl := len_toList p
    have hps : p.size ≤ 64 := by simpa [vk] using hv
    go_loopw [3] (fun v wr => ∃ n : Nat, v = .int .i64 n ∧ n ≤ p.size ∧ Hid (upl (p.toList.take n) = upl p.toList) ∧ Rep w0 nof [] [⟨B2, 50, [.string ⟨#[]⟩, .bool false, .string ⟨#[]⟩, .bool false]⟩] wr) (fun v _ => (intOf v).toNat)
    case atStart => exact ⟨p.size, rfl, Nat.le_refl _, Lib.hid (by rw [List.take_of_length_le (by omega)]), hR⟩
    case round =>
      obtain ⟨n, rfl, hn, hu, hR⟩ := hrel
      have hF := hR.fx
      cases n with
      | zero =>
        have hu' := hu.out
        go_wp2_with (first | (refine wl_ld hR ?_) | (refine wl_st hR ?_; (try clear hF); clear hR; intro w hR; have hF := hR.fx) | (refine wl_mem hR ?_; (try clear hF); clear hR; intro w B hR; have hF := hR.fx))
        have hup : pfx p = ⟨⟨p, false⟩, ⟨⟨#[]⟩, true⟩⟩ := by rw [pfx, if_pos hv, upb, ← hu']; rfl
        (exact ret_cell hR Tryd.results60 rfl UpI.at (by exact inferInstance) rfl ⟨pfx p, by rw [hup], rfl, hR.kp_nof⟩)
      | succ m =>
        have hml : m < p.toList.length := by omega
        have hm0 : (0 : Int) ≤ (m : Int) := by omega
        have hm1 : ((m : Int) < (p.size : Int)) := by omega
        have hm2 : m < p.size := by omega
        have hm3 : ((m : Int) ≤ (p.size : Int)) := by omega
        have hmp : (0 : Int) < (m : Int) + 1 := by omega
        have hwr : IntKind.i64.wrap (m : Int) = m := IntWalk.i64_in _ (by omega)
        have hpm : p[m] = p.toList[m] := by simp [ByteArray.toList_eq]; rfl
        have e := List.take_append_getElem hml
        by_cases h255 : p.toList[m] = 255
        · have hb : ((p[m].toNat : Int) == 255) = true := by rw [hpm, h255]; rfl
          clear hpm
          go_wp2_with (first | (refine wl_ld hR ?_) | (refine wl_st hR ?_; (try clear hF); clear hR; intro w hR; have hF := hR.fx) | (refine wl_mem hR ?_; (try clear hF); clear hR; intro w B hR; have hF := hR.fx))
          go_roundw
          case rel => exact ⟨m, rfl, by omega, Lib.hid (by rw [← hu.out, ← e, h255, upl_255]), hR⟩
          case measure => simp [intOf]
        · have hlast := upl_last (p.toList.take m) h255
          rw [e, hu.out] at hlast
          have hx2 : p[m].toNat < 255 := by
            rw [hpm]
            have := p.toList[m].toNat_lt
            have : p.toList[m].toNat ≠ 255 := fun e => h255 (UInt8.toNat_inj.1 (by simpa using e))
            omega
          have hb : ((p[m].toNat : Int) == 255) = false := beq_eq_false_iff_ne.2 (by omega)
          have hx1 : (p[m] + 1).toNat = p[m].toNat + 1 := by rw [UInt8.toNat_add]; have : (1 : UInt8).toNat = 1 := rfl; omega
          have H8 : Hid (((p[m].toNat : Int) + 1) % 256 = ((p[m] + 1).toNat : Int)) := Lib.hid (by rw [hx1]; omega)
          have hup : pfx p = ⟨⟨p, false⟩, ⟨⟨(p.toList.take m ++ [p[m] + 1]).toArray⟩, false⟩⟩ := by rw [pfx, if_pos hv, upb, hlast, hpm]
          have Hup := Lib.hid hup
          clear hup hlast e hu hx1 hpm
          have Hex : Hid ((p.extract 0 m).size + (⟨#[p[m] + 1]⟩ : ByteArray).size ≤ 9223372036854775807) := Lib.hid (by rw [ByteArray.size_extract]; show _ + 1 ≤ _; omega)
          go_upto_region 8 with (first | (refine wl_ld hR ?_) | (refine wl_st hR ?_; (try clear hF); clear hR; intro w hR; have hF := hR.fx) | (refine wl_mem hR ?_; (try clear hF); clear hR; intro w B hR; have hF := hR.fx))
          refine wp_region_C 16 (0 :: 1 :: 2 :: 3 :: 4 :: 5 :: 6 :: 7 :: 8 :: 9 :: 10 :: 11 :: 12 :: 13 :: 14 :: 15 :: []) [11] hR mixed (by kernel_rfl) ?_; (try clear hF); clear hR; (repeat (first | (refine dc_conv (v := .slice (some ⟨B, 0, none⟩) 1 1) rfl rfl rfl rfl rfl (fun w hR => conv1 (B := B) (x := p[m] + 1) (hR.cells List.mem_cons_self) H8.out) (by simp only [Act.put, List.setIfInBounds_toArray, List.set_cons_zero, List.set_cons_succ]; exact rfl) ?_) | (refine dc_cat rfl rfl rfl rfl rfl rfl Hex.out (by simp only [Act.put, List.setIfInBounds_toArray, List.set_cons_zero, List.set_cons_succ]; exact rfl) ?_) | (refine dk ?_; intro B))); refine dc_nil ?_; intro w hR; have hF := hR.fx; try simp only [List.drop_succ_cons, List.drop_zero]
          go_wp2_with (first | (refine wl_ld hR ?_) | (refine wl_st hR ?_; (try clear hF); clear hR; intro w hR; have hF := hR.fx) | (refine wl_mem hR ?_; (try clear hF); clear hR; intro w B hR; have hF := hR.fx))
          have hk : p.extract 0 m ++ (⟨#[p[m] + 1]⟩ : ByteArray) = ⟨(p.toList.take m ++ [p[m] + 1]).toArray⟩ := by
            apply ba_eq
            simp only [ByteArray.toList_eq, ByteArray.data_append, ByteArray.data_extract, Array.toList_append, Array.toList_extract, Nat.sub_zero, List.extract_eq_take_drop, List.drop_zero]
          (exact ret_cell hR Tryd.results60 rfl UpI.at (by exact inferInstance) rfl ⟨pfx p, by rw [Hup.out, ← hk], rfl, hR.kp_nof⟩)
theorem prefix_r_v {p : ByteArray} {z : Rng} {w : World} (h : Hid (pfx p = z)) :
    Calls Tryd.prog 60 #[.string p] w fun e w' => e = .returned (.agg #[.string z.lo.key, .bool z.lo.top, .string z.hi.key, .bool z.hi.top]) ∧ Kp [] w w' :=
  prefix_r.mono fun _ _ ⟨m, he, hm, hk⟩ => by have := hm.out; have h2 := h.out; subst this; subst h2; exact ⟨he, hk⟩
end Go.Proofs.YtjnnkpkbgdknmaaDoor
namespace Go.Proofs.YtjnnkpkbgdknmaaDoor
set_option linter.unusedSimpArgs false
set_option linter.unusedVariables false
open Go.RowKit
theorem Step.ofKp {B : Nat → Prop} {H0 : Hp} {ρ : Lc} {w w' : World} (h : Kp [] w w') : Step B H0 [] ρ ρ w w' :=
  ⟨h.os, h.tape, h.output, h.size, fun _ _ h => h, fun k l h => .inl h, fun b hb _ => h.block b hb (by simp), fun k hk => by simp [look] at hk, fun k blk hk => by simp [look] at hk, fun k k' blk blk' l l' b hk => by simp [look] at hk⟩
theorem rds_ds {w : World} {ok : Nat → Prop} : ∀ {ds : List D} {vs us : List Value}, ds = vs.map D.c → RDs w ok ds us → us = vs
  | [], [], _, _, .nil => rfl
  | [], _ :: _, _, h, _ => by simp at h
  | d :: ds, [], _, h, _ => by simp at h
  | d :: ds, v :: vs, _, h, .cons h1 h2 => by
    simp only [List.map_cons, List.cons.injEq] at h
    obtain ⟨rfl, h⟩ := h
    cases h1
    rw [rds_ds h h2]
theorem ds_rvals (l : List Rng) : l.flatMap Rng.ds = (rvals l).map D.c := by
  induction l with
  | nil => rfl
  | cons r t ih => simp only [List.flatMap_cons, ih, rvals, List.map_append]; rfl
theorem rds_of {w : World} {ok : Nat → Prop} : ∀ {vs : List Value}, vs.all Value.oneCell' = true → RDs w ok (vs.map D.c) vs
  | [], _ => .nil
  | v :: vs, h => by
    simp only [List.all_cons, Bool.and_eq_true] at h
    exact .cons (.c h.1) (rds_of h.2)
theorem rvalsE_one (l : List Rng) : (rvals l).all Value.oneCell' = true := by
  rw [List.all_eq_true]
  intro v hv
  simp only [rvals, List.mem_flatMap] at hv
  obtain ⟨r, -, hr⟩ := hv
  exact List.all_eq_true.1 (show r.vals.all Value.oneCell' = true from rfl) v hr
theorem rd_l {w : World} {ok : Nat → Prop} {n : Nat} {xs : List D} {v : Value} (h : RD w ok (.l n xs) v) : (n = 0 ∧ xs = [] ∧ ∃ p c, v = .slice p 0 c) ∨ ∃ c b o vs, v = .slice (some ⟨b, o, none⟩) n c ∧ n ≤ c ∧ ok b ∧ RDs w ok xs vs ∧ ∀ j v, vs[j]? = some v → w.cell? ⟨b, o + j, none⟩ = some v := by
  cases h with
  | nil p c => exact .inl ⟨rfl, rfl, p, c, rfl⟩
  | l g1 g2 g3 g4 => exact .inr ⟨_, _, _, _, rfl, g1, g2, g3, g4⟩
theorem union_ct {f : FuncId} {fn : Func} (hf : Tryd.prog.funcs[f]? = some fn) (hn : (fn.name == "runtime.NumGoroutine") = false) (hb : fn.body.isNone = false) (l : List Rng) (hl : l.length ≤ 1000000)
    (hc : ∀ {p : Option Addr} {n c : Nat} {w : World}, Rd w 4 (.slice p n c) n (rvals l) → n ≤ 1000000 → Calls Tryd.prog f #[.slice p n c] w fun e w' => ∃ r sl, e = .returned r ∧ OS sl 50 4 r (union l).length (rvals (union l)) ∧ Rep w nof [] sl w') :
    Spec Tryd.prog f [.d (lst Rng.ds l)] [] fun u h => u = .d (lst Rng.ds (union l)) ∧ h = [] := by
  refine ⟨⟨fn, hf, hn, hb⟩, fun B w ρ vs hB hvs hr hlive => ?_⟩
  cases hvs with
  | cons h1 h2 =>
  cases h2
  cases h1 with
  | d h1 =>
  have hrl : (rvals l).length = l.length * 4 := by rw [rvals_length]; omega
  have hRd : ∃ p c, (‹Value› : Value) = .slice p l.length c ∧ Rd w 4 (.slice p l.length c) l.length (rvals l) := by
    rcases rd_l h1 with ⟨e1, e2, p, c, rfl⟩ | ⟨c, b, o, vs, rfl, g1, g2, g3, g4⟩
    · exact ⟨p, c, by rw [e1], hrl, p, c, by rw [e1], by omega, .inl e1⟩
    · have e3 := rds_ds (ds_rvals l) g3
      subst e3
      exact ⟨_, _, rfl, hrl, _, _, rfl, g1, .inr ⟨_, _, rfl, g2.1, g4⟩⟩
  obtain ⟨p, c, rfl, hRd⟩ := hRd
  refine (hc hRd hl).mono ?_
  rintro e w' ⟨r, sl, rfl, hO, hR⟩
  refine ⟨r, _, [], ρ, rfl, ⟨rfl, rfl⟩, Step.ofKp hR.kp_nof, ?_, fun k hk => by simp [look] at hk⟩
  obtain ⟨ho1, ho2⟩ := hO
  rcases ho2 with ⟨rfl, rfl, h0⟩ | ⟨g, cap, sp, rfl, rfl, h3, h4, h5⟩
  · have : union l = [] := List.eq_nil_of_length_eq_zero h0
    rw [this]; exact .d (.nil _ _)
  · have hown := hR.own _ List.mem_cons_self
    have hnew := hR.new _ List.mem_cons_self
    simp only at hown hnew
    have hlt := (Array.getElem?_eq_some_iff.1 hown).1
    refine .d ?_
    rw [lst, ds_rvals]
    refine .l h3 ⟨hlt, hB _ hnew, fun k l' hk e => ?_⟩ (rds_of (rvalsE_one _)) fun j v hv => ?_
    · have := hr.lt k l' g hk e; omega
    · rw [World.cell?, hown]; simp [List.getElem?_append_left (List.getElem?_eq_some_iff.1 hv).1, hv]
instance union_cp (l : List Rng) : Ct Tryd.prog 58 [.d (lst Rng.ds l)] (l.length ≤ 1000000) (.d (lst Rng.ds (union l))) := ⟨fun h => union_ct Tryd.func58 rfl rfl l h fun h1 h2 => union_p h1 h2⟩
instance union_cr (l : List Rng) : Ct Tryd.prog 61 [.d (lst Rng.ds l)] (l.length ≤ 1000000) (.d (lst Rng.ds (union l))) := ⟨fun h => union_ct Tryd.func61 rfl rfl l h fun h1 h2 => union_r h1 h2⟩
theorem prefix_ct {f : FuncId} {fn : Func} (hf : Tryd.prog.funcs[f]? = some fn) (hn : (fn.name == "runtime.NumGoroutine") = false) (hb : fn.body.isNone = false) (p : ByteArray)
    (hc : ∀ {w : World}, Calls Tryd.prog f #[.string p] w fun e w' => ∃ m : Rng, e = .returned (.agg #[.string m.lo.key, .bool m.lo.top, .string m.hi.key, .bool m.hi.top]) ∧ Hid (m = pfx p) ∧ Kp [] w w') :
    Spec Tryd.prog f [vS p] [] fun u h => u = .a [vS (pfx p).lo.key, vB (pfx p).lo.top, vS (pfx p).hi.key, vB (pfx p).hi.top] ∧ h = [] := by
  refine ⟨⟨fn, hf, hn, hb⟩, fun B w ρ vs hB hvs hr hlive => ?_⟩
  cases hvs with
  | cons h1 h2 =>
  cases h2
  cases rv_c h1
  refine hc.mono ?_
  rintro e w' ⟨m, rfl, hm, hk⟩
  have hm := hm.out
  subst hm
  exact ⟨_, _, [], ρ, rfl, ⟨rfl, rfl⟩, Step.ofKp hk, .a (.cons (.d (.c rfl)) (.cons (.d (.c rfl)) (.cons (.d (.c rfl)) (.cons (.d (.c rfl)) .nil)))), fun k hk => by simp [look] at hk⟩
instance prefix_cp (p : ByteArray) : Ct Tryd.prog 66 [vS p] True (.a [vS (pfx p).lo.key, vB (pfx p).lo.top, vS (pfx p).hi.key, vB (pfx p).hi.top]) := ⟨fun _ => prefix_ct Tryd.func66 rfl rfl p prefix_p⟩
instance prefix_cr (p : ByteArray) : Ct Tryd.prog 60 [vS p] True (.a [vS (pfx p).lo.key, vB (pfx p).lo.top, vS (pfx p).hi.key, vB (pfx p).hi.top]) := ⟨fun _ => prefix_ct Tryd.func60 rfl rfl p prefix_r⟩
end Go.Proofs.YtjnnkpkbgdknmaaDoor
namespace Go.Proofs.YtjnnkpkbgdknmaaDoor
set_option linter.unusedSimpArgs false
set_option linter.unusedVariables false
open Go.ChangeShapes Go.WideShapes Go.ChangeAt Go.RowKit Go.Joins

theorem own : ownKnob Tryd.prog.godebug = none := by kernel_rfl
theorem laidOut : laidOutB Tryd.prog = true := by kernel_rfl
theorem gLetters : Tryd.prog.globalNamed "skipgraph/skipgraphworld.letters" = some 0 := by kernel_rfl
theorem gLettersType : (Tryd.prog.globals[(0 : Nat)]?).map (·.type) = some 83 := by kernel_rfl
theorem cellsL : Tryd.prog.cellsOf 83 = 6 := by kernel_rfl
theorem cellsS : Tryd.prog.cellsOf 9 = 1 := by kernel_rfl

/-- What the rows' list gives: the letters stand. -/
theorem letters_ok {W : World} (h : laidMetH Tryd.prog [("skipgraph/skipgraphworld.letters", Rows.laid_skipgraph_skipgraphworld_letters)] W) :
    ∀ e ∈ GL, e.1 < W.heap.size ∧ ∀ (j : Nat) (v : Value), e.2[j]? = some v → W.cell? ⟨e.1, j, none⟩ = some v := by
  obtain ⟨ps, ⟨g', t', cs, fuel, p, q, hg', ht', hvar, hd, _, _⟩, _⟩ := (h : laidMet Tryd.prog [("skipgraph/skipgraphworld.letters", Rows.laid_skipgraph_skipgraphworld_letters)] W)
  obtain rfl := Option.some.inj (gLetters.symm.trans hg')
  obtain rfl := Option.some.inj (gLettersType.symm.trans ht')
  obtain ⟨xs, m, rfl, hx, hlen, hxl, hel⟩ := DataW.trod_array Tryd.underlying83 hd
  simp only [cellsS, cellsL, Nat.mul_one] at hlen hel
  have hxs : xs.map (·.1) = [.lit (.string [97]), .lit (.string [98]), .lit (.string [99]), .lit (.string [0]), .lit (.string [255]), .lit (.string [109])] := by
    have := congrArg Prod.fst hx
    simpa [Rows.laid_skipgraph_skipgraphworld_letters] using this.symm
  have key : ∀ i, i < 6 → ∃ s : ByteArray, cs[i]? = some (.string s) ∧ ([.lit (.string [97]), .lit (.string [98]), .lit (.string [99]), .lit (.string [0]), .lit (.string [255]), .lit (.string [109])] : List (DataW Unit))[i]? = some (.lit (.string s.data.toList)) := by
    intro i hi
    have h1 := hel i hi
    obtain ⟨y, hy⟩ : ∃ y, xs[i]? = some y := ⟨xs[i], List.getElem?_eq_getElem (by omega)⟩
    rw [hy] at h1
    obtain ⟨s, e1, rfl, _⟩ := DataW.trod_string Tryd.underlying9 h1
    have h2 : (xs.map (·.1))[i]? = some (.lit (.string s.data.toList)) := by simp [hy]
    rw [hxs] at h2
    refine ⟨s, ?_, h2⟩
    have := congrArg (·[0]?) e1
    simpa [List.getElem?_take, List.getElem?_drop] using this
  intro e he
  obtain rfl : e = _ := List.mem_singleton.1 he
  have cell : ∀ i, i < 6 → W.cell? ⟨0, i, none⟩ = cs[i]? := fun i hi => by
    obtain ⟨s, h1, _⟩ := key i hi
    exact World.var?_cell gLetters hvar i
  have bs : ∀ (s : ByteArray) (l : List UInt8), s.data.toList = l → s = ⟨l.toArray⟩ := fun s l h => by
    cases s with | mk a => simp only at h; subst h; simp
  have all : ∀ j v, ([.string ⟨#[97]⟩, .string ⟨#[98]⟩, .string ⟨#[99]⟩, .string ⟨#[0]⟩, .string ⟨#[255]⟩, .string ⟨#[109]⟩] : List Value)[j]? = some v → W.cell? ⟨0, j, none⟩ = some v := fun j v hv => by
    have hj : j < 6 := (List.getElem?_eq_some_iff.1 hv).1
    obtain ⟨s, h1, h2⟩ := key j hj
    rw [cell j hj, h1]
    have : j = 0 ∨ j = 1 ∨ j = 2 ∨ j = 3 ∨ j = 4 ∨ j = 5 := by omega
    rcases this with rfl | rfl | rfl | rfl | rfl | rfl <;> (simp at h2 hv; rw [← hv, bs s _ h2.symm])
  exact ⟨World.block_lt_of_cell? W ⟨0, 0, none⟩ (all 0 _ rfl), all⟩

set_option maxRecDepth 100000 in
/-- The numbers of the tape. -/
theorem ints_of {H : Type} {enc : TypeId × Value → H} {W : World} {v : Value} {d : DataW H} {ps : List MemPlace} {base : Nat}
    (hv : Value.okWide Tryd.prog W .any base 22 v) (h : DataW.Trod enc Tryd.prog W 0 (fun _ => true) true 22 v d ps) : ∃ L : List Int, L.length ≤ 9223372036854775807 ∧ (∀ z ∈ L, -9223372036854775808 ≤ z ∧ z ≤ 9223372036854775807) ∧ RD W (fun b => b < W.heap.size) (i64s L) v := by
  obtain ⟨a0, len, cap, rfl⟩ := okWide_slice Tryd.underlying22 hv
  obtain ⟨fuel, hf⟩ := h
  rcases open_ints Tryd.underlying22 Tryd.underlying3 (by kernel_rfl) hf with ⟨hcs, hx⟩ | ⟨a, len', cap', zs, hcs, _, hl, hm, hz, hx, hcell, hwz⟩
  · simp only [Value.cells, List.cons.injEq, Value.slice.injEq, and_true] at hcs
    obtain ⟨rfl, rfl, rfl⟩ := hcs
    refine ⟨[], Nat.zero_le _, ?_, RD.nil _ _⟩
    intro z hz; cases hz
  · simp only [Value.cells, List.cons.injEq, Value.slice.injEq, and_true] at hcs
    obtain ⟨rfl, rfl, rfl⟩ := hcs
    unfold maxLen at hm
    have hzl : zs.length = cap := by simpa using hz
    have hlen : (zs.take len).length = len := by rw [List.length_take]; omega
    refine ⟨zs.take len, by omega, fun z hz' => bounds_i64 (hwz z (List.mem_of_mem_take hz')), ?_⟩
    by_cases h0 : zs.length = 0
    · have : zs = [] := List.eq_nil_of_length_eq_zero h0
      subst this
      obtain rfl : len = 0 := by simp at hzl; omega
      simp only [List.take_nil]
      exact .nil _ _
    obtain ⟨b, off, rfl, hc⟩ := ints_at hcell (by omega)
    have hrd : ∀ l : List Int, RDs W (fun b => b < W.heap.size) (l.flatMap dsI) (l.map (.int .i64)) := fun l => by
      induction l with
      | nil => exact .nil
      | cons z l ih => exact .cons (.c rfl) ih
    have key := RD.l (w := W) (ok := fun b => b < W.heap.size) (n := len) (c := cap) (o := off) hl (World.block_lt_of_cell? W ⟨b, off + 0, none⟩ (hc 0 (by omega))) (hrd (zs.take len)) fun j v hj => by
      have hj' : j < (zs.take len).length := by simpa using (List.getElem?_eq_some_iff.1 hj).1
      have hj2 : j < zs.length := by omega
      rw [hc j hj2]
      rw [List.getElem?_map, List.getElem?_take, if_pos (by omega), List.getElem?_eq_getElem hj2] at hj
      rw [List.getD_eq_getElem?_getD, List.getElem?_eq_getElem hj2]
      simpa using hj
    rw [show i64s (zs.take len) = .l len ((zs.take len).flatMap dsI) by unfold i64s lst; rw [hlen]]
    exact key

theorem trodAll_later {H : Type} {enc : TypeId × Value → H} {P : Program} (hl : laidOutB P = true) {W W' : World} (hb : Below W.heap.size W W') (ts : List TypeId) :
    ∀ (vs : List Value) (ds : List (DataW H)) (ps : List MemPlace), (ts.all fun t => P.readableRec t && decide (t < P.types.size)) = true →
      DataW.TrodAll enc P W 0 (fun _ => true) true ts vs ds ps → (∀ x ∈ ps, x.block < W.heap.size) → DataW.TrodAll enc P W' 0 (fun b => decide (b < W.heap.size)) true ts vs ds ps := by
  induction ts with
  | nil =>
    intro vs ds ps _ h _
    cases vs <;> cases ds <;> first | exact h | exact h.elim
  | cons t ts ih =>
    intro vs ds ps hr h hlt
    cases vs with
    | nil => exact h.elim
    | cons v vs =>
      cases ds with
      | nil => exact h.elim
      | cons d ds =>
        simp only [List.all_cons, Bool.and_eq_true, decide_eq_true_eq] at hr
        obtain ⟨p, q, h1, h2, rfl⟩ := h
        exact ⟨p, q, Below.trod hl hr.1.1 hr.1.2 h1 hb (fun x hx => hlt x (List.mem_append_left _ hx)), ih vs ds q (by simpa using hr.2) h2 (fun x hx => hlt x (List.mem_append_right _ hx)), rfl⟩

theorem law_post {H : Type} {enc : TypeId × Value → H} {f : Func} {s : ChangeSpec} {W W' : World} {args : Array Value} {ds gs : List (DataW H)} {before : List MemPlace}
    (hvars : s.vars = []) (hres : f.resultTypes = #[4]) (hr : (f.params.toList.all fun t => Tryd.prog.readableRec t && decide (t < Tryd.prog.types.size)) = true)
    (hfn : s.fn H (ds ++ gs) = { results := [.lit (.bool true)], args := ds }) (hW : DataW.Whole enc Tryd.prog f.params.toList s.vars false W args.toList ds gs before) (hk : Kp [] W W') :
    s.post enc Tryd.prog f false true false false W args (.bool true) W' := by
  have hb := hk.below
  have hlt : ∀ x ∈ before, x.block < W.heap.size := fun x hx => hW.lt x hx
  have hW' := hW
  obtain ⟨p, q, hA, hV, rfl, -, -⟩ := hW
  refine ⟨ds, gs, p ++ q, [], p, [], hW', ?_, ?_, ?_, Below.frame hb _, fun h => by cases h⟩
  · rw [hfn, hres]
    exact trodAll_mk1 (shut_bool Tryd.underlying4 true)
  · rw [hfn]
    exact trodAll_later laidOut hb _ _ _ _ hr hA (fun x hx => hlt x (List.mem_append_left _ hx))
  · rw [hfn, hvars]
    rfl

/-- A world for the witness: the settled one, the letters as their initialiser lays them. -/
noncomputable def laidWorld (os : Os) : World :=
  { World.holding Tryd.prog os ⟨#[], #[], []⟩ with heap := (World.holding Tryd.prog os ⟨#[], #[], []⟩).heap.modify 0 fun
      | .cells _ t frozen => .cells #[.string ⟨#[97]⟩, .string ⟨#[98]⟩, .string ⟨#[99]⟩, .string ⟨#[0]⟩, .string ⟨#[255]⟩, .string ⟨#[109]⟩] t frozen
      | o => o }
end Go.Proofs.YtjnnkpkbgdknmaaDoor
namespace Go.Proofs.YtjnnkpkbgdknmaaDoor
set_option linter.unusedSimpArgs false
set_option linter.unusedVariables false
open Go.ChangeShapes Go.WideShapes Go.ChangeAt Go.RowKit Go.Joins
set_option maxRecDepth 100000
section
variable {H : Type} {enc : TypeId × Value → H} {W : World} {base : Nat} {fuel : Nat} {cs : List Value} {x : DataW H × List MemPlace}
theorem trod_bound (h : DataW.trod enc Tryd.prog W 0 (fun _ => true) true fuel 48 cs = some x) : ∃ b : Bnd, cs = [.string b.key, .bool b.top] ∧ b.key.size ≤ maxLen := by
  obtain ⟨y0, y1, n, -, hl, h0, h1⟩ := trod_struct2 Tryd.underlying48 h
  obtain ⟨a, e0, -, ha⟩ := DataW.trod_string Tryd.underlying9 h0
  obtain ⟨s, e1, -⟩ := DataW.trod_bool Tryd.underlying4 h1
  have hc : Tryd.prog.cellsOf 48 = 2 := by kernel_rfl
  have hs : Tryd.prog.cellsOf 9 = 1 := by kernel_rfl
  have hb : Tryd.prog.cellsOf 4 = 1 := by kernel_rfl
  rw [hc] at hl
  match cs, hl with
  | [c0, c1], _ =>
    simp only [hs, hb, List.drop_zero, List.drop_succ_cons, List.take_succ_cons, List.take_zero, List.cons.injEq, and_true] at e0 e1
    subst e0 e1
    exact ⟨⟨a, s⟩, rfl, ha⟩
theorem trod_range (h : DataW.trod enc Tryd.prog W 0 (fun _ => true) true fuel 50 cs = some x) : ∃ r : Rng, cs = r.vals ∧ r.lo.key.size ≤ maxLen ∧ r.hi.key.size ≤ maxLen := by
  obtain ⟨y0, y1, n, -, hl, h0, h1⟩ := trod_struct2 Tryd.underlying50 h
  obtain ⟨a, e0, ha⟩ := trod_bound h0
  obtain ⟨b, e1, hb⟩ := trod_bound h1
  have hc : Tryd.prog.cellsOf 50 = 4 := by kernel_rfl
  have hs : Tryd.prog.cellsOf 48 = 2 := by kernel_rfl
  rw [hc] at hl
  match cs, hl with
  | [c0, c1, c2, c3], _ =>
    simp only [hs, List.drop_zero, List.drop_succ_cons, List.take_succ_cons, List.take_zero, List.cons.injEq, and_true] at e0 e1
    obtain ⟨rfl, rfl⟩ := e0
    obtain ⟨rfl, rfl⟩ := e1
    exact ⟨⟨a, b⟩, rfl, ha, hb⟩
theorem range_of {v : Value} {d : DataW H} {ps : List MemPlace} (hv : Value.okWide Tryd.prog W .any base 50 v) (h : DataW.Trod enc Tryd.prog W 0 (fun _ => true) true 50 v d ps) :
    ∃ r : Rng, v = .agg #[.string r.lo.key, .bool r.lo.top, .string r.hi.key, .bool r.hi.top] := by
  obtain ⟨cs, rfl, -⟩ := okWide_struct Tryd.underlying50 hv
  obtain ⟨fuel, h⟩ := h
  obtain ⟨r, e, -, -⟩ := trod_range h
  refine ⟨r, ?_⟩
  obtain ⟨l⟩ := cs
  simp only [Value.cells] at e
  subst e
  rfl
theorem str_of {v : Value} {d : DataW H} {ps : List MemPlace} (hv : Value.okWide Tryd.prog W .any base 9 v) (h : DataW.Trod enc Tryd.prog W 0 (fun _ => true) true 9 v d ps) : ∃ s : ByteArray, v = .string s ∧ s.size ≤ maxLen := by
  obtain ⟨s, rfl⟩ := okWide_string Tryd.underlying9 hv
  obtain ⟨fuel, h⟩ := h
  obtain ⟨s', e, -, hs⟩ := DataW.trod_string Tryd.underlying9 h
  simp [Value.cells] at e
  subst e
  exact ⟨s, rfl, hs⟩
end
theorem rvals_row {w : World} {b o : Nat} {f : Nat → Rng} : ∀ n, (∀ i, i < n → ∀ j u, (f i).vals[j]? = some u → w.cell? ⟨b, o + i * 4 + j, none⟩ = some u) →
    ∀ j u, (rvals ((List.range n).map f))[j]? = some u → w.cell? ⟨b, o + j, none⟩ = some u := by
  intro n h j u hj
  have hlen : j < 4 * n := by have := (List.getElem?_eq_some_iff.1 hj).1; rw [rvals_length] at this; simpa using this
  have hr : ((List.range n).map f)[j / 4]? = some (f (j / 4)) := by
    rw [List.getElem?_map, List.getElem?_range (by omega)]; rfl
  have hv : ∃ u', (f (j / 4)).vals[j % 4]? = some u' := ⟨_, List.getElem?_eq_getElem (by simp [Rng.vals]; omega)⟩
  obtain ⟨u', hu'⟩ := hv
  have g := rvals_get _ _ _ hr _ _ hu'
  have e : j / 4 * 4 + j % 4 = j := by omega
  rw [e, hj] at g
  obtain rfl := Option.some.inj g
  have := h (j / 4) (by omega) _ _ hu'
  rwa [show o + j / 4 * 4 + j % 4 = o + j by omega] at this
theorem rngs_cs {H : Type} {enc : TypeId × Value → H} {W : World} {fuel : Nat} {cs : List Value} {x : DataW H × List MemPlace} (hf : DataW.trod enc Tryd.prog W 0 (fun _ => true) true fuel 23 cs = some x) :
    ∃ p n c l, cs = [.slice p n c] ∧ Rd W 4 (.slice p n c) n (rvals l) := by
  have hc4 : Tryd.prog.cellsOf 50 = 4 := by kernel_rfl
  rcases Go.Deep.open_slice Tryd.underlying23 hf with ⟨hcs, -⟩ | ⟨a, len', cap', m, k, D, Pl, hcs, -, hl, -, hm, -, hx⟩
  · exact ⟨_, _, _, [], hcs, by simp [rvals], _, _, rfl, Nat.le_refl _, .inl rfl⟩
  · subst hcs
    rw [hc4] at hx
    have hm' : m = cap' := by simpa using hm
    subst hm'
    have each : ∀ i, ∃ r : Rng, i < m → ∀ j u, r.vals[j]? = some u → W.cell? (a.add (i * 4 + j)) = some u := by
      intro i
      by_cases hi : i < m
      · obtain ⟨cs, h1, h2⟩ := hx i hi
        obtain ⟨r, rfl, -, -⟩ := trod_range h2
        obtain ⟨-, -, hcell⟩ := World.cells?_some h1
        refine ⟨r, fun _ j u hj => ?_⟩
        have hj4 : j < 4 := by have := (List.getElem?_eq_some_iff.1 hj).1; simpa [Rng.vals] using this
        rw [← Go.Deep.add_add, hcell j hj4, hj]
      · exact ⟨⟨⟨⟨#[]⟩, false⟩, ⟨⟨#[]⟩, false⟩⟩, fun h => absurd h hi⟩
    let f : Nat → Rng := fun i => Classical.choose (each i)
    have hfe : ∀ i, i < m → ∀ j u, (f i).vals[j]? = some u → W.cell? (a.add (i * 4 + j)) = some u := fun i => Classical.choose_spec (each i)
    refine ⟨_, len', m, (List.range len').map f, rfl, by rw [rvals_length]; simp [Nat.mul_comm], _, _, rfl, hl, ?_⟩
    by_cases h0 : len' = 0
    · exact .inl h0
    right
    obtain ⟨b, off, spot⟩ := a
    have hc0 := hfe 0 (by omega) 0 _ rfl
    have hspot : spot = none := by simpa [Addr.add] using World.cell?_spot hc0
    subst hspot
    refine ⟨b, off, rfl, World.block_lt_of_cell? W ⟨b, off + (0 * 4 + 0), none⟩ (by rw [← Go.WideShapes.add_plain]; exact hc0), ?_⟩
    exact rvals_row len' fun i hi j u hj => by rw [Nat.add_assoc, ← Go.WideShapes.add_plain]; exact hfe i (by omega) j u hj
theorem rd_rngs {W : World} {v : Value} {n : Nat} {l : List Rng} (h : Rd W 4 v n (rvals l)) : RD W (fun b => b < W.heap.size) (lst Rng.ds l) v := by
  have hn : l.length = n := by have := h.len; rw [rvals_length] at this; omega
  obtain ⟨p, c, rfl, h1, h2⟩ := h.ex
  subst hn
  rcases h2 with h2 | ⟨b, o, rfl, hb, hc⟩
  · have : l = [] := List.eq_nil_of_length_eq_zero h2
    subst this; exact .nil _ _
  · rw [lst, ds_rvals]
    exact .l h1 hb (rds_of (rvalsE_one _)) hc
def two63 (n : Int) : Prop := -9223372036854775808 ≤ n ∧ n ≤ 9223372036854775807
theorem qry_of {H : Type} {enc : TypeId × Value → H} {W : World} {v : Value} {d : DataW H} {ps : List MemPlace} {base : Nat}
    (hv : Value.okWide Tryd.prog W .any base 25 v) (h : DataW.Trod enc Tryd.prog W 0 (fun _ => true) true 25 v d ps) : ∃ (k : Int) (l : List Rng) (key : ByteArray) (c : Int), RV W (fun b => b < W.heap.size) (fun _ => none) (vQ k l key c) v ∧ two63 k ∧ two63 c ∧ key.size ≤ maxLen := by
  obtain ⟨c0, c1, c2, c3, y0, y1, y2, y3, n, rfl, -, -, h0, h1, h2, h3⟩ := open_agg4 Tryd.underlying25 (by kernel_rfl) (by kernel_rfl) hv h
  obtain ⟨k, e0, -, b0⟩ := DataW.trod_int Tryd.underlying3 h0
  obtain ⟨p, n, c, l, e1, hR⟩ := rngs_cs h1
  obtain ⟨key, e2, -, hk⟩ := DataW.trod_string Tryd.underlying9 h2
  obtain ⟨cc, e3, -, b3⟩ := DataW.trod_int Tryd.underlying3 h3
  simp only [List.cons.injEq, and_true] at e0 e1 e2 e3
  subst e0 e1 e2 e3
  exact ⟨k, l, key, cc, .a (.cons (.d (.c rfl)) (.cons (.d (rd_rngs hR)) (.cons (.d (.c rfl)) (.cons (.d (.c rfl)) .nil)))), bounds_i64 b0, bounds_i64 b3, hk⟩
/-- From a walk over states: the law returns true, and what stood, stands. -/
theorem law_of_spec {f : FuncId} {us : List V} (hs : Spec Tryd.prog f us [] fun u h => u = vB true ∧ h = []) {W : World} (hg : ∀ e ∈ GL, e.1 < W.heap.size ∧ ∀ (j : Nat) (v : Value), e.2[j]? = some v → W.cell? ⟨e.1, j, none⟩ = some v) {vs : List Value} (hvs : RVs W (fun b => b < W.heap.size) (fun _ => none) us vs) :
    Calls Tryd.prog f vs.toArray W fun e W' => e = .returned (.bool true) ∧ Kp [] W W' := by
  have hok : ∀ b, b < W.heap.size → okb (fun _ => True) W (fun _ => none) b := fun b hb => ⟨hb, trivial, fun k l h => (by cases h)⟩
  refine (hs.run (fun _ => True) W (fun _ => none) vs (fun _ _ => trivial) (hvs.mono (fun b hb => ⟨hok b hb, rfl⟩) fun _ _ h => h) ⟨fun k blk h => (by simp [look] at h), fun k k' blk blk' l l' b h => (by simp [look] at h), fun k l b h => (by cases h), fun e he => ⟨hok _ (hg e he).1, (hg e he).2⟩⟩ (fun k l h => (by cases h))).mono ?_
  rintro e W' ⟨r, u, h, ρ', rfl, ⟨rfl, rfl⟩, hst, hrv, -⟩
  rw [rv_c hrv]
  exact ⟨rfl, hst.os, hst.tape, hst.output, hst.size, fun b hb _ => hst.keep b hb fun k l _ hk => by cases hk⟩
end Go.Proofs.YtjnnkpkbgdknmaaDoor
namespace Go.Proofs.YtjnnkpkbgdknmaaDoor
set_option linter.unusedSimpArgs false
set_option linter.unusedVariables false
open Go.RowKit
theorem qsame_f {k1 k2 c1 c2 : Int} {l1 l2 : List Rng} {key1 key2 : ByteArray} (h : k1 ≠ k2 ∨ key1 ≠ key2 ∨ c1 ≠ c2 ∨ l1 ≠ l2) : qsame k1 k2 c1 c2 l1 l2 key1 key2 = false := by
  simp only [qsame, Bool.and_eq_false_iff, decide_eq_false_iff_not]; grind
attribute [local irreducible] WK WC WL Wk Rel OpD OpV WD WO Op.bytesLess cmp vk vb vld emp contains
instance qsame_p (k1 k2 c1 c2 : Int) (l1 l2 : List Rng) (key1 key2 : ByteArray) : Ct Tryd.prog 36 [vQ k1 l1 key1 c1, vQ k2 l2 key2 c2] (l1.length < 1000000 ∧ l2.length < 1000000) (vB (qsame k1 k2 c1 c2 l1 l2 key1 key2)) := ⟨fun hl => by
  refine Spec.intro Tryd.func36 rfl rfl Tryd.ntmps36 Tryd.results36 rfl fun B w0 ρ0 => ?_; simp only [slots, List.map_nil, List.map_cons, Nat.reduceAdd]
  (repeat' (first | refine sw ?_ | refine wc_draw (id := 6) [⟨0, 0, [6]⟩, ⟨1, 0, [3]⟩, ⟨2, 2, [44]⟩, ⟨3, 0, [5]⟩, ⟨4, 14, [45, 46]⟩, ⟨5, 30, [47]⟩, ⟨6, 63, [43, 48]⟩] mixed (by kernel_rfl) ?_ | (refine swt ?_; intro x τ hx) | (refine sp ?_ ?_ <;> (intro h; (first | (have h2 : (_ : Bool) = _ := h; clear h2; subst h) | skip); (try simp only [decide_eq_true_eq, decide_eq_false_iff_not, Bool.not_eq_true', Bool.not_eq_false', Kv.eta, Bnd.eta, Rng.eta, tn_sub1] at h); (first | (have h2 : (_ : Bool) = _ := h; clear h2; subst h) | skip))) | fail))
  iterate 4 (· (first | refine wk_pure rfl (by first | exact trivial | exact resT_cell rfl rfl (by exact inferInstance) trivial) rfl (by first | exact Vw.fmp rfl rfl rfl | exact Vw.nil | exact Vw.d _ | (repeat (first | exact Vws.nil | apply Vws.cons | exact Vw.nil | exact Vw.d _ | apply Vw.a | apply Vw.t | exact Vw.fh rfl rfl (vws_dm _) | exact Vw.fh rfl rfl Vws.nil)); done) ?_ | refine wk_pure_n rfl (by first | exact trivial | exact resT_cell rfl rfl (by exact inferInstance) trivial) rfl (by first | exact Vw.fmp rfl rfl rfl | exact Vw.nil | exact Vw.d _ | (repeat (first | exact Vws.nil | apply Vws.cons | exact Vw.nil | exact Vw.d _ | apply Vw.a | apply Vw.t | exact Vw.fh rfl rfl (vws_dm _) | exact Vw.fh rfl rfl Vws.nil)); done) ?_); exact ⟨by rw [qsame_f (by grind)], rfl⟩)
  refine wc_loop (fun κ st => ∃ (m : Nat), κ = l1.length - m ∧ (m ≤ l1.length ∧ ∀ j (h : j < l1.length) (h' : j < l2.length), j < m → l1[j] = l2[j]) ∧ st = ⟨[(3, .p 103 0), (36, .d (lst Rng.ds l1)), (37, vI l1.length), (38, vI (m : Int))], [(102, some (.box 25 [vI k1, .d (lst Rng.ds l1), vS key1, vI c1])), (103, some (.box 25 [vI k2, .d (lst Rng.ds l2), vS key2, vI c2]))]⟩) (l1.length - (0)) ⟨[(3, .p 103 0), (36, .d (lst Rng.ds l1)), (37, vI l1.length), (38, vI ((0) : Int))], [(102, some (.box 25 [vI k1, .d (lst Rng.ds l1), vS key1, vI c1])), (103, some (.box 25 [vI k2, .d (lst Rng.ds l2), vS key2, vI c2]))]⟩ (wk [(102, 102), (103, 103)] rfl rfl rfl rfl (by repeat (first | refine VH.cons rfl rfl vb_tpb ?_ | refine VH.cons rfl rfl (Vb.ob _) ?_ | exact VS.nil | exact VH.nil | exact Vws.nil | refine VS.cons rfl ?_ ?_ | refine VH.cons rfl rfl (Vb.box ?_) ?_ | refine VH.cons rfl rfl (Vb.arr ?_) ?_ | exact vws_dm _ | refine Vws.cons ?_ ?_ | exact Vw.d _ | exact Vw.p rfl | exact Vw.h rfl | exact Vw.e rfl | exact Vw.s rfl | exact Vw.q _ | refine Vw.a ?_ | refine Vw.t ?_ | exact Vw.nil | exact Vw.fh rfl rfl (vws_dm _) | exact Vw.un _)) (by repeat (first | refine VH.cons rfl rfl vb_tpb ?_ | refine VH.cons rfl rfl (Vb.ob _) ?_ | exact VS.nil | exact VH.nil | exact Vws.nil | refine VS.cons rfl ?_ ?_ | refine VH.cons rfl rfl (Vb.box ?_) ?_ | refine VH.cons rfl rfl (Vb.arr ?_) ?_ | exact vws_dm _ | refine Vws.cons ?_ ?_ | exact Vw.d _ | exact Vw.p rfl | exact Vw.h rfl | exact Vw.e rfl | exact Vw.s rfl | exact Vw.q _ | refine Vw.a ?_ | refine Vw.t ?_ | exact Vw.nil | exact Vw.fh rfl rfl (vws_dm _) | exact Vw.un _))) ⟨0, rfl, ?_, rfl⟩ ?_; rotate_left; rintro κ _ ⟨m, rfl, hP, rfl⟩; rotate_left
  · exact ⟨by omega, fun j _ _ h => by omega⟩
  obtain ⟨hm, hP⟩ := hP
  (repeat' (first | refine sw ?_ | refine wc_draw (id := 6) [⟨0, 0, [6]⟩, ⟨1, 0, [3]⟩, ⟨2, 2, [44]⟩, ⟨3, 0, [5]⟩, ⟨4, 14, [45, 46]⟩, ⟨5, 30, [47]⟩, ⟨6, 63, [43, 48]⟩] mixed (by kernel_rfl) ?_ | (refine swt ?_; intro x τ hx) | (refine sp ?_ ?_ <;> (intro h; (first | (have h2 : (_ : Bool) = _ := h; clear h2; subst h) | skip); (try simp only [decide_eq_true_eq, decide_eq_false_iff_not, Bool.not_eq_true', Bool.not_eq_false', Kv.eta, Bnd.eta, Rng.eta, tn_sub1] at h); (first | (have h2 : (_ : Bool) = _ := h; clear h2; subst h) | skip))) | fail))
  · (first | refine wk_pure rfl (by first | exact trivial | exact resT_cell rfl rfl (by exact inferInstance) trivial) rfl (by first | exact Vw.fmp rfl rfl rfl | exact Vw.nil | exact Vw.d _ | (repeat (first | exact Vws.nil | apply Vws.cons | exact Vw.nil | exact Vw.d _ | apply Vw.a | apply Vw.t | exact Vw.fh rfl rfl (vws_dm _) | exact Vw.fh rfl rfl Vws.nil)); done) ?_ | refine wk_pure_n rfl (by first | exact trivial | exact resT_cell rfl rfl (by exact inferInstance) trivial) rfl (by first | exact Vw.fmp rfl rfl rfl | exact Vw.nil | exact Vw.d _ | (repeat (first | exact Vws.nil | apply Vws.cons | exact Vw.nil | exact Vw.d _ | apply Vw.a | apply Vw.t | exact Vw.fh rfl rfl (vws_dm _) | exact Vw.fh rfl rfl Vws.nil)); done) ?_)
    refine ⟨?_, rfl⟩
    have : l1 ≠ l2 := by intro e; subst e; simp at h
    simp [qsame, this]
  · refine wk_loop_n (l1.length - (m + 1)) (st' := ⟨[(3, .p 103 0), (36, .d (lst Rng.ds l1)), (37, vI l1.length), (38, vI ((m + 1) : Int))], [(102, some (.box 25 [vI k1, .d (lst Rng.ds l1), vS key1, vI c1])), (103, some (.box 25 [vI k2, .d (lst Rng.ds l2), vS key2, vI c2]))]⟩) (wk [(102, 102), (103, 103)] rfl rfl rfl rfl (by repeat (first | refine VH.cons rfl rfl vb_tpb ?_ | refine VH.cons rfl rfl (Vb.ob _) ?_ | exact VS.nil | exact VH.nil | exact Vws.nil | refine VS.cons rfl ?_ ?_ | refine VH.cons rfl rfl (Vb.box ?_) ?_ | refine VH.cons rfl rfl (Vb.arr ?_) ?_ | exact vws_dm _ | refine Vws.cons ?_ ?_ | exact Vw.d _ | exact Vw.p rfl | exact Vw.h rfl | exact Vw.e rfl | exact Vw.s rfl | exact Vw.q _ | refine Vw.a ?_ | refine Vw.t ?_ | exact Vw.nil | exact Vw.fh rfl rfl (vws_dm _) | exact Vw.un _)) (by repeat (first | refine VH.cons rfl rfl vb_tpb ?_ | refine VH.cons rfl rfl (Vb.ob _) ?_ | exact VS.nil | exact VH.nil | exact Vws.nil | refine VS.cons rfl ?_ ?_ | refine VH.cons rfl rfl (Vb.box ?_) ?_ | refine VH.cons rfl rfl (Vb.arr ?_) ?_ | exact vws_dm _ | refine Vws.cons ?_ ?_ | exact Vw.d _ | exact Vw.p rfl | exact Vw.h rfl | exact Vw.e rfl | exact Vw.s rfl | exact Vw.q _ | refine Vw.a ?_ | refine Vw.t ?_ | exact Vw.nil | exact Vw.fh rfl rfl (vws_dm _) | exact Vw.un _))) ?_ ⟨m + 1, rfl, ?_, rfl⟩
    · omega
    · refine ⟨by omega, fun j h1 h2 h3 => ?_⟩
      by_cases e : j = m
      · subst e
        simp only [Bool.and_eq_true, decide_eq_true_eq] at h
        exact rng_eq h
      · exact hP j h1 h2 (by omega)
  · (first | refine wk_pure rfl (by first | exact trivial | exact resT_cell rfl rfl (by exact inferInstance) trivial) rfl (by first | exact Vw.fmp rfl rfl rfl | exact Vw.nil | exact Vw.d _ | (repeat (first | exact Vws.nil | apply Vws.cons | exact Vw.nil | exact Vw.d _ | apply Vw.a | apply Vw.t | exact Vw.fh rfl rfl (vws_dm _) | exact Vw.fh rfl rfl Vws.nil)); done) ?_ | refine wk_pure_n rfl (by first | exact trivial | exact resT_cell rfl rfl (by exact inferInstance) trivial) rfl (by first | exact Vw.fmp rfl rfl rfl | exact Vw.nil | exact Vw.d _ | (repeat (first | exact Vws.nil | apply Vws.cons | exact Vw.nil | exact Vw.d _ | apply Vw.a | apply Vw.t | exact Vw.fh rfl rfl (vws_dm _) | exact Vw.fh rfl rfl Vws.nil)); done) ?_)
    refine ⟨?_, rfl⟩
    have : l1 = l2 := List.ext_getElem (by omega) fun j h1 h2 => hP j h1 h2 (by omega)
    simp_all [qsame]⟩
instance qsame_r (k1 k2 c1 c2 : Int) (l1 l2 : List Rng) (key1 key2 : ByteArray) : Ct Tryd.prog 37 [vQ k1 l1 key1 c1, vQ k2 l2 key2 c2] (l1.length < 1000000 ∧ l2.length < 1000000) (vB (qsame k1 k2 c1 c2 l1 l2 key1 key2)) := ⟨fun hl => by
  refine Spec.intro Tryd.func37 rfl rfl Tryd.ntmps37 Tryd.results37 rfl fun B w0 ρ0 => ?_; simp only [slots, List.map_nil, List.map_cons, Nat.reduceAdd]
  (repeat' (first | refine sw ?_ | refine wc_draw (id := 6) [⟨0, 0, [2]⟩, ⟨1, 1, [40]⟩, ⟨2, 0, [5]⟩, ⟨3, 7, [41, 42]⟩, ⟨4, 15, [43]⟩, ⟨5, 0, [3]⟩, ⟨6, 32, [45]⟩, ⟨7, 0, [5]⟩, ⟨8, 224, [46, 47]⟩, ⟨9, 480, [48]⟩, ⟨10, 1023, [44, 49]⟩] mixed (by kernel_rfl) ?_ | (refine swt ?_; intro x τ hx) | (refine sp ?_ ?_ <;> (intro h; (first | (have h2 : (_ : Bool) = _ := h; clear h2; subst h) | skip); (try simp only [decide_eq_true_eq, decide_eq_false_iff_not, Bool.not_eq_true', Bool.not_eq_false', Kv.eta, Bnd.eta, Rng.eta, tn_sub1] at h); (first | (have h2 : (_ : Bool) = _ := h; clear h2; subst h) | skip))) | fail))
  iterate 4 (· (first | refine wk_pure rfl (by first | exact trivial | exact resT_cell rfl rfl (by exact inferInstance) trivial) rfl (by first | exact Vw.fmp rfl rfl rfl | exact Vw.nil | exact Vw.d _ | (repeat (first | exact Vws.nil | apply Vws.cons | exact Vw.nil | exact Vw.d _ | apply Vw.a | apply Vw.t | exact Vw.fh rfl rfl (vws_dm _) | exact Vw.fh rfl rfl Vws.nil)); done) ?_ | refine wk_pure_n rfl (by first | exact trivial | exact resT_cell rfl rfl (by exact inferInstance) trivial) rfl (by first | exact Vw.fmp rfl rfl rfl | exact Vw.nil | exact Vw.d _ | (repeat (first | exact Vws.nil | apply Vws.cons | exact Vw.nil | exact Vw.d _ | apply Vw.a | apply Vw.t | exact Vw.fh rfl rfl (vws_dm _) | exact Vw.fh rfl rfl Vws.nil)); done) ?_); exact ⟨by rw [qsame_f (by grind)], rfl⟩)
  refine wc_loop (fun κ st => ∃ (m : Nat), κ = l1.length - m ∧ (m ≤ l1.length ∧ ∀ j (h : j < l1.length) (h' : j < l2.length), j < m → l1[j] = l2[j]) ∧ st = ⟨[(2, .p 102 0), (3, .p 103 0), (36, vI l1.length), (37, vI (m : Int))], [(102, some (.box 25 [vI k1, .d (lst Rng.ds l1), vS key1, vI c1])), (103, some (.box 25 [vI k2, .d (lst Rng.ds l2), vS key2, vI c2]))]⟩) (l1.length - (0)) ⟨[(2, .p 102 0), (3, .p 103 0), (36, vI l1.length), (37, vI ((0) : Int))], [(102, some (.box 25 [vI k1, .d (lst Rng.ds l1), vS key1, vI c1])), (103, some (.box 25 [vI k2, .d (lst Rng.ds l2), vS key2, vI c2]))]⟩ (wk [(102, 102), (103, 103)] rfl rfl rfl rfl (by repeat (first | refine VH.cons rfl rfl vb_tpb ?_ | refine VH.cons rfl rfl (Vb.ob _) ?_ | exact VS.nil | exact VH.nil | exact Vws.nil | refine VS.cons rfl ?_ ?_ | refine VH.cons rfl rfl (Vb.box ?_) ?_ | refine VH.cons rfl rfl (Vb.arr ?_) ?_ | exact vws_dm _ | refine Vws.cons ?_ ?_ | exact Vw.d _ | exact Vw.p rfl | exact Vw.h rfl | exact Vw.e rfl | exact Vw.s rfl | exact Vw.q _ | refine Vw.a ?_ | refine Vw.t ?_ | exact Vw.nil | exact Vw.fh rfl rfl (vws_dm _) | exact Vw.un _)) (by repeat (first | refine VH.cons rfl rfl vb_tpb ?_ | refine VH.cons rfl rfl (Vb.ob _) ?_ | exact VS.nil | exact VH.nil | exact Vws.nil | refine VS.cons rfl ?_ ?_ | refine VH.cons rfl rfl (Vb.box ?_) ?_ | refine VH.cons rfl rfl (Vb.arr ?_) ?_ | exact vws_dm _ | refine Vws.cons ?_ ?_ | exact Vw.d _ | exact Vw.p rfl | exact Vw.h rfl | exact Vw.e rfl | exact Vw.s rfl | exact Vw.q _ | refine Vw.a ?_ | refine Vw.t ?_ | exact Vw.nil | exact Vw.fh rfl rfl (vws_dm _) | exact Vw.un _))) ⟨0, rfl, ?_, rfl⟩ ?_; rotate_left; rintro κ _ ⟨m, rfl, hP, rfl⟩; rotate_left
  · exact ⟨by omega, fun j _ _ h => by omega⟩
  obtain ⟨hm, hP⟩ := hP
  (repeat' (first | refine sw ?_ | refine wc_draw (id := 6) [⟨0, 0, [2]⟩, ⟨1, 1, [40]⟩, ⟨2, 0, [5]⟩, ⟨3, 7, [41, 42]⟩, ⟨4, 15, [43]⟩, ⟨5, 0, [3]⟩, ⟨6, 32, [45]⟩, ⟨7, 0, [5]⟩, ⟨8, 224, [46, 47]⟩, ⟨9, 480, [48]⟩, ⟨10, 1023, [44, 49]⟩] mixed (by kernel_rfl) ?_ | (refine swt ?_; intro x τ hx) | (refine sp ?_ ?_ <;> (intro h; (first | (have h2 : (_ : Bool) = _ := h; clear h2; subst h) | skip); (try simp only [decide_eq_true_eq, decide_eq_false_iff_not, Bool.not_eq_true', Bool.not_eq_false', Kv.eta, Bnd.eta, Rng.eta, tn_sub1] at h); (first | (have h2 : (_ : Bool) = _ := h; clear h2; subst h) | skip))) | fail))
  · (first | refine wk_pure rfl (by first | exact trivial | exact resT_cell rfl rfl (by exact inferInstance) trivial) rfl (by first | exact Vw.fmp rfl rfl rfl | exact Vw.nil | exact Vw.d _ | (repeat (first | exact Vws.nil | apply Vws.cons | exact Vw.nil | exact Vw.d _ | apply Vw.a | apply Vw.t | exact Vw.fh rfl rfl (vws_dm _) | exact Vw.fh rfl rfl Vws.nil)); done) ?_ | refine wk_pure_n rfl (by first | exact trivial | exact resT_cell rfl rfl (by exact inferInstance) trivial) rfl (by first | exact Vw.fmp rfl rfl rfl | exact Vw.nil | exact Vw.d _ | (repeat (first | exact Vws.nil | apply Vws.cons | exact Vw.nil | exact Vw.d _ | apply Vw.a | apply Vw.t | exact Vw.fh rfl rfl (vws_dm _) | exact Vw.fh rfl rfl Vws.nil)); done) ?_)
    refine ⟨?_, rfl⟩
    have : l1 ≠ l2 := by intro e; subst e; simp at h
    simp [qsame, this]
  · refine wk_loop_n (l1.length - (m + 1)) (st' := ⟨[(2, .p 102 0), (3, .p 103 0), (36, vI l1.length), (37, vI ((m + 1) : Int))], [(102, some (.box 25 [vI k1, .d (lst Rng.ds l1), vS key1, vI c1])), (103, some (.box 25 [vI k2, .d (lst Rng.ds l2), vS key2, vI c2]))]⟩) (wk [(102, 102), (103, 103)] rfl rfl rfl rfl (by repeat (first | refine VH.cons rfl rfl vb_tpb ?_ | refine VH.cons rfl rfl (Vb.ob _) ?_ | exact VS.nil | exact VH.nil | exact Vws.nil | refine VS.cons rfl ?_ ?_ | refine VH.cons rfl rfl (Vb.box ?_) ?_ | refine VH.cons rfl rfl (Vb.arr ?_) ?_ | exact vws_dm _ | refine Vws.cons ?_ ?_ | exact Vw.d _ | exact Vw.p rfl | exact Vw.h rfl | exact Vw.e rfl | exact Vw.s rfl | exact Vw.q _ | refine Vw.a ?_ | refine Vw.t ?_ | exact Vw.nil | exact Vw.fh rfl rfl (vws_dm _) | exact Vw.un _)) (by repeat (first | refine VH.cons rfl rfl vb_tpb ?_ | refine VH.cons rfl rfl (Vb.ob _) ?_ | exact VS.nil | exact VH.nil | exact Vws.nil | refine VS.cons rfl ?_ ?_ | refine VH.cons rfl rfl (Vb.box ?_) ?_ | refine VH.cons rfl rfl (Vb.arr ?_) ?_ | exact vws_dm _ | refine Vws.cons ?_ ?_ | exact Vw.d _ | exact Vw.p rfl | exact Vw.h rfl | exact Vw.e rfl | exact Vw.s rfl | exact Vw.q _ | refine Vw.a ?_ | refine Vw.t ?_ | exact Vw.nil | exact Vw.fh rfl rfl (vws_dm _) | exact Vw.un _))) ?_ ⟨m + 1, rfl, ?_, rfl⟩
    · omega
    · refine ⟨by omega, fun j h1 h2 h3 => ?_⟩
      by_cases e : j = m
      · subst e
        simp only [Bool.and_eq_true, decide_eq_true_eq] at h
        exact rng_eq h
      · exact hP j h1 h2 (by omega)
  · (first | refine wk_pure rfl (by first | exact trivial | exact resT_cell rfl rfl (by exact inferInstance) trivial) rfl (by first | exact Vw.fmp rfl rfl rfl | exact Vw.nil | exact Vw.d _ | (repeat (first | exact Vws.nil | apply Vws.cons | exact Vw.nil | exact Vw.d _ | apply Vw.a | apply Vw.t | exact Vw.fh rfl rfl (vws_dm _) | exact Vw.fh rfl rfl Vws.nil)); done) ?_ | refine wk_pure_n rfl (by first | exact trivial | exact resT_cell rfl rfl (by exact inferInstance) trivial) rfl (by first | exact Vw.fmp rfl rfl rfl | exact Vw.nil | exact Vw.d _ | (repeat (first | exact Vws.nil | apply Vws.cons | exact Vw.nil | exact Vw.d _ | apply Vw.a | apply Vw.t | exact Vw.fh rfl rfl (vws_dm _) | exact Vw.fh rfl rfl Vws.nil)); done) ?_)
    refine ⟨?_, rfl⟩
    have : l1 = l2 := List.ext_getElem (by omega) fun j h1 h2 => hP j h1 h2 (by omega)
    simp_all [qsame]⟩
set_option maxHeartbeats 4000000 in
instance qcheck_r (k c : Int) (l : List Rng) (key : ByteArray) : Ct Tryd.prog 15 [vQ k l key c] (l.length < 1000000) (vI (qchk k l key c)) := ⟨fun hl => by
  refine Spec.intro Tryd.func15 rfl rfl Tryd.ntmps15 Tryd.results15 rfl fun B w0 ρ0 => ?_; simp only [slots, List.map_nil, List.map_cons, Nat.reduceAdd]
  (repeat' (first | refine sw ?_ | (refine swt ?_; intro x τ hx) | (refine sp ?_ ?_ <;> (intro h; (first | (have h2 : (_ : Bool) = _ := h; clear h2; subst h) | skip); (try simp only [decide_eq_true_eq, decide_eq_false_iff_not, Bool.not_eq_true', Bool.not_eq_false', Kv.eta, Bnd.eta, Rng.eta, tn_sub1] at h); (first | (have h2 : (_ : Bool) = _ := h; clear h2; subst h) | skip))) | fail))
  all_goals (try ((first | refine wk_pure rfl (by first | exact trivial | exact resT_cell rfl rfl (by exact inferInstance) trivial) rfl (by first | exact Vw.fmp rfl rfl rfl | exact Vw.nil | exact Vw.d _ | (repeat (first | exact Vws.nil | apply Vws.cons | exact Vw.nil | exact Vw.d _ | apply Vw.a | apply Vw.t | exact Vw.fh rfl rfl (vws_dm _) | exact Vw.fh rfl rfl Vws.nil)); done) ?_ | refine wk_pure_n rfl (by first | exact trivial | exact resT_cell rfl rfl (by exact inferInstance) trivial) rfl (by first | exact Vw.fmp rfl rfl rfl | exact Vw.nil | exact Vw.d _ | (repeat (first | exact Vws.nil | apply Vws.cons | exact Vw.nil | exact Vw.d _ | apply Vw.a | apply Vw.t | exact Vw.fh rfl rfl (vws_dm _) | exact Vw.fh rfl rfl Vws.nil)); done) ?_); refine ⟨?_, rfl⟩; (try simp only [Bool.not_eq_true, Bool.not_eq_false, decide_eq_true_eq, decide_eq_false_iff_not] at *); first | (simp_all [qchk]; done) | (simp_all [qchk] <;> omega) | grind [qchk]))
  refine wc_loop (fun κ st => ∃ (m : Nat), κ = l.length - m ∧ (m ≤ l.length ∧ ∀ j (h : j < l.length), j < m → vld l[j] = true) ∧ st = ⟨[(1, .p 101 0), (19, .d (lst Rng.ds l)), (20, vI l.length), (21, vI (m : Int))], [(101, some (.box 25 [vI k, .d (lst Rng.ds l), vS key, vI c]))]⟩) (l.length - (0)) ⟨[(1, .p 101 0), (19, .d (lst Rng.ds l)), (20, vI l.length), (21, vI ((0) : Int))], [(101, some (.box 25 [vI k, .d (lst Rng.ds l), vS key, vI c]))]⟩ (wk [(101, 101)] rfl rfl rfl rfl (by repeat (first | refine VH.cons rfl rfl vb_tpb ?_ | refine VH.cons rfl rfl (Vb.ob _) ?_ | exact VS.nil | exact VH.nil | exact Vws.nil | refine VS.cons rfl ?_ ?_ | refine VH.cons rfl rfl (Vb.box ?_) ?_ | refine VH.cons rfl rfl (Vb.arr ?_) ?_ | exact vws_dm _ | refine Vws.cons ?_ ?_ | exact Vw.d _ | exact Vw.p rfl | exact Vw.h rfl | exact Vw.e rfl | exact Vw.s rfl | exact Vw.q _ | refine Vw.a ?_ | refine Vw.t ?_ | exact Vw.nil | exact Vw.fh rfl rfl (vws_dm _) | exact Vw.un _)) (by repeat (first | refine VH.cons rfl rfl vb_tpb ?_ | refine VH.cons rfl rfl (Vb.ob _) ?_ | exact VS.nil | exact VH.nil | exact Vws.nil | refine VS.cons rfl ?_ ?_ | refine VH.cons rfl rfl (Vb.box ?_) ?_ | refine VH.cons rfl rfl (Vb.arr ?_) ?_ | exact vws_dm _ | refine Vws.cons ?_ ?_ | exact Vw.d _ | exact Vw.p rfl | exact Vw.h rfl | exact Vw.e rfl | exact Vw.s rfl | exact Vw.q _ | refine Vw.a ?_ | refine Vw.t ?_ | exact Vw.nil | exact Vw.fh rfl rfl (vws_dm _) | exact Vw.un _))) ⟨0, rfl, ?_, rfl⟩ ?_; rotate_left; rintro κ _ ⟨m, rfl, hP, rfl⟩; rotate_left
  · exact ⟨by omega, fun j _ h => by omega⟩
  obtain ⟨hm, hP⟩ := hP
  (repeat' (first | refine sw ?_ | (refine swt ?_; intro x τ hx) | (refine sp ?_ ?_ <;> (intro h; (first | (have h2 : (_ : Bool) = _ := h; clear h2; subst h) | skip); (try simp only [decide_eq_true_eq, decide_eq_false_iff_not, Bool.not_eq_true', Bool.not_eq_false', Kv.eta, Bnd.eta, Rng.eta, tn_sub1] at h); (first | (have h2 : (_ : Bool) = _ := h; clear h2; subst h) | skip))) | fail))
  all_goals (try (have hA := all_of hP (by omega)))
  all_goals (try (have hA := all_not (p := vld) (l := l) (m := m) (by omega) (by simp only [Rng.eta, *]; rfl)))
  all_goals (try ((first | refine wk_pure rfl (by first | exact trivial | exact resT_cell rfl rfl (by exact inferInstance) trivial) rfl (by first | exact Vw.fmp rfl rfl rfl | exact Vw.nil | exact Vw.d _ | (repeat (first | exact Vws.nil | apply Vws.cons | exact Vw.nil | exact Vw.d _ | apply Vw.a | apply Vw.t | exact Vw.fh rfl rfl (vws_dm _) | exact Vw.fh rfl rfl Vws.nil)); done) ?_ | refine wk_pure_n rfl (by first | exact trivial | exact resT_cell rfl rfl (by exact inferInstance) trivial) rfl (by first | exact Vw.fmp rfl rfl rfl | exact Vw.nil | exact Vw.d _ | (repeat (first | exact Vws.nil | apply Vws.cons | exact Vw.nil | exact Vw.d _ | apply Vw.a | apply Vw.t | exact Vw.fh rfl rfl (vws_dm _) | exact Vw.fh rfl rfl Vws.nil)); done) ?_); refine ⟨?_, rfl⟩; (try simp only [Bool.not_eq_true, Bool.not_eq_false, decide_eq_true_eq, decide_eq_false_iff_not] at *); first | (simp_all [qchk]; done) | (simp_all [qchk] <;> omega) | grind [qchk]))
  refine wk_loop_n (l.length - (m + 1)) (st' := ⟨[(1, .p 101 0), (19, .d (lst Rng.ds l)), (20, vI l.length), (21, vI ((m + 1) : Int))], [(101, some (.box 25 [vI k, .d (lst Rng.ds l), vS key, vI c]))]⟩) (wk [(101, 101)] rfl rfl rfl rfl (by repeat (first | refine VH.cons rfl rfl vb_tpb ?_ | refine VH.cons rfl rfl (Vb.ob _) ?_ | exact VS.nil | exact VH.nil | exact Vws.nil | refine VS.cons rfl ?_ ?_ | refine VH.cons rfl rfl (Vb.box ?_) ?_ | refine VH.cons rfl rfl (Vb.arr ?_) ?_ | exact vws_dm _ | refine Vws.cons ?_ ?_ | exact Vw.d _ | exact Vw.p rfl | exact Vw.h rfl | exact Vw.e rfl | exact Vw.s rfl | exact Vw.q _ | refine Vw.a ?_ | refine Vw.t ?_ | exact Vw.nil | exact Vw.fh rfl rfl (vws_dm _) | exact Vw.un _)) (by repeat (first | refine VH.cons rfl rfl vb_tpb ?_ | refine VH.cons rfl rfl (Vb.ob _) ?_ | exact VS.nil | exact VH.nil | exact Vws.nil | refine VS.cons rfl ?_ ?_ | refine VH.cons rfl rfl (Vb.box ?_) ?_ | refine VH.cons rfl rfl (Vb.arr ?_) ?_ | exact vws_dm _ | refine Vws.cons ?_ ?_ | exact Vw.d _ | exact Vw.p rfl | exact Vw.h rfl | exact Vw.e rfl | exact Vw.s rfl | exact Vw.q _ | refine Vw.a ?_ | refine Vw.t ?_ | exact Vw.nil | exact Vw.fh rfl rfl (vws_dm _) | exact Vw.un _))) ?_ ⟨m + 1, rfl, ?_, rfl⟩
  · omega
  · refine ⟨by omega, fun j h1 h2 => ?_⟩
    by_cases e : j = m
    · subst e; assumption
    · exact hP j h1 (by omega)⟩
end Go.Proofs.YtjnnkpkbgdknmaaDoor
namespace Go.Proofs.YtjnnkpkbgdknmaaDoor
set_option linter.unusedSimpArgs false
set_option linter.unusedVariables false
open Go.RowKit
def mks : List (Value × Value) := [(.int .i64 1, .func (.func 64) #[] #[]), (.int .i64 2, .func (.func 65) #[] #[]), (.int .i64 3, .func (.func 67) #[] #[]), (.int .i64 4, .func (.func 68) #[] #[])]
theorem mks_nil (k : Int) : isNilF (mget .nilFunc k mks) = decide (k < 1 ∨ 4 < k) := by
  simp only [mks, mget]
  repeat' split
  all_goals (simp only [isNilF]; symm; first | (rw [decide_eq_false]; omega) | (rw [decide_eq_true]; omega))
theorem mks_fn (k : Int) : isFn (mget .nilFunc k mks) = true := by
  simp only [mks, mget]
  repeat' split
  all_goals rfl
attribute [local irreducible] WK WC WL Wk Rel OpD OpV WD WO Op.bytesLess cmp vk vb vld emp contains
instance makers_ct : Ct Tryd.prog 41 [] True (.d (.m mks)) := ⟨fun _ => by
  refine Spec.intro Tryd.func41 rfl rfl Tryd.ntmps41 Tryd.results41 rfl fun B w0 ρ0 => ?_; simp only [slots, List.map_nil, List.map_cons, Nat.reduceAdd]
  (repeat' (first | refine sw ?_ | (refine swt ?_; intro x τ hx) | (refine sp ?_ ?_ <;> (intro h; (first | (have h2 : (_ : Bool) = _ := h; clear h2; subst h) | skip); (try simp only [decide_eq_true_eq, decide_eq_false_iff_not, Bool.not_eq_true', Bool.not_eq_false', Kv.eta, Bnd.eta, Rng.eta, tn_sub1] at h); (first | (have h2 : (_ : Bool) = _ := h; clear h2; subst h) | skip))) | fail))
  all_goals (first | refine wk_pure rfl (by first | exact trivial | exact resT_cell rfl rfl (by exact inferInstance) trivial) rfl (by first | exact Vw.fmp rfl rfl rfl | exact Vw.nil | exact Vw.d _ | (repeat (first | exact Vws.nil | apply Vws.cons | exact Vw.nil | exact Vw.d _ | apply Vw.a | apply Vw.t | exact Vw.fh rfl rfl (vws_dm _) | exact Vw.fh rfl rfl Vws.nil)); done) ?_ | refine wk_pure_n rfl (by first | exact trivial | exact resT_cell rfl rfl (by exact inferInstance) trivial) rfl (by first | exact Vw.fmp rfl rfl rfl | exact Vw.nil | exact Vw.d _ | (repeat (first | exact Vws.nil | apply Vws.cons | exact Vw.nil | exact Vw.d _ | apply Vw.a | apply Vw.t | exact Vw.fh rfl rfl (vws_dm _) | exact Vw.fh rfl rfl Vws.nil)); done) ?_)
  all_goals exact ⟨rfl, rfl⟩⟩
theorem mks_keys : mkeys mks = true := rfl
set_option maxHeartbeats 4000000 in
instance qcheck_p (k c : Int) (l : List Rng) (key : ByteArray) : Ct Tryd.prog 14 [vQ k l key c] (l.length < 1000000) (vI (qchk k l key c)) := ⟨fun hl => by
  have hmk := mks_nil k
  have hfn := mks_fn k
  refine Spec.intro Tryd.func14 rfl rfl Tryd.ntmps14 Tryd.results14 rfl fun B w0 ρ0 => ?_; simp only [slots, List.map_nil, List.map_cons, Nat.reduceAdd]
  (repeat' (first | refine sw ?_ | refine wc_draw (id := 1) [⟨1, 0, [1]⟩, ⟨2, 2, [6]⟩, ⟨0, 0, []⟩, ⟨3, 7, [5, 7]⟩, ⟨4, 15, [8]⟩] mixed (by kernel_rfl) ?_ | (refine swt ?_; intro x τ hx) | (refine sp ?_ ?_ <;> (intro h; (first | (have h2 : (_ : Bool) = _ := h; clear h2; subst h) | skip); (try simp only [decide_eq_true_eq, decide_eq_false_iff_not, Bool.not_eq_true', Bool.not_eq_false', Kv.eta, Bnd.eta, Rng.eta, tn_sub1] at h); (first | (have h2 : (_ : Bool) = _ := h; clear h2; subst h) | skip))) | fail))
  all_goals (try simp only [hmk, decide_eq_true_eq, decide_eq_false_iff_not] at *)
  all_goals (try ((first | refine wk_pure rfl (by first | exact trivial | exact resT_cell rfl rfl (by exact inferInstance) trivial) rfl (by first | exact Vw.fmp rfl rfl rfl | exact Vw.nil | exact Vw.d _ | (repeat (first | exact Vws.nil | apply Vws.cons | exact Vw.nil | exact Vw.d _ | apply Vw.a | apply Vw.t | exact Vw.fh rfl rfl (vws_dm _) | exact Vw.fh rfl rfl Vws.nil)); done) ?_ | refine wk_pure_n rfl (by first | exact trivial | exact resT_cell rfl rfl (by exact inferInstance) trivial) rfl (by first | exact Vw.fmp rfl rfl rfl | exact Vw.nil | exact Vw.d _ | (repeat (first | exact Vws.nil | apply Vws.cons | exact Vw.nil | exact Vw.d _ | apply Vw.a | apply Vw.t | exact Vw.fh rfl rfl (vws_dm _) | exact Vw.fh rfl rfl Vws.nil)); done) ?_); refine ⟨?_, rfl⟩; (try simp only [Bool.not_eq_true, Bool.not_eq_false, decide_eq_true_eq, decide_eq_false_iff_not] at *); first | (simp_all [qchk]; done) | (simp_all [qchk] <;> omega) | grind [qchk]))
  refine wc_loop (fun κ st => ∃ (m : Nat), κ = l.length - m ∧ (m ≤ l.length ∧ ∀ j (h : j < l.length), j < m → vld l[j] = true) ∧ st = ⟨[(1, .p 101 0), (15, .d (lst Rng.ds l)), (16, vI l.length), (17, vI (m : Int))], [(101, some (.box 25 [vI k, .d (lst Rng.ds l), vS key, vI c]))]⟩) (l.length - (0)) ⟨[(1, .p 101 0), (15, .d (lst Rng.ds l)), (16, vI l.length), (17, vI ((0) : Int))], [(101, some (.box 25 [vI k, .d (lst Rng.ds l), vS key, vI c]))]⟩ (wk [(101, 101)] rfl rfl rfl rfl (by repeat (first | refine VH.cons rfl rfl vb_tpb ?_ | refine VH.cons rfl rfl (Vb.ob _) ?_ | exact VS.nil | exact VH.nil | exact Vws.nil | refine VS.cons rfl ?_ ?_ | refine VH.cons rfl rfl (Vb.box ?_) ?_ | refine VH.cons rfl rfl (Vb.arr ?_) ?_ | exact vws_dm _ | refine Vws.cons ?_ ?_ | exact Vw.d _ | exact Vw.p rfl | exact Vw.h rfl | exact Vw.e rfl | exact Vw.s rfl | exact Vw.q _ | refine Vw.a ?_ | refine Vw.t ?_ | exact Vw.nil | exact Vw.fh rfl rfl (vws_dm _) | exact Vw.un _)) (by repeat (first | refine VH.cons rfl rfl vb_tpb ?_ | refine VH.cons rfl rfl (Vb.ob _) ?_ | exact VS.nil | exact VH.nil | exact Vws.nil | refine VS.cons rfl ?_ ?_ | refine VH.cons rfl rfl (Vb.box ?_) ?_ | refine VH.cons rfl rfl (Vb.arr ?_) ?_ | exact vws_dm _ | refine Vws.cons ?_ ?_ | exact Vw.d _ | exact Vw.p rfl | exact Vw.h rfl | exact Vw.e rfl | exact Vw.s rfl | exact Vw.q _ | refine Vw.a ?_ | refine Vw.t ?_ | exact Vw.nil | exact Vw.fh rfl rfl (vws_dm _) | exact Vw.un _))) ⟨0, rfl, ?_, rfl⟩ ?_; rotate_left; rintro κ _ ⟨m, rfl, hP, rfl⟩; rotate_left
  · exact ⟨by omega, fun j _ h => by omega⟩
  obtain ⟨hm, hP⟩ := hP
  (repeat' (first | refine sw ?_ | refine wc_draw (id := 1) [⟨1, 0, [1]⟩, ⟨2, 2, [6]⟩, ⟨0, 0, []⟩, ⟨3, 7, [5, 7]⟩, ⟨4, 15, [8]⟩] mixed (by kernel_rfl) ?_ | (refine swt ?_; intro x τ hx) | (refine sp ?_ ?_ <;> (intro h; (first | (have h2 : (_ : Bool) = _ := h; clear h2; subst h) | skip); (try simp only [decide_eq_true_eq, decide_eq_false_iff_not, Bool.not_eq_true', Bool.not_eq_false', Kv.eta, Bnd.eta, Rng.eta, tn_sub1] at h); (first | (have h2 : (_ : Bool) = _ := h; clear h2; subst h) | skip))) | fail))
  all_goals (try (have hA := all_of hP (by omega)))
  all_goals (try (have hA := all_not (p := vld) (l := l) (m := m) (by omega) (by simp only [Rng.eta, *]; rfl)))
  all_goals (try ((first | refine wk_pure rfl (by first | exact trivial | exact resT_cell rfl rfl (by exact inferInstance) trivial) rfl (by first | exact Vw.fmp rfl rfl rfl | exact Vw.nil | exact Vw.d _ | (repeat (first | exact Vws.nil | apply Vws.cons | exact Vw.nil | exact Vw.d _ | apply Vw.a | apply Vw.t | exact Vw.fh rfl rfl (vws_dm _) | exact Vw.fh rfl rfl Vws.nil)); done) ?_ | refine wk_pure_n rfl (by first | exact trivial | exact resT_cell rfl rfl (by exact inferInstance) trivial) rfl (by first | exact Vw.fmp rfl rfl rfl | exact Vw.nil | exact Vw.d _ | (repeat (first | exact Vws.nil | apply Vws.cons | exact Vw.nil | exact Vw.d _ | apply Vw.a | apply Vw.t | exact Vw.fh rfl rfl (vws_dm _) | exact Vw.fh rfl rfl Vws.nil)); done) ?_); refine ⟨?_, rfl⟩; (try simp only [Bool.not_eq_true, Bool.not_eq_false, decide_eq_true_eq, decide_eq_false_iff_not] at *); first | (simp_all [qchk]; done) | (simp_all [qchk] <;> omega) | grind [qchk]))
  refine wk_loop_n (l.length - (m + 1)) (st' := ⟨[(1, .p 101 0), (15, .d (lst Rng.ds l)), (16, vI l.length), (17, vI ((m + 1) : Int))], [(101, some (.box 25 [vI k, .d (lst Rng.ds l), vS key, vI c]))]⟩) (wk [(101, 101)] rfl rfl rfl rfl (by repeat (first | refine VH.cons rfl rfl vb_tpb ?_ | refine VH.cons rfl rfl (Vb.ob _) ?_ | exact VS.nil | exact VH.nil | exact Vws.nil | refine VS.cons rfl ?_ ?_ | refine VH.cons rfl rfl (Vb.box ?_) ?_ | refine VH.cons rfl rfl (Vb.arr ?_) ?_ | exact vws_dm _ | refine Vws.cons ?_ ?_ | exact Vw.d _ | exact Vw.p rfl | exact Vw.h rfl | exact Vw.e rfl | exact Vw.s rfl | exact Vw.q _ | refine Vw.a ?_ | refine Vw.t ?_ | exact Vw.nil | exact Vw.fh rfl rfl (vws_dm _) | exact Vw.un _)) (by repeat (first | refine VH.cons rfl rfl vb_tpb ?_ | refine VH.cons rfl rfl (Vb.ob _) ?_ | exact VS.nil | exact VH.nil | exact Vws.nil | refine VS.cons rfl ?_ ?_ | refine VH.cons rfl rfl (Vb.box ?_) ?_ | refine VH.cons rfl rfl (Vb.arr ?_) ?_ | exact vws_dm _ | refine Vws.cons ?_ ?_ | exact Vw.d _ | exact Vw.p rfl | exact Vw.h rfl | exact Vw.e rfl | exact Vw.s rfl | exact Vw.q _ | refine Vw.a ?_ | refine Vw.t ?_ | exact Vw.nil | exact Vw.fh rfl rfl (vws_dm _) | exact Vw.un _))) ?_ ⟨m + 1, rfl, ?_, rfl⟩
  · omega
  · refine ⟨by omega, fun j h1 h2 => ?_⟩
    by_cases e : j = m
    · subst e; assumption
    · exact hP j h1 (by omega)⟩
end Go.Proofs.YtjnnkpkbgdknmaaDoor
namespace Go.Proofs.YtjnnkpkbgdknmaaDoor
set_option linter.unusedSimpArgs false
set_option linter.unusedVariables false
open Go.RowKit
def qrs (k : Int) (l : List Rng) (key : ByteArray) : List Rng := if k = 1 then l else if k = 2 then [pfx key] else if k = 3 then [⟨⟨key, false⟩, ⟨⟨#[]⟩, true⟩⟩] else [⟨⟨⟨#[]⟩, false⟩, ⟨key, false⟩⟩]
def qranges (k : Int) (l : List Rng) (key : ByteArray) (c : Int) : List Rng := if qchk k l key c = 0 then union (qrs k l key) else []
theorem qchk_0 {k c : Int} {l : List Rng} {key : ByteArray} (h : qchk k l key c = 0) : (k = 1 ∨ k = 2 ∨ k = 3 ∨ k = 4) ∧ (k ≠ 1 → l = []) ∧ l.length ≤ 64 := by
  unfold qchk at h
  by_cases a1 : k < 1 ∨ 4 < k
  · simp [a1] at h
  by_cases a2 : 64 < l.length
  · simp [a1, a2] at h
  by_cases a3 : l.all vld = false
  · rw [if_neg a1, if_neg a2, if_pos a3] at h; omega
  by_cases a4 : vk key = false ∨ (0 < l.length ∧ k ≠ 1) ∨ (key ≠ ⟨#[]⟩ ∧ k = 1)
  · rw [if_neg a1, if_neg a2, if_neg a3, if_pos a4] at h; omega
  exact ⟨by omega, fun h1 => List.eq_nil_of_length_eq_zero (Nat.eq_zero_of_not_pos fun h2 => a4 (.inr (.inl ⟨h2, h1⟩))), by omega⟩
attribute [local irreducible] WK WC WL Wk Rel OpD OpV WD WO Op.bytesLess cmp vk vb vld emp contains
attribute [local irreducible] union pfx
instance maker1_p (k c : Int) (l : List Rng) (key : ByteArray) : Ct Tryd.prog 64 [vQ k l key c] True (.d (lst Rng.ds l)) := ⟨fun _ => by
  refine Spec.intro Tryd.func64 rfl rfl Tryd.ntmps64 Tryd.results64 rfl fun B w0 ρ0 => ?_; simp only [slots, List.map_nil, List.map_cons, Nat.reduceAdd]
  (repeat' (first | refine sw ?_ | (refine swt ?_; intro x τ hx) | (refine sp ?_ ?_ <;> (intro h; (first | (have h2 : (_ : Bool) = _ := h; clear h2; subst h) | skip); (try simp only [decide_eq_true_eq, decide_eq_false_iff_not, Bool.not_eq_true', Bool.not_eq_false', Kv.eta, Bnd.eta, Rng.eta, tn_sub1] at h); (first | (have h2 : (_ : Bool) = _ := h; clear h2; subst h) | skip))) | fail))
  all_goals (first | refine wk_pure rfl (by first | exact trivial | exact resT_cell rfl rfl (by exact inferInstance) trivial) rfl (by first | exact Vw.fmp rfl rfl rfl | exact Vw.nil | exact Vw.d _ | (repeat (first | exact Vws.nil | apply Vws.cons | exact Vw.nil | exact Vw.d _ | apply Vw.a | apply Vw.t | exact Vw.fh rfl rfl (vws_dm _) | exact Vw.fh rfl rfl Vws.nil)); done) ?_ | refine wk_pure_n rfl (by first | exact trivial | exact resT_cell rfl rfl (by exact inferInstance) trivial) rfl (by first | exact Vw.fmp rfl rfl rfl | exact Vw.nil | exact Vw.d _ | (repeat (first | exact Vws.nil | apply Vws.cons | exact Vw.nil | exact Vw.d _ | apply Vw.a | apply Vw.t | exact Vw.fh rfl rfl (vws_dm _) | exact Vw.fh rfl rfl Vws.nil)); done) ?_)
  all_goals exact ⟨rfl, rfl⟩⟩
instance maker2_p (k c : Int) (l : List Rng) (key : ByteArray) : Ct Tryd.prog 65 [vQ k l key c] True (.d (lst Rng.ds [pfx key])) := ⟨fun _ => by
  refine Spec.intro Tryd.func65 rfl rfl Tryd.ntmps65 Tryd.results65 rfl fun B w0 ρ0 => ?_; simp only [slots, List.map_nil, List.map_cons, Nat.reduceAdd]
  (repeat' (first | refine wl_bt Rng.ds [pfx key] rfl rfl (by simp only [flatV, cellsV, List.cons_append, List.nil_append, List.append_nil]; exact rfl) rfl rfl rfl rfl rfl rfl ?_ | refine wd_bt Rng.ds [pfx key] rfl rfl (by simp only [flatV, cellsV, List.cons_append, List.nil_append, List.append_nil]; exact rfl) rfl rfl rfl rfl (by first | exact .no rfl | exact .y rfl rfl rfl rfl) rfl rfl ?_ | refine sw ?_ | (refine swt ?_; intro x τ hx) | (refine sp ?_ ?_ <;> (intro h; (first | (have h2 : (_ : Bool) = _ := h; clear h2; subst h) | skip); (try simp only [decide_eq_true_eq, decide_eq_false_iff_not, Bool.not_eq_true', Bool.not_eq_false', Kv.eta, Bnd.eta, Rng.eta, tn_sub1] at h); (first | (have h2 : (_ : Bool) = _ := h; clear h2; subst h) | skip))) | fail))
  all_goals (first | refine wk_pure rfl (by first | exact trivial | exact resT_cell rfl rfl (by exact inferInstance) trivial) rfl (by first | exact Vw.fmp rfl rfl rfl | exact Vw.nil | exact Vw.d _ | (repeat (first | exact Vws.nil | apply Vws.cons | exact Vw.nil | exact Vw.d _ | apply Vw.a | apply Vw.t | exact Vw.fh rfl rfl (vws_dm _) | exact Vw.fh rfl rfl Vws.nil)); done) ?_ | refine wk_pure_n rfl (by first | exact trivial | exact resT_cell rfl rfl (by exact inferInstance) trivial) rfl (by first | exact Vw.fmp rfl rfl rfl | exact Vw.nil | exact Vw.d _ | (repeat (first | exact Vws.nil | apply Vws.cons | exact Vw.nil | exact Vw.d _ | apply Vw.a | apply Vw.t | exact Vw.fh rfl rfl (vws_dm _) | exact Vw.fh rfl rfl Vws.nil)); done) ?_)
  all_goals exact ⟨rfl, rfl⟩⟩
instance maker3_p (k c : Int) (l : List Rng) (key : ByteArray) : Ct Tryd.prog 67 [vQ k l key c] True (.d (lst Rng.ds [⟨⟨key, false⟩, ⟨⟨#[]⟩, true⟩⟩])) := ⟨fun _ => by
  refine Spec.intro Tryd.func67 rfl rfl Tryd.ntmps67 Tryd.results67 rfl fun B w0 ρ0 => ?_; simp only [slots, List.map_nil, List.map_cons, Nat.reduceAdd]
  (repeat' (first | refine wl_bt Rng.ds [⟨⟨key, false⟩, ⟨⟨#[]⟩, true⟩⟩] rfl rfl (by simp only [flatV, cellsV, List.cons_append, List.nil_append, List.append_nil]; exact rfl) rfl rfl rfl rfl rfl rfl ?_ | refine wd_bt Rng.ds [⟨⟨key, false⟩, ⟨⟨#[]⟩, true⟩⟩] rfl rfl (by simp only [flatV, cellsV, List.cons_append, List.nil_append, List.append_nil]; exact rfl) rfl rfl rfl rfl (by first | exact .no rfl | exact .y rfl rfl rfl rfl) rfl rfl ?_ | refine sw ?_ | (refine swt ?_; intro x τ hx) | (refine sp ?_ ?_ <;> (intro h; (first | (have h2 : (_ : Bool) = _ := h; clear h2; subst h) | skip); (try simp only [decide_eq_true_eq, decide_eq_false_iff_not, Bool.not_eq_true', Bool.not_eq_false', Kv.eta, Bnd.eta, Rng.eta, tn_sub1] at h); (first | (have h2 : (_ : Bool) = _ := h; clear h2; subst h) | skip))) | fail))
  all_goals (first | refine wk_pure rfl (by first | exact trivial | exact resT_cell rfl rfl (by exact inferInstance) trivial) rfl (by first | exact Vw.fmp rfl rfl rfl | exact Vw.nil | exact Vw.d _ | (repeat (first | exact Vws.nil | apply Vws.cons | exact Vw.nil | exact Vw.d _ | apply Vw.a | apply Vw.t | exact Vw.fh rfl rfl (vws_dm _) | exact Vw.fh rfl rfl Vws.nil)); done) ?_ | refine wk_pure_n rfl (by first | exact trivial | exact resT_cell rfl rfl (by exact inferInstance) trivial) rfl (by first | exact Vw.fmp rfl rfl rfl | exact Vw.nil | exact Vw.d _ | (repeat (first | exact Vws.nil | apply Vws.cons | exact Vw.nil | exact Vw.d _ | apply Vw.a | apply Vw.t | exact Vw.fh rfl rfl (vws_dm _) | exact Vw.fh rfl rfl Vws.nil)); done) ?_)
  all_goals exact ⟨rfl, rfl⟩⟩
instance maker4_p (k c : Int) (l : List Rng) (key : ByteArray) : Ct Tryd.prog 68 [vQ k l key c] True (.d (lst Rng.ds [⟨⟨⟨#[]⟩, false⟩, ⟨key, false⟩⟩])) := ⟨fun _ => by
  refine Spec.intro Tryd.func68 rfl rfl Tryd.ntmps68 Tryd.results68 rfl fun B w0 ρ0 => ?_; simp only [slots, List.map_nil, List.map_cons, Nat.reduceAdd]
  (repeat' (first | refine wl_bt Rng.ds [⟨⟨⟨#[]⟩, false⟩, ⟨key, false⟩⟩] rfl rfl (by simp only [flatV, cellsV, List.cons_append, List.nil_append, List.append_nil]; exact rfl) rfl rfl rfl rfl rfl rfl ?_ | refine wd_bt Rng.ds [⟨⟨⟨#[]⟩, false⟩, ⟨key, false⟩⟩] rfl rfl (by simp only [flatV, cellsV, List.cons_append, List.nil_append, List.append_nil]; exact rfl) rfl rfl rfl rfl (by first | exact .no rfl | exact .y rfl rfl rfl rfl) rfl rfl ?_ | refine sw ?_ | (refine swt ?_; intro x τ hx) | (refine sp ?_ ?_ <;> (intro h; (first | (have h2 : (_ : Bool) = _ := h; clear h2; subst h) | skip); (try simp only [decide_eq_true_eq, decide_eq_false_iff_not, Bool.not_eq_true', Bool.not_eq_false', Kv.eta, Bnd.eta, Rng.eta, tn_sub1] at h); (first | (have h2 : (_ : Bool) = _ := h; clear h2; subst h) | skip))) | fail))
  all_goals (first | refine wk_pure rfl (by first | exact trivial | exact resT_cell rfl rfl (by exact inferInstance) trivial) rfl (by first | exact Vw.fmp rfl rfl rfl | exact Vw.nil | exact Vw.d _ | (repeat (first | exact Vws.nil | apply Vws.cons | exact Vw.nil | exact Vw.d _ | apply Vw.a | apply Vw.t | exact Vw.fh rfl rfl (vws_dm _) | exact Vw.fh rfl rfl Vws.nil)); done) ?_ | refine wk_pure_n rfl (by first | exact trivial | exact resT_cell rfl rfl (by exact inferInstance) trivial) rfl (by first | exact Vw.fmp rfl rfl rfl | exact Vw.nil | exact Vw.d _ | (repeat (first | exact Vws.nil | apply Vws.cons | exact Vw.nil | exact Vw.d _ | apply Vw.a | apply Vw.t | exact Vw.fh rfl rfl (vws_dm _) | exact Vw.fh rfl rfl Vws.nil)); done) ?_)
  all_goals exact ⟨rfl, rfl⟩⟩
instance qranges_r (k c : Int) (l : List Rng) (key : ByteArray) : Ct Tryd.prog 29 [vQ k l key c] (l.length < 1000000) (.d (lst Rng.ds (qranges k l key c))) := ⟨fun hl => by
  refine Spec.intro Tryd.func29 rfl rfl Tryd.ntmps29 Tryd.results29 rfl fun B w0 ρ0 => ?_; simp only [slots, List.map_nil, List.map_cons, Nat.reduceAdd]
  (repeat' (first | refine wl_bt Rng.ds [pfx key] rfl rfl (by simp only [flatV, cellsV, List.cons_append, List.nil_append, List.append_nil]; exact rfl) rfl rfl rfl rfl rfl rfl ?_ | refine wd_bt Rng.ds [pfx key] rfl rfl (by simp only [flatV, cellsV, List.cons_append, List.nil_append, List.append_nil]; exact rfl) rfl rfl rfl rfl (by first | exact .no rfl | exact .y rfl rfl rfl rfl) rfl rfl ?_ | refine wl_bt Rng.ds [⟨⟨key, false⟩, ⟨⟨#[]⟩, true⟩⟩] rfl rfl (by simp only [flatV, cellsV, List.cons_append, List.nil_append, List.append_nil]; exact rfl) rfl rfl rfl rfl rfl rfl ?_ | refine wd_bt Rng.ds [⟨⟨key, false⟩, ⟨⟨#[]⟩, true⟩⟩] rfl rfl (by simp only [flatV, cellsV, List.cons_append, List.nil_append, List.append_nil]; exact rfl) rfl rfl rfl rfl (by first | exact .no rfl | exact .y rfl rfl rfl rfl) rfl rfl ?_ | refine wl_bt Rng.ds [⟨⟨⟨#[]⟩, false⟩, ⟨key, false⟩⟩] rfl rfl (by simp only [flatV, cellsV, List.cons_append, List.nil_append, List.append_nil]; exact rfl) rfl rfl rfl rfl rfl rfl ?_ | refine wd_bt Rng.ds [⟨⟨⟨#[]⟩, false⟩, ⟨key, false⟩⟩] rfl rfl (by simp only [flatV, cellsV, List.cons_append, List.nil_append, List.append_nil]; exact rfl) rfl rfl rfl rfl (by first | exact .no rfl | exact .y rfl rfl rfl rfl) rfl rfl ?_ | refine sw ?_ | (refine swt ?_; intro x τ hx) | (refine sp ?_ ?_ <;> (intro h; (first | (have h2 : (_ : Bool) = _ := h; clear h2; subst h) | skip); (try simp only [decide_eq_true_eq, decide_eq_false_iff_not, Bool.not_eq_true', Bool.not_eq_false', Kv.eta, Bnd.eta, Rng.eta, tn_sub1] at h); (first | (have h2 : (_ : Bool) = _ := h; clear h2; subst h) | skip))) | fail))
  all_goals (first | refine wk_pure rfl (by first | exact trivial | exact resT_cell rfl rfl (by exact inferInstance) trivial) rfl (by first | exact Vw.fmp rfl rfl rfl | exact Vw.nil | exact Vw.d _ | (repeat (first | exact Vws.nil | apply Vws.cons | exact Vw.nil | exact Vw.d _ | apply Vw.a | apply Vw.t | exact Vw.fh rfl rfl (vws_dm _) | exact Vw.fh rfl rfl Vws.nil)); done) ?_ | refine wk_pure_n rfl (by first | exact trivial | exact resT_cell rfl rfl (by exact inferInstance) trivial) rfl (by first | exact Vw.fmp rfl rfl rfl | exact Vw.nil | exact Vw.d _ | (repeat (first | exact Vws.nil | apply Vws.cons | exact Vw.nil | exact Vw.d _ | apply Vw.a | apply Vw.t | exact Vw.fh rfl rfl (vws_dm _) | exact Vw.fh rfl rfl Vws.nil)); done) ?_)
  all_goals (refine ⟨?_, rfl⟩)
  all_goals first
    | (rw [qranges, if_neg h]; rfl)
    | (have hq := qchk_0 (by assumption)
       rw [qranges, if_pos (by assumption), qrs]
       first | rw [if_pos (by omega)] | rw [if_neg (by omega), if_pos (by omega)] | rw [if_neg (by omega), if_neg (by omega), if_pos (by omega)] | rw [if_neg (by omega), if_neg (by omega), if_neg (by omega)])⟩
instance qranges_p (k c : Int) (l : List Rng) (key : ByteArray) : Ct Tryd.prog 23 [vQ k l key c] (l.length < 1000000) (.d (lst Rng.ds (qranges k l key c))) := ⟨fun hl => by
  refine Spec.intro Tryd.func23 rfl rfl Tryd.ntmps23 Tryd.results23 rfl fun B w0 ρ0 => ?_; simp only [slots, List.map_nil, List.map_cons, Nat.reduceAdd]
  (repeat' (first | refine sw ?_ | refine wc_draw (id := 3) [⟨1, 0, [1]⟩, ⟨2, 2, [7]⟩, ⟨4, 0, [1]⟩, ⟨0, 0, []⟩, ⟨3, 7, [6, 8]⟩, ⟨5, 31, [9, 10]⟩, ⟨6, 63, [11]⟩, ⟨7, 127, [12]⟩] mixed (by kernel_rfl) ?_ | (refine swt ?_; intro x τ hx) | (refine sp ?_ ?_ <;> (intro h; (first | (have h2 : (_ : Bool) = _ := h; clear h2; subst h) | skip); (try simp only [decide_eq_true_eq, decide_eq_false_iff_not, Bool.not_eq_true', Bool.not_eq_false', Kv.eta, Bnd.eta, Rng.eta, tn_sub1] at h); (first | (have h2 : (_ : Bool) = _ := h; clear h2; subst h) | skip))) | fail))
  · (first | refine wk_pure rfl (by first | exact trivial | exact resT_cell rfl rfl (by exact inferInstance) trivial) rfl (by first | exact Vw.fmp rfl rfl rfl | exact Vw.nil | exact Vw.d _ | (repeat (first | exact Vws.nil | apply Vws.cons | exact Vw.nil | exact Vw.d _ | apply Vw.a | apply Vw.t | exact Vw.fh rfl rfl (vws_dm _) | exact Vw.fh rfl rfl Vws.nil)); done) ?_ | refine wk_pure_n rfl (by first | exact trivial | exact resT_cell rfl rfl (by exact inferInstance) trivial) rfl (by first | exact Vw.fmp rfl rfl rfl | exact Vw.nil | exact Vw.d _ | (repeat (first | exact Vws.nil | apply Vws.cons | exact Vw.nil | exact Vw.d _ | apply Vw.a | apply Vw.t | exact Vw.fh rfl rfl (vws_dm _) | exact Vw.fh rfl rfl Vws.nil)); done) ?_)
    refine ⟨?_, rfl⟩
    rw [qranges, if_neg h]; rfl
  have hq := qchk_0 h
  rcases hq.1 with rfl | rfl | rfl | rfl
  all_goals (repeat' (first | refine sw ?_ | refine wc_draw (id := 3) [⟨1, 0, [1]⟩, ⟨2, 2, [7]⟩, ⟨4, 0, [1]⟩, ⟨0, 0, []⟩, ⟨3, 7, [6, 8]⟩, ⟨5, 31, [9, 10]⟩, ⟨6, 63, [11]⟩, ⟨7, 127, [12]⟩] mixed (by kernel_rfl) ?_ | (refine swt ?_; intro x τ hx) | (refine sp ?_ ?_ <;> (intro h; (first | (have h2 : (_ : Bool) = _ := h; clear h2; subst h) | skip); (try simp only [decide_eq_true_eq, decide_eq_false_iff_not, Bool.not_eq_true', Bool.not_eq_false', Kv.eta, Bnd.eta, Rng.eta, tn_sub1] at h); (first | (have h2 : (_ : Bool) = _ := h; clear h2; subst h) | skip))) | fail))
  all_goals (first | refine wk_pure rfl (by first | exact trivial | exact resT_cell rfl rfl (by exact inferInstance) trivial) rfl (by first | exact Vw.fmp rfl rfl rfl | exact Vw.nil | exact Vw.d _ | (repeat (first | exact Vws.nil | apply Vws.cons | exact Vw.nil | exact Vw.d _ | apply Vw.a | apply Vw.t | exact Vw.fh rfl rfl (vws_dm _) | exact Vw.fh rfl rfl Vws.nil)); done) ?_ | refine wk_pure_n rfl (by first | exact trivial | exact resT_cell rfl rfl (by exact inferInstance) trivial) rfl (by first | exact Vw.fmp rfl rfl rfl | exact Vw.nil | exact Vw.d _ | (repeat (first | exact Vws.nil | apply Vws.cons | exact Vw.nil | exact Vw.d _ | apply Vw.a | apply Vw.t | exact Vw.fh rfl rfl (vws_dm _) | exact Vw.fh rfl rfl Vws.nil)); done) ?_)
  all_goals (refine ⟨?_, rfl⟩; rw [qranges, if_pos h, qrs]; first | rw [if_pos (by omega)] | rw [if_neg (by omega), if_pos (by omega)] | rw [if_neg (by omega), if_neg (by omega), if_pos (by omega)] | rw [if_neg (by omega), if_neg (by omega), if_neg (by omega)])⟩
end Go.Proofs.YtjnnkpkbgdknmaaDoor
namespace Go.Proofs.YtjnnkpkbgdknmaaDoor
set_option linter.unusedSimpArgs false
set_option linter.unusedVariables false
open Go.RowKit
def one1 : ByteArray := ⟨#[49]⟩
def vFd (f : Fd) : V := .a [vI f.count, vI f.nums, vI f.sum, vI f.low, vI f.high, vS f.first, vS f.last]
def fd1 (k : ByteArray) : Fd := ⟨1, 1, 1, 1, 1, k, k⟩
theorem dec_one : Utf8.decode one1 0 = (49, 1) := by kernel_rfl
theorem size_one : one1.size = 1 := rfl
attribute [local irreducible] WK WC WL Wk Rel OpD OpV WD WO Op.bytesLess cmp vk vb vld emp contains
set_option maxHeartbeats 4000000 in
instance num1_p : Ct Tryd.prog 90 [vS one1] True (.t [vI 1, vB true]) := ⟨fun _ => by
  have hs1 : one1.size = 1 := rfl
  have hg1 : (one1.get! 0).toNat = 49 := rfl
  refine Spec.intro Tryd.func90 rfl rfl Tryd.ntmps90 Tryd.results90 rfl fun B w0 ρ0 => ?_; simp only [slots, List.map_nil, List.map_cons, Nat.reduceAdd]
  (repeat' (first | refine sw ?_ | (refine swt ?_; intro x τ hx) | (refine sp ?_ ?_ <;> (intro h; (first | (have h2 : (_ : Bool) = _ := h; clear h2; subst h) | skip); (try simp only [decide_eq_true_eq, decide_eq_false_iff_not, Bool.not_eq_true', Bool.not_eq_false', Kv.eta, Bnd.eta, Rng.eta, tn_sub1] at h); (first | (have h2 : (_ : Bool) = _ := h; clear h2; subst h) | skip))) | fail))
  refine wc_loop (fun κ st => ∃ (m : Nat), κ = 1 - m ∧ (m ≤ 1) ∧ st = ⟨[(5, vB false), (6, vI (m : Int)), (36, .p 136 0)], [(136, some (.ob (.stringIter one1 m)))]⟩) (1 - (0)) ⟨[(5, vB false), (6, vI ((0) : Int)), (36, .p 136 0)], [(136, some (.ob (.stringIter one1 (0))))]⟩ (wk [(136, 136)] rfl rfl rfl rfl (by repeat (first | refine VH.cons rfl rfl vb_tpb ?_ | refine VH.cons rfl rfl (Vb.ob _) ?_ | exact VS.nil | exact VH.nil | exact Vws.nil | refine VS.cons rfl ?_ ?_ | refine VH.cons rfl rfl (Vb.box ?_) ?_ | refine VH.cons rfl rfl (Vb.arr ?_) ?_ | exact vws_dm _ | refine Vws.cons ?_ ?_ | exact Vw.d _ | exact Vw.p rfl | exact Vw.h rfl | exact Vw.e rfl | exact Vw.s rfl | exact Vw.q _ | refine Vw.a ?_ | refine Vw.t ?_ | exact Vw.nil | exact Vw.fh rfl rfl (vws_dm _) | exact Vw.un _)) (by repeat (first | refine VH.cons rfl rfl vb_tpb ?_ | refine VH.cons rfl rfl (Vb.ob _) ?_ | exact VS.nil | exact VH.nil | exact Vws.nil | refine VS.cons rfl ?_ ?_ | refine VH.cons rfl rfl (Vb.box ?_) ?_ | refine VH.cons rfl rfl (Vb.arr ?_) ?_ | exact vws_dm _ | refine Vws.cons ?_ ?_ | exact Vw.d _ | exact Vw.p rfl | exact Vw.h rfl | exact Vw.e rfl | exact Vw.s rfl | exact Vw.q _ | refine Vw.a ?_ | refine Vw.t ?_ | exact Vw.nil | exact Vw.fh rfl rfl (vws_dm _) | exact Vw.un _))) ⟨0, rfl, ?_, rfl⟩ ?_; rotate_left; rintro κ _ ⟨m, rfl, hP, rfl⟩; rotate_left
  · omega
  have hm : m = 0 ∨ m = 1 := by omega
  have hc := dec_one
  rcases hm with rfl | rfl
  · have h1 : 0 < one1.size := by omega
    (repeat' (first | refine sw ?_ | (refine swt ?_; intro x τ hx) | (refine sp ?_ ?_ <;> (intro h; (first | (have h2 : (_ : Bool) = _ := h; clear h2; subst h) | skip); (try simp only [decide_eq_true_eq, decide_eq_false_iff_not, Bool.not_eq_true', Bool.not_eq_false', Kv.eta, Bnd.eta, Rng.eta, tn_sub1] at h); (first | (have h2 : (_ : Bool) = _ := h; clear h2; subst h) | skip))) | fail))
    all_goals (try (exfalso; omega))
    refine wk_loop_n (1 - (1)) (st' := ⟨[(5, vB false), (6, vI ((1) : Int)), (36, .p 136 0)], [(136, some (.ob (.stringIter one1 (1))))]⟩) (wk [(136, 136)] rfl rfl rfl rfl (by repeat (first | refine VH.cons rfl rfl vb_tpb ?_ | refine VH.cons rfl rfl (Vb.ob _) ?_ | exact VS.nil | exact VH.nil | exact Vws.nil | refine VS.cons rfl ?_ ?_ | refine VH.cons rfl rfl (Vb.box ?_) ?_ | refine VH.cons rfl rfl (Vb.arr ?_) ?_ | exact vws_dm _ | refine Vws.cons ?_ ?_ | exact Vw.d _ | exact Vw.p rfl | exact Vw.h rfl | exact Vw.e rfl | exact Vw.s rfl | exact Vw.q _ | refine Vw.a ?_ | refine Vw.t ?_ | exact Vw.nil | exact Vw.fh rfl rfl (vws_dm _) | exact Vw.un _)) (by repeat (first | refine VH.cons rfl rfl vb_tpb ?_ | refine VH.cons rfl rfl (Vb.ob _) ?_ | exact VS.nil | exact VH.nil | exact Vws.nil | refine VS.cons rfl ?_ ?_ | refine VH.cons rfl rfl (Vb.box ?_) ?_ | refine VH.cons rfl rfl (Vb.arr ?_) ?_ | exact vws_dm _ | refine Vws.cons ?_ ?_ | exact Vw.d _ | exact Vw.p rfl | exact Vw.h rfl | exact Vw.e rfl | exact Vw.s rfl | exact Vw.q _ | refine Vw.a ?_ | refine Vw.t ?_ | exact Vw.nil | exact Vw.fh rfl rfl (vws_dm _) | exact Vw.un _))) ?_ ⟨1, rfl, ?_, rfl⟩
    · omega
    · omega
  · have h1 : ¬ 1 < one1.size := by omega
    (repeat' (first | refine sw ?_ | (refine swt ?_; intro x τ hx) | (refine sp ?_ ?_ <;> (intro h; (first | (have h2 : (_ : Bool) = _ := h; clear h2; subst h) | skip); (try simp only [decide_eq_true_eq, decide_eq_false_iff_not, Bool.not_eq_true', Bool.not_eq_false', Kv.eta, Bnd.eta, Rng.eta, tn_sub1] at h); (first | (have h2 : (_ : Bool) = _ := h; clear h2; subst h) | skip))) | fail))
    all_goals (try (exfalso; omega))
    (first | refine wk_pure rfl (by first | exact trivial | exact resT_cell rfl rfl (by exact inferInstance) trivial) rfl (by first | exact Vw.fmp rfl rfl rfl | exact Vw.nil | exact Vw.d _ | (repeat (first | exact Vws.nil | apply Vws.cons | exact Vw.nil | exact Vw.d _ | apply Vw.a | apply Vw.t | exact Vw.fh rfl rfl (vws_dm _) | exact Vw.fh rfl rfl Vws.nil)); done) ?_ | refine wk_pure_n rfl (by first | exact trivial | exact resT_cell rfl rfl (by exact inferInstance) trivial) rfl (by first | exact Vw.fmp rfl rfl rfl | exact Vw.nil | exact Vw.d _ | (repeat (first | exact Vws.nil | apply Vws.cons | exact Vw.nil | exact Vw.d _ | apply Vw.a | apply Vw.t | exact Vw.fh rfl rfl (vws_dm _) | exact Vw.fh rfl rfl Vws.nil)); done) ?_)
    exact ⟨rfl, rfl⟩⟩
theorem add1_p (k : ByteArray) : Spec Tryd.prog 79 [.p 0 0, .a [vS k, vS one1]] [(0, some (.box 93 [vI 0, vI 0, vI 0, vI 0, vI 0, vS ⟨#[]⟩, vS ⟨#[]⟩]))] fun u h => u = .t [] ∧ h = [(0, some (.box 93 [vI 1, vI 1, vI 1, vI 1, vI 1, vS k, vS k]))] := by
  refine Spec.intro Tryd.func79 rfl rfl Tryd.ntmps79 Tryd.results79 rfl fun B w0 ρ0 => ?_; simp only [slots, List.map_nil, List.map_cons, Nat.reduceAdd]
  (repeat' (first | refine sw ?_ | (refine swt ?_; intro x τ hx) | (refine sp ?_ ?_ <;> (intro h; (first | (have h2 : (_ : Bool) = _ := h; clear h2; subst h) | skip); (try simp only [decide_eq_true_eq, decide_eq_false_iff_not, Bool.not_eq_true', Bool.not_eq_false', Kv.eta, Bnd.eta, Rng.eta, tn_sub1] at h); (first | (have h2 : (_ : Bool) = _ := h; clear h2; subst h) | skip))) | fail))
  exact wk_fn_n (Wk.refl _ _) ⟨[], [(0, 0)], .t [], [(0, some (.box 93 [vI 1, vI 1, vI 1, vI 1, vI 1, vS k, vS k]))], rfl, trivial, rfl, .t .nil, (by repeat (first | refine VH.cons rfl rfl vb_tpb ?_ | refine VH.cons rfl rfl (Vb.ob _) ?_ | exact VS.nil | exact VH.nil | exact Vws.nil | refine VS.cons rfl ?_ ?_ | refine VH.cons rfl rfl (Vb.box ?_) ?_ | refine VH.cons rfl rfl (Vb.arr ?_) ?_ | exact vws_dm _ | refine Vws.cons ?_ ?_ | exact Vw.d _ | exact Vw.p rfl | exact Vw.h rfl | exact Vw.e rfl | exact Vw.s rfl | exact Vw.q _ | refine Vw.a ?_ | refine Vw.t ?_ | exact Vw.nil | exact Vw.fh rfl rfl (vws_dm _) | exact Vw.un _)), rfl, rfl⟩
section
variable {Γ : Cx} {k : Kont} {sl : List (Nat × V)} {hp : Hp} {o : Oper} {ops : Array Oper} {d kt : Nat} {x : Operand} {xs : Array Operand} {ats : Array TypeId} {rest : List Oper} {key : ByteArray}
theorem wl_add1 (hP : Γ.P = Tryd.prog) (hop : o.op = .call { callee := .value x, args := xs, argTypes := ats }) (hx : ev sl x = some (.d (.c (.func (.func 79) #[] #[])))) (ha : evl sl xs.toList = some [.p kt 0, .a [vS key, vS one1]]) (hH : look hp kt = some (some (.box 93 [vI 0, vI 0, vI 0, vI 0, vI 0, vS ⟨#[]⟩, vS ⟨#[]⟩])))
    (hg : o.guard = none) (hd : o.dst = some d) (hdl : Nat.blt d Γ.nt = true) (hf : freshB hp 100000 100 = true) (hk : WL Γ ops rest k ⟨(d, .t []) :: sl, (kt, some (.box 93 [vI 1, vI 1, vI 1, vI 1, vI 1, vS key, vS key])) :: hp⟩) : WL Γ ops (o :: rest) k ⟨sl, hp⟩ := by
  have hal : aliveB hp [(0, kt)] = true := by simp only [aliveB, List.all_cons, List.all_nil, Bool.and_true, hH]
  have h0 : look [(0, kt)] 0 = some kt := rfl
  refine wl_v (o_call 100000 [(0, kt)] (hP ▸ add1_p key) hop hx ha (.cons (.p h0) (.cons (.a (.cons (.d _) (.cons (.d _) .nil))) .nil)) (VH.cons h0 hH (.box (by repeat (first | exact Vws.nil | refine Vws.cons (Vw.d _) ?_))) .nil) hal rfl (by rfl)) hg hd hdl hf ?_
  rintro u h ⟨u0, h0', ⟨rfl, rfl⟩, rfl, rfl⟩
  exact hk
end
instance of_p1 (l : List Kv) : Ct Tryd.prog 53 [.d (rows l)] (∃ k, l = [⟨k, one1⟩]) (.a [vI 1, vI 1, vI 1, vI 1, vI 1, vS (l.headD ⟨⟨#[]⟩, ⟨#[]⟩⟩).key, vS (l.headD ⟨⟨#[]⟩, ⟨#[]⟩⟩).key]) := ⟨fun h0 => by
  obtain ⟨key, rfl⟩ := h0
  refine Spec.intro Tryd.func53 rfl rfl Tryd.ntmps53 Tryd.results53 rfl fun B w0 ρ0 => ?_; simp only [slots, List.map_nil, List.map_cons, Nat.reduceAdd]
  (repeat' (first | refine sw ?_ | (refine swt ?_; intro x τ hx) | (refine sp ?_ ?_ <;> (intro h; (first | (have h2 : (_ : Bool) = _ := h; clear h2; subst h) | skip); (try simp only [decide_eq_true_eq, decide_eq_false_iff_not, Bool.not_eq_true', Bool.not_eq_false', Kv.eta, Bnd.eta, Rng.eta, tn_sub1] at h); (first | (have h2 : (_ : Bool) = _ := h; clear h2; subst h) | skip))) | fail))
  refine wc_loop (fun κ st => ∃ (m : Nat), κ = 1 - m ∧ (m ≤ 1) ∧ st = ⟨[(2, .p 102 0), (3, .p 103 0), (6, .d (rows [⟨key, one1⟩])), (7, vI ((1 : Nat) : Int)), (8, vI (m : Int))], [(102, some (.box 39 [vI 0, vI 0, vI 0, vI 0, vI 0, vS ⟨#[]⟩, vS ⟨#[]⟩])), (103, some (.box 93 (if m = 0 then [vI 0, vI 0, vI 0, vI 0, vI 0, vS ⟨#[]⟩, vS ⟨#[]⟩] else [vI 1, vI 1, vI 1, vI 1, vI 1, vS key, vS key])))]⟩) (1 - (0)) ⟨[(2, .p 102 0), (3, .p 103 0), (6, .d (rows [⟨key, one1⟩])), (7, vI ((1 : Nat) : Int)), (8, vI ((0) : Int))], [(102, some (.box 39 [vI 0, vI 0, vI 0, vI 0, vI 0, vS ⟨#[]⟩, vS ⟨#[]⟩])), (103, some (.box 93 (if (0) = 0 then [vI 0, vI 0, vI 0, vI 0, vI 0, vS ⟨#[]⟩, vS ⟨#[]⟩] else [vI 1, vI 1, vI 1, vI 1, vI 1, vS key, vS key])))]⟩ (wk [(102, 102), (103, 103)] rfl rfl rfl rfl (by repeat (first | refine VH.cons rfl rfl vb_tpb ?_ | refine VH.cons rfl rfl (Vb.ob _) ?_ | exact VS.nil | exact VH.nil | exact Vws.nil | refine VS.cons rfl ?_ ?_ | refine VH.cons rfl rfl (Vb.box ?_) ?_ | refine VH.cons rfl rfl (Vb.arr ?_) ?_ | exact vws_dm _ | refine Vws.cons ?_ ?_ | exact Vw.d _ | exact Vw.p rfl | exact Vw.h rfl | exact Vw.e rfl | exact Vw.s rfl | exact Vw.q _ | refine Vw.a ?_ | refine Vw.t ?_ | exact Vw.nil | exact Vw.fh rfl rfl (vws_dm _) | exact Vw.un _)) (by repeat (first | refine VH.cons rfl rfl vb_tpb ?_ | refine VH.cons rfl rfl (Vb.ob _) ?_ | exact VS.nil | exact VH.nil | exact Vws.nil | refine VS.cons rfl ?_ ?_ | refine VH.cons rfl rfl (Vb.box ?_) ?_ | refine VH.cons rfl rfl (Vb.arr ?_) ?_ | exact vws_dm _ | refine Vws.cons ?_ ?_ | exact Vw.d _ | exact Vw.p rfl | exact Vw.h rfl | exact Vw.e rfl | exact Vw.s rfl | exact Vw.q _ | refine Vw.a ?_ | refine Vw.t ?_ | exact Vw.nil | exact Vw.fh rfl rfl (vws_dm _) | exact Vw.un _))) ⟨0, rfl, ?_, rfl⟩ ?_; rotate_left; rintro κ _ ⟨m, rfl, hP, rfl⟩; rotate_left
  · omega
  have hm : m = 0 ∨ m = 1 := by omega
  rcases hm with rfl | rfl
  · rw [if_pos rfl]
    (repeat' (first | refine wl_r (o_ixe rfl rfl rfl Len.len rfl (by simp) (by simp only [Kv.ds]; exact rfl)) rfl rfl rfl ?_ | refine wl_add1 rfl rfl rfl rfl rfl rfl rfl rfl rfl ?_ | refine sw ?_ | (refine swt ?_; intro x τ hx) | (refine sp ?_ ?_ <;> (intro h; (first | (have h2 : (_ : Bool) = _ := h; clear h2; subst h) | skip); (try simp only [decide_eq_true_eq, decide_eq_false_iff_not, Bool.not_eq_true', Bool.not_eq_false', Kv.eta, Bnd.eta, Rng.eta, tn_sub1] at h); (first | (have h2 : (_ : Bool) = _ := h; clear h2; subst h) | skip))) | fail))
    all_goals (try (exfalso; omega))
    refine wk_loop_n (1 - (1)) (st' := ⟨[(2, .p 102 0), (3, .p 103 0), (6, .d (rows [⟨key, one1⟩])), (7, vI ((1 : Nat) : Int)), (8, vI ((1) : Int))], [(102, some (.box 39 [vI 0, vI 0, vI 0, vI 0, vI 0, vS ⟨#[]⟩, vS ⟨#[]⟩])), (103, some (.box 93 (if (1) = 0 then [vI 0, vI 0, vI 0, vI 0, vI 0, vS ⟨#[]⟩, vS ⟨#[]⟩] else [vI 1, vI 1, vI 1, vI 1, vI 1, vS key, vS key])))]⟩) (wk [(102, 102), (103, 103)] rfl rfl rfl rfl (by repeat (first | refine VH.cons rfl rfl vb_tpb ?_ | refine VH.cons rfl rfl (Vb.ob _) ?_ | exact VS.nil | exact VH.nil | exact Vws.nil | refine VS.cons rfl ?_ ?_ | refine VH.cons rfl rfl (Vb.box ?_) ?_ | refine VH.cons rfl rfl (Vb.arr ?_) ?_ | exact vws_dm _ | refine Vws.cons ?_ ?_ | exact Vw.d _ | exact Vw.p rfl | exact Vw.h rfl | exact Vw.e rfl | exact Vw.s rfl | exact Vw.q _ | refine Vw.a ?_ | refine Vw.t ?_ | exact Vw.nil | exact Vw.fh rfl rfl (vws_dm _) | exact Vw.un _)) (by repeat (first | refine VH.cons rfl rfl vb_tpb ?_ | refine VH.cons rfl rfl (Vb.ob _) ?_ | exact VS.nil | exact VH.nil | exact Vws.nil | refine VS.cons rfl ?_ ?_ | refine VH.cons rfl rfl (Vb.box ?_) ?_ | refine VH.cons rfl rfl (Vb.arr ?_) ?_ | exact vws_dm _ | refine Vws.cons ?_ ?_ | exact Vw.d _ | exact Vw.p rfl | exact Vw.h rfl | exact Vw.e rfl | exact Vw.s rfl | exact Vw.q _ | refine Vw.a ?_ | refine Vw.t ?_ | exact Vw.nil | exact Vw.fh rfl rfl (vws_dm _) | exact Vw.un _))) ?_ ⟨1, rfl, ?_, rfl⟩
    · omega
    · omega
  · rw [if_neg (by omega)]
    (repeat' (first | refine sw ?_ | (refine swt ?_; intro x τ hx) | (refine sp ?_ ?_ <;> (intro h; (first | (have h2 : (_ : Bool) = _ := h; clear h2; subst h) | skip); (try simp only [decide_eq_true_eq, decide_eq_false_iff_not, Bool.not_eq_true', Bool.not_eq_false', Kv.eta, Bnd.eta, Rng.eta, tn_sub1] at h); (first | (have h2 : (_ : Bool) = _ := h; clear h2; subst h) | skip))) | fail))
    all_goals (try (exfalso; omega))
    (first | refine wk_pure rfl (by first | exact trivial | exact resT_cell rfl rfl (by exact inferInstance) trivial) rfl (by first | exact Vw.fmp rfl rfl rfl | exact Vw.nil | exact Vw.d _ | (repeat (first | exact Vws.nil | apply Vws.cons | exact Vw.nil | exact Vw.d _ | apply Vw.a | apply Vw.t | exact Vw.fh rfl rfl (vws_dm _) | exact Vw.fh rfl rfl Vws.nil)); done) ?_ | refine wk_pure_n rfl (by first | exact trivial | exact resT_cell rfl rfl (by exact inferInstance) trivial) rfl (by first | exact Vw.fmp rfl rfl rfl | exact Vw.nil | exact Vw.d _ | (repeat (first | exact Vws.nil | apply Vws.cons | exact Vw.nil | exact Vw.d _ | apply Vw.a | apply Vw.t | exact Vw.fh rfl rfl (vws_dm _) | exact Vw.fh rfl rfl Vws.nil)); done) ?_)
    exact ⟨rfl, rfl⟩⟩
end Go.Proofs.YtjnnkpkbgdknmaaDoor
namespace Go.Proofs.YtjnnkpkbgdknmaaDoor
set_option linter.unusedSimpArgs false
set_option linter.unusedVariables false
open Go.RowKit
theorem union_le (l : List Rng) : (union l).length ≤ l.length := by
  have h1 := mrgAll_le ((l.filter ne).mergeSort leLo)
  rw [List.length_mergeSort] at h1
  exact Nat.le_trans h1 (List.length_filter_le _ _)
end Go.Proofs.YtjnnkpkbgdknmaaDoor
namespace Go.Proofs.YtjnnkpkbgdknmaaDoor
set_option linter.unusedSimpArgs false
set_option linter.unusedVariables false
open Go.RowKit
def qslices (t : List Kv) (rs : List Rng) : List Kv := rs.flatMap fun r => t.filter fun x => contains r x.key
theorem qranges_le (k : Int) (l : List Rng) (key : ByteArray) (c : Int) : (qranges k l key c).length ≤ 64 := by
  unfold qranges
  split
  · rename_i h
    have hq := qchk_0 h
    refine Nat.le_trans (union_le _) ?_
    unfold qrs
    split
    · exact hq.2.2
    split
    · simp
    split <;> simp
  · simp
abbrev kA : ByteArray := ⟨#[97]⟩
abbrev kB : ByteArray := ⟨#[98]⟩
abbrev kC : ByteArray := ⟨#[99]⟩
abbrev kAB : ByteArray := ⟨#[97, 98]⟩
abbrev kAC : ByteArray := ⟨#[97, 99]⟩
def tA : List Kv := [⟨kA, ⟨#[]⟩⟩, ⟨kB, one1⟩, ⟨kC, ⟨#[]⟩⟩]
theorem rA : qranges 2 [] kAB 0 = [⟨⟨kAB, false⟩, ⟨kAC, false⟩⟩] := by kernel_rfl
theorem rB : qranges 4 [] kC 1 = [⟨⟨⟨#[]⟩, false⟩, ⟨kC, false⟩⟩] := by kernel_rfl
theorem tA_valid : tvalid tA = true := by kernel_rfl
theorem tA_rows : qtk 4 1 (qslices tA [⟨⟨⟨#[]⟩, false⟩, ⟨kC, false⟩⟩]) = [⟨kB, one1⟩] := by kernel_rfl
attribute [local irreducible] WK WC WL Wk Rel OpD OpV WD WO Op.bytesLess cmp vk vb vld emp contains
attribute [local irreducible] qchk qranges qtk union pfx tvalid
set_option maxHeartbeats 2000000 in
theorem answer1 (t : List Kv) (k c : Int) (l : List Rng) (key kk : ByteArray) (hl : l.length < 1000000) (ht : t.length ≤ 1024) (h1 : qchk k l key c = 0) (h2 : tvalid t = true) (h3 : qtk k c (qslices t (qranges k l key c)) = [⟨kk, one1⟩]) :
    Spec Tryd.prog 18 [.d (rows t), vQ k l key c] [] fun u h => u = .t [.a [.d (rows [⟨kk, one1⟩]), vI 1, vI 1, vI 1, vI 1, vI 1, vS kk, vS kk], vI 0] ∧ h = [] := by
  have hrl := qranges_le k l key c
  refine Spec.intro Tryd.func18 rfl rfl Tryd.ntmps18 Tryd.results18 rfl fun B w0 ρ0 => ?_; simp only [slots, List.map_nil, List.map_cons, Nat.reduceAdd]
  (repeat' (first | refine sw ?_ | (refine swt ?_; intro x τ hx) | (refine sp ?_ ?_ <;> (intro h; (first | (have h2 : (_ : Bool) = _ := h; clear h2; subst h) | skip); (try simp only [decide_eq_true_eq, decide_eq_false_iff_not, Bool.not_eq_true', Bool.not_eq_false', Kv.eta, Bnd.eta, Rng.eta, tn_sub1] at h); (first | (have h2 : (_ : Bool) = _ := h; clear h2; subst h) | skip))) | fail))
  · exact absurd h1 h
  · rw [h2] at h; cases h
  generalize hR : qranges k l key c = R at *
  refine wc_wk (wk_nil 7 107 59 2 rfl rfl) ?_
  refine wc_loop (fun κ st => ∃ (m : Nat) (out : List Kv), κ = R.length - m ∧ (m ≤ R.length ∧ out.length ≤ m * 1024 ∧ out ++ qslices t (R.drop m) = qslices t R) ∧ st = ⟨[(0, .d (rows t)), (3, .p 103 0), (4, .p 104 0), (7, .h 107), (21, .d (lst Rng.ds R)), (22, vI R.length), (23, vI (m : Int))], [(103, some (.box 25 [vI k, .d (lst Rng.ds l), vS key, vI c])), (104, some (.box 41 [.d (.c (.slice none 0 0)), vI 0, vI 0, vI 0, vI 0, vI 0, vS ⟨#[]⟩, vS ⟨#[]⟩])), (107, some (arrT 59 2 Kv.ds out))]⟩) (R.length - (0)) ⟨[(0, .d (rows t)), (3, .p 103 0), (4, .p 104 0), (7, .h 107), (21, .d (lst Rng.ds R)), (22, vI R.length), (23, vI ((0) : Int))], [(103, some (.box 25 [vI k, .d (lst Rng.ds l), vS key, vI c])), (104, some (.box 41 [.d (.c (.slice none 0 0)), vI 0, vI 0, vI 0, vI 0, vI 0, vS ⟨#[]⟩, vS ⟨#[]⟩])), (107, some (arrT 59 2 Kv.ds ([])))]⟩ (wk [(103, 103), (104, 104), (107, 107)] rfl rfl rfl rfl (by repeat (first | refine VH.cons rfl rfl vb_tpb ?_ | refine VH.cons rfl rfl (Vb.ob _) ?_ | exact VS.nil | exact VH.nil | exact Vws.nil | refine VS.cons rfl ?_ ?_ | refine VH.cons rfl rfl (Vb.box ?_) ?_ | refine VH.cons rfl rfl (Vb.arr ?_) ?_ | exact vws_dm _ | refine Vws.cons ?_ ?_ | exact Vw.d _ | exact Vw.p rfl | exact Vw.h rfl | exact Vw.e rfl | exact Vw.s rfl | exact Vw.q _ | refine Vw.a ?_ | refine Vw.t ?_ | exact Vw.nil | exact Vw.fh rfl rfl (vws_dm _) | exact Vw.un _)) (by repeat (first | refine VH.cons rfl rfl vb_tpb ?_ | refine VH.cons rfl rfl (Vb.ob _) ?_ | exact VS.nil | exact VH.nil | exact Vws.nil | refine VS.cons rfl ?_ ?_ | refine VH.cons rfl rfl (Vb.box ?_) ?_ | refine VH.cons rfl rfl (Vb.arr ?_) ?_ | exact vws_dm _ | refine Vws.cons ?_ ?_ | exact Vw.d _ | exact Vw.p rfl | exact Vw.h rfl | exact Vw.e rfl | exact Vw.s rfl | exact Vw.q _ | refine Vw.a ?_ | refine Vw.t ?_ | exact Vw.nil | exact Vw.fh rfl rfl (vws_dm _) | exact Vw.un _))) ⟨0, [], rfl, ?_, rfl⟩ ?_; rotate_left; rintro κ _ ⟨m, out, rfl, hP, rfl⟩; rotate_left
  · exact ⟨by omega, by simp, by simp⟩
  obtain ⟨hm, ho, hP⟩ := hP
  have hs := drop_step (l := R) (m := m)
  have h3' : ¬ m < R.length → ∃ kk, qtk k c out = [⟨kk, one1⟩] := fun hh => by
    rw [List.drop_eq_nil_of_le (by omega)] at hP
    have : out = qslices t R := by simpa [qslices] using hP
    exact ⟨kk, by rw [this]; exact h3⟩
  (repeat' (first | refine wl_2 (n_append_t rfl rfl (by simp only [Nat.reduceAdd]; exact rfl) rfl rfl rfl Len.len (Nat.le_trans (Nat.mul_le_mul_right _ (Nat.add_le_add_left (List.length_filter_le _ _) _)) (by omega)) (Nat.le_trans (Nat.add_le_add_left (List.length_filter_le _ _) _) (by omega)) rfl) rfl rfl rfl rfl ?_ | refine sw ?_ | (refine swt ?_; intro x τ hx) | (refine sp ?_ ?_ <;> (intro h; (first | (have h2 : (_ : Bool) = _ := h; clear h2; subst h) | skip); (try simp only [decide_eq_true_eq, decide_eq_false_iff_not, Bool.not_eq_true', Bool.not_eq_false', Kv.eta, Bnd.eta, Rng.eta, tn_sub1] at h); (first | (have h2 : (_ : Bool) = _ := h; clear h2; subst h) | skip))) | fail))
  · refine wk_loop_n (R.length - (m + 1)) (st' := ⟨[(0, .d (rows t)), (3, .p 103 0), (4, .p 104 0), (7, .h 107), (21, .d (lst Rng.ds R)), (22, vI R.length), (23, vI ((m + 1) : Int))], [(103, some (.box 25 [vI k, .d (lst Rng.ds l), vS key, vI c])), (104, some (.box 41 [.d (.c (.slice none 0 0)), vI 0, vI 0, vI 0, vI 0, vI 0, vS ⟨#[]⟩, vS ⟨#[]⟩])), (107, some (arrT 59 2 Kv.ds (out ++ t.filter (fun x => contains R[m] x.key))))]⟩) (wk [(103, 103), (104, 104), (107, 131)] rfl rfl rfl rfl (by repeat (first | refine VH.cons rfl rfl vb_tpb ?_ | refine VH.cons rfl rfl (Vb.ob _) ?_ | exact VS.nil | exact VH.nil | exact Vws.nil | refine VS.cons rfl ?_ ?_ | refine VH.cons rfl rfl (Vb.box ?_) ?_ | refine VH.cons rfl rfl (Vb.arr ?_) ?_ | exact vws_dm _ | refine Vws.cons ?_ ?_ | exact Vw.d _ | exact Vw.p rfl | exact Vw.h rfl | exact Vw.e rfl | exact Vw.s rfl | exact Vw.q _ | refine Vw.a ?_ | refine Vw.t ?_ | exact Vw.nil | exact Vw.fh rfl rfl (vws_dm _) | exact Vw.un _)) (by repeat (first | refine VH.cons rfl rfl vb_tpb ?_ | refine VH.cons rfl rfl (Vb.ob _) ?_ | exact VS.nil | exact VH.nil | exact Vws.nil | refine VS.cons rfl ?_ ?_ | refine VH.cons rfl rfl (Vb.box ?_) ?_ | refine VH.cons rfl rfl (Vb.arr ?_) ?_ | exact vws_dm _ | refine Vws.cons ?_ ?_ | exact Vw.d _ | exact Vw.p rfl | exact Vw.h rfl | exact Vw.e rfl | exact Vw.s rfl | exact Vw.q _ | refine Vw.a ?_ | refine Vw.t ?_ | exact Vw.nil | exact Vw.fh rfl rfl (vws_dm _) | exact Vw.un _))) ?_ ⟨m + 1, out ++ t.filter (fun x => contains R[m] x.key), rfl, ?_, rfl⟩
    · omega
    · have := List.length_filter_le (fun x => contains R[m] x.key) t
      refine ⟨by omega, by simp only [List.length_append]; omega, ?_⟩
      rw [← hP, hs (by omega)]
      simp only [qslices, List.flatMap_cons, List.append_assoc]
  · refine wl_wk (st' := ⟨[(33, vQ k l key c), (34, .d (rows out)), (4, .p 104 0)], [(104, some (.box 41 [.d (.c (.slice none 0 0)), vI 0, vI 0, vI 0, vI 0, vI 0, vS ⟨#[]⟩, vS ⟨#[]⟩]))]⟩) (wk [(104, 104)] rfl rfl rfl rfl (by repeat (first | refine VH.cons rfl rfl vb_tpb ?_ | refine VH.cons rfl rfl (Vb.ob _) ?_ | exact VS.nil | exact VH.nil | exact Vws.nil | refine VS.cons rfl ?_ ?_ | refine VH.cons rfl rfl (Vb.box ?_) ?_ | refine VH.cons rfl rfl (Vb.arr ?_) ?_ | exact vws_dm _ | refine Vws.cons ?_ ?_ | exact Vw.d _ | exact Vw.p rfl | exact Vw.h rfl | exact Vw.e rfl | exact Vw.s rfl | exact Vw.q _ | refine Vw.a ?_ | refine Vw.t ?_ | exact Vw.nil | exact Vw.fh rfl rfl (vws_dm _) | exact Vw.un _)) (by repeat (first | refine VH.cons rfl rfl vb_tpb ?_ | refine VH.cons rfl rfl (Vb.ob _) ?_ | exact VS.nil | exact VH.nil | exact Vws.nil | refine VS.cons rfl ?_ ?_ | refine VH.cons rfl rfl (Vb.box ?_) ?_ | refine VH.cons rfl rfl (Vb.arr ?_) ?_ | exact vws_dm _ | refine Vws.cons ?_ ?_ | exact Vw.d _ | exact Vw.p rfl | exact Vw.h rfl | exact Vw.e rfl | exact Vw.s rfl | exact Vw.q _ | refine Vw.a ?_ | refine Vw.t ?_ | exact Vw.nil | exact Vw.fh rfl rfl (vws_dm _) | exact Vw.un _))) ?_
    have h3'' := h3' (by omega)
    (repeat' (first | refine sw ?_ | (refine swt ?_; intro x τ hx) | (refine sp ?_ ?_ <;> (intro h; (first | (have h2 : (_ : Bool) = _ := h; clear h2; subst h) | skip); (try simp only [decide_eq_true_eq, decide_eq_false_iff_not, Bool.not_eq_true', Bool.not_eq_false', Kv.eta, Bnd.eta, Rng.eta, tn_sub1] at h); (first | (have h2 : (_ : Bool) = _ := h; clear h2; subst h) | skip))) | fail))
    (first | refine wk_pure rfl (by first | exact trivial | exact resT_cell rfl rfl (by exact inferInstance) trivial) rfl (by first | exact Vw.fmp rfl rfl rfl | exact Vw.nil | exact Vw.d _ | (repeat (first | exact Vws.nil | apply Vws.cons | exact Vw.nil | exact Vw.d _ | apply Vw.a | apply Vw.t | exact Vw.fh rfl rfl (vws_dm _) | exact Vw.fh rfl rfl Vws.nil)); done) ?_ | refine wk_pure_n rfl (by first | exact trivial | exact resT_cell rfl rfl (by exact inferInstance) trivial) rfl (by first | exact Vw.fmp rfl rfl rfl | exact Vw.nil | exact Vw.d _ | (repeat (first | exact Vws.nil | apply Vws.cons | exact Vw.nil | exact Vw.d _ | apply Vw.a | apply Vw.t | exact Vw.fh rfl rfl (vws_dm _) | exact Vw.fh rfl rfl Vws.nil)); done) ?_)
    refine ⟨?_, rfl⟩
    rw [List.drop_eq_nil_of_le (by omega)] at hP
    have e : out = qslices t R := by simpa [qslices] using hP
    rw [e, h3]; rfl
instance answerA : Ct Tryd.prog 18 [.d (rows tA), .a [vI 4, .d (.l 0 []), vS kC, vI 1]] True (.t [.a [.d (rows [⟨kB, one1⟩]), vI 1, vI 1, vI 1, vI 1, vI 1, vS kB, vS kB], vI 0]) := ⟨fun _ => answer1 tA 4 1 [] kC kB (by simp) (show 3 ≤ 1024 by omega) (by kernel_rfl) tA_valid (by rw [rB]; exact tA_rows)⟩
instance (priority := high) rangesA : Ct Tryd.prog 23 [.a [vI 2, .d (.l 0 []), vS kAB, vI 0]] True (.d (lst Rng.ds [⟨⟨kAB, false⟩, ⟨kAC, false⟩⟩])) := ⟨fun _ => by
  have := (qranges_p 2 0 [] kAB).out (by simp)
  rw [rA] at this
  exact this⟩
instance awake_ct : Ct Tryd.prog 10 [] True (vB true) := ⟨fun _ => by
  refine Spec.intro Tryd.func10 rfl rfl Tryd.ntmps10 Tryd.results10 rfl fun B w0 ρ0 => ?_; simp only [slots, List.map_nil, List.map_cons, Nat.reduceAdd]
  (repeat' (first | refine wl_bt Kv.ds tA rfl rfl (by simp only [flatV, cellsV, List.cons_append, List.nil_append, List.append_nil]; exact rfl) rfl rfl rfl rfl rfl rfl ?_ | refine wl_r (o_ixe (m := 0) rfl rfl rfl Len.len rfl (by simp) (by simp only [Rng.ds, Kv.ds]; exact rfl)) rfl rfl rfl ?_ | refine sw ?_ | (refine swt ?_; intro x τ hx) | (refine sp ?_ ?_ <;> (intro h; (first | (have h2 : (_ : Bool) = _ := h; clear h2; subst h) | skip); (try simp only [decide_eq_true_eq, decide_eq_false_iff_not, Bool.not_eq_true', Bool.not_eq_false', Kv.eta, Bnd.eta, Rng.eta, tn_sub1] at h); (first | (have h2 : (_ : Bool) = _ := h; clear h2; subst h) | skip))) | fail))
  trace_state
  all_goals (first | refine wk_pure rfl (by first | exact trivial | exact resT_cell rfl rfl (by exact inferInstance) trivial) rfl (by first | exact Vw.fmp rfl rfl rfl | exact Vw.nil | exact Vw.d _ | (repeat (first | exact Vws.nil | apply Vws.cons | exact Vw.nil | exact Vw.d _ | apply Vw.a | apply Vw.t | exact Vw.fh rfl rfl (vws_dm _) | exact Vw.fh rfl rfl Vws.nil)); done) ?_ | refine wk_pure_n rfl (by first | exact trivial | exact resT_cell rfl rfl (by exact inferInstance) trivial) rfl (by first | exact Vw.fmp rfl rfl rfl | exact Vw.nil | exact Vw.d _ | (repeat (first | exact Vws.nil | apply Vws.cons | exact Vw.nil | exact Vw.d _ | apply Vw.a | apply Vw.t | exact Vw.fh rfl rfl (vws_dm _) | exact Vw.fh rfl rfl Vws.nil)); done) ?_)
  all_goals exact ⟨by kernel_rfl, rfl⟩⟩
end Go.Proofs.YtjnnkpkbgdknmaaDoor
namespace Go.Proofs.YtjnnkpkbgdknmaaDoor
set_option linter.unusedSimpArgs false
set_option linter.unusedVariables false
open Go.RowKit
attribute [local irreducible] tpb
attribute [local irreducible] WK WC WL Wk Rel OpD OpV WD WO Op.bytesLess cmp vk vb vld emp contains
attribute [local irreducible] qchk qranges qtk union pfx tvalid
def Zs (l : List Int) : Prop := l.length ≤ 9223372036854775807 ∧ ∀ z ∈ l, -9223372036854775808 ≤ z ∧ z ≤ 9223372036854775807
set_option maxHeartbeats 4000000 in
set_option maxRecDepth 100000 in
theorem checks_s (L : List Int) (hL : Zs L) (k c : Int) (l : List Rng) (key : ByteArray) : Spec Tryd.prog 3 [.d (i64s L), vQ k l key c] [] fun u h => u = vB true ∧ h = [] := by
  refine Spec.intro Tryd.func3 rfl rfl Tryd.ntmps3 Tryd.results3 rfl fun B w0 ρ0 => ?_; simp only [slots, List.map_nil, List.map_cons, Nat.reduceAdd]
  (repeat' (first | (refine wl_new hL.1 hL.2 rfl rfl rfl rfl rfl rfl rfl rfl ?_; intro τ) | refine sw ?_ | refine wc_draw (id := 5) [⟨0, 0, [6]⟩, ⟨1, 1, [19]⟩, ⟨2, 3, [20]⟩, ⟨3, 7, [21]⟩, ⟨4, 15, [7, 22]⟩, ⟨6, 15, [7, 22]⟩, ⟨5, 31, [22, 23]⟩, ⟨7, 127, [22, 25]⟩, ⟨8, 255, [22, 24, 26]⟩, ⟨9, 511, [22, 27]⟩, ⟨10, 1023, [28]⟩, ⟨11, 2047, [3, 29]⟩, ⟨13, 2047, [3, 29]⟩, ⟨12, 4095, [29, 30]⟩, ⟨14, 16383, [29, 32]⟩, ⟨15, 32767, [29, 31, 33]⟩, ⟨16, 65535, [29, 34]⟩, ⟨17, 131071, [35]⟩, ⟨18, 262143, [36]⟩, ⟨19, 524287, [36, 37]⟩, ⟨20, 1048575, [38]⟩] mixed (by kernel_rfl) ?_ | (refine swt ?_; intro x τ hx) | (refine sp ?_ ?_ <;> (intro h; (first | (have h2 : (_ : Bool) = _ := h; clear h2; subst h) | skip); (try simp only [decide_eq_true_eq, decide_eq_false_iff_not, Bool.not_eq_true', Bool.not_eq_false', Kv.eta, Bnd.eta, Rng.eta, tn_sub1] at h); (first | (have h2 : (_ : Bool) = _ := h; clear h2; subst h) | skip))) | fail))
  all_goals (first | refine wk_pure rfl (by first | exact trivial | exact resT_cell rfl rfl (by exact inferInstance) trivial) rfl (by first | exact Vw.fmp rfl rfl rfl | exact Vw.nil | exact Vw.d _ | (repeat (first | exact Vws.nil | apply Vws.cons | exact Vw.nil | exact Vw.d _ | apply Vw.a | apply Vw.t | exact Vw.fh rfl rfl (vws_dm _) | exact Vw.fh rfl rfl Vws.nil)); done) ?_ | refine wk_pure_n rfl (by first | exact trivial | exact resT_cell rfl rfl (by exact inferInstance) trivial) rfl (by first | exact Vw.fmp rfl rfl rfl | exact Vw.nil | exact Vw.d _ | (repeat (first | exact Vws.nil | apply Vws.cons | exact Vw.nil | exact Vw.d _ | apply Vw.a | apply Vw.t | exact Vw.fh rfl rfl (vws_dm _) | exact Vw.fh rfl rfl Vws.nil)); done) ?_)
  all_goals (refine ⟨?_, rfl⟩; first | rfl | (exfalso; simp_all))
end Go.Proofs.YtjnnkpkbgdknmaaDoor
