/-
  QueryTakes: for every input the law returns true, and each argument reads afterwards as it read before; package variable letters as the program's text lays it.
-/
import Derived.Test.YtjnnkpkbgdknmaaDoorB6
import Derived.Test.YtjnnkpkbgdknmaaDoorB8
import Derived.Test.YtjnnkpkbgdknmaaDoorB9
namespace Go.Proofs.YtjnnkpkbgdknmaaDoor
set_option linter.unusedSimpArgs false
set_option linter.unusedVariables false
open Go.ChangeShapes Go.WideShapes Go.ChangeAt Go.RowKit Go.Joins
set_option maxRecDepth 100000
theorem flat2 {α : Type} {f g : α → Value} : ∀ {l : List α} {j : Nat} {u : Value}, (l.flatMap fun r => [f r, g r])[j]? = some u → ∃ i r, l[i]? = some r ∧ ((j = i * 2 + 0 ∧ u = f r) ∨ (j = i * 2 + 1 ∧ u = g r))
  | [], j, u, h => by simp at h
  | a :: l, 0, u, h => ⟨0, a, rfl, .inl ⟨rfl, by simpa using h.symm⟩⟩
  | a :: l, 1, u, h => ⟨0, a, rfl, .inr ⟨rfl, by simpa using h.symm⟩⟩
  | a :: l, j + 2, u, h => by
    obtain ⟨i, r, h1, h2⟩ := flat2 (l := l) (j := j) (u := u) (by simpa using h)
    refine ⟨i + 1, r, by simpa using h1, ?_⟩
    rcases h2 with ⟨rfl, e⟩ | ⟨rfl, e⟩
    · exact .inl ⟨by omega, e⟩
    · exact .inr ⟨by omega, e⟩
abbrev kvals (l : List Kv) : List Value := l.flatMap fun r => [.string r.key, .string r.val]
theorem kvals_rds {W : World} {ok : Nat → Prop} : ∀ l : List Kv, RDs W ok (l.flatMap Kv.ds) (kvals l)
  | [] => .nil
  | _ :: l => .cons (.c rfl) (.cons (.c rfl) (kvals_rds l))
section
variable {H : Type} {enc : TypeId × Value → H} {W : World} {base : Nat}
theorem trod_kv {fuel : Nat} {cs : List Value} {x : DataW H × List MemPlace} (h : DataW.trod enc Tryd.prog W 0 (fun _ => true) true fuel 59 cs = some x) : ∃ r : Kv, cs = [.string r.key, .string r.val] := by
  obtain ⟨y0, y1, n, -, hl, h0, h1⟩ := trod_struct2 Tryd.underlying59 h
  obtain ⟨a, e0, -, ha⟩ := DataW.trod_string Tryd.underlying9 h0
  obtain ⟨s, e1, -⟩ := DataW.trod_string Tryd.underlying9 h1
  have hc : Tryd.prog.cellsOf 59 = 2 := by kernel_rfl
  have hs : Tryd.prog.cellsOf 9 = 1 := by kernel_rfl
  rw [hc] at hl
  match cs, hl with
  | [c0, c1], _ =>
    simp only [hs, List.drop_zero, List.drop_succ_cons, List.take_succ_cons, List.take_zero, List.cons.injEq, and_true] at e0 e1
    subst e0 e1
    exact ⟨⟨a, s⟩, rfl⟩
theorem rows_of {v : Value} {d : DataW H} {ps : List MemPlace} (hv : Value.okWide Tryd.prog W .any base 33 v) (h : DataW.Trod enc Tryd.prog W 0 (fun _ => true) true 33 v d ps) : ∃ l : List Kv, True ∧ RD W (fun b => b < W.heap.size) (rows l) v := by
  obtain ⟨a0, len0, cap0, rfl⟩ := okWide_slice Tryd.underlying33 hv
  obtain ⟨fuel, hf⟩ := h
  have hc4 : Tryd.prog.cellsOf 59 = 2 := by kernel_rfl
  rcases Go.Deep.open_slice Tryd.underlying33 hf with ⟨hcs, -⟩ | ⟨a, len', cap', m, k, D, Pl, hcs, -, hl, -, hm, -, hx⟩
  · simp only [Value.cells, List.cons.injEq, Value.slice.injEq, and_true] at hcs
    obtain ⟨rfl, rfl, rfl⟩ := hcs
    exact ⟨[], trivial, RD.nil _ _⟩
  · simp only [Value.cells, List.cons.injEq, Value.slice.injEq, and_true] at hcs
    obtain ⟨rfl, rfl, rfl⟩ := hcs
    rw [hc4] at hx
    have hm' : m = cap0 := by simpa using hm
    subst hm'
    have each : ∀ i, ∃ r : Kv, i < m → W.cell? (a.add (i * 2 + 0)) = some (.string r.key) ∧ W.cell? (a.add (i * 2 + 1)) = some (.string r.val) := by
      intro i
      by_cases hi : i < m
      · obtain ⟨cs, h1, h2⟩ := hx i hi
        obtain ⟨r, rfl⟩ := trod_kv h2
        obtain ⟨-, -, hcell⟩ := World.cells?_some h1
        refine ⟨r, fun _ => ⟨?_, ?_⟩⟩
        · rw [← Go.Deep.add_add, hcell 0 (by omega)]; rfl
        · rw [← Go.Deep.add_add, hcell 1 (by omega)]; rfl
      · exact ⟨⟨⟨#[]⟩, ⟨#[]⟩⟩, fun h => absurd h hi⟩
    let f : Nat → Kv := fun i => Classical.choose (each i)
    have hfe : ∀ i, i < m → W.cell? (a.add (i * 2 + 0)) = some (.string (f i).key) ∧ W.cell? (a.add (i * 2 + 1)) = some (.string (f i).val) := fun i => Classical.choose_spec (each i)
    by_cases h0 : len0 = 0
    · subst h0
      exact ⟨[], trivial, RD.nil _ _⟩
    obtain ⟨b, off, spot⟩ := a
    have hc0 := (hfe 0 (by omega)).1
    have hspot : spot = none := by simpa [Addr.add] using World.cell?_spot hc0
    subst hspot
    refine ⟨(List.range len0).map f, trivial, ?_⟩
    rw [show rows ((List.range len0).map f) = .l len0 (((List.range len0).map f).flatMap Kv.ds) by unfold rows lst; rw [List.length_map, List.length_range]]
    refine RD.l hl (World.block_lt_of_cell? W ⟨b, off + (0 * 2 + 0), none⟩ (by rw [← Go.WideShapes.add_plain]; exact hc0)) (kvals_rds _) fun j u hj => ?_
    obtain ⟨i, r, h1, h2⟩ := flat2 hj
    have hi : i < len0 := by have := (List.getElem?_eq_some_iff.1 h1).1; simpa using this
    rw [List.getElem?_map, List.getElem?_range hi] at h1
    obtain rfl := Option.some.inj h1
    have hh := hfe i (by omega)
    rw [← Go.WideShapes.add_plain]
    rcases h2 with ⟨rfl, rfl⟩ | ⟨rfl, rfl⟩
    · exact hh.1
    · exact hh.2
theorem int_of {v : Value} {d : DataW H} {ps : List MemPlace} (hv : Value.okWide Tryd.prog W .any base 3 v) (h : DataW.Trod enc Tryd.prog W 0 (fun _ => true) true 3 v d ps) : ∃ s : Int, v = .int .i64 s ∧ (Lit.int .i64 s).wf = true := by
  obtain ⟨s, rfl⟩ := okWide_int Tryd.underlying3 hv
  obtain ⟨fuel, h⟩ := h
  obtain ⟨n, e, -, hn⟩ := DataW.trod_int Tryd.underlying3 h
  simp [Value.cells] at e
  subst e
  exact ⟨s, rfl, hn⟩
end
end Go.Proofs.YtjnnkpkbgdknmaaDoor
namespace Go.Proofs.YtjnnkpkbgdknmaaDoor
set_option linter.unusedSimpArgs false
set_option linter.unusedVariables false
open Go.RowKit
attribute [local irreducible] tpb
def dsD (d : D) : List D := [d]
instance : Len dsD 1 := ⟨fun _ => rfl⟩
instance (priority := high) takeN_p (k c : Int) (l : List Rng) (key : ByteArray) : Ct Tryd.prog 32 [vQ k l key c, .d (.l 0 [])] True (.d (rows (qtk k c []))) := ⟨fun _ => (take_p k c l key []).out (by simp)⟩
instance (priority := high) takeN_r (k c : Int) (l : List Rng) (key : ByteArray) : Ct Tryd.prog 33 [vQ k l key c, .d (.l 0 [])] True (.d (rows (qtk k c []))) := ⟨fun _ => (take_r k c l key []).out (by simp)⟩
theorem qtk_le (k c : Int) (r : List Kv) : (qtk k c r).length ≤ r.length := by
  unfold qtk
  split
  · simp only [List.length_take]; omega
  split
  · simp only [List.length_drop]; omega
  · exact Nat.le_refl _
attribute [local irreducible] WK WC WL Wk Rel OpD OpV WD WO Op.bytesLess cmp vk vb vld emp contains
attribute [local irreducible] qchk qranges qtk union pfx tvalid
set_option maxHeartbeats 4000000 in
set_option maxRecDepth 100000 in
theorem takes_s (L : List Int) (hL : Zs L) (k c : Int) (l : List Rng) (key : ByteArray) (t : List Kv) (n : Int) : Spec Tryd.prog 8 [vQ k l key c, .d (rows t), .d (i64s L), vI n] [] fun u h => u = vB true ∧ h = [] := by
  refine Spec.intro Tryd.func8 rfl rfl Tryd.ntmps8 Tryd.results8 rfl fun B w0 ρ0 => ?_; simp only [slots, List.map_nil, List.map_cons, Nat.reduceAdd]
  (repeat' (first | (refine wl_new hL.1 hL.2 rfl rfl rfl rfl rfl rfl rfl rfl ?_; intro τ) | refine wd_bt Qa.ds [_, _, ⟨k, l, key, c⟩] rfl rfl (by simp only [flatV, cellsV, List.cons_append, List.nil_append, List.append_nil]; exact rfl) rfl rfl rfl rfl (by first | exact .no rfl | exact .y rfl rfl rfl rfl) rfl rfl ?_ | refine sw ?_ | refine wc_draw (id := 4) [⟨0, 0, [9]⟩, ⟨2, 0, [9]⟩, ⟨4, 0, [4]⟩, ⟨7, 0, []⟩, ⟨1, 1, [28]⟩, ⟨3, 7, [30]⟩, ⟨5, 31, [29, 31, 32]⟩, ⟨6, 63, [33]⟩] mixed (by kernel_rfl) ?_ | refine wc_draw (id := 10) [⟨0, 0, [11]⟩, ⟨1, 0, [13]⟩, ⟨3, 0, [11]⟩, ⟨4, 0, [13]⟩, ⟨2, 3, [48, 49]⟩, ⟨5, 31, [51, 52]⟩, ⟨6, 63, [50, 53]⟩, ⟨7, 127, [54]⟩] mixed (by kernel_rfl) ?_ | refine wc_draw (id := 16) [⟨0, 0, [11]⟩, ⟨1, 0, [15]⟩, ⟨3, 0, [11]⟩, ⟨4, 0, [15]⟩, ⟨2, 3, [69, 70]⟩, ⟨5, 31, [72, 73]⟩, ⟨6, 63, [71, 74]⟩] mixed (by kernel_rfl) ?_ | (refine swt ?_; intro x τ hx) | (refine sp ?_ ?_ <;> (intro h; (first | (have h2 : (_ : Bool) = _ := h; clear h2; subst h) | skip); (try simp only [decide_eq_true_eq, decide_eq_false_iff_not, Bool.not_eq_true', Bool.not_eq_false', Kv.eta, Bnd.eta, Rng.eta, tn_sub1] at h); (first | (have h2 : (_ : Bool) = _ := h; clear h2; subst h) | skip))) | fail))
  · (first | refine wk_pure rfl (by first | exact trivial | exact resT_cell rfl rfl (by exact inferInstance) trivial) rfl (by first | exact Vw.fmp rfl rfl rfl | exact Vw.nil | exact Vw.d _ | (repeat (first | exact Vws.nil | apply Vws.cons | exact Vw.nil | exact Vw.d _ | apply Vw.a | apply Vw.t | exact Vw.fh rfl rfl (vws_dm _) | exact Vw.fh rfl rfl Vws.nil)); done) ?_ | refine wk_pure_n rfl (by first | exact trivial | exact resT_cell rfl rfl (by exact inferInstance) trivial) rfl (by first | exact Vw.fmp rfl rfl rfl | exact Vw.nil | exact Vw.d _ | (repeat (first | exact Vws.nil | apply Vws.cons | exact Vw.nil | exact Vw.d _ | apply Vw.a | apply Vw.t | exact Vw.fh rfl rfl (vws_dm _) | exact Vw.fh rfl rfl Vws.nil)); done) ?_)
    exact ⟨rfl, rfl⟩
  · (first | refine wk_pure rfl (by first | exact trivial | exact resT_cell rfl rfl (by exact inferInstance) trivial) rfl (by first | exact Vw.fmp rfl rfl rfl | exact Vw.nil | exact Vw.d _ | (repeat (first | exact Vws.nil | apply Vws.cons | exact Vw.nil | exact Vw.d _ | apply Vw.a | apply Vw.t | exact Vw.fh rfl rfl (vws_dm _) | exact Vw.fh rfl rfl Vws.nil)); done) ?_ | refine wk_pure_n rfl (by first | exact trivial | exact resT_cell rfl rfl (by exact inferInstance) trivial) rfl (by first | exact Vw.fmp rfl rfl rfl | exact Vw.nil | exact Vw.d _ | (repeat (first | exact Vws.nil | apply Vws.cons | exact Vw.nil | exact Vw.d _ | apply Vw.a | apply Vw.t | exact Vw.fh rfl rfl (vws_dm _) | exact Vw.fh rfl rfl Vws.nil)); done) ?_)
    exact ⟨rfl, rfl⟩
  rename_i x1 τ1 hx1
  generalize hes : [x1, x, ⟨k, l, key, c⟩] = es
  have hel : es.length = 3 := by rw [← hes]; rfl
  refine wc_loop (fun κ st => ∃ (m : Nat) (τ : Tape), κ = es.length - m ∧ (m ≤ es.length) ∧ st = ⟨[(1, .d (rows t)), (3, vI n), (9, .p 1001 0), (33, .d (lst Qa.ds es)), (34, vI es.length), (35, vI (m : Int))], [(1001, some (tpb τ))]⟩) (es.length - (0)) ⟨[(1, .d (rows t)), (3, vI n), (9, .p 1001 0), (33, .d (lst Qa.ds es)), (34, vI es.length), (35, vI ((0) : Int))], [(1001, some (tpb (τ)))]⟩ (wk [(1001, 1001)] rfl rfl rfl rfl (by repeat (first | refine VH.cons rfl rfl vb_tpb ?_ | refine VH.cons rfl rfl (Vb.ob _) ?_ | exact VS.nil | exact VH.nil | exact Vws.nil | refine VS.cons rfl ?_ ?_ | refine VH.cons rfl rfl (Vb.box ?_) ?_ | refine VH.cons rfl rfl (Vb.arr ?_) ?_ | exact vws_dm _ | refine Vws.cons ?_ ?_ | exact Vw.d _ | exact Vw.p rfl | exact Vw.h rfl | exact Vw.e rfl | exact Vw.s rfl | exact Vw.q _ | refine Vw.a ?_ | refine Vw.t ?_ | exact Vw.nil | exact Vw.fh rfl rfl (vws_dm _) | exact Vw.un _)) (by repeat (first | refine VH.cons rfl rfl vb_tpb ?_ | refine VH.cons rfl rfl (Vb.ob _) ?_ | exact VS.nil | exact VH.nil | exact Vws.nil | refine VS.cons rfl ?_ ?_ | refine VH.cons rfl rfl (Vb.box ?_) ?_ | refine VH.cons rfl rfl (Vb.arr ?_) ?_ | exact vws_dm _ | refine Vws.cons ?_ ?_ | exact Vw.d _ | exact Vw.p rfl | exact Vw.h rfl | exact Vw.e rfl | exact Vw.s rfl | exact Vw.q _ | refine Vw.a ?_ | refine Vw.t ?_ | exact Vw.nil | exact Vw.fh rfl rfl (vws_dm _) | exact Vw.un _))) ⟨0, τ, rfl, ?_, rfl⟩ ?_; rotate_left; rintro κ _ ⟨m, τ, rfl, hP, rfl⟩; rotate_left
  · omega
  by_cases hlt : m < es.length
  · (repeat' (first | refine wl_r (o_ixe rfl rfl rfl Len.len rfl (by omega) (by simp only [Qa.ds]; exact rfl)) rfl rfl rfl ?_ | refine wl_bt dsD [_, _, _] rfl rfl (by simp only [flatV, cellsV, List.cons_append, List.nil_append, List.append_nil]; exact rfl) rfl rfl rfl rfl rfl rfl ?_ | refine sw ?_ | refine wc_draw (id := 4) [⟨0, 0, [9]⟩, ⟨2, 0, [9]⟩, ⟨4, 0, [4]⟩, ⟨7, 0, []⟩, ⟨1, 1, [28]⟩, ⟨3, 7, [30]⟩, ⟨5, 31, [29, 31, 32]⟩, ⟨6, 63, [33]⟩] mixed (by kernel_rfl) ?_ | refine wc_draw (id := 10) [⟨0, 0, [11]⟩, ⟨1, 0, [13]⟩, ⟨3, 0, [11]⟩, ⟨4, 0, [13]⟩, ⟨2, 3, [48, 49]⟩, ⟨5, 31, [51, 52]⟩, ⟨6, 63, [50, 53]⟩, ⟨7, 127, [54]⟩] mixed (by kernel_rfl) ?_ | refine wc_draw (id := 16) [⟨0, 0, [11]⟩, ⟨1, 0, [15]⟩, ⟨3, 0, [11]⟩, ⟨4, 0, [15]⟩, ⟨2, 3, [69, 70]⟩, ⟨5, 31, [72, 73]⟩, ⟨6, 63, [71, 74]⟩] mixed (by kernel_rfl) ?_ | (refine swt ?_; intro x τ hx) | (refine sp ?_ ?_ <;> (intro h; (first | (have h2 : (_ : Bool) = _ := h; clear h2; subst h) | skip); (try simp only [decide_eq_true_eq, decide_eq_false_iff_not, Bool.not_eq_true', Bool.not_eq_false', Kv.eta, Bnd.eta, Rng.eta, tn_sub1] at h); (first | (have h2 : (_ : Bool) = _ := h; clear h2; subst h) | skip))) | fail))
    rotate_left
    · exfalso; omega
    obtain ⟨hx0, hx6⟩ := hx
    have g1 : (qtk es[m].k es[m].c t).length ≤ 60 := Nat.le_trans (qtk_le _ _ _) (by omega)
    have g2 : (qtk es[m].k es[m].c x).length ≤ 60 := Nat.le_trans (qtk_le _ _ _) (by omega)
    have g3 : (qtk es[m].k es[m].c []).length ≤ 60 := Nat.le_trans (qtk_le _ _ _) (by simp)
    refine wc_loop (fun κ st => ∃ (j : Nat), κ = 3 - j ∧ (j ≤ 3) ∧ st = ⟨[(1, .d (rows t)), (3, vI n), (9, .p 1001 0), (11, .p 111 0), (33, .d (lst Qa.ds es)), (34, vI es.length), (35, vI (m : Int)), (42, .d (lst dsD [rows t, rows x, .c (.slice none 0 0)])), (43, vI 3), (44, vI (j : Int))], [(1001, some (tpb τ)), (111, some (.box 25 [vI es[m].k, .d (lst Rng.ds es[m].l), vS es[m].key, vI es[m].c]))]⟩) (3 - (0)) ⟨[(1, .d (rows t)), (3, vI n), (9, .p 1001 0), (11, .p 111 0), (33, .d (lst Qa.ds es)), (34, vI es.length), (35, vI (m : Int)), (42, .d (lst dsD [rows t, rows x, .c (.slice none 0 0)])), (43, vI 3), (44, vI ((0) : Int))], [(1001, some (tpb τ)), (111, some (.box 25 [vI es[m].k, .d (lst Rng.ds es[m].l), vS es[m].key, vI es[m].c]))]⟩ (wk [(1001, 1001), (111, 111)] rfl rfl rfl rfl (by repeat (first | refine VH.cons rfl rfl vb_tpb ?_ | refine VH.cons rfl rfl (Vb.ob _) ?_ | exact VS.nil | exact VH.nil | exact Vws.nil | refine VS.cons rfl ?_ ?_ | refine VH.cons rfl rfl (Vb.box ?_) ?_ | refine VH.cons rfl rfl (Vb.arr ?_) ?_ | exact vws_dm _ | refine Vws.cons ?_ ?_ | exact Vw.d _ | exact Vw.p rfl | exact Vw.h rfl | exact Vw.e rfl | exact Vw.s rfl | exact Vw.q _ | refine Vw.a ?_ | refine Vw.t ?_ | exact Vw.nil | exact Vw.fh rfl rfl (vws_dm _) | exact Vw.un _)) (by repeat (first | refine VH.cons rfl rfl vb_tpb ?_ | refine VH.cons rfl rfl (Vb.ob _) ?_ | exact VS.nil | exact VH.nil | exact Vws.nil | refine VS.cons rfl ?_ ?_ | refine VH.cons rfl rfl (Vb.box ?_) ?_ | refine VH.cons rfl rfl (Vb.arr ?_) ?_ | exact vws_dm _ | refine Vws.cons ?_ ?_ | exact Vw.d _ | exact Vw.p rfl | exact Vw.h rfl | exact Vw.e rfl | exact Vw.s rfl | exact Vw.q _ | refine Vw.a ?_ | refine Vw.t ?_ | exact Vw.nil | exact Vw.fh rfl rfl (vws_dm _) | exact Vw.un _))) ⟨0, rfl, ?_, rfl⟩ ?_; rotate_left; rintro κ _ ⟨j, rfl, hP, rfl⟩; rotate_left
    · omega
    by_cases hj : j < 3
    · rcases (by omega : j = 0 ∨ j = 1 ∨ j = 2) with rfl | rfl | rfl
      · (repeat' (first | refine wl_r (o_ixe (m := 0) rfl rfl rfl Len.len rfl (by simp) (by simp only [dsD, List.getElem_cons_zero, List.getElem_cons_succ]; exact rfl)) rfl rfl rfl ?_ | refine sw ?_ | refine wc_draw (id := 4) [⟨0, 0, [9]⟩, ⟨2, 0, [9]⟩, ⟨4, 0, [4]⟩, ⟨7, 0, []⟩, ⟨1, 1, [28]⟩, ⟨3, 7, [30]⟩, ⟨5, 31, [29, 31, 32]⟩, ⟨6, 63, [33]⟩] mixed (by kernel_rfl) ?_ | refine wc_draw (id := 10) [⟨0, 0, [11]⟩, ⟨1, 0, [13]⟩, ⟨3, 0, [11]⟩, ⟨4, 0, [13]⟩, ⟨2, 3, [48, 49]⟩, ⟨5, 31, [51, 52]⟩, ⟨6, 63, [50, 53]⟩, ⟨7, 127, [54]⟩] mixed (by kernel_rfl) ?_ | refine wc_draw (id := 16) [⟨0, 0, [11]⟩, ⟨1, 0, [15]⟩, ⟨3, 0, [11]⟩, ⟨4, 0, [15]⟩, ⟨2, 3, [69, 70]⟩, ⟨5, 31, [72, 73]⟩, ⟨6, 63, [71, 74]⟩] mixed (by kernel_rfl) ?_ | (refine swt ?_; intro x τ hx) | (refine sp ?_ ?_ <;> (intro h; (first | (have h2 : (_ : Bool) = _ := h; clear h2; subst h) | skip); (try simp only [decide_eq_true_eq, decide_eq_false_iff_not, Bool.not_eq_true', Bool.not_eq_false', Kv.eta, Bnd.eta, Rng.eta, tn_sub1] at h); (first | (have h2 : (_ : Bool) = _ := h; clear h2; subst h) | skip))) | fail))
        all_goals first
          | (exfalso; omega)
          | (exfalso; simp at h; done)
          | (refine wk_loop_n (3 - (1)) (st' := ⟨[(1, .d (rows t)), (3, vI n), (9, .p 1001 0), (11, .p 111 0), (33, .d (lst Qa.ds es)), (34, vI es.length), (35, vI (m : Int)), (42, .d (lst dsD [rows t, rows x, .c (.slice none 0 0)])), (43, vI 3), (44, vI ((1) : Int))], [(1001, some (tpb τ)), (111, some (.box 25 [vI es[m].k, .d (lst Rng.ds es[m].l), vS es[m].key, vI es[m].c]))]⟩) (wk [(1001, 1001), (111, 111)] rfl rfl rfl rfl (by repeat (first | refine VH.cons rfl rfl vb_tpb ?_ | refine VH.cons rfl rfl (Vb.ob _) ?_ | exact VS.nil | exact VH.nil | exact Vws.nil | refine VS.cons rfl ?_ ?_ | refine VH.cons rfl rfl (Vb.box ?_) ?_ | refine VH.cons rfl rfl (Vb.arr ?_) ?_ | exact vws_dm _ | refine Vws.cons ?_ ?_ | exact Vw.d _ | exact Vw.p rfl | exact Vw.h rfl | exact Vw.e rfl | exact Vw.s rfl | exact Vw.q _ | refine Vw.a ?_ | refine Vw.t ?_ | exact Vw.nil | exact Vw.fh rfl rfl (vws_dm _) | exact Vw.un _)) (by repeat (first | refine VH.cons rfl rfl vb_tpb ?_ | refine VH.cons rfl rfl (Vb.ob _) ?_ | exact VS.nil | exact VH.nil | exact Vws.nil | refine VS.cons rfl ?_ ?_ | refine VH.cons rfl rfl (Vb.box ?_) ?_ | refine VH.cons rfl rfl (Vb.arr ?_) ?_ | exact vws_dm _ | refine Vws.cons ?_ ?_ | exact Vw.d _ | exact Vw.p rfl | exact Vw.h rfl | exact Vw.e rfl | exact Vw.s rfl | exact Vw.q _ | refine Vw.a ?_ | refine Vw.t ?_ | exact Vw.nil | exact Vw.fh rfl rfl (vws_dm _) | exact Vw.un _))) ?_ ⟨1, rfl, ?_, rfl⟩ <;> omega)
          | skip
      · (repeat' (first | refine wl_r (o_ixe (m := 1) rfl rfl rfl Len.len rfl (by simp) (by simp only [dsD, List.getElem_cons_zero, List.getElem_cons_succ]; exact rfl)) rfl rfl rfl ?_ | refine sw ?_ | refine wc_draw (id := 4) [⟨0, 0, [9]⟩, ⟨2, 0, [9]⟩, ⟨4, 0, [4]⟩, ⟨7, 0, []⟩, ⟨1, 1, [28]⟩, ⟨3, 7, [30]⟩, ⟨5, 31, [29, 31, 32]⟩, ⟨6, 63, [33]⟩] mixed (by kernel_rfl) ?_ | refine wc_draw (id := 10) [⟨0, 0, [11]⟩, ⟨1, 0, [13]⟩, ⟨3, 0, [11]⟩, ⟨4, 0, [13]⟩, ⟨2, 3, [48, 49]⟩, ⟨5, 31, [51, 52]⟩, ⟨6, 63, [50, 53]⟩, ⟨7, 127, [54]⟩] mixed (by kernel_rfl) ?_ | refine wc_draw (id := 16) [⟨0, 0, [11]⟩, ⟨1, 0, [15]⟩, ⟨3, 0, [11]⟩, ⟨4, 0, [15]⟩, ⟨2, 3, [69, 70]⟩, ⟨5, 31, [72, 73]⟩, ⟨6, 63, [71, 74]⟩] mixed (by kernel_rfl) ?_ | (refine swt ?_; intro x τ hx) | (refine sp ?_ ?_ <;> (intro h; (first | (have h2 : (_ : Bool) = _ := h; clear h2; subst h) | skip); (try simp only [decide_eq_true_eq, decide_eq_false_iff_not, Bool.not_eq_true', Bool.not_eq_false', Kv.eta, Bnd.eta, Rng.eta, tn_sub1] at h); (first | (have h2 : (_ : Bool) = _ := h; clear h2; subst h) | skip))) | fail))
        all_goals first
          | (exfalso; omega)
          | (exfalso; simp at h; done)
          | (refine wk_loop_n (3 - (2)) (st' := ⟨[(1, .d (rows t)), (3, vI n), (9, .p 1001 0), (11, .p 111 0), (33, .d (lst Qa.ds es)), (34, vI es.length), (35, vI (m : Int)), (42, .d (lst dsD [rows t, rows x, .c (.slice none 0 0)])), (43, vI 3), (44, vI ((2) : Int))], [(1001, some (tpb τ)), (111, some (.box 25 [vI es[m].k, .d (lst Rng.ds es[m].l), vS es[m].key, vI es[m].c]))]⟩) (wk [(1001, 1001), (111, 111)] rfl rfl rfl rfl (by repeat (first | refine VH.cons rfl rfl vb_tpb ?_ | refine VH.cons rfl rfl (Vb.ob _) ?_ | exact VS.nil | exact VH.nil | exact Vws.nil | refine VS.cons rfl ?_ ?_ | refine VH.cons rfl rfl (Vb.box ?_) ?_ | refine VH.cons rfl rfl (Vb.arr ?_) ?_ | exact vws_dm _ | refine Vws.cons ?_ ?_ | exact Vw.d _ | exact Vw.p rfl | exact Vw.h rfl | exact Vw.e rfl | exact Vw.s rfl | exact Vw.q _ | refine Vw.a ?_ | refine Vw.t ?_ | exact Vw.nil | exact Vw.fh rfl rfl (vws_dm _) | exact Vw.un _)) (by repeat (first | refine VH.cons rfl rfl vb_tpb ?_ | refine VH.cons rfl rfl (Vb.ob _) ?_ | exact VS.nil | exact VH.nil | exact Vws.nil | refine VS.cons rfl ?_ ?_ | refine VH.cons rfl rfl (Vb.box ?_) ?_ | refine VH.cons rfl rfl (Vb.arr ?_) ?_ | exact vws_dm _ | refine Vws.cons ?_ ?_ | exact Vw.d _ | exact Vw.p rfl | exact Vw.h rfl | exact Vw.e rfl | exact Vw.s rfl | exact Vw.q _ | refine Vw.a ?_ | refine Vw.t ?_ | exact Vw.nil | exact Vw.fh rfl rfl (vws_dm _) | exact Vw.un _))) ?_ ⟨2, rfl, ?_, rfl⟩ <;> omega)
          | skip
      · (repeat' (first | refine wl_r (o_ixe (m := 2) rfl rfl rfl Len.len rfl (by simp) (by simp only [dsD, List.getElem_cons_zero, List.getElem_cons_succ]; exact rfl)) rfl rfl rfl ?_ | refine sw ?_ | refine wc_draw (id := 4) [⟨0, 0, [9]⟩, ⟨2, 0, [9]⟩, ⟨4, 0, [4]⟩, ⟨7, 0, []⟩, ⟨1, 1, [28]⟩, ⟨3, 7, [30]⟩, ⟨5, 31, [29, 31, 32]⟩, ⟨6, 63, [33]⟩] mixed (by kernel_rfl) ?_ | refine wc_draw (id := 10) [⟨0, 0, [11]⟩, ⟨1, 0, [13]⟩, ⟨3, 0, [11]⟩, ⟨4, 0, [13]⟩, ⟨2, 3, [48, 49]⟩, ⟨5, 31, [51, 52]⟩, ⟨6, 63, [50, 53]⟩, ⟨7, 127, [54]⟩] mixed (by kernel_rfl) ?_ | refine wc_draw (id := 16) [⟨0, 0, [11]⟩, ⟨1, 0, [15]⟩, ⟨3, 0, [11]⟩, ⟨4, 0, [15]⟩, ⟨2, 3, [69, 70]⟩, ⟨5, 31, [72, 73]⟩, ⟨6, 63, [71, 74]⟩] mixed (by kernel_rfl) ?_ | (refine swt ?_; intro x τ hx) | (refine sp ?_ ?_ <;> (intro h; (first | (have h2 : (_ : Bool) = _ := h; clear h2; subst h) | skip); (try simp only [decide_eq_true_eq, decide_eq_false_iff_not, Bool.not_eq_true', Bool.not_eq_false', Kv.eta, Bnd.eta, Rng.eta, tn_sub1] at h); (first | (have h2 : (_ : Bool) = _ := h; clear h2; subst h) | skip))) | fail))
        all_goals first
          | (exfalso; omega)
          | (exfalso; simp at h; done)
          | (refine wk_loop_n (3 - (3)) (st' := ⟨[(1, .d (rows t)), (3, vI n), (9, .p 1001 0), (11, .p 111 0), (33, .d (lst Qa.ds es)), (34, vI es.length), (35, vI (m : Int)), (42, .d (lst dsD [rows t, rows x, .c (.slice none 0 0)])), (43, vI 3), (44, vI ((3) : Int))], [(1001, some (tpb τ)), (111, some (.box 25 [vI es[m].k, .d (lst Rng.ds es[m].l), vS es[m].key, vI es[m].c]))]⟩) (wk [(1001, 1001), (111, 111)] rfl rfl rfl rfl (by repeat (first | refine VH.cons rfl rfl vb_tpb ?_ | refine VH.cons rfl rfl (Vb.ob _) ?_ | exact VS.nil | exact VH.nil | exact Vws.nil | refine VS.cons rfl ?_ ?_ | refine VH.cons rfl rfl (Vb.box ?_) ?_ | refine VH.cons rfl rfl (Vb.arr ?_) ?_ | exact vws_dm _ | refine Vws.cons ?_ ?_ | exact Vw.d _ | exact Vw.p rfl | exact Vw.h rfl | exact Vw.e rfl | exact Vw.s rfl | exact Vw.q _ | refine Vw.a ?_ | refine Vw.t ?_ | exact Vw.nil | exact Vw.fh rfl rfl (vws_dm _) | exact Vw.un _)) (by repeat (first | refine VH.cons rfl rfl vb_tpb ?_ | refine VH.cons rfl rfl (Vb.ob _) ?_ | exact VS.nil | exact VH.nil | exact Vws.nil | refine VS.cons rfl ?_ ?_ | refine VH.cons rfl rfl (Vb.box ?_) ?_ | refine VH.cons rfl rfl (Vb.arr ?_) ?_ | exact vws_dm _ | refine Vws.cons ?_ ?_ | exact Vw.d _ | exact Vw.p rfl | exact Vw.h rfl | exact Vw.e rfl | exact Vw.s rfl | exact Vw.q _ | refine Vw.a ?_ | refine Vw.t ?_ | exact Vw.nil | exact Vw.fh rfl rfl (vws_dm _) | exact Vw.un _))) ?_ ⟨3, rfl, ?_, rfl⟩ <;> omega)
          | skip
    · (repeat' (first | refine wl_r (o_ixe (m := 2) rfl rfl rfl Len.len rfl (by simp) (by simp only [dsD, List.getElem_cons_zero, List.getElem_cons_succ]; exact rfl)) rfl rfl rfl ?_ | refine wl_r (o_sub rfl rfl rfl rfl) rfl rfl rfl ?_ | refine sw ?_ | refine wc_draw (id := 4) [⟨0, 0, [9]⟩, ⟨2, 0, [9]⟩, ⟨4, 0, [4]⟩, ⟨7, 0, []⟩, ⟨1, 1, [28]⟩, ⟨3, 7, [30]⟩, ⟨5, 31, [29, 31, 32]⟩, ⟨6, 63, [33]⟩] mixed (by kernel_rfl) ?_ | refine wc_draw (id := 10) [⟨0, 0, [11]⟩, ⟨1, 0, [13]⟩, ⟨3, 0, [11]⟩, ⟨4, 0, [13]⟩, ⟨2, 3, [48, 49]⟩, ⟨5, 31, [51, 52]⟩, ⟨6, 63, [50, 53]⟩, ⟨7, 127, [54]⟩] mixed (by kernel_rfl) ?_ | refine wc_draw (id := 16) [⟨0, 0, [11]⟩, ⟨1, 0, [15]⟩, ⟨3, 0, [11]⟩, ⟨4, 0, [15]⟩, ⟨2, 3, [69, 70]⟩, ⟨5, 31, [72, 73]⟩, ⟨6, 63, [71, 74]⟩] mixed (by kernel_rfl) ?_ | (refine swt ?_; intro x τ hx) | (refine sp ?_ ?_ <;> (intro h; (first | (have h2 : (_ : Bool) = _ := h; clear h2; subst h) | skip); (try simp only [decide_eq_true_eq, decide_eq_false_iff_not, Bool.not_eq_true', Bool.not_eq_false', Kv.eta, Bnd.eta, Rng.eta, tn_sub1] at h); (first | (have h2 : (_ : Bool) = _ := h; clear h2; subst h) | skip))) | fail))
      all_goals first
        | (exfalso; omega)
        | skip
      refine wc_loop (fun κ st => ∃ (i : Nat), κ = 4 - i ∧ (i ≤ 4) ∧ st = ⟨[(1, .d (rows t)), (3, vI n), (9, .p 1001 0), (11, .p 111 0), (33, .d (lst Qa.ds es)), (34, vI es.length), (35, vI (m : Int)), (63, .d (i64s [n, es[m].c, IntKind.i64.wrap (es[m].c - 1), 0])), (64, vI 4), (65, vI (i : Int))], [(1001, some (tpb τ)), (111, some (.box 25 [vI es[m].k, .d (lst Rng.ds es[m].l), vS es[m].key, vI es[m].c]))]⟩) (4 - (0)) ⟨[(1, .d (rows t)), (3, vI n), (9, .p 1001 0), (11, .p 111 0), (33, .d (lst Qa.ds es)), (34, vI es.length), (35, vI (m : Int)), (63, .d (i64s [n, es[m].c, IntKind.i64.wrap (es[m].c - 1), 0])), (64, vI 4), (65, vI ((0) : Int))], [(1001, some (tpb τ)), (111, some (.box 25 [vI es[m].k, .d (lst Rng.ds es[m].l), vS es[m].key, vI es[m].c]))]⟩ (wk [(1001, 1001), (111, 111)] rfl rfl rfl rfl (by repeat (first | refine VH.cons rfl rfl vb_tpb ?_ | refine VH.cons rfl rfl (Vb.ob _) ?_ | exact VS.nil | exact VH.nil | exact Vws.nil | refine VS.cons rfl ?_ ?_ | refine VH.cons rfl rfl (Vb.box ?_) ?_ | refine VH.cons rfl rfl (Vb.arr ?_) ?_ | exact vws_dm _ | refine Vws.cons ?_ ?_ | exact Vw.d _ | exact Vw.p rfl | exact Vw.h rfl | exact Vw.e rfl | exact Vw.s rfl | exact Vw.q _ | refine Vw.a ?_ | refine Vw.t ?_ | exact Vw.nil | exact Vw.fh rfl rfl (vws_dm _) | exact Vw.un _)) (by repeat (first | refine VH.cons rfl rfl vb_tpb ?_ | refine VH.cons rfl rfl (Vb.ob _) ?_ | exact VS.nil | exact VH.nil | exact Vws.nil | refine VS.cons rfl ?_ ?_ | refine VH.cons rfl rfl (Vb.box ?_) ?_ | refine VH.cons rfl rfl (Vb.arr ?_) ?_ | exact vws_dm _ | refine Vws.cons ?_ ?_ | exact Vw.d _ | exact Vw.p rfl | exact Vw.h rfl | exact Vw.e rfl | exact Vw.s rfl | exact Vw.q _ | refine Vw.a ?_ | refine Vw.t ?_ | exact Vw.nil | exact Vw.fh rfl rfl (vws_dm _) | exact Vw.un _))) ⟨0, rfl, ?_, rfl⟩ ?_; rotate_left; rintro κ _ ⟨i, rfl, hP, rfl⟩; rotate_left
      · omega
      by_cases hi : i < 4
      · (repeat' (first | refine wl_r (o_ixe (m := i) rfl rfl rfl Len.len rfl (by simp only [List.length_cons, List.length_nil]; omega) (by simp only [dsI]; exact rfl)) rfl rfl rfl ?_ | refine sw ?_ | refine wc_draw (id := 4) [⟨0, 0, [9]⟩, ⟨2, 0, [9]⟩, ⟨4, 0, [4]⟩, ⟨7, 0, []⟩, ⟨1, 1, [28]⟩, ⟨3, 7, [30]⟩, ⟨5, 31, [29, 31, 32]⟩, ⟨6, 63, [33]⟩] mixed (by kernel_rfl) ?_ | refine wc_draw (id := 10) [⟨0, 0, [11]⟩, ⟨1, 0, [13]⟩, ⟨3, 0, [11]⟩, ⟨4, 0, [13]⟩, ⟨2, 3, [48, 49]⟩, ⟨5, 31, [51, 52]⟩, ⟨6, 63, [50, 53]⟩, ⟨7, 127, [54]⟩] mixed (by kernel_rfl) ?_ | refine wc_draw (id := 16) [⟨0, 0, [11]⟩, ⟨1, 0, [15]⟩, ⟨3, 0, [11]⟩, ⟨4, 0, [15]⟩, ⟨2, 3, [69, 70]⟩, ⟨5, 31, [72, 73]⟩, ⟨6, 63, [71, 74]⟩] mixed (by kernel_rfl) ?_ | (refine swt ?_; intro x τ hx) | (refine sp ?_ ?_ <;> (intro h; (first | (have h2 : (_ : Bool) = _ := h; clear h2; subst h) | skip); (try simp only [decide_eq_true_eq, decide_eq_false_iff_not, Bool.not_eq_true', Bool.not_eq_false', Kv.eta, Bnd.eta, Rng.eta, tn_sub1] at h); (first | (have h2 : (_ : Bool) = _ := h; clear h2; subst h) | skip))) | fail))
        all_goals first
          | (exfalso; omega)
          | (exfalso; simp at h; done)
          | (refine wk_loop_n (4 - (i + 1)) (st' := ⟨[(1, .d (rows t)), (3, vI n), (9, .p 1001 0), (11, .p 111 0), (33, .d (lst Qa.ds es)), (34, vI es.length), (35, vI (m : Int)), (63, .d (i64s [n, es[m].c, IntKind.i64.wrap (es[m].c - 1), 0])), (64, vI 4), (65, vI ((i + 1) : Int))], [(1001, some (tpb τ)), (111, some (.box 25 [vI es[m].k, .d (lst Rng.ds es[m].l), vS es[m].key, vI es[m].c]))]⟩) (wk [(1001, 1001), (111, 111)] rfl rfl rfl rfl (by repeat (first | refine VH.cons rfl rfl vb_tpb ?_ | refine VH.cons rfl rfl (Vb.ob _) ?_ | exact VS.nil | exact VH.nil | exact Vws.nil | refine VS.cons rfl ?_ ?_ | refine VH.cons rfl rfl (Vb.box ?_) ?_ | refine VH.cons rfl rfl (Vb.arr ?_) ?_ | exact vws_dm _ | refine Vws.cons ?_ ?_ | exact Vw.d _ | exact Vw.p rfl | exact Vw.h rfl | exact Vw.e rfl | exact Vw.s rfl | exact Vw.q _ | refine Vw.a ?_ | refine Vw.t ?_ | exact Vw.nil | exact Vw.fh rfl rfl (vws_dm _) | exact Vw.un _)) (by repeat (first | refine VH.cons rfl rfl vb_tpb ?_ | refine VH.cons rfl rfl (Vb.ob _) ?_ | exact VS.nil | exact VH.nil | exact Vws.nil | refine VS.cons rfl ?_ ?_ | refine VH.cons rfl rfl (Vb.box ?_) ?_ | refine VH.cons rfl rfl (Vb.arr ?_) ?_ | exact vws_dm _ | refine Vws.cons ?_ ?_ | exact Vw.d _ | exact Vw.p rfl | exact Vw.h rfl | exact Vw.e rfl | exact Vw.s rfl | exact Vw.q _ | refine Vw.a ?_ | refine Vw.t ?_ | exact Vw.nil | exact Vw.fh rfl rfl (vws_dm _) | exact Vw.un _))) ?_ ⟨i + 1, rfl, ?_, rfl⟩ <;> omega)
          | skip
      · (repeat' (first | refine wl_r (o_ixe (m := i) rfl rfl rfl Len.len rfl (by simp only [List.length_cons, List.length_nil]; omega) (by simp only [dsI]; exact rfl)) rfl rfl rfl ?_ | refine sw ?_ | refine wc_draw (id := 4) [⟨0, 0, [9]⟩, ⟨2, 0, [9]⟩, ⟨4, 0, [4]⟩, ⟨7, 0, []⟩, ⟨1, 1, [28]⟩, ⟨3, 7, [30]⟩, ⟨5, 31, [29, 31, 32]⟩, ⟨6, 63, [33]⟩] mixed (by kernel_rfl) ?_ | refine wc_draw (id := 10) [⟨0, 0, [11]⟩, ⟨1, 0, [13]⟩, ⟨3, 0, [11]⟩, ⟨4, 0, [13]⟩, ⟨2, 3, [48, 49]⟩, ⟨5, 31, [51, 52]⟩, ⟨6, 63, [50, 53]⟩, ⟨7, 127, [54]⟩] mixed (by kernel_rfl) ?_ | refine wc_draw (id := 16) [⟨0, 0, [11]⟩, ⟨1, 0, [15]⟩, ⟨3, 0, [11]⟩, ⟨4, 0, [15]⟩, ⟨2, 3, [69, 70]⟩, ⟨5, 31, [72, 73]⟩, ⟨6, 63, [71, 74]⟩] mixed (by kernel_rfl) ?_ | (refine swt ?_; intro x τ hx) | (refine sp ?_ ?_ <;> (intro h; (first | (have h2 : (_ : Bool) = _ := h; clear h2; subst h) | skip); (try simp only [decide_eq_true_eq, decide_eq_false_iff_not, Bool.not_eq_true', Bool.not_eq_false', Kv.eta, Bnd.eta, Rng.eta, tn_sub1] at h); (first | (have h2 : (_ : Bool) = _ := h; clear h2; subst h) | skip))) | fail))
        all_goals first
          | (exfalso; omega)
          | (refine wk_loop_n (es.length - (m + 1)) (st' := ⟨[(1, .d (rows t)), (3, vI n), (9, .p 1001 0), (33, .d (lst Qa.ds es)), (34, vI es.length), (35, vI ((m + 1) : Int))], [(1001, some (tpb (τ)))]⟩) (wk [(1001, 1001)] rfl rfl rfl rfl (by repeat (first | refine VH.cons rfl rfl vb_tpb ?_ | refine VH.cons rfl rfl (Vb.ob _) ?_ | exact VS.nil | exact VH.nil | exact Vws.nil | refine VS.cons rfl ?_ ?_ | refine VH.cons rfl rfl (Vb.box ?_) ?_ | refine VH.cons rfl rfl (Vb.arr ?_) ?_ | exact vws_dm _ | refine Vws.cons ?_ ?_ | exact Vw.d _ | exact Vw.p rfl | exact Vw.h rfl | exact Vw.e rfl | exact Vw.s rfl | exact Vw.q _ | refine Vw.a ?_ | refine Vw.t ?_ | exact Vw.nil | exact Vw.fh rfl rfl (vws_dm _) | exact Vw.un _)) (by repeat (first | refine VH.cons rfl rfl vb_tpb ?_ | refine VH.cons rfl rfl (Vb.ob _) ?_ | exact VS.nil | exact VH.nil | exact Vws.nil | refine VS.cons rfl ?_ ?_ | refine VH.cons rfl rfl (Vb.box ?_) ?_ | refine VH.cons rfl rfl (Vb.arr ?_) ?_ | exact vws_dm _ | refine Vws.cons ?_ ?_ | exact Vw.d _ | exact Vw.p rfl | exact Vw.h rfl | exact Vw.e rfl | exact Vw.s rfl | exact Vw.q _ | refine Vw.a ?_ | refine Vw.t ?_ | exact Vw.nil | exact Vw.fh rfl rfl (vws_dm _) | exact Vw.un _))) ?_ ⟨m + 1, τ, rfl, ?_, rfl⟩ <;> omega)
          | skip
  · (repeat' (first | refine wl_r (o_ixe rfl rfl rfl Len.len rfl (by omega) (by simp only [Qa.ds]; exact rfl)) rfl rfl rfl ?_ | refine sw ?_ | refine wc_draw (id := 4) [⟨0, 0, [9]⟩, ⟨2, 0, [9]⟩, ⟨4, 0, [4]⟩, ⟨7, 0, []⟩, ⟨1, 1, [28]⟩, ⟨3, 7, [30]⟩, ⟨5, 31, [29, 31, 32]⟩, ⟨6, 63, [33]⟩] mixed (by kernel_rfl) ?_ | refine wc_draw (id := 10) [⟨0, 0, [11]⟩, ⟨1, 0, [13]⟩, ⟨3, 0, [11]⟩, ⟨4, 0, [13]⟩, ⟨2, 3, [48, 49]⟩, ⟨5, 31, [51, 52]⟩, ⟨6, 63, [50, 53]⟩, ⟨7, 127, [54]⟩] mixed (by kernel_rfl) ?_ | refine wc_draw (id := 16) [⟨0, 0, [11]⟩, ⟨1, 0, [15]⟩, ⟨3, 0, [11]⟩, ⟨4, 0, [15]⟩, ⟨2, 3, [69, 70]⟩, ⟨5, 31, [72, 73]⟩, ⟨6, 63, [71, 74]⟩] mixed (by kernel_rfl) ?_ | (refine swt ?_; intro x τ hx) | (refine sp ?_ ?_ <;> (intro h; (first | (have h2 : (_ : Bool) = _ := h; clear h2; subst h) | skip); (try simp only [decide_eq_true_eq, decide_eq_false_iff_not, Bool.not_eq_true', Bool.not_eq_false', Kv.eta, Bnd.eta, Rng.eta, tn_sub1] at h); (first | (have h2 : (_ : Bool) = _ := h; clear h2; subst h) | skip))) | fail))
    all_goals first
      | (exfalso; omega)
      | skip
    (first | refine wk_pure rfl (by first | exact trivial | exact resT_cell rfl rfl (by exact inferInstance) trivial) rfl (by first | exact Vw.fmp rfl rfl rfl | exact Vw.nil | exact Vw.d _ | (repeat (first | exact Vws.nil | apply Vws.cons | exact Vw.nil | exact Vw.d _ | apply Vw.a | apply Vw.t | exact Vw.fh rfl rfl (vws_dm _) | exact Vw.fh rfl rfl Vws.nil)); done) ?_ | refine wk_pure_n rfl (by first | exact trivial | exact resT_cell rfl rfl (by exact inferInstance) trivial) rfl (by first | exact Vw.fmp rfl rfl rfl | exact Vw.nil | exact Vw.d _ | (repeat (first | exact Vws.nil | apply Vws.cons | exact Vw.nil | exact Vw.d _ | apply Vw.a | apply Vw.t | exact Vw.fh rfl rfl (vws_dm _) | exact Vw.fh rfl rfl Vws.nil)); done) ?_)
    exact ⟨rfl, rfl⟩
end Go.Proofs.YtjnnkpkbgdknmaaDoor
namespace Go.Proofs.YtjnnkpkbgdknmaaDoor.queryTakes
set_option linter.unusedSimpArgs false
set_option linter.unusedVariables false
open Go.ChangeShapes Go.WideShapes Go.ChangeAt Go.RowKit Go.Joins
set_option maxRecDepth 100000
theorem contract (H : Type) (enc : TypeId × Value → H) (W : World) (base : Nat) (args : Array Value) (ds gs : List (DataW H)) (before : List MemPlace)
    (hval : ∀ (j : Nat) t v, Tryd.f8.params[j]? = some t → args[j]? = some v → Value.okWide Tryd.prog W .any base t v)
    (hW : DataW.Whole enc Tryd.prog Tryd.f8.params.toList Rows.queryTakesSpec.vars false W args.toList ds gs before) (hL : laidMetH Tryd.prog Rows.queryTakesRow.laid W) :
    Calls Tryd.prog 8 args W fun e W' => ∃ v, e = .returned v ∧ Rows.queryTakesSpec.post enc Tryd.prog Tryd.f8 false true false false W args v W' := by
  have hW' := hW
  obtain ⟨p, q, hA0, hV, rfl, hfz, hnd⟩ := hW
  have hA : DataW.TrodAll enc Tryd.prog W 0 (fun _ => true) true Tryd.f8.params.toList args.toList ds p := hA0
  rw [Tryd.params8] at hA hval
  obtain ⟨v0, vs0, d0, ds0, p0, q0, hargs, rfl, rfl, h0, r0⟩ := trodAll_cons hA
  obtain ⟨v1, vs1, d1, ds1, p1, q1, rfl, rfl, rfl, h1, r1⟩ := trodAll_cons r0
  obtain ⟨v2, vs2, d2, ds2, p2, q2, rfl, rfl, rfl, h2, r2⟩ := trodAll_cons r1
  obtain ⟨v3, vs3, d3, ds3, p3, q3, rfl, rfl, rfl, h3, r3⟩ := trodAll_cons r2
  obtain ⟨rfl, rfl, rfl⟩ := trodAll_nil r3
  obtain rfl : args = #[v0, v1, v2, v3] := by cases args; simp_all
  obtain ⟨rfl, rfl⟩ := trodVars_none hV
  obtain ⟨k0, l0, key0, c0, hr0, hk0, hc0, hs0⟩ := qry_of (hval 0 _ v0 rfl rfl) h0
  obtain ⟨l1, hl1, hr1⟩ := rows_of (hval 1 _ v1 rfl rfl) h1
  obtain ⟨L2, hl2, hz2, hr2⟩ := ints_of (hval 2 _ v2 rfl rfl) h2
  obtain ⟨x3, rfl, hi3⟩ := int_of (hval 3 _ v3 rfl rfl) h3
  refine (law_of_spec (takes_s L2 ⟨hl2, hz2⟩ k0 c0 l0 key0 l1 x3) (letters_ok hL) (.cons (hr0) (.cons (.d hr1) (.cons (.d hr2) (.cons (.d (.c rfl)) (.nil)))))).mono fun e W' ⟨he, hk⟩ => ?_
  subst he
  exact ⟨_, rfl, law_post rfl (by kernel_rfl) (by kernel_rfl) rfl hW' hk⟩

theorem laid_met (os : Os) : laidMet Tryd.prog Rows.queryTakesRow.laid ((laidWorld os).forCall (fun _ _ => 0) ⟨#[], #[.agg #[.int .i64 0, .slice none 0 0, .string ⟨#[]⟩, .int .i64 0], .slice none 0 0, .slice none 0 0, .int .i64 0], []⟩).memory :=
  laidMet_of_run' 8 (by kernel_rfl) (by kernel_rfl)
theorem reads (os : Os) {H : Type} (enc : TypeId × Value → H) : ∃ ds places, DataW.whole enc Tryd.prog ((laidWorld os).forCall (fun _ _ => 0) ⟨#[], #[.agg #[.int .i64 0, .slice none 0 0, .string ⟨#[]⟩, .int .i64 0], .slice none 0 0, .slice none 0 0, .int .i64 0], []⟩).memory Tryd.f8.params.toList Rows.queryTakesSpec.vars false (#[.agg #[.int .i64 0, .slice none 0 0, .string ⟨#[]⟩, .int .i64 0], .slice none 0 0, .slice none 0 0, .int .i64 0] : Array Value).toList 8 = some (ds, [], places) :=
  ⟨[.agg [.lit (.int .i64 0), .nil, .lit (.string []), .lit (.int .i64 0)], .nil, .nil, .lit (.int .i64 0)], [], by kernel_rfl⟩

set_option maxRecDepth 100000 in
theorem lifted (os : Os) (started : os.Started) (H : Type) (enc : TypeId × Value → H) (F : Stop.Interp) :
    ReturnsInHanded {} Tryd.checked os 8 .any ((OpenSpec.ofChange Rows.queryTakesSpec).preRow enc Tryd.prog Tryd.f8 Rows.queryTakesRow.domain false Rows.queryTakesRow.laid) (((OpenSpec.ofChange Rows.queryTakesSpec).at F).post enc Tryd.prog Tryd.f8 false true false false) := by
  obtain ⟨ds, places, hx⟩ := reads os enc
  refine returnsInHanded_of_row (C := Tryd.checked) (s := OpenSpec.ofChange Rows.queryTakesSpec) own started (by kernel_rfl) Tryd.func8
    (witness_row_at (enc := enc) (C := Tryd.checked) false (laidWorld os) #[.agg #[.int .i64 0, .slice none 0 0, .string ⟨#[]⟩, .int .i64 0], .slice none 0 0, .slice none 0 0, .int .i64 0] rfl (by kernel_rfl) (by kernel_rfl) (by kernel_rfl)
      (OpenSpec.preRow_of_cond 8 hx (by kernel_rfl) (fun k hk => by cases hk) (by kernel_rfl) (laid_met os))) ?_
  intro W base args ds gs before hval hW _ _ _ hL _ _
  exact contract H enc W base args ds gs before hval hW hL

theorem said : Rows.QueryTakesSaid :=
  OpenClaim.holds_of_cond 8 Tryd.f8 rfl rfl rfl rfl rfl rfl rfl ⟨rfl, rfl, rfl, rfl, rfl⟩ rfl rfl rfl rfl rfl (by kernel_rfl) Tryd.func8 (by kernel_rfl)
    (of_decide_eq_true (by kernel_rfl)) (by unfold Func.isWrapper; first | (rw [if_pos (by decide +kernel)]; kernel_rfl) | (rw [if_neg (by decide +kernel)]; exact ⟨rfl, rfl⟩))
    (fun os started H enc _ F => by rw [OpenClaim.pre_eq_preRow]; exact lifted os started H enc F)

theorem plain (f : FuncId) (fn : Func) (hf : Tryd.pinned.checked.prog.funcNamed "skipgraph/skipgraphlaw22.QueryTakes" = some f) (hfn : Tryd.pinned.checked.prog.funcs[f]? = some fn) :
    false = Tryd.pinned.checked.prog.looks [] ∧ ∀ (j : Nat) t, fn.params[j]? = some t → Tryd.pinned.checked.prog.wantsStandIn t = false := by
  obtain rfl : f = 8 := Option.some.inj ((show Tryd.prog.funcNamed "skipgraph/skipgraphlaw22.QueryTakes" = some 8 by kernel_rfl).symm.trans hf) |>.symm
  obtain rfl : fn = Tryd.f8 := (Option.some.inj (Tryd.func8.symm.trans hfn)).symm
  refine ⟨by kernel_rfl, fun j t ht => ?_⟩
  have hall : (Tryd.f8.params.toList.all fun t => !Tryd.prog.wantsStandIn t) = true := by kernel_rfl
  have := List.all_eq_true.1 hall t (Array.mem_toList_iff.2 (Array.mem_of_getElem? ht))
  exact (by simpa using this : Tryd.prog.wantsStandIn t = false)

theorem card : Rows.QueryTakesCardSaid :=
  Claim7.holds_tied_plain_at .later [] _ _ _ _ said (fun _ h => by cases h) (by kernel_rfl) (fun _ h => by cases h) queryTakes_row_tie rfl ⟨rfl, rfl⟩ (by kernel_rfl) rfl plain (by kernel_rfl)

end Go.Proofs.YtjnnkpkbgdknmaaDoor.queryTakes
