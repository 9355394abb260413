/-
  PathsStarts: for every input the law returns true, and each argument reads afterwards as it read before; package variable letters as the program's text lays it.
-/
import Derived.Test.YticecfoigpcflaaGreatDoorPT14
import Derived.Test.YticecfoigpcflaaGreatDoorPT16
import Derived.Test.YticecfoigpcflaaGreatDoorPT34
import Derived.Test.YticecfoigpcflaaGreatDoorFPathsStarts
set_option linter.unusedSimpArgs false
set_option linter.unusedVariables false
namespace Go.Proofs.YticecfoigpcflaaGreatDoor.pathsStarts
open Go.ChangeShapes Go.WideShapes Go.ChangeAt Go.RowKit Go.Joins
set_option maxRecDepth 100000
instance opn3 : Opn Tryz.prog 3 dsI (inK .i64) := opn_i64 Tryz.underlying3
instance opn22 : Opn Tryz.prog 22 (dsL dsI) (allL (inK .i64)) := opn_slice (E := 3) Tryz.underlying22 (z := 1) (by kernel_rfl) (by decide)
instance opn9 : Opn Tryz.prog 9 dsS szS := opn_str Tryz.underlying9
instance opn4 : Opn Tryz.prog 4 dsB anyB := opn_bool Tryz.underlying4
def Bnd.ok (x : Bnd) : Prop := szS x.key ∧ anyB x.top
instance opn32 : Opn Tryz.prog 32 Bnd.ds Bnd.ok := ⟨fun {H enc W fuel cs x} h => by
  obtain ⟨xs, n, -, -, hl, hlen, hf⟩ := DataW.trod_struct Tryz.underlying32 h
  obtain ⟨a0, i0, r0⟩ := of_field (T := 9) (o := 0) (c := 1) (f := dsS) (I := szS) hf hlen 0 rfl rfl rfl (by kernel_rfl)
  obtain ⟨a1, i1, r1⟩ := of_field (T := 4) (o := 1) (c := 1) (f := dsB) (I := anyB) hf hlen 1 rfl rfl rfl (by kernel_rfl)
  exact ⟨⟨a0, a1⟩, ⟨i0, i1⟩, (chain_of r0 (chain_of r1 (fin_of hl (by kernel_rfl))))⟩⟩
def Rng.ok (x : Rng) : Prop := Bnd.ok x.lo ∧ Bnd.ok x.hi
instance opn60 : Opn Tryz.prog 60 Rng.ds Rng.ok := ⟨fun {H enc W fuel cs x} h => by
  obtain ⟨xs, n, -, -, hl, hlen, hf⟩ := DataW.trod_struct Tryz.underlying60 h
  obtain ⟨a0, i0, r0⟩ := of_field (T := 32) (o := 0) (c := 2) (f := Bnd.ds) (I := Bnd.ok) hf hlen 0 rfl rfl rfl (by kernel_rfl)
  obtain ⟨a1, i1, r1⟩ := of_field (T := 32) (o := 2) (c := 2) (f := Bnd.ds) (I := Bnd.ok) hf hlen 1 rfl rfl rfl (by kernel_rfl)
  exact ⟨⟨a0, a1⟩, ⟨i0, i1⟩, (chain_of r0 (chain_of r1 (fin_of hl (by kernel_rfl))))⟩⟩
instance opn23 : Opn Tryz.prog 23 (dsL Rng.ds) (allL Rng.ok) := opn_slice (E := 60) Tryz.underlying23 (z := 4) (by kernel_rfl) (by decide)
def TQuery.ok (x : TQuery) : Prop := (inK .i64) x.Kind ∧ (allL Rng.ok) x.Ranges ∧ szS x.Key ∧ (inK .i64) x.Count
instance opn41 : Opn Tryz.prog 41 TQuery.ds TQuery.ok := ⟨fun {H enc W fuel cs x} h => by
  obtain ⟨xs, n, -, -, hl, hlen, hf⟩ := DataW.trod_struct Tryz.underlying41 h
  obtain ⟨a0, i0, r0⟩ := of_field (T := 3) (o := 0) (c := 1) (f := dsI) (I := (inK .i64)) hf hlen 0 rfl rfl rfl (by kernel_rfl)
  obtain ⟨a1, i1, r1⟩ := of_field (T := 23) (o := 1) (c := 1) (f := (dsL Rng.ds)) (I := (allL Rng.ok)) hf hlen 1 rfl rfl rfl (by kernel_rfl)
  obtain ⟨a2, i2, r2⟩ := of_field (T := 9) (o := 2) (c := 1) (f := dsS) (I := szS) hf hlen 2 rfl rfl rfl (by kernel_rfl)
  obtain ⟨a3, i3, r3⟩ := of_field (T := 3) (o := 3) (c := 1) (f := dsI) (I := (inK .i64)) hf hlen 3 rfl rfl rfl (by kernel_rfl)
  exact ⟨⟨a0, a1, a2, a3⟩, ⟨i0, i1, i2, i3⟩, (chain_of r0 (chain_of r1 (chain_of r2 (chain_of r3 (fin_of hl (by kernel_rfl))))))⟩⟩
instance opn24 : Opn Tryz.prog 24 (dsL Bnd.ds) (allL Bnd.ok) := opn_slice (E := 32) Tryz.underlying24 (z := 2) (by kernel_rfl) (by decide)
theorem contract (H : Type) (enc : TypeId × Value → H) (W : World) (base : Nat) (args : Array Value) (ds gs : List (DataW H)) (before : List MemPlace)
    (hval : ∀ (j : Nat) t v, Tryz.f4.params[j]? = some t → args[j]? = some v → Value.okWide Tryz.prog W .any base t v)
    (hW : DataW.Whole enc Tryz.prog Tryz.f4.params.toList Rows.pathsStartsSpec.vars false W args.toList ds gs before) (hL : laidMetH Tryz.prog Rows.pathsStartsRow.laid W) :
    Calls Tryz.prog 4 args W fun e W' => ∃ v, e = .returned v ∧ Rows.pathsStartsSpec.post enc Tryz.prog Tryz.f4 false true false false W args v W' := by
  have hW' := hW
  obtain ⟨p, q, hA0, hV, rfl, hfz, hnd⟩ := hW
  have hA : DataW.TrodAll enc Tryz.prog W 0 (fun _ => true) true Tryz.f4.params.toList args.toList ds p := hA0
  rw [Tryz.params4] at hA hval
  obtain ⟨v0, vs0, d0, ds0, p0, q0, hargs, rfl, rfl, h0, r0⟩ := trodAll_cons hA
  obtain ⟨v1, vs1, d1, ds1, p1, q1, rfl, rfl, rfl, h1, r1⟩ := trodAll_cons r0
  obtain ⟨v2, vs2, d2, ds2, p2, q2, rfl, rfl, rfl, h2, r2⟩ := trodAll_cons r1
  obtain ⟨rfl, rfl, rfl⟩ := trodAll_nil r2
  obtain rfl : args = #[v0, v1, v2] := by cases args; simp_all
  obtain ⟨rfl, rfl⟩ := trodVars_none hV
  obtain ⟨x0, hx0, hr0⟩ := arg_one (f := (dsL dsI)) (I := (allL (inK .i64))) (by obtain ⟨_, _, _, rfl⟩ := okWide_slice Tryz.underlying22 (hval 0 _ v0 rfl rfl); rfl) h0
  obtain ⟨x1, hx1, hr1⟩ := arg_agg (f := TQuery.ds) (I := TQuery.ok) Tryz.underlying41 (hval 1 _ v1 rfl rfl) h1
  obtain ⟨x2, hx2, hr2⟩ := arg_one (f := (dsL Bnd.ds)) (I := (allL Bnd.ok)) (by obtain ⟨_, _, _, rfl⟩ := okWide_slice Tryz.underlying24 (hval 2 _ v2 rfl rfl); rfl) h2
  refine (law_of_spec (Mlaw30_PathsStarts_sp (l1 := x0) (raw2 := x1) (cuts3 := x2) (hm := pathsStarts_ok _ _ _)) (letters_ok hL) (.cons (rv_one hr0) (.cons (hr1) (.cons (rv_one hr2) (.nil))))).mono fun e W' ⟨he, hk⟩ => ?_
  subst he
  exact ⟨_, rfl, law_post rfl (by kernel_rfl) (by kernel_rfl) rfl hW' hk⟩

theorem laid_met (os : Os) : laidMet Tryz.prog Rows.pathsStartsRow.laid ((laidWorld os).forCall (fun _ _ => 0) ⟨#[], #[.slice none 0 0, .agg #[.int .i64 0, .slice none 0 0, .string ⟨#[]⟩, .int .i64 0], .slice none 0 0], []⟩).memory :=
  laidMet_of_run' 8 (by kernel_rfl) (by kernel_rfl)
theorem reads (os : Os) {H : Type} (enc : TypeId × Value → H) : ∃ ds places, DataW.whole enc Tryz.prog ((laidWorld os).forCall (fun _ _ => 0) ⟨#[], #[.slice none 0 0, .agg #[.int .i64 0, .slice none 0 0, .string ⟨#[]⟩, .int .i64 0], .slice none 0 0], []⟩).memory Tryz.f4.params.toList Rows.pathsStartsSpec.vars false (#[.slice none 0 0, .agg #[.int .i64 0, .slice none 0 0, .string ⟨#[]⟩, .int .i64 0], .slice none 0 0] : Array Value).toList 8 = some (ds, [], places) :=
  ⟨[.nil, .agg [.lit (.int .i64 0), .nil, .lit (.string []), .lit (.int .i64 0)], .nil], [], by kernel_rfl⟩

set_option maxRecDepth 100000 in
theorem lifted (os : Os) (started : os.Started) (H : Type) (enc : TypeId × Value → H) (F : Stop.Interp) :
    ReturnsInHanded {} Tryz.checked os 4 .any ((OpenSpec.ofChange Rows.pathsStartsSpec).preRow enc Tryz.prog Tryz.f4 Rows.pathsStartsRow.domain false Rows.pathsStartsRow.laid) (((OpenSpec.ofChange Rows.pathsStartsSpec).at F).post enc Tryz.prog Tryz.f4 false true false false) := by
  obtain ⟨ds, places, hx⟩ := reads os enc
  refine returnsInHanded_of_row (C := Tryz.checked) (s := OpenSpec.ofChange Rows.pathsStartsSpec) own started (by kernel_rfl) Tryz.func4
    (witness_row_at (enc := enc) (C := Tryz.checked) false (laidWorld os) #[.slice none 0 0, .agg #[.int .i64 0, .slice none 0 0, .string ⟨#[]⟩, .int .i64 0], .slice none 0 0] rfl (by kernel_rfl) (by kernel_rfl) (by kernel_rfl)
      (OpenSpec.preRow_of_cond 8 hx (by kernel_rfl) (fun k hk => by cases hk) (by kernel_rfl) (laid_met os))) ?_
  intro W base args ds gs before hval hW _ _ _ hL _ _
  exact contract H enc W base args ds gs before hval hW hL

theorem said : Rows.PathsStartsSaid :=
  OpenClaim.holds_of_cond 4 Tryz.f4 rfl rfl rfl rfl rfl rfl rfl ⟨rfl, rfl, rfl, rfl, rfl⟩ rfl rfl rfl rfl rfl (by kernel_rfl) Tryz.func4 closed
    (of_decide_eq_true (by kernel_rfl)) (by unfold Func.isWrapper; first | (rw [if_pos (by decide +kernel)]; kernel_rfl) | (rw [if_neg (by decide +kernel)]; exact ⟨rfl, rfl⟩))
    (fun os started H enc _ F => by rw [OpenClaim.pre_eq_preRow]; exact lifted os started H enc F)

theorem plain (f : FuncId) (fn : Func) (hf : Tryz.pinned.checked.prog.funcNamed "skipgraph/skipgraphlaw30.PathsStarts" = some f) (hfn : Tryz.pinned.checked.prog.funcs[f]? = some fn) :
    false = Tryz.pinned.checked.prog.looks [] ∧ ∀ (j : Nat) t, fn.params[j]? = some t → Tryz.pinned.checked.prog.wantsStandIn t = false := by
  obtain rfl : f = 4 := Option.some.inj ((show Tryz.prog.funcNamed "skipgraph/skipgraphlaw30.PathsStarts" = some 4 by kernel_rfl).symm.trans hf) |>.symm
  obtain rfl : fn = Tryz.f4 := (Option.some.inj (Tryz.func4.symm.trans hfn)).symm
  refine ⟨by kernel_rfl, fun j t ht => ?_⟩
  have hall : (Tryz.f4.params.toList.all fun t => !Tryz.prog.wantsStandIn t) = true := by kernel_rfl
  have := List.all_eq_true.1 hall t (Array.mem_toList_iff.2 (Array.mem_of_getElem? ht))
  exact (by simpa using this : Tryz.prog.wantsStandIn t = false)

theorem card : Rows.PathsStartsCardSaid :=
  Claim7.holds_tied_plain_at .later [] _ _ _ _ said (fun _ h => by cases h) (by kernel_rfl) (fun _ h => by cases h) pathsStarts_row_tie rfl ⟨rfl, rfl⟩ (by kernel_rfl) rfl plain (by kernel_rfl)

end Go.Proofs.YticecfoigpcflaaGreatDoor.pathsStarts
