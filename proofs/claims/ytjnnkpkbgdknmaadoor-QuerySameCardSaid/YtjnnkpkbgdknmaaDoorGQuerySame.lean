/-
  QuerySame: for every input the law returns true, and each argument reads afterwards as it read before; package variable letters as the program's text lays it.
-/
import Derived.Test.YtjnnkpkbgdknmaaDoorPS5
import Derived.Test.YtjnnkpkbgdknmaaDoorPS9
namespace Go.Proofs.YtjnnkpkbgdknmaaDoor.querySame
set_option linter.unusedSimpArgs false
set_option linter.unusedVariables false
open Go.ChangeShapes Go.WideShapes Go.ChangeAt Go.RowKit Go.Joins
set_option maxRecDepth 100000
theorem contract (H : Type) (enc : TypeId × Value → H) (W : World) (base : Nat) (args : Array Value) (ds gs : List (DataW H)) (before : List MemPlace)
    (hval : ∀ (j : Nat) t v, Tryd.f9.params[j]? = some t → args[j]? = some v → Value.okWide Tryd.prog W .any base t v)
    (hW : DataW.Whole enc Tryd.prog Tryd.f9.params.toList Rows.querySameSpec.vars false W args.toList ds gs before) (hL : laidMetH Tryd.prog Rows.querySameRow.laid W) :
    Calls Tryd.prog 9 args W fun e W' => ∃ v, e = .returned v ∧ Rows.querySameSpec.post enc Tryd.prog Tryd.f9 false true false false W args v W' := by
  have hW' := hW
  obtain ⟨p, q, hA0, hV, rfl, hfz, hnd⟩ := hW
  have hA : DataW.TrodAll enc Tryd.prog W 0 (fun _ => true) true Tryd.f9.params.toList args.toList ds p := hA0
  rw [Tryd.params9] at hA hval
  obtain ⟨v0, vs0, d0, ds0, p0, q0, hargs, rfl, rfl, h0, r0⟩ := trodAll_cons hA
  obtain ⟨v1, vs1, d1, ds1, p1, q1, rfl, rfl, rfl, h1, r1⟩ := trodAll_cons r0
  obtain ⟨v2, vs2, d2, ds2, p2, q2, rfl, rfl, rfl, h2, r2⟩ := trodAll_cons r1
  obtain ⟨rfl, rfl, rfl⟩ := trodAll_nil r2
  obtain rfl : args = #[v0, v1, v2] := by cases args; simp_all
  obtain ⟨rfl, rfl⟩ := trodVars_none hV
  obtain ⟨k0, l0, key0, c0, hr0, hk0, hc0, hs0⟩ := qry_of (hval 0 _ v0 rfl rfl) h0
  obtain ⟨k1, l1, key1, c1, hr1, hk1, hc1, hs1⟩ := qry_of (hval 1 _ v1 rfl rfl) h1
  obtain ⟨L2, hl2, hz2, hr2⟩ := ints_of (hval 2 _ v2 rfl rfl) h2
  refine (law_of_spec (Mlaw22_QuerySame_sp (a1 := ⟨k0, l0, key0, c0⟩) (b2 := ⟨k1, l1, key1, c1⟩) (l3 := L2) (hm := querySame_ok _ _ _)) (letters_ok hL) (.cons (hr0) (.cons (hr1) (.cons (.d hr2) (.nil))))).mono fun e W' ⟨he, hk⟩ => ?_
  subst he
  exact ⟨_, rfl, law_post rfl (by kernel_rfl) (by kernel_rfl) rfl hW' hk⟩

theorem laid_met (os : Os) : laidMet Tryd.prog Rows.querySameRow.laid ((laidWorld os).forCall (fun _ _ => 0) ⟨#[], #[.agg #[.int .i64 0, .slice none 0 0, .string ⟨#[]⟩, .int .i64 0], .agg #[.int .i64 0, .slice none 0 0, .string ⟨#[]⟩, .int .i64 0], .slice none 0 0], []⟩).memory :=
  laidMet_of_run' 8 (by kernel_rfl) (by kernel_rfl)
theorem reads (os : Os) {H : Type} (enc : TypeId × Value → H) : ∃ ds places, DataW.whole enc Tryd.prog ((laidWorld os).forCall (fun _ _ => 0) ⟨#[], #[.agg #[.int .i64 0, .slice none 0 0, .string ⟨#[]⟩, .int .i64 0], .agg #[.int .i64 0, .slice none 0 0, .string ⟨#[]⟩, .int .i64 0], .slice none 0 0], []⟩).memory Tryd.f9.params.toList Rows.querySameSpec.vars false (#[.agg #[.int .i64 0, .slice none 0 0, .string ⟨#[]⟩, .int .i64 0], .agg #[.int .i64 0, .slice none 0 0, .string ⟨#[]⟩, .int .i64 0], .slice none 0 0] : Array Value).toList 8 = some (ds, [], places) :=
  ⟨[.agg [.lit (.int .i64 0), .nil, .lit (.string []), .lit (.int .i64 0)], .agg [.lit (.int .i64 0), .nil, .lit (.string []), .lit (.int .i64 0)], .nil], [], by kernel_rfl⟩

set_option maxRecDepth 100000 in
theorem lifted (os : Os) (started : os.Started) (H : Type) (enc : TypeId × Value → H) (F : Stop.Interp) :
    ReturnsInHanded {} Tryd.checked os 9 .any ((OpenSpec.ofChange Rows.querySameSpec).preRow enc Tryd.prog Tryd.f9 Rows.querySameRow.domain false Rows.querySameRow.laid) (((OpenSpec.ofChange Rows.querySameSpec).at F).post enc Tryd.prog Tryd.f9 false true false false) := by
  obtain ⟨ds, places, hx⟩ := reads os enc
  refine returnsInHanded_of_row (C := Tryd.checked) (s := OpenSpec.ofChange Rows.querySameSpec) own started (by kernel_rfl) Tryd.func9
    (witness_row_at (enc := enc) (C := Tryd.checked) false (laidWorld os) #[.agg #[.int .i64 0, .slice none 0 0, .string ⟨#[]⟩, .int .i64 0], .agg #[.int .i64 0, .slice none 0 0, .string ⟨#[]⟩, .int .i64 0], .slice none 0 0] rfl (by kernel_rfl) (by kernel_rfl) (by kernel_rfl)
      (OpenSpec.preRow_of_cond 8 hx (by kernel_rfl) (fun k hk => by cases hk) (by kernel_rfl) (laid_met os))) ?_
  intro W base args ds gs before hval hW _ _ _ hL _ _
  exact contract H enc W base args ds gs before hval hW hL

theorem said : Rows.QuerySameSaid :=
  OpenClaim.holds_of_cond 9 Tryd.f9 rfl rfl rfl rfl rfl rfl rfl ⟨rfl, rfl, rfl, rfl, rfl⟩ rfl rfl rfl rfl rfl (by kernel_rfl) Tryd.func9 (by kernel_rfl)
    (of_decide_eq_true (by kernel_rfl)) (by unfold Func.isWrapper; first | (rw [if_pos (by decide +kernel)]; kernel_rfl) | (rw [if_neg (by decide +kernel)]; exact ⟨rfl, rfl⟩))
    (fun os started H enc _ F => by rw [OpenClaim.pre_eq_preRow]; exact lifted os started H enc F)

theorem plain (f : FuncId) (fn : Func) (hf : Tryd.pinned.checked.prog.funcNamed "skipgraph/skipgraphlaw22.QuerySame" = some f) (hfn : Tryd.pinned.checked.prog.funcs[f]? = some fn) :
    false = Tryd.pinned.checked.prog.looks [] ∧ ∀ (j : Nat) t, fn.params[j]? = some t → Tryd.pinned.checked.prog.wantsStandIn t = false := by
  obtain rfl : f = 9 := Option.some.inj ((show Tryd.prog.funcNamed "skipgraph/skipgraphlaw22.QuerySame" = some 9 by kernel_rfl).symm.trans hf) |>.symm
  obtain rfl : fn = Tryd.f9 := (Option.some.inj (Tryd.func9.symm.trans hfn)).symm
  refine ⟨by kernel_rfl, fun j t ht => ?_⟩
  have hall : (Tryd.f9.params.toList.all fun t => !Tryd.prog.wantsStandIn t) = true := by kernel_rfl
  have := List.all_eq_true.1 hall t (Array.mem_toList_iff.2 (Array.mem_of_getElem? ht))
  exact (by simpa using this : Tryd.prog.wantsStandIn t = false)

theorem card : Rows.QuerySameCardSaid :=
  Claim7.holds_tied_plain_at .later [] _ _ _ _ said (fun _ h => by cases h) (by kernel_rfl) (fun _ h => by cases h) querySame_row_tie rfl ⟨rfl, rfl⟩ (by kernel_rfl) rfl plain (by kernel_rfl)

end Go.Proofs.YtjnnkpkbgdknmaaDoor.querySame
