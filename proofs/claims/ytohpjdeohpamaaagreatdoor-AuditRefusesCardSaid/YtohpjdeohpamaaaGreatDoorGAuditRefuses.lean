/-
  AuditRefuses: for every input the law returns true, and each argument reads afterwards as it read before; package variable letters as the program's text lays it.
-/
import Derived.Test.YtohpjdeohpamaaaGreatDoorPA13
import Derived.Test.YtohpjdeohpamaaaGreatDoorPA15
import Derived.Test.YtohpjdeohpamaaaGreatDoorPA29
import Derived.Test.YtohpjdeohpamaaaGreatDoorPA28
import Derived.Test.YtohpjdeohpamaaaGreatDoorGAuditRefusesX1
import Derived.Test.YtohpjdeohpamaaaGreatDoorGAuditRefusesX2
import Derived.Test.YtohpjdeohpamaaaGreatDoorFAuditRefuses
set_option linter.unusedSimpArgs false
set_option linter.unusedVariables false
namespace Go.Proofs.YtohpjdeohpamaaaGreatDoor.auditRefuses
open Go.ChangeShapes Go.WideShapes Go.ChangeAt Go.RowKit Go.Joins
set_option maxRecDepth 100000
instance opn3 : Opn Tryz.prog 3 dsI (inK .i64) := opn_i64 Tryz.underlying3
instance opn22 : Opn Tryz.prog 22 (dsL dsI) (allL (inK .i64)) := opn_slice (E := 3) Tryz.underlying22 (z := 1) (by kernel_rfl) (by decide)
instance opn5 : Opn Tryz.prog 5 (dsK .u8) (inK .u8) := opn_int Tryz.underlying5
theorem contract (H : Type) (enc : TypeId × Value → H) (W : World) (base : Nat) (args : Array Value) (ds gs : List (DataW H)) (before : List MemPlace)
    (hval : ∀ (j : Nat) t v, Tryz.f7.params[j]? = some t → args[j]? = some v → Value.okWide Tryz.prog W .any base t v)
    (hW : DataW.Whole enc Tryz.prog Tryz.f7.params.toList Rows.auditRefusesSpec.vars false W args.toList ds gs before) (hL : laidMetH Tryz.prog Rows.auditRefusesRow.laid W) :
    Calls Tryz.prog 7 args W fun e W' => ∃ v, e = .returned v ∧ Rows.auditRefusesSpec.post enc Tryz.prog Tryz.f7 false true false false W args v W' := by
  have hW' := hW
  obtain ⟨p, q, hA0, hV, rfl, hfz, hnd⟩ := hW
  have hA : DataW.TrodAll enc Tryz.prog W 0 (fun _ => true) true Tryz.f7.params.toList args.toList ds p := hA0
  rw [Tryz.params7] at hA hval
  obtain ⟨v0, vs0, d0, ds0, p0, q0, hargs, rfl, rfl, h0, r0⟩ := trodAll_cons hA
  obtain ⟨v1, vs1, d1, ds1, p1, q1, rfl, rfl, rfl, h1, r1⟩ := trodAll_cons r0
  obtain ⟨rfl, rfl, rfl⟩ := trodAll_nil r1
  obtain rfl : args = #[v0, v1] := by cases args; simp_all
  obtain ⟨rfl, rfl⟩ := trodVars_none hV
  obtain ⟨x0, hx0, hr0⟩ := arg_one (f := (dsL dsI)) (I := (allL (inK .i64))) (by obtain ⟨_, _, _, rfl⟩ := okWide_slice Tryz.underlying22 (hval 0 _ v0 rfl rfl); rfl) h0
  obtain ⟨x1, hx1, hr1⟩ := arg_one (f := (dsK .u8)) (I := (inK .u8)) (by obtain ⟨_, rfl⟩ := okWide_int Tryz.underlying5 (hval 1 _ v1 rfl rfl); rfl) h1
  refine (law_of_spec (Mlaw37_AuditRefuses_sp (l1 := x0) (n2 := x1) (hm := auditRefuses_ok _ _)) (letters_ok hL) (.cons (rv_one hr0) (.cons (rv_one hr1) (.nil)))).mono fun e W' ⟨he, hk⟩ => ?_
  subst he
  exact ⟨_, rfl, law_post rfl (by kernel_rfl) (by kernel_rfl) rfl hW' hk⟩

theorem laid_met (os : Os) : laidMet Tryz.prog Rows.auditRefusesRow.laid ((laidWorld os).forCall (fun _ _ => 0) ⟨#[], #[.slice none 0 0, .int .u8 0], []⟩).memory :=
  laidMet_of_run' 8 (by kernel_rfl) (by kernel_rfl)
theorem reads (os : Os) {H : Type} (enc : TypeId × Value → H) : ∃ ds places, DataW.whole enc Tryz.prog ((laidWorld os).forCall (fun _ _ => 0) ⟨#[], #[.slice none 0 0, .int .u8 0], []⟩).memory Tryz.f7.params.toList Rows.auditRefusesSpec.vars false (#[.slice none 0 0, .int .u8 0] : Array Value).toList 8 = some (ds, [], places) :=
  ⟨[.nil, .lit (.int .u8 0)], [], by kernel_rfl⟩

set_option maxRecDepth 100000 in
theorem lifted (os : Os) (started : os.Started) (H : Type) (enc : TypeId × Value → H) (F : Stop.Interp) :
    ReturnsInHanded {} Tryz.checked os 7 .any ((OpenSpec.ofChange Rows.auditRefusesSpec).preRow enc Tryz.prog Tryz.f7 Rows.auditRefusesRow.domain false Rows.auditRefusesRow.laid) (((OpenSpec.ofChange Rows.auditRefusesSpec).at F).post enc Tryz.prog Tryz.f7 false true false false) := by
  obtain ⟨ds, places, hx⟩ := reads os enc
  refine returnsInHanded_of_row (C := Tryz.checked) (s := OpenSpec.ofChange Rows.auditRefusesSpec) own started (by kernel_rfl) Tryz.func7
    (witness_row_at (enc := enc) (C := Tryz.checked) false (laidWorld os) #[.slice none 0 0, .int .u8 0] rfl (by kernel_rfl) (by kernel_rfl) (by kernel_rfl)
      (OpenSpec.preRow_of_cond 8 hx (by kernel_rfl) (fun k hk => by cases hk) (by kernel_rfl) (laid_met os))) ?_
  intro W base args ds gs before hval hW _ _ _ hL _ _
  exact contract H enc W base args ds gs before hval hW hL

theorem said : Rows.AuditRefusesSaid :=
  OpenClaim.holds_of_cond 7 Tryz.f7 rfl rfl rfl rfl rfl rfl rfl ⟨rfl, rfl, rfl, rfl, rfl⟩ rfl rfl rfl rfl rfl (by kernel_rfl) Tryz.func7 closed
    (of_decide_eq_true (by kernel_rfl)) (by unfold Func.isWrapper; first | (rw [if_pos (by decide +kernel)]; kernel_rfl) | (rw [if_neg (by decide +kernel)]; exact ⟨rfl, rfl⟩))
    (fun os started H enc _ F => by rw [OpenClaim.pre_eq_preRow]; exact lifted os started H enc F)

theorem plain (f : FuncId) (fn : Func) (hf : Tryz.pinned.checked.prog.funcNamed "skipgraph/skipgraphlaw37.AuditRefuses" = some f) (hfn : Tryz.pinned.checked.prog.funcs[f]? = some fn) :
    false = Tryz.pinned.checked.prog.looks [] ∧ ∀ (j : Nat) t, fn.params[j]? = some t → Tryz.pinned.checked.prog.wantsStandIn t = false := by
  obtain rfl : f = 7 := Option.some.inj ((show Tryz.prog.funcNamed "skipgraph/skipgraphlaw37.AuditRefuses" = some 7 by kernel_rfl).symm.trans hf) |>.symm
  obtain rfl : fn = Tryz.f7 := (Option.some.inj (Tryz.func7.symm.trans hfn)).symm
  refine ⟨by kernel_rfl, fun j t ht => ?_⟩
  have hall : (Tryz.f7.params.toList.all fun t => !Tryz.prog.wantsStandIn t) = true := by kernel_rfl
  have := List.all_eq_true.1 hall t (Array.mem_toList_iff.2 (Array.mem_of_getElem? ht))
  exact (by simpa using this : Tryz.prog.wantsStandIn t = false)

theorem card : Rows.AuditRefusesCardSaid :=
  Claim7.holds_tied_plain_at .later [] _ _ _ _ said (fun _ h => by cases h) (by kernel_rfl) (fun _ h => by cases h) auditRefuses_row_tie rfl ⟨rfl, rfl⟩ (by kernel_rfl) rfl plain (by kernel_rfl)

end Go.Proofs.YtohpjdeohpamaaaGreatDoor.auditRefuses
