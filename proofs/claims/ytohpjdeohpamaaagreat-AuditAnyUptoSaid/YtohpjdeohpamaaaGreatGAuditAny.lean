/-
  AuditAny: for every input that holds at most 1048576 values and letters the law returns true, and each argument reads afterwards as it read before.
-/
import Derived.Test.YtohpjdeohpamaaaGreatPA14
import Derived.Test.YtohpjdeohpamaaaGreatPA16
import Derived.Test.YtohpjdeohpamaaaGreatPA34
import Derived.Test.YtohpjdeohpamaaaGreatFAuditAny
set_option linter.unusedSimpArgs false
set_option linter.unusedVariables false
namespace Go.Proofs.YtohpjdeohpamaaaGreat.auditAny
open Go.ChangeShapes Go.WideShapes Go.ChangeAt Go.RowKit Go.Joins
set_option maxRecDepth 100000


instance opnb5 : OpnB Tryz.prog 5 (dsK .u8) (inK .u8) := opnb_of (opn_int Tryz.underlying5)

theorem contract (H : Type) (enc : TypeId × Value → H) (W : World) (base : Nat) (args : Array Value) (ds gs : List (DataW H)) (before : List MemPlace)
    (hval : ∀ (j : Nat) t v, Tryz.f3.params[j]? = some t → args[j]? = some v → Value.okWide Tryz.prog W .any base t v)
    (hW : DataW.Whole enc Tryz.prog Tryz.f3.params.toList Rows.auditAnySpec.vars false W args.toList ds gs before) (hL : laidMetH Tryz.prog Rows.auditAnyUptoRow.laid W) (hcond : Rows.uptoSmall H (ds ++ gs) = true) :
    Calls Tryz.prog 3 args W fun e W' => ∃ v, e = .returned v ∧ Rows.auditAnySpec.post enc Tryz.prog Tryz.f3 false true false false W args v W' := by
  have hW' := hW
  obtain ⟨p, q, hA0, hV, rfl, hfz, hnd⟩ := hW
  have hA : DataW.TrodAll enc Tryz.prog W 0 (fun _ => true) true Tryz.f3.params.toList args.toList ds p := hA0
  rw [Tryz.params3] at hA hval
  obtain ⟨v0, vs0, d0, ds0, p0, q0, hargs, rfl, rfl, h0, r0⟩ := trodAll_cons hA
  obtain ⟨v1, vs1, d1, ds1, p1, q1, rfl, rfl, rfl, h1, r1⟩ := trodAll_cons r0
  obtain ⟨v2, vs2, d2, ds2, p2, q2, rfl, rfl, rfl, h2, r2⟩ := trodAll_cons r1
  obtain ⟨v3, vs3, d3, ds3, p3, q3, rfl, rfl, rfl, h3, r3⟩ := trodAll_cons r2
  obtain ⟨rfl, rfl, rfl⟩ := trodAll_nil r3
  obtain rfl : args = #[v0, v1, v2, v3] := by cases args; simp_all
  obtain ⟨rfl, rfl⟩ := trodVars_none hV
  have hB := bulk_bound hcond
  simp only [List.append_nil, Rows.uptoBulkAll] at hB
  obtain ⟨x0, hx0, hr0⟩ := arg_oneb (hb := by omega) (f := (dsL Kv.ds)) (I := (allB Kv.okb)) (by obtain ⟨_, _, _, rfl⟩ := okWide_slice Tryz.underlying22 (hval 0 _ v0 rfl rfl); rfl) h0
  obtain ⟨x1, hx1, hr1⟩ := arg_oneb (hb := by omega) (f := (dsL TRecord.ds)) (I := (allB TRecord.okb)) (by obtain ⟨_, _, _, rfl⟩ := okWide_slice Tryz.underlying23 (hval 1 _ v1 rfl rfl); rfl) h1
  obtain ⟨x2, hx2, hr2⟩ := arg_oneb (hb := by omega) (f := (dsK .u8)) (I := (inK .u8)) (by obtain ⟨_, rfl⟩ := okWide_int Tryz.underlying5 (hval 2 _ v2 rfl rfl); rfl) h2
  obtain ⟨x3, hx3, hr3⟩ := arg_oneb (hb := by omega) (f := dsI) (I := (inK .i64)) (by obtain ⟨_, rfl⟩ := okWide_int Tryz.underlying3 (hval 3 _ v3 rfl rfl); rfl) h3
  refine (law_of_spec (Mlaw37_AuditAny_sp (rows1 := x0) (raw2 := x1) (kind3 := x2) (query4 := x3) (hm := auditAny_ok _ hx1 _ _)) (fun _ h => by cases h) (.cons (rv_one hr0) (.cons (rv_one hr1) (.cons (rv_one hr2) (.cons (rv_one hr3) (.nil)))))).mono fun e W' ⟨he, hk⟩ => ?_
  subst he
  exact ⟨_, rfl, law_post rfl (by kernel_rfl) (by kernel_rfl) rfl hW' hk⟩

theorem laid_met (os : Os) : laidMet Tryz.prog Rows.auditAnyUptoRow.laid ((laidWorld os).forCall (fun _ _ => 0) ⟨#[], #[.slice none 0 0, .slice none 0 0, .int .u8 0, .int .i64 0], []⟩).memory :=
  laidMet_of_run' 8 (by kernel_rfl) (by kernel_rfl)
theorem reads (os : Os) {H : Type} (enc : TypeId × Value → H) : ∃ places, DataW.whole enc Tryz.prog ((laidWorld os).forCall (fun _ _ => 0) ⟨#[], #[.slice none 0 0, .slice none 0 0, .int .u8 0, .int .i64 0], []⟩).memory Tryz.f3.params.toList Rows.auditAnySpec.vars false (#[.slice none 0 0, .slice none 0 0, .int .u8 0, .int .i64 0] : Array Value).toList 8 = some ([.nil, .nil, .lit (.int .u8 0), .lit (.int .i64 0)], [], places) :=
  ⟨[], by kernel_rfl⟩

set_option maxRecDepth 100000 in
theorem lifted (os : Os) (started : os.Started) (H : Type) (enc : TypeId × Value → H) (F : Stop.Interp) :
    ReturnsInHanded {} Tryz.checked os 3 .any ((Rows.OpenSpec.upto Rows.auditAnySpec).preRow enc Tryz.prog Tryz.f3 Rows.auditAnyUptoRow.domain false Rows.auditAnyUptoRow.laid) (((Rows.OpenSpec.upto Rows.auditAnySpec).at F).post enc Tryz.prog Tryz.f3 false true false false) := by
  obtain ⟨places, hx⟩ := reads os enc
  refine returnsInHanded_of_row (C := Tryz.checked) (s := Rows.OpenSpec.upto Rows.auditAnySpec) own started (by kernel_rfl) Tryz.func3
    (witness_row_at (enc := enc) (C := Tryz.checked) false (laidWorld os) #[.slice none 0 0, .slice none 0 0, .int .u8 0, .int .i64 0] rfl (by kernel_rfl) (by kernel_rfl) (by kernel_rfl)
      (OpenSpec.preRow_of_cond 8 hx (by kernel_rfl) (fun k hk => by cases hk; kernel_rfl) (by kernel_rfl) (laid_met os))) ?_
  intro W base args ds gs before hval hW _ hcond _ hL _ _
  exact contract H enc W base args ds gs before hval hW hL (hcond _ rfl)

theorem said : Rows.AuditAnyUptoSaid :=
  OpenClaim.holds_of_cond 3 Tryz.f3 rfl rfl rfl rfl rfl rfl rfl ⟨rfl, rfl, rfl, rfl, rfl⟩ rfl rfl rfl rfl rfl (by kernel_rfl) Tryz.func3 closed
    (of_decide_eq_true (by kernel_rfl)) (by unfold Func.isWrapper; first | (rw [if_pos (by decide +kernel)]; kernel_rfl) | (rw [if_neg (by decide +kernel)]; exact ⟨rfl, rfl⟩))
    (fun os started H enc _ F => by rw [OpenClaim.pre_eq_preRow]; exact lifted os started H enc F)

end Go.Proofs.YtohpjdeohpamaaaGreat.auditAny
