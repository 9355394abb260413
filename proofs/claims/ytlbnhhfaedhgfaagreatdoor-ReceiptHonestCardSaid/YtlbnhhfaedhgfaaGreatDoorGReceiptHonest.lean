/-
  ReceiptHonest: for every input the law returns true, and each argument reads afterwards as it read before; package variable letters as the program's text lays it.
-/
import Derived.Test.YtlbnhhfaedhgfaaGreatDoorPB14
import Derived.Test.YtlbnhhfaedhgfaaGreatDoorPB16
import Derived.Test.YtlbnhhfaedhgfaaGreatDoorPB27
import Derived.Test.YtlbnhhfaedhgfaaGreatDoorPB31
import Derived.Test.YtlbnhhfaedhgfaaGreatDoorPB26
import Derived.Test.YtlbnhhfaedhgfaaGreatDoorPB29
import Derived.Test.YtlbnhhfaedhgfaaGreatDoorPB30
import Derived.Test.YtlbnhhfaedhgfaaGreatDoorGReceiptHonestX1
import Derived.Test.YtlbnhhfaedhgfaaGreatDoorFReceiptHonest
set_option linter.unusedSimpArgs false
set_option linter.unusedVariables false
namespace Go.Proofs.YtlbnhhfaedhgfaaGreatDoor.receiptHonest
open Go.ChangeShapes Go.WideShapes Go.ChangeAt Go.RowKit Go.Joins
set_option maxRecDepth 100000
instance opn3 : Opn Tryz.prog 3 dsI (inK .i64) := opn_i64 Tryz.underlying3
instance opn22 : Opn Tryz.prog 22 (dsL dsI) (allL (inK .i64)) := opn_slice (E := 3) Tryz.underlying22 (z := 1) (by kernel_rfl) (by decide)
instance opn9 : Opn Tryz.prog 9 dsS szS := opn_str Tryz.underlying9
instance opn4 : Opn Tryz.prog 4 dsB anyB := opn_bool Tryz.underlying4
def Bnd.ok (x : Bnd) : Prop := szS x.key ∧ anyB x.top
instance opn40 : Opn Tryz.prog 40 Bnd.ds Bnd.ok := ⟨fun {H enc W fuel cs x} h => by
  obtain ⟨xs, n, -, -, hl, hlen, hf⟩ := DataW.trod_struct Tryz.underlying40 h
  obtain ⟨a0, i0, r0⟩ := of_field (T := 9) (o := 0) (c := 1) (f := dsS) (I := szS) hf hlen 0 rfl rfl rfl (by kernel_rfl)
  obtain ⟨a1, i1, r1⟩ := of_field (T := 4) (o := 1) (c := 1) (f := dsB) (I := anyB) hf hlen 1 rfl rfl rfl (by kernel_rfl)
  exact ⟨⟨a0, a1⟩, ⟨i0, i1⟩, (chain_of r0 (chain_of r1 (fin_of hl (by kernel_rfl))))⟩⟩
def Rng.ok (x : Rng) : Prop := Bnd.ok x.lo ∧ Bnd.ok x.hi
instance opn42 : Opn Tryz.prog 42 Rng.ds Rng.ok := ⟨fun {H enc W fuel cs x} h => by
  obtain ⟨xs, n, -, -, hl, hlen, hf⟩ := DataW.trod_struct Tryz.underlying42 h
  obtain ⟨a0, i0, r0⟩ := of_field (T := 40) (o := 0) (c := 2) (f := Bnd.ds) (I := Bnd.ok) hf hlen 0 rfl rfl rfl (by kernel_rfl)
  obtain ⟨a1, i1, r1⟩ := of_field (T := 40) (o := 2) (c := 2) (f := Bnd.ds) (I := Bnd.ok) hf hlen 1 rfl rfl rfl (by kernel_rfl)
  exact ⟨⟨a0, a1⟩, ⟨i0, i1⟩, (chain_of r0 (chain_of r1 (fin_of hl (by kernel_rfl))))⟩⟩
instance opn25 : Opn Tryz.prog 25 (dsL Rng.ds) (allL Rng.ok) := opn_slice (E := 42) Tryz.underlying25 (z := 4) (by kernel_rfl) (by decide)
def TQuery.ok (x : TQuery) : Prop := (inK .i64) x.Kind ∧ (allL Rng.ok) x.Ranges ∧ szS x.Key ∧ (inK .i64) x.Count
instance opn27 : Opn Tryz.prog 27 TQuery.ds TQuery.ok := ⟨fun {H enc W fuel cs x} h => by
  obtain ⟨xs, n, -, -, hl, hlen, hf⟩ := DataW.trod_struct Tryz.underlying27 h
  obtain ⟨a0, i0, r0⟩ := of_field (T := 3) (o := 0) (c := 1) (f := dsI) (I := (inK .i64)) hf hlen 0 rfl rfl rfl (by kernel_rfl)
  obtain ⟨a1, i1, r1⟩ := of_field (T := 25) (o := 1) (c := 1) (f := (dsL Rng.ds)) (I := (allL Rng.ok)) hf hlen 1 rfl rfl rfl (by kernel_rfl)
  obtain ⟨a2, i2, r2⟩ := of_field (T := 9) (o := 2) (c := 1) (f := dsS) (I := szS) hf hlen 2 rfl rfl rfl (by kernel_rfl)
  obtain ⟨a3, i3, r3⟩ := of_field (T := 3) (o := 3) (c := 1) (f := dsI) (I := (inK .i64)) hf hlen 3 rfl rfl rfl (by kernel_rfl)
  exact ⟨⟨a0, a1, a2, a3⟩, ⟨i0, i1, i2, i3⟩, (chain_of r0 (chain_of r1 (chain_of r2 (chain_of r3 (fin_of hl (by kernel_rfl))))))⟩⟩
def TStamp.ok (x : TStamp) : Prop := (inK .i64) x.Epoch ∧ (inK .i64) x.Version
instance opn46 : Opn Tryz.prog 46 TStamp.ds TStamp.ok := ⟨fun {H enc W fuel cs x} h => by
  obtain ⟨xs, n, -, -, hl, hlen, hf⟩ := DataW.trod_struct Tryz.underlying46 h
  obtain ⟨a0, i0, r0⟩ := of_field (T := 3) (o := 0) (c := 1) (f := dsI) (I := (inK .i64)) hf hlen 0 rfl rfl rfl (by kernel_rfl)
  obtain ⟨a1, i1, r1⟩ := of_field (T := 3) (o := 1) (c := 1) (f := dsI) (I := (inK .i64)) hf hlen 1 rfl rfl rfl (by kernel_rfl)
  exact ⟨⟨a0, a1⟩, ⟨i0, i1⟩, (chain_of r0 (chain_of r1 (fin_of hl (by kernel_rfl))))⟩⟩
def Kv.ok (x : Kv) : Prop := szS x.key ∧ szS x.val
instance opn95 : Opn Tryz.prog 95 Kv.ds Kv.ok := ⟨fun {H enc W fuel cs x} h => by
  obtain ⟨xs, n, -, -, hl, hlen, hf⟩ := DataW.trod_struct Tryz.underlying95 h
  obtain ⟨a0, i0, r0⟩ := of_field (T := 9) (o := 0) (c := 1) (f := dsS) (I := szS) hf hlen 0 rfl rfl rfl (by kernel_rfl)
  obtain ⟨a1, i1, r1⟩ := of_field (T := 9) (o := 1) (c := 1) (f := dsS) (I := szS) hf hlen 1 rfl rfl rfl (by kernel_rfl)
  exact ⟨⟨a0, a1⟩, ⟨i0, i1⟩, (chain_of r0 (chain_of r1 (fin_of hl (by kernel_rfl))))⟩⟩
instance opn47 : Opn Tryz.prog 47 (dsL Kv.ds) (allL Kv.ok) := opn_slice (E := 95) Tryz.underlying47 (z := 2) (by kernel_rfl) (by decide)
def TView.ok (x : TView) : Prop := (inK .i64) x.Owner ∧ Rng.ok x.Interval ∧ TStamp.ok x.Stamp ∧ (allL Kv.ok) x.Rows
instance opn49 : Opn Tryz.prog 49 TView.ds TView.ok := ⟨fun {H enc W fuel cs x} h => by
  obtain ⟨xs, n, -, -, hl, hlen, hf⟩ := DataW.trod_struct Tryz.underlying49 h
  obtain ⟨a0, i0, r0⟩ := of_field (T := 3) (o := 0) (c := 1) (f := dsI) (I := (inK .i64)) hf hlen 0 rfl rfl rfl (by kernel_rfl)
  obtain ⟨a1, i1, r1⟩ := of_field (T := 42) (o := 1) (c := 4) (f := Rng.ds) (I := Rng.ok) hf hlen 1 rfl rfl rfl (by kernel_rfl)
  obtain ⟨a2, i2, r2⟩ := of_field (T := 46) (o := 5) (c := 2) (f := TStamp.ds) (I := TStamp.ok) hf hlen 2 rfl rfl rfl (by kernel_rfl)
  obtain ⟨a3, i3, r3⟩ := of_field (T := 47) (o := 7) (c := 1) (f := (dsL Kv.ds)) (I := (allL Kv.ok)) hf hlen 3 rfl rfl rfl (by kernel_rfl)
  exact ⟨⟨a0, a1, a2, a3⟩, ⟨i0, i1, i2, i3⟩, (chain_of r0 (chain_of r1 (chain_of r2 (chain_of r3 (fin_of hl (by kernel_rfl))))))⟩⟩
def TVisit.ok (x : TVisit) : Prop := TView.ok x.View ∧ Rng.ok x.Part
instance opn62 : Opn Tryz.prog 62 TVisit.ds TVisit.ok := ⟨fun {H enc W fuel cs x} h => by
  obtain ⟨xs, n, -, -, hl, hlen, hf⟩ := DataW.trod_struct Tryz.underlying62 h
  obtain ⟨a0, i0, r0⟩ := of_field (T := 49) (o := 0) (c := 8) (f := TView.ds) (I := TView.ok) hf hlen 0 rfl rfl rfl (by kernel_rfl)
  obtain ⟨a1, i1, r1⟩ := of_field (T := 42) (o := 8) (c := 4) (f := Rng.ds) (I := Rng.ok) hf hlen 1 rfl rfl rfl (by kernel_rfl)
  exact ⟨⟨a0, a1⟩, ⟨i0, i1⟩, (chain_of r0 (chain_of r1 (fin_of hl (by kernel_rfl))))⟩⟩
instance opn28 : Opn Tryz.prog 28 (dsL TVisit.ds) (allL TVisit.ok) := opn_slice (E := 62) Tryz.underlying28 (z := 12) (by kernel_rfl) (by decide)
def TReceipt.ok (x : TReceipt) : Prop := TQuery.ok x.Query ∧ (allL TVisit.ok) x.First ∧ (allL TVisit.ok) x.Second
instance opn81 : Opn Tryz.prog 81 TReceipt.ds TReceipt.ok := ⟨fun {H enc W fuel cs x} h => by
  obtain ⟨xs, n, -, -, hl, hlen, hf⟩ := DataW.trod_struct Tryz.underlying81 h
  obtain ⟨a0, i0, r0⟩ := of_field (T := 27) (o := 0) (c := 4) (f := TQuery.ds) (I := TQuery.ok) hf hlen 0 rfl rfl rfl (by kernel_rfl)
  obtain ⟨a1, i1, r1⟩ := of_field (T := 28) (o := 4) (c := 1) (f := (dsL TVisit.ds)) (I := (allL TVisit.ok)) hf hlen 1 rfl rfl rfl (by kernel_rfl)
  obtain ⟨a2, i2, r2⟩ := of_field (T := 28) (o := 5) (c := 1) (f := (dsL TVisit.ds)) (I := (allL TVisit.ok)) hf hlen 2 rfl rfl rfl (by kernel_rfl)
  exact ⟨⟨a0, a1, a2⟩, ⟨i0, i1, i2⟩, (chain_of r0 (chain_of r1 (chain_of r2 (fin_of hl (by kernel_rfl)))))⟩⟩
theorem contract (H : Type) (enc : TypeId × Value → H) (W : World) (base : Nat) (args : Array Value) (ds gs : List (DataW H)) (before : List MemPlace)
    (hval : ∀ (j : Nat) t v, Tryz.f10.params[j]? = some t → args[j]? = some v → Value.okWide Tryz.prog W .any base t v)
    (hW : DataW.Whole enc Tryz.prog Tryz.f10.params.toList Rows.receiptHonestSpec.vars false W args.toList ds gs before) (hL : laidMetH Tryz.prog Rows.receiptHonestRow.laid W) :
    Calls Tryz.prog 10 args W fun e W' => ∃ v, e = .returned v ∧ Rows.receiptHonestSpec.post enc Tryz.prog Tryz.f10 false true false false W args v W' := by
  have hW' := hW
  obtain ⟨p, q, hA0, hV, rfl, hfz, hnd⟩ := hW
  have hA : DataW.TrodAll enc Tryz.prog W 0 (fun _ => true) true Tryz.f10.params.toList args.toList ds p := hA0
  rw [Tryz.params10] at hA hval
  obtain ⟨v0, vs0, d0, ds0, p0, q0, hargs, rfl, rfl, h0, r0⟩ := trodAll_cons hA
  obtain ⟨v1, vs1, d1, ds1, p1, q1, rfl, rfl, rfl, h1, r1⟩ := trodAll_cons r0
  obtain ⟨rfl, rfl, rfl⟩ := trodAll_nil r1
  obtain rfl : args = #[v0, v1] := by cases args; simp_all
  obtain ⟨rfl, rfl⟩ := trodVars_none hV
  obtain ⟨x0, hx0, hr0⟩ := arg_one (f := (dsL dsI)) (I := (allL (inK .i64))) (by obtain ⟨_, _, _, rfl⟩ := okWide_slice Tryz.underlying22 (hval 0 _ v0 rfl rfl); rfl) h0
  obtain ⟨x1, hx1, hr1⟩ := arg_agg (f := TReceipt.ds) (I := TReceipt.ok) Tryz.underlying81 (hval 1 _ v1 rfl rfl) h1
  refine (law_of_spec (Mlaw29_ReceiptHonest_sp (l1 := x0) (raw2 := x1) (hm := receiptHonest_ok _ _)) (letters_ok hL) (.cons (rv_one hr0) (.cons (hr1) (.nil)))).mono fun e W' ⟨he, hk⟩ => ?_
  subst he
  exact ⟨_, rfl, law_post rfl (by kernel_rfl) (by kernel_rfl) rfl hW' hk⟩

theorem laid_met (os : Os) : laidMet Tryz.prog Rows.receiptHonestRow.laid ((laidWorld os).forCall (fun _ _ => 0) ⟨#[], #[.slice none 0 0, .agg #[.int .i64 0, .slice none 0 0, .string ⟨#[]⟩, .int .i64 0, .slice none 0 0, .slice none 0 0]], []⟩).memory :=
  laidMet_of_run' 8 (by kernel_rfl) (by kernel_rfl)
theorem reads (os : Os) {H : Type} (enc : TypeId × Value → H) : ∃ ds places, DataW.whole enc Tryz.prog ((laidWorld os).forCall (fun _ _ => 0) ⟨#[], #[.slice none 0 0, .agg #[.int .i64 0, .slice none 0 0, .string ⟨#[]⟩, .int .i64 0, .slice none 0 0, .slice none 0 0]], []⟩).memory Tryz.f10.params.toList Rows.receiptHonestSpec.vars false (#[.slice none 0 0, .agg #[.int .i64 0, .slice none 0 0, .string ⟨#[]⟩, .int .i64 0, .slice none 0 0, .slice none 0 0]] : Array Value).toList 8 = some (ds, [], places) :=
  ⟨[.nil, .agg [.agg [.lit (.int .i64 0), .nil, .lit (.string []), .lit (.int .i64 0)], .nil, .nil]], [], by kernel_rfl⟩

set_option maxRecDepth 100000 in
theorem lifted (os : Os) (started : os.Started) (H : Type) (enc : TypeId × Value → H) (F : Stop.Interp) :
    ReturnsInHanded {} Tryz.checked os 10 .any ((OpenSpec.ofChange Rows.receiptHonestSpec).preRow enc Tryz.prog Tryz.f10 Rows.receiptHonestRow.domain false Rows.receiptHonestRow.laid) (((OpenSpec.ofChange Rows.receiptHonestSpec).at F).post enc Tryz.prog Tryz.f10 false true false false) := by
  obtain ⟨ds, places, hx⟩ := reads os enc
  refine returnsInHanded_of_row (C := Tryz.checked) (s := OpenSpec.ofChange Rows.receiptHonestSpec) own started (by kernel_rfl) Tryz.func10
    (witness_row_at (enc := enc) (C := Tryz.checked) false (laidWorld os) #[.slice none 0 0, .agg #[.int .i64 0, .slice none 0 0, .string ⟨#[]⟩, .int .i64 0, .slice none 0 0, .slice none 0 0]] rfl (by kernel_rfl) (by kernel_rfl) (by kernel_rfl)
      (OpenSpec.preRow_of_cond 8 hx (by kernel_rfl) (fun k hk => by cases hk) (by kernel_rfl) (laid_met os))) ?_
  intro W base args ds gs before hval hW _ _ _ hL _ _
  exact contract H enc W base args ds gs before hval hW hL

theorem said : Rows.ReceiptHonestSaid :=
  OpenClaim.holds_of_cond 10 Tryz.f10 rfl rfl rfl rfl rfl rfl rfl ⟨rfl, rfl, rfl, rfl, rfl⟩ rfl rfl rfl rfl rfl (by kernel_rfl) Tryz.func10 closed
    (of_decide_eq_true (by kernel_rfl)) (by unfold Func.isWrapper; first | (rw [if_pos (by decide +kernel)]; kernel_rfl) | (rw [if_neg (by decide +kernel)]; exact ⟨rfl, rfl⟩))
    (fun os started H enc _ F => by rw [OpenClaim.pre_eq_preRow]; exact lifted os started H enc F)

theorem plain (f : FuncId) (fn : Func) (hf : Tryz.pinned.checked.prog.funcNamed "skipgraph/skipgraphlaw29.ReceiptHonest" = some f) (hfn : Tryz.pinned.checked.prog.funcs[f]? = some fn) :
    false = Tryz.pinned.checked.prog.looks [] ∧ ∀ (j : Nat) t, fn.params[j]? = some t → Tryz.pinned.checked.prog.wantsStandIn t = false := by
  obtain rfl : f = 10 := Option.some.inj ((show Tryz.prog.funcNamed "skipgraph/skipgraphlaw29.ReceiptHonest" = some 10 by kernel_rfl).symm.trans hf) |>.symm
  obtain rfl : fn = Tryz.f10 := (Option.some.inj (Tryz.func10.symm.trans hfn)).symm
  refine ⟨by kernel_rfl, fun j t ht => ?_⟩
  have hall : (Tryz.f10.params.toList.all fun t => !Tryz.prog.wantsStandIn t) = true := by kernel_rfl
  have := List.all_eq_true.1 hall t (Array.mem_toList_iff.2 (Array.mem_of_getElem? ht))
  exact (by simpa using this : Tryz.prog.wantsStandIn t = false)

theorem card : Rows.ReceiptHonestCardSaid :=
  Claim7.holds_tied_plain_at .later [] _ _ _ _ said (fun _ h => by cases h) (by kernel_rfl) (fun _ h => by cases h) receiptHonest_row_tie rfl ⟨rfl, rfl⟩ (by kernel_rfl) rfl plain (by kernel_rfl)

end Go.Proofs.YtlbnhhfaedhgfaaGreatDoor.receiptHonest
