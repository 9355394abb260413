/-
  Lemmas: Plain laws of the audit
-/
import Derived.Test.YtohpjdeohpamaaaGreatDoorPA22
import Derived.Test.YtohpjdeohpamaaaGreatDoorPA26
import Derived.Test.YtohpjdeohpamaaaGreatDoorPA27
import Derived.Test.YtohpjdeohpamaaaGreatDoorPA28
import Derived.Test.YtohpjdeohpamaaaGreatDoorPA15
import Derived.Test.YtohpjdeohpamaaaGreatDoorRows
import Derived.Test.YtohpjdeohpamaaaGreatDoorPA29
import Derived.Test.YtohpjdeohpamaaaGreatDoorGAuditTablesX1
set_option linter.unusedSimpArgs false
set_option linter.unusedVariables false
namespace Go.Proofs.YtohpjdeohpamaaaGreatDoor
open Go.RowKit
set_option maxRecDepth 100000
set_option maxHeartbeats 4000000
attribute [local irreducible] WK WC WL Wk Rel OpD OpV WD WO sel bnd obnd app lget lsl sget ssl scat letg iquo irem Op.bytesLess
attribute [local irreducible] qchk qranges union
def Mwld_Tape_Write (t1 : TTape) : Option (TWrite × TTape) :=
 obnd (Mwld_Tape_OddKey t1) fun y2 =>
 obnd (Mwld_Tape_OddValue y2.2) fun y3 =>
 obnd (Mwld_Tape_Bool y3.2 5) fun y4 =>
 some ((TWrite.mk y2.1 y3.1 y4.1), y4.2)
theorem Mwld_Tape_Write_sp {t1 : TTape} {y : (TWrite × TTape)} (hm : Mwld_Tape_Write t1 = some y) : Spec Tryz.prog 55 [.p 0 0] [(0, some (.box 89 [.d (lst dsI t1.l), vI t1.at_]))] fun u h => u = .a [vS y.1.Key, vS y.1.Value, vB y.1.Delete] ∧ h = [(0, some (.box 89 [.d (lst dsI y.2.l), vI y.2.at_]))] := by
 refine si Tryz.func55 Tryz.ntmps55 Tryz.results55 fun B w0 ρ0 => ?_
 unfold Mwld_Tape_Write at hm
 refine sr ?_
 refine sr ?_
 obtain ⟨y2, hy, hm⟩ := obnd_o hm
 refine wl_iq (Mwld_Tape_OddKey_sp (hm := hy)) 0 ?_
 refine ss ?_
 obtain ⟨y3, hy, hm⟩ := obnd_o hm
 refine wl_iq (Mwld_Tape_OddValue_sp (hm := hy)) 0 ?_
 refine ss ?_
 obtain ⟨y4, hy, hm⟩ := obnd_o hm
 refine wl_iq (Mwld_Tape_Bool_sp (hm := hy)) 0 ?_
 refine sx ?_
 cases hm
 exact wk_reti [(0, 0)] ⟨rfl, rfl⟩

def Mlaw37_small_l2 (l7 : List TVisit) : Nat → Int → Int → Option Int
  | 0, _, _ => none
  | fuel + 1, n8, x9 =>
  obnd (
   sel (decide (x9 < (l7.length : Int))) (
    some (Ctl.nxt ())) (
    some (Ctl.ret n8)) : Option (Ctl Int Unit)) fun mu => ocbnd mu fun (_ : Unit) =>
  obnd (lget l7 x9) fun e10 =>
  Mlaw37_small_l2 l7 fuel (i64w (n8 + (e10.View.Rows.length : Int))) (i64w (x9 + 1))
def Mlaw37_small_l1 : List TRecord → Int → Option Int
  | [], n2 =>
  some n2
  | r3 :: xs4, n2 =>
  obnd (
   obnd (app ([] : List TVisit) r3.Receipt.First) fun l6 =>
   obnd (app l6 r3.Receipt.Second) fun l7 =>
   obnd (
    Mlaw37_small_l2 l7 FU (i64w (n2 + (i64w ((i64w ((i64w ((r3.Writes.length : Int) + (r3.Receipt.First.length : Int))) + (r3.Receipt.Second.length : Int))) + (r3.Receipt.Query.Ranges.length : Int))))) 0 : Option Int) fun n11 =>
   some n11 : Option Int) fun n12 =>
  Mlaw37_small_l1 xs4 n12
def Mlaw37_small (l1 : List TRecord) : Option Bool :=
 obnd (
  Mlaw37_small_l1 l1 (l1.length : Int) : Option Int) fun n13 =>
 some (decide (n13 ≤ 200))
theorem Mlaw37_small_sp {l1 : List TRecord} {y : Bool} (hm : Mlaw37_small l1 = some y) : Spec Tryz.prog 34 [.d (lst TRecord.ds l1)] [] fun u h => u = vB y ∧ h = [] := by
 refine si Tryz.func34 Tryz.ntmps34 Tryz.results34 fun B w0 ρ0 => ?_
 unfold Mlaw37_small at hm
 refine sr ?_
 refine sr ?_
 refine sr ?_
 obtain ⟨mu1, hm1, hm⟩ := obnd_o hm
 refine wc_cut' (fun st => ∃ (n13 : Int), n13 = mu1 ∧ st = ⟨[(3, vI n13)], []⟩) ?_ ?_
 ·refine wc_block ?_
  refine wc_len 10 rfl (fun hlenm5 => ?_)
  refine wc_loopw (fun κ st => ∃ (m5 : Nat) (n2 : Int), κ = l1.length - m5 ∧ m5 ≤ l1.length ∧ Mlaw37_small_l1 (l1.drop m5) n2 = some mu1 ∧ st = ⟨[(3, vI n2), (10, .d (lst TRecord.ds l1)), (11, vI (l1.length : Int)), (12, vI (m5 : Int))], []⟩) [] ⟨0, _, rfl, Nat.zero_le _, hm1, rfl⟩ ?_
  rintro κ _ ⟨m5, n2, rfl, hlem5, hm1, rfl⟩
  rcases Nat.lt_or_ge m5 l1.length with hltm5 | hgem5
  ·obtain ⟨r3, hxm5, hdr⟩ := drop_c hltm5
   rw [hdr, Mlaw37_small_l1.eq_2] at hm1
   refine sr ?_
   refine wc_seq ?_
   refine wc_cond_tt (lt_t hltm5) rfl ?_
   refine sx ?_
   refine wc_seq ?_
   obtain ⟨mu2, hm2, hm1⟩ := obnd_o hm1
   refine wc_cut' (fun st => ∃ (n12 : Int), n12 = mu2 ∧ st = ⟨[(3, vI n12), (10, .d (lst TRecord.ds l1)), (11, vI (l1.length : Int)), (12, vI (m5 : Int))], []⟩) ?_ ?_
   ·refine sr ?_
    refine wl_r (o_ixm (ys := [dI r3.Kind, lst TWrite.ds r3.Writes, dS r3.Key, dS r3.Value, dB r3.Has, dI r3.Query, dI r3.Receipt.Query.Kind, lst Rng.ds r3.Receipt.Query.Ranges, dS r3.Receipt.Query.Key, dI r3.Receipt.Query.Count, lst TVisit.ds r3.Receipt.First, lst TVisit.ds r3.Receipt.Second]) hxm5 rfl rfl rfl rfl) rfl rfl rfl ?_
    refine sr ?_
    refine wl_r (o_add rfl rfl rfl rfl) rfl rfl rfl ?_
    refine ss ?_
    refine wl_r (o_add rfl rfl rfl rfl) rfl rfl rfl ?_
    refine ss ?_
    refine wl_r (o_add rfl rfl rfl rfl) rfl rfl rfl ?_
    refine ss ?_
    refine wl_r (o_add rfl rfl rfl rfl) rfl rfl rfl ?_
    refine ss ?_
    refine wc_seq ?_
    refine wc_draw (id := 6) [⟨0, 0, [5]⟩, ⟨1, 1, [37]⟩, ⟨2, 3, [38]⟩, ⟨3, 7, [39]⟩, ⟨4, 0, [5]⟩, ⟨5, 16, [41]⟩, ⟨6, 48, [42]⟩, ⟨7, 127, [40, 43]⟩, ⟨8, 255, [44]⟩, ⟨9, 0, []⟩] mixed (by kernel_rfl) ?_
    refine ss ?_
    obtain ⟨l6, hy, hm2⟩ := obnd_o hm2
    refine wd_1 [] (n_appn (k := 140) hy rfl rfl rfl rfl rfl rfl) rfl (by first | exact .no rfl | exact .y rfl rfl rfl rfl) rfl rfl rfl ?_
    refine ss ?_
    obtain ⟨l7, hy, hm2⟩ := obnd_o hm2
    refine wd_app (k' := 144) hy rfl rfl rfl rfl rfl rfl rfl rfl (by first | exact .no rfl | exact .y rfl rfl rfl rfl) rfl rfl rfl ?_
    refine ss ?_
    obtain ⟨mu3, hm3, hm2⟩ := obnd_o hm2
    refine wc_cut' (fun st => ∃ (n11 : Int), n11 = mu3 ∧ st = ⟨[(3, vI n11), (10, .d (lst TRecord.ds l1)), (11, vI (l1.length : Int)), (12, vI (m5 : Int))], []⟩) ?_ ?_
    ·refine wc_block ?_
     refine wc_loopw (fun κ st => ∃ (n8 : Int) (x9 : Int), Mlaw37_small_l2 l7 κ n8 x9 = some mu3 ∧ st = ⟨[(3, vI n8), (10, .d (lst TRecord.ds l1)), (11, vI (l1.length : Int)), (12, vI (m5 : Int)), (44, .h 144), (45, vI (l7.length : Int)), (46, vI x9)], [(144, some (arrT 144 12 TVisit.ds l7))]⟩) [(144, 144)] ⟨_, _, hm3, rfl⟩ ?_
     rintro κ _ ⟨n8, x9, hm3, rfl⟩
     cases κ with
     | zero => rw [Mlaw37_small_l2.eq_1] at hm3; cases hm3
     | succ κ =>
      rw [Mlaw37_small_l2.eq_2] at hm3
      refine sr ?_
      refine wc_seq ?_
      obtain ⟨mu4, hm4, hm3⟩ := obnd_o hm3
      refine wc_cut' (fun st => mu4 = Ctl.nxt () ∧ st = ⟨[(3, vI n8), (10, .d (lst TRecord.ds l1)), (11, vI (l1.length : Int)), (12, vI (m5 : Int)), (44, .h 144), (45, vI (l7.length : Int)), (46, vI x9)], [(144, some (arrT 144 12 TVisit.ds l7))]⟩) ?_ ?_
      ·refine wc_cs hm4 ?_ ?_ <;> clear hm4 <;> intro hm4
       ·refine sx ?_
        cases hm4
        exact wk_cutw [(144, 144)] ⟨rfl, rfl⟩
       refine wc_exit ?_
       refine ss ?_
       cases hm4
       replace hm3 := ocbnd_r hm3
       cases hm3
       exact wk_cutw [] ⟨_, rfl, rfl⟩
      rintro _ ⟨rfl, rfl⟩
      replace hm3 := ocbnd_n hm3
      refine sr ?_
      obtain ⟨e10, hy, hm3⟩ := obnd_o hm3
      have hge10 := hy
      refine wl_r (o_ixo hy rfl rfl rfl rfl) rfl rfl rfl ?_
      refine ss ?_
      refine wl_r (o_ldo (k := 144) (f := TVisit.ds) (zz := 12) (u := .a [vI e10.View.Owner, vS e10.View.Interval.lo.key, vB e10.View.Interval.lo.top, vS e10.View.Interval.hi.key, vB e10.View.Interval.hi.top, vI e10.View.Stamp.Epoch, vI e10.View.Stamp.Version, .d (lst Kv.ds e10.View.Rows), vS e10.Part.lo.key, vB e10.Part.lo.top, vS e10.Part.hi.key, vB e10.Part.hi.top]) (off := 0) hge10 rfl rfl rfl (by exact inferInstance) rfl rfl) rfl rfl rfl ?_
      refine sr ?_
      refine wl_r (o_add rfl rfl rfl rfl) rfl rfl rfl ?_
      refine sr ?_
      refine wl_r (o_add rfl rfl rfl rfl) rfl rfl rfl ?_
      refine ss ?_
      exact wk_loopw [(144, 144)] ⟨_, _, hm3, rfl⟩ (Nat.lt_succ_self _)
    rintro _ ⟨n11, rfl, rfl⟩
    refine ss ?_
    cases hm2
    exact wk_cutw [] ⟨_, rfl, rfl⟩
   rintro _ ⟨n12, rfl, rfl⟩
   refine sr ?_
   refine wl_r (o_inc hltm5 hlenm5 rfl rfl rfl) rfl rfl rfl ?_
   refine ss ?_
   exact wk_loopw [] ⟨m5 + 1, _, rfl, hltm5, hm1, rfl⟩ (by omega)
  ·rw [drop_n hgem5, Mlaw37_small_l1.eq_1] at hm1
   refine sr ?_
   refine wc_seq ?_
   refine wc_cond_ff (lt_f hgem5) rfl ?_
   refine wc_exit ?_
   refine ss ?_
   cases hm1
   exact wk_cutw [] ⟨_, rfl, rfl⟩
 rintro _ ⟨n13, rfl, rfl⟩
 refine sr ?_
 refine sx ?_
 cases hm
 exact wk_r

def Mlaw37_free_l1 : Nat → List Int → Int → List (List Kv) → List TRecord → Int → Option (List TRecord × List Int × Int)
  | 0, _, _, _, _, _ => none
  | fuel + 1, x4, x5, tables6, l7, i8 =>
  obnd (
   sel (decide (0 < i8)) (
    some (Ctl.nxt ())) (
    some (Ctl.ret (l7, x4, x5))) : Option (Ctl (List TRecord × List Int × Int) Unit)) fun mu => ocbnd mu fun (_ : Unit) =>
  obnd (lget tables6 (i64w ((tables6.length : Int) - 1))) fun e9 =>
  obnd (Mwld_Tape_Next (TTape.mk x4 x5) 5) fun y10 =>
  obnd (
   sel (decide (y10.1 = 0)) (
    some (decide (y10.1 = 0))) (
    some (decide (y10.1 = 1))) : Option Bool) fun x11 =>
  sel x11 (
   bnd (Mwld_All) fun y12 =>
   obnd (Mwld_Tape_WriteIn y10.2 y12) fun y13 =>
   bnd (Mwld_All) fun y14 =>
   obnd (Mwld_Tape_WriteIn y13.2 y14) fun y15 =>
   obnd (Mwld_Tape_Next y15.2 2) fun y16 =>
   obnd (lsl ([y13.1, y15.1] : List TWrite) 0 (i64w (1 + y16.1))) fun l17 =>
   obnd (Mref20_Apply e9 l17) fun y18 =>
   obnd (app l7 ([(TRecord.mk 1 l17 ⟨#[]⟩ ⟨#[]⟩ false 0 (TReceipt.mk (TQuery.mk 0 ([] : List Rng) ⟨#[]⟩ 0) ([] : List TVisit) ([] : List TVisit)))] : List TRecord)) fun l19 =>
   obnd (app tables6 ([y18.1] : List (List Kv))) fun l20 =>
   Mlaw37_free_l1 fuel y16.2.l y16.2.at_ l20 l19 (i64w (i8 - 1))) (
   sel (decide (y10.1 = 2)) (
    obnd (Mwld_Tape_Key y10.2) fun y21 =>
    bnd (Mref20_Get e9 y21.1) fun y22 =>
    obnd (app l7 ([(TRecord.mk 2 ([] : List TWrite) y21.1 y22.1 y22.2 0 (TReceipt.mk (TQuery.mk 0 ([] : List Rng) ⟨#[]⟩ 0) ([] : List TVisit) ([] : List TVisit)))] : List TRecord)) fun l23 =>
    obnd (app tables6 ([e9] : List (List Kv))) fun l24 =>
    Mlaw37_free_l1 fuel y21.2.l y21.2.at_ l24 l23 (i64w (i8 - 1))) (
    sel (decide (y10.1 = 3)) (
     obnd (Mwld_Tape_Next y10.2 4) fun y25 =>
     bnd (Mwld_Whole) fun y26 =>
     obnd (app l7 ([(TRecord.mk 3 ([] : List TWrite) ⟨#[]⟩ ⟨#[]⟩ false y25.1 (TReceipt.mk y26 ([] : List TVisit) ([] : List TVisit)))] : List TRecord)) fun l27 =>
     obnd (app tables6 ([e9] : List (List Kv))) fun l28 =>
     Mlaw37_free_l1 fuel y25.2.l y25.2.at_ l28 l27 (i64w (i8 - 1))) (
     sel (decide (y10.1 = 4)) (
      obnd (Mwld_Tape_Next y10.2 4) fun y29 =>
      obnd (Mwld_Tape_Next y29.2 (tables6.length : Int)) fun y30 =>
      obnd (lget tables6 y30.1) fun e31 =>
      bnd (Mlaw37_proof e31) fun y32 =>
      obnd (app l7 ([(TRecord.mk 4 ([] : List TWrite) ⟨#[]⟩ ⟨#[]⟩ false y29.1 y32)] : List TRecord)) fun l33 =>
      obnd (app tables6 ([e9] : List (List Kv))) fun l34 =>
      Mlaw37_free_l1 fuel y30.2.l y30.2.at_ l34 l33 (i64w (i8 - 1))) (
      obnd (app tables6 ([e9] : List (List Kv))) fun l35 =>
      Mlaw37_free_l1 fuel y10.2.l y10.2.at_ l35 l7 (i64w (i8 - 1))))))
def Mlaw37_free (t1 : TTape) : Option (List Kv × List TRecord × TTape) :=
 obnd (Mwld_Tape_Rows t1 3) fun y2 =>
 obnd (Mwld_Tape_Next y2.2 8) fun y3 =>
 obnd (
  Mlaw37_free_l1 FU y3.2.l y3.2.at_ ([y2.1] : List (List Kv)) [] (i64w (2 + y3.1)) : Option (List TRecord × List Int × Int)) fun (l36, x37, x38) =>
 some (y2.1, l36, (TTape.mk x37 x38))
theorem Mlaw37_free_sp {t1 : TTape} {y : (List Kv × List TRecord × TTape)} (hm : Mlaw37_free t1 = some y) : Spec Tryz.prog 11 [.p 0 0] [(0, some (.box 89 [.d (lst dsI t1.l), vI t1.at_]))] fun u h => u = .t [.d (lst Kv.ds y.1), .d (lst TRecord.ds y.2.1)] ∧ h = [(0, some (.box 89 [.d (lst dsI y.2.2.l), vI y.2.2.at_]))] := by
 refine si Tryz.func11 Tryz.ntmps11 Tryz.results11 fun B w0 ρ0 => ?_
 unfold Mlaw37_free at hm
 refine sr ?_
 refine sr ?_
 obtain ⟨y2, hy, hm⟩ := obnd_o hm
 refine wl_iq (Mwld_Tape_Rows_sp (hm := hy)) 0 ?_
 refine sr ?_
 refine wl_1 (n_bso (k := 116) (dsL Kv.ds) [y2.1] rfl rfl rfl rfl (by simp only [flatV, cellsV, List.cons_append, List.nil_append, List.append_nil]; exact rfl) rfl rfl) rfl rfl rfl rfl ?_
 refine sr ?_
 refine sr ?_
 obtain ⟨y3, hy, hm⟩ := obnd_o hm
 refine wl_iq (Mwld_Tape_Next_sp (hm := hy)) 0 ?_
 refine ss ?_
 refine wl_r (o_add rfl rfl rfl rfl) rfl rfl rfl ?_
 refine ss ?_
 obtain ⟨mu1, hm1, hm⟩ := obnd_o hm
 refine wc_cut' (fun st => ∃ (l36 : List TRecord) (x37 : List Int) (x38 : Int), mu1 = (l36, x37, x38) ∧ st = ⟨[(4, .d (lst Kv.ds y2.1)), (6, .d (lst TRecord.ds l36))], [(0, some (.box 89 [.d (lst dsI x37), vI x38]))]⟩) ?_ ?_
 ·refine wc_block ?_
  refine wc_wk (wk_nil 6 5002 65 12 rfl rfl) ?_
  refine wc_loopw (fun κ st => ∃ (x4 : List Int) (x5 : Int) (tables6 : List (List Kv)) (l7 : List TRecord) (i8 : Int), Mlaw37_free_l1 κ x4 x5 tables6 l7 i8 = some mu1 ∧ st = ⟨[(0, .p 0 0), (4, .d (lst Kv.ds y2.1)), (5, .h 5001), (6, .h 5002), (7, vI i8)], [(0, some (.box 89 [.d (lst dsI x4), vI x5])), (5001, some (arrT 26 1 (dsL Kv.ds) tables6)), (5002, some (arrT 65 12 TRecord.ds l7))]⟩) [(0, 0), (5001, 116), (5002, 5002)] ⟨_, _, _, _, _, hm1, rfl⟩ ?_
  rintro κ _ ⟨x4, x5, tables6, l7, i8, hm1, rfl⟩
  cases κ with
  | zero => rw [Mlaw37_free_l1.eq_1] at hm1; cases hm1
  | succ κ =>
   rw [Mlaw37_free_l1.eq_2] at hm1
   refine sr ?_
   obtain ⟨mu2, hm2, hm1⟩ := obnd_o hm1
   refine wc_cut' (fun st => mu2 = Ctl.nxt () ∧ st = ⟨[(0, .p 0 0), (4, .d (lst Kv.ds y2.1)), (5, .h 5001), (6, .h 5002), (7, vI i8)], [(0, some (.box 89 [.d (lst dsI x4), vI x5])), (5001, some (arrT 26 1 (dsL Kv.ds) tables6)), (5002, some (arrT 65 12 TRecord.ds l7))]⟩) ?_ ?_
   ·refine wc_cs hm2 ?_ ?_ <;> clear hm2 <;> intro hm2
    ·refine sx ?_
     cases hm2
     exact wk_cutw [(0, 0), (5001, 5001), (5002, 5002)] ⟨rfl, rfl⟩
    refine wc_exit ?_
    refine ss ?_
    cases hm2
    replace hm1 := ocbnd_r hm1
    cases hm1
    exact wk_cutw [(0, 0)] ⟨_, _, _, rfl, rfl⟩
   rintro _ ⟨rfl, rfl⟩
   replace hm1 := ocbnd_n hm1
   refine sr ?_
   obtain ⟨e9, hy, hm1⟩ := obnd_o hm1
   have hge9 := hy
   refine wl_r (o_ixo hy rfl rfl rfl rfl) rfl rfl rfl ?_
   refine ss ?_
   refine wl_r (o_ldo (k := 5001) (f := (dsL Kv.ds)) (zz := 1) (u := .d (lst Kv.ds e9)) (off := 0) hge9 rfl rfl rfl (by exact inferInstance) rfl rfl) rfl rfl rfl ?_
   refine sr ?_
   obtain ⟨y10, hy, hm1⟩ := obnd_o hm1
   refine wl_iq (Mwld_Tape_Next_sp (hm := hy)) 0 ?_
   refine sr ?_
   obtain ⟨mu2, hm2, hm1⟩ := obnd_o hm1
   refine wc_cut' (fun st => ∃ (x11 : Bool), x11 = mu2 ∧ st = ⟨[(0, .p 0 0), (4, .d (lst Kv.ds y2.1)), (5, .h 5001), (6, .h 5002), (7, vI i8), (8, .d (lst Kv.ds e9)), (31, vI y10.1), (32, vB x11)], [(0, some (.box 89 [.d (lst dsI y10.2.l), vI y10.2.at_])), (5001, some (arrT 26 1 (dsL Kv.ds) tables6)), (5002, some (arrT 65 12 TRecord.ds l7))]⟩) ?_ ?_
   ·refine wc_cs hm2 ?_ ?_ <;> clear hm2 <;> intro hm2
    ·refine sx ?_
     cases hm2
     exact wk_cutw [(0, 0), (5001, 5001), (5002, 5002)] ⟨_, rfl, rfl⟩
    refine sr ?_
    cases hm2
    exact wk_cutw [(0, 0), (5001, 5001), (5002, 5002)] ⟨_, rfl, rfl⟩
   rintro _ ⟨x11, rfl, rfl⟩
   refine ss ?_
   refine wc_cs hm1 ?_ ?_ <;> clear hm1 <;> intro hm1
   ·refine sr ?_
    obtain ⟨y12, hy, hm1⟩ := bnd_o hm1
    refine wl_cq (Mwld_All_sp (hm := hy)) ?_
    refine ss ?_
    obtain ⟨y13, hy, hm1⟩ := obnd_o hm1
    refine wl_iq (Mwld_Tape_WriteIn_sp (hm := hy)) 0 ?_
    refine ss ?_
    obtain ⟨y14, hy, hm1⟩ := bnd_o hm1
    refine wl_cq (Mwld_All_sp (hm := hy)) ?_
    refine ss ?_
    obtain ⟨y15, hy, hm1⟩ := obnd_o hm1
    refine wl_iq (Mwld_Tape_WriteIn_sp (hm := hy)) 0 ?_
    refine ss ?_
    refine wl_bt TWrite.ds [y13.1, y15.1] rfl rfl (by simp only [flatV, cellsV, List.cons_append, List.nil_append, List.append_nil]; exact rfl) rfl rfl rfl rfl rfl rfl ?_
    refine ss ?_
    obtain ⟨y16, hy, hm1⟩ := obnd_o hm1
    refine wl_iq (Mwld_Tape_Next_sp (hm := hy)) 0 ?_
    refine ss ?_
    refine wl_r (o_add rfl rfl rfl rfl) rfl rfl rfl ?_
    refine ss ?_
    obtain ⟨l17, hy, hm1⟩ := obnd_o hm1
    refine wl_r (o_lsl hy rfl rfl rfl rfl) rfl rfl rfl ?_
    refine sr ?_
    obtain ⟨y18, hy, hm1⟩ := obnd_o hm1
    refine wl_cq (Mref20_Apply_sp (hm := hy)) ?_
    refine sr ?_
    refine wl_wkw [(0, 0), (5001, 5001), (5002, 5002)] ⟨[(0, .p 0 0), (4, .d (lst Kv.ds y2.1)), (5, .h 5001), (6, .h 5002), (7, vI i8), (8, .d (lst Kv.ds y18.1)), (52, .h 5002), (54, .a [vI 1, .d (lst TWrite.ds l17), vS ⟨#[]⟩, vS ⟨#[]⟩, vB false, vI 0, vI 0, .d (lst Rng.ds ([] : List Rng)), vS ⟨#[]⟩, vI 0, .d (lst TVisit.ds ([] : List TVisit)), .d (lst TVisit.ds ([] : List TVisit))])], [(0, some (.box 89 [.d (lst dsI y16.2.l), vI y16.2.at_])), (5001, some (arrT 26 1 (dsL Kv.ds) tables6)), (5002, some (arrT 65 12 TRecord.ds l7))]⟩ ?_
    refine ss ?_
    refine wl_bt TRecord.ds [(TRecord.mk 1 l17 ⟨#[]⟩ ⟨#[]⟩ false 0 (TReceipt.mk (TQuery.mk 0 ([] : List Rng) ⟨#[]⟩ 0) ([] : List TVisit) ([] : List TVisit)))] rfl rfl (by simp only [flatV, cellsV, List.cons_append, List.nil_append, List.append_nil]; exact rfl) rfl rfl rfl rfl rfl rfl ?_
    refine ss ?_
    obtain ⟨l19, hy, hm1⟩ := obnd_o hm1
    refine wl_2 (n_app (k' := 156) hy rfl rfl rfl rfl rfl rfl rfl rfl) rfl rfl rfl rfl ?_
    refine sr ?_
    refine wl_bt (dsL Kv.ds) [y18.1] rfl rfl (by simp only [flatV, cellsV, List.cons_append, List.nil_append, List.append_nil]; exact rfl) rfl rfl rfl rfl rfl rfl ?_
    refine ss ?_
    obtain ⟨l20, hy, hm1⟩ := obnd_o hm1
    refine wl_2 (n_app (k' := 203) hy rfl rfl rfl rfl rfl rfl rfl rfl) rfl rfl rfl rfl ?_
    refine sr ?_
    exact wk_loopw [(0, 0), (5001, 203), (5002, 156)] ⟨_, _, _, _, _, hm1, rfl⟩ (Nat.lt_succ_self _)
   refine sr ?_
   refine wc_cs hm1 ?_ ?_ <;> clear hm1 <;> intro hm1
   ·refine sr ?_
    obtain ⟨y21, hy, hm1⟩ := obnd_o hm1
    refine wl_iq (Mwld_Tape_Key_sp (hm := hy)) 0 ?_
    refine sr ?_
    obtain ⟨y22, hy, hm1⟩ := bnd_o hm1
    refine wl_cq (Mref20_Get_sp (hm := hy)) ?_
    refine sr ?_
    refine wl_wkw [(0, 0), (5001, 5001), (5002, 5002)] ⟨[(0, .p 0 0), (4, .d (lst Kv.ds y2.1)), (5, .h 5001), (6, .h 5002), (7, vI i8), (8, .d (lst Kv.ds e9)), (67, .h 5002), (71, .a [vI 2, .d (lst TWrite.ds ([] : List TWrite)), vS y21.1, vS y22.1, vB y22.2, vI 0, vI 0, .d (lst Rng.ds ([] : List Rng)), vS ⟨#[]⟩, vI 0, .d (lst TVisit.ds ([] : List TVisit)), .d (lst TVisit.ds ([] : List TVisit))])], [(0, some (.box 89 [.d (lst dsI y21.2.l), vI y21.2.at_])), (5001, some (arrT 26 1 (dsL Kv.ds) tables6)), (5002, some (arrT 65 12 TRecord.ds l7))]⟩ ?_
    refine ss ?_
    refine wl_bt TRecord.ds [(TRecord.mk 2 ([] : List TWrite) y21.1 y22.1 y22.2 0 (TReceipt.mk (TQuery.mk 0 ([] : List Rng) ⟨#[]⟩ 0) ([] : List TVisit) ([] : List TVisit)))] rfl rfl (by simp only [flatV, cellsV, List.cons_append, List.nil_append, List.append_nil]; exact rfl) rfl rfl rfl rfl rfl rfl ?_
    refine ss ?_
    obtain ⟨l23, hy, hm1⟩ := obnd_o hm1
    refine wl_2 (n_app (k' := 173) hy rfl rfl rfl rfl rfl rfl rfl rfl) rfl rfl rfl rfl ?_
    refine sr ?_
    refine wl_bt (dsL Kv.ds) [e9] rfl rfl (by simp only [flatV, cellsV, List.cons_append, List.nil_append, List.append_nil]; exact rfl) rfl rfl rfl rfl rfl rfl ?_
    refine ss ?_
    obtain ⟨l24, hy, hm1⟩ := obnd_o hm1
    refine wl_2 (n_app (k' := 203) hy rfl rfl rfl rfl rfl rfl rfl rfl) rfl rfl rfl rfl ?_
    refine sr ?_
    exact wk_loopw [(0, 0), (5001, 203), (5002, 173)] ⟨_, _, _, _, _, hm1, rfl⟩ (Nat.lt_succ_self _)
   refine sr ?_
   refine wc_cs hm1 ?_ ?_ <;> clear hm1 <;> intro hm1
   ·refine sr ?_
    obtain ⟨y25, hy, hm1⟩ := obnd_o hm1
    refine wl_iq (Mwld_Tape_Next_sp (hm := hy)) 0 ?_
    refine ss ?_
    obtain ⟨y26, hy, hm1⟩ := bnd_o hm1
    refine wl_cq (Mwld_Whole_sp (hm := hy)) ?_
    refine ss ?_
    refine wl_wkw [(0, 0), (5001, 5001), (5002, 5002)] ⟨[(0, .p 0 0), (4, .d (lst Kv.ds y2.1)), (5, .h 5001), (6, .h 5002), (7, vI i8), (8, .d (lst Kv.ds e9)), (76, .h 5002), (81, .a [vI 3, .d (lst TWrite.ds ([] : List TWrite)), vS ⟨#[]⟩, vS ⟨#[]⟩, vB false, vI y25.1, vI y26.Kind, .d (lst Rng.ds y26.Ranges), vS y26.Key, vI y26.Count, .d (lst TVisit.ds ([] : List TVisit)), .d (lst TVisit.ds ([] : List TVisit))])], [(0, some (.box 89 [.d (lst dsI y25.2.l), vI y25.2.at_])), (5001, some (arrT 26 1 (dsL Kv.ds) tables6)), (5002, some (arrT 65 12 TRecord.ds l7))]⟩ ?_
    refine ss ?_
    refine wl_bt TRecord.ds [(TRecord.mk 3 ([] : List TWrite) ⟨#[]⟩ ⟨#[]⟩ false y25.1 (TReceipt.mk y26 ([] : List TVisit) ([] : List TVisit)))] rfl rfl (by simp only [flatV, cellsV, List.cons_append, List.nil_append, List.append_nil]; exact rfl) rfl rfl rfl rfl rfl rfl ?_
    refine ss ?_
    obtain ⟨l27, hy, hm1⟩ := obnd_o hm1
    refine wl_2 (n_app (k' := 183) hy rfl rfl rfl rfl rfl rfl rfl rfl) rfl rfl rfl rfl ?_
    refine sr ?_
    refine wl_bt (dsL Kv.ds) [e9] rfl rfl (by simp only [flatV, cellsV, List.cons_append, List.nil_append, List.append_nil]; exact rfl) rfl rfl rfl rfl rfl rfl ?_
    refine ss ?_
    obtain ⟨l28, hy, hm1⟩ := obnd_o hm1
    refine wl_2 (n_app (k' := 203) hy rfl rfl rfl rfl rfl rfl rfl rfl) rfl rfl rfl rfl ?_
    refine sr ?_
    exact wk_loopw [(0, 0), (5001, 203), (5002, 183)] ⟨_, _, _, _, _, hm1, rfl⟩ (Nat.lt_succ_self _)
   refine sr ?_
   refine wc_cs hm1 ?_ ?_ <;> clear hm1 <;> intro hm1
   ·refine sr ?_
    obtain ⟨y29, hy, hm1⟩ := obnd_o hm1
    refine wl_iq (Mwld_Tape_Next_sp (hm := hy)) 0 ?_
    refine ss ?_
    obtain ⟨y30, hy, hm1⟩ := obnd_o hm1
    refine wl_iq (Mwld_Tape_Next_sp (hm := hy)) 0 ?_
    refine ss ?_
    obtain ⟨e31, hy, hm1⟩ := obnd_o hm1
    have hge31 := hy
    refine wl_r (o_ixo hy rfl rfl rfl rfl) rfl rfl rfl ?_
    refine ss ?_
    refine wl_r (o_ldo (k := 5001) (f := (dsL Kv.ds)) (zz := 1) (u := .d (lst Kv.ds e31)) (off := 0) hge31 rfl rfl rfl (by exact inferInstance) rfl rfl) rfl rfl rfl ?_
    refine ss ?_
    obtain ⟨y32, hy, hm1⟩ := bnd_o hm1
    refine wl_cq (Mlaw37_proof_sp (hm := hy)) ?_
    refine ss ?_
    refine wl_wkw [(0, 0), (5001, 5001), (5002, 5002)] ⟨[(0, .p 0 0), (4, .d (lst Kv.ds y2.1)), (5, .h 5001), (6, .h 5002), (7, vI i8), (8, .d (lst Kv.ds e9)), (86, .h 5002), (97, .a [vI 4, .d (lst TWrite.ds ([] : List TWrite)), vS ⟨#[]⟩, vS ⟨#[]⟩, vB false, vI y29.1, vI y32.Query.Kind, .d (lst Rng.ds y32.Query.Ranges), vS y32.Query.Key, vI y32.Query.Count, .d (lst TVisit.ds y32.First), .d (lst TVisit.ds y32.Second)])], [(0, some (.box 89 [.d (lst dsI y30.2.l), vI y30.2.at_])), (5001, some (arrT 26 1 (dsL Kv.ds) tables6)), (5002, some (arrT 65 12 TRecord.ds l7))]⟩ ?_
    refine ss ?_
    refine wl_bt TRecord.ds [(TRecord.mk 4 ([] : List TWrite) ⟨#[]⟩ ⟨#[]⟩ false y29.1 y32)] rfl rfl (by simp only [flatV, cellsV, List.cons_append, List.nil_append, List.append_nil]; exact rfl) rfl rfl rfl rfl rfl rfl ?_
    refine ss ?_
    obtain ⟨l33, hy, hm1⟩ := obnd_o hm1
    refine wl_2 (n_app (k' := 199) hy rfl rfl rfl rfl rfl rfl rfl rfl) rfl rfl rfl rfl ?_
    refine sr ?_
    refine wl_bt (dsL Kv.ds) [e9] rfl rfl (by simp only [flatV, cellsV, List.cons_append, List.nil_append, List.append_nil]; exact rfl) rfl rfl rfl rfl rfl rfl ?_
    refine ss ?_
    obtain ⟨l34, hy, hm1⟩ := obnd_o hm1
    refine wl_2 (n_app (k' := 203) hy rfl rfl rfl rfl rfl rfl rfl rfl) rfl rfl rfl rfl ?_
    refine sr ?_
    exact wk_loopw [(0, 0), (5001, 203), (5002, 199)] ⟨_, _, _, _, _, hm1, rfl⟩ (Nat.lt_succ_self _)
   refine sx ?_
   refine sr ?_
   refine wl_bt (dsL Kv.ds) [e9] rfl rfl (by simp only [flatV, cellsV, List.cons_append, List.nil_append, List.append_nil]; exact rfl) rfl rfl rfl rfl rfl rfl ?_
   refine ss ?_
   obtain ⟨l35, hy, hm1⟩ := obnd_o hm1
   refine wl_2 (n_app (k' := 203) hy rfl rfl rfl rfl rfl rfl rfl rfl) rfl rfl rfl rfl ?_
   refine sr ?_
   exact wk_loopw [(0, 0), (5001, 203), (5002, 5002)] ⟨_, _, _, _, _, hm1, rfl⟩ (Nat.lt_succ_self _)
 rintro _ ⟨l36, x37, x38, rfl, rfl⟩
 refine sr ?_
 refine sx ?_
 cases hm
 exact wk_reti [(0, 0)] ⟨rfl, rfl⟩

def Mlaw37_odd (t1 : TTape) (l2 : List TRecord) : Option (List TRecord × TTape) :=
 obnd (app ([] : List TRecord) l2) fun l3 =>
 sel (decide ((l3.length : Int) = 0)) (
  obnd (Mwld_Tape_Next t1 6) fun y4 =>
  obnd (app l3 ([(TRecord.mk y4.1 ([] : List TWrite) ⟨#[]⟩ ⟨#[]⟩ false 0 (TReceipt.mk (TQuery.mk 0 ([] : List Rng) ⟨#[]⟩ 0) ([] : List TVisit) ([] : List TVisit)))] : List TRecord)) fun l5 =>
  some (l5, y4.2)) (
  obnd (Mwld_Tape_Next t1 (l3.length : Int)) fun y6 =>
  obnd (lget l3 y6.1) fun e7 =>
  obnd (Mwld_Tape_Next y6.2 9) fun y8 =>
  sel (decide (y8.1 = 8)) (
   obnd (Mwld_Tape_Query y8.2) fun y9 =>
   bnd ((TRecord.mk e7.Kind e7.Writes e7.Key e7.Value e7.Has e7.Query (TReceipt.mk y9.1 e7.Receipt.First e7.Receipt.Second))) fun e11 =>
   bnd (l3.set (Int.toNat y6.1) e11) fun l10 =>
   some (l10, y9.2)) (
   sel (decide (y8.1 = 0)) (
    obnd (Mwld_Tape_Next y8.2 6) fun y12 =>
    bnd ((TRecord.mk y12.1 e7.Writes e7.Key e7.Value e7.Has e7.Query e7.Receipt)) fun e14 =>
    bnd (l3.set (Int.toNat y6.1) e14) fun l13 =>
    some (l13, y12.2)) (
    sel (decide (y8.1 = 1)) (
     obnd (app ([] : List TWrite) e7.Writes) fun l15 =>
     obnd (Mwld_Tape_Write y8.2) fun y16 =>
     obnd (app l15 ([y16.1] : List TWrite)) fun l17 =>
     bnd ((TRecord.mk e7.Kind l17 e7.Key e7.Value e7.Has e7.Query e7.Receipt)) fun e19 =>
     bnd (l3.set (Int.toNat y6.1) e19) fun l18 =>
     some (l18, y16.2)) (
     sel (decide (y8.1 = 2)) (
      obnd (Mwld_Tape_OddValue y8.2) fun y20 =>
      obnd (Mwld_Tape_Bool y20.2 2) fun y21 =>
      bnd ((TRecord.mk e7.Kind e7.Writes e7.Key y20.1 e7.Has e7.Query e7.Receipt)) fun e23 =>
      bnd (l3.set (Int.toNat y6.1) e23) fun l22 =>
      bnd ((TRecord.mk e23.Kind e23.Writes e23.Key e23.Value y21.1 e23.Query e23.Receipt)) fun e25 =>
      bnd (l22.set (Int.toNat y6.1) e25) fun l24 =>
      some (l24, y21.2)) (
      sel (decide (y8.1 = 3)) (
       obnd (Mwld_Tape_Next y8.2 4) fun y26 =>
       bnd ((TRecord.mk e7.Kind e7.Writes e7.Key e7.Value e7.Has y26.1 e7.Receipt)) fun e28 =>
       bnd (l3.set (Int.toNat y6.1) e28) fun l27 =>
       some (l27, y26.2)) (
       sel (decide (y8.1 = 4)) (
        obnd (Mwld_Tape_Rows y8.2 3) fun y29 =>
        bnd (Mlaw37_proof y29.1) fun y30 =>
        bnd ((TRecord.mk e7.Kind e7.Writes e7.Key e7.Value e7.Has e7.Query y30)) fun e32 =>
        bnd (l3.set (Int.toNat y6.1) e32) fun l31 =>
        some (l31, y29.2)) (
        sel (decide (y8.1 = 5)) (
         obnd (lsl l3 0 y6.1) fun l33 =>
         obnd (lsl l3 (i64w (y6.1 + 1)) (l3.length : Int)) fun l34 =>
         obnd (apd l3 l33 l34) fun l35 =>
         some (l35, y8.2)) (
         sel (decide (y8.1 = 6)) (
          obnd (Mwld_Tape_Next y8.2 (l3.length : Int)) fun y36 =>
          obnd (lget l3 y36.1) fun e37 =>
          obnd (lget l3 y6.1) fun e38 =>
          obnd (lget l3 y6.1) fun e39 =>
          bnd (e37) fun e41 =>
          bnd (l3.set (Int.toNat y6.1) e41) fun l40 =>
          obnd (lget l40 y36.1) fun e42 =>
          bnd (e38) fun e44 =>
          bnd (l40.set (Int.toNat y36.1) e44) fun l43 =>
          some (l43, y36.2)) (
          sel (decide (y8.1 = 7)) (
           obnd (app l3 ([e7] : List TRecord)) fun l45 =>
           some (l45, y8.2)) (
           some (l3, y8.2)))))))))))
theorem Mlaw37_odd_sp {t1 : TTape} {l2 : List TRecord} {y : (List TRecord × TTape)} (hm : Mlaw37_odd t1 l2 = some y) : Spec Tryz.prog 20 [.p 0 0, .d (lst TRecord.ds l2)] [(0, some (.box 89 [.d (lst dsI t1.l), vI t1.at_]))] fun u h => u = .d (lst TRecord.ds y.1) ∧ h = [(0, some (.box 89 [.d (lst dsI y.2.l), vI y.2.at_]))] := by
 refine si Tryz.func20 Tryz.ntmps20 Tryz.results20 fun B w0 ρ0 => ?_
 unfold Mlaw37_odd at hm
 refine sr ?_
 refine sr ?_
 obtain ⟨l3, hy, hm⟩ := obnd_o hm
 refine wl_1 (n_appn (k := 109) hy rfl rfl rfl rfl rfl rfl) rfl rfl rfl rfl ?_
 refine sr ?_
 refine wc_cs hm ?_ ?_ <;> clear hm <;> intro hm
 ·refine sr ?_
  obtain ⟨y4, hy, hm⟩ := obnd_o hm
  refine wl_iq (Mwld_Tape_Next_sp (hm := hy)) 0 ?_
  refine ss ?_
  refine wl_wkw [(0, 0), (109, 109)] ⟨[(4, .d (.c (.slice none 0 0))), (13, .h 109), (16, .a [vI y4.1, .d (lst TWrite.ds ([] : List TWrite)), vS ⟨#[]⟩, vS ⟨#[]⟩, vB false, vI 0, vI 0, .d (lst Rng.ds ([] : List Rng)), vS ⟨#[]⟩, vI 0, .d (lst TVisit.ds ([] : List TVisit)), .d (lst TVisit.ds ([] : List TVisit))])], [(0, some (.box 89 [.d (lst dsI y4.2.l), vI y4.2.at_])), (109, some (arrT 65 12 TRecord.ds l3))]⟩ ?_
  refine ss ?_
  refine wl_bt TRecord.ds [(TRecord.mk y4.1 ([] : List TWrite) ⟨#[]⟩ ⟨#[]⟩ false 0 (TReceipt.mk (TQuery.mk 0 ([] : List Rng) ⟨#[]⟩ 0) ([] : List TVisit) ([] : List TVisit)))] rfl rfl (by simp only [flatV, cellsV, List.cons_append, List.nil_append, List.append_nil]; exact rfl) rfl rfl rfl rfl rfl rfl ?_
  refine ss ?_
  obtain ⟨l5, hy, hm⟩ := obnd_o hm
  refine wl_2 (n_app (k' := 118) hy rfl rfl rfl rfl rfl rfl rfl rfl) rfl rfl rfl rfl ?_
  refine sx ?_
  cases hm
  exact wk_reti [(0, 0)] ⟨rfl, rfl⟩
 refine sx ?_
 refine sr ?_
 obtain ⟨y6, hy, hm⟩ := obnd_o hm
 refine wl_iq (Mwld_Tape_Next_sp (hm := hy)) 0 ?_
 refine sr ?_
 obtain ⟨e7, hy, hm⟩ := obnd_o hm
 have hge7 := hy
 refine wl_r (o_ixo hy rfl rfl rfl rfl) rfl rfl rfl ?_
 refine sr ?_
 obtain ⟨y8, hy, hm⟩ := obnd_o hm
 refine wl_iq (Mwld_Tape_Next_sp (hm := hy)) 0 ?_
 refine sr ?_
 refine wc_cs hm ?_ ?_ <;> clear hm <;> intro hm
 ·refine sr ?_
  obtain ⟨y9, hy, hm⟩ := obnd_o hm
  refine wl_iq (Mwld_Tape_Query_sp (hm := hy)) 0 ?_
  refine ss ?_
  refine wl_r (o_nilce rfl rfl) rfl rfl rfl ?_
  refine ss ?_
  obtain ⟨e11, hy, hm⟩ := bnd_o hm
  have hxe11 := hy
  refine ss ?_
  obtain ⟨l10, hy, hm⟩ := bnd_o hm
  refine wl_0 (lo := 0) (nn := 0) (o_sto (k := 109) (f := TRecord.ds) (zz := 12) (off := 6) hge7 hy rfl rfl rfl rfl (by exact inferInstance) rfl (by rw [← hxe11]; rfl)) rfl rfl (fresh0 _ _) ?_
  have hge11 := lget_set hge7 e11
  rw [hy] at hge11
  refine sr ?_
  refine sx ?_
  cases hm
  exact wk_reti [(0, 0)] ⟨rfl, rfl⟩
 refine sr ?_
 refine wc_cs hm ?_ ?_ <;> clear hm <;> intro hm
 ·refine sr ?_
  obtain ⟨y12, hy, hm⟩ := obnd_o hm
  refine wl_iq (Mwld_Tape_Next_sp (hm := hy)) 0 ?_
  refine ss ?_
  refine wl_r (o_nilce rfl rfl) rfl rfl rfl ?_
  refine ss ?_
  obtain ⟨e14, hy, hm⟩ := bnd_o hm
  have hxe14 := hy
  refine ss ?_
  obtain ⟨l13, hy, hm⟩ := bnd_o hm
  refine wl_0 (lo := 0) (nn := 0) (o_sto (k := 109) (f := TRecord.ds) (zz := 12) (off := 0) hge7 hy rfl rfl rfl rfl (by exact inferInstance) rfl (by rw [← hxe14]; rfl)) rfl rfl (fresh0 _ _) ?_
  have hge14 := lget_set hge7 e14
  rw [hy] at hge14
  refine sr ?_
  refine sx ?_
  cases hm
  exact wk_reti [(0, 0)] ⟨rfl, rfl⟩
 refine sr ?_
 refine wc_cs hm ?_ ?_ <;> clear hm <;> intro hm
 ·refine sr ?_
  refine wl_r (o_nilce rfl rfl) rfl rfl rfl ?_
  refine ss ?_
  refine wl_r (o_ldo (k := 109) (f := TRecord.ds) (zz := 12) (u := .d (lst TWrite.ds e7.Writes)) (off := 1) hge7 rfl rfl rfl (by exact inferInstance) rfl rfl) rfl rfl rfl ?_
  refine ss ?_
  obtain ⟨l15, hy, hm⟩ := obnd_o hm
  refine wl_1 (n_appn (k := 150) hy rfl rfl rfl rfl rfl rfl) rfl rfl rfl rfl ?_
  refine ss ?_
  obtain ⟨y16, hy, hm⟩ := obnd_o hm
  refine wl_iq (Mwld_Tape_Write_sp (hm := hy)) 0 ?_
  refine ss ?_
  refine wl_bt TWrite.ds [y16.1] rfl rfl (by simp only [flatV, cellsV, List.cons_append, List.nil_append, List.append_nil]; exact rfl) rfl rfl rfl rfl rfl rfl ?_
  refine ss ?_
  obtain ⟨l17, hy, hm⟩ := obnd_o hm
  refine wl_2 (n_app (k' := 154) hy rfl rfl rfl rfl rfl rfl rfl rfl) rfl rfl rfl rfl ?_
  refine ss ?_
  refine wl_r (o_nilce rfl rfl) rfl rfl rfl ?_
  refine ss ?_
  refine wl_wkw [(0, 0), (109, 109)] ⟨[(1, .h 109), (54, .d (lst TWrite.ds l17)), (56, .e 109 (Int.toNat y6.1 * 12 + 1))], [(0, some (.box 89 [.d (lst dsI y16.2.l), vI y16.2.at_])), (109, some (arrT 65 12 TRecord.ds l3))]⟩ ?_
  refine ss ?_
  obtain ⟨e19, hy, hm⟩ := bnd_o hm
  have hxe19 := hy
  refine ss ?_
  obtain ⟨l18, hy, hm⟩ := bnd_o hm
  refine wl_0 (lo := 0) (nn := 0) (o_sto (k := 109) (f := TRecord.ds) (zz := 12) (off := 1) hge7 hy rfl rfl rfl rfl (by exact inferInstance) rfl (by rw [← hxe19]; rfl)) rfl rfl (fresh0 _ _) ?_
  have hge19 := lget_set hge7 e19
  rw [hy] at hge19
  refine sr ?_
  refine sx ?_
  cases hm
  exact wk_reti [(0, 0)] ⟨rfl, rfl⟩
 refine sr ?_
 refine wc_cs hm ?_ ?_ <;> clear hm <;> intro hm
 ·refine sr ?_
  obtain ⟨y20, hy, hm⟩ := obnd_o hm
  refine wl_iq (Mwld_Tape_OddValue_sp (hm := hy)) 0 ?_
  refine ss ?_
  obtain ⟨y21, hy, hm⟩ := obnd_o hm
  refine wl_iq (Mwld_Tape_Bool_sp (hm := hy)) 0 ?_
  refine ss ?_
  refine wl_r (o_nilce rfl rfl) rfl rfl rfl ?_
  refine ss ?_
  obtain ⟨e23, hy, hm⟩ := bnd_o hm
  have hxe23 := hy
  refine ss ?_
  obtain ⟨l22, hy, hm⟩ := bnd_o hm
  refine wl_0 (lo := 0) (nn := 0) (o_sto (k := 109) (f := TRecord.ds) (zz := 12) (off := 3) hge7 hy rfl rfl rfl rfl (by exact inferInstance) rfl (by rw [← hxe23]; rfl)) rfl rfl (fresh0 _ _) ?_
  have hge23 := lget_set hge7 e23
  rw [hy] at hge23
  refine ss ?_
  refine wl_r (o_nilce rfl rfl) rfl rfl rfl ?_
  refine ss ?_
  obtain ⟨e25, hy, hm⟩ := bnd_o hm
  have hxe25 := hy
  refine ss ?_
  obtain ⟨l24, hy, hm⟩ := bnd_o hm
  refine wl_0 (lo := 0) (nn := 0) (o_sto (k := 109) (f := TRecord.ds) (zz := 12) (off := 4) hge23 hy rfl rfl rfl rfl (by exact inferInstance) rfl (by rw [← hxe25]; rfl)) rfl rfl (fresh0 _ _) ?_
  have hge25 := lget_set hge23 e25
  rw [hy] at hge25
  refine sr ?_
  refine sx ?_
  cases hm
  exact wk_reti [(0, 0)] ⟨rfl, rfl⟩
 refine sr ?_
 refine wc_cs hm ?_ ?_ <;> clear hm <;> intro hm
 ·refine sr ?_
  obtain ⟨y26, hy, hm⟩ := obnd_o hm
  refine wl_iq (Mwld_Tape_Next_sp (hm := hy)) 0 ?_
  refine ss ?_
  refine wl_r (o_nilce rfl rfl) rfl rfl rfl ?_
  refine ss ?_
  obtain ⟨e28, hy, hm⟩ := bnd_o hm
  have hxe28 := hy
  refine ss ?_
  obtain ⟨l27, hy, hm⟩ := bnd_o hm
  refine wl_0 (lo := 0) (nn := 0) (o_sto (k := 109) (f := TRecord.ds) (zz := 12) (off := 5) hge7 hy rfl rfl rfl rfl (by exact inferInstance) rfl (by rw [← hxe28]; rfl)) rfl rfl (fresh0 _ _) ?_
  have hge28 := lget_set hge7 e28
  rw [hy] at hge28
  refine sr ?_
  refine sx ?_
  cases hm
  exact wk_reti [(0, 0)] ⟨rfl, rfl⟩
 refine sr ?_
 refine wc_cs hm ?_ ?_ <;> clear hm <;> intro hm
 ·refine sr ?_
  obtain ⟨y29, hy, hm⟩ := obnd_o hm
  refine wl_iq (Mwld_Tape_Rows_sp (hm := hy)) 0 ?_
  refine ss ?_
  obtain ⟨y30, hy, hm⟩ := bnd_o hm
  refine wl_cq (Mlaw37_proof_sp (hm := hy)) ?_
  refine ss ?_
  refine wl_r (o_nilce rfl rfl) rfl rfl rfl ?_
  refine ss ?_
  obtain ⟨e32, hy, hm⟩ := bnd_o hm
  have hxe32 := hy
  refine ss ?_
  obtain ⟨l31, hy, hm⟩ := bnd_o hm
  refine wl_0 (lo := 0) (nn := 0) (o_sto (k := 109) (f := TRecord.ds) (zz := 12) (off := 6) hge7 hy rfl rfl rfl rfl (by exact inferInstance) rfl (by rw [← hxe32]; rfl)) rfl rfl (fresh0 _ _) ?_
  have hge32 := lget_set hge7 e32
  rw [hy] at hge32
  refine sr ?_
  refine sx ?_
  cases hm
  exact wk_reti [(0, 0)] ⟨rfl, rfl⟩
 refine sr ?_
 refine wc_cs hm ?_ ?_ <;> clear hm <;> intro hm
 ·refine wc_draw (id := 20) [⟨0, 0, [1]⟩, ⟨1, 0, [5]⟩, ⟨2, 3, [86, 87]⟩, ⟨3, 0, [1]⟩, ⟨4, 0, [5]⟩, ⟨5, 16, [90]⟩, ⟨6, 56, [89, 91]⟩, ⟨7, 127, [88, 92]⟩, ⟨8, 255, [93]⟩] mixed (by kernel_rfl) ?_
  refine ss ?_
  obtain ⟨l33, hy, hm⟩ := obnd_o hm
  have hvl33 := hy
  refine wd_slv hy rfl rfl rfl rfl rfl rfl (by first | exact .no rfl | exact .y rfl rfl rfl rfl) rfl rfl ?_
  refine ss ?_
  refine wd_r [] (o_add rfl rfl rfl rfl) rfl (by first | exact .no rfl | exact .y rfl rfl rfl rfl) rfl rfl ?_
  refine ss ?_
  obtain ⟨l34, hy, hm⟩ := obnd_o hm
  have hvl34 := hy
  refine wd_slv hy rfl rfl rfl rfl rfl rfl (by first | exact .no rfl | exact .y rfl rfl rfl rfl) rfl rfl ?_
  refine ss ?_
  obtain ⟨l35, hy, hm⟩ := obnd_o hm
  refine wd_del (k' := 193) hy hvl33 hvl34 rfl rfl rfl rfl rfl rfl rfl (by first | exact .no rfl | exact .y rfl rfl rfl rfl) rfl rfl rfl ?_
  refine sr ?_
  refine sx ?_
  cases hm
  exact wk_reti [(0, 0)] ⟨rfl, rfl⟩
 refine sr ?_
 refine wc_cs hm ?_ ?_ <;> clear hm <;> intro hm
 ·refine sr ?_
  obtain ⟨y36, hy, hm⟩ := obnd_o hm
  refine wl_iq (Mwld_Tape_Next_sp (hm := hy)) 0 ?_
  refine ss ?_
  refine wc_draw (id := 23) [⟨0, 0, [1]⟩, ⟨1, 0, [5]⟩, ⟨2, 0, [1]⟩, ⟨3, 0, [7]⟩, ⟨4, 0, [1]⟩, ⟨5, 0, [7]⟩, ⟨6, 48, [104, 105]⟩, ⟨7, 112, [106]⟩, ⟨8, 0, [1]⟩, ⟨9, 0, [5]⟩, ⟨10, 768, [108, 109]⟩, ⟨11, 1792, [110]⟩, ⟨12, 4083, [100, 101]⟩, ⟨13, 8179, [107, 112]⟩, ⟨14, 16383, [102, 103]⟩, ⟨15, 32767, [111, 113]⟩] mixed (by kernel_rfl) ?_
  refine ss ?_
  obtain ⟨e37, hy, hm⟩ := obnd_o hm
  have hge37 := hy
  refine wd_ixo hy rfl rfl rfl rfl rfl (by first | exact .no rfl | exact .y rfl rfl rfl rfl) rfl rfl ?_
  refine ss ?_
  refine wd_ldo (kk := 109) (f := TRecord.ds) (zz := 12) (u := .a [vI e37.Kind, .d (lst TWrite.ds e37.Writes), vS e37.Key, vS e37.Value, vB e37.Has, vI e37.Query, vI e37.Receipt.Query.Kind, .d (lst Rng.ds e37.Receipt.Query.Ranges), vS e37.Receipt.Query.Key, vI e37.Receipt.Query.Count, .d (lst TVisit.ds e37.Receipt.First), .d (lst TVisit.ds e37.Receipt.Second)]) (off := 0) hge37 rfl rfl rfl (by exact inferInstance) rfl rfl rfl (by first | exact .no rfl | exact .y rfl rfl rfl rfl) rfl rfl ?_
  refine ss ?_
  obtain ⟨e38, hy, hm⟩ := obnd_o hm
  have hge38 := hy
  refine wd_ixo hy rfl rfl rfl rfl rfl (by first | exact .no rfl | exact .y rfl rfl rfl rfl) rfl rfl ?_
  refine ss ?_
  refine wd_ldo (kk := 109) (f := TRecord.ds) (zz := 12) (u := .a [vI e38.Kind, .d (lst TWrite.ds e38.Writes), vS e38.Key, vS e38.Value, vB e38.Has, vI e38.Query, vI e38.Receipt.Query.Kind, .d (lst Rng.ds e38.Receipt.Query.Ranges), vS e38.Receipt.Query.Key, vI e38.Receipt.Query.Count, .d (lst TVisit.ds e38.Receipt.First), .d (lst TVisit.ds e38.Receipt.Second)]) (off := 0) hge38 rfl rfl rfl (by exact inferInstance) rfl rfl rfl (by first | exact .no rfl | exact .y rfl rfl rfl rfl) rfl rfl ?_
  refine ss ?_
  obtain ⟨e39, hy, hm⟩ := obnd_o hm
  have hge39 := hy
  refine wd_ixo hy rfl rfl rfl rfl rfl (by first | exact .no rfl | exact .y rfl rfl rfl rfl) rfl rfl ?_
  refine ss ?_
  obtain ⟨e41, hy, hm⟩ := bnd_o hm
  have hxe41 := hy
  refine ss ?_
  obtain ⟨l40, hy, hm⟩ := bnd_o hm
  refine wd_sto (kk := 109) (f := TRecord.ds) (zz := 12) (off := 0) hge39 hy rfl rfl rfl rfl (by exact inferInstance) rfl (by rw [← hxe41]; rfl) rfl (by first | exact .no rfl | exact .y rfl rfl rfl rfl) rfl ?_
  have hge41 := lget_set hge39 e41
  rw [hy] at hge41
  refine ss ?_
  obtain ⟨e42, hy, hm⟩ := obnd_o hm
  have hge42 := hy
  refine wd_ixo hy rfl rfl rfl rfl rfl (by first | exact .no rfl | exact .y rfl rfl rfl rfl) rfl rfl ?_
  refine ss ?_
  obtain ⟨e44, hy, hm⟩ := bnd_o hm
  have hxe44 := hy
  refine ss ?_
  obtain ⟨l43, hy, hm⟩ := bnd_o hm
  refine wd_sto (kk := 109) (f := TRecord.ds) (zz := 12) (off := 0) hge42 hy rfl rfl rfl rfl (by exact inferInstance) rfl (by rw [← hxe44]; rfl) rfl (by first | exact .no rfl | exact .y rfl rfl rfl rfl) rfl ?_
  have hge44 := lget_set hge42 e44
  rw [hy] at hge44
  refine sr ?_
  refine sx ?_
  cases hm
  exact wk_reti [(0, 0)] ⟨rfl, rfl⟩
 refine sr ?_
 refine wc_cs hm ?_ ?_ <;> clear hm <;> intro hm
 ·refine sr ?_
  refine wl_r (o_nilce rfl rfl) rfl rfl rfl ?_
  refine ss ?_
  refine wl_r (o_ldo (k := 109) (f := TRecord.ds) (zz := 12) (u := .a [vI e7.Kind, .d (lst TWrite.ds e7.Writes), vS e7.Key, vS e7.Value, vB e7.Has, vI e7.Query, vI e7.Receipt.Query.Kind, .d (lst Rng.ds e7.Receipt.Query.Ranges), vS e7.Receipt.Query.Key, vI e7.Receipt.Query.Count, .d (lst TVisit.ds e7.Receipt.First), .d (lst TVisit.ds e7.Receipt.Second)]) (off := 0) hge7 rfl rfl rfl (by exact inferInstance) rfl rfl) rfl rfl rfl ?_
  refine ss ?_
  refine wl_bt TRecord.ds [e7] rfl rfl (by simp only [flatV, cellsV, List.cons_append, List.nil_append, List.append_nil]; exact rfl) rfl rfl rfl rfl rfl rfl ?_
  refine ss ?_
  obtain ⟨l45, hy, hm⟩ := obnd_o hm
  refine wl_2 (n_app (k' := 221) hy rfl rfl rfl rfl rfl rfl rfl rfl) rfl rfl rfl rfl ?_
  refine sr ?_
  refine sx ?_
  cases hm
  exact wk_reti [(0, 0)] ⟨rfl, rfl⟩
 refine sx ?_
 refine sr ?_
 refine sx ?_
 cases hm
 exact wk_reti [(0, 0)] ⟨rfl, rfl⟩

end Go.Proofs.YtohpjdeohpamaaaGreatDoor
namespace Go.Proofs.YtohpjdeohpamaaaGreatDoor
open Go.RowKit
theorem tot_write {τ : TTape} (h : okT τ) : Tot (Mwld_Tape_Write τ) fun y => okT y.2 := by
  obtain ⟨k, τ1, e1, h1, -⟩ := oddKey_ok h
  obtain ⟨v, τ2, e2, h2, -⟩ := oddValue_ok h1
  unfold Mwld_Tape_Write
  rw [e1, obnd_some, e2, obnd_some]
  exact tot_obnd (tot_bool h2 (by omega)) fun y3 h3 => tot_some h3
theorem tot_free_l1 : ∀ (fuel : Nat) (x : List Int) (a : Int) (tabs : List (List Kv)) (l : List TRecord) (i : Int) (n : Nat), okT ⟨x, a⟩ → 0 < tabs.length → tabs.length ≤ 100 → (∀ t ∈ tabs, t.length ≤ 1024) → okL n l → n ≤ 50 → i.toNat < fuel → (n : Int) + i ≤ 50 → (tabs.length : Int) + i ≤ 50 → Tot (Mlaw37_free_l1 fuel x a tabs l i) fun y => okT ⟨y.2.1, y.2.2⟩ ∧ okL 50 y.1
  | 0, _, _, _, _, _, _, _, _, _, _, _, _, hf, _, _ => by omega
  | fuel + 1, x, a, tabs, l, i, n, hτ, t0, t1, t2, hl, hn, hf, hi, hj => by
    have ih := fun (x : List Int) (a : Int) (tabs' : List (List Kv)) (l' : List TRecord) (n' : Nat) (h1 : okT ⟨x, a⟩) (h2 : tabs'.length = tabs.length + 1) (h3 : ∀ t ∈ tabs', t.length ≤ 1024) (h4 : okL n' l') (h5 : n' ≤ n + 1) (h6 : 0 < i) => tot_free_l1 fuel x a tabs' l' (i64w (i - 1)) n' h1 (by omega) (by omega) h3 h4 (by omega) (by rw [i64w_id (by omega) (by omega)]; omega) (by rw [i64w_id (by omega) (by omega)]; omega) (by rw [i64w_id (by omega) (by omega)]; omega)
    rw [Mlaw37_free_l1]
    by_cases h0 : ¬ 0 < i
    · rw [decide_eq_false h0]
      exact tot_some ⟨hτ, hl.up (by omega)⟩
    have h0 : 0 < i := by omega
    rw [decide_eq_true h0]
    simp only [sel_true, obnd_some, ocbnd_nxt]
    rw [tot_i64]
    have hadd : ∀ (t : List Kv), t.length ≤ 1024 → app tabs ([t] : List (List Kv)) = some (tabs ++ [t]) ∧ (tabs ++ [t]).length = tabs.length + 1 ∧ ∀ u ∈ tabs ++ [t], u.length ≤ 1024 := fun t ht => ⟨app_le (by simp; omega), by simp, fun u hu => by
      rcases List.mem_append.1 hu with hu | hu
      · exact t2 u hu
      · rw [List.mem_singleton.1 hu]; exact ht⟩
    have hll := hl.1
    have hrec : ∀ r : TRecord, app l ([r] : List TRecord) = some (l ++ [r]) := fun r => app_le (by simp; omega)
    refine tot_obnd (tot_lget (Q := fun t => t ∈ tabs) (by omega) (by omega) fun _ => List.getElem_mem _) fun e9 h9 => ?_
    have h9' := t2 e9 h9
    obtain ⟨g1, g2, g3⟩ := hadd e9 h9'
    refine tot_obnd (tot_next hτ (by omega)) fun y10 h10 => ?_
    refine tot_obnd (R := fun _ => True) (tot_sel (fun _ => tot_some trivial) fun _ => tot_some trivial) fun b _ => tot_sel (fun _ => ?_) fun _ => tot_sel (fun _ => ?_) fun _ => tot_sel (fun _ => ?_) fun _ => tot_sel (fun _ => ?_) fun _ => ?_
    · refine tot_bnd (tot_obnd (tot_writeIn h10.1) fun y13 h13 => tot_bnd (tot_obnd (tot_writeIn h13.1) fun y15 h15 => tot_obnd (tot_next h15.1 (by omega)) fun y16 h16 => ?_))
      have c16 := h16.2
      unfold Cho at c16
      rw [tot_i64]
      refine tot_obnd (tot_lsl (Q := fun z : List TWrite => z.length ≤ 1000) (by simp; omega) (by simp; omega)) fun z hz => ?_
      rw [eq_ref20_Apply, obnd_some, hrec, obnd_some]
      obtain ⟨k1, k2, k3⟩ := hadd (applyW e9 z).1 (apply_len _ _)
      rw [k1, obnd_some]
      exact ih _ _ _ _ (n + 1) h16.1 k2 k3 (hl.add okR_none hz) (by omega) h0
    · obtain ⟨k, τ1, e1, h1, -⟩ := key_ok h10.1
      rw [e1, obnd_some, bnd_eq, hrec, obnd_some, g1, obnd_some]
      exact ih _ _ _ _ (n + 1) h1 g2 g3 (hl.add okR_none (by simp)) (by omega) h0
    · refine tot_obnd (tot_next h10.1 (by omega)) fun y25 h25 => ?_
      rw [bnd_eq, hrec, obnd_some, g1, obnd_some]
      exact ih _ _ _ _ (n + 1) h25.1 g2 g3 (hl.add okR_begin (by simp)) (by omega) h0
    · refine tot_obnd (tot_next h10.1 (by omega)) fun y29 h29 => tot_obnd (tot_next h29.1 (by omega)) fun y30 h30 => ?_
      have c30 := h30.2
      unfold Cho at c30
      refine tot_obnd (tot_lget (Q := fun t => t ∈ tabs) (by omega) (by omega) fun _ => List.getElem_mem _) fun e31 h31 => ?_
      rw [bnd_eq, hrec, obnd_some, g1, obnd_some]
      exact ih _ _ _ _ (n + 1) h30.1 g2 g3 (hl.add (okR_proof (t2 e31 h31)) (by simp)) (by omega) h0
    · rw [g1, obnd_some]
      exact ih _ _ _ _ n h10.1 g2 g3 hl (by omega) h0
theorem tot_free {τ : TTape} (h : okT τ) : Tot (Mlaw37_free τ) fun y => tvalid y.1 = true ∧ y.1.length ≤ 3 ∧ okL 50 y.2.1 ∧ okT y.2.2 := by
  unfold Mlaw37_free
  refine tot_obnd (tot_rows h (by omega) (by omega)) fun y2 h2 => tot_obnd (tot_next h2.1 (by omega)) fun y3 h3 => ?_
  have c3 := h3.2
  unfold Cho at c3
  rw [tot_i64]
  have hv := h2.2.1
  refine tot_obnd (tot_free_l1 FU _ _ _ _ _ 0 h3.1 (by simp) (by simp) (fun t ht => by rw [List.mem_singleton.1 ht]; have := h2.2.2; omega) ⟨by simp, by simp⟩ (by omega) (by simp only [FU]; omega) (by simp; omega) (by simp; omega)) fun y hy => tot_some ⟨hv, by have := h2.2.2; simp only; omega, hy.2, hy.1⟩
end Go.Proofs.YtohpjdeohpamaaaGreatDoor
namespace Go.Proofs.YtohpjdeohpamaaaGreatDoor
open Go.ChangeShapes Go.WideShapes Go.ChangeAt Go.RowKit Go.Joins
set_option maxRecDepth 100000
theorem bulk_one {H : Type} (d : DataW H) : 1 ≤ Rows.uptoBulk d := by
  cases d with
  | lit l => cases l <;> simp [Rows.uptoBulk]
  | _ => simp [Rows.uptoBulk]
theorem bulk_part {H : Type} {d : DataW H} : ∀ {l : List (DataW H)}, d ∈ l → Rows.uptoBulk d ≤ Rows.uptoBulkAll l
  | [], h => by cases h
  | x :: r, h => by
    simp only [Rows.uptoBulkAll]
    rcases List.mem_cons.1 h with rfl | h
    · omega
    · have := bulk_part h; omega
theorem bulk_len {H : Type} : ∀ l : List (DataW H), l.length ≤ Rows.uptoBulkAll l
  | [] => by simp
  | x :: r => by
    have h1 := bulk_one x
    have h2 := bulk_len r
    simp only [Rows.uptoBulkAll, List.length_cons]; omega
theorem bulk_bound {H : Type} {l : List (DataW H)} (h : Rows.uptoSmall H l = true) : Rows.uptoBulkAll l ≤ 1048576 := of_decide_eq_true h
class OpnB (P : Program) (T : TypeId) {α : outParam Type} (f : outParam (α → List D)) (I : outParam (α → Prop)) : Prop where
  out : ∀ {H : Type} {enc : TypeId × Value → H} {W : World} {fuel : Nat} {cs : List Value} {x : DataW H × List MemPlace}, DataW.trod enc P W 0 (fun _ => true) true fuel T cs = some x → Rows.uptoBulk x.1 ≤ 1048576 → ∃ a : α, I a ∧ RDs W (fun b => b < W.heap.size) (f a) cs
def allB {α : Type} (I : α → Prop) (l : List α) : Prop := l.length ≤ 1048576 ∧ ∀ a ∈ l, I a
theorem opnb_of {P : Program} {T : TypeId} {α : Type} {f : α → List D} {I : α → Prop} (h : Opn P T f I) : OpnB P T f I := ⟨fun hx _ => h.out hx⟩
section
variable {P : Program} {T E : TypeId} {W : World}
theorem opnb_slice {α : Type} {f : α → List D} {I : α → Prop} {z : Nat} (h : P.underlying T = some (.slice E)) (hc : P.cellsOf E = z) (hz : 0 < z) [hE : OpnB P E f I] [hL : Len f z] : OpnB P T (dsL f) (allB I) := ⟨fun {H enc W fuel cs x} hxx hbk => by
  rcases Go.Deep.open_slice h hxx with ⟨rfl, -⟩ | ⟨a, len, cap, m, k, D', Pl, rfl, -, hl, hml, hm, hxe, hx⟩
  · exact ⟨[], ⟨by simp, by simp⟩, .cons (.nil _ _) .nil⟩
  · obtain rfl : m = cap := by simpa using hm
    rw [hc] at hx
    rw [hxe] at hbk
    simp only [Rows.uptoBulk] at hbk
    have hlenB : len ≤ 1048576 := by
      have := bulk_len ((List.range len).map D')
      simp at this; omega
    have hD : ∀ i, i < m → Rows.uptoBulk (D' i) ≤ 1048576 := fun i hi => by
      by_cases h : i < len
      · have := bulk_part (d := D' i) (l := (List.range len).map D') (List.mem_map.2 ⟨i, List.mem_range.2 h, rfl⟩); omega
      · have := bulk_part (d := D' i) (l := (List.range (m - len)).map fun j => D' (len + j)) (List.mem_map.2 ⟨i - len, List.mem_range.2 (by omega), by rw [show len + (i - len) = i by omega]⟩); omega
    by_cases hm0 : m = 0
    · obtain rfl : len = 0 := by omega
      exact ⟨[], ⟨by simp, by simp⟩, .cons (.nil _ _) .nil⟩
    have each : ∀ i : Nat, ∃ p : α × List Value, i < m → I p.1 ∧ RDs W (fun b => b < W.heap.size) (f p.1) p.2 ∧ p.2.length = z ∧ ∀ j u, p.2[j]? = some u → W.cell? (a.add (i * z + j)) = some u := by
      intro i
      by_cases hi : i < m
      · obtain ⟨cs, h1, h2⟩ := hx i hi
        obtain ⟨b, g1, g2⟩ := hE.out h2 (hD _ (by omega))
        obtain ⟨-, hlen, hcell⟩ := World.cells?_some h1
        refine ⟨(b, cs), fun _ => ⟨g1, g2, by rw [g2.length, hL.len], fun j u hj => ?_⟩⟩
        have hjz : j < z := by
          have := (List.getElem?_eq_some_iff.1 hj).1
          simp only at this
          rw [g2.length, hL.len] at this; exact this
        rw [← Go.Deep.add_add, hcell j hjz, hj]
      · obtain ⟨cs, h1, h2⟩ := hx 0 (by omega)
        obtain ⟨b, -, -⟩ := hE.out h2 (hD _ (by omega))
        exact ⟨(b, []), fun h => absurd h hi⟩
    let p : Nat → α × List Value := fun i => Classical.choose (each i)
    have hp : ∀ i, i < m → I (p i).1 ∧ RDs W (fun b => b < W.heap.size) (f (p i).1) (p i).2 ∧ (p i).2.length = z ∧ ∀ j u, (p i).2[j]? = some u → W.cell? (a.add (i * z + j)) = some u := fun i => Classical.choose_spec (each i)
    refine ⟨(List.range len).map fun i => (p i).1, ⟨by simp; omega, fun b hb => ?_⟩, ?_⟩
    · obtain ⟨i, hi, rfl⟩ := List.mem_map.1 hb
      exact (hp i (by have := List.mem_range.1 hi; omega)).1
    · by_cases h0 : len = 0
      · subst h0; exact .cons (.nil _ _) .nil
      obtain ⟨b, off, spot⟩ := a
      have hv0 : ∃ u, (p 0).2[0]? = some u := ⟨_, List.getElem?_eq_getElem (by rw [(hp 0 (by omega)).2.2.1]; exact hz)⟩
      obtain ⟨u0, hu0⟩ := hv0
      have hc0 := (hp 0 (by omega)).2.2.2 0 u0 hu0
      have hspot : spot = none := by simpa [Addr.add] using World.cell?_spot hc0
      subst hspot
      have hb : b < W.heap.size := World.block_lt_of_cell? W ⟨b, off + (0 * z + 0), none⟩ (by rw [← Go.WideShapes.add_plain]; exact hc0)
      have hlen : ((List.range len).map fun i => (p i).1).length = len := by simp
      refine .cons ?_ .nil
      rw [show lst f ((List.range len).map fun i => (p i).1) = .l len (((List.range len).map fun i => (p i).1).flatMap f) by unfold lst; rw [hlen]]
      refine RD.l hl (by omega) hb (rds_flat (vs := (List.range len).map fun i => (p i).2) (by simp) fun i x v hx hv => ?_) fun j v hj => ?_
      · rw [List.getElem?_map] at hx hv
        cases hr : (List.range len)[i]? with
        | none => rw [hr] at hx; cases hx
        | some q =>
          rw [hr] at hx hv
          obtain rfl := Option.some.inj hx
          obtain rfl := Option.some.inj hv
          have := List.mem_range.1 (List.mem_of_getElem? hr)
          exact (hp q (by omega)).2.1
      · obtain ⟨u, h1, h2⟩ := flatten_get (z := z) (fun u hu => by
          obtain ⟨i, hi, rfl⟩ := List.mem_map.1 hu
          exact (hp i (by have := List.mem_range.1 hi; omega)).2.2.1) hj
        rw [List.getElem?_map] at h1
        cases hr : (List.range len)[j / z]? with
        | none => rw [hr] at h1; cases h1
        | some q =>
          rw [hr] at h1
          obtain rfl := Option.some.inj h1
          obtain ⟨hq1, hq2⟩ := List.getElem?_eq_some_iff.1 hr
          rw [List.getElem_range] at hq2
          rw [List.length_range] at hq1
          subst hq2
          have := (hp _ (show j / z < m by omega)).2.2.2 _ v h2
          rw [Go.WideShapes.add_plain] at this
          rwa [Nat.mul_comm, Nat.div_add_mod] at this⟩
variable {H : Type} {enc : TypeId × Value → H}
theorem of_fieldb {fs : Array Field} {n : Nat} {cs : List Value} {xs : List (DataW H × List MemPlace)} {α : Type} {f : α → List D} {I : α → Prop} {o c : Nat} (hf : ∀ (i : Nat) (g : Field), fs[i]? = some g → DataW.trod enc P W 0 (fun _ => true) true n g.type ((cs.drop g.offset).take (P.cellsOf g.type)) = xs[i]?)
    (hlen : xs.length = fs.size) (i : Nat) {g : Field} (hg : fs[i]? = some g) (ht : g.type = T) (ho : g.offset = o) (hc : P.cellsOf T = c) [hO : OpnB P T f I] (hb : Rows.uptoBulkAll (xs.map (·.1)) ≤ 1048576) : ∃ a : α, I a ∧ RDs W (fun b => b < W.heap.size) (f a) ((cs.drop o).take c) := by
  have h1 := hf i g hg
  have hi : i < xs.length := by rw [hlen]; exact (Array.getElem?_eq_some_iff.1 hg).1
  rw [List.getElem?_eq_getElem hi, ht, ho, hc] at h1
  exact hO.out h1 (by have := bulk_part (d := xs[i].1) (l := xs.map (·.1)) (List.mem_map.2 ⟨xs[i], List.getElem_mem _, rfl⟩); omega)
theorem arg_oneb {α : Type} {f : α → List D} {I : α → Prop} [hO : OpnB P T f I] {v : Value} {d : DataW H} {ps : List MemPlace} (hc : v.cells.toList = [v]) (h : DataW.Trod enc P W 0 (fun _ => true) true T v d ps) (hb : Rows.uptoBulk d ≤ 1048576) : ∃ a : α, I a ∧ RDs W (fun b => b < W.heap.size) (f a) [v] := by
  obtain ⟨fuel, h⟩ := h
  rw [hc] at h
  exact hO.out h hb
end
end Go.Proofs.YtohpjdeohpamaaaGreatDoor
namespace Go.Proofs.YtohpjdeohpamaaaGreatDoor
open Go.RowKit
set_option maxRecDepth 100000
set_option maxHeartbeats 4000000
attribute [local irreducible] WK WC WL Wk Rel OpD OpV WD WO sel bnd obnd app lget lsl sget ssl scat letg iquo irem Op.bytesLess
attribute [local irreducible] qchk qranges union
def Mlaw37_AuditTables_l2 (r12 : List Kv) : List (List TRecord) → Option (Ctl (Ctl (Ctl Bool Unit) (List Int × Int)) Unit)
  | [] =>
  some (Ctl.nxt ())
  | r16 :: xs17 =>
  obnd (Maudit_Tables r12 r16) fun y19 =>
  obnd (Mref37_Tables r12 r16) fun y20 =>
  sel (!decide (y19.2 = y20.2)) (
   some (Ctl.ret (Ctl.ret (Ctl.ret false)))) (
   obnd (Mref37_SameTables y19.1 y20.1) fun y21 =>
   sel (!y21) (
    some (Ctl.ret (Ctl.ret (Ctl.ret false)))) (
    Mlaw37_AuditTables_l2 r12 xs17))
def Mlaw37_AuditTables_l1 (raw2 : List TRecord) (y8 : (List Kv × List TRecord × TTape)) : List (List Kv) → List Int → Int → Option (Ctl Bool Unit)
  | [], x10, x11 =>
  some (Ctl.nxt ())
  | r12 :: xs13, x10, x11 =>
  obnd (
   obnd (Mlaw37_odd (TTape.mk x10 x11) y8.2.1) fun y15 =>
   obnd (
    Mlaw37_AuditTables_l2 r12 ([y8.2.1, y15.1, raw2] : List (List TRecord)) : Option (Ctl (Ctl (Ctl Bool Unit) (List Int × Int)) Unit)) fun mu => ocbnd mu fun (_ : Unit) =>
   some (Ctl.nxt (y15.2.l, y15.2.at_)) : Option (Ctl (Ctl Bool Unit) (List Int × Int))) fun mu => ocbnd mu fun (x22, x23) =>
  Mlaw37_AuditTables_l1 raw2 y8 xs13 x22 x23
def Mlaw37_AuditTables (l1 : List Int) (raw2 : List TRecord) (rows3 : List Kv) : Option Bool :=
 obnd (
  obnd (Mlaw37_small raw2) fun y4 =>
  sel (!y4) (
   some true) (
   some (decide (40 < (rows3.length : Int)))) : Option Bool) fun x5 =>
 sel x5 (
  obnd (Mlaw37_awake) fun y6 =>
  some y6) (
  obnd (Mwld_New l1) fun y7 =>
  obnd (Mlaw37_free y7) fun y8 =>
  obnd (Mwld_Tape_OddRows y8.2.2 y8.1) fun y9 =>
  obnd (
   Mlaw37_AuditTables_l1 raw2 y8 ([y8.1, y9.1, rows3] : List (List Kv)) y9.2.l y9.2.at_ : Option (Ctl Bool Unit)) fun mu => ocbnd mu fun (_ : Unit) =>
  obnd (Mlaw37_awake) fun y24 =>
  some y24)
theorem Mlaw37_AuditTables_sp {l1 : List Int} {raw2 : List TRecord} {rows3 : List Kv} {y : Bool} (hm : Mlaw37_AuditTables l1 raw2 rows3 = some y) : Spec Tryz.prog 8 [.d (lst dsI l1), .d (lst TRecord.ds raw2), .d (lst Kv.ds rows3)] [] fun u h => u = vB y ∧ h = [] := by
 refine si Tryz.func8 Tryz.ntmps8 Tryz.results8 fun B w0 ρ0 => ?_
 unfold Mlaw37_AuditTables at hm
 refine sr ?_
 refine wc_seq ?_
 refine wc_seq ?_
 obtain ⟨mu1, hm1, hm⟩ := obnd_o hm
 refine wc_cut' (fun st => ∃ (x5 : Bool), x5 = mu1 ∧ st = ⟨[(0, .d (lst dsI l1)), (1, .d (lst TRecord.ds raw2)), (2, .d (lst Kv.ds rows3)), (25, vB x5)], []⟩) ?_ ?_
 ·refine sr ?_
  obtain ⟨y4, hy, hm1⟩ := obnd_o hm1
  refine wl_cq (Mlaw37_small_sp (hm := hy)) ?_
  refine ss ?_
  refine wl_sg hm1 ?_ ?_ <;> clear hm1 <;> intro hm1
  ·refine ss ?_
   cases hm1
   exact wk_cutw [] ⟨_, rfl, rfl⟩
  refine ss ?_
  cases hm1
  exact wk_cutw [] ⟨_, rfl, rfl⟩
 rintro _ ⟨x5, rfl, rfl⟩
 refine ss ?_
 refine wc_cs hm ?_ ?_ <;> clear hm <;> intro hm
 ·refine sr ?_
  obtain ⟨y6, hy, hm⟩ := obnd_o hm
  refine wl_cq (Mlaw37_awake_sp (hm := hy)) ?_
  refine sx ?_
  cases hm
  exact wk_r
 refine sx ?_
 refine sr ?_
 obtain ⟨y7, hy, hm⟩ := obnd_o hm
 refine wl_mkn (u' := .p 202801 0) (h' := [(202801, some (.box 89 [.d (lst dsI y7.l), vI y7.at_]))]) (Mwld_New_sp (hm := hy)) 202800 rfl rfl rfl (by repeat (first | exact Vws.nil | apply Vws.cons | exact Vw.nil | exact Vw.d _ | exact Vw.q _ | apply Vw.a)) rfl (by (try simp only [renH, Option.map_some, Blk.ren, rens_d]); rfl) rfl rfl rfl rfl ?_
 refine sr ?_
 obtain ⟨y8, hy, hm⟩ := obnd_o hm
 refine wl_iq (Mlaw37_free_sp (hm := hy)) 202801 ?_
 refine sr ?_
 obtain ⟨y9, hy, hm⟩ := obnd_o hm
 refine wl_iq (Mwld_Tape_OddRows_sp (hm := hy)) 202801 ?_
 refine ss ?_
 refine wl_bt (dsL Kv.ds) [y8.1, y9.1, rows3] rfl rfl (by simp only [flatV, cellsV, List.cons_append, List.nil_append, List.append_nil]; exact rfl) rfl rfl rfl rfl rfl rfl ?_
 refine ss ?_
 obtain ⟨mu1, hm1, hm⟩ := obnd_o hm
 refine wc_cut' (fun st => mu1 = Ctl.nxt () ∧ st = ⟨[], []⟩) ?_ ?_
 ·refine wc_block ?_
  refine wc_len 39 rfl (fun hlenm14 => ?_)
  refine wc_loopw (fun κ st => ∃ (m14 : Nat) (x10 : List Int) (x11 : Int), κ = ([y8.1, y9.1, rows3] : List (List Kv)).length - m14 ∧ m14 ≤ ([y8.1, y9.1, rows3] : List (List Kv)).length ∧ Mlaw37_AuditTables_l1 raw2 y8 (([y8.1, y9.1, rows3] : List (List Kv)).drop m14) x10 x11 = some mu1 ∧ st = ⟨[(1, .d (lst TRecord.ds raw2)), (7, .p 202801 0), (9, .d (lst TRecord.ds y8.2.1)), (39, .d (lst (dsL Kv.ds) ([y8.1, y9.1, rows3] : List (List Kv)))), (40, vI (([y8.1, y9.1, rows3] : List (List Kv)).length : Int)), (41, vI (m14 : Int))], [(202801, some (.box 89 [.d (lst dsI x10), vI x11]))]⟩) [(202801, 202801)] ⟨0, _, _, rfl, Nat.zero_le _, hm1, rfl⟩ ?_
  rintro κ _ ⟨m14, x10, x11, rfl, hlem14, hm1, rfl⟩
  rcases Nat.lt_or_ge m14 ([y8.1, y9.1, rows3] : List (List Kv)).length with hltm14 | hgem14
  ·obtain ⟨r12, hxm14, hdr⟩ := drop_c hltm14
   rw [hdr, Mlaw37_AuditTables_l1.eq_2] at hm1
   refine sr ?_
   refine wc_seq ?_
   refine wc_cond_tt (lt_t hltm14) rfl ?_
   refine sx ?_
   refine wc_seq ?_
   obtain ⟨mu2, hm2, hm1⟩ := obnd_o hm1
   refine wc_cut' (fun st => ∃ (x22 : List Int) (x23 : Int), mu2 = Ctl.nxt (x22, x23) ∧ st = ⟨[(1, .d (lst TRecord.ds raw2)), (7, .p 202801 0), (9, .d (lst TRecord.ds y8.2.1)), (39, .d (lst (dsL Kv.ds) ([y8.1, y9.1, rows3] : List (List Kv)))), (40, vI (([y8.1, y9.1, rows3] : List (List Kv)).length : Int)), (41, vI (m14 : Int))], [(202801, some (.box 89 [.d (lst dsI x22), vI x23]))]⟩) ?_ ?_
   ·refine sr ?_
    refine wl_r (o_ixm (ys := [lst Kv.ds r12]) hxm14 rfl rfl rfl rfl) rfl rfl rfl ?_
    refine sr ?_
    obtain ⟨y15, hy, hm2⟩ := obnd_o hm2
    refine wl_iq (Mlaw37_odd_sp (hm := hy)) 202801 ?_
    refine ss ?_
    refine wl_bt (dsL TRecord.ds) [y8.2.1, y15.1, raw2] rfl rfl (by simp only [flatV, cellsV, List.cons_append, List.nil_append, List.append_nil]; exact rfl) rfl rfl rfl rfl rfl rfl ?_
    refine ss ?_
    obtain ⟨mu3, hm3, hm2⟩ := obnd_o hm2
    refine wc_cut' (fun st => mu3 = Ctl.nxt () ∧ st = ⟨[(1, .d (lst TRecord.ds raw2)), (7, .p 202801 0), (9, .d (lst TRecord.ds y8.2.1)), (39, .d (lst (dsL Kv.ds) ([y8.1, y9.1, rows3] : List (List Kv)))), (40, vI (([y8.1, y9.1, rows3] : List (List Kv)).length : Int)), (41, vI (m14 : Int))], [(202801, some (.box 89 [.d (lst dsI y15.2.l), vI y15.2.at_]))]⟩) ?_ ?_
    ·refine wc_block ?_
     refine wc_len 50 rfl (fun hlenm18 => ?_)
     refine wc_loopw (fun κ st => ∃ (m18 : Nat) , κ = ([y8.2.1, y15.1, raw2] : List (List TRecord)).length - m18 ∧ m18 ≤ ([y8.2.1, y15.1, raw2] : List (List TRecord)).length ∧ Mlaw37_AuditTables_l2 r12 (([y8.2.1, y15.1, raw2] : List (List TRecord)).drop m18) = some mu3 ∧ st = ⟨[(1, .d (lst TRecord.ds raw2)), (7, .p 202801 0), (9, .d (lst TRecord.ds y8.2.1)), (11, .d (lst Kv.ds r12)), (39, .d (lst (dsL Kv.ds) ([y8.1, y9.1, rows3] : List (List Kv)))), (40, vI (([y8.1, y9.1, rows3] : List (List Kv)).length : Int)), (41, vI (m14 : Int)), (50, .d (lst (dsL TRecord.ds) ([y8.2.1, y15.1, raw2] : List (List TRecord)))), (51, vI (([y8.2.1, y15.1, raw2] : List (List TRecord)).length : Int)), (52, vI (m18 : Int))], [(202801, some (.box 89 [.d (lst dsI y15.2.l), vI y15.2.at_]))]⟩) [(202801, 202801)] ⟨0, rfl, Nat.zero_le _, hm3, rfl⟩ ?_
     rintro κ _ ⟨m18, rfl, hlem18, hm3, rfl⟩
     rcases Nat.lt_or_ge m18 ([y8.2.1, y15.1, raw2] : List (List TRecord)).length with hltm18 | hgem18
     ·obtain ⟨r16, hxm18, hdr⟩ := drop_c hltm18
      rw [hdr, Mlaw37_AuditTables_l2.eq_2] at hm3
      refine sr ?_
      refine wc_seq ?_
      refine wc_cond_tt (lt_t hltm18) rfl ?_
      refine sx ?_
      refine sr ?_
      refine wl_r (o_ixm (ys := [lst TRecord.ds r16]) hxm18 rfl rfl rfl rfl) rfl rfl rfl ?_
      refine sr ?_
      obtain ⟨y19, hy, hm3⟩ := obnd_o hm3
      refine wl_cq (Maudit_Tables_sp (hm := hy)) ?_
      refine sr ?_
      obtain ⟨y20, hy, hm3⟩ := obnd_o hm3
      refine wl_cq (Mref37_Tables_sp (hm := hy)) ?_
      refine sr ?_
      refine wl_sg hm3 ?_ ?_ <;> clear hm3 <;> intro hm3
      ·refine ss ?_
       refine wc_cond_t rfl ?_
       refine sr ?_
       refine sx ?_
       cases hm3
       replace hm2 := ocbnd_r hm2
       cases hm2
       replace hm1 := ocbnd_r hm1
       cases hm1
       replace hm := ocbnd_r hm
       cases hm
       exact wk_r
      refine ss ?_
      obtain ⟨y21, hy, hm3⟩ := obnd_o hm3
      refine wl_cq (Mref37_SameTables_sp (hm := hy)) ?_
      refine ss ?_
      refine wc_cs hm3 ?_ ?_ <;> clear hm3 <;> intro hm3
      ·refine sr ?_
       refine sx ?_
       cases hm3
       replace hm2 := ocbnd_r hm2
       cases hm2
       replace hm1 := ocbnd_r hm1
       cases hm1
       replace hm := ocbnd_r hm
       cases hm
       exact wk_r
      refine sx ?_
      refine sr ?_
      refine wl_r (o_inc hltm18 hlenm18 rfl rfl rfl) rfl rfl rfl ?_
      refine ss ?_
      exact wk_loopw [(202801, 202801)] ⟨m18 + 1, rfl, hltm18, hm3, rfl⟩ (by omega)
     ·rw [drop_n hgem18, Mlaw37_AuditTables_l2.eq_1] at hm3
      refine sr ?_
      refine wc_seq ?_
      refine wc_cond_ff (lt_f hgem18) rfl ?_
      refine wc_exit ?_
      refine ss ?_
      cases hm3
      exact wk_cutw [(202801, 202801)] ⟨rfl, rfl⟩
    rintro _ ⟨rfl, rfl⟩
    replace hm2 := ocbnd_n hm2
    refine ss ?_
    cases hm2
    exact wk_cutw [(202801, 202801)] ⟨_, _, rfl, rfl⟩
   rintro _ ⟨x22, x23, rfl, rfl⟩
   replace hm1 := ocbnd_n hm1
   refine sr ?_
   refine wl_r (o_inc hltm14 hlenm14 rfl rfl rfl) rfl rfl rfl ?_
   refine ss ?_
   exact wk_loopw [(202801, 202801)] ⟨m14 + 1, _, _, rfl, hltm14, hm1, rfl⟩ (by omega)
  ·rw [drop_n hgem14, Mlaw37_AuditTables_l1.eq_1] at hm1
   refine sr ?_
   refine wc_seq ?_
   refine wc_cond_ff (lt_f hgem14) rfl ?_
   refine wc_exit ?_
   refine ss ?_
   cases hm1
   exact wk_cutw [] ⟨rfl, rfl⟩
 rintro _ ⟨rfl, rfl⟩
 replace hm := ocbnd_n hm
 refine sr ?_
 obtain ⟨y24, hy, hm⟩ := obnd_o hm
 refine wl_cq (Mlaw37_awake_sp (hm := hy)) ?_
 refine sx ?_
 cases hm
 exact wk_r

end Go.Proofs.YtohpjdeohpamaaaGreatDoor
namespace Go.Proofs.YtohpjdeohpamaaaGreatDoor
open Go.RowKit
def okRs (n : Nat) (l : List TRecord) : Prop := l.length ≤ n ∧ ∀ r ∈ l, okR r.Receipt
theorem okRs.set {n : Nat} {l : List TRecord} (h : okRs n l) (i : Nat) {r : TRecord} (hr : okR r.Receipt) : okRs n (l.set i r) := ⟨by rw [List.length_set]; exact h.1, fun x hx => by
  rcases List.mem_or_eq_of_mem_set hx with hx | rfl
  · exact h.2 x hx
  · exact hr⟩
theorem okL.rs {n : Nat} {l : List TRecord} (h : okL n l) : okRs n l := ⟨h.1, fun r hr => (h.2 r hr).1⟩
theorem okRs.up {n m : Nat} {l : List TRecord} (h : okRs n l) (hm : n ≤ m) : okRs m l := ⟨Nat.le_trans h.1 hm, h.2⟩
theorem tot_odd {τ : TTape} (h : okT τ) {n : Nat} (hn : n ≤ 5000) {l : List TRecord} (hl : okRs n l) (hw : ∀ r ∈ l, r.Writes.length ≤ 100000) : Tot (Mlaw37_odd τ l) fun y => okT y.2 ∧ okRs (n + 1) y.1 := by
  have hl1 := hl.1
  unfold Mlaw37_odd
  rw [app_le (by simp; omega), obnd_some, List.nil_append]
  refine tot_sel (fun h0 => ?_) fun h0 => ?_
  · refine tot_obnd (tot_next h (by omega)) fun y4 h4 => ?_
    rw [app_le (by simp; omega), obnd_some]
    refine tot_some ⟨h4.1, by simp; omega, fun x hx => ?_⟩
    rcases List.mem_append.1 hx with hx | hx
    · exact hl.2 x hx
    · rw [List.mem_singleton.1 hx]; exact okR_none
  have h0 : ¬ (l.length : Int) = 0 := of_decide_eq_false h0
  refine tot_obnd (tot_next h (by omega)) fun y6 h6 => ?_
  have c6 := h6.2
  unfold Cho at c6
  refine tot_obnd (tot_lget (Q := fun t => t ∈ l) (by omega) (by omega) fun _ => List.getElem_mem _) fun e7 h7 => ?_
  have r7 := hl.2 e7 h7
  refine tot_obnd (tot_next h6.1 (by omega)) fun y8 h8 => ?_
  have t8 := h8.1
  have S : ∀ (e : TRecord) (τ : TTape), okT τ → okR e.Receipt → Tot (bnd e fun e12 => bnd (l.set (Int.toNat y6.1) e12) fun l11 => some (l11, τ)) fun y => okT y.2 ∧ okRs (n + 1) y.1 := fun e τ hτ he => tot_some ⟨hτ, (hl.set _ he).up (by omega)⟩
  refine tot_sel (fun _ => tot_obnd (tot_query t8) fun y9 h9 => S _ _ h9.1 ⟨by have := h9.2.2.1; simp only; omega, r7.f, r7.s⟩) fun _ => ?_
  refine tot_sel (fun _ => tot_obnd (tot_next t8 (by omega)) fun y9 h9 => S _ _ h9.1 r7) fun _ => ?_
  refine tot_sel (fun _ => ?_) fun _ => ?_
  · have := hw e7 h7
    rw [app_le (by simp; omega), obnd_some, List.nil_append]
    refine tot_obnd (tot_write t8) fun y16 h16 => ?_
    rw [app_le (by simp; omega), obnd_some]
    exact S _ _ h16 r7
  refine tot_sel (fun _ => ?_) fun _ => ?_
  · obtain ⟨v, τ2, e2, h2, -⟩ := oddValue_ok t8
    rw [e2, obnd_some]
    exact tot_obnd (tot_bool h2 (by omega)) fun y21 h21 => tot_some ⟨h21, ((hl.set _ (by exact r7)).set _ (by exact r7)).up (by omega)⟩
  refine tot_sel (fun _ => tot_obnd (tot_next t8 (by omega)) fun y9 h9 => S _ _ h9.1 r7) fun _ => ?_
  refine tot_sel (fun _ => tot_obnd (tot_rows t8 (by omega) (by omega)) fun y9 h9 => S _ _ h9.1 (okR_proof (by have := h9.2.2; omega))) fun _ => ?_
  refine tot_sel (fun _ => ?_) fun _ => ?_
  · rw [tot_i64, lsl_le (by omega), obnd_some, lsl_le (by omega), obnd_some, apd, if_pos (by simp; omega), obnd_some]
    refine tot_some ⟨t8, by simp; omega, fun v hv => hl.2 v ?_⟩
    rcases List.mem_append.1 hv with hv | hv
    · exact List.mem_of_mem_drop (List.mem_of_mem_take hv)
    · exact List.mem_of_mem_drop (List.mem_of_mem_take hv)
  refine tot_sel (fun _ => ?_) fun _ => ?_
  · refine tot_obnd (tot_next t8 (by omega)) fun y36 h36 => ?_
    have c36 := h36.2
    unfold Cho at c36
    have g : ∀ {l' : List TRecord} {i : Int}, okRs n l' → 0 ≤ i → i < l'.length → Tot (lget l' i) fun t => okR t.Receipt := fun {l' i} h' a b => tot_lget a b fun _ => h'.2 _ (List.getElem_mem _)
    refine tot_obnd (g hl (by omega) (by omega)) fun e37 h37 => tot_obnd (g hl (by omega) (by omega)) fun e38 h38 => tot_obnd (g hl (by omega) (by omega)) fun e39 h39 => tot_bnd (tot_bnd (tot_obnd (g (hl.set _ h37) (by omega) (by rw [List.length_set]; omega)) fun e42 h42 => tot_bnd (tot_bnd (tot_some ⟨h36.1, ((hl.set _ h37).set _ h38).up (by omega)⟩))))
  refine tot_sel (fun _ => ?_) fun _ => tot_some ⟨t8, hl.up (by omega)⟩
  rw [app_le (by simp; omega), obnd_some]
  refine tot_some ⟨t8, by simp; omega, fun x hx => ?_⟩
  rcases List.mem_append.1 hx with hx | hx
  · exact hl.2 x hx
  · rw [List.mem_singleton.1 hx]; exact r7
theorem atables_l2 (r : List Kv) : ∀ l : List (List TRecord), Mlaw37_AuditTables_l2 r l = some (.nxt ())
  | [] => rfl
  | x :: xs => by
    rw [Mlaw37_AuditTables_l2, eq_audit_Tables, obnd_some, eq_ref37_Tables, obnd_some]
    simp only [decide_true, Bool.not_true, sel_false]
    rw [sameTables_refl, obnd_some]
    simp only [Bool.not_true, sel_false]
    exact atables_l2 r xs
theorem atables_l1 (raw : List TRecord) (y : List Kv × List TRecord × TTape) (hy : okL 50 y.2.1) : ∀ (l : List (List Kv)) (x : List Int) (a : Int), okT ⟨x, a⟩ → Mlaw37_AuditTables_l1 raw y l x a = some (.nxt ())
  | [], _, _, _ => rfl
  | r :: xs, x, a, h => by
    obtain ⟨y15, e, h15, -⟩ := tot_odd h (by omega) hy.rs fun r hr => Nat.le_trans (hy.2 r hr).2 (by omega)
    rw [Mlaw37_AuditTables_l1, e, obnd_some, atables_l2]
    simp only [obnd_some, ocbnd_nxt]
    exact atables_l1 raw y hy xs _ _ h15
theorem auditTables_ok (l : List Int) (raw : List TRecord) (rows : List Kv) (hs : ∃ b, Mlaw37_small raw = some b) : Mlaw37_AuditTables l raw rows = some true := by
  unfold Mlaw37_AuditTables
  obtain ⟨b, hs⟩ := hs
  rw [hs, obnd_some, aawake_ok]
  have hb : ∃ c, (sel (!b) (some true) (some (decide (40 < (rows.length : Int)))) : Option Bool) = some c := by cases b <;> exact ⟨_, rfl⟩
  obtain ⟨c, hc⟩ := hb
  rw [hc, obnd_some]
  cases c with
  | true => rfl
  | false =>
    obtain ⟨τ, e, h⟩ := new_ok l
    obtain ⟨y8, e8, h8, h8b, h8c, h8d⟩ := tot_free h
    obtain ⟨y9, e9, h9, -⟩ := tot_oddRows h8d (l := y8.1) (by omega)
    rw [sel_false, e, obnd_some, e8, obnd_some, e9, obnd_some, atables_l1 raw y8 h8c _ _ _ h9]
    rfl
end Go.Proofs.YtohpjdeohpamaaaGreatDoor
namespace Go.Proofs.YtohpjdeohpamaaaGreatDoor
open Go.RowKit
instance opnb3 : OpnB Tryz.prog 3 dsI (inK .i64) := opnb_of (opn_i64 Tryz.underlying3)
instance opnb9 : OpnB Tryz.prog 9 dsS szS := opnb_of (opn_str Tryz.underlying9)
instance opnb4 : OpnB Tryz.prog 4 dsB anyB := opnb_of (opn_bool Tryz.underlying4)
def TWrite.okb (x : TWrite) : Prop := szS x.Key ∧ szS x.Value ∧ anyB x.Delete
instance opnb72 : OpnB Tryz.prog 72 TWrite.ds TWrite.okb := ⟨fun {H enc W fuel cs x} h hb => by
  obtain ⟨xs, n, -, hxe, hl, hlen, hf⟩ := DataW.trod_struct Tryz.underlying72 h
  rw [hxe] at hb
  simp only [Rows.uptoBulk] at hb
  replace hb : Rows.uptoBulkAll (xs.map (·.1)) ≤ 1048576 := by omega
  obtain ⟨a0, i0, r0⟩ := of_fieldb (T := 9) (o := 0) (c := 1) (f := dsS) (I := szS) hf hlen 0 rfl rfl rfl (by kernel_rfl) hb
  obtain ⟨a1, i1, r1⟩ := of_fieldb (T := 9) (o := 1) (c := 1) (f := dsS) (I := szS) hf hlen 1 rfl rfl rfl (by kernel_rfl) hb
  obtain ⟨a2, i2, r2⟩ := of_fieldb (T := 4) (o := 2) (c := 1) (f := dsB) (I := anyB) hf hlen 2 rfl rfl rfl (by kernel_rfl) hb
  exact ⟨⟨a0, a1, a2⟩, ⟨i0, i1, i2⟩, (chain_of r0 (chain_of r1 (chain_of r2 (fin_of hl (by kernel_rfl)))))⟩⟩
instance opnb60 : OpnB Tryz.prog 60 (dsL TWrite.ds) (allB TWrite.okb) := opnb_slice (E := 72) Tryz.underlying60 (z := 3) (by kernel_rfl) (by decide)
def Bnd.okb (x : Bnd) : Prop := szS x.key ∧ anyB x.top
instance opnb75 : OpnB Tryz.prog 75 Bnd.ds Bnd.okb := ⟨fun {H enc W fuel cs x} h hb => by
  obtain ⟨xs, n, -, hxe, hl, hlen, hf⟩ := DataW.trod_struct Tryz.underlying75 h
  rw [hxe] at hb
  simp only [Rows.uptoBulk] at hb
  replace hb : Rows.uptoBulkAll (xs.map (·.1)) ≤ 1048576 := by omega
  obtain ⟨a0, i0, r0⟩ := of_fieldb (T := 9) (o := 0) (c := 1) (f := dsS) (I := szS) hf hlen 0 rfl rfl rfl (by kernel_rfl) hb
  obtain ⟨a1, i1, r1⟩ := of_fieldb (T := 4) (o := 1) (c := 1) (f := dsB) (I := anyB) hf hlen 1 rfl rfl rfl (by kernel_rfl) hb
  exact ⟨⟨a0, a1⟩, ⟨i0, i1⟩, (chain_of r0 (chain_of r1 (fin_of hl (by kernel_rfl))))⟩⟩
def Rng.okb (x : Rng) : Prop := Bnd.okb x.lo ∧ Bnd.okb x.hi
instance opnb77 : OpnB Tryz.prog 77 Rng.ds Rng.okb := ⟨fun {H enc W fuel cs x} h hb => by
  obtain ⟨xs, n, -, hxe, hl, hlen, hf⟩ := DataW.trod_struct Tryz.underlying77 h
  rw [hxe] at hb
  simp only [Rows.uptoBulk] at hb
  replace hb : Rows.uptoBulkAll (xs.map (·.1)) ≤ 1048576 := by omega
  obtain ⟨a0, i0, r0⟩ := of_fieldb (T := 75) (o := 0) (c := 2) (f := Bnd.ds) (I := Bnd.okb) hf hlen 0 rfl rfl rfl (by kernel_rfl) hb
  obtain ⟨a1, i1, r1⟩ := of_fieldb (T := 75) (o := 2) (c := 2) (f := Bnd.ds) (I := Bnd.okb) hf hlen 1 rfl rfl rfl (by kernel_rfl) hb
  exact ⟨⟨a0, a1⟩, ⟨i0, i1⟩, (chain_of r0 (chain_of r1 (fin_of hl (by kernel_rfl))))⟩⟩
instance opnb23 : OpnB Tryz.prog 23 (dsL Rng.ds) (allB Rng.okb) := opnb_slice (E := 77) Tryz.underlying23 (z := 4) (by kernel_rfl) (by decide)
def TQuery.okb (x : TQuery) : Prop := (inK .i64) x.Kind ∧ (allB Rng.okb) x.Ranges ∧ szS x.Key ∧ (inK .i64) x.Count
instance opnb25 : OpnB Tryz.prog 25 TQuery.ds TQuery.okb := ⟨fun {H enc W fuel cs x} h hb => by
  obtain ⟨xs, n, -, hxe, hl, hlen, hf⟩ := DataW.trod_struct Tryz.underlying25 h
  rw [hxe] at hb
  simp only [Rows.uptoBulk] at hb
  replace hb : Rows.uptoBulkAll (xs.map (·.1)) ≤ 1048576 := by omega
  obtain ⟨a0, i0, r0⟩ := of_fieldb (T := 3) (o := 0) (c := 1) (f := dsI) (I := (inK .i64)) hf hlen 0 rfl rfl rfl (by kernel_rfl) hb
  obtain ⟨a1, i1, r1⟩ := of_fieldb (T := 23) (o := 1) (c := 1) (f := (dsL Rng.ds)) (I := (allB Rng.okb)) hf hlen 1 rfl rfl rfl (by kernel_rfl) hb
  obtain ⟨a2, i2, r2⟩ := of_fieldb (T := 9) (o := 2) (c := 1) (f := dsS) (I := szS) hf hlen 2 rfl rfl rfl (by kernel_rfl) hb
  obtain ⟨a3, i3, r3⟩ := of_fieldb (T := 3) (o := 3) (c := 1) (f := dsI) (I := (inK .i64)) hf hlen 3 rfl rfl rfl (by kernel_rfl) hb
  exact ⟨⟨a0, a1, a2, a3⟩, ⟨i0, i1, i2, i3⟩, (chain_of r0 (chain_of r1 (chain_of r2 (chain_of r3 (fin_of hl (by kernel_rfl))))))⟩⟩
def TStamp.okb (x : TStamp) : Prop := (inK .i64) x.Epoch ∧ (inK .i64) x.Version
instance opnb140 : OpnB Tryz.prog 140 TStamp.ds TStamp.okb := ⟨fun {H enc W fuel cs x} h hb => by
  obtain ⟨xs, n, -, hxe, hl, hlen, hf⟩ := DataW.trod_struct Tryz.underlying140 h
  rw [hxe] at hb
  simp only [Rows.uptoBulk] at hb
  replace hb : Rows.uptoBulkAll (xs.map (·.1)) ≤ 1048576 := by omega
  obtain ⟨a0, i0, r0⟩ := of_fieldb (T := 3) (o := 0) (c := 1) (f := dsI) (I := (inK .i64)) hf hlen 0 rfl rfl rfl (by kernel_rfl) hb
  obtain ⟨a1, i1, r1⟩ := of_fieldb (T := 3) (o := 1) (c := 1) (f := dsI) (I := (inK .i64)) hf hlen 1 rfl rfl rfl (by kernel_rfl) hb
  exact ⟨⟨a0, a1⟩, ⟨i0, i1⟩, (chain_of r0 (chain_of r1 (fin_of hl (by kernel_rfl))))⟩⟩
def Kv.okb (x : Kv) : Prop := szS x.key ∧ szS x.val
instance opnb81 : OpnB Tryz.prog 81 Kv.ds Kv.okb := ⟨fun {H enc W fuel cs x} h hb => by
  obtain ⟨xs, n, -, hxe, hl, hlen, hf⟩ := DataW.trod_struct Tryz.underlying81 h
  rw [hxe] at hb
  simp only [Rows.uptoBulk] at hb
  replace hb : Rows.uptoBulkAll (xs.map (·.1)) ≤ 1048576 := by omega
  obtain ⟨a0, i0, r0⟩ := of_fieldb (T := 9) (o := 0) (c := 1) (f := dsS) (I := szS) hf hlen 0 rfl rfl rfl (by kernel_rfl) hb
  obtain ⟨a1, i1, r1⟩ := of_fieldb (T := 9) (o := 1) (c := 1) (f := dsS) (I := szS) hf hlen 1 rfl rfl rfl (by kernel_rfl) hb
  exact ⟨⟨a0, a1⟩, ⟨i0, i1⟩, (chain_of r0 (chain_of r1 (fin_of hl (by kernel_rfl))))⟩⟩
instance opnb26 : OpnB Tryz.prog 26 (dsL Kv.ds) (allB Kv.okb) := opnb_slice (E := 81) Tryz.underlying26 (z := 2) (by kernel_rfl) (by decide)
def TView.okb (x : TView) : Prop := (inK .i64) x.Owner ∧ Rng.okb x.Interval ∧ TStamp.okb x.Stamp ∧ (allB Kv.okb) x.Rows
instance opnb142 : OpnB Tryz.prog 142 TView.ds TView.okb := ⟨fun {H enc W fuel cs x} h hb => by
  obtain ⟨xs, n, -, hxe, hl, hlen, hf⟩ := DataW.trod_struct Tryz.underlying142 h
  rw [hxe] at hb
  simp only [Rows.uptoBulk] at hb
  replace hb : Rows.uptoBulkAll (xs.map (·.1)) ≤ 1048576 := by omega
  obtain ⟨a0, i0, r0⟩ := of_fieldb (T := 3) (o := 0) (c := 1) (f := dsI) (I := (inK .i64)) hf hlen 0 rfl rfl rfl (by kernel_rfl) hb
  obtain ⟨a1, i1, r1⟩ := of_fieldb (T := 77) (o := 1) (c := 4) (f := Rng.ds) (I := Rng.okb) hf hlen 1 rfl rfl rfl (by kernel_rfl) hb
  obtain ⟨a2, i2, r2⟩ := of_fieldb (T := 140) (o := 5) (c := 2) (f := TStamp.ds) (I := TStamp.okb) hf hlen 2 rfl rfl rfl (by kernel_rfl) hb
  obtain ⟨a3, i3, r3⟩ := of_fieldb (T := 26) (o := 7) (c := 1) (f := (dsL Kv.ds)) (I := (allB Kv.okb)) hf hlen 3 rfl rfl rfl (by kernel_rfl) hb
  exact ⟨⟨a0, a1, a2, a3⟩, ⟨i0, i1, i2, i3⟩, (chain_of r0 (chain_of r1 (chain_of r2 (chain_of r3 (fin_of hl (by kernel_rfl))))))⟩⟩
def TVisit.okb (x : TVisit) : Prop := TView.okb x.View ∧ Rng.okb x.Part
instance opnb144 : OpnB Tryz.prog 144 TVisit.ds TVisit.okb := ⟨fun {H enc W fuel cs x} h hb => by
  obtain ⟨xs, n, -, hxe, hl, hlen, hf⟩ := DataW.trod_struct Tryz.underlying144 h
  rw [hxe] at hb
  simp only [Rows.uptoBulk] at hb
  replace hb : Rows.uptoBulkAll (xs.map (·.1)) ≤ 1048576 := by omega
  obtain ⟨a0, i0, r0⟩ := of_fieldb (T := 142) (o := 0) (c := 8) (f := TView.ds) (I := TView.okb) hf hlen 0 rfl rfl rfl (by kernel_rfl) hb
  obtain ⟨a1, i1, r1⟩ := of_fieldb (T := 77) (o := 8) (c := 4) (f := Rng.ds) (I := Rng.okb) hf hlen 1 rfl rfl rfl (by kernel_rfl) hb
  exact ⟨⟨a0, a1⟩, ⟨i0, i1⟩, (chain_of r0 (chain_of r1 (fin_of hl (by kernel_rfl))))⟩⟩
instance opnb61 : OpnB Tryz.prog 61 (dsL TVisit.ds) (allB TVisit.okb) := opnb_slice (E := 144) Tryz.underlying61 (z := 12) (by kernel_rfl) (by decide)
def TReceipt.okb (x : TReceipt) : Prop := TQuery.okb x.Query ∧ (allB TVisit.okb) x.First ∧ (allB TVisit.okb) x.Second
instance opnb63 : OpnB Tryz.prog 63 TReceipt.ds TReceipt.okb := ⟨fun {H enc W fuel cs x} h hb => by
  obtain ⟨xs, n, -, hxe, hl, hlen, hf⟩ := DataW.trod_struct Tryz.underlying63 h
  rw [hxe] at hb
  simp only [Rows.uptoBulk] at hb
  replace hb : Rows.uptoBulkAll (xs.map (·.1)) ≤ 1048576 := by omega
  obtain ⟨a0, i0, r0⟩ := of_fieldb (T := 25) (o := 0) (c := 4) (f := TQuery.ds) (I := TQuery.okb) hf hlen 0 rfl rfl rfl (by kernel_rfl) hb
  obtain ⟨a1, i1, r1⟩ := of_fieldb (T := 61) (o := 4) (c := 1) (f := (dsL TVisit.ds)) (I := (allB TVisit.okb)) hf hlen 1 rfl rfl rfl (by kernel_rfl) hb
  obtain ⟨a2, i2, r2⟩ := of_fieldb (T := 61) (o := 5) (c := 1) (f := (dsL TVisit.ds)) (I := (allB TVisit.okb)) hf hlen 2 rfl rfl rfl (by kernel_rfl) hb
  exact ⟨⟨a0, a1, a2⟩, ⟨i0, i1, i2⟩, (chain_of r0 (chain_of r1 (chain_of r2 (fin_of hl (by kernel_rfl)))))⟩⟩
def TRecord.okb (x : TRecord) : Prop := (inK .i64) x.Kind ∧ (allB TWrite.okb) x.Writes ∧ szS x.Key ∧ szS x.Value ∧ anyB x.Has ∧ (inK .i64) x.Query ∧ TReceipt.okb x.Receipt
instance opnb65 : OpnB Tryz.prog 65 TRecord.ds TRecord.okb := ⟨fun {H enc W fuel cs x} h hb => by
  obtain ⟨xs, n, -, hxe, hl, hlen, hf⟩ := DataW.trod_struct Tryz.underlying65 h
  rw [hxe] at hb
  simp only [Rows.uptoBulk] at hb
  replace hb : Rows.uptoBulkAll (xs.map (·.1)) ≤ 1048576 := by omega
  obtain ⟨a0, i0, r0⟩ := of_fieldb (T := 3) (o := 0) (c := 1) (f := dsI) (I := (inK .i64)) hf hlen 0 rfl rfl rfl (by kernel_rfl) hb
  obtain ⟨a1, i1, r1⟩ := of_fieldb (T := 60) (o := 1) (c := 1) (f := (dsL TWrite.ds)) (I := (allB TWrite.okb)) hf hlen 1 rfl rfl rfl (by kernel_rfl) hb
  obtain ⟨a2, i2, r2⟩ := of_fieldb (T := 9) (o := 2) (c := 1) (f := dsS) (I := szS) hf hlen 2 rfl rfl rfl (by kernel_rfl) hb
  obtain ⟨a3, i3, r3⟩ := of_fieldb (T := 9) (o := 3) (c := 1) (f := dsS) (I := szS) hf hlen 3 rfl rfl rfl (by kernel_rfl) hb
  obtain ⟨a4, i4, r4⟩ := of_fieldb (T := 4) (o := 4) (c := 1) (f := dsB) (I := anyB) hf hlen 4 rfl rfl rfl (by kernel_rfl) hb
  obtain ⟨a5, i5, r5⟩ := of_fieldb (T := 3) (o := 5) (c := 1) (f := dsI) (I := (inK .i64)) hf hlen 5 rfl rfl rfl (by kernel_rfl) hb
  obtain ⟨a6, i6, r6⟩ := of_fieldb (T := 63) (o := 6) (c := 6) (f := TReceipt.ds) (I := TReceipt.okb) hf hlen 6 rfl rfl rfl (by kernel_rfl) hb
  exact ⟨⟨a0, a1, a2, a3, a4, a5, a6⟩, ⟨i0, i1, i2, i3, i4, i5, i6⟩, (chain_of r0 (chain_of r1 (chain_of r2 (chain_of r3 (chain_of r4 (chain_of r5 (chain_of r6 (fin_of hl (by kernel_rfl)))))))))⟩⟩
instance opnb35 : OpnB Tryz.prog 35 (dsL TRecord.ds) (allB TRecord.okb) := opnb_slice (E := 65) Tryz.underlying35 (z := 12) (by kernel_rfl) (by decide)
theorem small_l2 (l : List TVisit) (hl : l.length ≤ 4000000) : ∀ (k fuel : Nat) (n : Int) (m : Nat), m + k = l.length → k < fuel → ∃ r, Mlaw37_small_l2 l fuel n (m : Int) = some r
  | _, 0, _, _, _, h => absurd h (by omega)
  | 0, fuel + 1, n, m, h, _ => by
    rw [Mlaw37_small_l2, decide_eq_false (by omega)]
    exact ⟨_, rfl⟩
  | k + 1, fuel + 1, n, m, h, hf => by
    rw [Mlaw37_small_l2, decide_eq_true (by omega)]
    simp only [sel_true, obnd_some, ocbnd_nxt]
    rw [lget_nat, List.getElem?_eq_getElem (by omega), obnd_some, i64w_id (a := (m : Int) + 1) (by omega) (by omega)]
    exact small_l2 l hl k fuel _ (m + 1) (by omega) (by omega)
theorem small_l1 : ∀ (l : List TRecord) (n : Int), (∀ r ∈ l, r.Receipt.First.length ≤ 1048576 ∧ r.Receipt.Second.length ≤ 1048576) → ∃ r, Mlaw37_small_l1 l n = some r
  | [], n, _ => ⟨_, rfl⟩
  | x :: xs, n, h => by
    obtain ⟨h1, h2⟩ := h x List.mem_cons_self
    rw [Mlaw37_small_l1, app_le (by simp; omega), obnd_some, List.nil_append, app_le (by omega), obnd_some]
    obtain ⟨r, e⟩ := small_l2 (x.Receipt.First ++ x.Receipt.Second) (by simp; omega) _ FU (i64w (n + (i64w ((i64w ((i64w ((x.Writes.length : Int) + (x.Receipt.First.length : Int))) + (x.Receipt.Second.length : Int))) + (x.Receipt.Query.Ranges.length : Int))))) 0 (Nat.zero_add _) (by simp [FU]; omega)
    rw [show ((0 : Nat) : Int) = 0 from rfl] at e
    rw [e]
    simp only [obnd_some]
    exact small_l1 xs r fun y hy => h y (List.mem_cons_of_mem _ hy)
theorem small_some {l : List TRecord} (h : allB TRecord.okb l) : ∃ b, Mlaw37_small l = some b := by
  unfold Mlaw37_small
  obtain ⟨r, e⟩ := small_l1 l (l.length : Int) fun r hr => by
    obtain ⟨-, -, -, -, -, -, -, h1, h2⟩ := h.2 r hr
    exact ⟨h1.1, h2.1⟩
  rw [e, obnd_some]
  exact ⟨_, rfl⟩
end Go.Proofs.YtohpjdeohpamaaaGreatDoor
