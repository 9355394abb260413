/-
  Lemmas: The law AuditMoments holds of its model.
-/
import Derived.Test.YtohpjdeohpamaaaGreatDoorPA28
import Derived.Test.YtohpjdeohpamaaaGreatDoorPA29
import Derived.Test.YtohpjdeohpamaaaGreatDoorGAuditMomentsX1
import Derived.Test.YtohpjdeohpamaaaGreatDoorGAuditMomentsX2
import Derived.Test.YtohpjdeohpamaaaGreatDoorGAuditMomentsX3
set_option linter.unusedSimpArgs false
set_option linter.unusedVariables false
namespace Go.Proofs.YtohpjdeohpamaaaGreatDoor
open Go.RowKit
set_option maxRecDepth 100000
set_option maxHeartbeats 4000000
attribute [local irreducible] WK WC WL Wk Rel OpD OpV WD WO sel bnd obnd app lget lsl sget ssl scat letg iquo irem Op.bytesLess
attribute [local irreducible] qchk qranges union
theorem Mref37_Tables_so0 {t1 : List Kv} {l2 : List TRecord} {y : (List (List Kv) × Int)} (hm : Mref37_Tables t1 l2 = some y) : Spec Tryz.prog 12 [.d (lst Kv.ds t1), .d (lst TRecord.ds l2)] [] fun u h => u = .t [.h 1, vI y.2] ∧ h = [(1, some (arrT 26 1 (dsL Kv.ds) y.1))] := by
 refine si Tryz.func12 Tryz.ntmps12 Tryz.results12 fun B w0 ρ0 => ?_
 unfold Mref37_Tables at hm
 refine sr ?_
 refine sr ?_
 refine wc_cs hm ?_ ?_ <;> clear hm <;> intro hm
 ·refine sr ?_
  refine sx ?_
  cases hm
  refine WK.of_wk (wk_nil 4 5001 26 1 rfl rfl) ?_
  exact wk_reti [(1, 5001)] ⟨rfl, rfl⟩
 refine sx ?_
 refine sr ?_
 obtain ⟨y3, hy, hm⟩ := obnd_o hm
 refine wl_cq (Mref20_Valid_sp (hm := hy)) ?_
 refine ss ?_
 refine wc_cs hm ?_ ?_ <;> clear hm <;> intro hm
 ·refine sr ?_
  refine sx ?_
  cases hm
  refine WK.of_wk (wk_nil 4 5002 26 1 rfl rfl) ?_
  exact wk_reti [(1, 5002)] ⟨rfl, rfl⟩
 refine sx ?_
 refine sr ?_
 refine sr ?_
 obtain ⟨mu1, hm1, hm⟩ := obnd_o hm
 refine wc_cut' (fun st => ∃ (out12 : List (List Kv)), mu1 = Ctl.nxt out12 ∧ st = ⟨[(6, .h 5005)], [(5005, some (arrT 26 1 (dsL Kv.ds) out12))]⟩) ?_ ?_
 ·refine wc_block ?_
  refine wc_wk (wk_nil 6 5003 26 1 rfl rfl) ?_
  refine wc_len 17 rfl (fun hlenm8 => ?_)
  refine wc_loopw (fun κ st => ∃ (m8 : Nat) (t4 : List Kv) (out5 : List (List Kv)), κ = l2.length - m8 ∧ m8 ≤ l2.length ∧ Mref37_Tables_l1 (l2.drop m8) t4 out5 = some mu1 ∧ st = ⟨[(0, .d (lst Kv.ds t4)), (6, .h 5003), (17, .d (lst TRecord.ds l2)), (18, vI (l2.length : Int)), (19, vI (m8 : Int))], [(5003, some (arrT 26 1 (dsL Kv.ds) out5))]⟩) [(5003, 5003)] ⟨0, _, _, rfl, Nat.zero_le _, hm1, rfl⟩ ?_
  rintro κ _ ⟨m8, t4, out5, rfl, hlem8, hm1, rfl⟩
  rcases Nat.lt_or_ge m8 l2.length with hltm8 | hgem8
  ·obtain ⟨r6, hxm8, hdr⟩ := drop_c hltm8
   rw [hdr, Mref37_Tables_l1.eq_2] at hm1
   refine sr ?_
   refine wc_seq ?_
   refine wc_cond_tt (lt_t hltm8) rfl ?_
   refine sx ?_
   refine sr ?_
   refine wl_r (o_ixm (ys := [dI r6.Kind, lst TWrite.ds r6.Writes, dS r6.Key, dS r6.Value, dB r6.Has, dI r6.Query, dI r6.Receipt.Query.Kind, lst Rng.ds r6.Receipt.Query.Ranges, dS r6.Receipt.Query.Key, dI r6.Receipt.Query.Count, lst TVisit.ds r6.Receipt.First, lst TVisit.ds r6.Receipt.Second]) hxm8 rfl rfl rfl rfl) rfl rfl rfl ?_
   refine sr ?_
   refine wc_cs hm1 ?_ ?_ <;> clear hm1 <;> intro hm1
   ·refine sr ?_
    obtain ⟨y9, hy, hm1⟩ := obnd_o hm1
    refine wl_cq (Mref20_Apply_sp (hm := hy)) ?_
    refine sr ?_
    refine wc_cs hm1 ?_ ?_ <;> clear hm1 <;> intro hm1
    ·refine sr ?_
     refine sx ?_
     cases hm1
     replace hm := ocbnd_r hm
     cases hm
     refine WK.of_wk (wk_nil 4 5004 26 1 rfl rfl) ?_
     exact wk_reti [(1, 5004)] ⟨rfl, rfl⟩
    refine sx ?_
    refine sr ?_
    refine sr ?_
    refine wl_bt (dsL Kv.ds) [y9.1] rfl rfl (by simp only [flatV, cellsV, List.cons_append, List.nil_append, List.append_nil]; exact rfl) rfl rfl rfl rfl rfl rfl ?_
    refine ss ?_
    obtain ⟨l10, hy, hm1⟩ := obnd_o hm1
    refine wl_2 (n_app (k' := 140) hy rfl rfl rfl rfl rfl rfl rfl rfl) rfl rfl rfl rfl ?_
    refine sr ?_
    refine wl_r (o_inc hltm8 hlenm8 rfl rfl rfl) rfl rfl rfl ?_
    refine ss ?_
    exact wk_loopw [(5003, 140)] ⟨m8 + 1, _, _, rfl, hltm8, hm1, rfl⟩ (by omega)
   refine sx ?_
   refine sr ?_
   refine wl_bt (dsL Kv.ds) [t4] rfl rfl (by simp only [flatV, cellsV, List.cons_append, List.nil_append, List.append_nil]; exact rfl) rfl rfl rfl rfl rfl rfl ?_
   refine ss ?_
   obtain ⟨l11, hy, hm1⟩ := obnd_o hm1
   refine wl_2 (n_app (k' := 140) hy rfl rfl rfl rfl rfl rfl rfl rfl) rfl rfl rfl rfl ?_
   refine sr ?_
   refine wl_r (o_inc hltm8 hlenm8 rfl rfl rfl) rfl rfl rfl ?_
   refine ss ?_
   exact wk_loopw [(5003, 140)] ⟨m8 + 1, _, _, rfl, hltm8, hm1, rfl⟩ (by omega)
  ·rw [drop_n hgem8, Mref37_Tables_l1.eq_1] at hm1
   refine sr ?_
   refine wc_seq ?_
   refine wc_cond_ff (lt_f hgem8) rfl ?_
   refine wc_exit ?_
   refine ss ?_
   cases hm1
   exact wk_cutw [(5005, 5003)] ⟨_, rfl, rfl⟩
 rintro _ ⟨out12, rfl, rfl⟩
 replace hm := ocbnd_n hm
 refine sr ?_
 refine sx ?_
 cases hm
 exact wk_reti [(1, 5005)] ⟨rfl, rfl⟩
def Mlaw37_AuditMoments_l1 : List (List Kv) → Option (Ctl Bool Unit)
  | [] =>
  some (Ctl.nxt ())
  | r7 :: xs8 =>
  sel (decide (40 < (r7.length : Int))) (
   obnd (Mlaw37_awake) fun y10 =>
   some (Ctl.ret y10)) (
   Mlaw37_AuditMoments_l1 xs8)
def Mlaw37_AuditMoments_l4 (r22 : TQuery) (r25 : TAnswer) : List (List (List Kv)) → Option (Ctl (Ctl (Ctl (Ctl (Ctl Bool Unit) Unit) Unit) Unit) Unit)
  | [] =>
  some (Ctl.nxt ())
  | r28 :: xs29 =>
  obnd (Maudit_Moment r22 r25 r28) fun y31 =>
  obnd (Mref37_Moment r22 r25 r28) fun y32 =>
  sel (!decide (y31.1 = y32.1)) (
   some (Ctl.ret (Ctl.ret (Ctl.ret (Ctl.ret (Ctl.ret false)))))) (
   sel (!(y31.2 == y32.2)) (
    some (Ctl.ret (Ctl.ret (Ctl.ret (Ctl.ret (Ctl.ret false)))))) (
    Mlaw37_AuditMoments_l4 r22 r25 xs29))
def Mlaw37_AuditMoments_l3 (tables4 : List (List Kv)) (all21 : List (List Kv)) (r22 : TQuery) : List TAnswer → Option (Ctl (Ctl (Ctl Bool Unit) Unit) Unit)
  | [] =>
  some (Ctl.nxt ())
  | r25 :: xs26 =>
  obnd (
   obnd (
    Mlaw37_AuditMoments_l4 r22 r25 ([all21, tables4] : List (List (List Kv))) : Option (Ctl (Ctl (Ctl (Ctl (Ctl Bool Unit) Unit) Unit) Unit) Unit)) fun mu => ocbnd mu fun (_ : Unit) =>
   some (Ctl.nxt ()) : Option (Ctl (Ctl (Ctl (Ctl Bool Unit) Unit) Unit) Unit)) fun mu => ocbnd mu fun (_ : Unit) =>
  Mlaw37_AuditMoments_l3 tables4 all21 r22 xs26
def Mlaw37_AuditMoments_l2 (a3 : TAnswer) (y18 : (TAnswer × Int)) (y19 : (Int × TTape)) (tables4 : List (List Kv)) : List TQuery → List (List Kv) → Option (Ctl Bool Unit)
  | [], all21 =>
  some (Ctl.nxt ())
  | r22 :: xs23, all21 =>
  obnd (
   obnd (
    Mlaw37_AuditMoments_l3 tables4 all21 r22 ([a3, y18.1, (TAnswer.mk y18.1.Rows (TFold.mk (i64w (y18.1.Fold.Count + y19.1)) y18.1.Fold.Numbers y18.1.Fold.Sum y18.1.Fold.Low y18.1.Fold.High y18.1.Fold.First y18.1.Fold.Last)), (TAnswer.mk ([] : List Kv) (TFold.mk 0 0 0 0 0 ⟨#[]⟩ ⟨#[]⟩))] : List TAnswer) : Option (Ctl (Ctl (Ctl Bool Unit) Unit) Unit)) fun mu => ocbnd mu fun (_ : Unit) =>
   some (Ctl.nxt ()) : Option (Ctl (Ctl Bool Unit) Unit)) fun mu => ocbnd mu fun (_ : Unit) =>
  Mlaw37_AuditMoments_l2 a3 y18 y19 tables4 xs23 all21
def Mlaw37_AuditMoments (l1 : List Int) (raw2 : TQuery) (a3 : TAnswer) (tables4 : List (List Kv)) : Option Bool :=
 obnd (
  sel (decide (80 < (raw2.Ranges.length : Int))) (
   some true) (
   sel (decide (40 < (a3.Rows.length : Int))) (
    some true) (
    some (decide (10 < (tables4.length : Int))))) : Option Bool) fun x5 =>
 sel x5 (
  obnd (Mlaw37_awake) fun y6 =>
  some y6) (
  obnd (
   Mlaw37_AuditMoments_l1 tables4 : Option (Ctl Bool Unit)) fun mu => ocbnd mu fun (_ : Unit) =>
  obnd (Mwld_New l1) fun y11 =>
  obnd (Mlaw37_free y11) fun y12 =>
  obnd (Mref37_Tables y12.1 y12.2.1) fun y13 =>
  obnd (app y13.1 ([y12.1] : List (List Kv))) fun l14 =>
  obnd (Mwld_Tape_Query y12.2.2) fun y15 =>
  obnd (Mwld_Tape_Next y15.2 (l14.length : Int)) fun y16 =>
  obnd (lget l14 y16.1) fun e17 =>
  obnd (Mref22_Answer e17 y15.1) fun y18 =>
  obnd (Mwld_Tape_Next y16.2 2) fun y19 =>
  obnd (Mwld_Tape_OddQuery y19.2) fun y20 =>
  obnd (
   Mlaw37_AuditMoments_l2 a3 y18 y19 tables4 ([y15.1, y20.1, raw2] : List TQuery) l14 : Option (Ctl Bool Unit)) fun mu => ocbnd mu fun (_ : Unit) =>
  obnd (Mlaw37_awake) fun y33 =>
  some y33)
theorem Mlaw37_AuditMoments_sp {l1 : List Int} {raw2 : TQuery} {a3 : TAnswer} {tables4 : List (List Kv)} {y : Bool} (hm : Mlaw37_AuditMoments l1 raw2 a3 tables4 = some y) : Spec Tryz.prog 3 [.d (lst dsI l1), .a [vI raw2.Kind, .d (lst Rng.ds raw2.Ranges), vS raw2.Key, vI raw2.Count], .a [.d (lst Kv.ds a3.Rows), vI a3.Fold.Count, vI a3.Fold.Numbers, vI a3.Fold.Sum, vI a3.Fold.Low, vI a3.Fold.High, vS a3.Fold.First, vS a3.Fold.Last], .d (lst (dsL Kv.ds) tables4)] [] fun u h => u = vB y ∧ h = [] := by
 refine si Tryz.func3 Tryz.ntmps3 Tryz.results3 fun B w0 ρ0 => ?_
 unfold Mlaw37_AuditMoments at hm
 refine sr ?_
 refine wc_seq ?_
 refine wc_seq ?_
 obtain ⟨mu1, hm1, hm⟩ := obnd_o hm
 refine wc_cut' (fun st => ∃ (x5 : Bool), x5 = mu1 ∧ st = ⟨[(0, .d (lst dsI l1)), (3, .d (lst (dsL Kv.ds) tables4)), (5, .p 105 0), (6, .p 106 0), (44, vB x5)], [(105, some (.box 25 [vI raw2.Kind, .d (lst Rng.ds raw2.Ranges), vS raw2.Key, vI raw2.Count])), (106, some (.box 30 [.d (lst Kv.ds a3.Rows), vI a3.Fold.Count, vI a3.Fold.Numbers, vI a3.Fold.Sum, vI a3.Fold.Low, vI a3.Fold.High, vS a3.Fold.First, vS a3.Fold.Last]))]⟩) ?_ ?_
 ·refine sr ?_
  refine wl_sg hm1 ?_ ?_ <;> clear hm1 <;> intro hm1
  ·refine ss ?_
   cases hm1
   exact wk_cutw [(105, 105), (106, 106)] ⟨_, rfl, rfl⟩
  refine ss ?_
  refine wl_sg hm1 ?_ ?_ <;> clear hm1 <;> intro hm1
  ·refine ss ?_
   cases hm1
   exact wk_cutw [(105, 105), (106, 106)] ⟨_, rfl, rfl⟩
  refine ss ?_
  cases hm1
  exact wk_cutw [(105, 105), (106, 106)] ⟨_, rfl, rfl⟩
 rintro _ ⟨x5, rfl, rfl⟩
 refine ss ?_
 refine wc_cs hm ?_ ?_ <;> clear hm <;> intro hm
 ·refine sr ?_
  obtain ⟨y6, hy, hm⟩ := obnd_o hm
  refine wl_cq (Mlaw37_awake_sp (hm := hy)) ?_
  refine sx ?_
  cases hm
  exact wk_r
 refine sx ?_
 refine sr ?_
 obtain ⟨mu1, hm1, hm⟩ := obnd_o hm
 refine wc_cut' (fun st => mu1 = Ctl.nxt () ∧ st = ⟨[(0, .d (lst dsI l1)), (3, .d (lst (dsL Kv.ds) tables4)), (5, .p 105 0), (6, .p 106 0)], [(105, some (.box 25 [vI raw2.Kind, .d (lst Rng.ds raw2.Ranges), vS raw2.Key, vI raw2.Count])), (106, some (.box 30 [.d (lst Kv.ds a3.Rows), vI a3.Fold.Count, vI a3.Fold.Numbers, vI a3.Fold.Sum, vI a3.Fold.Low, vI a3.Fold.High, vS a3.Fold.First, vS a3.Fold.Last]))]⟩) ?_ ?_
 ·refine wc_block ?_
  refine wc_len 46 rfl (fun hlenm9 => ?_)
  refine wc_loopw (fun κ st => ∃ (m9 : Nat) , κ = tables4.length - m9 ∧ m9 ≤ tables4.length ∧ Mlaw37_AuditMoments_l1 (tables4.drop m9) = some mu1 ∧ st = ⟨[(0, .d (lst dsI l1)), (3, .d (lst (dsL Kv.ds) tables4)), (5, .p 105 0), (6, .p 106 0), (46, .d (lst (dsL Kv.ds) tables4)), (47, vI (tables4.length : Int)), (48, vI (m9 : Int))], [(105, some (.box 25 [vI raw2.Kind, .d (lst Rng.ds raw2.Ranges), vS raw2.Key, vI raw2.Count])), (106, some (.box 30 [.d (lst Kv.ds a3.Rows), vI a3.Fold.Count, vI a3.Fold.Numbers, vI a3.Fold.Sum, vI a3.Fold.Low, vI a3.Fold.High, vS a3.Fold.First, vS a3.Fold.Last]))]⟩) [(105, 105), (106, 106)] ⟨0, rfl, Nat.zero_le _, hm1, rfl⟩ ?_
  rintro κ _ ⟨m9, rfl, hlem9, hm1, rfl⟩
  rcases Nat.lt_or_ge m9 tables4.length with hltm9 | hgem9
  ·obtain ⟨r7, hxm9, hdr⟩ := drop_c hltm9
   rw [hdr, Mlaw37_AuditMoments_l1.eq_2] at hm1
   refine sr ?_
   refine wc_seq ?_
   refine wc_cond_tt (lt_t hltm9) rfl ?_
   refine sx ?_
   refine sr ?_
   refine wl_r (o_ixm (ys := [lst Kv.ds r7]) hxm9 rfl rfl rfl rfl) rfl rfl rfl ?_
   refine sr ?_
   refine wc_cs hm1 ?_ ?_ <;> clear hm1 <;> intro hm1
   ·refine sr ?_
    obtain ⟨y10, hy, hm1⟩ := obnd_o hm1
    refine wl_cq (Mlaw37_awake_sp (hm := hy)) ?_
    refine sx ?_
    cases hm1
    replace hm := ocbnd_r hm
    cases hm
    exact wk_r
   refine sx ?_
   refine sr ?_
   refine wl_r (o_inc hltm9 hlenm9 rfl rfl rfl) rfl rfl rfl ?_
   refine ss ?_
   exact wk_loopw [(105, 105), (106, 106)] ⟨m9 + 1, rfl, hltm9, hm1, rfl⟩ (by omega)
  ·rw [drop_n hgem9, Mlaw37_AuditMoments_l1.eq_1] at hm1
   refine sr ?_
   refine wc_seq ?_
   refine wc_cond_ff (lt_f hgem9) rfl ?_
   refine wc_exit ?_
   refine ss ?_
   cases hm1
   exact wk_cutw [(105, 105), (106, 106)] ⟨rfl, rfl⟩
 rintro _ ⟨rfl, rfl⟩
 replace hm := ocbnd_n hm
 refine sr ?_
 obtain ⟨y11, hy, hm⟩ := obnd_o hm
 refine wl_mkn (u' := .p 205801 0) (h' := [(205801, some (.box 89 [.d (lst dsI y11.l), vI y11.at_]))]) (Mwld_New_sp (hm := hy)) 205800 rfl rfl rfl (by repeat (first | exact Vws.nil | apply Vws.cons | exact Vw.nil | exact Vw.d _ | exact Vw.q _ | apply Vw.a)) rfl (by (try simp only [renH, Option.map_some, Blk.ren, rens_d]); rfl) rfl rfl rfl rfl ?_
 refine sr ?_
 obtain ⟨y12, hy, hm⟩ := obnd_o hm
 refine wl_iq (Mlaw37_free_sp (hm := hy)) 205801 ?_
 refine sr ?_
 obtain ⟨y13, hy, hm⟩ := obnd_o hm
 refine wl_mkn (u' := .t [.h 206701, vI y13.2]) (h' := [(206701, some (arrT 26 1 (dsL Kv.ds) y13.1))]) (Mref37_Tables_so0 (hm := hy)) 206700 rfl rfl rfl (by repeat (first | exact Vws.nil | apply Vws.cons | exact Vw.nil | exact Vw.d _ | exact Vw.q _ | apply Vw.a)) rfl (by (try simp only [renH, Option.map_some, Blk.ren, rens_d]); rfl) rfl rfl rfl rfl ?_
 refine sr ?_
 refine wl_bt (dsL Kv.ds) [y12.1] rfl rfl (by simp only [flatV, cellsV, List.cons_append, List.nil_append, List.append_nil]; exact rfl) rfl rfl rfl rfl rfl rfl ?_
 refine ss ?_
 obtain ⟨l14, hy, hm⟩ := obnd_o hm
 refine wl_2 (n_app (k' := 173) hy rfl rfl rfl rfl rfl rfl rfl rfl) rfl rfl rfl rfl ?_
 refine sr ?_
 obtain ⟨y15, hy, hm⟩ := obnd_o hm
 refine wl_iq (Mwld_Tape_Query_sp (hm := hy)) 205801 ?_
 refine ss ?_
 refine wc_seq ?_
 refine wc_draw (id := 14) [⟨0, 0, [14]⟩, ⟨1, 0, [11]⟩, ⟨2, 0, [14]⟩, ⟨3, 4, [79]⟩, ⟨7, 0, [16]⟩, ⟨12, 0, []⟩, ⟨4, 14, [78, 80]⟩, ⟨5, 31, [77, 81]⟩, ⟨6, 63, [82]⟩, ⟨8, 255, [83, 84]⟩, ⟨9, 511, [85]⟩, ⟨10, 1023, [76]⟩, ⟨11, 1023, [76]⟩, ⟨13, 6143, [17, 86]⟩, ⟨14, 16383, [87]⟩] mixed (by kernel_rfl) ?_
 refine ss ?_
 obtain ⟨y16, hy, hm⟩ := obnd_o hm
 refine wd_io (Mwld_Tape_Next_sp (hm := hy)) 205801 rfl rfl rfl (by repeat (first | exact Vws.nil | apply Vws.cons | exact Vw.nil | exact Vw.d _ | exact Vw.q _ | exact Vw.p rfl | apply Vw.a)) rfl (Vb.box (by repeat (first | exact Vws.nil | apply Vws.cons | exact Vw.nil | exact Vw.d _ | exact Vw.q _ | exact Vw.p rfl | apply Vw.a))) rfl rfl rfl (by first | exact .no rfl | exact .y rfl rfl rfl rfl) rfl rfl rfl rfl ?_
 refine ss ?_
 obtain ⟨e17, hy, hm⟩ := obnd_o hm
 have hge17 := hy
 refine wd_ixo hy rfl rfl rfl rfl rfl (by first | exact .no rfl | exact .y rfl rfl rfl rfl) rfl rfl ?_
 refine ss ?_
 refine wd_ldo (kk := 173) (f := (dsL Kv.ds)) (zz := 1) (u := .d (lst Kv.ds e17)) (off := 0) hge17 rfl rfl rfl (by exact inferInstance) rfl rfl rfl (by first | exact .no rfl | exact .y rfl rfl rfl rfl) rfl rfl ?_
 refine ss ?_
 obtain ⟨y18, hy, hm⟩ := obnd_o hm
 refine wd_cs (Mref22_Answer_sp (hm := hy)) rfl rfl rfl (by repeat (first | exact Vws.nil | apply Vws.cons | exact Vw.nil | exact Vw.d _ | exact Vw.q _ | apply Vw.a)) rfl rfl (by first | exact .no rfl | exact .y rfl rfl rfl rfl) rfl rfl rfl ?_
 refine sr ?_
 refine wc_seq ?_
 refine wc_draw (id := 16) [⟨0, 0, [19]⟩, ⟨1, 1, [89]⟩, ⟨2, 3, [90]⟩, ⟨3, 0, [11]⟩, ⟨4, 8, [92]⟩, ⟨5, 31, [91, 93]⟩, ⟨6, 63, [19]⟩, ⟨7, 127, [95]⟩, ⟨8, 255, [94, 96]⟩] mixed (by kernel_rfl) ?_
 refine ss ?_
 obtain ⟨y19, hy, hm⟩ := obnd_o hm
 refine wd_io (Mwld_Tape_Next_sp (hm := hy)) 205801 rfl rfl rfl (by repeat (first | exact Vws.nil | apply Vws.cons | exact Vw.nil | exact Vw.d _ | exact Vw.q _ | exact Vw.p rfl | apply Vw.a)) rfl (Vb.box (by repeat (first | exact Vws.nil | apply Vws.cons | exact Vw.nil | exact Vw.d _ | exact Vw.q _ | exact Vw.p rfl | apply Vw.a))) rfl rfl rfl (by first | exact .no rfl | exact .y rfl rfl rfl rfl) rfl rfl rfl rfl ?_
 refine ss ?_
 refine wd_r [] (o_add rfl rfl rfl rfl) rfl (by first | exact .no rfl | exact .y rfl rfl rfl rfl) rfl rfl ?_
 refine ss ?_
 refine wc_seq ?_
 refine wc_seq ?_
 refine wc_draw (id := 17) [⟨0, 0, [16]⟩, ⟨1, 0, [11]⟩, ⟨3, 0, [5]⟩, ⟨6, 0, []⟩, ⟨2, 2, [98]⟩, ⟨4, 15, [97, 99, 100]⟩, ⟨5, 31, [101]⟩] mixed (by kernel_rfl) ?_
 refine ss ?_
 obtain ⟨y20, hy, hm⟩ := obnd_o hm
 refine wd_io (Mwld_Tape_OddQuery_sp (hm := hy)) 205801 rfl rfl rfl (by repeat (first | exact Vws.nil | apply Vws.cons | exact Vw.nil | exact Vw.d _ | exact Vw.q _ | exact Vw.p rfl | apply Vw.a)) rfl (Vb.box (by repeat (first | exact Vws.nil | apply Vws.cons | exact Vw.nil | exact Vw.d _ | exact Vw.q _ | exact Vw.p rfl | apply Vw.a))) rfl rfl rfl (by first | exact .no rfl | exact .y rfl rfl rfl rfl) rfl rfl rfl rfl ?_
 refine ss ?_
 refine wd_bt TQuery.ds [y15.1, y20.1, raw2] rfl rfl (by simp only [flatV, cellsV, List.cons_append, List.nil_append, List.append_nil]; exact rfl) rfl rfl rfl rfl (by first | exact .no rfl | exact .y rfl rfl rfl rfl) rfl rfl ?_
 refine ss ?_
 obtain ⟨mu1, hm1, hm⟩ := obnd_o hm
 refine wc_cut' (fun st => mu1 = Ctl.nxt () ∧ st = ⟨[], []⟩) ?_ ?_
 ·refine wc_block ?_
  refine wc_len 101 rfl (fun hlenm24 => ?_)
  refine wc_loopw (fun κ st => ∃ (m24 : Nat) (all21 : List (List Kv)), κ = ([y15.1, y20.1, raw2] : List TQuery).length - m24 ∧ m24 ≤ ([y15.1, y20.1, raw2] : List TQuery).length ∧ Mlaw37_AuditMoments_l2 a3 y18 y19 tables4 (([y15.1, y20.1, raw2] : List TQuery).drop m24) all21 = some mu1 ∧ st = ⟨[(3, .d (lst (dsL Kv.ds) tables4)), (6, .p 106 0), (14, .d (lst (dsL Kv.ds) all21)), (17, .p 117 0), (19, .p 119 0), (101, .d (lst TQuery.ds ([y15.1, y20.1, raw2] : List TQuery))), (102, vI (([y15.1, y20.1, raw2] : List TQuery).length : Int)), (103, vI (m24 : Int))], [(106, some (.box 30 [.d (lst Kv.ds a3.Rows), vI a3.Fold.Count, vI a3.Fold.Numbers, vI a3.Fold.Sum, vI a3.Fold.Low, vI a3.Fold.High, vS a3.Fold.First, vS a3.Fold.Last])), (117, some (.box 30 [.d (lst Kv.ds y18.1.Rows), vI y18.1.Fold.Count, vI y18.1.Fold.Numbers, vI y18.1.Fold.Sum, vI y18.1.Fold.Low, vI y18.1.Fold.High, vS y18.1.Fold.First, vS y18.1.Fold.Last])), (119, some (.box 30 [.d (lst Kv.ds y18.1.Rows), vI (i64w (y18.1.Fold.Count + y19.1)), vI y18.1.Fold.Numbers, vI y18.1.Fold.Sum, vI y18.1.Fold.Low, vI y18.1.Fold.High, vS y18.1.Fold.First, vS y18.1.Fold.Last]))]⟩) [(106, 106), (117, 117), (119, 119)] ⟨0, _, rfl, Nat.zero_le _, hm1, rfl⟩ ?_
  rintro κ _ ⟨m24, all21, rfl, hlem24, hm1, rfl⟩
  rcases Nat.lt_or_ge m24 ([y15.1, y20.1, raw2] : List TQuery).length with hltm24 | hgem24
  ·obtain ⟨r22, hxm24, hdr⟩ := drop_c hltm24
   rw [hdr, Mlaw37_AuditMoments_l2.eq_2] at hm1
   refine sr ?_
   refine wc_seq ?_
   refine wc_cond_tt (lt_t hltm24) rfl ?_
   refine sx ?_
   refine wc_seq ?_
   obtain ⟨mu2, hm2, hm1⟩ := obnd_o hm1
   refine wc_cut' (fun st => mu2 = Ctl.nxt () ∧ st = ⟨[(3, .d (lst (dsL Kv.ds) tables4)), (6, .p 106 0), (14, .d (lst (dsL Kv.ds) all21)), (17, .p 117 0), (19, .p 119 0), (101, .d (lst TQuery.ds ([y15.1, y20.1, raw2] : List TQuery))), (102, vI (([y15.1, y20.1, raw2] : List TQuery).length : Int)), (103, vI (m24 : Int))], [(106, some (.box 30 [.d (lst Kv.ds a3.Rows), vI a3.Fold.Count, vI a3.Fold.Numbers, vI a3.Fold.Sum, vI a3.Fold.Low, vI a3.Fold.High, vS a3.Fold.First, vS a3.Fold.Last])), (117, some (.box 30 [.d (lst Kv.ds y18.1.Rows), vI y18.1.Fold.Count, vI y18.1.Fold.Numbers, vI y18.1.Fold.Sum, vI y18.1.Fold.Low, vI y18.1.Fold.High, vS y18.1.Fold.First, vS y18.1.Fold.Last])), (119, some (.box 30 [.d (lst Kv.ds y18.1.Rows), vI (i64w (y18.1.Fold.Count + y19.1)), vI y18.1.Fold.Numbers, vI y18.1.Fold.Sum, vI y18.1.Fold.Low, vI y18.1.Fold.High, vS y18.1.Fold.First, vS y18.1.Fold.Last]))]⟩) ?_ ?_
   ·refine sr ?_
    refine wl_r (o_ixm (ys := [dI r22.Kind, lst Rng.ds r22.Ranges, dS r22.Key, dI r22.Count]) hxm24 rfl rfl rfl rfl) rfl rfl rfl ?_
    refine sr ?_
    refine wl_wkw [(106, 106), (117, 117), (119, 119), (121, 121)] ⟨[(3, .d (lst (dsL Kv.ds) tables4)), (6, .p 106 0), (14, .d (lst (dsL Kv.ds) all21)), (17, .p 117 0), (19, .p 119 0), (21, .p 121 0), (101, .d (lst TQuery.ds ([y15.1, y20.1, raw2] : List TQuery))), (102, vI (([y15.1, y20.1, raw2] : List TQuery).length : Int)), (103, vI (m24 : Int)), (107, .a [.d (lst Kv.ds a3.Rows), vI a3.Fold.Count, vI a3.Fold.Numbers, vI a3.Fold.Sum, vI a3.Fold.Low, vI a3.Fold.High, vS a3.Fold.First, vS a3.Fold.Last]), (108, .a [.d (lst Kv.ds y18.1.Rows), vI y18.1.Fold.Count, vI y18.1.Fold.Numbers, vI y18.1.Fold.Sum, vI y18.1.Fold.Low, vI y18.1.Fold.High, vS y18.1.Fold.First, vS y18.1.Fold.Last]), (109, .a [.d (lst Kv.ds y18.1.Rows), vI (i64w (y18.1.Fold.Count + y19.1)), vI y18.1.Fold.Numbers, vI y18.1.Fold.Sum, vI y18.1.Fold.Low, vI y18.1.Fold.High, vS y18.1.Fold.First, vS y18.1.Fold.Last]), (110, .a [.d (lst Kv.ds ([] : List Kv)), vI 0, vI 0, vI 0, vI 0, vI 0, vS ⟨#[]⟩, vS ⟨#[]⟩])], [(106, some (.box 30 [.d (lst Kv.ds a3.Rows), vI a3.Fold.Count, vI a3.Fold.Numbers, vI a3.Fold.Sum, vI a3.Fold.Low, vI a3.Fold.High, vS a3.Fold.First, vS a3.Fold.Last])), (117, some (.box 30 [.d (lst Kv.ds y18.1.Rows), vI y18.1.Fold.Count, vI y18.1.Fold.Numbers, vI y18.1.Fold.Sum, vI y18.1.Fold.Low, vI y18.1.Fold.High, vS y18.1.Fold.First, vS y18.1.Fold.Last])), (119, some (.box 30 [.d (lst Kv.ds y18.1.Rows), vI (i64w (y18.1.Fold.Count + y19.1)), vI y18.1.Fold.Numbers, vI y18.1.Fold.Sum, vI y18.1.Fold.Low, vI y18.1.Fold.High, vS y18.1.Fold.First, vS y18.1.Fold.Last])), (121, some (.box 25 [vI r22.Kind, .d (lst Rng.ds r22.Ranges), vS r22.Key, vI r22.Count]))]⟩ ?_
    refine ss ?_
    refine wl_bt TAnswer.ds [a3, y18.1, (TAnswer.mk y18.1.Rows (TFold.mk (i64w (y18.1.Fold.Count + y19.1)) y18.1.Fold.Numbers y18.1.Fold.Sum y18.1.Fold.Low y18.1.Fold.High y18.1.Fold.First y18.1.Fold.Last)), (TAnswer.mk ([] : List Kv) (TFold.mk 0 0 0 0 0 ⟨#[]⟩ ⟨#[]⟩))] rfl rfl (by simp only [flatV, cellsV, List.cons_append, List.nil_append, List.append_nil]; exact rfl) rfl rfl rfl rfl rfl rfl ?_
    refine ss ?_
    obtain ⟨mu3, hm3, hm2⟩ := obnd_o hm2
    refine wc_cut' (fun st => mu3 = Ctl.nxt () ∧ st = ⟨[(3, .d (lst (dsL Kv.ds) tables4)), (6, .p 106 0), (14, .d (lst (dsL Kv.ds) all21)), (17, .p 117 0), (19, .p 119 0), (101, .d (lst TQuery.ds ([y15.1, y20.1, raw2] : List TQuery))), (102, vI (([y15.1, y20.1, raw2] : List TQuery).length : Int)), (103, vI (m24 : Int))], [(106, some (.box 30 [.d (lst Kv.ds a3.Rows), vI a3.Fold.Count, vI a3.Fold.Numbers, vI a3.Fold.Sum, vI a3.Fold.Low, vI a3.Fold.High, vS a3.Fold.First, vS a3.Fold.Last])), (117, some (.box 30 [.d (lst Kv.ds y18.1.Rows), vI y18.1.Fold.Count, vI y18.1.Fold.Numbers, vI y18.1.Fold.Sum, vI y18.1.Fold.Low, vI y18.1.Fold.High, vS y18.1.Fold.First, vS y18.1.Fold.Last])), (119, some (.box 30 [.d (lst Kv.ds y18.1.Rows), vI (i64w (y18.1.Fold.Count + y19.1)), vI y18.1.Fold.Numbers, vI y18.1.Fold.Sum, vI y18.1.Fold.Low, vI y18.1.Fold.High, vS y18.1.Fold.First, vS y18.1.Fold.Last]))]⟩) ?_ ?_
    ·refine wc_block ?_
     refine wc_len 111 rfl (fun hlenm27 => ?_)
     refine wc_loopw (fun κ st => ∃ (m27 : Nat) , κ = ([a3, y18.1, (TAnswer.mk y18.1.Rows (TFold.mk (i64w (y18.1.Fold.Count + y19.1)) y18.1.Fold.Numbers y18.1.Fold.Sum y18.1.Fold.Low y18.1.Fold.High y18.1.Fold.First y18.1.Fold.Last)), (TAnswer.mk ([] : List Kv) (TFold.mk 0 0 0 0 0 ⟨#[]⟩ ⟨#[]⟩))] : List TAnswer).length - m27 ∧ m27 ≤ ([a3, y18.1, (TAnswer.mk y18.1.Rows (TFold.mk (i64w (y18.1.Fold.Count + y19.1)) y18.1.Fold.Numbers y18.1.Fold.Sum y18.1.Fold.Low y18.1.Fold.High y18.1.Fold.First y18.1.Fold.Last)), (TAnswer.mk ([] : List Kv) (TFold.mk 0 0 0 0 0 ⟨#[]⟩ ⟨#[]⟩))] : List TAnswer).length ∧ Mlaw37_AuditMoments_l3 tables4 all21 r22 (([a3, y18.1, (TAnswer.mk y18.1.Rows (TFold.mk (i64w (y18.1.Fold.Count + y19.1)) y18.1.Fold.Numbers y18.1.Fold.Sum y18.1.Fold.Low y18.1.Fold.High y18.1.Fold.First y18.1.Fold.Last)), (TAnswer.mk ([] : List Kv) (TFold.mk 0 0 0 0 0 ⟨#[]⟩ ⟨#[]⟩))] : List TAnswer).drop m27) = some mu3 ∧ st = ⟨[(3, .d (lst (dsL Kv.ds) tables4)), (6, .p 106 0), (14, .d (lst (dsL Kv.ds) all21)), (17, .p 117 0), (19, .p 119 0), (21, .p 121 0), (101, .d (lst TQuery.ds ([y15.1, y20.1, raw2] : List TQuery))), (102, vI (([y15.1, y20.1, raw2] : List TQuery).length : Int)), (103, vI (m24 : Int)), (111, .d (lst TAnswer.ds ([a3, y18.1, (TAnswer.mk y18.1.Rows (TFold.mk (i64w (y18.1.Fold.Count + y19.1)) y18.1.Fold.Numbers y18.1.Fold.Sum y18.1.Fold.Low y18.1.Fold.High y18.1.Fold.First y18.1.Fold.Last)), (TAnswer.mk ([] : List Kv) (TFold.mk 0 0 0 0 0 ⟨#[]⟩ ⟨#[]⟩))] : List TAnswer))), (112, vI (([a3, y18.1, (TAnswer.mk y18.1.Rows (TFold.mk (i64w (y18.1.Fold.Count + y19.1)) y18.1.Fold.Numbers y18.1.Fold.Sum y18.1.Fold.Low y18.1.Fold.High y18.1.Fold.First y18.1.Fold.Last)), (TAnswer.mk ([] : List Kv) (TFold.mk 0 0 0 0 0 ⟨#[]⟩ ⟨#[]⟩))] : List TAnswer).length : Int)), (113, vI (m27 : Int))], [(106, some (.box 30 [.d (lst Kv.ds a3.Rows), vI a3.Fold.Count, vI a3.Fold.Numbers, vI a3.Fold.Sum, vI a3.Fold.Low, vI a3.Fold.High, vS a3.Fold.First, vS a3.Fold.Last])), (117, some (.box 30 [.d (lst Kv.ds y18.1.Rows), vI y18.1.Fold.Count, vI y18.1.Fold.Numbers, vI y18.1.Fold.Sum, vI y18.1.Fold.Low, vI y18.1.Fold.High, vS y18.1.Fold.First, vS y18.1.Fold.Last])), (119, some (.box 30 [.d (lst Kv.ds y18.1.Rows), vI (i64w (y18.1.Fold.Count + y19.1)), vI y18.1.Fold.Numbers, vI y18.1.Fold.Sum, vI y18.1.Fold.Low, vI y18.1.Fold.High, vS y18.1.Fold.First, vS y18.1.Fold.Last])), (121, some (.box 25 [vI r22.Kind, .d (lst Rng.ds r22.Ranges), vS r22.Key, vI r22.Count]))]⟩) [(106, 106), (117, 117), (119, 119), (121, 121)] ⟨0, rfl, Nat.zero_le _, hm3, rfl⟩ ?_
     rintro κ _ ⟨m27, rfl, hlem27, hm3, rfl⟩
     rcases Nat.lt_or_ge m27 ([a3, y18.1, (TAnswer.mk y18.1.Rows (TFold.mk (i64w (y18.1.Fold.Count + y19.1)) y18.1.Fold.Numbers y18.1.Fold.Sum y18.1.Fold.Low y18.1.Fold.High y18.1.Fold.First y18.1.Fold.Last)), (TAnswer.mk ([] : List Kv) (TFold.mk 0 0 0 0 0 ⟨#[]⟩ ⟨#[]⟩))] : List TAnswer).length with hltm27 | hgem27
     ·obtain ⟨r25, hxm27, hdr⟩ := drop_c hltm27
      rw [hdr, Mlaw37_AuditMoments_l3.eq_2] at hm3
      refine sr ?_
      refine wc_seq ?_
      refine wc_cond_tt (lt_t hltm27) rfl ?_
      refine sx ?_
      refine wc_seq ?_
      obtain ⟨mu4, hm4, hm3⟩ := obnd_o hm3
      refine wc_cut' (fun st => mu4 = Ctl.nxt () ∧ st = ⟨[(3, .d (lst (dsL Kv.ds) tables4)), (6, .p 106 0), (14, .d (lst (dsL Kv.ds) all21)), (17, .p 117 0), (19, .p 119 0), (21, .p 121 0), (101, .d (lst TQuery.ds ([y15.1, y20.1, raw2] : List TQuery))), (102, vI (([y15.1, y20.1, raw2] : List TQuery).length : Int)), (103, vI (m24 : Int)), (111, .d (lst TAnswer.ds ([a3, y18.1, (TAnswer.mk y18.1.Rows (TFold.mk (i64w (y18.1.Fold.Count + y19.1)) y18.1.Fold.Numbers y18.1.Fold.Sum y18.1.Fold.Low y18.1.Fold.High y18.1.Fold.First y18.1.Fold.Last)), (TAnswer.mk ([] : List Kv) (TFold.mk 0 0 0 0 0 ⟨#[]⟩ ⟨#[]⟩))] : List TAnswer))), (112, vI (([a3, y18.1, (TAnswer.mk y18.1.Rows (TFold.mk (i64w (y18.1.Fold.Count + y19.1)) y18.1.Fold.Numbers y18.1.Fold.Sum y18.1.Fold.Low y18.1.Fold.High y18.1.Fold.First y18.1.Fold.Last)), (TAnswer.mk ([] : List Kv) (TFold.mk 0 0 0 0 0 ⟨#[]⟩ ⟨#[]⟩))] : List TAnswer).length : Int)), (113, vI (m27 : Int))], [(106, some (.box 30 [.d (lst Kv.ds a3.Rows), vI a3.Fold.Count, vI a3.Fold.Numbers, vI a3.Fold.Sum, vI a3.Fold.Low, vI a3.Fold.High, vS a3.Fold.First, vS a3.Fold.Last])), (117, some (.box 30 [.d (lst Kv.ds y18.1.Rows), vI y18.1.Fold.Count, vI y18.1.Fold.Numbers, vI y18.1.Fold.Sum, vI y18.1.Fold.Low, vI y18.1.Fold.High, vS y18.1.Fold.First, vS y18.1.Fold.Last])), (119, some (.box 30 [.d (lst Kv.ds y18.1.Rows), vI (i64w (y18.1.Fold.Count + y19.1)), vI y18.1.Fold.Numbers, vI y18.1.Fold.Sum, vI y18.1.Fold.Low, vI y18.1.Fold.High, vS y18.1.Fold.First, vS y18.1.Fold.Last])), (121, some (.box 25 [vI r22.Kind, .d (lst Rng.ds r22.Ranges), vS r22.Key, vI r22.Count]))]⟩) ?_ ?_
      ·refine sr ?_
       refine wl_r (o_ixm (ys := [lst Kv.ds r25.Rows, dI r25.Fold.Count, dI r25.Fold.Numbers, dI r25.Fold.Sum, dI r25.Fold.Low, dI r25.Fold.High, dS r25.Fold.First, dS r25.Fold.Last]) hxm27 rfl rfl rfl rfl) rfl rfl rfl ?_
       refine sr ?_
       refine wl_bt (dsL (dsL Kv.ds)) [all21, tables4] rfl rfl (by simp only [flatV, cellsV, List.cons_append, List.nil_append, List.append_nil]; exact rfl) rfl rfl rfl rfl rfl rfl ?_
       refine ss ?_
       obtain ⟨mu5, hm5, hm4⟩ := obnd_o hm4
       refine wc_cut' (fun st => mu5 = Ctl.nxt () ∧ st = ⟨[(3, .d (lst (dsL Kv.ds) tables4)), (6, .p 106 0), (14, .d (lst (dsL Kv.ds) all21)), (17, .p 117 0), (19, .p 119 0), (21, .p 121 0), (101, .d (lst TQuery.ds ([y15.1, y20.1, raw2] : List TQuery))), (102, vI (([y15.1, y20.1, raw2] : List TQuery).length : Int)), (103, vI (m24 : Int)), (111, .d (lst TAnswer.ds ([a3, y18.1, (TAnswer.mk y18.1.Rows (TFold.mk (i64w (y18.1.Fold.Count + y19.1)) y18.1.Fold.Numbers y18.1.Fold.Sum y18.1.Fold.Low y18.1.Fold.High y18.1.Fold.First y18.1.Fold.Last)), (TAnswer.mk ([] : List Kv) (TFold.mk 0 0 0 0 0 ⟨#[]⟩ ⟨#[]⟩))] : List TAnswer))), (112, vI (([a3, y18.1, (TAnswer.mk y18.1.Rows (TFold.mk (i64w (y18.1.Fold.Count + y19.1)) y18.1.Fold.Numbers y18.1.Fold.Sum y18.1.Fold.Low y18.1.Fold.High y18.1.Fold.First y18.1.Fold.Last)), (TAnswer.mk ([] : List Kv) (TFold.mk 0 0 0 0 0 ⟨#[]⟩ ⟨#[]⟩))] : List TAnswer).length : Int)), (113, vI (m27 : Int))], [(106, some (.box 30 [.d (lst Kv.ds a3.Rows), vI a3.Fold.Count, vI a3.Fold.Numbers, vI a3.Fold.Sum, vI a3.Fold.Low, vI a3.Fold.High, vS a3.Fold.First, vS a3.Fold.Last])), (117, some (.box 30 [.d (lst Kv.ds y18.1.Rows), vI y18.1.Fold.Count, vI y18.1.Fold.Numbers, vI y18.1.Fold.Sum, vI y18.1.Fold.Low, vI y18.1.Fold.High, vS y18.1.Fold.First, vS y18.1.Fold.Last])), (119, some (.box 30 [.d (lst Kv.ds y18.1.Rows), vI (i64w (y18.1.Fold.Count + y19.1)), vI y18.1.Fold.Numbers, vI y18.1.Fold.Sum, vI y18.1.Fold.Low, vI y18.1.Fold.High, vS y18.1.Fold.First, vS y18.1.Fold.Last])), (121, some (.box 25 [vI r22.Kind, .d (lst Rng.ds r22.Ranges), vS r22.Key, vI r22.Count]))]⟩) ?_ ?_
       ·refine wc_block ?_
        refine wc_len 119 rfl (fun hlenm30 => ?_)
        refine wc_loopw (fun κ st => ∃ (m30 : Nat) , κ = ([all21, tables4] : List (List (List Kv))).length - m30 ∧ m30 ≤ ([all21, tables4] : List (List (List Kv))).length ∧ Mlaw37_AuditMoments_l4 r22 r25 (([all21, tables4] : List (List (List Kv))).drop m30) = some mu5 ∧ st = ⟨[(3, .d (lst (dsL Kv.ds) tables4)), (6, .p 106 0), (14, .d (lst (dsL Kv.ds) all21)), (17, .p 117 0), (19, .p 119 0), (21, .p 121 0), (23, .p 123 0), (101, .d (lst TQuery.ds ([y15.1, y20.1, raw2] : List TQuery))), (102, vI (([y15.1, y20.1, raw2] : List TQuery).length : Int)), (103, vI (m24 : Int)), (111, .d (lst TAnswer.ds ([a3, y18.1, (TAnswer.mk y18.1.Rows (TFold.mk (i64w (y18.1.Fold.Count + y19.1)) y18.1.Fold.Numbers y18.1.Fold.Sum y18.1.Fold.Low y18.1.Fold.High y18.1.Fold.First y18.1.Fold.Last)), (TAnswer.mk ([] : List Kv) (TFold.mk 0 0 0 0 0 ⟨#[]⟩ ⟨#[]⟩))] : List TAnswer))), (112, vI (([a3, y18.1, (TAnswer.mk y18.1.Rows (TFold.mk (i64w (y18.1.Fold.Count + y19.1)) y18.1.Fold.Numbers y18.1.Fold.Sum y18.1.Fold.Low y18.1.Fold.High y18.1.Fold.First y18.1.Fold.Last)), (TAnswer.mk ([] : List Kv) (TFold.mk 0 0 0 0 0 ⟨#[]⟩ ⟨#[]⟩))] : List TAnswer).length : Int)), (113, vI (m27 : Int)), (119, .d (lst (dsL (dsL Kv.ds)) ([all21, tables4] : List (List (List Kv))))), (120, vI (([all21, tables4] : List (List (List Kv))).length : Int)), (121, vI (m30 : Int))], [(106, some (.box 30 [.d (lst Kv.ds a3.Rows), vI a3.Fold.Count, vI a3.Fold.Numbers, vI a3.Fold.Sum, vI a3.Fold.Low, vI a3.Fold.High, vS a3.Fold.First, vS a3.Fold.Last])), (117, some (.box 30 [.d (lst Kv.ds y18.1.Rows), vI y18.1.Fold.Count, vI y18.1.Fold.Numbers, vI y18.1.Fold.Sum, vI y18.1.Fold.Low, vI y18.1.Fold.High, vS y18.1.Fold.First, vS y18.1.Fold.Last])), (119, some (.box 30 [.d (lst Kv.ds y18.1.Rows), vI (i64w (y18.1.Fold.Count + y19.1)), vI y18.1.Fold.Numbers, vI y18.1.Fold.Sum, vI y18.1.Fold.Low, vI y18.1.Fold.High, vS y18.1.Fold.First, vS y18.1.Fold.Last])), (121, some (.box 25 [vI r22.Kind, .d (lst Rng.ds r22.Ranges), vS r22.Key, vI r22.Count])), (123, some (.box 30 [.d (lst Kv.ds r25.Rows), vI r25.Fold.Count, vI r25.Fold.Numbers, vI r25.Fold.Sum, vI r25.Fold.Low, vI r25.Fold.High, vS r25.Fold.First, vS r25.Fold.Last]))]⟩) [(106, 106), (117, 117), (119, 119), (121, 121), (123, 123)] ⟨0, rfl, Nat.zero_le _, hm5, rfl⟩ ?_
        rintro κ _ ⟨m30, rfl, hlem30, hm5, rfl⟩
        rcases Nat.lt_or_ge m30 ([all21, tables4] : List (List (List Kv))).length with hltm30 | hgem30
        ·obtain ⟨r28, hxm30, hdr⟩ := drop_c hltm30
         rw [hdr, Mlaw37_AuditMoments_l4.eq_2] at hm5
         refine sr ?_
         refine wc_seq ?_
         refine wc_cond_tt (lt_t hltm30) rfl ?_
         refine sx ?_
         refine sr ?_
         refine wl_r (o_ixm (ys := [lst (dsL Kv.ds) r28]) hxm30 rfl rfl rfl rfl) rfl rfl rfl ?_
         refine sr ?_
         obtain ⟨y31, hy, hm5⟩ := obnd_o hm5
         refine wl_cq (Maudit_Moment_sp (hm := hy)) ?_
         refine sr ?_
         obtain ⟨y32, hy, hm5⟩ := obnd_o hm5
         refine wl_cq (Mref37_Moment_sp (hm := hy)) ?_
         refine sr ?_
         refine wl_sg hm5 ?_ ?_ <;> clear hm5 <;> intro hm5
         ·refine ss ?_
          refine wc_cond_t rfl ?_
          refine sr ?_
          refine sx ?_
          cases hm5
          replace hm4 := ocbnd_r hm4
          cases hm4
          replace hm3 := ocbnd_r hm3
          cases hm3
          replace hm2 := ocbnd_r hm2
          cases hm2
          replace hm1 := ocbnd_r hm1
          cases hm1
          replace hm := ocbnd_r hm
          cases hm
          exact wk_r
         refine ss ?_
         refine wc_cs hm5 ?_ ?_ <;> clear hm5 <;> intro hm5
         ·refine sr ?_
          refine sx ?_
          cases hm5
          replace hm4 := ocbnd_r hm4
          cases hm4
          replace hm3 := ocbnd_r hm3
          cases hm3
          replace hm2 := ocbnd_r hm2
          cases hm2
          replace hm1 := ocbnd_r hm1
          cases hm1
          replace hm := ocbnd_r hm
          cases hm
          exact wk_r
         refine sx ?_
         refine sr ?_
         refine wl_r (o_inc hltm30 hlenm30 rfl rfl rfl) rfl rfl rfl ?_
         refine ss ?_
         exact wk_loopw [(106, 106), (117, 117), (119, 119), (121, 121), (123, 123)] ⟨m30 + 1, rfl, hltm30, hm5, rfl⟩ (by omega)
        ·rw [drop_n hgem30, Mlaw37_AuditMoments_l4.eq_1] at hm5
         refine sr ?_
         refine wc_seq ?_
         refine wc_cond_ff (lt_f hgem30) rfl ?_
         refine wc_exit ?_
         refine ss ?_
         cases hm5
         exact wk_cutw [(106, 106), (117, 117), (119, 119), (121, 121)] ⟨rfl, rfl⟩
       rintro _ ⟨rfl, rfl⟩
       replace hm4 := ocbnd_n hm4
       refine ss ?_
       cases hm4
       exact wk_cutw [(106, 106), (117, 117), (119, 119), (121, 121)] ⟨rfl, rfl⟩
      rintro _ ⟨rfl, rfl⟩
      replace hm3 := ocbnd_n hm3
      refine sr ?_
      refine wl_r (o_inc hltm27 hlenm27 rfl rfl rfl) rfl rfl rfl ?_
      refine ss ?_
      exact wk_loopw [(106, 106), (117, 117), (119, 119), (121, 121)] ⟨m27 + 1, rfl, hltm27, hm3, rfl⟩ (by omega)
     ·rw [drop_n hgem27, Mlaw37_AuditMoments_l3.eq_1] at hm3
      refine sr ?_
      refine wc_seq ?_
      refine wc_cond_ff (lt_f hgem27) rfl ?_
      refine wc_exit ?_
      refine ss ?_
      cases hm3
      exact wk_cutw [(106, 106), (117, 117), (119, 119)] ⟨rfl, rfl⟩
    rintro _ ⟨rfl, rfl⟩
    replace hm2 := ocbnd_n hm2
    refine ss ?_
    cases hm2
    exact wk_cutw [(106, 106), (117, 117), (119, 119)] ⟨rfl, rfl⟩
   rintro _ ⟨rfl, rfl⟩
   replace hm1 := ocbnd_n hm1
   refine sr ?_
   refine wl_r (o_inc hltm24 hlenm24 rfl rfl rfl) rfl rfl rfl ?_
   refine ss ?_
   exact wk_loopw [(106, 106), (117, 117), (119, 119)] ⟨m24 + 1, _, rfl, hltm24, hm1, rfl⟩ (by omega)
  ·rw [drop_n hgem24, Mlaw37_AuditMoments_l2.eq_1] at hm1
   refine sr ?_
   refine wc_seq ?_
   refine wc_cond_ff (lt_f hgem24) rfl ?_
   refine wc_exit ?_
   refine ss ?_
   cases hm1
   exact wk_cutw [] ⟨rfl, rfl⟩
 rintro _ ⟨rfl, rfl⟩
 replace hm := ocbnd_n hm
 refine sr ?_
 obtain ⟨y33, hy, hm⟩ := obnd_o hm
 refine wl_cq (Mlaw37_awake_sp (hm := hy)) ?_
 refine sx ?_
 cases hm
 exact wk_r

end Go.Proofs.YtohpjdeohpamaaaGreatDoor
namespace Go.Proofs.YtohpjdeohpamaaaGreatDoor
open Go.RowKit
theorem amom_l1 : ∀ l : List (List Kv), Mlaw37_AuditMoments_l1 l = some (.nxt ()) ∨ Mlaw37_AuditMoments_l1 l = some (.ret true)
  | [] => .inl rfl
  | t :: ts => by
    rw [Mlaw37_AuditMoments_l1, aawake_ok]
    by_cases h : 40 < (t.length : Int)
    · rw [decide_eq_true h]; exact .inr rfl
    · rw [decide_eq_false h]; exact amom_l1 ts
theorem amom_l4 (q : TQuery) (a : TAnswer) (hq : q.Ranges.length < 1000000) : ∀ l : List (List (List Kv)), Mlaw37_AuditMoments_l4 q a l = some (.nxt ())
  | [] => rfl
  | x :: xs => by
    rw [Mlaw37_AuditMoments_l4, eq_audit_Moment _ _ _ hq, obnd_some, eq_ref37_Moment _ _ _ hq, obnd_some]
    simp only [decide_true, Bool.not_true, sel_false, beq_self_eq_true]
    exact amom_l4 q a hq xs
theorem amom_l3 (tabs all : List (List Kv)) (q : TQuery) (hq : q.Ranges.length < 1000000) : ∀ l : List TAnswer, Mlaw37_AuditMoments_l3 tabs all q l = some (.nxt ())
  | [] => rfl
  | x :: xs => by
    rw [Mlaw37_AuditMoments_l3, amom_l4 q x hq]
    simp only [obnd_some, ocbnd_nxt]
    exact amom_l3 tabs all q hq xs
theorem amom_l2 (a : TAnswer) (y : TAnswer × Int) (z : Int × TTape) (tabs : List (List Kv)) : ∀ (l : List TQuery) (all : List (List Kv)), (∀ q ∈ l, q.Ranges.length < 1000000) → Mlaw37_AuditMoments_l2 a y z tabs l all = some (.nxt ())
  | [], _, _ => rfl
  | x :: xs, all, h => by
    rw [Mlaw37_AuditMoments_l2, amom_l3 _ _ _ (h x List.mem_cons_self)]
    simp only [obnd_some, ocbnd_nxt]
    exact amom_l2 a y z tabs xs all fun q hq => h q (List.mem_cons_of_mem _ hq)
theorem tabl_len : ∀ (l : List TRecord) (t : List Kv) (out o : List (List Kv)), tabl l t out = .nxt o → o.length = out.length + l.length
  | [], t, out, o, h => by cases h; simp
  | r :: rs, t, out, o, h => by
    rw [tabl] at h
    split at h
    · split at h
      · have := tabl_len rs _ _ _ h; simp at this ⊢; omega
      · cases h
    · have := tabl_len rs _ _ _ h; simp at this ⊢; omega
theorem tabl_ret : ∀ (l : List TRecord) (t : List Kv) (out : List (List Kv)) (r : List (List Kv) × Int), tabl l t out = .ret r → r.1 = []
  | [], t, out, o, h => by cases h
  | r :: rs, t, out, o, h => by
    rw [tabl] at h
    split at h
    · split at h
      · exact tabl_ret rs _ _ _ h
      · cases h; rfl
    · exact tabl_ret rs _ _ _ h
theorem tabs_len (t : List Kv) (l : List TRecord) : (tabs t l).1.length ≤ l.length := by
  unfold tabs
  split
  · simp
  · split
    · cases e : tabl l t [] with
      | nxt o => have := tabl_len _ _ _ _ e; simp at this ⊢; omega
      | ret r => have := tabl_ret _ _ _ _ e; simp [this]
    · simp
theorem auditMoments_ok (l : List Int) (raw : TQuery) (a : TAnswer) (tables : List (List Kv)) : Mlaw37_AuditMoments l raw a tables = some true := by
  unfold Mlaw37_AuditMoments
  rw [aawake_ok]
  have hb : (sel (decide (80 < (raw.Ranges.length : Int))) (some true) (sel (decide (40 < (a.Rows.length : Int))) (some true) (some (decide (10 < (tables.length : Int))))) : Option Bool) = some (decide (80 < (raw.Ranges.length : Int)) || decide (40 < (a.Rows.length : Int)) || decide (10 < (tables.length : Int))) := by
    cases decide (80 < (raw.Ranges.length : Int)) <;> cases decide (40 < (a.Rows.length : Int)) <;> rfl
  rw [hb, obnd_some]
  by_cases hc : (decide (80 < (raw.Ranges.length : Int)) || decide (40 < (a.Rows.length : Int)) || decide (10 < (tables.length : Int))) = true
  · rw [hc]; rfl
  have hr : ¬ 80 < (raw.Ranges.length : Int) := fun h => hc (by simp [h])
  rw [Bool.eq_false_iff.2 hc, sel_false]
  rcases amom_l1 tables with e | e
  · rw [e, obnd_some, ocbnd_nxt]
    obtain ⟨τ, e, h⟩ := new_ok l
    obtain ⟨y12, e12, h12, h12b, h12c, h12d⟩ := tot_free h
    have hlen := tabs_len y12.1 y12.2.1
    have hl50 := h12c.1
    obtain ⟨y15, e15, h15, h15b⟩ := tot_query h12d
    rw [e, obnd_some, e12, obnd_some, eq_ref37_Tables, obnd_some, app_le (by simp; omega), obnd_some, e15, obnd_some]
    obtain ⟨y16, e16, h16, h16b⟩ := tot_next h15 (n := (((tabs y12.1 y12.2.1).1 ++ [y12.1]).length : Int)) (by simp; omega)
    unfold Cho at h16b
    have hpos : (1 : Int) ≤ (((tabs y12.1 y12.2.1).1 ++ [y12.1]).length : Int) := by simp; omega
    obtain ⟨e17, g17, -⟩ := tot_lget (Q := fun _ => True) (l := (tabs y12.1 y12.2.1).1 ++ [y12.1]) (i := y16.1) (by omega) (by omega) fun _ => trivial
    obtain ⟨b, e, g1, g2, -⟩ := answer_eq e17 y15.1 (by have := h15b.2.1; omega)
    obtain ⟨y19, e19, h19, -⟩ := tot_next h16 (n := 2) (by omega)
    obtain ⟨y20, e20, h20, h20b⟩ := tot_oddQuery h19
    rw [e16, obnd_some, g17, obnd_some, g2, obnd_some, e19, obnd_some, e20, obnd_some, amom_l2 _ _ _ _ _ _ fun q hq => ?_]
    · rfl
    · simp only [List.mem_cons, List.not_mem_nil, or_false] at hq
      rcases hq with rfl | rfl | rfl
      · have := h15b.2.1; omega
      · omega
      · omega
  · rw [e]; rfl
end Go.Proofs.YtohpjdeohpamaaaGreatDoor
