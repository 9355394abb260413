/-
  Lemmas: Models and walks
-/
import Derived.Test.YtohpjdeohpamaaaGreatPA21
import Derived.Test.YtohpjdeohpamaaaGreatPA27
import Derived.Test.YtohpjdeohpamaaaGreatPA28
set_option linter.unusedSimpArgs false
set_option linter.unusedVariables false
namespace Go.Proofs.YtohpjdeohpamaaaGreat
open Go.RowKit
set_option maxRecDepth 100000
set_option maxHeartbeats 4000000
attribute [local irreducible] WK WC WL Wk Rel OpD OpV WD WO sel bnd obnd app lget lsl sget ssl scat letg iquo irem Op.bytesLess
attribute [local irreducible] qchk qranges union
def Mref20_Get_l1 (key2 : ByteArray) : List Kv → Ctl (ByteArray × Bool) Unit
  | [] =>
  Ctl.nxt ()
  | r3 :: xs4 =>
  sel (decide (r3.key = key2)) (
   Ctl.ret (r3.val, true)) (
   Mref20_Get_l1 key2 xs4)
def Mref20_Get (t1 : List Kv) (key2 : ByteArray) : (ByteArray × Bool) :=
 bnd (
  Mref20_Get_l1 key2 t1 : Ctl (ByteArray × Bool) Unit) fun mu => cbnd mu fun (_ : Unit) =>
 (⟨#[]⟩, false)
theorem Mref20_Get_sp {t1 : List Kv} {key2 : ByteArray} {y : (ByteArray × Bool)} (hm : Mref20_Get t1 key2 = y) : Spec Tryz.prog 26 [.d (lst Kv.ds t1), vS key2] [] fun u h => u = .t [vS y.1, vB y.2] ∧ h = [] := by
 refine si Tryz.func26 Tryz.ntmps26 Tryz.results26 fun B w0 ρ0 => ?_
 unfold Mref20_Get at hm
 refine sr ?_
 refine sr ?_
 obtain ⟨mu1, hm1, hm⟩ := bnd_o hm
 refine wc_cut' (fun st => mu1 = Ctl.nxt () ∧ st = ⟨[], []⟩) ?_ ?_
 ·refine wc_block ?_
  refine wc_len 8 rfl (fun hlenm5 => ?_)
  refine wc_loopw (fun κ st => ∃ (m5 : Nat) , κ = t1.length - m5 ∧ m5 ≤ t1.length ∧ Mref20_Get_l1 key2 (t1.drop m5) = mu1 ∧ st = ⟨[(1, vS key2), (8, .d (lst Kv.ds t1)), (9, vI (t1.length : Int)), (10, vI (m5 : Int))], []⟩) [] ⟨0, rfl, Nat.zero_le _, hm1, rfl⟩ ?_
  rintro κ _ ⟨m5, rfl, hlem5, hm1, rfl⟩
  rcases Nat.lt_or_ge m5 t1.length with hltm5 | hgem5
  ·obtain ⟨r3, hxm5, hdr⟩ := drop_c hltm5
   rw [hdr, Mref20_Get_l1.eq_2] at hm1
   refine sr ?_
   refine wc_seq ?_
   refine wc_cond_tt (lt_t hltm5) rfl ?_
   refine sx ?_
   refine sr ?_
   refine wl_r (o_ixm (ys := [dS r3.key, dS r3.val]) hxm5 rfl rfl rfl rfl) rfl rfl rfl ?_
   refine sr ?_
   refine wc_cs hm1 ?_ ?_ <;> clear hm1 <;> intro hm1
   ·refine sr ?_
    refine sx ?_
    subst hm1
    replace hm := cbnd_r hm
    subst hm
    exact wk_r
   refine sx ?_
   refine sr ?_
   refine wl_r (o_inc hltm5 hlenm5 rfl rfl rfl) rfl rfl rfl ?_
   refine ss ?_
   exact wk_loopw [] ⟨m5 + 1, rfl, hltm5, hm1, rfl⟩ (by omega)
  ·rw [drop_n hgem5, Mref20_Get_l1.eq_1] at hm1
   refine sr ?_
   refine wc_seq ?_
   refine wc_cond_ff (lt_f hgem5) rfl ?_
   refine wc_exit ?_
   refine ss ?_
   subst hm1
   exact wk_cutw [] ⟨rfl, rfl⟩
 rintro _ ⟨rfl, rfl⟩
 replace hm := cbnd_n hm
 refine sr ?_
 refine sx ?_
 subst hm
 exact wk_r

def Mref20_Do (t1 : List Kv) (w2 : TWrite) : Option (List Kv × Int) :=
 bnd (Mref20_ValidWrite w2) fun y3 =>
 sel (!y3) (
  some ([], 1)) (
  sel w2.Delete (
   obnd (Mref20_without t1 w2.Key) fun y4 =>
   some (y4, 0)) (
   obnd (Mref20_Put t1 (Kv.mk w2.Key w2.Value)) fun y5 =>
   some (y5.1, y5.2)))
theorem Mref20_Do_sp {t1 : List Kv} {w2 : TWrite} {y : (List Kv × Int)} (hm : Mref20_Do t1 w2 = some y) : Spec Tryz.prog 24 [.d (lst Kv.ds t1), .a [vS w2.Key, vS w2.Value, vB w2.Delete]] [] fun u h => u = .t [.d (lst Kv.ds y.1), vI y.2] ∧ h = [] := by
 refine si Tryz.func24 Tryz.ntmps24 Tryz.results24 fun B w0 ρ0 => ?_
 unfold Mref20_Do at hm
 refine sr ?_
 refine sr ?_
 obtain ⟨y3, hy, hm⟩ := bnd_o hm
 refine wl_cq (Mref20_ValidWrite_sp (hm := hy)) ?_
 refine ss ?_
 refine wc_cs hm ?_ ?_ <;> clear hm <;> intro hm
 ·refine sr ?_
  refine sx ?_
  cases hm
  exact wk_r
 refine sx ?_
 refine sr ?_
 refine wc_cs hm ?_ ?_ <;> clear hm <;> intro hm
 ·refine sr ?_
  obtain ⟨y4, hy, hm⟩ := obnd_o hm
  refine wl_cq (Mref20_without_sp (hm := hy)) ?_
  refine sx ?_
  cases hm
  exact wk_r
 refine sx ?_
 refine sr ?_
 obtain ⟨y5, hy, hm⟩ := obnd_o hm
 refine wl_cq (Mref20_Put_sp (hm := hy)) ?_
 refine sx ?_
 cases hm
 exact wk_r

def Mref20_Apply_l1 : List TWrite → List Kv → Option (Ctl (List Kv × Int) (List Kv))
  | [], t4 =>
  some (Ctl.nxt t4)
  | r5 :: xs6, t4 =>
  obnd (Mref20_Do t4 r5) fun y8 =>
  sel (!decide (y8.2 = 0)) (
   some (Ctl.ret ([], y8.2))) (
   Mref20_Apply_l1 xs6 y8.1)
def Mref20_Apply (t1 : List Kv) (l2 : List TWrite) : Option (List Kv × Int) :=
 obnd (Mref20_Valid t1) fun y3 =>
 sel (!y3) (
  some ([], 1)) (
  obnd (
   Mref20_Apply_l1 l2 t1 : Option (Ctl (List Kv × Int) (List Kv))) fun mu => ocbnd mu fun t9 =>
  obnd (app ([] : List Kv) t9) fun l10 =>
  some (l10, 0))
theorem Mref20_Apply_sp {t1 : List Kv} {l2 : List TWrite} {y : (List Kv × Int)} (hm : Mref20_Apply t1 l2 = some y) : Spec Tryz.prog 13 [.d (lst Kv.ds t1), .d (lst TWrite.ds l2)] [] fun u h => u = .t [.d (lst Kv.ds y.1), vI y.2] ∧ h = [] := by
 refine si Tryz.func13 Tryz.ntmps13 Tryz.results13 fun B w0 ρ0 => ?_
 unfold Mref20_Apply at hm
 refine sr ?_
 refine sr ?_
 obtain ⟨y3, hy, hm⟩ := obnd_o hm
 refine wl_cq (Mref20_Valid_sp (hm := hy)) ?_
 refine ss ?_
 refine wc_cs hm ?_ ?_ <;> clear hm <;> intro hm
 ·refine sr ?_
  refine sx ?_
  cases hm
  exact wk_r
 refine sx ?_
 refine sr ?_
 obtain ⟨mu1, hm1, hm⟩ := obnd_o hm
 refine wc_cut' (fun st => ∃ (t9 : List Kv), mu1 = Ctl.nxt t9 ∧ st = ⟨[(0, .d (lst Kv.ds t9))], []⟩) ?_ ?_
 ·refine wc_block ?_
  refine wc_len 13 rfl (fun hlenm7 => ?_)
  refine wc_loopw (fun κ st => ∃ (m7 : Nat) (t4 : List Kv), κ = l2.length - m7 ∧ m7 ≤ l2.length ∧ Mref20_Apply_l1 (l2.drop m7) t4 = some mu1 ∧ st = ⟨[(0, .d (lst Kv.ds t4)), (13, .d (lst TWrite.ds l2)), (14, vI (l2.length : Int)), (15, vI (m7 : Int))], []⟩) [] ⟨0, _, rfl, Nat.zero_le _, hm1, rfl⟩ ?_
  rintro κ _ ⟨m7, t4, rfl, hlem7, hm1, rfl⟩
  rcases Nat.lt_or_ge m7 l2.length with hltm7 | hgem7
  ·obtain ⟨r5, hxm7, hdr⟩ := drop_c hltm7
   rw [hdr, Mref20_Apply_l1.eq_2] at hm1
   refine sr ?_
   refine wc_seq ?_
   refine wc_cond_tt (lt_t hltm7) rfl ?_
   refine sx ?_
   refine sr ?_
   refine wl_r (o_ixm (ys := [dS r5.Key, dS r5.Value, dB r5.Delete]) hxm7 rfl rfl rfl rfl) rfl rfl rfl ?_
   refine sr ?_
   obtain ⟨y8, hy, hm1⟩ := obnd_o hm1
   refine wl_cq (Mref20_Do_sp (hm := hy)) ?_
   refine sr ?_
   refine wc_cs hm1 ?_ ?_ <;> clear hm1 <;> intro hm1
   ·refine sr ?_
    refine sx ?_
    cases hm1
    replace hm := ocbnd_r hm
    cases hm
    exact wk_r
   refine sx ?_
   refine sr ?_
   refine sr ?_
   refine wl_r (o_inc hltm7 hlenm7 rfl rfl rfl) rfl rfl rfl ?_
   refine ss ?_
   exact wk_loopw [] ⟨m7 + 1, _, rfl, hltm7, hm1, rfl⟩ (by omega)
  ·rw [drop_n hgem7, Mref20_Apply_l1.eq_1] at hm1
   refine sr ?_
   refine wc_seq ?_
   refine wc_cond_ff (lt_f hgem7) rfl ?_
   refine wc_exit ?_
   refine ss ?_
   cases hm1
   exact wk_cutw [] ⟨_, rfl, rfl⟩
 rintro _ ⟨t9, rfl, rfl⟩
 replace hm := ocbnd_n hm
 refine sr ?_
 obtain ⟨l10, hy, hm⟩ := obnd_o hm
 refine wl_1 (n_appn (k := 131) hy rfl rfl rfl rfl rfl rfl) rfl rfl rfl rfl ?_
 refine sx ?_
 cases hm
 exact wk_r

def Mref37_Moment_l1 (q1 : TQuery) (a2 : TAnswer) : List (List Kv) → Int → Option (Ctl (Int × Bool) Unit)
  | [], i =>
  some (Ctl.nxt ())
  | r4 :: xs5, i =>
  obnd (Mref22_Answer r4 q1) fun y7 =>
  sel (decide (y7.2 = 0)) (
   obnd (Mref22_SameAnswer a2 y7.1) fun y8 =>
   sel y8 (
    some (Ctl.ret (i, true))) (
    Mref37_Moment_l1 q1 a2 xs5 (i + 1))) (
   Mref37_Moment_l1 q1 a2 xs5 (i + 1))
def Mref37_Moment (q1 : TQuery) (a2 : TAnswer) (tables3 : List (List Kv)) : Option (Int × Bool) :=
 obnd (
  Mref37_Moment_l1 q1 a2 tables3 0 : Option (Ctl (Int × Bool) Unit)) fun mu => ocbnd mu fun (_ : Unit) =>
 some (0, false)
theorem Mref37_Moment_sp {q1 : TQuery} {a2 : TAnswer} {tables3 : List (List Kv)} {y : (Int × Bool)} (hm : Mref37_Moment q1 a2 tables3 = some y) : Spec Tryz.prog 29 [.a [vI q1.Kind, .d (lst Rng.ds q1.Ranges), vS q1.Key, vI q1.Count], .a [.d (lst Kv.ds a2.Rows), vI a2.Fold.Count, vI a2.Fold.Numbers, vI a2.Fold.Sum, vI a2.Fold.Low, vI a2.Fold.High, vS a2.Fold.First, vS a2.Fold.Last], .d (lst (dsL Kv.ds) tables3)] [] fun u h => u = .t [vI y.1, vB y.2] ∧ h = [] := by
 refine si Tryz.func29 Tryz.ntmps29 Tryz.results29 fun B w0 ρ0 => ?_
 unfold Mref37_Moment at hm
 refine sr ?_
 refine sr ?_
 obtain ⟨mu1, hm1, hm⟩ := obnd_o hm
 refine wc_cut' (fun st => mu1 = Ctl.nxt () ∧ st = ⟨[], []⟩) ?_ ?_
 ·refine wc_block ?_
  refine wc_len 12 rfl (fun hlenm6 => ?_)
  refine wc_loopw (fun κ st => ∃ (m6 : Nat) , κ = tables3.length - m6 ∧ m6 ≤ tables3.length ∧ Mref37_Moment_l1 q1 a2 (tables3.drop m6) (m6 : Int) = some mu1 ∧ st = ⟨[(3, .p 103 0), (4, .p 104 0), (12, .d (lst (dsL Kv.ds) tables3)), (13, vI (tables3.length : Int)), (14, vI (m6 : Int))], [(103, some (.box 29 [vI q1.Kind, .d (lst Rng.ds q1.Ranges), vS q1.Key, vI q1.Count])), (104, some (.box 77 [.d (lst Kv.ds a2.Rows), vI a2.Fold.Count, vI a2.Fold.Numbers, vI a2.Fold.Sum, vI a2.Fold.Low, vI a2.Fold.High, vS a2.Fold.First, vS a2.Fold.Last]))]⟩) [(103, 103), (104, 104)] ⟨0, rfl, Nat.zero_le _, hm1, rfl⟩ ?_
  rintro κ _ ⟨m6, rfl, hlem6, hm1, rfl⟩
  rcases Nat.lt_or_ge m6 tables3.length with hltm6 | hgem6
  ·obtain ⟨r4, hxm6, hdr⟩ := drop_c hltm6
   rw [hdr, Mref37_Moment_l1.eq_2] at hm1
   refine sr ?_
   refine wc_seq ?_
   refine wc_cond_tt (lt_t hltm6) rfl ?_
   refine sx ?_
   refine sr ?_
   refine wl_r (o_ixm (ys := [lst Kv.ds r4]) hxm6 rfl rfl rfl rfl) rfl rfl rfl ?_
   refine sr ?_
   obtain ⟨y7, hy, hm1⟩ := obnd_o hm1
   refine wl_cq (Mref22_Answer_sp (hm := hy)) ?_
   refine sr ?_
   refine wl_sg hm1 ?_ ?_ <;> clear hm1 <;> intro hm1
   ·refine ss ?_
    obtain ⟨y8, hy, hm1⟩ := obnd_o hm1
    refine wl_cq (Mref22_SameAnswer_sp (hm := hy)) ?_
    refine ss ?_
    refine wc_cs hm1 ?_ ?_ <;> clear hm1 <;> intro hm1
    ·refine sr ?_
     refine sx ?_
     cases hm1
     replace hm := ocbnd_r hm
     cases hm
     exact wk_r
    refine sx ?_
    refine sr ?_
    refine wl_r (o_inc hltm6 hlenm6 rfl rfl rfl) rfl rfl rfl ?_
    refine ss ?_
    exact wk_loopw [(103, 103), (104, 104)] ⟨m6 + 1, rfl, hltm6, hm1, rfl⟩ (by omega)
   refine ss ?_
   refine wc_cond_f rfl ?_
   refine sx ?_
   refine sr ?_
   refine wl_r (o_inc hltm6 hlenm6 rfl rfl rfl) rfl rfl rfl ?_
   refine ss ?_
   exact wk_loopw [(103, 103), (104, 104)] ⟨m6 + 1, rfl, hltm6, hm1, rfl⟩ (by omega)
  ·rw [drop_n hgem6, Mref37_Moment_l1.eq_1] at hm1
   refine sr ?_
   refine wc_seq ?_
   refine wc_cond_ff (lt_f hgem6) rfl ?_
   refine wc_exit ?_
   refine ss ?_
   cases hm1
   exact wk_cutw [] ⟨rfl, rfl⟩
 rintro _ ⟨rfl, rfl⟩
 replace hm := ocbnd_n hm
 refine sr ?_
 refine sx ?_
 cases hm
 exact wk_r

def Mref37_begin_l1 (query2 : Int) : List TRecord → Int → Int → Bool → (Int × Bool)
  | [], i, at3, ended4 =>
  (at3, ended4)
  | r5 :: xs6, i, at3, ended4 =>
  sel (!decide (r5.Query = query2)) (
   Mref37_begin_l1 query2 xs6 (i + 1) at3 ended4) (
   bnd (
    sel (decide (r5.Kind = 3)) (
     decide (at3 < 0)) (
     false) : Bool) fun x8 =>
   bnd (
    sel x8 (
     i) (
     at3) : Int) fun at9 =>
   sel ended4 (
    Mref37_begin_l1 query2 xs6 (i + 1) at9 true) (
    Mref37_begin_l1 query2 xs6 (i + 1) at9 (decide (r5.Kind = 4))))
def Mref37_begin (l1 : List TRecord) (query2 : Int) : (Int × Bool) :=
 bnd (
  Mref37_begin_l1 query2 l1 0 (-1) false : (Int × Bool)) fun (at10, ended11) =>
 (at10, ended11)
theorem Mref37_begin_sp {l1 : List TRecord} {query2 : Int} {y : (Int × Bool)} (hm : Mref37_begin l1 query2 = y) : Spec Tryz.prog 25 [.d (lst TRecord.ds l1), vI query2] [] fun u h => u = .t [vI y.1, vB y.2] ∧ h = [] := by
 refine si Tryz.func25 Tryz.ntmps25 Tryz.results25 fun B w0 ρ0 => ?_
 unfold Mref37_begin at hm
 refine sr ?_
 refine sr ?_
 refine sr ?_
 obtain ⟨mu1, hm1, hm⟩ := bnd_o hm
 refine wc_cut' (fun st => ∃ (at10 : Int) (ended11 : Bool), mu1 = (at10, ended11) ∧ st = ⟨[(6, vI at10), (7, vB ended11)], []⟩) ?_ ?_
 ·refine wc_block ?_
  refine wc_len 10 rfl (fun hlenm7 => ?_)
  refine wc_loopw (fun κ st => ∃ (m7 : Nat) (at3 : Int) (ended4 : Bool), κ = l1.length - m7 ∧ m7 ≤ l1.length ∧ Mref37_begin_l1 query2 (l1.drop m7) (m7 : Int) at3 ended4 = mu1 ∧ st = ⟨[(1, vI query2), (6, vI at3), (7, vB ended4), (10, .d (lst TRecord.ds l1)), (11, vI (l1.length : Int)), (12, vI (m7 : Int))], []⟩) [] ⟨0, _, _, rfl, Nat.zero_le _, hm1, rfl⟩ ?_
  rintro κ _ ⟨m7, at3, ended4, rfl, hlem7, hm1, rfl⟩
  rcases Nat.lt_or_ge m7 l1.length with hltm7 | hgem7
  ·obtain ⟨r5, hxm7, hdr⟩ := drop_c hltm7
   rw [hdr, Mref37_begin_l1.eq_2] at hm1
   refine sr ?_
   refine wc_seq ?_
   refine wc_cond_tt (lt_t hltm7) rfl ?_
   refine sx ?_
   refine sr ?_
   refine wl_r (o_ixm (ys := [dI r5.Kind, lst TWrite.ds r5.Writes, dS r5.Key, dS r5.Value, dB r5.Has, dI r5.Query, dI r5.Receipt.Query.Kind, lst Rng.ds r5.Receipt.Query.Ranges, dS r5.Receipt.Query.Key, dI r5.Receipt.Query.Count, lst TVisit.ds r5.Receipt.First, lst TVisit.ds r5.Receipt.Second]) hxm7 rfl rfl rfl rfl) rfl rfl rfl ?_
   refine sr ?_
   refine wc_cs hm1 ?_ ?_ <;> clear hm1 <;> intro hm1
   ·refine wc_exit ?_
    refine sr ?_
    refine wl_r (o_inc hltm7 hlenm7 rfl rfl rfl) rfl rfl rfl ?_
    refine ss ?_
    exact wk_loopw [] ⟨m7 + 1, _, _, rfl, hltm7, hm1, rfl⟩ (by omega)
   refine sx ?_
   refine wc_seq ?_
   refine wc_seq ?_
   obtain ⟨mu2, hm2, hm1⟩ := bnd_o hm1
   refine wc_cut' (fun st => ∃ (x8 : Bool), x8 = mu2 ∧ st = ⟨[(1, vI query2), (6, vI at3), (7, vB ended4), (8, vI (m7 : Int)), (9, .p 109 0), (10, .d (lst TRecord.ds l1)), (11, vI (l1.length : Int)), (12, vI (m7 : Int)), (27, vB x8)], [(109, some (.box 34 [vI r5.Kind, .d (lst TWrite.ds r5.Writes), vS r5.Key, vS r5.Value, vB r5.Has, vI r5.Query, vI r5.Receipt.Query.Kind, .d (lst Rng.ds r5.Receipt.Query.Ranges), vS r5.Receipt.Query.Key, vI r5.Receipt.Query.Count, .d (lst TVisit.ds r5.Receipt.First), .d (lst TVisit.ds r5.Receipt.Second)]))]⟩) ?_ ?_
   ·refine sr ?_
    refine wl_sg hm2 ?_ ?_ <;> clear hm2 <;> intro hm2
    ·refine ss ?_
     subst hm2
     exact wk_cutw [(109, 109)] ⟨_, rfl, rfl⟩
    refine ss ?_
    subst hm2
    exact wk_cutw [(109, 109)] ⟨_, rfl, rfl⟩
   rintro _ ⟨x8, rfl, rfl⟩
   refine ss ?_
   obtain ⟨mu2, hm2, hm1⟩ := bnd_o hm1
   refine wc_cut' (fun st => ∃ (at9 : Int), at9 = mu2 ∧ st = ⟨[(1, vI query2), (6, vI at9), (7, vB ended4), (9, .p 109 0), (10, .d (lst TRecord.ds l1)), (11, vI (l1.length : Int)), (12, vI (m7 : Int))], [(109, some (.box 34 [vI r5.Kind, .d (lst TWrite.ds r5.Writes), vS r5.Key, vS r5.Value, vB r5.Has, vI r5.Query, vI r5.Receipt.Query.Kind, .d (lst Rng.ds r5.Receipt.Query.Ranges), vS r5.Receipt.Query.Key, vI r5.Receipt.Query.Count, .d (lst TVisit.ds r5.Receipt.First), .d (lst TVisit.ds r5.Receipt.Second)]))]⟩) ?_ ?_
   ·refine wc_cs hm2 ?_ ?_ <;> clear hm2 <;> intro hm2
    ·refine sr ?_
     subst hm2
     exact wk_cutw [(109, 109)] ⟨_, rfl, rfl⟩
    refine sx ?_
    subst hm2
    exact wk_cutw [(109, 109)] ⟨_, rfl, rfl⟩
   rintro _ ⟨at9, rfl, rfl⟩
   refine sr ?_
   refine wl_sg hm1 ?_ ?_ <;> clear hm1 <;> intro hm1
   ·refine sr ?_
    refine wl_r (o_inc hltm7 hlenm7 rfl rfl rfl) rfl rfl rfl ?_
    refine ss ?_
    exact wk_loopw [] ⟨m7 + 1, _, _, rfl, hltm7, hm1, rfl⟩ (by omega)
   refine sr ?_
   refine wl_r (o_inc hltm7 hlenm7 rfl rfl rfl) rfl rfl rfl ?_
   refine ss ?_
   exact wk_loopw [] ⟨m7 + 1, _, _, rfl, hltm7, hm1, rfl⟩ (by omega)
  ·rw [drop_n hgem7, Mref37_begin_l1.eq_1] at hm1
   refine sr ?_
   refine wc_seq ?_
   refine wc_cond_ff (lt_f hgem7) rfl ?_
   refine wc_exit ?_
   refine ss ?_
   subst hm1
   exact wk_cutw [] ⟨_, _, rfl, rfl⟩
 rintro _ ⟨at10, ended11, rfl, rfl⟩
 refine sr ?_
 refine sx ?_
 subst hm
 exact wk_r

def Mref37_one (l1 : List TRecord) (i2 : Int) (tables3 : List (List Kv)) (before4 : List Kv) : Option Int :=
 obnd (lget l1 i2) fun e5 =>
 obnd (lsl l1 0 i2) fun l6 =>
 bnd (Mref37_begin l6 e5.Query) fun y7 =>
 sel (decide (e5.Kind = 1)) (
  some 0) (
  sel (decide (e5.Kind = 2)) (
   bnd (Mref20_Get before4 e5.Key) fun y8 =>
   sel (!decide (y8.1 = e5.Value)) (
    some 11) (
    sel (!(y8.2 == e5.Has)) (
     some 11) (
     some 0))) (
   sel (decide (e5.Kind = 3)) (
    sel (decide (0 ≤ y7.1)) (
     some 7) (
     some 0)) (
    sel (decide (e5.Kind = 4)) (
     obnd (
      sel (decide (y7.1 < 0)) (
       some true) (
       sel y7.2 (
        some true) (
        obnd (lget l1 y7.1) fun e9 =>
        obnd (Mref22_Same e9.Receipt.Query e5.Receipt.Query) fun y10 =>
        some (!y10))) : Option Bool) fun x11 =>
     sel x11 (
      some 7) (
      obnd (Mref28_Check e5.Receipt) fun y12 =>
      sel (!decide (y12.2 = 0)) (
       some y12.2) (
       obnd (lsl tables3 y7.1 (i64w (i2 + 1))) fun l13 =>
       obnd (Mref37_Moment e5.Receipt.Query y12.1 l13) fun y14 =>
       sel (!y14.2) (
        some 11) (
        some 0)))) (
     some 1))))
theorem Mref37_one_sp {l1 : List TRecord} {i2 : Int} {tables3 : List (List Kv)} {before4 : List Kv} {y : Int} (hm : Mref37_one l1 i2 tables3 before4 = some y) : Spec Tryz.prog 14 [.d (lst TRecord.ds l1), vI i2, .d (lst (dsL Kv.ds) tables3), .d (lst Kv.ds before4)] [] fun u h => u = vI y ∧ h = [] := by
 refine si Tryz.func14 Tryz.ntmps14 Tryz.results14 fun B w0 ρ0 => ?_
 unfold Mref37_one at hm
 refine sr ?_
 refine sr ?_
 obtain ⟨e5, hy, hm⟩ := obnd_o hm
 refine wl_r (o_ixg (ys := [dI e5.Kind, lst TWrite.ds e5.Writes, dS e5.Key, dS e5.Value, dB e5.Has, dI e5.Query, dI e5.Receipt.Query.Kind, lst Rng.ds e5.Receipt.Query.Ranges, dS e5.Receipt.Query.Key, dI e5.Receipt.Query.Count, lst TVisit.ds e5.Receipt.First, lst TVisit.ds e5.Receipt.Second]) hy rfl rfl rfl rfl) rfl rfl rfl ?_
 refine ss ?_
 refine wc_seq ?_
 refine wc_draw (id := 2) [⟨0, 0, [0]⟩, ⟨1, 0, [1]⟩, ⟨2, 3, [23, 24]⟩, ⟨3, 0, [9]⟩, ⟨4, 8, [26]⟩, ⟨5, 31, [25, 27]⟩, ⟨6, 63, [28]⟩, ⟨7, 127, [22]⟩, ⟨8, 127, [22]⟩, ⟨9, 255, [29]⟩, ⟨10, 1023, [30]⟩] mixed (by kernel_rfl) ?_
 refine ss ?_
 obtain ⟨l6, hy, hm⟩ := obnd_o hm
 refine wd_r [] (o_lsl hy rfl rfl rfl rfl) rfl (by first | exact .no rfl | exact .y rfl rfl rfl rfl) rfl rfl ?_
 refine ss ?_
 obtain ⟨y7, hy, hm⟩ := bnd_o hm
 refine wd_cs (Mref37_begin_sp (hm := hy)) rfl rfl rfl (by repeat (first | exact Vws.nil | apply Vws.cons | exact Vw.nil | exact Vw.d _ | exact Vw.q _ | apply Vw.a)) rfl rfl (by first | exact .no rfl | exact .y rfl rfl rfl rfl) rfl rfl rfl ?_
 refine sr ?_
 refine sr ?_
 refine wc_cs hm ?_ ?_ <;> clear hm <;> intro hm
 ·refine sr ?_
  refine sx ?_
  cases hm
  exact wk_r
 refine sr ?_
 refine wc_cs hm ?_ ?_ <;> clear hm <;> intro hm
 ·refine sr ?_
  obtain ⟨y8, hy, hm⟩ := bnd_o hm
  refine wl_cq (Mref20_Get_sp (hm := hy)) ?_
  refine sr ?_
  refine wl_sg hm ?_ ?_ <;> clear hm <;> intro hm
  ·refine ss ?_
   refine wc_cond_t rfl ?_
   refine sr ?_
   refine sx ?_
   cases hm
   exact wk_r
  refine ss ?_
  refine wc_cs hm ?_ ?_ <;> clear hm <;> intro hm
  ·refine sr ?_
   refine sx ?_
   cases hm
   exact wk_r
  refine sx ?_
  refine sr ?_
  refine sx ?_
  cases hm
  exact wk_r
 refine sr ?_
 refine wc_cs hm ?_ ?_ <;> clear hm <;> intro hm
 ·refine sr ?_
  refine wc_cs hm ?_ ?_ <;> clear hm <;> intro hm
  ·refine sr ?_
   refine sx ?_
   cases hm
   exact wk_r
  refine sx ?_
  refine sr ?_
  refine sx ?_
  cases hm
  exact wk_r
 refine sr ?_
 refine wc_cs hm ?_ ?_ <;> clear hm <;> intro hm
 ·refine wc_seq ?_
  refine wc_seq ?_
  obtain ⟨mu1, hm1, hm⟩ := obnd_o hm
  refine wc_cut' (fun st => ∃ (x11 : Bool), x11 = mu1 ∧ st = ⟨[(1, vI i2), (2, .d (lst (dsL Kv.ds) tables3)), (9, .p 109 0), (10, vI y7.1), (77, vB x11)], [(109, some (.box 34 [vI e5.Kind, .d (lst TWrite.ds e5.Writes), vS e5.Key, vS e5.Value, vB e5.Has, vI e5.Query, vI e5.Receipt.Query.Kind, .d (lst Rng.ds e5.Receipt.Query.Ranges), vS e5.Receipt.Query.Key, vI e5.Receipt.Query.Count, .d (lst TVisit.ds e5.Receipt.First), .d (lst TVisit.ds e5.Receipt.Second)]))]⟩) ?_ ?_
  ·refine wc_draw (id := 16) [⟨0, 0, [10]⟩, ⟨1, 1, [60]⟩, ⟨2, 3, [61]⟩, ⟨3, 7, [11, 62]⟩, ⟨4, 15, [62, 63]⟩, ⟨5, 31, [64]⟩, ⟨6, 63, [0, 65]⟩, ⟨7, 63, [10, 65]⟩, ⟨8, 255, [65, 66, 67]⟩, ⟨9, 511, [65, 68]⟩, ⟨10, 1023, [65, 69]⟩, ⟨11, 2047, [65, 70]⟩, ⟨12, 63, [9, 65]⟩, ⟨13, 4159, [65, 72]⟩, ⟨14, 12351, [65, 73]⟩, ⟨15, 32767, [65, 71, 74]⟩, ⟨16, 65535, [65, 75]⟩, ⟨17, 131071, [65, 76]⟩] mixed (by kernel_rfl) ?_
   refine ss ?_
   refine wd_gp rfl rfl rfl rfl (fun h => ?_) (fun h => ?_)
   ·replace hm1 := sel_t h hm1
    refine ss ?_
    cases hm1
    exact wk_cutw [(109, 109)] ⟨_, rfl, rfl⟩
   replace hm1 := sel_f h hm1
   refine ss ?_
   refine wd_gp rfl rfl rfl rfl (fun h => ?_) (fun h => ?_)
   ·replace hm1 := sel_t h hm1
    refine ss ?_
    cases hm1
    exact wk_cutw [(109, 109)] ⟨_, rfl, rfl⟩
   replace hm1 := sel_f h hm1
   refine ss ?_
   obtain ⟨e9, hy, hm1⟩ := obnd_o hm1
   refine wd_r [] (o_ixg (ys := [dI e9.Kind, lst TWrite.ds e9.Writes, dS e9.Key, dS e9.Value, dB e9.Has, dI e9.Query, dI e9.Receipt.Query.Kind, lst Rng.ds e9.Receipt.Query.Ranges, dS e9.Receipt.Query.Key, dI e9.Receipt.Query.Count, lst TVisit.ds e9.Receipt.First, lst TVisit.ds e9.Receipt.Second]) hy rfl rfl rfl rfl) rfl (by first | exact .no rfl | exact .y rfl rfl rfl rfl) rfl rfl ?_
   refine ss ?_
   obtain ⟨y10, hy, hm1⟩ := obnd_o hm1
   refine wd_cs (Mref22_Same_sp (hm := hy)) rfl rfl rfl (by repeat (first | exact Vws.nil | apply Vws.cons | exact Vw.nil | exact Vw.d _ | exact Vw.q _ | apply Vw.a)) rfl rfl (by first | exact .no rfl | exact .y rfl rfl rfl rfl) rfl rfl rfl ?_
   refine ss ?_
   cases hm1
   exact wk_cutw [(109, 109)] ⟨_, rfl, rfl⟩
  rintro _ ⟨x11, rfl, rfl⟩
  refine ss ?_
  refine wc_cs hm ?_ ?_ <;> clear hm <;> intro hm
  ·refine sr ?_
   refine sx ?_
   cases hm
   exact wk_r
  refine sx ?_
  refine sr ?_
  obtain ⟨y12, hy, hm⟩ := obnd_o hm
  refine wl_cq (Mref28_Check_sp (hm := hy)) ?_
  refine sr ?_
  refine wc_cs hm ?_ ?_ <;> clear hm <;> intro hm
  ·refine sr ?_
   refine sx ?_
   cases hm
   exact wk_r
  refine sx ?_
  refine wc_seq ?_
  refine wc_seq ?_
  refine wc_draw (id := 21) [⟨0, 0, [9]⟩, ⟨1, 1, [88]⟩, ⟨2, 3, [89]⟩, ⟨3, 0, [14]⟩, ⟨4, 0, [2]⟩, ⟨5, 0, [10]⟩, ⟨6, 0, [1]⟩, ⟨7, 64, [94]⟩, ⟨8, 240, [92, 93, 95]⟩, ⟨9, 511, [90, 91, 96]⟩, ⟨10, 1023, [97]⟩, ⟨11, 2047, [87]⟩, ⟨12, 2047, [87]⟩, ⟨13, 4095, [98]⟩, ⟨14, 16383, [99]⟩] mixed (by kernel_rfl) ?_
  refine ss ?_
  refine wd_r [] (o_add rfl rfl rfl rfl) rfl (by first | exact .no rfl | exact .y rfl rfl rfl rfl) rfl rfl ?_
  refine ss ?_
  obtain ⟨l13, hy, hm⟩ := obnd_o hm
  refine wd_r [] (o_lsl hy rfl rfl rfl rfl) rfl (by first | exact .no rfl | exact .y rfl rfl rfl rfl) rfl rfl ?_
  refine ss ?_
  obtain ⟨y14, hy, hm⟩ := obnd_o hm
  refine wd_cs (Mref37_Moment_sp (hm := hy)) rfl rfl rfl (by repeat (first | exact Vws.nil | apply Vws.cons | exact Vw.nil | exact Vw.d _ | exact Vw.q _ | apply Vw.a)) rfl rfl (by first | exact .no rfl | exact .y rfl rfl rfl rfl) rfl rfl rfl ?_
  refine sr ?_
  refine wc_cs hm ?_ ?_ <;> clear hm <;> intro hm
  ·refine sr ?_
   refine sx ?_
   cases hm
   exact wk_r
  refine sx ?_
  refine sr ?_
  refine sx ?_
  cases hm
  exact wk_r
 refine sx ?_
 refine sr ?_
 refine sx ?_
 cases hm
 exact wk_r

def Mref37_Check_l1 (l2 : List TRecord) : List TRecord → Int → List Kv → List (List Kv) → Option (Ctl (Int × Int) Unit)
  | [], i, t4, tables5 =>
  some (Ctl.nxt ())
  | r6 :: xs7, i, t4, tables5 =>
  obnd (
   sel (decide (r6.Kind = 1)) (
    obnd (Mref20_Apply t4 r6.Writes) fun y9 =>
    sel (!decide (y9.2 = 0)) (
     some (Ctl.ret (Ctl.ret (i, y9.2)))) (
     some (Ctl.nxt y9.1))) (
    some (Ctl.nxt t4)) : Option (Ctl (Ctl (Int × Int) Unit) (List Kv))) fun mu => ocbnd mu fun now10 =>
  obnd (app tables5 ([now10] : List (List Kv))) fun l11 =>
  obnd (Mref37_one l2 i l11 t4) fun y12 =>
  sel (!decide (y12 = 0)) (
   some (Ctl.ret (i, y12))) (
   Mref37_Check_l1 l2 xs7 (i + 1) now10 l11)
def Mref37_Check (t1 : List Kv) (l2 : List TRecord) : Option (Int × Int) :=
 sel (decide (4096 < (l2.length : Int))) (
  some (0, 3)) (
  obnd (Mref20_Valid t1) fun y3 =>
  sel (!y3) (
   some (0, 1)) (
   obnd (
    Mref37_Check_l1 l2 l2 0 t1 [] : Option (Ctl (Int × Int) Unit)) fun mu => ocbnd mu fun (_ : Unit) =>
   some ((l2.length : Int), 0)))
theorem Mref37_Check_sp {t1 : List Kv} {l2 : List TRecord} {y : (Int × Int)} (hm : Mref37_Check t1 l2 = some y) : Spec Tryz.prog 7 [.d (lst Kv.ds t1), .d (lst TRecord.ds l2)] [] fun u h => u = .t [vI y.1, vI y.2] ∧ h = [] := by
 refine si Tryz.func7 Tryz.ntmps7 Tryz.results7 fun B w0 ρ0 => ?_
 unfold Mref37_Check at hm
 refine sr ?_
 refine sr ?_
 refine wc_cs hm ?_ ?_ <;> clear hm <;> intro hm
 ·refine sr ?_
  refine sx ?_
  cases hm
  exact wk_r
 refine sx ?_
 refine sr ?_
 obtain ⟨y3, hy, hm⟩ := obnd_o hm
 refine wl_cq (Mref20_Valid_sp (hm := hy)) ?_
 refine ss ?_
 refine wc_cs hm ?_ ?_ <;> clear hm <;> intro hm
 ·refine sr ?_
  refine sx ?_
  cases hm
  exact wk_r
 refine sx ?_
 refine sr ?_
 refine sr ?_
 obtain ⟨mu1, hm1, hm⟩ := obnd_o hm
 refine wc_cut' (fun st => mu1 = Ctl.nxt () ∧ st = ⟨[(1, .d (lst TRecord.ds l2))], []⟩) ?_ ?_
 ·refine wc_block ?_
  refine wc_wk (wk_nil 6 5001 22 1 rfl rfl) ?_
  refine wc_len 19 rfl (fun hlenm8 => ?_)
  refine wc_loopw (fun κ st => ∃ (m8 : Nat) (t4 : List Kv) (tables5 : List (List Kv)), κ = l2.length - m8 ∧ m8 ≤ l2.length ∧ Mref37_Check_l1 l2 (l2.drop m8) (m8 : Int) t4 tables5 = some mu1 ∧ st = ⟨[(0, .d (lst Kv.ds t4)), (1, .d (lst TRecord.ds l2)), (6, .h 5001), (19, .d (lst TRecord.ds l2)), (20, vI (l2.length : Int)), (21, vI (m8 : Int))], [(5001, some (arrT 22 1 (dsL Kv.ds) tables5))]⟩) [(5001, 5001)] ⟨0, _, _, rfl, Nat.zero_le _, hm1, rfl⟩ ?_
  rintro κ _ ⟨m8, t4, tables5, rfl, hlem8, hm1, rfl⟩
  rcases Nat.lt_or_ge m8 l2.length with hltm8 | hgem8
  ·obtain ⟨r6, hxm8, hdr⟩ := drop_c hltm8
   rw [hdr, Mref37_Check_l1.eq_2] at hm1
   refine sr ?_
   refine wc_seq ?_
   refine wc_cond_tt (lt_t hltm8) rfl ?_
   refine sx ?_
   refine sr ?_
   refine wl_r (o_ixm (ys := [dI r6.Kind, lst TWrite.ds r6.Writes, dS r6.Key, dS r6.Value, dB r6.Has, dI r6.Query, dI r6.Receipt.Query.Kind, lst Rng.ds r6.Receipt.Query.Ranges, dS r6.Receipt.Query.Key, dI r6.Receipt.Query.Count, lst TVisit.ds r6.Receipt.First, lst TVisit.ds r6.Receipt.Second]) hxm8 rfl rfl rfl rfl) rfl rfl rfl ?_
   refine sr ?_
   refine sr ?_
   obtain ⟨mu2, hm2, hm1⟩ := obnd_o hm1
   refine wc_cut' (fun st => ∃ (now10 : List Kv), mu2 = Ctl.nxt now10 ∧ st = ⟨[(0, .d (lst Kv.ds t4)), (1, .d (lst TRecord.ds l2)), (6, .h 5001), (7, vI (m8 : Int)), (9, .d (lst Kv.ds now10)), (19, .d (lst TRecord.ds l2)), (20, vI (l2.length : Int)), (21, vI (m8 : Int))], [(5001, some (arrT 22 1 (dsL Kv.ds) tables5))]⟩) ?_ ?_
   ·refine wc_cs hm2 ?_ ?_ <;> clear hm2 <;> intro hm2
    ·refine sr ?_
     obtain ⟨y9, hy, hm2⟩ := obnd_o hm2
     refine wl_cq (Mref20_Apply_sp (hm := hy)) ?_
     refine sr ?_
     refine wc_cs hm2 ?_ ?_ <;> clear hm2 <;> intro hm2
     ·refine sr ?_
      refine sx ?_
      cases hm2
      replace hm1 := ocbnd_r hm1
      cases hm1
      replace hm := ocbnd_r hm
      cases hm
      exact wk_r
     refine sx ?_
     refine sr ?_
     cases hm2
     exact wk_cutw [(5001, 5001)] ⟨_, rfl, rfl⟩
    refine sx ?_
    cases hm2
    exact wk_cutw [(5001, 5001)] ⟨_, rfl, rfl⟩
   rintro _ ⟨now10, rfl, rfl⟩
   replace hm1 := ocbnd_n hm1
   refine sr ?_
   refine wl_bt (dsL Kv.ds) [now10] rfl rfl (by simp only [flatV, cellsV, List.cons_append, List.nil_append, List.append_nil]; exact rfl) rfl rfl rfl rfl rfl rfl ?_
   refine ss ?_
   obtain ⟨l11, hy, hm1⟩ := obnd_o hm1
   refine wl_2 (n_app (k' := 145) hy rfl rfl rfl rfl rfl rfl rfl rfl) rfl rfl rfl rfl ?_
   refine sr ?_
   obtain ⟨y12, hy, hm1⟩ := obnd_o hm1
   refine wl_lend (Mref37_one_sp (hm := hy)) ?_
   refine sr ?_
   refine wc_cs hm1 ?_ ?_ <;> clear hm1 <;> intro hm1
   ·refine sr ?_
    refine sx ?_
    cases hm1
    replace hm := ocbnd_r hm
    cases hm
    exact wk_r
   refine sx ?_
   refine sr ?_
   refine sr ?_
   refine wl_r (o_inc hltm8 hlenm8 rfl rfl rfl) rfl rfl rfl ?_
   refine ss ?_
   exact wk_loopw [(5001, 145)] ⟨m8 + 1, _, _, rfl, hltm8, hm1, rfl⟩ (by omega)
  ·rw [drop_n hgem8, Mref37_Check_l1.eq_1] at hm1
   refine sr ?_
   refine wc_seq ?_
   refine wc_cond_ff (lt_f hgem8) rfl ?_
   refine wc_exit ?_
   refine ss ?_
   cases hm1
   exact wk_cutw [] ⟨rfl, rfl⟩
 rintro _ ⟨rfl, rfl⟩
 replace hm := ocbnd_n hm
 refine sr ?_
 refine sx ?_
 cases hm
 exact wk_r

end Go.Proofs.YtohpjdeohpamaaaGreat
