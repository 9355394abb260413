/-
  Lemmas: Models and walks: what a query asks (checked and proved before), answers. / Models and walks: the laws of chapter 22. / Plain laws of the models: keys, ranges, tables; the tape's choices. / Contracts: a row put into a table; the tape's tables. / Plain laws of the models: the tape's tables and queries. / The number that a value is: plain, and in the reference.
-/
import Derived.Test.YtjnnkpkbgdknmaaDoorPS7
import Derived.Test.YtjnnkpkbgdknmaaDoorPS3
import Derived.Test.YtjnnkpkbgdknmaaDoorPS2
namespace Go.Proofs.YtjnnkpkbgdknmaaDoor
set_option linter.unusedSimpArgs false
set_option linter.unusedVariables false
open Go.RowKit
def Mquery_Check (q : TQuery) : Option Int := if q.Ranges.length < 1000000 then some (qchk q.Kind q.Ranges q.Key q.Count) else none
theorem Mquery_Check_sp {q : TQuery} {y : Int} (hm : Mquery_Check q = some y) : Spec Tryd.prog 14 [vQ q.Kind q.Ranges q.Key q.Count] [] fun u h => u = vI y ∧ h = [] := by
  unfold Mquery_Check at hm
  split at hm
  · obtain rfl := Option.some.inj hm
    exact (qcheck_p _ _ _ _).out (by assumption)
  · cases hm
def Mquery_Ranges (q : TQuery) : Option (List Rng) := if q.Ranges.length < 1000000 then some (qranges q.Kind q.Ranges q.Key q.Count) else none
theorem Mquery_Ranges_sp {q : TQuery} {y : List Rng} (hm : Mquery_Ranges q = some y) : Spec Tryd.prog 23 [vQ q.Kind q.Ranges q.Key q.Count] [] fun u h => u = .d (lst Rng.ds y) ∧ h = [] := by
  unfold Mquery_Ranges at hm
  split at hm
  · obtain rfl := Option.some.inj hm
    exact (inferInstance : Ct Tryd.prog 23 [vQ q.Kind q.Ranges q.Key q.Count] _ _).out (by assumption)
  · cases hm
def Mref22_Ranges (q : TQuery) : Option (List Rng) := if q.Ranges.length < 1000000 then some (qranges q.Kind q.Ranges q.Key q.Count) else none
theorem Mref22_Ranges_sp {q : TQuery} {y : List Rng} (hm : Mref22_Ranges q = some y) : Spec Tryd.prog 29 [vQ q.Kind q.Ranges q.Key q.Count] [] fun u h => u = .d (lst Rng.ds y) ∧ h = [] := by
  unfold Mref22_Ranges at hm
  split at hm
  · obtain rfl := Option.some.inj hm
    exact (inferInstance : Ct Tryd.prog 29 [vQ q.Kind q.Ranges q.Key q.Count] _ _).out (by assumption)
  · cases hm
attribute [local irreducible] WK WC WL Wk Rel OpD OpV WD WO sel bnd obnd app lget lsl sget ssl scat letg iquo irem Op.bytesLess
attribute [local irreducible] qchk qranges union
def Mquery_Answer_l1 (t1 : List Kv) : List Rng → List Kv → Option (List Kv)
  | [], rows6 =>
    some rows6
  | r7 :: xs8, rows6 =>
    obnd (Mtable_Slice t1 r7) fun y10 =>
    obnd (app rows6 y10) fun l11 =>
    Mquery_Answer_l1 t1 xs8 l11
def Mquery_Answer (t1 : List Kv) (q2 : TQuery) : Option (TAnswer × Int) :=
  obnd (Mquery_Check q2) fun y3 =>
  sel (!decide (y3 = 0)) (
    some ((TAnswer.mk [] (TFold.mk 0 0 0 0 0 ⟨#[]⟩ ⟨#[]⟩)), y3)) (
    obnd (Mtable_Valid t1) fun y4 =>
    sel (!y4) (
      some ((TAnswer.mk [] (TFold.mk 0 0 0 0 0 ⟨#[]⟩ ⟨#[]⟩)), 1)) (
      obnd (Mquery_Ranges q2) fun y5 =>
      obnd (
        Mquery_Answer_l1 t1 y5 [] : Option (List Kv)) fun rows12 =>
      obnd (Mquery_Take q2 rows12) fun y13 =>
      obnd (Mfold_Of y13) fun y14 =>
      some ((TAnswer.mk y13 y14), 0)))
set_option maxRecDepth 100000 in
set_option maxHeartbeats 4000000 in
theorem Mquery_Answer_sp {t1 : List Kv} {q2 : TQuery} {y : (TAnswer × Int)} (hm : Mquery_Answer t1 q2 = some y) : Spec Tryd.prog 18 [.d (lst Kv.ds t1), .a [vI q2.Kind, .d (lst Rng.ds q2.Ranges), vS q2.Key, vI q2.Count]] [] fun u h => u = .t [.a [.d (lst Kv.ds y.1.Rows), vI y.1.Fold.Count, vI y.1.Fold.Numbers, vI y.1.Fold.Sum, vI y.1.Fold.Low, vI y.1.Fold.High, vS y.1.Fold.First, vS y.1.Fold.Last], vI y.2] ∧ h = [] := by
  refine Spec.intro Tryd.func18 rfl rfl Tryd.ntmps18 Tryd.results18 rfl fun B w0 ρ0 => ?_
  simp only [slots, List.map_nil, List.map_cons, Nat.reduceAdd]
  unfold Mquery_Answer at hm
  have hm0 := hm
  clear hm
  refine wc_seq ?_
  refine wc_region ?_
  repeat (refine sl ?_)
  refine wc_seq ?_
  refine wc_seq ?_
  refine wc_region ?_
  repeat (refine sl ?_)
  obtain ⟨y3, hy, hm0⟩ := obnd_o hm0
  refine wl_cs (Mquery_Check_sp (hm := hy)) rfl rfl rfl (by repeat (first | exact Vws.nil | apply Vws.cons | exact Vw.nil | exact Vw.d _ | exact Vw.q _ | apply Vw.a)) rfl rfl rfl rfl rfl ?_
  repeat (refine sl ?_)
  refine wc_seq ?_
  refine wc_region ?_
  repeat (refine sl ?_)
  refine wc_cond rfl (fun h => ?_) (fun h => ?_)
  · replace hm0 := sel_t h hm0
    refine wc_seq ?_
    refine wc_region ?_
    repeat (refine sl ?_)
    refine wc_ret ?_
    repeat (refine sl ?_)
    obtain rfl := Option.some.inj hm0
    exact wk_ret ⟨rfl, rfl⟩
  · replace hm0 := sel_f h hm0
    refine wc_skip ?_
    repeat (refine sl ?_)
    refine wc_seq ?_
    refine wc_seq ?_
    refine wc_region ?_
    repeat (refine sl ?_)
    obtain ⟨y4, hy, hm0⟩ := obnd_o hm0
    refine wl_cs (Mtable_Valid_sp (hm := hy)) rfl rfl rfl (by repeat (first | exact Vws.nil | apply Vws.cons | exact Vw.nil | exact Vw.d _ | exact Vw.q _ | apply Vw.a)) rfl rfl rfl rfl rfl ?_
    repeat (refine sl ?_)
    refine wc_cond rfl (fun h => ?_) (fun h => ?_)
    · replace hm0 := sel_t h hm0
      refine wc_seq ?_
      refine wc_region ?_
      repeat (refine sl ?_)
      refine wc_ret ?_
      repeat (refine sl ?_)
      obtain rfl := Option.some.inj hm0
      exact wk_ret ⟨rfl, rfl⟩
    · replace hm0 := sel_f h hm0
      refine wc_skip ?_
      repeat (refine sl ?_)
      refine wc_seq ?_
      refine wc_region ?_
      repeat (refine sl ?_)
      refine wc_seq ?_
      refine wc_seq ?_
      refine wc_region ?_
      repeat (refine sl ?_)
      obtain ⟨y5, hy, hm0⟩ := obnd_o hm0
      refine wl_cs (Mquery_Ranges_sp (hm := hy)) rfl rfl rfl (by repeat (first | exact Vws.nil | apply Vws.cons | exact Vw.nil | exact Vw.d _ | exact Vw.q _ | apply Vw.a)) rfl rfl rfl rfl rfl ?_
      repeat (refine sl ?_)
      obtain ⟨mu1, hm1, hm0⟩ := obnd_o hm0
      refine wc_cut' (fun st => ∃ (rows12 : List Kv), rows12 = mu1 ∧ st = ⟨[(3, .p 103 0), (4, .p 104 0), (7, .d (lst Kv.ds rows12))], [(103, some (.box 25 [vI q2.Kind, .d (lst Rng.ds q2.Ranges), vS q2.Key, vI q2.Count])), (104, some (.box 41 [.d (.c (.slice none 0 0)), vI 0, vI 0, vI 0, vI 0, vI 0, vS ⟨#[]⟩, vS ⟨#[]⟩]))]⟩) ?_ ?_
      · refine wc_block ?_
        refine wc_wk (wk_nil 7 5001 59 2 rfl rfl) ?_
        refine wc_len 21 rfl (fun hlenm9 => ?_)
        refine wc_loopw (fun κ st => ∃ (m9 : Nat) (rows6 : List Kv), κ = y5.length - m9 ∧ m9 ≤ y5.length ∧ Mquery_Answer_l1 t1 (y5.drop m9) rows6 = some mu1 ∧ st = ⟨[(0, .d (lst Kv.ds t1)), (3, .p 103 0), (4, .p 104 0), (7, .h 5001), (21, .d (lst Rng.ds y5)), (22, vI (y5.length : Int)), (23, vI (m9 : Int))], [(103, some (.box 25 [vI q2.Kind, .d (lst Rng.ds q2.Ranges), vS q2.Key, vI q2.Count])), (104, some (.box 41 [.d (.c (.slice none 0 0)), vI 0, vI 0, vI 0, vI 0, vI 0, vS ⟨#[]⟩, vS ⟨#[]⟩])), (5001, some (arrT 59 2 Kv.ds rows6))]⟩) [(103, 103), (104, 104), (5001, 5001)] ⟨0, _, rfl, Nat.zero_le _, hm1, rfl⟩ ?_
        rintro κ _ ⟨m9, rows6, rfl, hlem9, hm1, rfl⟩
        rcases Nat.lt_or_ge m9 y5.length with hltm9 | hgem9
        · obtain ⟨r7, hxm9, hdr⟩ := drop_c hltm9
          rw [hdr, Mquery_Answer_l1.eq_2] at hm1
          refine wc_seq ?_
          refine wc_region ?_
          repeat (refine sl ?_)
          refine wc_seq ?_
          refine wc_cond_tt (lt_t hltm9) rfl ?_
          refine wc_skip ?_
          repeat (refine sl ?_)
          refine wc_seq ?_
          refine wc_block ?_
          refine wc_seq ?_
          refine wc_region ?_
          repeat (refine sl ?_)
          refine wl_r (o_ixm (ys := [dS r7.lo.key, dB r7.lo.top, dS r7.hi.key, dB r7.hi.top]) hxm9 rfl rfl rfl rfl) rfl rfl rfl ?_
          repeat (refine sl ?_)
          refine wc_region ?_
          repeat (refine sl ?_)
          obtain ⟨y10, hy, hm1⟩ := obnd_o hm1
          refine wl_cs (Mtable_Slice_sp (hm := hy)) rfl rfl rfl (by repeat (first | exact Vws.nil | apply Vws.cons | exact Vw.nil | exact Vw.d _ | exact Vw.q _ | apply Vw.a)) rfl rfl rfl rfl rfl ?_
          repeat (refine sl ?_)
          obtain ⟨l11, hy, hm1⟩ := obnd_o hm1
          refine wl_2 (n_app (k' := 131) hy rfl rfl rfl rfl rfl rfl rfl rfl) rfl rfl rfl rfl ?_
          repeat (refine sl ?_)
          refine wc_region ?_
          repeat (refine sl ?_)
          refine wl_r (o_inc hltm9 hlenm9 rfl rfl rfl) rfl rfl rfl ?_
          repeat (refine sl ?_)
          exact wk_loopw [(103, 103), (104, 104), (5001, 131)] ⟨m9 + 1, _, rfl, hltm9, hm1, rfl⟩ (by omega)
        · rw [drop_n hgem9, Mquery_Answer_l1.eq_1] at hm1
          refine wc_seq ?_
          refine wc_region ?_
          repeat (refine sl ?_)
          refine wc_seq ?_
          refine wc_cond_ff (lt_f hgem9) rfl ?_
          refine wc_exit ?_
          repeat (refine sl ?_)
          obtain rfl := Option.some.inj hm1
          exact wk_cutw [(103, 103), (104, 104)] ⟨_, rfl, rfl⟩
      rintro _ ⟨rows12, rfl, rfl⟩
      repeat (refine sl ?_)
      refine wc_seq ?_
      refine wc_region ?_
      repeat (refine sl ?_)
      obtain ⟨y13, hy, hm0⟩ := obnd_o hm0
      refine wl_cs (Mquery_Take_sp (hm := hy)) rfl rfl rfl (by repeat (first | exact Vws.nil | apply Vws.cons | exact Vw.nil | exact Vw.d _ | exact Vw.q _ | apply Vw.a)) rfl rfl rfl rfl rfl ?_
      repeat (refine sl ?_)
      refine wc_seq ?_
      refine wc_region ?_
      repeat (refine sl ?_)
      obtain ⟨y14, hy, hm0⟩ := obnd_o hm0
      refine wl_cs (Mfold_Of_sp (hm := hy)) rfl rfl rfl (by repeat (first | exact Vws.nil | apply Vws.cons | exact Vw.nil | exact Vw.d _ | exact Vw.q _ | apply Vw.a)) rfl rfl rfl rfl rfl ?_
      repeat (refine sl ?_)
      refine wc_ret ?_
      repeat (refine sl ?_)
      obtain rfl := Option.some.inj hm0
      exact wk_ret ⟨rfl, rfl⟩

def Mref22_Answer_l1 (t1 : List Kv) : List Rng → List Kv → Option (List Kv)
  | [], rows6 =>
    some rows6
  | r7 :: xs8, rows6 =>
    obnd (Mref20_Slice t1 r7) fun y10 =>
    obnd (app rows6 y10) fun l11 =>
    Mref22_Answer_l1 t1 xs8 l11
def Mref22_Answer (t1 : List Kv) (q2 : TQuery) : Option (TAnswer × Int) :=
  bnd (Mref22_Check q2) fun y3 =>
  sel (!decide (y3 = 0)) (
    some ((TAnswer.mk [] (TFold.mk 0 0 0 0 0 ⟨#[]⟩ ⟨#[]⟩)), y3)) (
    obnd (Mref20_Valid t1) fun y4 =>
    sel (!y4) (
      some ((TAnswer.mk [] (TFold.mk 0 0 0 0 0 ⟨#[]⟩ ⟨#[]⟩)), 1)) (
      obnd (Mref22_Ranges q2) fun y5 =>
      obnd (
        Mref22_Answer_l1 t1 y5 [] : Option (List Kv)) fun rows12 =>
      obnd (Mref22_Take q2 rows12) fun y13 =>
      obnd (Mref21_Of y13) fun y14 =>
      some ((TAnswer.mk y13 y14), 0)))
set_option maxRecDepth 100000 in
set_option maxHeartbeats 4000000 in
theorem Mref22_Answer_sp {t1 : List Kv} {q2 : TQuery} {y : (TAnswer × Int)} (hm : Mref22_Answer t1 q2 = some y) : Spec Tryd.prog 19 [.d (lst Kv.ds t1), .a [vI q2.Kind, .d (lst Rng.ds q2.Ranges), vS q2.Key, vI q2.Count]] [] fun u h => u = .t [.a [.d (lst Kv.ds y.1.Rows), vI y.1.Fold.Count, vI y.1.Fold.Numbers, vI y.1.Fold.Sum, vI y.1.Fold.Low, vI y.1.Fold.High, vS y.1.Fold.First, vS y.1.Fold.Last], vI y.2] ∧ h = [] := by
  refine Spec.intro Tryd.func19 rfl rfl Tryd.ntmps19 Tryd.results19 rfl fun B w0 ρ0 => ?_
  simp only [slots, List.map_nil, List.map_cons, Nat.reduceAdd]
  unfold Mref22_Answer at hm
  have hm0 := hm
  clear hm
  refine wc_seq ?_
  refine wc_region ?_
  repeat (refine sl ?_)
  refine wc_seq ?_
  refine wc_seq ?_
  refine wc_region ?_
  repeat (refine sl ?_)
  obtain ⟨y3, hy, hm0⟩ := bnd_o hm0
  refine wl_cs (Mref22_Check_sp (hm := hy)) rfl rfl rfl (by repeat (first | exact Vws.nil | apply Vws.cons | exact Vw.nil | exact Vw.d _ | exact Vw.q _ | apply Vw.a)) rfl rfl rfl rfl rfl ?_
  repeat (refine sl ?_)
  refine wc_seq ?_
  refine wc_region ?_
  repeat (refine sl ?_)
  refine wc_cond rfl (fun h => ?_) (fun h => ?_)
  · replace hm0 := sel_t h hm0
    refine wc_seq ?_
    refine wc_region ?_
    repeat (refine sl ?_)
    refine wc_ret ?_
    repeat (refine sl ?_)
    obtain rfl := Option.some.inj hm0
    exact wk_ret ⟨rfl, rfl⟩
  · replace hm0 := sel_f h hm0
    refine wc_skip ?_
    repeat (refine sl ?_)
    refine wc_seq ?_
    refine wc_seq ?_
    refine wc_region ?_
    repeat (refine sl ?_)
    obtain ⟨y4, hy, hm0⟩ := obnd_o hm0
    refine wl_cs (Mref20_Valid_sp (hm := hy)) rfl rfl rfl (by repeat (first | exact Vws.nil | apply Vws.cons | exact Vw.nil | exact Vw.d _ | exact Vw.q _ | apply Vw.a)) rfl rfl rfl rfl rfl ?_
    repeat (refine sl ?_)
    refine wc_cond rfl (fun h => ?_) (fun h => ?_)
    · replace hm0 := sel_t h hm0
      refine wc_seq ?_
      refine wc_region ?_
      repeat (refine sl ?_)
      refine wc_ret ?_
      repeat (refine sl ?_)
      obtain rfl := Option.some.inj hm0
      exact wk_ret ⟨rfl, rfl⟩
    · replace hm0 := sel_f h hm0
      refine wc_skip ?_
      repeat (refine sl ?_)
      refine wc_seq ?_
      refine wc_region ?_
      repeat (refine sl ?_)
      refine wc_seq ?_
      refine wc_seq ?_
      refine wc_region ?_
      repeat (refine sl ?_)
      obtain ⟨y5, hy, hm0⟩ := obnd_o hm0
      refine wl_cs (Mref22_Ranges_sp (hm := hy)) rfl rfl rfl (by repeat (first | exact Vws.nil | apply Vws.cons | exact Vw.nil | exact Vw.d _ | exact Vw.q _ | apply Vw.a)) rfl rfl rfl rfl rfl ?_
      repeat (refine sl ?_)
      obtain ⟨mu1, hm1, hm0⟩ := obnd_o hm0
      refine wc_cut' (fun st => ∃ (rows12 : List Kv), rows12 = mu1 ∧ st = ⟨[(3, .p 103 0), (4, .p 104 0), (7, .d (lst Kv.ds rows12))], [(103, some (.box 25 [vI q2.Kind, .d (lst Rng.ds q2.Ranges), vS q2.Key, vI q2.Count])), (104, some (.box 41 [.d (.c (.slice none 0 0)), vI 0, vI 0, vI 0, vI 0, vI 0, vS ⟨#[]⟩, vS ⟨#[]⟩]))]⟩) ?_ ?_
      · refine wc_block ?_
        refine wc_wk (wk_nil 7 5001 59 2 rfl rfl) ?_
        refine wc_len 21 rfl (fun hlenm9 => ?_)
        refine wc_loopw (fun κ st => ∃ (m9 : Nat) (rows6 : List Kv), κ = y5.length - m9 ∧ m9 ≤ y5.length ∧ Mref22_Answer_l1 t1 (y5.drop m9) rows6 = some mu1 ∧ st = ⟨[(0, .d (lst Kv.ds t1)), (3, .p 103 0), (4, .p 104 0), (7, .h 5001), (21, .d (lst Rng.ds y5)), (22, vI (y5.length : Int)), (23, vI (m9 : Int))], [(103, some (.box 25 [vI q2.Kind, .d (lst Rng.ds q2.Ranges), vS q2.Key, vI q2.Count])), (104, some (.box 41 [.d (.c (.slice none 0 0)), vI 0, vI 0, vI 0, vI 0, vI 0, vS ⟨#[]⟩, vS ⟨#[]⟩])), (5001, some (arrT 59 2 Kv.ds rows6))]⟩) [(103, 103), (104, 104), (5001, 5001)] ⟨0, _, rfl, Nat.zero_le _, hm1, rfl⟩ ?_
        rintro κ _ ⟨m9, rows6, rfl, hlem9, hm1, rfl⟩
        rcases Nat.lt_or_ge m9 y5.length with hltm9 | hgem9
        · obtain ⟨r7, hxm9, hdr⟩ := drop_c hltm9
          rw [hdr, Mref22_Answer_l1.eq_2] at hm1
          refine wc_seq ?_
          refine wc_region ?_
          repeat (refine sl ?_)
          refine wc_seq ?_
          refine wc_cond_tt (lt_t hltm9) rfl ?_
          refine wc_skip ?_
          repeat (refine sl ?_)
          refine wc_seq ?_
          refine wc_block ?_
          refine wc_seq ?_
          refine wc_region ?_
          repeat (refine sl ?_)
          refine wl_r (o_ixm (ys := [dS r7.lo.key, dB r7.lo.top, dS r7.hi.key, dB r7.hi.top]) hxm9 rfl rfl rfl rfl) rfl rfl rfl ?_
          repeat (refine sl ?_)
          refine wc_region ?_
          repeat (refine sl ?_)
          obtain ⟨y10, hy, hm1⟩ := obnd_o hm1
          refine wl_cs (Mref20_Slice_sp (hm := hy)) rfl rfl rfl (by repeat (first | exact Vws.nil | apply Vws.cons | exact Vw.nil | exact Vw.d _ | exact Vw.q _ | apply Vw.a)) rfl rfl rfl rfl rfl ?_
          repeat (refine sl ?_)
          obtain ⟨l11, hy, hm1⟩ := obnd_o hm1
          refine wl_2 (n_app (k' := 131) hy rfl rfl rfl rfl rfl rfl rfl rfl) rfl rfl rfl rfl ?_
          repeat (refine sl ?_)
          refine wc_region ?_
          repeat (refine sl ?_)
          refine wl_r (o_inc hltm9 hlenm9 rfl rfl rfl) rfl rfl rfl ?_
          repeat (refine sl ?_)
          exact wk_loopw [(103, 103), (104, 104), (5001, 131)] ⟨m9 + 1, _, rfl, hltm9, hm1, rfl⟩ (by omega)
        · rw [drop_n hgem9, Mref22_Answer_l1.eq_1] at hm1
          refine wc_seq ?_
          refine wc_region ?_
          repeat (refine sl ?_)
          refine wc_seq ?_
          refine wc_cond_ff (lt_f hgem9) rfl ?_
          refine wc_exit ?_
          repeat (refine sl ?_)
          obtain rfl := Option.some.inj hm1
          exact wk_cutw [(103, 103), (104, 104)] ⟨_, rfl, rfl⟩
      rintro _ ⟨rows12, rfl, rfl⟩
      repeat (refine sl ?_)
      refine wc_seq ?_
      refine wc_region ?_
      repeat (refine sl ?_)
      obtain ⟨y13, hy, hm0⟩ := obnd_o hm0
      refine wl_cs (Mref22_Take_sp (hm := hy)) rfl rfl rfl (by repeat (first | exact Vws.nil | apply Vws.cons | exact Vw.nil | exact Vw.d _ | exact Vw.q _ | apply Vw.a)) rfl rfl rfl rfl rfl ?_
      repeat (refine sl ?_)
      refine wc_seq ?_
      refine wc_region ?_
      repeat (refine sl ?_)
      obtain ⟨y14, hy, hm0⟩ := obnd_o hm0
      refine wl_cs (Mref21_Of_sp (hm := hy)) rfl rfl rfl (by repeat (first | exact Vws.nil | apply Vws.cons | exact Vw.nil | exact Vw.d _ | exact Vw.q _ | apply Vw.a)) rfl rfl rfl rfl rfl ?_
      repeat (refine sl ?_)
      refine wc_ret ?_
      repeat (refine sl ?_)
      obtain rfl := Option.some.inj hm0
      exact wk_ret ⟨rfl, rfl⟩

end Go.Proofs.YtjnnkpkbgdknmaaDoor
namespace Go.Proofs.YtjnnkpkbgdknmaaDoor
set_option linter.unusedSimpArgs false
set_option linter.unusedVariables false
open Go.RowKit
attribute [local irreducible] WK WC WL Wk Rel OpD OpV WD WO sel bnd obnd app lget lsl sget ssl scat letg iquo irem Op.bytesLess
attribute [local irreducible] qchk qranges union
def Mlaw22_awake : Option Bool :=
  obnd (Mquery_Ranges (TQuery.mk 2 [] (⟨#[97, 98]⟩) 0)) fun y1 =>
  obnd (Mquery_Answer ([(Kv.mk ⟨#[97]⟩ ⟨#[]⟩), (Kv.mk ⟨#[98]⟩ ⟨#[49]⟩), (Kv.mk ⟨#[99]⟩ ⟨#[]⟩)] : List Kv) (TQuery.mk 4 [] ⟨#[99]⟩ 1)) fun y2 =>
  sel (decide ((y1.length : Int) = 1)) (
    obnd (lget y1 0) fun e3 =>
    sel (decide (e3.lo.key = ⟨#[97, 98]⟩) && decide (e3.lo.top = false) && decide (e3.hi.key = ⟨#[97, 99]⟩) && decide (e3.hi.top = false)) (
      sel (decide (y2.2 = 0)) (
        sel (decide ((y2.1.Rows.length : Int) = 1)) (
          obnd (lget y2.1.Rows 0) fun e4 =>
          sel (decide (e4.key = ⟨#[98]⟩)) (
            some (decide (y2.1.Fold.Sum = 1))) (
            some false)) (
          some false)) (
        some false)) (
      some false)) (
    some false)
set_option maxRecDepth 100000 in
set_option maxHeartbeats 4000000 in
theorem Mlaw22_awake_sp {y : Bool} (hm : Mlaw22_awake = some y) : Spec Tryd.prog 10 [] [] fun u h => u = vB y ∧ h = [] := by
  refine Spec.intro Tryd.func10 rfl rfl Tryd.ntmps10 Tryd.results10 rfl fun B w0 ρ0 => ?_
  simp only [slots, List.map_nil, List.map_cons, Nat.reduceAdd]
  unfold Mlaw22_awake at hm
  have hm0 := hm
  clear hm
  refine wc_seq ?_
  refine wc_region ?_
  repeat (refine sl ?_)
  refine wc_seq ?_
  refine wc_region ?_
  repeat (refine sl ?_)
  obtain ⟨y1, hy, hm0⟩ := obnd_o hm0
  refine wl_cs (Mquery_Ranges_sp (hm := hy)) rfl rfl rfl (by repeat (first | exact Vws.nil | apply Vws.cons | exact Vw.nil | exact Vw.d _ | exact Vw.q _ | apply Vw.a)) rfl rfl rfl rfl rfl ?_
  repeat (refine sl ?_)
  refine wc_seq ?_
  refine wc_region ?_
  repeat (refine sl ?_)
  refine wl_bt Kv.ds [(Kv.mk ⟨#[97]⟩ ⟨#[]⟩), (Kv.mk ⟨#[98]⟩ ⟨#[49]⟩), (Kv.mk ⟨#[99]⟩ ⟨#[]⟩)] rfl rfl (by simp only [flatV, cellsV, List.cons_append, List.nil_append, List.append_nil]; exact rfl) rfl rfl rfl rfl rfl rfl ?_
  repeat (refine sl ?_)
  obtain ⟨y2, hy, hm0⟩ := obnd_o hm0
  refine wl_cs (Mquery_Answer_sp (hm := hy)) rfl rfl rfl (by repeat (first | exact Vws.nil | apply Vws.cons | exact Vw.nil | exact Vw.d _ | exact Vw.q _ | apply Vw.a)) rfl rfl rfl rfl rfl ?_
  repeat (refine sl ?_)
  refine wc_seq ?_
  refine wc_region ?_
  repeat (refine sl ?_)
  refine wl_gp rfl rfl rfl rfl (fun h => ?_) (fun h => ?_)
  · replace hm0 := sel_t h hm0
    repeat (refine sl ?_)
    obtain ⟨e3, hy, hm0⟩ := obnd_o hm0
    refine wl_r (o_ixg (ys := [dS e3.lo.key, dB e3.lo.top, dS e3.hi.key, dB e3.hi.top]) hy rfl rfl rfl rfl) rfl rfl rfl ?_
    repeat (refine sl ?_)
    refine wl_gp rfl rfl rfl rfl (fun h => ?_) (fun h => ?_)
    · replace hm0 := sel_t h hm0
      repeat (refine sl ?_)
      refine wl_gp rfl rfl rfl rfl (fun h => ?_) (fun h => ?_)
      · replace hm0 := sel_t h hm0
        repeat (refine sl ?_)
        refine wl_gp rfl rfl rfl rfl (fun h => ?_) (fun h => ?_)
        · replace hm0 := sel_t h hm0
          repeat (refine sl ?_)
          obtain ⟨e4, hy, hm0⟩ := obnd_o hm0
          refine wl_r (o_ixg (ys := [dS e4.key, dS e4.val]) hy rfl rfl rfl rfl) rfl rfl rfl ?_
          repeat (refine sl ?_)
          refine wl_gp rfl rfl rfl rfl (fun h => ?_) (fun h => ?_)
          · replace hm0 := sel_t h hm0
            repeat (refine sl ?_)
            refine wc_ret ?_
            repeat (refine sl ?_)
            obtain rfl := Option.some.inj hm0
            exact wk_ret ⟨rfl, rfl⟩
          · replace hm0 := sel_f h hm0
            repeat (refine sl ?_)
            refine wc_ret ?_
            repeat (refine sl ?_)
            obtain rfl := Option.some.inj hm0
            exact wk_ret ⟨rfl, rfl⟩
        · replace hm0 := sel_f h hm0
          repeat (refine sl ?_)
          refine wc_ret ?_
          repeat (refine sl ?_)
          obtain rfl := Option.some.inj hm0
          exact wk_ret ⟨rfl, rfl⟩
      · replace hm0 := sel_f h hm0
        repeat (refine sl ?_)
        refine wc_ret ?_
        repeat (refine sl ?_)
        obtain rfl := Option.some.inj hm0
        exact wk_ret ⟨rfl, rfl⟩
    · replace hm0 := sel_f h hm0
      repeat (refine sl ?_)
      refine wc_ret ?_
      repeat (refine sl ?_)
      obtain rfl := Option.some.inj hm0
      exact wk_ret ⟨rfl, rfl⟩
  · replace hm0 := sel_f h hm0
    repeat (refine sl ?_)
    refine wc_ret ?_
    repeat (refine sl ?_)
    obtain rfl := Option.some.inj hm0
    exact wk_ret ⟨rfl, rfl⟩

def Mlaw22_QueryAnswers_l2 (r13 : TQuery) : List (List Kv) → Option (Ctl (Ctl (Ctl Bool Unit) (List Int × Int)) Unit)
  | [] =>
    some (Ctl.nxt ())
  | r17 :: xs18 =>
    obnd (Mquery_Answer r17 r13) fun y20 =>
    obnd (Mref22_Answer r17 r13) fun y21 =>
    sel (!decide (y20.2 = y21.2)) (
      some (Ctl.ret (Ctl.ret (Ctl.ret false)))) (
      obnd (Mref22_SameAnswer y20.1 y21.1) fun y22 =>
      sel (!y22) (
        some (Ctl.ret (Ctl.ret (Ctl.ret false)))) (
        Mlaw22_QueryAnswers_l2 r13 xs18))
def Mlaw22_QueryAnswers_l1 (rows3 : List Kv) (y7 : (List Kv × TTape)) : List TQuery → List Int → Int → Option (Ctl Bool Unit)
  | [], x11, x12 =>
    some (Ctl.nxt ())
  | r13 :: xs14, x11, x12 =>
    obnd (
      obnd (Mwld_Tape_OddRows (TTape.mk x11 x12) y7.1) fun y16 =>
      obnd (
        Mlaw22_QueryAnswers_l2 r13 ([y7.1, y16.1, rows3] : List (List Kv)) : Option (Ctl (Ctl (Ctl Bool Unit) (List Int × Int)) Unit)) fun mu => ocbnd mu fun (_ : Unit) =>
      some (Ctl.nxt (y16.2.l, y16.2.at_)) : Option (Ctl (Ctl Bool Unit) (List Int × Int))) fun mu => ocbnd mu fun (x23, x24) =>
    Mlaw22_QueryAnswers_l1 rows3 y7 xs14 x23 x24
def Mlaw22_QueryAnswers (l1 : List Int) (raw2 : TQuery) (rows3 : List Kv) : Option Bool :=
  obnd (
    sel (decide (60 < (rows3.length : Int))) (
      some true) (
      some (decide (100 < (raw2.Ranges.length : Int)))) : Option Bool) fun x4 =>
  sel x4 (
    obnd (Mlaw22_awake) fun y5 =>
    some y5) (
    obnd (Mwld_New l1) fun y6 =>
    obnd (Mwld_Tape_Rows y6 10) fun y7 =>
    obnd (Mwld_Tape_Query y7.2) fun y8 =>
    obnd (Mwld_Tape_Query y8.2) fun y9 =>
    obnd (Mwld_Tape_OddQuery y9.2) fun y10 =>
    obnd (
      Mlaw22_QueryAnswers_l1 rows3 y7 ([y8.1, y9.1, y10.1, raw2] : List TQuery) y10.2.l y10.2.at_ : Option (Ctl Bool Unit)) fun mu => ocbnd mu fun (_ : Unit) =>
    obnd (Mlaw22_awake) fun y25 =>
    some y25)
set_option maxRecDepth 100000 in
set_option maxHeartbeats 4000000 in
theorem Mlaw22_QueryAnswers_sp {l1 : List Int} {raw2 : TQuery} {rows3 : List Kv} {y : Bool} (hm : Mlaw22_QueryAnswers l1 raw2 rows3 = some y) : Spec Tryd.prog 4 [.d (lst dsI l1), .a [vI raw2.Kind, .d (lst Rng.ds raw2.Ranges), vS raw2.Key, vI raw2.Count], .d (lst Kv.ds rows3)] [] fun u h => u = vB y ∧ h = [] := by
  refine Spec.intro Tryd.func4 rfl rfl Tryd.ntmps4 Tryd.results4 rfl fun B w0 ρ0 => ?_
  simp only [slots, List.map_nil, List.map_cons, Nat.reduceAdd]
  unfold Mlaw22_QueryAnswers at hm
  have hm0 := hm
  clear hm
  refine wc_seq ?_
  refine wc_region ?_
  repeat (refine sl ?_)
  refine wc_seq ?_
  refine wc_seq ?_
  obtain ⟨mu1, hm1, hm0⟩ := obnd_o hm0
  refine wc_cut' (fun st => ∃ (x4 : Bool), x4 = mu1 ∧ st = ⟨[(0, .d (lst dsI l1)), (2, .d (lst Kv.ds rows3)), (4, .p 104 0), (25, vB x4)], [(104, some (.box 25 [vI raw2.Kind, .d (lst Rng.ds raw2.Ranges), vS raw2.Key, vI raw2.Count]))]⟩) ?_ ?_
  · refine wc_region ?_
    repeat (refine sl ?_)
    refine wl_gp rfl rfl rfl rfl (fun h => ?_) (fun h => ?_)
    · replace hm1 := sel_t h hm1
      repeat (refine sl ?_)
      obtain rfl := Option.some.inj hm1
      exact wk_cutw [(104, 104)] ⟨_, rfl, rfl⟩
    · replace hm1 := sel_f h hm1
      repeat (refine sl ?_)
      obtain rfl := Option.some.inj hm1
      exact wk_cutw [(104, 104)] ⟨_, rfl, rfl⟩
  rintro _ ⟨x4, rfl, rfl⟩
  repeat (refine sl ?_)
  refine wc_cond rfl (fun h => ?_) (fun h => ?_)
  · replace hm0 := sel_t h hm0
    refine wc_seq ?_
    refine wc_region ?_
    repeat (refine sl ?_)
    obtain ⟨y5, hy, hm0⟩ := obnd_o hm0
    refine wl_cs (Mlaw22_awake_sp (hm := hy)) rfl rfl rfl (by repeat (first | exact Vws.nil | apply Vws.cons | exact Vw.nil | exact Vw.d _ | exact Vw.q _ | apply Vw.a)) rfl rfl rfl rfl rfl ?_
    repeat (refine sl ?_)
    refine wc_ret ?_
    repeat (refine sl ?_)
    obtain rfl := Option.some.inj hm0
    exact wk_ret ⟨rfl, rfl⟩
  · replace hm0 := sel_f h hm0
    refine wc_skip ?_
    repeat (refine sl ?_)
    refine wc_seq ?_
    refine wc_region ?_
    repeat (refine sl ?_)
    obtain ⟨y6, hy, hm0⟩ := obnd_o hm0
    refine wl_mkn (u' := .p 202801 0) (h' := [(202801, some (.box 69 [.d (lst dsI y6.l), vI y6.at_]))]) (Mwld_New_sp (hm := hy)) 202800 rfl rfl rfl (by repeat (first | exact Vws.nil | apply Vws.cons | exact Vw.nil | exact Vw.d _ | exact Vw.q _ | apply Vw.a)) rfl (by (try simp only [renH, Option.map_some, Blk.ren, rens_d]); rfl) rfl rfl rfl rfl ?_
    repeat (refine sl ?_)
    refine wc_seq ?_
    refine wc_region ?_
    repeat (refine sl ?_)
    obtain ⟨y7, hy, hm0⟩ := obnd_o hm0
    refine wl_io (Mwld_Tape_Rows_sp (hm := hy)) 202801 rfl rfl rfl (by repeat (first | exact Vws.nil | apply Vws.cons | exact Vw.nil | exact Vw.d _ | exact Vw.q _ | exact Vw.p rfl | apply Vw.a)) rfl (Vb.box (by repeat (first | exact Vws.nil | apply Vws.cons | exact Vw.nil | exact Vw.d _ | exact Vw.q _ | exact Vw.p rfl | apply Vw.a))) rfl rfl rfl rfl rfl rfl ?_
    repeat (refine sl ?_)
    refine wc_seq ?_
    refine wc_seq ?_
    refine wc_draw (id := 5) [⟨0, 0, [7]⟩, ⟨2, 0, [7]⟩, ⟨4, 0, [7]⟩, ⟨6, 0, [4]⟩, ⟨9, 0, []⟩, ⟨1, 1, [31]⟩, ⟨3, 7, [33]⟩, ⟨5, 31, [35]⟩, ⟨7, 127, [32, 34, 36, 37]⟩, ⟨8, 255, [38]⟩] mixed (by kernel_rfl) ?_
    repeat (refine sl ?_)
    obtain ⟨y8, hy, hm0⟩ := obnd_o hm0
    refine wd_io (Mwld_Tape_Query_sp (hm := hy)) 202801 rfl rfl rfl (by repeat (first | exact Vws.nil | apply Vws.cons | exact Vw.nil | exact Vw.d _ | exact Vw.q _ | exact Vw.p rfl | apply Vw.a)) rfl (Vb.box (by repeat (first | exact Vws.nil | apply Vws.cons | exact Vw.nil | exact Vw.d _ | exact Vw.q _ | exact Vw.p rfl | apply Vw.a))) rfl rfl rfl (by first | exact .no rfl | exact .y rfl rfl rfl rfl) rfl rfl rfl rfl ?_
    repeat (refine sl ?_)
    obtain ⟨y9, hy, hm0⟩ := obnd_o hm0
    refine wd_io (Mwld_Tape_Query_sp (hm := hy)) 202801 rfl rfl rfl (by repeat (first | exact Vws.nil | apply Vws.cons | exact Vw.nil | exact Vw.d _ | exact Vw.q _ | exact Vw.p rfl | apply Vw.a)) rfl (Vb.box (by repeat (first | exact Vws.nil | apply Vws.cons | exact Vw.nil | exact Vw.d _ | exact Vw.q _ | exact Vw.p rfl | apply Vw.a))) rfl rfl rfl (by first | exact .no rfl | exact .y rfl rfl rfl rfl) rfl rfl rfl rfl ?_
    repeat (refine sl ?_)
    obtain ⟨y10, hy, hm0⟩ := obnd_o hm0
    refine wd_io (Mwld_Tape_OddQuery_sp (hm := hy)) 202801 rfl rfl rfl (by repeat (first | exact Vws.nil | apply Vws.cons | exact Vw.nil | exact Vw.d _ | exact Vw.q _ | exact Vw.p rfl | apply Vw.a)) rfl (Vb.box (by repeat (first | exact Vws.nil | apply Vws.cons | exact Vw.nil | exact Vw.d _ | exact Vw.q _ | exact Vw.p rfl | apply Vw.a))) rfl rfl rfl (by first | exact .no rfl | exact .y rfl rfl rfl rfl) rfl rfl rfl rfl ?_
    repeat (refine sl ?_)
    refine wd_bt TQuery.ds [y8.1, y9.1, y10.1, raw2] rfl rfl (by simp only [flatV, cellsV, List.cons_append, List.nil_append, List.append_nil]; exact rfl) rfl rfl rfl rfl (by first | exact .no rfl | exact .y rfl rfl rfl rfl) rfl rfl ?_
    repeat (refine sl ?_)
    obtain ⟨mu1, hm1, hm0⟩ := obnd_o hm0
    refine wc_cut' (fun st => mu1 = Ctl.nxt () ∧ st = ⟨[], []⟩) ?_ ?_
    · refine wc_block ?_
      refine wc_len 38 rfl (fun hlenm15 => ?_)
      refine wc_loopw (fun κ st => ∃ (m15 : Nat) (x11 : List Int) (x12 : Int), κ = ([y8.1, y9.1, y10.1, raw2] : List TQuery).length - m15 ∧ m15 ≤ ([y8.1, y9.1, y10.1, raw2] : List TQuery).length ∧ Mlaw22_QueryAnswers_l1 rows3 y7 (([y8.1, y9.1, y10.1, raw2] : List TQuery).drop m15) x11 x12 = some mu1 ∧ st = ⟨[(2, .d (lst Kv.ds rows3)), (7, .p 202801 0), (8, .d (lst Kv.ds y7.1)), (38, .d (lst TQuery.ds ([y8.1, y9.1, y10.1, raw2] : List TQuery))), (39, vI (([y8.1, y9.1, y10.1, raw2] : List TQuery).length : Int)), (40, vI (m15 : Int))], [(202801, some (.box 69 [.d (lst dsI x11), vI x12]))]⟩) [(202801, 202801)] ⟨0, _, _, rfl, Nat.zero_le _, hm1, rfl⟩ ?_
      rintro κ _ ⟨m15, x11, x12, rfl, hlem15, hm1, rfl⟩
      rcases Nat.lt_or_ge m15 ([y8.1, y9.1, y10.1, raw2] : List TQuery).length with hltm15 | hgem15
      · obtain ⟨r13, hxm15, hdr⟩ := drop_c hltm15
        rw [hdr, Mlaw22_QueryAnswers_l1.eq_2] at hm1
        refine wc_seq ?_
        refine wc_region ?_
        repeat (refine sl ?_)
        refine wc_seq ?_
        refine wc_cond_tt (lt_t hltm15) rfl ?_
        refine wc_skip ?_
        repeat (refine sl ?_)
        refine wc_seq ?_
        obtain ⟨mu2, hm2, hm1⟩ := obnd_o hm1
        refine wc_cut' (fun st => ∃ (x23 : List Int) (x24 : Int), mu2 = Ctl.nxt (x23, x24) ∧ st = ⟨[(2, .d (lst Kv.ds rows3)), (7, .p 202801 0), (8, .d (lst Kv.ds y7.1)), (38, .d (lst TQuery.ds ([y8.1, y9.1, y10.1, raw2] : List TQuery))), (39, vI (([y8.1, y9.1, y10.1, raw2] : List TQuery).length : Int)), (40, vI (m15 : Int))], [(202801, some (.box 69 [.d (lst dsI x23), vI x24]))]⟩) ?_ ?_
        · refine wc_block ?_
          refine wc_seq ?_
          refine wc_region ?_
          repeat (refine sl ?_)
          refine wl_r (o_ixm (ys := [dI r13.Kind, lst Rng.ds r13.Ranges, dS r13.Key, dI r13.Count]) hxm15 rfl rfl rfl rfl) rfl rfl rfl ?_
          repeat (refine sl ?_)
          refine wc_seq ?_
          refine wc_region ?_
          repeat (refine sl ?_)
          obtain ⟨y16, hy, hm2⟩ := obnd_o hm2
          refine wl_io (Mwld_Tape_OddRows_sp (hm := hy)) 202801 rfl rfl rfl (by repeat (first | exact Vws.nil | apply Vws.cons | exact Vw.nil | exact Vw.d _ | exact Vw.q _ | exact Vw.p rfl | apply Vw.a)) rfl (Vb.box (by repeat (first | exact Vws.nil | apply Vws.cons | exact Vw.nil | exact Vw.d _ | exact Vw.q _ | exact Vw.p rfl | apply Vw.a))) rfl rfl rfl rfl rfl rfl ?_
          repeat (refine sl ?_)
          refine wl_bt (dsL Kv.ds) [y7.1, y16.1, rows3] rfl rfl (by simp only [flatV, cellsV, List.cons_append, List.nil_append, List.append_nil]; exact rfl) rfl rfl rfl rfl rfl rfl ?_
          repeat (refine sl ?_)
          obtain ⟨mu3, hm3, hm2⟩ := obnd_o hm2
          refine wc_cut' (fun st => mu3 = Ctl.nxt () ∧ st = ⟨[(2, .d (lst Kv.ds rows3)), (7, .p 202801 0), (8, .d (lst Kv.ds y7.1)), (38, .d (lst TQuery.ds ([y8.1, y9.1, y10.1, raw2] : List TQuery))), (39, vI (([y8.1, y9.1, y10.1, raw2] : List TQuery).length : Int)), (40, vI (m15 : Int))], [(202801, some (.box 69 [.d (lst dsI y16.2.l), vI y16.2.at_]))]⟩) ?_ ?_
          · refine wc_block ?_
            refine wc_len 49 rfl (fun hlenm19 => ?_)
            refine wc_loopw (fun κ st => ∃ (m19 : Nat) , κ = ([y7.1, y16.1, rows3] : List (List Kv)).length - m19 ∧ m19 ≤ ([y7.1, y16.1, rows3] : List (List Kv)).length ∧ Mlaw22_QueryAnswers_l2 r13 (([y7.1, y16.1, rows3] : List (List Kv)).drop m19) = some mu3 ∧ st = ⟨[(2, .d (lst Kv.ds rows3)), (7, .p 202801 0), (8, .d (lst Kv.ds y7.1)), (10, .p 110 0), (38, .d (lst TQuery.ds ([y8.1, y9.1, y10.1, raw2] : List TQuery))), (39, vI (([y8.1, y9.1, y10.1, raw2] : List TQuery).length : Int)), (40, vI (m15 : Int)), (49, .d (lst (dsL Kv.ds) ([y7.1, y16.1, rows3] : List (List Kv)))), (50, vI (([y7.1, y16.1, rows3] : List (List Kv)).length : Int)), (51, vI (m19 : Int))], [(110, some (.box 25 [vI r13.Kind, .d (lst Rng.ds r13.Ranges), vS r13.Key, vI r13.Count])), (202801, some (.box 69 [.d (lst dsI y16.2.l), vI y16.2.at_]))]⟩) [(110, 110), (202801, 202801)] ⟨0, rfl, Nat.zero_le _, hm3, rfl⟩ ?_
            rintro κ _ ⟨m19, rfl, hlem19, hm3, rfl⟩
            rcases Nat.lt_or_ge m19 ([y7.1, y16.1, rows3] : List (List Kv)).length with hltm19 | hgem19
            · obtain ⟨r17, hxm19, hdr⟩ := drop_c hltm19
              rw [hdr, Mlaw22_QueryAnswers_l2.eq_2] at hm3
              refine wc_seq ?_
              refine wc_region ?_
              repeat (refine sl ?_)
              refine wc_seq ?_
              refine wc_cond_tt (lt_t hltm19) rfl ?_
              refine wc_skip ?_
              repeat (refine sl ?_)
              refine wc_seq ?_
              refine wc_block ?_
              refine wc_seq ?_
              refine wc_region ?_
              repeat (refine sl ?_)
              refine wl_r (o_ixm (ys := [lst Kv.ds r17]) hxm19 rfl rfl rfl rfl) rfl rfl rfl ?_
              repeat (refine sl ?_)
              refine wc_seq ?_
              refine wc_region ?_
              repeat (refine sl ?_)
              obtain ⟨y20, hy, hm3⟩ := obnd_o hm3
              refine wl_cs (Mquery_Answer_sp (hm := hy)) rfl rfl rfl (by repeat (first | exact Vws.nil | apply Vws.cons | exact Vw.nil | exact Vw.d _ | exact Vw.q _ | apply Vw.a)) rfl rfl rfl rfl rfl ?_
              repeat (refine sl ?_)
              refine wc_seq ?_
              refine wc_region ?_
              repeat (refine sl ?_)
              obtain ⟨y21, hy, hm3⟩ := obnd_o hm3
              refine wl_cs (Mref22_Answer_sp (hm := hy)) rfl rfl rfl (by repeat (first | exact Vws.nil | apply Vws.cons | exact Vw.nil | exact Vw.d _ | exact Vw.q _ | apply Vw.a)) rfl rfl rfl rfl rfl ?_
              repeat (refine sl ?_)
              refine wc_seq ?_
              refine wc_region ?_
              repeat (refine sl ?_)
              refine wl_gp rfl rfl rfl rfl (fun h => ?_) (fun h => ?_)
              · replace hm3 := sel_t h hm3
                repeat (refine sl ?_)
                refine wc_cond_t rfl ?_
                refine wc_seq ?_
                refine wc_region ?_
                repeat (refine sl ?_)
                refine wc_ret ?_
                repeat (refine sl ?_)
                obtain rfl := Option.some.inj hm3
                replace hm2 := ocbnd_r hm2
                obtain rfl := Option.some.inj hm2
                replace hm1 := ocbnd_r hm1
                obtain rfl := Option.some.inj hm1
                replace hm0 := ocbnd_r hm0
                obtain rfl := Option.some.inj hm0
                exact wk_ret ⟨rfl, rfl⟩
              · replace hm3 := sel_f h hm3
                repeat (refine sl ?_)
                obtain ⟨y22, hy, hm3⟩ := obnd_o hm3
                refine wl_cs (Mref22_SameAnswer_sp (hm := hy)) rfl rfl rfl (by repeat (first | exact Vws.nil | apply Vws.cons | exact Vw.nil | exact Vw.d _ | exact Vw.q _ | apply Vw.a)) rfl rfl rfl rfl rfl ?_
                repeat (refine sl ?_)
                refine wc_cond rfl (fun h => ?_) (fun h => ?_)
                · replace hm3 := sel_t h hm3
                  refine wc_seq ?_
                  refine wc_region ?_
                  repeat (refine sl ?_)
                  refine wc_ret ?_
                  repeat (refine sl ?_)
                  obtain rfl := Option.some.inj hm3
                  replace hm2 := ocbnd_r hm2
                  obtain rfl := Option.some.inj hm2
                  replace hm1 := ocbnd_r hm1
                  obtain rfl := Option.some.inj hm1
                  replace hm0 := ocbnd_r hm0
                  obtain rfl := Option.some.inj hm0
                  exact wk_ret ⟨rfl, rfl⟩
                · replace hm3 := sel_f h hm3
                  refine wc_skip ?_
                  repeat (refine sl ?_)
                  refine wc_region ?_
                  repeat (refine sl ?_)
                  refine wl_r (o_inc hltm19 hlenm19 rfl rfl rfl) rfl rfl rfl ?_
                  repeat (refine sl ?_)
                  exact wk_loopw [(110, 110), (202801, 202801)] ⟨m19 + 1, rfl, hltm19, hm3, rfl⟩ (by omega)
            · rw [drop_n hgem19, Mlaw22_QueryAnswers_l2.eq_1] at hm3
              refine wc_seq ?_
              refine wc_region ?_
              repeat (refine sl ?_)
              refine wc_seq ?_
              refine wc_cond_ff (lt_f hgem19) rfl ?_
              refine wc_exit ?_
              repeat (refine sl ?_)
              obtain rfl := Option.some.inj hm3
              exact wk_cutw [(202801, 202801)] ⟨rfl, rfl⟩
          rintro _ ⟨rfl, rfl⟩
          replace hm2 := ocbnd_n hm2
          repeat (refine sl ?_)
          obtain rfl := Option.some.inj hm2
          exact wk_cutw [(202801, 202801)] ⟨_, _, rfl, rfl⟩
        rintro _ ⟨x23, x24, rfl, rfl⟩
        replace hm1 := ocbnd_n hm1
        repeat (refine sl ?_)
        refine wc_region ?_
        repeat (refine sl ?_)
        refine wl_r (o_inc hltm15 hlenm15 rfl rfl rfl) rfl rfl rfl ?_
        repeat (refine sl ?_)
        exact wk_loopw [(202801, 202801)] ⟨m15 + 1, _, _, rfl, hltm15, hm1, rfl⟩ (by omega)
      · rw [drop_n hgem15, Mlaw22_QueryAnswers_l1.eq_1] at hm1
        refine wc_seq ?_
        refine wc_region ?_
        repeat (refine sl ?_)
        refine wc_seq ?_
        refine wc_cond_ff (lt_f hgem15) rfl ?_
        refine wc_exit ?_
        repeat (refine sl ?_)
        obtain rfl := Option.some.inj hm1
        exact wk_cutw [] ⟨rfl, rfl⟩
    rintro _ ⟨rfl, rfl⟩
    replace hm0 := ocbnd_n hm0
    repeat (refine sl ?_)
    refine wc_seq ?_
    refine wc_region ?_
    repeat (refine sl ?_)
    obtain ⟨y25, hy, hm0⟩ := obnd_o hm0
    refine wl_cs (Mlaw22_awake_sp (hm := hy)) rfl rfl rfl (by repeat (first | exact Vws.nil | apply Vws.cons | exact Vw.nil | exact Vw.d _ | exact Vw.q _ | apply Vw.a)) rfl rfl rfl rfl rfl ?_
    repeat (refine sl ?_)
    refine wc_ret ?_
    repeat (refine sl ?_)
    obtain rfl := Option.some.inj hm0
    exact wk_ret ⟨rfl, rfl⟩

def Mlaw22_QuerySame (a1 : TQuery) (b2 : TQuery) (l3 : List Int) : Option Bool :=
  obnd (
    sel (decide (100 < (a1.Ranges.length : Int))) (
      some true) (
      some (decide (100 < (b2.Ranges.length : Int)))) : Option Bool) fun x4 =>
  sel x4 (
    obnd (Mlaw22_awake) fun y5 =>
    some y5) (
    obnd (Mwld_New l3) fun y6 =>
    obnd (Mwld_Tape_Query y6) fun y7 =>
    obnd (Mwld_Tape_OddQuery y7.2) fun y8 =>
    obnd (Mwld_Tape_Next y8.2 5) fun y9 =>
    obnd (
      sel (decide (y9.1 = 0)) (
        some (y7.1.Ranges, y7.1.Key, i64w (y7.1.Count + 1))) (
        sel (decide (y9.1 = 1)) (
          obnd (scat y7.1.Key ⟨#[97]⟩) fun s10 =>
          some (y7.1.Ranges, s10, y7.1.Count)) (
          sel (decide (y9.1 = 2)) (
            obnd (app ([] : List Rng) y7.1.Ranges) fun l11 =>
            obnd (app l11 ([(Rng.mk (Bnd.mk ⟨#[]⟩ false) (Bnd.mk ⟨#[]⟩ false))] : List Rng)) fun l12 =>
            some (l12, y7.1.Key, y7.1.Count)) (
            sel (decide (y9.1 = 3)) (
              obnd (app ([] : List Rng) y7.1.Ranges) fun l13 =>
              sel (decide (0 < (l13.length : Int))) (
                obnd (lget l13 0) fun e14 =>
                obnd (scat e14.hi.key ⟨#[97]⟩) fun s15 =>
                obnd (lget l13 0) fun e16 =>
                bnd ((Rng.mk e16.lo (Bnd.mk s15 e16.hi.top))) fun e18 =>
                bnd (l13.set (Int.toNat 0) e18) fun l17 =>
                some (l17, y7.1.Key, y7.1.Count)) (
                some (l13, y7.1.Key, y7.1.Count))) (
              some (y7.1.Ranges, y7.1.Key, y7.1.Count))))) : Option (List Rng × ByteArray × Int)) fun (z19, z20, z21) =>
    obnd (Mquery_Same a1 b2) fun y22 =>
    obnd (Mref22_Same a1 b2) fun y23 =>
    sel (y22 == y23) (
      obnd (Mquery_Same y7.1 y8.1) fun y24 =>
      obnd (Mref22_Same y7.1 y8.1) fun y25 =>
      sel (y24 == y25) (
        obnd (Mquery_Same y7.1 (TQuery.mk y7.1.Kind z19 z20 z21)) fun y26 =>
        obnd (Mref22_Same y7.1 (TQuery.mk y7.1.Kind z19 z20 z21)) fun y27 =>
        sel (y26 == y27) (
          obnd (Mquery_Same a1 a1) fun y28 =>
          sel y28 (
            obnd (Mquery_Same y8.1 y8.1) fun y29 =>
            sel y29 (
              obnd (Mlaw22_awake) fun y30 =>
              some y30) (
              some false)) (
            some false)) (
          some false)) (
        some false)) (
      some false))
set_option maxRecDepth 100000 in
set_option maxHeartbeats 4000000 in
theorem Mlaw22_QuerySame_sp {a1 : TQuery} {b2 : TQuery} {l3 : List Int} {y : Bool} (hm : Mlaw22_QuerySame a1 b2 l3 = some y) : Spec Tryd.prog 9 [.a [vI a1.Kind, .d (lst Rng.ds a1.Ranges), vS a1.Key, vI a1.Count], .a [vI b2.Kind, .d (lst Rng.ds b2.Ranges), vS b2.Key, vI b2.Count], .d (lst dsI l3)] [] fun u h => u = vB y ∧ h = [] := by
  refine Spec.intro Tryd.func9 rfl rfl Tryd.ntmps9 Tryd.results9 rfl fun B w0 ρ0 => ?_
  simp only [slots, List.map_nil, List.map_cons, Nat.reduceAdd]
  unfold Mlaw22_QuerySame at hm
  have hm0 := hm
  clear hm
  refine wc_seq ?_
  refine wc_region ?_
  repeat (refine sl ?_)
  refine wc_seq ?_
  refine wc_seq ?_
  obtain ⟨mu1, hm1, hm0⟩ := obnd_o hm0
  refine wc_cut' (fun st => ∃ (x4 : Bool), x4 = mu1 ∧ st = ⟨[(2, .d (lst dsI l3)), (3, .p 103 0), (4, .p 104 0), (20, vB x4)], [(103, some (.box 25 [vI a1.Kind, .d (lst Rng.ds a1.Ranges), vS a1.Key, vI a1.Count])), (104, some (.box 25 [vI b2.Kind, .d (lst Rng.ds b2.Ranges), vS b2.Key, vI b2.Count]))]⟩) ?_ ?_
  · refine wc_region ?_
    repeat (refine sl ?_)
    refine wl_gp rfl rfl rfl rfl (fun h => ?_) (fun h => ?_)
    · replace hm1 := sel_t h hm1
      repeat (refine sl ?_)
      obtain rfl := Option.some.inj hm1
      exact wk_cutw [(103, 103), (104, 104)] ⟨_, rfl, rfl⟩
    · replace hm1 := sel_f h hm1
      repeat (refine sl ?_)
      obtain rfl := Option.some.inj hm1
      exact wk_cutw [(103, 103), (104, 104)] ⟨_, rfl, rfl⟩
  rintro _ ⟨x4, rfl, rfl⟩
  repeat (refine sl ?_)
  refine wc_cond rfl (fun h => ?_) (fun h => ?_)
  · replace hm0 := sel_t h hm0
    refine wc_seq ?_
    refine wc_region ?_
    repeat (refine sl ?_)
    obtain ⟨y5, hy, hm0⟩ := obnd_o hm0
    refine wl_cs (Mlaw22_awake_sp (hm := hy)) rfl rfl rfl (by repeat (first | exact Vws.nil | apply Vws.cons | exact Vw.nil | exact Vw.d _ | exact Vw.q _ | apply Vw.a)) rfl rfl rfl rfl rfl ?_
    repeat (refine sl ?_)
    refine wc_ret ?_
    repeat (refine sl ?_)
    obtain rfl := Option.some.inj hm0
    exact wk_ret ⟨rfl, rfl⟩
  · replace hm0 := sel_f h hm0
    refine wc_skip ?_
    repeat (refine sl ?_)
    refine wc_seq ?_
    refine wc_region ?_
    repeat (refine sl ?_)
    obtain ⟨y6, hy, hm0⟩ := obnd_o hm0
    refine wl_mkn (u' := .p 202301 0) (h' := [(202301, some (.box 69 [.d (lst dsI y6.l), vI y6.at_]))]) (Mwld_New_sp (hm := hy)) 202300 rfl rfl rfl (by repeat (first | exact Vws.nil | apply Vws.cons | exact Vw.nil | exact Vw.d _ | exact Vw.q _ | apply Vw.a)) rfl (by (try simp only [renH, Option.map_some, Blk.ren, rens_d]); rfl) rfl rfl rfl rfl ?_
    repeat (refine sl ?_)
    refine wc_seq ?_
    refine wc_region ?_
    repeat (refine sl ?_)
    obtain ⟨y7, hy, hm0⟩ := obnd_o hm0
    refine wl_io (Mwld_Tape_Query_sp (hm := hy)) 202301 rfl rfl rfl (by repeat (first | exact Vws.nil | apply Vws.cons | exact Vw.nil | exact Vw.d _ | exact Vw.q _ | exact Vw.p rfl | apply Vw.a)) rfl (Vb.box (by repeat (first | exact Vws.nil | apply Vws.cons | exact Vw.nil | exact Vw.d _ | exact Vw.q _ | exact Vw.p rfl | apply Vw.a))) rfl rfl rfl rfl rfl rfl ?_
    repeat (refine sl ?_)
    obtain ⟨y8, hy, hm0⟩ := obnd_o hm0
    refine wl_io (Mwld_Tape_OddQuery_sp (hm := hy)) 202301 rfl rfl rfl (by repeat (first | exact Vws.nil | apply Vws.cons | exact Vw.nil | exact Vw.d _ | exact Vw.q _ | exact Vw.p rfl | apply Vw.a)) rfl (Vb.box (by repeat (first | exact Vws.nil | apply Vws.cons | exact Vw.nil | exact Vw.d _ | exact Vw.q _ | exact Vw.p rfl | apply Vw.a))) rfl rfl rfl rfl rfl rfl ?_
    repeat (refine sl ?_)
    refine wc_seq ?_
    refine wc_region ?_
    repeat (refine sl ?_)
    refine wc_seq ?_
    refine wc_seq ?_
    refine wc_region ?_
    repeat (refine sl ?_)
    obtain ⟨y9, hy, hm0⟩ := obnd_o hm0
    refine wl_io (Mwld_Tape_Next_sp (hm := hy)) 202301 rfl rfl rfl (by repeat (first | exact Vws.nil | apply Vws.cons | exact Vw.nil | exact Vw.d _ | exact Vw.q _ | exact Vw.p rfl | apply Vw.a)) rfl (Vb.box (by repeat (first | exact Vws.nil | apply Vws.cons | exact Vw.nil | exact Vw.d _ | exact Vw.q _ | exact Vw.p rfl | apply Vw.a))) rfl rfl rfl rfl rfl rfl ?_
    repeat (refine sl ?_)
    obtain ⟨mu1, hm1, hm0⟩ := obnd_o hm0
    refine wc_cut' (fun st => ∃ (z19 : List Rng) (z20 : ByteArray) (z21 : Int), mu1 = (z19, z20, z21) ∧ st = ⟨[(3, .p 103 0), (4, .p 104 0), (8, .p 108 0), (9, .p 109 0), (10, .p 110 0)], [(103, some (.box 25 [vI a1.Kind, .d (lst Rng.ds a1.Ranges), vS a1.Key, vI a1.Count])), (104, some (.box 25 [vI b2.Kind, .d (lst Rng.ds b2.Ranges), vS b2.Key, vI b2.Count])), (108, some (.box 25 [vI y7.1.Kind, .d (lst Rng.ds y7.1.Ranges), vS y7.1.Key, vI y7.1.Count])), (109, some (.box 25 [vI y8.1.Kind, .d (lst Rng.ds y8.1.Ranges), vS y8.1.Key, vI y8.1.Count])), (110, some (.box 25 [vI y7.1.Kind, .d (lst Rng.ds z19), vS z20, vI z21]))]⟩) ?_ ?_
    · refine wc_block ?_
      refine wc_seq ?_
      refine wc_region ?_
      repeat (refine sl ?_)
      refine wc_cond rfl (fun h => ?_) (fun h => ?_)
      · replace hm1 := sel_t h hm1
        refine wc_region ?_
        repeat (refine sl ?_)
        refine wl_r (o_add rfl rfl rfl rfl) rfl rfl rfl ?_
        repeat (refine sl ?_)
        obtain rfl := Option.some.inj hm1
        exact wk_cutw [(103, 103), (104, 104), (108, 108), (109, 109), (110, 110)] ⟨_, _, _, rfl, rfl⟩
      · replace hm1 := sel_f h hm1
        refine wc_seq ?_
        refine wc_region ?_
        repeat (refine sl ?_)
        refine wc_cond rfl (fun h => ?_) (fun h => ?_)
        · replace hm1 := sel_t h hm1
          refine wc_region ?_
          repeat (refine sl ?_)
          obtain ⟨s10, hy, hm1⟩ := obnd_o hm1
          refine wl_r (o_scat hy rfl rfl rfl) rfl rfl rfl ?_
          repeat (refine sl ?_)
          obtain rfl := Option.some.inj hm1
          exact wk_cutw [(103, 103), (104, 104), (108, 108), (109, 109), (110, 110)] ⟨_, _, _, rfl, rfl⟩
        · replace hm1 := sel_f h hm1
          refine wc_seq ?_
          refine wc_region ?_
          repeat (refine sl ?_)
          refine wc_cond rfl (fun h => ?_) (fun h => ?_)
          · replace hm1 := sel_t h hm1
            refine wc_region ?_
            repeat (refine sl ?_)
            obtain ⟨l11, hy, hm1⟩ := obnd_o hm1
            refine wl_1 (n_appn (k := 147) hy rfl rfl rfl rfl rfl rfl) rfl rfl rfl rfl ?_
            repeat (refine sl ?_)
            refine wl_bt Rng.ds [(Rng.mk (Bnd.mk ⟨#[]⟩ false) (Bnd.mk ⟨#[]⟩ false))] rfl rfl (by simp only [flatV, cellsV, List.cons_append, List.nil_append, List.append_nil]; exact rfl) rfl rfl rfl rfl rfl rfl ?_
            repeat (refine sl ?_)
            obtain ⟨l12, hy, hm1⟩ := obnd_o hm1
            refine wl_2 (n_app (k' := 150) hy rfl rfl rfl rfl rfl rfl rfl rfl) rfl rfl rfl rfl ?_
            repeat (refine sl ?_)
            obtain rfl := Option.some.inj hm1
            exact wk_cutw [(103, 103), (104, 104), (108, 108), (109, 109), (110, 110)] ⟨_, _, _, rfl, rfl⟩
          · replace hm1 := sel_f h hm1
            refine wc_seq ?_
            refine wc_region ?_
            repeat (refine sl ?_)
            refine wc_cond rfl (fun h => ?_) (fun h => ?_)
            · replace hm1 := sel_t h hm1
              refine wc_seq ?_
              refine wc_region ?_
              repeat (refine sl ?_)
              obtain ⟨l13, hy, hm1⟩ := obnd_o hm1
              refine wl_1 (n_appn (k := 156) hy rfl rfl rfl rfl rfl rfl) rfl rfl rfl rfl ?_
              repeat (refine sl ?_)
              refine wc_seq ?_
              refine wc_region ?_
              repeat (refine sl ?_)
              refine wc_cond rfl (fun h => ?_) (fun h => ?_)
              · replace hm1 := sel_t h hm1
                refine wc_region ?_
                repeat (refine sl ?_)
                obtain ⟨e14, hy, hm1⟩ := obnd_o hm1
                have hge14 := hy
                refine wl_r (o_ixo hy rfl rfl rfl rfl) rfl rfl rfl ?_
                repeat (refine sl ?_)
                refine wl_r (o_ldo (k := 156) (f := Rng.ds) (zz := 4) (u := vS e14.hi.key) (off := 2) hge14 rfl rfl rfl (by exact inferInstance) rfl rfl) rfl rfl rfl ?_
                repeat (refine sl ?_)
                obtain ⟨s15, hy, hm1⟩ := obnd_o hm1
                refine wl_r (o_scat hy rfl rfl rfl) rfl rfl rfl ?_
                repeat (refine sl ?_)
                obtain ⟨e16, hy, hm1⟩ := obnd_o hm1
                have hge16 := hy
                refine wl_r (o_ixo hy rfl rfl rfl rfl) rfl rfl rfl ?_
                repeat (refine sl ?_)
                obtain ⟨e18, hy, hm1⟩ := bnd_o hm1
                have hxe18 := hy
                repeat (refine sl ?_)
                obtain ⟨l17, hy, hm1⟩ := bnd_o hm1
                refine wl_0 (lo := 0) (nn := 0) (o_sto (k := 156) (f := Rng.ds) (zz := 4) (off := 2) hge16 hy rfl rfl rfl rfl (by exact inferInstance) rfl (by rw [← hxe18]; rfl)) rfl rfl (fresh0 _ _) ?_
                have hge18 := lget_set hge16 e18
                rw [hy] at hge18
                repeat (refine sl ?_)
                obtain rfl := Option.some.inj hm1
                exact wk_cutw [(103, 103), (104, 104), (108, 108), (109, 109), (110, 110)] ⟨_, _, _, rfl, rfl⟩
              · replace hm1 := sel_f h hm1
                refine wc_skip ?_
                repeat (refine sl ?_)
                obtain rfl := Option.some.inj hm1
                exact wk_cutw [(103, 103), (104, 104), (108, 108), (109, 109), (110, 110)] ⟨_, _, _, rfl, rfl⟩
            · replace hm1 := sel_f h hm1
              refine wc_skip ?_
              repeat (refine sl ?_)
              obtain rfl := Option.some.inj hm1
              exact wk_cutw [(103, 103), (104, 104), (108, 108), (109, 109), (110, 110)] ⟨_, _, _, rfl, rfl⟩
    rintro _ ⟨z19, z20, z21, rfl, rfl⟩
    repeat (refine sl ?_)
    refine wc_seq ?_
    refine wc_draw (id := 17) [⟨0, 0, [3]⟩, ⟨1, 0, [4]⟩, ⟨3, 0, [3]⟩, ⟨4, 0, [4]⟩, ⟨2, 3, [72, 73]⟩, ⟨5, 31, [75, 76]⟩, ⟨6, 63, [74, 77]⟩, ⟨7, 127, [78]⟩, ⟨8, 255, [8, 79]⟩, ⟨9, 255, [9, 79]⟩, ⟨11, 255, [8, 79]⟩, ⟨12, 255, [9, 79]⟩, ⟨10, 1023, [79, 80, 81]⟩, ⟨13, 8191, [79, 83, 84]⟩, ⟨14, 16383, [79, 82, 85]⟩, ⟨15, 32767, [79, 86]⟩, ⟨16, 65535, [87]⟩, ⟨17, 131071, [8, 88]⟩, ⟨18, 131071, [10, 88]⟩, ⟨20, 131071, [8, 88]⟩, ⟨21, 131071, [10, 88]⟩, ⟨19, 524287, [88, 89, 90]⟩, ⟨22, 4194303, [88, 92, 93]⟩, ⟨23, 8388607, [88, 91, 94]⟩, ⟨24, 16777215, [88, 95]⟩, ⟨25, 33554431, [96]⟩, ⟨26, 67108863, [3, 97]⟩, ⟨27, 67108863, [3, 97]⟩, ⟨28, 268435455, [97, 98, 99]⟩, ⟨29, 536870911, [97, 100]⟩, ⟨30, 1073741823, [101]⟩, ⟨31, 2147483647, [9, 102]⟩, ⟨32, 2147483647, [9, 102]⟩, ⟨33, 8589934591, [102, 103, 104]⟩, ⟨34, 17179869183, [102, 105]⟩, ⟨35, 34359738367, [106]⟩, ⟨36, 68719476735, [107]⟩, ⟨37, 137438953471, [107, 108]⟩, ⟨38, 274877906943, [109]⟩] mixed (by kernel_rfl) ?_
    repeat (refine sl ?_)
    obtain ⟨y22, hy, hm0⟩ := obnd_o hm0
    refine wd_cs (Mquery_Same_sp (hm := hy)) rfl rfl rfl (by repeat (first | exact Vws.nil | apply Vws.cons | exact Vw.nil | exact Vw.d _ | exact Vw.q _ | apply Vw.a)) rfl rfl (by first | exact .no rfl | exact .y rfl rfl rfl rfl) rfl rfl rfl ?_
    repeat (refine sl ?_)
    obtain ⟨y23, hy, hm0⟩ := obnd_o hm0
    refine wd_cs (Mref22_Same_sp (hm := hy)) rfl rfl rfl (by repeat (first | exact Vws.nil | apply Vws.cons | exact Vw.nil | exact Vw.d _ | exact Vw.q _ | apply Vw.a)) rfl rfl (by first | exact .no rfl | exact .y rfl rfl rfl rfl) rfl rfl rfl ?_
    repeat (refine sl ?_)
    refine wd_gp rfl rfl rfl rfl (fun h => ?_) (fun h => ?_)
    · replace hm0 := sel_t h hm0
      repeat (refine sl ?_)
      obtain ⟨y24, hy, hm0⟩ := obnd_o hm0
      refine wd_cs (Mquery_Same_sp (hm := hy)) rfl rfl rfl (by repeat (first | exact Vws.nil | apply Vws.cons | exact Vw.nil | exact Vw.d _ | exact Vw.q _ | apply Vw.a)) rfl rfl (by first | exact .no rfl | exact .y rfl rfl rfl rfl) rfl rfl rfl ?_
      repeat (refine sl ?_)
      obtain ⟨y25, hy, hm0⟩ := obnd_o hm0
      refine wd_cs (Mref22_Same_sp (hm := hy)) rfl rfl rfl (by repeat (first | exact Vws.nil | apply Vws.cons | exact Vw.nil | exact Vw.d _ | exact Vw.q _ | apply Vw.a)) rfl rfl (by first | exact .no rfl | exact .y rfl rfl rfl rfl) rfl rfl rfl ?_
      repeat (refine sl ?_)
      refine wd_gp rfl rfl rfl rfl (fun h => ?_) (fun h => ?_)
      · replace hm0 := sel_t h hm0
        repeat (refine sl ?_)
        obtain ⟨y26, hy, hm0⟩ := obnd_o hm0
        refine wd_cs (Mquery_Same_sp (hm := hy)) rfl rfl rfl (by repeat (first | exact Vws.nil | apply Vws.cons | exact Vw.nil | exact Vw.d _ | exact Vw.q _ | apply Vw.a)) rfl rfl (by first | exact .no rfl | exact .y rfl rfl rfl rfl) rfl rfl rfl ?_
        repeat (refine sl ?_)
        obtain ⟨y27, hy, hm0⟩ := obnd_o hm0
        refine wd_cs (Mref22_Same_sp (hm := hy)) rfl rfl rfl (by repeat (first | exact Vws.nil | apply Vws.cons | exact Vw.nil | exact Vw.d _ | exact Vw.q _ | apply Vw.a)) rfl rfl (by first | exact .no rfl | exact .y rfl rfl rfl rfl) rfl rfl rfl ?_
        repeat (refine sl ?_)
        refine wd_gp rfl rfl rfl rfl (fun h => ?_) (fun h => ?_)
        · replace hm0 := sel_t h hm0
          repeat (refine sl ?_)
          obtain ⟨y28, hy, hm0⟩ := obnd_o hm0
          refine wd_cs (Mquery_Same_sp (hm := hy)) rfl rfl rfl (by repeat (first | exact Vws.nil | apply Vws.cons | exact Vw.nil | exact Vw.d _ | exact Vw.q _ | apply Vw.a)) rfl rfl (by first | exact .no rfl | exact .y rfl rfl rfl rfl) rfl rfl rfl ?_
          repeat (refine sl ?_)
          refine wd_gp rfl rfl rfl rfl (fun h => ?_) (fun h => ?_)
          · replace hm0 := sel_t h hm0
            repeat (refine sl ?_)
            obtain ⟨y29, hy, hm0⟩ := obnd_o hm0
            refine wd_cs (Mquery_Same_sp (hm := hy)) rfl rfl rfl (by repeat (first | exact Vws.nil | apply Vws.cons | exact Vw.nil | exact Vw.d _ | exact Vw.q _ | apply Vw.a)) rfl rfl (by first | exact .no rfl | exact .y rfl rfl rfl rfl) rfl rfl rfl ?_
            repeat (refine sl ?_)
            refine wd_gp rfl rfl rfl rfl (fun h => ?_) (fun h => ?_)
            · replace hm0 := sel_t h hm0
              repeat (refine sl ?_)
              obtain ⟨y30, hy, hm0⟩ := obnd_o hm0
              refine wd_cs (Mlaw22_awake_sp (hm := hy)) rfl rfl rfl (by repeat (first | exact Vws.nil | apply Vws.cons | exact Vw.nil | exact Vw.d _ | exact Vw.q _ | apply Vw.a)) rfl rfl (by first | exact .no rfl | exact .y rfl rfl rfl rfl) rfl rfl rfl ?_
              repeat (refine sl ?_)
              refine wc_ret ?_
              repeat (refine sl ?_)
              obtain rfl := Option.some.inj hm0
              exact wk_ret ⟨rfl, rfl⟩
            · replace hm0 := sel_f h hm0
              repeat (refine sl ?_)
              refine wc_ret ?_
              repeat (refine sl ?_)
              obtain rfl := Option.some.inj hm0
              exact wk_ret ⟨rfl, rfl⟩
          · replace hm0 := sel_f h hm0
            repeat (refine sl ?_)
            refine wc_ret ?_
            repeat (refine sl ?_)
            obtain rfl := Option.some.inj hm0
            exact wk_ret ⟨rfl, rfl⟩
        · replace hm0 := sel_f h hm0
          repeat (refine sl ?_)
          refine wc_ret ?_
          repeat (refine sl ?_)
          obtain rfl := Option.some.inj hm0
          exact wk_ret ⟨rfl, rfl⟩
      · replace hm0 := sel_f h hm0
        repeat (refine sl ?_)
        refine wc_ret ?_
        repeat (refine sl ?_)
        obtain rfl := Option.some.inj hm0
        exact wk_ret ⟨rfl, rfl⟩
    · replace hm0 := sel_f h hm0
      repeat (refine sl ?_)
      refine wc_ret ?_
      repeat (refine sl ?_)
      obtain rfl := Option.some.inj hm0
      exact wk_ret ⟨rfl, rfl⟩

end Go.Proofs.YtjnnkpkbgdknmaaDoor
namespace Go.Proofs.YtjnnkpkbgdknmaaDoor
set_option linter.unusedSimpArgs false
set_option linter.unusedVariables false
open Go.RowKit
theorem i64w_id {a : Int} (h1 : -9223372036854775808 ≤ a) (h2 : a ≤ 9223372036854775807) : i64w a = a := w64 h1 h2
theorem i64w_rng (a : Int) : -9223372036854775808 ≤ i64w a ∧ i64w a ≤ 9223372036854775807 := by
  constructor
  · simp [i64w, IntKind.wrap, IntKind.bits, IntKind.signed]; split <;> omega
  · simp [i64w, IntKind.wrap, IntKind.bits, IntKind.signed]; split <;> omega
theorem i64w_i64w (a : Int) : i64w (i64w a) = i64w a := i64w_id (i64w_rng a).1 (i64w_rng a).2
theorem sel_true {α : Type} (x y : α) : sel true x y = x := rfl
theorem sel_false {α : Type} (x y : α) : sel false x y = y := rfl
theorem sel_and (a b : Bool) : sel a b false = (a && b) := by cases a <;> rfl
theorem sel_or (a b : Bool) : sel a true b = (a || b) := by cases a <;> rfl
theorem eq_keyspace_ValidKey (k : ByteArray) : Mkeyspace_ValidKey k = vk k := by simp [Mkeyspace_ValidKey, vk]; omega
theorem eq_keyspace_ValidBound (b : Bnd) : Mkeyspace_ValidBound b = vb b := by
  simp only [Mkeyspace_ValidBound, bnd_eq, eq_keyspace_ValidKey, vb, sel_and, sel_or]
  congr 2
  rcases b with ⟨⟨⟨l⟩⟩, t⟩
  cases l <;> simp [ByteArray.toList_eq]
theorem eq_keyspace_Compare (a b : Bnd) : Mkeyspace_Compare a b = cmp a b := by
  rcases a with ⟨a, s⟩
  rcases b with ⟨b, t⟩
  have hi := bytesLess_irrefl a.toList
  have hs : bl a b = true → bl b a = false := fun h => by
    cases h2 : bl b a with
    | false => rfl
    | true => have := bytesLess_trans h h2; rw [hi] at this; cases this
  simp only [Mkeyspace_Compare, bnd_eq, sel_ite, cmp, Bnd.lt]
  cases s <;> cases t <;> simp
  all_goals (split <;> simp_all)
theorem eq_keyspace_Valid (r : Rng) : Mkeyspace_Valid r = vld r := by
  simp only [Mkeyspace_Valid, bnd_eq, eq_keyspace_ValidBound, eq_keyspace_Compare, sel_and, vld, Bool.and_assoc]
theorem eq_keyspace_Empty (r : Rng) : Mkeyspace_Empty r = emp r := by
  simp only [Mkeyspace_Empty, bnd_eq, eq_keyspace_Valid, eq_keyspace_Compare, sel_or, emp]
  congr 1
theorem eq_keyspace_Contains (r : Rng) (k : ByteArray) : Mkeyspace_Contains r k = contains r k := by
  simp only [Mkeyspace_Contains, bnd_eq, eq_keyspace_Empty, eq_keyspace_ValidKey, eq_keyspace_Compare, sel_and, contains, Bool.and_assoc]
theorem eq_ref1_ValidKey (k : ByteArray) : Mref1_ValidKey k = vk k := by simp [Mref1_ValidKey, vk]; omega
theorem eq_ref1_ValidBound (b : Bnd) : Mref1_ValidBound b = vb b := by
  simp only [Mref1_ValidBound, bnd_eq, eq_ref1_ValidKey, vb, sel_and, sel_or]
  congr 2
  rcases b with ⟨⟨⟨l⟩⟩, t⟩
  cases l <;> simp [ByteArray.toList_eq]
theorem eq_ref1_Compare (a b : Bnd) : Mref1_Compare a b = cmp a b := by
  rcases a with ⟨a, s⟩
  rcases b with ⟨b, t⟩
  have hi := bytesLess_irrefl a.toList
  have hs : bl a b = true → bl b a = false := fun h => by
    cases h2 : bl b a with
    | false => rfl
    | true => have := bytesLess_trans h h2; rw [hi] at this; cases this
  simp only [Mref1_Compare, bnd_eq, sel_ite, cmp, Bnd.lt]
  cases s <;> cases t <;> simp
  all_goals (split <;> simp_all)
theorem eq_ref1_Valid (r : Rng) : Mref1_Valid r = vld r := by
  simp only [Mref1_Valid, bnd_eq, eq_ref1_ValidBound, eq_ref1_Compare, sel_and, vld, Bool.and_assoc]
theorem eq_ref1_Empty (r : Rng) : Mref1_Empty r = emp r := by
  simp only [Mref1_Empty, bnd_eq, eq_ref1_Valid, eq_ref1_Compare, sel_or, emp]
  congr 1
theorem eq_ref1_Contains (r : Rng) (k : ByteArray) : Mref1_Contains r k = contains r k := by
  simp only [Mref1_Contains, bnd_eq, eq_ref1_Empty, eq_ref1_ValidKey, eq_ref1_Compare, sel_and, contains, Bool.and_assoc]
theorem lget_nat {α : Type} (l : List α) (m : Nat) : lget l (m : Int) = l[m]? := by
  unfold lget; rw [if_pos (by omega)]; simp
theorem app_le {α : Type} {xs ys : List α} (h : xs.length + ys.length ≤ 4294967296) : app xs ys = some (xs ++ ys) := if_pos h
theorem lsl_le {α : Type} {xs : List α} {lo hi : Int} (h : 0 ≤ lo ∧ lo ≤ hi ∧ hi ≤ xs.length) : lsl xs lo hi = some ((xs.drop lo.toNat).take (hi.toNat - lo.toNat)) := if_pos h
theorem eq_table_Slice_l1 (r : Rng) : ∀ (t out : List Kv), t.length + out.length ≤ 4294967296 → Mtable_Slice_l1 r t out = some (out ++ t.filter fun x => contains r x.key)
  | [], out, _ => by simp [Mtable_Slice_l1]
  | x :: t, out, h => by
    simp only [List.length_cons] at h
    rw [Mtable_Slice_l1.eq_2, bnd_eq, sel_ite]
    have hk : (@contains r x.key) = true ∨ contains r x.key = false := by cases contains r x.key <;> simp
    first
      | rw [eq_ref1_Contains]
      | rw [eq_keyspace_Contains]
    rcases hk with hk | hk
    · rw [if_pos hk, app_le (by simp; omega), obnd_some, eq_table_Slice_l1 r t _ (by simp; omega), List.filter_cons, if_pos hk, List.append_assoc]; rfl
    · rw [if_neg (by simp [hk]), eq_table_Slice_l1 r t _ (by omega), List.filter_cons, if_neg (by simp [hk])]
theorem eq_table_Slice (r : Rng) (t : List Kv) (h : t.length ≤ 4294967296) : Mtable_Slice t r = some (t.filter fun x => contains r x.key) := by
  rw [Mtable_Slice, eq_table_Slice_l1 r t [] (by simpa using h), obnd_some]; rfl
theorem eq_ref20_Slice_l1 (r : Rng) : ∀ (t out : List Kv), t.length + out.length ≤ 4294967296 → Mref20_Slice_l1 r t out = some (out ++ t.filter fun x => contains r x.key)
  | [], out, _ => by simp [Mref20_Slice_l1]
  | x :: t, out, h => by
    simp only [List.length_cons] at h
    rw [Mref20_Slice_l1.eq_2, bnd_eq, sel_ite]
    have hk : (@contains r x.key) = true ∨ contains r x.key = false := by cases contains r x.key <;> simp
    first
      | rw [eq_ref1_Contains]
      | rw [eq_keyspace_Contains]
    rcases hk with hk | hk
    · rw [if_pos hk, app_le (by simp; omega), obnd_some, eq_ref20_Slice_l1 r t _ (by simp; omega), List.filter_cons, if_pos hk, List.append_assoc]; rfl
    · rw [if_neg (by simp [hk]), eq_ref20_Slice_l1 r t _ (by omega), List.filter_cons, if_neg (by simp [hk])]
theorem eq_ref20_Slice (r : Rng) (t : List Kv) (h : t.length ≤ 4294967296) : Mref20_Slice t r = some (t.filter fun x => contains r x.key) := by
  rw [Mref20_Slice, eq_ref20_Slice_l1 r t [] (by simpa using h), obnd_some]; rfl
def okT (τ : TTape) : Prop := τ.l.length ≤ 600 ∧ 0 ≤ τ.at_ ∧ τ.at_ ≤ τ.l.length
theorem new_ok (l : List Int) : ∃ τ, Mwld_New l = some τ ∧ okT τ := by
  unfold Mwld_New
  rw [sel_ite]
  split
  · rename_i h
    simp only [decide_eq_true_eq] at h
    rw [lsl_le (by omega), obnd_some]
    exact ⟨_, rfl, by simp [okT]; omega⟩
  · rename_i h
    simp only [decide_eq_true_eq] at h
    exact ⟨_, rfl, by simp [okT]; omega⟩
theorem irem_ne {a b : Int} (h : b ≠ 0) : irem a b = some (a.tmod b) := if_neg h
theorem mod_ok (v n : Int) (h1 : 1 ≤ n) (h2 : n ≤ 9223372036854775807) : ∃ x, Mwld_Mod v n = some x ∧ 0 ≤ x ∧ x < n := by
  have g1 := Int.lt_tmod_of_pos v (show 0 < n by omega)
  have g2 := Int.tmod_lt_of_pos v (show 0 < n by omega)
  unfold Mwld_Mod
  rw [irem_ne (by omega), obnd_some, sel_ite]
  split
  · rename_i h
    simp only [decide_eq_true_eq] at h
    exact ⟨_, rfl, by rw [i64w_id] <;> omega, by rw [i64w_id] <;> omega⟩
  · rename_i h
    simp only [decide_eq_true_eq] at h
    exact ⟨_, rfl, by omega, by omega⟩
def Cho (n r : Int) : Prop := 0 ≤ r ∧ (1 ≤ n → r < n) ∧ (n < 1 → r = 0)
theorem next_ok {τ : TTape} (h : okT τ) (n : Int) (h2 : n ≤ 9223372036854775807) : ∃ x τ', Mwld_Tape_Next τ n = some (x, τ') ∧ okT τ' ∧ Cho n x := by
  obtain ⟨g1, g2, g3⟩ := h
  unfold Mwld_Tape_Next
  simp only [sel_ite]
  by_cases a1 : n < 1
  · simp only [a1, decide_true, if_true, obnd_some]
    exact ⟨_, _, rfl, ⟨g1, g2, g3⟩, by unfold Cho; omega⟩
  by_cases a2 : (τ.l.length : Int) ≤ τ.at_
  · simp only [a1, a2, decide_true, decide_false, Bool.false_eq_true, if_false, if_true, obnd_some]
    exact ⟨_, _, rfl, ⟨g1, g2, g3⟩, by unfold Cho; omega⟩
  · simp only [a1, a2, decide_true, decide_false, Bool.false_eq_true, if_false, obnd_some]
    have e1 : i64w (τ.at_ + 1) = τ.at_ + 1 := i64w_id (by omega) (by omega)
    have e2 : i64w (τ.at_ + 1 - 1) = τ.at_ := by rw [i64w_id (by omega) (by omega)]; omega
    obtain ⟨m, hm⟩ := Int.eq_ofNat_of_zero_le g2
    rw [e1, e2, hm, lget_nat, List.getElem?_eq_getElem (by omega), obnd_some]
    obtain ⟨x, hx, h3, h4⟩ := mod_ok τ.l[m] n (by omega) h2
    rw [hx, obnd_some]
    exact ⟨_, _, rfl, ⟨g1, by simp only; omega, by simp only; omega⟩, by unfold Cho; omega⟩
theorem bool_ok {τ : TTape} (h : okT τ) (n : Int) (h2 : n ≤ 9223372036854775807) : ∃ b τ', Mwld_Tape_Bool τ n = some (b, τ') ∧ okT τ' := by
  obtain ⟨x, τ', e, h', -⟩ := next_ok h n h2
  exact ⟨_, _, by unfold Mwld_Tape_Bool; rw [e, obnd_some], h'⟩
theorem pick_ok {τ : TTape} (h : okT τ) (l : List Int) (h1 : 0 < l.length) (h2 : l.length ≤ 1000) : ∃ x τ', Mwld_Tape_Pick τ l = some (x, τ') ∧ okT τ' ∧ x ∈ l := by
  obtain ⟨x, τ', e, h', h3⟩ := next_ok h (l.length : Int) (by omega)
  unfold Cho at h3
  unfold Mwld_Tape_Pick
  obtain ⟨m, rfl⟩ := Int.eq_ofNat_of_zero_le h3.1
  rw [e, obnd_some]
  simp only
  rw [lget_nat, List.getElem?_eq_getElem (by omega), obnd_some]
  exact ⟨_, _, rfl, h', List.getElem_mem _⟩
theorem scat_le {s t : ByteArray} (h : s.size + t.size ≤ 9223372036854775807) : scat s t = some (s ++ t) := if_pos h
theorem long_l1_ok (s : ByteArray) (n : Int) (hs : s.size ≤ 100) (hn : n ≤ 1000) : ∀ (k fuel : Nat) (out : ByteArray) (i : Int), 0 ≤ i → n - i = k → k < fuel → (out.size : Int) ≤ 100 * i → ∃ r, Mwld_long_l1 s n fuel out i = some r ∧ r.size = out.size + k * s.size
  | _, 0, _, _, _, _, h, _ => absurd h (by omega)
  | 0, fuel + 1, out, i, h0, h1, _, h2 => by
    rw [Mwld_long_l1.eq_2, sel_ite, if_neg (by simp; omega)]
    exact ⟨out, rfl, by simp⟩
  | k + 1, fuel + 1, out, i, h0, h1, h3, h2 => by
    rw [Mwld_long_l1.eq_2, sel_ite, if_pos (by simp; omega), scat_le (by omega), obnd_some, i64w_id (by omega) (by omega)]
    obtain ⟨r, e, h4⟩ := long_l1_ok s n hs hn k fuel (out ++ s) (i + 1) (by omega) (by omega) (by omega) (by rw [ByteArray.size_append]; omega)
    exact ⟨r, e, by rw [h4, ByteArray.size_append, Nat.succ_mul]; omega⟩
theorem long_ok (s : ByteArray) (n : Nat) (hs : s.size ≤ 100) (hn : n ≤ 1000) : ∃ r, Mwld_long s n = some r ∧ r.size = n * s.size := by
  obtain ⟨r, e, h⟩ := long_l1_ok s n hs (by omega) n FU ⟨#[]⟩ 0 (by omega) (by omega) (by unfold FU; omega) (by decide)
  refine ⟨r, by unfold Mwld_long; rw [e, obnd_some], ?_⟩
  rw [h]
  have : (⟨#[]⟩ : ByteArray).size = 0 := rfl
  rw [this]; simp
theorem letg_ok {i : Int} (h : Cho 6 i) : ∃ s, letg i = some s ∧ s.size ≤ 1 := by
  unfold Cho at h
  unfold letg
  rw [if_pos ⟨h.1, h.2.1 (by omega)⟩]
  exact ⟨_, rfl, letter_le _⟩
theorem key_l1_ok : ∀ (fuel : Nat) (l : List Int) (a : Int) (out : ByteArray) (i : Int), okT ⟨l, a⟩ → i.toNat < fuel → i ≤ 3 → (out.size : Int) + max i 0 ≤ 3 → ∃ k l' a', Mwld_Tape_Key_l1 fuel l a out i = some (k, l', a') ∧ okT ⟨l', a'⟩ ∧ k.size ≤ 3
  | 0, _, _, _, _, _, h1, _, _ => absurd h1 (by omega)
  | fuel + 1, l, a, out, i, h, h1, h2, h3 => by
    rw [Mwld_Tape_Key_l1.eq_2, sel_ite]
    by_cases hi : 0 < i
    · simp only [hi, decide_true, if_true, obnd_some, ocbnd_nxt]
      obtain ⟨x, τ', e, h', hx⟩ := next_ok h 6 (by omega)
      rw [e, obnd_some]
      obtain ⟨s, es, hs⟩ := letg_ok hx
      simp only
      rw [es, obnd_some, scat_le (by omega), obnd_some, i64w_id (by omega) (by omega)]
      exact key_l1_ok fuel _ _ _ _ h' (by omega) (by omega) (by rw [ByteArray.size_append]; omega)
    · simp only [hi, decide_false, Bool.false_eq_true, if_false, obnd_some, ocbnd_ret]
      exact ⟨_, _, _, rfl, h, by omega⟩
theorem key_ok {τ : TTape} (h : okT τ) : ∃ k τ', Mwld_Tape_Key τ = some (k, τ') ∧ okT τ' ∧ k.size ≤ 64 := by
  unfold Mwld_Tape_Key
  obtain ⟨x, τ1, e1, h1, hx⟩ := next_ok h 12 (by omega)
  rw [e1, obnd_some, sel_ite]
  simp only
  by_cases c1 : x = 10
  · rw [if_pos (by simpa using c1)]
    obtain ⟨y, τ2, e2, h2, hy⟩ := next_ok h1 6 (by omega)
    rw [e2, obnd_some]
    obtain ⟨s, es, hs⟩ := letg_ok hy
    obtain ⟨r, er, hr⟩ := long_ok s 64 (by omega) (by omega)
    simp only
    rw [es, obnd_some, show (64 : Int) = ((64 : Nat) : Int) from rfl, er, obnd_some]
    exact ⟨_, _, rfl, h2, by rw [hr]; omega⟩
  · rw [if_neg (by simpa using c1), sel_ite]
    by_cases c2 : x = 11
    · rw [if_pos (by simpa using c2)]
      exact ⟨_, _, rfl, h1, by decide⟩
    · rw [if_neg (by simpa using c2)]
      obtain ⟨y, τ2, e2, h2, hy⟩ := next_ok h1 3 (by omega)
      unfold Cho at hy
      rw [e2, obnd_some]
      simp only
      rw [i64w_id (by omega) (by omega)]
      have hz : (⟨#[]⟩ : ByteArray).size = 0 := rfl
      obtain ⟨k, l', a', e, h3, hk⟩ := key_l1_ok FU τ2.l τ2.at_ ⟨#[]⟩ (1 + y) h2 (by unfold FU; omega) (by omega) (by rw [hz]; omega)
      rw [e, obnd_some]
      exact ⟨_, _, rfl, h3, by simp only; omega⟩
theorem oddKey_ok {τ : TTape} (h : okT τ) : ∃ k τ', Mwld_Tape_OddKey τ = some (k, τ') ∧ okT τ' ∧ k.size ≤ 65 := by
  unfold Mwld_Tape_OddKey
  obtain ⟨b, τ1, e1, h1⟩ := bool_ok h 10 (by omega)
  rw [e1, obnd_some, sel_ite]
  simp only
  split
  · obtain ⟨y, τ2, e2, h2, hy⟩ := next_ok h1 6 (by omega)
    rw [e2, obnd_some]
    obtain ⟨s, es, hs⟩ := letg_ok hy
    obtain ⟨r, er, hr⟩ := long_ok s 65 (by omega) (by omega)
    simp only
    rw [es, obnd_some, show (65 : Int) = ((65 : Nat) : Int) from rfl, er, obnd_some]
    exact ⟨_, _, rfl, h2, by rw [hr]; omega⟩
  · obtain ⟨k, τ2, e2, h2, hk⟩ := key_ok h1
    rw [e2, obnd_some]
    exact ⟨_, _, rfl, h2, by simp only; omega⟩
theorem bound_ok {τ : TTape} (h : okT τ) : ∃ b τ', Mwld_Tape_Bound τ = some (b, τ') ∧ okT τ' ∧ b.key.size ≤ 65 := by
  unfold Mwld_Tape_Bound
  obtain ⟨x, τ1, e1, h1, hx⟩ := next_ok h 9 (by omega)
  rw [e1, obnd_some, sel_ite]
  simp only
  split
  · exact ⟨_, _, rfl, h1, by decide⟩
  · rw [sel_ite]
    split
    · obtain ⟨k, τ2, e2, h2, hk⟩ := oddKey_ok h1
      obtain ⟨b, τ3, e3, h3⟩ := bool_ok h2 3 (by omega)
      rw [e2, obnd_some]; simp only; rw [e3, obnd_some]
      exact ⟨_, _, rfl, h3, hk⟩
    · obtain ⟨k, τ2, e2, h2, hk⟩ := key_ok h1
      rw [e2, obnd_some]
      exact ⟨_, _, rfl, h2, by simp only; omega⟩
theorem range_ok {τ : TTape} (h : okT τ) : ∃ r τ', Mwld_Tape_Range τ = some (r, τ') ∧ okT τ' ∧ r.lo.key.size ≤ 65 ∧ r.hi.key.size ≤ 65 := by
  unfold Mwld_Tape_Range
  obtain ⟨a, τ1, e1, h1, ha⟩ := bound_ok h
  obtain ⟨b, τ2, e2, h2, hb⟩ := bound_ok h1
  obtain ⟨c, τ3, e3, h3⟩ := bool_ok h2 6 (by omega)
  rw [e1, obnd_some]; simp only; rw [e2, obnd_some]; simp only; rw [e3, obnd_some]
  simp only [sel_ite]
  repeat' split
  all_goals first | exact ⟨_, _, rfl, h3, ha, hb⟩ | exact ⟨_, _, rfl, h3, hb, ha⟩
theorem proper_ok {τ : TTape} (h : okT τ) : ∃ r τ', Mwld_Tape_Proper τ = some (r, τ') ∧ okT τ' ∧ emp r = false := by
  unfold Mwld_Tape_Proper
  obtain ⟨r, τ1, e1, h1, -⟩ := range_ok h
  rw [e1, obnd_some, bnd_eq, eq_ref1_Empty, sel_ite]
  split
  · exact ⟨_, _, rfl, h1, by kernel_rfl⟩
  · rename_i hne
    exact ⟨_, _, rfl, h1, by simpa using hne⟩
theorem value_ok {τ : TTape} (h : okT τ) : ∃ v τ', Mwld_Tape_Value τ = some (v, τ') ∧ okT τ' ∧ v.size ≤ 64 := by
  unfold Mwld_Tape_Value
  obtain ⟨x, τ1, e1, h1, hx⟩ := next_ok h 9 (by omega)
  rw [e1, obnd_some, sel_ite]
  simp only
  split
  · exact ⟨_, _, rfl, h1, by decide⟩
  rw [sel_ite]
  split
  · obtain ⟨r, er, hr⟩ := long_ok ⟨#[57]⟩ 64 (by decide) (by omega)
    rw [show (64 : Int) = ((64 : Nat) : Int) from rfl, er, obnd_some]
    exact ⟨_, _, rfl, h1, by rw [hr]; decide⟩
  rw [sel_ite]
  split
  · exact ⟨_, _, rfl, h1, by decide⟩
  · obtain ⟨y, τ2, e2, h2, hy⟩ := next_ok h1 6 (by omega)
    unfold Cho at hy
    rw [e2, obnd_some]
    simp only
    obtain ⟨m, rfl⟩ := Int.eq_ofNat_of_zero_le hy.1
    rw [lget_nat]
    have hm : m = 0 ∨ m = 1 ∨ m = 2 ∨ m = 3 ∨ m = 4 ∨ m = 5 := by omega
    rcases hm with rfl | rfl | rfl | rfl | rfl | rfl <;> exact ⟨_, _, rfl, h2, by decide⟩
theorem oddValue_ok {τ : TTape} (h : okT τ) : ∃ v τ', Mwld_Tape_OddValue τ = some (v, τ') ∧ okT τ' ∧ v.size ≤ 65 := by
  unfold Mwld_Tape_OddValue
  obtain ⟨b, τ1, e1, h1⟩ := bool_ok h 12 (by omega)
  rw [e1, obnd_some, sel_ite]
  simp only
  split
  · obtain ⟨r, er, hr⟩ := long_ok ⟨#[118]⟩ 65 (by decide) (by omega)
    rw [show (65 : Int) = ((65 : Nat) : Int) from rfl, er, obnd_some]
    exact ⟨_, _, rfl, h1, by rw [hr]; decide⟩
  · obtain ⟨v, τ2, e2, h2, hv⟩ := value_ok h1
    rw [e2, obnd_some]
    exact ⟨_, _, rfl, h2, by simp only; omega⟩
theorem row_ok {τ : TTape} (h : okT τ) : ∃ r τ', Mwld_Tape_Row τ = some (r, τ') ∧ okT τ' := by
  unfold Mwld_Tape_Row
  obtain ⟨k, τ1, e1, h1, hk⟩ := oddKey_ok h
  obtain ⟨v, τ2, e2, h2, hv⟩ := oddValue_ok h1
  rw [e1, obnd_some]; simp only; rw [e2, obnd_some]
  exact ⟨_, _, rfl, h2⟩
theorem oddRows_ok {τ : TTape} (h : okT τ) (l : List Kv) (hl : l.length ≤ 1000) : ∃ r τ', Mwld_Tape_OddRows τ l = some (r, τ') ∧ okT τ' ∧ r.length ≤ l.length + 1 := by
  unfold Mwld_Tape_OddRows
  rw [app_le (by simp; omega), obnd_some, List.nil_append]
  obtain ⟨b, τ1, e1, h1⟩ := bool_ok h 3 (by omega)
  rw [e1, obnd_some, sel_ite]
  simp only
  have key1 : ∀ {c : Bool} {τ1 : TTape}, okT τ1 → ∃ r τ', (obnd (obnd (Mwld_Tape_Bool τ1 3) fun y17 => sel y17.1 (some (y17.2.l, y17.2.at_, decide (0 < (l.length : Int)))) (some (y17.2.l, y17.2.at_, false))) fun (x18, x19, x20) =>
    sel x20 (
      obnd (Mwld_Tape_Next (TTape.mk x18 x19) (l.length : Int)) fun y21 =>
      obnd (lget l y21.1) fun e22 =>
      obnd (app l ([e22] : List Kv)) fun l23 =>
      some (l23, y21.2)) (
      obnd (Mwld_Tape_Row (TTape.mk x18 x19)) fun y24 =>
      obnd (app l ([y24.1] : List Kv)) fun l25 =>
      some (l25, y24.2))) = some (r, τ') ∧ okT τ' ∧ r.length ≤ l.length + 1 := by
    intro c τ1 h1
    obtain ⟨b2, τ2, e2, h2⟩ := bool_ok h1 3 (by omega)
    have rowc : ∃ r τ', (obnd (Mwld_Tape_Row τ2) fun y24 => obnd (app l ([y24.1] : List Kv)) fun l25 => some (l25, y24.2)) = some (r, τ') ∧ okT τ' ∧ r.length ≤ l.length + 1 := by
      obtain ⟨r, τ3, e3, h3⟩ := row_ok h2
      rw [e3, obnd_some, app_le (by simp; omega), obnd_some]
      exact ⟨_, _, rfl, h3, by simp⟩
    rw [e2, obnd_some, sel_ite]
    simp only
    split
    · rw [obnd_some, sel_ite]
      split
      · rename_i hd
        simp only [decide_eq_true_eq] at hd
        obtain ⟨x, τ3, e3, h3, hx⟩ := next_ok h2 (l.length : Int) (by omega)
        unfold Cho at hx
        obtain ⟨m, rfl⟩ := Int.eq_ofNat_of_zero_le hx.1
        simp only
        rw [e3, obnd_some]
        simp only
        rw [lget_nat, List.getElem?_eq_getElem (by omega), obnd_some, app_le (by simp; omega), obnd_some]
        exact ⟨_, _, rfl, h3, by simp⟩
      · exact rowc
    · rw [obnd_some, sel_ite]
      simp only [Bool.false_eq_true, if_false]
      exact rowc
  split
  · rw [obnd_some, sel_ite]
    split
    · rename_i hd
      simp only [decide_eq_true_eq] at hd
      rw [i64w_id (by omega) (by omega)]
      obtain ⟨x, τ3, e3, h3, hx⟩ := next_ok h1 ((l.length : Int) - 1) (by omega)
      unfold Cho at hx
      obtain ⟨m, rfl⟩ := Int.eq_ofNat_of_zero_le hx.1
      simp only
      rw [e3, obnd_some]
      simp only
      rw [i64w_id (by omega) (by omega), show (m : Int) + 1 = ((m + 1 : Nat) : Int) by omega]
      simp only [lget_nat, bnd_eq]
      rw [List.getElem?_eq_getElem (i := m + 1) (by omega), List.getElem?_eq_getElem (i := m) (by omega)]
      simp only [obnd_some]
      rw [List.getElem?_eq_getElem (i := m + 1) (by simp; omega), obnd_some]
      exact ⟨_, _, rfl, h3, by simp⟩
    · exact key1 (c := b) h1
  · rw [obnd_some, sel_ite]
    simp only [Bool.false_eq_true, if_false]
    exact key1 (c := b) h1
end Go.Proofs.YtjnnkpkbgdknmaaDoor
namespace Go.Proofs.YtjnnkpkbgdknmaaDoor
set_option linter.unusedSimpArgs false
set_option linter.unusedVariables false
open Go.RowKit
attribute [local irreducible] tpb
def ins (x : Kv) : List Kv → List Kv
  | [] => [x]
  | r :: t => if bl x.key r.key then x :: r :: t else r :: ins x t
def wthout (k : ByteArray) (l : List Kv) : List Kv := l.filter fun r => !decide (r.key = k)
def wth (x : Kv) (l : List Kv) : List Kv := ins x (wthout x.key l)
theorem ins_len (x : Kv) (l : List Kv) : (ins x l).length = l.length + 1 := by
  induction l with
  | nil => rfl
  | cons r t ih => simp only [ins]; split <;> simp [ih]
theorem wth_len (x : Kv) (l : List Kv) : (wth x l).length ≤ l.length + 1 := by
  rw [wth, ins_len]; have := List.length_filter_le (fun r : Kv => !decide (r.key = x.key)) l; unfold wthout; omega
attribute [local irreducible] WK WC WL Wk Rel OpD OpV WD WO Op.bytesLess cmp vk vb vld emp contains
instance without_r (l : List Kv) (k : ByteArray) : Ct Tryd.prog 95 [.d (rows l), vS k] (l.length < 1000000) (.d (rows (wthout k l))) := ⟨fun hl => by
  refine Spec.intro Tryd.func95 rfl rfl Tryd.ntmps95 Tryd.results95 rfl fun B w0 ρ0 => ?_; simp only [slots, List.map_nil, List.map_cons, Nat.reduceAdd]
  (repeat' (first | refine sw ?_ | (refine swt ?_; intro x τ hx) | (refine sp ?_ ?_ <;> (intro h; (first | (have h2 : (_ : Bool) = _ := h; clear h2; subst h) | skip); (try simp only [decide_eq_true_eq, decide_eq_false_iff_not, Bool.not_eq_true', Bool.not_eq_false', Kv.eta, Bnd.eta, Rng.eta, tn_sub1] at h); (first | (have h2 : (_ : Bool) = _ := h; clear h2; subst h) | skip))) | fail))
  refine wc_wk (wk_nil 5 105 59 2 rfl rfl) ?_
  refine wc_loop (fun κ st => ∃ (m : Nat) (out : List Kv), κ = l.length - m ∧ (m ≤ l.length ∧ out.length ≤ m ∧ out ++ wthout k (l.drop m) = wthout k l) ∧ st = ⟨[(1, vS k), (5, .h 105), (8, .d (rows l)), (9, vI l.length), (10, vI (m : Int))], [(105, some (arrT 59 2 Kv.ds out))]⟩) (l.length - (0)) ⟨[(1, vS k), (5, .h 105), (8, .d (rows l)), (9, vI l.length), (10, vI ((0) : Int))], [(105, some (arrT 59 2 Kv.ds ([])))]⟩ (wk [(105, 105)] rfl rfl rfl rfl (by repeat (first | refine VH.cons rfl rfl vb_tpb ?_ | refine VH.cons rfl rfl (Vb.ob _) ?_ | exact VS.nil | exact VH.nil | exact Vws.nil | refine VS.cons rfl ?_ ?_ | refine VH.cons rfl rfl (Vb.box ?_) ?_ | refine VH.cons rfl rfl (Vb.arr ?_) ?_ | exact vws_dm _ | refine Vws.cons ?_ ?_ | exact Vw.d _ | exact Vw.p rfl | exact Vw.h rfl | exact Vw.e rfl | exact Vw.s rfl | exact Vw.q _ | refine Vw.a ?_ | refine Vw.t ?_ | exact Vw.nil | exact Vw.fh rfl rfl (vws_dm _) | exact Vw.un _)) (by repeat (first | refine VH.cons rfl rfl vb_tpb ?_ | refine VH.cons rfl rfl (Vb.ob _) ?_ | exact VS.nil | exact VH.nil | exact Vws.nil | refine VS.cons rfl ?_ ?_ | refine VH.cons rfl rfl (Vb.box ?_) ?_ | refine VH.cons rfl rfl (Vb.arr ?_) ?_ | exact vws_dm _ | refine Vws.cons ?_ ?_ | exact Vw.d _ | exact Vw.p rfl | exact Vw.h rfl | exact Vw.e rfl | exact Vw.s rfl | exact Vw.q _ | refine Vw.a ?_ | refine Vw.t ?_ | exact Vw.nil | exact Vw.fh rfl rfl (vws_dm _) | exact Vw.un _))) ⟨0, [], rfl, ?_, rfl⟩ ?_; rotate_left; rintro κ _ ⟨m, out, rfl, hP, rfl⟩; rotate_left
  · exact ⟨by omega, by simp, by simp⟩
  obtain ⟨hm, ho, hP⟩ := hP
  have hs := drop_step (l := l) (m := m)
  unfold wthout at hP
  (repeat' (first | refine wl_bt Kv.ds [l[m]] rfl rfl (by simp only [flatV, cellsV, List.cons_append, List.nil_append, List.append_nil]; exact rfl) rfl rfl rfl rfl rfl rfl ?_ | refine wd_bt Kv.ds [l[m]] rfl rfl (by simp only [flatV, cellsV, List.cons_append, List.nil_append, List.append_nil]; exact rfl) rfl rfl rfl rfl (by first | exact .no rfl | exact .y rfl rfl rfl rfl) rfl rfl ?_ | refine sw ?_ | (refine swt ?_; intro x τ hx) | (refine sp ?_ ?_ <;> (intro h; (first | (have h2 : (_ : Bool) = _ := h; clear h2; subst h) | skip); (try simp only [decide_eq_true_eq, decide_eq_false_iff_not, Bool.not_eq_true', Bool.not_eq_false', Kv.eta, Bnd.eta, Rng.eta, tn_sub1] at h); (first | (have h2 : (_ : Bool) = _ := h; clear h2; subst h) | skip))) | fail))
  all_goals first
    | (refine wk_loop_n (l.length - (m + 1)) (st' := ⟨[(1, vS k), (5, .h 105), (8, .d (rows l)), (9, vI l.length), (10, vI ((m + 1) : Int))], [(105, some (arrT 59 2 Kv.ds (out ++ [l[m]])))]⟩) (wk [(105, 121)] rfl rfl rfl rfl (by repeat (first | refine VH.cons rfl rfl vb_tpb ?_ | refine VH.cons rfl rfl (Vb.ob _) ?_ | exact VS.nil | exact VH.nil | exact Vws.nil | refine VS.cons rfl ?_ ?_ | refine VH.cons rfl rfl (Vb.box ?_) ?_ | refine VH.cons rfl rfl (Vb.arr ?_) ?_ | exact vws_dm _ | refine Vws.cons ?_ ?_ | exact Vw.d _ | exact Vw.p rfl | exact Vw.h rfl | exact Vw.e rfl | exact Vw.s rfl | exact Vw.q _ | refine Vw.a ?_ | refine Vw.t ?_ | exact Vw.nil | exact Vw.fh rfl rfl (vws_dm _) | exact Vw.un _)) (by repeat (first | refine VH.cons rfl rfl vb_tpb ?_ | refine VH.cons rfl rfl (Vb.ob _) ?_ | exact VS.nil | exact VH.nil | exact Vws.nil | refine VS.cons rfl ?_ ?_ | refine VH.cons rfl rfl (Vb.box ?_) ?_ | refine VH.cons rfl rfl (Vb.arr ?_) ?_ | exact vws_dm _ | refine Vws.cons ?_ ?_ | exact Vw.d _ | exact Vw.p rfl | exact Vw.h rfl | exact Vw.e rfl | exact Vw.s rfl | exact Vw.q _ | refine Vw.a ?_ | refine Vw.t ?_ | exact Vw.nil | exact Vw.fh rfl rfl (vws_dm _) | exact Vw.un _))) ?_ ⟨m + 1, out ++ [l[m]], rfl, ?_, rfl⟩ <;> first | omega | (refine ⟨by omega, by simp; omega, ?_⟩; unfold wthout; rw [hs (by omega), List.filter_cons] at hP; clear hs; simp_all))
    | (refine wk_loop_n (l.length - (m + 1)) (st' := ⟨[(1, vS k), (5, .h 105), (8, .d (rows l)), (9, vI l.length), (10, vI ((m + 1) : Int))], [(105, some (arrT 59 2 Kv.ds (out)))]⟩) (wk [(105, 105)] rfl rfl rfl rfl (by repeat (first | refine VH.cons rfl rfl vb_tpb ?_ | refine VH.cons rfl rfl (Vb.ob _) ?_ | exact VS.nil | exact VH.nil | exact Vws.nil | refine VS.cons rfl ?_ ?_ | refine VH.cons rfl rfl (Vb.box ?_) ?_ | refine VH.cons rfl rfl (Vb.arr ?_) ?_ | exact vws_dm _ | refine Vws.cons ?_ ?_ | exact Vw.d _ | exact Vw.p rfl | exact Vw.h rfl | exact Vw.e rfl | exact Vw.s rfl | exact Vw.q _ | refine Vw.a ?_ | refine Vw.t ?_ | exact Vw.nil | exact Vw.fh rfl rfl (vws_dm _) | exact Vw.un _)) (by repeat (first | refine VH.cons rfl rfl vb_tpb ?_ | refine VH.cons rfl rfl (Vb.ob _) ?_ | exact VS.nil | exact VH.nil | exact Vws.nil | refine VS.cons rfl ?_ ?_ | refine VH.cons rfl rfl (Vb.box ?_) ?_ | refine VH.cons rfl rfl (Vb.arr ?_) ?_ | exact vws_dm _ | refine Vws.cons ?_ ?_ | exact Vw.d _ | exact Vw.p rfl | exact Vw.h rfl | exact Vw.e rfl | exact Vw.s rfl | exact Vw.q _ | refine Vw.a ?_ | refine Vw.t ?_ | exact Vw.nil | exact Vw.fh rfl rfl (vws_dm _) | exact Vw.un _))) ?_ ⟨m + 1, out, rfl, ?_, rfl⟩ <;> first | omega | (refine ⟨by omega, by omega, ?_⟩; unfold wthout; rw [hs (by omega), List.filter_cons] at hP; clear hs; simp_all))
    | ((first | refine wk_pure rfl (by first | exact trivial | exact resT_cell rfl rfl (by exact inferInstance) trivial) rfl (by first | exact Vw.fmp rfl rfl rfl | exact Vw.nil | exact Vw.d _ | (repeat (first | exact Vws.nil | apply Vws.cons | exact Vw.nil | exact Vw.d _ | apply Vw.a | apply Vw.t | exact Vw.fh rfl rfl (vws_dm _) | exact Vw.fh rfl rfl Vws.nil)); done) ?_ | refine wk_pure_n rfl (by first | exact trivial | exact resT_cell rfl rfl (by exact inferInstance) trivial) rfl (by first | exact Vw.fmp rfl rfl rfl | exact Vw.nil | exact Vw.d _ | (repeat (first | exact Vws.nil | apply Vws.cons | exact Vw.nil | exact Vw.d _ | apply Vw.a | apply Vw.t | exact Vw.fh rfl rfl (vws_dm _) | exact Vw.fh rfl rfl Vws.nil)); done) ?_); refine ⟨?_, rfl⟩; unfold wthout; rw [List.drop_eq_nil_of_le (by omega)] at hP; rw [← hP]; simp)⟩
instance with_r (l : List Kv) (k v : ByteArray) : Ct Tryd.prog 89 [.d (rows l), .a [vS k, vS v]] (l.length < 1000000) (.d (rows (wth ⟨k, v⟩ l))) := ⟨fun hl => by
  have hwl : (wthout k l).length ≤ l.length := List.length_filter_le _ _
  refine Spec.intro Tryd.func89 rfl rfl Tryd.ntmps89 Tryd.results89 rfl fun B w0 ρ0 => ?_; simp only [slots, List.map_nil, List.map_cons, Nat.reduceAdd]
  (repeat' (first | refine sw ?_ | (refine swt ?_; intro x τ hx) | (refine sp ?_ ?_ <;> (intro h; (first | (have h2 : (_ : Bool) = _ := h; clear h2; subst h) | skip); (try simp only [decide_eq_true_eq, decide_eq_false_iff_not, Bool.not_eq_true', Bool.not_eq_false', Kv.eta, Bnd.eta, Rng.eta, tn_sub1] at h); (first | (have h2 : (_ : Bool) = _ := h; clear h2; subst h) | skip))) | fail))
  refine wc_wk (wk_nil 5 105 59 2 rfl rfl) ?_
  refine wc_loop (fun κ st => ∃ (m : Nat) (out : List Kv) (d : Bool), κ = (wthout k l).length - m ∧ (m ≤ (wthout k l).length ∧ out.length ≤ m + 1 ∧ (d = false → out.length ≤ m) ∧ out ++ (if d then (wthout k l).drop m else ins ⟨k, v⟩ ((wthout k l).drop m)) = wth ⟨k, v⟩ l) ∧ st = ⟨[(3, .p 103 0), (5, .h 105), (6, vB d), (12, .d (rows (wthout k l))), (13, vI (wthout k l).length), (14, vI (m : Int))], [(103, some (.box 59 [vS k, vS v])), (105, some (arrT 59 2 Kv.ds out))]⟩) ((wthout k l).length - (0)) ⟨[(3, .p 103 0), (5, .h 105), (6, vB (false)), (12, .d (rows (wthout k l))), (13, vI (wthout k l).length), (14, vI ((0) : Int))], [(103, some (.box 59 [vS k, vS v])), (105, some (arrT 59 2 Kv.ds ([])))]⟩ (wk [(103, 103), (105, 105)] rfl rfl rfl rfl (by repeat (first | refine VH.cons rfl rfl vb_tpb ?_ | refine VH.cons rfl rfl (Vb.ob _) ?_ | exact VS.nil | exact VH.nil | exact Vws.nil | refine VS.cons rfl ?_ ?_ | refine VH.cons rfl rfl (Vb.box ?_) ?_ | refine VH.cons rfl rfl (Vb.arr ?_) ?_ | exact vws_dm _ | refine Vws.cons ?_ ?_ | exact Vw.d _ | exact Vw.p rfl | exact Vw.h rfl | exact Vw.e rfl | exact Vw.s rfl | exact Vw.q _ | refine Vw.a ?_ | refine Vw.t ?_ | exact Vw.nil | exact Vw.fh rfl rfl (vws_dm _) | exact Vw.un _)) (by repeat (first | refine VH.cons rfl rfl vb_tpb ?_ | refine VH.cons rfl rfl (Vb.ob _) ?_ | exact VS.nil | exact VH.nil | exact Vws.nil | refine VS.cons rfl ?_ ?_ | refine VH.cons rfl rfl (Vb.box ?_) ?_ | refine VH.cons rfl rfl (Vb.arr ?_) ?_ | exact vws_dm _ | refine Vws.cons ?_ ?_ | exact Vw.d _ | exact Vw.p rfl | exact Vw.h rfl | exact Vw.e rfl | exact Vw.s rfl | exact Vw.q _ | refine Vw.a ?_ | refine Vw.t ?_ | exact Vw.nil | exact Vw.fh rfl rfl (vws_dm _) | exact Vw.un _))) ⟨0, [], false, rfl, ?_, rfl⟩ ?_; rotate_left; rintro κ _ ⟨m, out, d, rfl, hP, rfl⟩; rotate_left
  · exact ⟨by omega, by simp, by simp, by simp [wth]⟩
  obtain ⟨hm, ho, ho1, hP⟩ := hP
  have hs := drop_step (l := wthout k l) (m := m)
  (repeat' (first | refine wl_bt Kv.ds [(wthout k l)[m]] rfl rfl (by simp only [flatV, cellsV, List.cons_append, List.nil_append, List.append_nil]; exact rfl) rfl rfl rfl rfl rfl rfl ?_ | refine wd_bt Kv.ds [(wthout k l)[m]] rfl rfl (by simp only [flatV, cellsV, List.cons_append, List.nil_append, List.append_nil]; exact rfl) rfl rfl rfl rfl (by first | exact .no rfl | exact .y rfl rfl rfl rfl) rfl rfl ?_ | refine wl_bt Kv.ds [⟨k, v⟩] rfl rfl (by simp only [flatV, cellsV, List.cons_append, List.nil_append, List.append_nil]; exact rfl) rfl rfl rfl rfl rfl rfl ?_ | refine wd_bt Kv.ds [⟨k, v⟩] rfl rfl (by simp only [flatV, cellsV, List.cons_append, List.nil_append, List.append_nil]; exact rfl) rfl rfl rfl rfl (by first | exact .no rfl | exact .y rfl rfl rfl rfl) rfl rfl ?_ | refine sw ?_ | (refine swt ?_; intro x τ hx) | (refine sp ?_ ?_ <;> (intro h; (first | (have h2 : (_ : Bool) = _ := h; clear h2; subst h) | skip); (try simp only [decide_eq_true_eq, decide_eq_false_iff_not, Bool.not_eq_true', Bool.not_eq_false', Kv.eta, Bnd.eta, Rng.eta, tn_sub1] at h); (first | (have h2 : (_ : Bool) = _ := h; clear h2; subst h) | skip))) | fail))
  case refine_2.refine_1.refine_1.refine_2 =>
    refine wk_loop_n ((wthout k l).length - (m + 1)) (st' := ⟨[(3, .p 103 0), (5, .h 105), (6, vB (false)), (12, .d (rows (wthout k l))), (13, vI (wthout k l).length), (14, vI ((m + 1) : Int))], [(103, some (.box 59 [vS k, vS v])), (105, some (arrT 59 2 Kv.ds (out ++ [(wthout k l)[m]])))]⟩) (wk [(103, 103), (105, 134)] rfl rfl rfl rfl (by repeat (first | refine VH.cons rfl rfl vb_tpb ?_ | refine VH.cons rfl rfl (Vb.ob _) ?_ | exact VS.nil | exact VH.nil | exact Vws.nil | refine VS.cons rfl ?_ ?_ | refine VH.cons rfl rfl (Vb.box ?_) ?_ | refine VH.cons rfl rfl (Vb.arr ?_) ?_ | exact vws_dm _ | refine Vws.cons ?_ ?_ | exact Vw.d _ | exact Vw.p rfl | exact Vw.h rfl | exact Vw.e rfl | exact Vw.s rfl | exact Vw.q _ | refine Vw.a ?_ | refine Vw.t ?_ | exact Vw.nil | exact Vw.fh rfl rfl (vws_dm _) | exact Vw.un _)) (by repeat (first | refine VH.cons rfl rfl vb_tpb ?_ | refine VH.cons rfl rfl (Vb.ob _) ?_ | exact VS.nil | exact VH.nil | exact Vws.nil | refine VS.cons rfl ?_ ?_ | refine VH.cons rfl rfl (Vb.box ?_) ?_ | refine VH.cons rfl rfl (Vb.arr ?_) ?_ | exact vws_dm _ | refine Vws.cons ?_ ?_ | exact Vw.d _ | exact Vw.p rfl | exact Vw.h rfl | exact Vw.e rfl | exact Vw.s rfl | exact Vw.q _ | refine Vw.a ?_ | refine Vw.t ?_ | exact Vw.nil | exact Vw.fh rfl rfl (vws_dm _) | exact Vw.un _))) ?_ ⟨m + 1, out ++ [(wthout k l)[m]], false, rfl, ?_, rfl⟩
    · omega
    refine ⟨by omega, (by first | (have := ho1 rfl; simp; omega) | (simp; omega)), (fun hd => by first | (cases hd; done) | (have := ho1 rfl; simp; omega)), ?_⟩; rw [hs (by omega)] at hP; rw [← hP]; simp only [ins, h, Bool.false_eq_true, if_true, if_false, List.append_assoc, List.cons_append, List.nil_append]
  all_goals first
    | (refine wk_loop_n ((wthout k l).length - (m + 1)) (st' := ⟨[(3, .p 103 0), (5, .h 105), (6, vB (true)), (12, .d (rows (wthout k l))), (13, vI (wthout k l).length), (14, vI ((m + 1) : Int))], [(103, some (.box 59 [vS k, vS v])), (105, some (arrT 59 2 Kv.ds ((out ++ [⟨k, v⟩]) ++ [(wthout k l)[m]])))]⟩) (wk [(103, 103), (105, 134)] rfl rfl rfl rfl (by repeat (first | refine VH.cons rfl rfl vb_tpb ?_ | refine VH.cons rfl rfl (Vb.ob _) ?_ | exact VS.nil | exact VH.nil | exact Vws.nil | refine VS.cons rfl ?_ ?_ | refine VH.cons rfl rfl (Vb.box ?_) ?_ | refine VH.cons rfl rfl (Vb.arr ?_) ?_ | exact vws_dm _ | refine Vws.cons ?_ ?_ | exact Vw.d _ | exact Vw.p rfl | exact Vw.h rfl | exact Vw.e rfl | exact Vw.s rfl | exact Vw.q _ | refine Vw.a ?_ | refine Vw.t ?_ | exact Vw.nil | exact Vw.fh rfl rfl (vws_dm _) | exact Vw.un _)) (by repeat (first | refine VH.cons rfl rfl vb_tpb ?_ | refine VH.cons rfl rfl (Vb.ob _) ?_ | exact VS.nil | exact VH.nil | exact Vws.nil | refine VS.cons rfl ?_ ?_ | refine VH.cons rfl rfl (Vb.box ?_) ?_ | refine VH.cons rfl rfl (Vb.arr ?_) ?_ | exact vws_dm _ | refine Vws.cons ?_ ?_ | exact Vw.d _ | exact Vw.p rfl | exact Vw.h rfl | exact Vw.e rfl | exact Vw.s rfl | exact Vw.q _ | refine Vw.a ?_ | refine Vw.t ?_ | exact Vw.nil | exact Vw.fh rfl rfl (vws_dm _) | exact Vw.un _))) ?_ ⟨m + 1, (out ++ [⟨k, v⟩]) ++ [(wthout k l)[m]], true, rfl, ?_, rfl⟩ <;> first | omega | (refine ⟨by omega, (by first | (have := ho1 rfl; simp; omega) | (simp; omega)), (fun hd => by first | (cases hd; done) | (have := ho1 rfl; simp; omega)), ?_⟩; rw [hs (by omega)] at hP; rw [← hP]; simp only [ins, h, Bool.false_eq_true, if_true, if_false, List.append_assoc, List.cons_append, List.nil_append]))
    | (refine wk_loop_n ((wthout k l).length - (m + 1)) (st' := ⟨[(3, .p 103 0), (5, .h 105), (6, vB (false)), (12, .d (rows (wthout k l))), (13, vI (wthout k l).length), (14, vI ((m + 1) : Int))], [(103, some (.box 59 [vS k, vS v])), (105, some (arrT 59 2 Kv.ds (out ++ [(wthout k l)[m]])))]⟩) (wk [(103, 103), (105, 134)] rfl rfl rfl rfl (by repeat (first | refine VH.cons rfl rfl vb_tpb ?_ | refine VH.cons rfl rfl (Vb.ob _) ?_ | exact VS.nil | exact VH.nil | exact Vws.nil | refine VS.cons rfl ?_ ?_ | refine VH.cons rfl rfl (Vb.box ?_) ?_ | refine VH.cons rfl rfl (Vb.arr ?_) ?_ | exact vws_dm _ | refine Vws.cons ?_ ?_ | exact Vw.d _ | exact Vw.p rfl | exact Vw.h rfl | exact Vw.e rfl | exact Vw.s rfl | exact Vw.q _ | refine Vw.a ?_ | refine Vw.t ?_ | exact Vw.nil | exact Vw.fh rfl rfl (vws_dm _) | exact Vw.un _)) (by repeat (first | refine VH.cons rfl rfl vb_tpb ?_ | refine VH.cons rfl rfl (Vb.ob _) ?_ | exact VS.nil | exact VH.nil | exact Vws.nil | refine VS.cons rfl ?_ ?_ | refine VH.cons rfl rfl (Vb.box ?_) ?_ | refine VH.cons rfl rfl (Vb.arr ?_) ?_ | exact vws_dm _ | refine Vws.cons ?_ ?_ | exact Vw.d _ | exact Vw.p rfl | exact Vw.h rfl | exact Vw.e rfl | exact Vw.s rfl | exact Vw.q _ | refine Vw.a ?_ | refine Vw.t ?_ | exact Vw.nil | exact Vw.fh rfl rfl (vws_dm _) | exact Vw.un _))) ?_ ⟨m + 1, out ++ [(wthout k l)[m]], false, rfl, ?_, rfl⟩ <;> first | omega | (refine ⟨by omega, (by first | (have := ho1 rfl; simp; omega) | (simp; omega)), (fun hd => by first | (cases hd; done) | (have := ho1 rfl; simp; omega)), ?_⟩; rw [hs (by omega)] at hP; rw [← hP]; simp only [ins, h, Bool.false_eq_true, if_true, if_false, List.append_assoc, List.cons_append, List.nil_append]))
    | (refine wk_loop_n ((wthout k l).length - (m + 1)) (st' := ⟨[(3, .p 103 0), (5, .h 105), (6, vB (true)), (12, .d (rows (wthout k l))), (13, vI (wthout k l).length), (14, vI ((m + 1) : Int))], [(103, some (.box 59 [vS k, vS v])), (105, some (arrT 59 2 Kv.ds (out ++ [(wthout k l)[m]])))]⟩) (wk [(103, 103), (105, 134)] rfl rfl rfl rfl (by repeat (first | refine VH.cons rfl rfl vb_tpb ?_ | refine VH.cons rfl rfl (Vb.ob _) ?_ | exact VS.nil | exact VH.nil | exact Vws.nil | refine VS.cons rfl ?_ ?_ | refine VH.cons rfl rfl (Vb.box ?_) ?_ | refine VH.cons rfl rfl (Vb.arr ?_) ?_ | exact vws_dm _ | refine Vws.cons ?_ ?_ | exact Vw.d _ | exact Vw.p rfl | exact Vw.h rfl | exact Vw.e rfl | exact Vw.s rfl | exact Vw.q _ | refine Vw.a ?_ | refine Vw.t ?_ | exact Vw.nil | exact Vw.fh rfl rfl (vws_dm _) | exact Vw.un _)) (by repeat (first | refine VH.cons rfl rfl vb_tpb ?_ | refine VH.cons rfl rfl (Vb.ob _) ?_ | exact VS.nil | exact VH.nil | exact Vws.nil | refine VS.cons rfl ?_ ?_ | refine VH.cons rfl rfl (Vb.box ?_) ?_ | refine VH.cons rfl rfl (Vb.arr ?_) ?_ | exact vws_dm _ | refine Vws.cons ?_ ?_ | exact Vw.d _ | exact Vw.p rfl | exact Vw.h rfl | exact Vw.e rfl | exact Vw.s rfl | exact Vw.q _ | refine Vw.a ?_ | refine Vw.t ?_ | exact Vw.nil | exact Vw.fh rfl rfl (vws_dm _) | exact Vw.un _))) ?_ ⟨m + 1, out ++ [(wthout k l)[m]], true, rfl, ?_, rfl⟩ <;> first | omega | (refine ⟨by omega, (by first | (have := ho1 rfl; simp; omega) | (simp; omega)), (fun hd => by first | (cases hd; done) | (have := ho1 rfl; simp; omega)), ?_⟩; rw [hs (by omega)] at hP; rw [← hP]; simp only [ins, h, Bool.false_eq_true, if_true, if_false, List.append_assoc, List.cons_append, List.nil_append]))
    | ((first | refine wk_pure rfl (by first | exact trivial | exact resT_cell rfl rfl (by exact inferInstance) trivial) rfl (by first | exact Vw.fmp rfl rfl rfl | exact Vw.nil | exact Vw.d _ | (repeat (first | exact Vws.nil | apply Vws.cons | exact Vw.nil | exact Vw.d _ | apply Vw.a | apply Vw.t | exact Vw.fh rfl rfl (vws_dm _) | exact Vw.fh rfl rfl Vws.nil)); done) ?_ | refine wk_pure_n rfl (by first | exact trivial | exact resT_cell rfl rfl (by exact inferInstance) trivial) rfl (by first | exact Vw.fmp rfl rfl rfl | exact Vw.nil | exact Vw.d _ | (repeat (first | exact Vws.nil | apply Vws.cons | exact Vw.nil | exact Vw.d _ | apply Vw.a | apply Vw.t | exact Vw.fh rfl rfl (vws_dm _) | exact Vw.fh rfl rfl Vws.nil)); done) ?_); refine ⟨?_, rfl⟩; rw [List.drop_eq_nil_of_le (by omega)] at hP; rw [← hP]; simp [ins])⟩
abbrev vPut (t : List Kv) (e : Int) : V := .t [.d (rows t), vI e]
def put (x : Kv) (l : List Kv) : List Kv × Int := if tvalid l && vrow x then (if 1024 < (wth x l).length then ([], 16) else (wth x l, 0)) else ([], 1)
theorem tvalid_one (x : Kv) : tvalid [x] = vrow x := by
  simp [tvalid, okAt, List.range_succ]
theorem put_1 {x : Kv} {l : List Kv} (h : tvalid l = false) : put x l = ([], 1) := by simp [put, h]
theorem put_2 {x : Kv} {l : List Kv} (h : tvalid [x] = false) : put x l = ([], 1) := by rw [tvalid_one] at h; simp [put, h]
theorem put_3 {x : Kv} {l : List Kv} (h1 : tvalid l = true) (h2 : tvalid [x] = true) (h : 1024 < (wth x l).length) : put x l = ([], 16) := by rw [tvalid_one] at h2; simp [put, h1, h2, h]
theorem put_4 {x : Kv} {l : List Kv} (h1 : tvalid l = true) (h2 : tvalid [x] = true) (h : ¬ 1024 < (wth x l).length) : put x l = (wth x l, 0) := by rw [tvalid_one] at h2; simp [put, h1, h2, h]
instance put_r (l : List Kv) (k v : ByteArray) : Ct Tryd.prog 73 [.d (rows l), .a [vS k, vS v]] (l.length < 1000000) (vPut (put ⟨k, v⟩ l).1 (put ⟨k, v⟩ l).2) := ⟨fun hl => by
  have hwl := wth_len ⟨k, v⟩ l
  refine Spec.intro Tryd.func73 rfl rfl Tryd.ntmps73 Tryd.results73 rfl fun B w0 ρ0 => ?_; simp only [slots, List.map_nil, List.map_cons, Nat.reduceAdd]
  (repeat' (first | refine wl_bt Kv.ds [⟨k, v⟩] rfl rfl (by simp only [flatV, cellsV, List.cons_append, List.nil_append, List.append_nil]; exact rfl) rfl rfl rfl rfl rfl rfl ?_ | refine wd_bt Kv.ds [⟨k, v⟩] rfl rfl (by simp only [flatV, cellsV, List.cons_append, List.nil_append, List.append_nil]; exact rfl) rfl rfl rfl rfl (by first | exact .no rfl | exact .y rfl rfl rfl rfl) rfl rfl ?_ | refine sw ?_ | (refine swt ?_; intro x τ hx) | (refine sp ?_ ?_ <;> (intro h; (first | (have h2 : (_ : Bool) = _ := h; clear h2; subst h) | skip); (try simp only [decide_eq_true_eq, decide_eq_false_iff_not, Bool.not_eq_true', Bool.not_eq_false', Kv.eta, Bnd.eta, Rng.eta, tn_sub1] at h); (first | (have h2 : (_ : Bool) = _ := h; clear h2; subst h) | skip))) | fail))
  all_goals (first | refine wk_pure rfl (by first | exact trivial | exact resT_cell rfl rfl (by exact inferInstance) trivial) rfl (by first | exact Vw.fmp rfl rfl rfl | exact Vw.nil | exact Vw.d _ | (repeat (first | exact Vws.nil | apply Vws.cons | exact Vw.nil | exact Vw.d _ | apply Vw.a | apply Vw.t | exact Vw.fh rfl rfl (vws_dm _) | exact Vw.fh rfl rfl Vws.nil)); done) ?_ | refine wk_pure_n rfl (by first | exact trivial | exact resT_cell rfl rfl (by exact inferInstance) trivial) rfl (by first | exact Vw.fmp rfl rfl rfl | exact Vw.nil | exact Vw.d _ | (repeat (first | exact Vws.nil | apply Vws.cons | exact Vw.nil | exact Vw.d _ | apply Vw.a | apply Vw.t | exact Vw.fh rfl rfl (vws_dm _) | exact Vw.fh rfl rfl Vws.nil)); done) ?_)
  all_goals (refine ⟨?_, rfl⟩; first | (rw [put_1 (by assumption)]; rfl) | (rw [put_2 (by assumption)]; rfl) | (rw [put_3 (by assumption) (by assumption) (by omega)]; rfl) | (rw [put_4 (by assumption) (by assumption) (by omega)]))⟩
theorem tvalid_iff (l : List Kv) : tvalid l = true ↔ l.length ≤ 1024 ∧ (∀ r ∈ l, vrow r = true) ∧ l.Pairwise (fun a b => bl a.key b.key = true) := by
  constructor
  · intro h
    simp only [tvalid, Bool.and_eq_true, decide_eq_true_eq, List.all_eq_true, List.mem_range] at h
    obtain ⟨h0, h⟩ := h
    have h' : ∀ m (hm : m < l.length), vrow l[m] = true ∧ (m = 0 ∨ bl (l[m - 1]'(by omega)).key l[m].key = true) := fun m hm => by
      have := h m hm
      rw [okAt_eq hm] at this
      simpa using this
    refine ⟨h0, fun r hr => ?_, ?_⟩
    · obtain ⟨m, hm, rfl⟩ := List.mem_iff_getElem.1 hr
      exact (h' m hm).1
    · rw [List.pairwise_iff_getElem]
      intro i j hi hj hij
      obtain ⟨d, rfl⟩ := Nat.exists_eq_add_of_lt hij
      induction d with
      | zero => simpa using (h' (i + 0 + 1) hj).2
      | succ d ih =>
        have h1 := ih (by omega) (by omega)
        have h2 := (h' (i + (d + 1) + 1) hj).2
        simp only [Nat.add_eq_zero_iff, Nat.one_ne_zero, and_false, false_or, Nat.add_sub_cancel] at h2
        exact bytesLess_trans h1 h2
  · rintro ⟨h0, h1, h2⟩
    refine tvalid_t h0 fun j hj => ?_
    rw [okAt_eq hj, h1 _ (List.getElem_mem _)]
    rw [List.pairwise_iff_getElem] at h2
    by_cases e : j = 0
    · simp [e]
    · simp [h2 (j - 1) j (by omega) hj (by omega)]
theorem ins_mem {x r : Kv} {l : List Kv} : r ∈ ins x l ↔ r = x ∨ r ∈ l := by
  induction l with
  | nil => simp [ins]
  | cons a t ih => simp only [ins]; split <;> simp [ih]; grind
theorem ins_pw {x : Kv} {l : List Kv} (h : l.Pairwise (fun a b => bl a.key b.key = true)) (hx : ∀ r ∈ l, r.key ≠ x.key) : (ins x l).Pairwise (fun a b => bl a.key b.key = true) := by
  induction l with
  | nil => simp [ins]
  | cons a t ih =>
    rw [List.pairwise_cons] at h
    simp only [ins]
    split
    · rename_i hb
      rw [List.pairwise_cons]
      refine ⟨fun b hb' => ?_, List.pairwise_cons.2 h⟩
      rcases List.mem_cons.1 hb' with rfl | hb'
      · exact hb
      · exact bytesLess_trans hb (h.1 b hb')
    · rename_i hb
      rw [List.pairwise_cons]
      refine ⟨fun b hb' => ?_, ih h.2 fun r hr => hx r (List.mem_cons_of_mem _ hr)⟩
      rcases ins_mem.1 hb' with rfl | hb'
      · cases hba : bl a.key b.key with
        | true => rfl
        | false => 
          have := bytesLess_total (by simpa using hb) hba
          have h3 := hx a List.mem_cons_self
          exfalso; apply h3
          have h4 := ba_eqE b.key a.key
          simp only [this, BEq.rfl] at h4
          exact (of_decide_eq_true h4.symm).symm
      · exact h.1 b hb'
theorem put_valid {x : Kv} {l : List Kv} (h : tvalid l = true) (hx : vrow x = true) (hl : l.length < 1024) : put x l = (wth x l, 0) ∧ tvalid (wth x l) = true ∧ (wth x l).length ≤ l.length + 1 := by
  have h1 := wth_len x l
  refine ⟨by simp only [put, h, hx, Bool.and_self, if_true]; rw [if_neg (by omega)], ?_, h1⟩
  rw [tvalid_iff] at h ⊢
  obtain ⟨g0, g1, g2⟩ := h
  refine ⟨by omega, fun r hr => ?_, ins_pw (List.Pairwise.filter _ g2) fun r hr => by simpa using (List.mem_filter.1 hr).2⟩
  rcases ins_mem.1 hr with rfl | hr
  · exact hx
  · exact g1 r (List.mem_filter.1 hr).1
instance all_ct : Ct Tryd.prog 48 [] True (.a [vS ⟨#[]⟩, vB false, vS ⟨#[]⟩, vB true]) := ⟨fun _ => by
  refine Spec.intro Tryd.func48 rfl rfl Tryd.ntmps48 Tryd.results48 rfl fun B w0 ρ0 => ?_; simp only [slots, List.map_nil, List.map_cons, Nat.reduceAdd]
  (repeat' (first | refine sw ?_ | (refine swt ?_; intro x τ hx) | (refine sp ?_ ?_ <;> (intro h; (first | (have h2 : (_ : Bool) = _ := h; clear h2; subst h) | skip); (try simp only [decide_eq_true_eq, decide_eq_false_iff_not, Bool.not_eq_true', Bool.not_eq_false', Kv.eta, Bnd.eta, Rng.eta, tn_sub1] at h); (first | (have h2 : (_ : Bool) = _ := h; clear h2; subst h) | skip))) | fail))
  all_goals (first | refine wk_pure rfl (by first | exact trivial | exact resT_cell rfl rfl (by exact inferInstance) trivial) rfl (by first | exact Vw.fmp rfl rfl rfl | exact Vw.nil | exact Vw.d _ | (repeat (first | exact Vws.nil | apply Vws.cons | exact Vw.nil | exact Vw.d _ | apply Vw.a | apply Vw.t | exact Vw.fh rfl rfl (vws_dm _) | exact Vw.fh rfl rfl Vws.nil)); done) ?_ | refine wk_pure_n rfl (by first | exact trivial | exact resT_cell rfl rfl (by exact inferInstance) trivial) rfl (by first | exact Vw.fmp rfl rfl rfl | exact Vw.nil | exact Vw.d _ | (repeat (first | exact Vws.nil | apply Vws.cons | exact Vw.nil | exact Vw.d _ | apply Vw.a | apply Vw.t | exact Vw.fh rfl rfl (vws_dm _) | exact Vw.fh rfl rfl Vws.nil)); done) ?_)
  all_goals exact ⟨rfl, rfl⟩⟩
theorem contains_lo {r : Rng} (h : emp r = false) : contains r r.lo.key = true := by
  obtain ⟨⟨a, s⟩, ⟨b, t⟩⟩ := r
  have hi := bytesLess_irrefl a.toList
  simp only [emp, contains, vld, vb, vk, cmp, Bnd.lt] at *
  cases s <;> cases t <;> simp_all <;> grind
instance keyIn_tc (ak bk : ByteArray) (ax bx : Bool) : Tc Tryd.prog 74 [.a [vS ak, vB ax, vS bk, vB bx]] (emp ⟨⟨ak, ax⟩, ⟨bk, bx⟩⟩ = false) vS (fun k => contains ⟨⟨ak, ax⟩, ⟨bk, bx⟩⟩ k = true) := ⟨fun h0 τ => by
  refine Spec.intro Tryd.func74 rfl rfl Tryd.ntmps74 Tryd.results74 rfl fun B w0 ρ0 => ?_; simp only [slots, List.map_nil, List.map_cons, Nat.reduceAdd]
  (repeat' (first | refine sw ?_ | (refine swt ?_; intro x τ hx) | (refine sp ?_ ?_ <;> (intro h; (first | (have h2 : (_ : Bool) = _ := h; clear h2; subst h) | skip); (try simp only [decide_eq_true_eq, decide_eq_false_iff_not, Bool.not_eq_true', Bool.not_eq_false', Kv.eta, Bnd.eta, Rng.eta, tn_sub1] at h); (first | (have h2 : (_ : Bool) = _ := h; clear h2; subst h) | skip))) | fail))
  refine wc_loop (fun κ st => ∃ (i : Int) (τ : Tape), κ = (4 - i).toNat ∧ (0 ≤ i ∧ i ≤ 4) ∧ st = ⟨[(0, .p 0 0), (3, .p 103 0), (5, vI i)], [(0, some (tpb τ)), (103, some (.box 50 [vS ak, vB ax, vS bk, vB bx]))]⟩) ((4 - ((0 : Int))).toNat) ⟨[(0, .p 0 0), (3, .p 103 0), (5, vI ((0 : Int)))], [(0, some (tpb (τ))), (103, some (.box 50 [vS ak, vB ax, vS bk, vB bx]))]⟩ (wk [(0, 0), (103, 103)] rfl rfl rfl rfl (by repeat (first | refine VH.cons rfl rfl vb_tpb ?_ | refine VH.cons rfl rfl (Vb.ob _) ?_ | exact VS.nil | exact VH.nil | exact Vws.nil | refine VS.cons rfl ?_ ?_ | refine VH.cons rfl rfl (Vb.box ?_) ?_ | refine VH.cons rfl rfl (Vb.arr ?_) ?_ | exact vws_dm _ | refine Vws.cons ?_ ?_ | exact Vw.d _ | exact Vw.p rfl | exact Vw.h rfl | exact Vw.e rfl | exact Vw.s rfl | exact Vw.q _ | refine Vw.a ?_ | refine Vw.t ?_ | exact Vw.nil | exact Vw.fh rfl rfl (vws_dm _) | exact Vw.un _)) (by repeat (first | refine VH.cons rfl rfl vb_tpb ?_ | refine VH.cons rfl rfl (Vb.ob _) ?_ | exact VS.nil | exact VH.nil | exact Vws.nil | refine VS.cons rfl ?_ ?_ | refine VH.cons rfl rfl (Vb.box ?_) ?_ | refine VH.cons rfl rfl (Vb.arr ?_) ?_ | exact vws_dm _ | refine Vws.cons ?_ ?_ | exact Vw.d _ | exact Vw.p rfl | exact Vw.h rfl | exact Vw.e rfl | exact Vw.s rfl | exact Vw.q _ | refine Vw.a ?_ | refine Vw.t ?_ | exact Vw.nil | exact Vw.fh rfl rfl (vws_dm _) | exact Vw.un _))) ⟨(0 : Int), τ, rfl, ?_, rfl⟩ ?_; rotate_left; rintro κ _ ⟨i, τ, rfl, hP, rfl⟩; rotate_left
  · omega
  (repeat' (first | refine sw ?_ | (refine swt ?_; intro x τ hx) | (refine sp ?_ ?_ <;> (intro h; (first | (have h2 : (_ : Bool) = _ := h; clear h2; subst h) | skip); (try simp only [decide_eq_true_eq, decide_eq_false_iff_not, Bool.not_eq_true', Bool.not_eq_false', Kv.eta, Bnd.eta, Rng.eta, tn_sub1] at h); (first | (have h2 : (_ : Bool) = _ := h; clear h2; subst h) | skip))) | fail))
  · exact wk_own [(0, 0)] rfl (by first | exact trivial | exact resT_cell rfl rfl (by exact inferInstance) trivial) rfl (by first | exact Vw.nil | exact Vw.d _ | (repeat (first | exact Vws.nil | apply Vws.cons | exact Vw.nil | exact Vw.d _ | apply Vw.a | apply Vw.t | exact Vw.fh rfl rfl (vws_dm _) | exact Vw.fh rfl rfl Vws.nil | exact Vw.h rfl)); done) (by exact VH.cons rfl rfl vb_tpb VH.nil) ⟨_, _, by assumption, rfl, rfl⟩
  · refine wk_loop_n ((4 - (i + 1)).toNat) (st' := ⟨[(0, .p 0 0), (3, .p 103 0), (5, vI (i + 1))], [(0, some (tpb (τ))), (103, some (.box 50 [vS ak, vB ax, vS bk, vB bx]))]⟩) (wk [(0, 0), (103, 103)] rfl rfl rfl rfl (by repeat (first | refine VH.cons rfl rfl vb_tpb ?_ | refine VH.cons rfl rfl (Vb.ob _) ?_ | exact VS.nil | exact VH.nil | exact Vws.nil | refine VS.cons rfl ?_ ?_ | refine VH.cons rfl rfl (Vb.box ?_) ?_ | refine VH.cons rfl rfl (Vb.arr ?_) ?_ | exact vws_dm _ | refine Vws.cons ?_ ?_ | exact Vw.d _ | exact Vw.p rfl | exact Vw.h rfl | exact Vw.e rfl | exact Vw.s rfl | exact Vw.q _ | refine Vw.a ?_ | refine Vw.t ?_ | exact Vw.nil | exact Vw.fh rfl rfl (vws_dm _) | exact Vw.un _)) (by repeat (first | refine VH.cons rfl rfl vb_tpb ?_ | refine VH.cons rfl rfl (Vb.ob _) ?_ | exact VS.nil | exact VH.nil | exact Vws.nil | refine VS.cons rfl ?_ ?_ | refine VH.cons rfl rfl (Vb.box ?_) ?_ | refine VH.cons rfl rfl (Vb.arr ?_) ?_ | exact vws_dm _ | refine Vws.cons ?_ ?_ | exact Vw.d _ | exact Vw.p rfl | exact Vw.h rfl | exact Vw.e rfl | exact Vw.s rfl | exact Vw.q _ | refine Vw.a ?_ | refine Vw.t ?_ | exact Vw.nil | exact Vw.fh rfl rfl (vws_dm _) | exact Vw.un _))) ?_ ⟨i + 1, τ, rfl, ?_, rfl⟩
    · omega
    · omega
  · exact wk_own [(0, 0)] rfl (by first | exact trivial | exact resT_cell rfl rfl (by exact inferInstance) trivial) rfl (by first | exact Vw.nil | exact Vw.d _ | (repeat (first | exact Vws.nil | apply Vws.cons | exact Vw.nil | exact Vw.d _ | apply Vw.a | apply Vw.t | exact Vw.fh rfl rfl (vws_dm _) | exact Vw.fh rfl rfl Vws.nil | exact Vw.h rfl)); done) (by exact VH.cons rfl rfl vb_tpb VH.nil) ⟨_, _, by (exact contains_lo h0), rfl, rfl⟩, fun _ _ => rfl⟩
instance rowsIn_tc (ak bk : ByteArray) (ax bx : Bool) (n : Int) : Tc Tryd.prog 47 [.a [vS ak, vB ax, vS bk, vB bx], vI n] (0 ≤ n ∧ n ≤ 1000) (fun l => .d (rows l)) (fun l => tvalid l = true ∧ (l.length : Int) ≤ n) := ⟨fun h0 τ => by
  refine Spec.intro Tryd.func47 rfl rfl Tryd.ntmps47 Tryd.results47 rfl fun B w0 ρ0 => ?_; simp only [slots, List.map_nil, List.map_cons, Nat.reduceAdd]
  (repeat' (first | refine sw ?_ | (refine swt ?_; intro x τ hx) | (refine sp ?_ ?_ <;> (intro h; (first | (have h2 : (_ : Bool) = _ := h; clear h2; subst h) | skip); (try simp only [decide_eq_true_eq, decide_eq_false_iff_not, Bool.not_eq_true', Bool.not_eq_false', Kv.eta, Bnd.eta, Rng.eta, tn_sub1] at h); (first | (have h2 : (_ : Bool) = _ := h; clear h2; subst h) | skip))) | fail))
  · exact wk_own [(0, 0)] rfl (by first | exact trivial | exact resT_cell rfl rfl (by exact inferInstance) trivial) rfl (by first | exact Vw.nil | exact Vw.d _ | (repeat (first | exact Vws.nil | apply Vws.cons | exact Vw.nil | exact Vw.d _ | apply Vw.a | apply Vw.t | exact Vw.fh rfl rfl (vws_dm _) | exact Vw.fh rfl rfl Vws.nil | exact Vw.h rfl)); done) (by exact VH.cons rfl rfl vb_tpb VH.nil) ⟨[], _, by (exact ⟨by kernel_rfl, by simp; omega⟩), rfl, rfl⟩
  refine wc_loop (fun κ st => ∃ (i : Int) (l : List Kv) (τ : Tape), κ = i.toNat ∧ (0 ≤ i ∧ (l.length : Int) + i ≤ n ∧ tvalid l = true) ∧ st = ⟨[(0, .p 0 0), (4, .p 104 0), (7, .d (rows l)), (8, vI i)], [(0, some (tpb τ)), (104, some (.box 50 [vS ak, vB ax, vS bk, vB bx]))]⟩) ((x).toNat) ⟨[(0, .p 0 0), (4, .p 104 0), (7, .d (rows ([]))), (8, vI (x))], [(0, some (tpb (τ))), (104, some (.box 50 [vS ak, vB ax, vS bk, vB bx]))]⟩ (wk [(0, 0), (104, 104)] rfl rfl rfl rfl (by repeat (first | refine VH.cons rfl rfl vb_tpb ?_ | refine VH.cons rfl rfl (Vb.ob _) ?_ | exact VS.nil | exact VH.nil | exact Vws.nil | refine VS.cons rfl ?_ ?_ | refine VH.cons rfl rfl (Vb.box ?_) ?_ | refine VH.cons rfl rfl (Vb.arr ?_) ?_ | exact vws_dm _ | refine Vws.cons ?_ ?_ | exact Vw.d _ | exact Vw.p rfl | exact Vw.h rfl | exact Vw.e rfl | exact Vw.s rfl | exact Vw.q _ | refine Vw.a ?_ | refine Vw.t ?_ | exact Vw.nil | exact Vw.fh rfl rfl (vws_dm _) | exact Vw.un _)) (by repeat (first | refine VH.cons rfl rfl vb_tpb ?_ | refine VH.cons rfl rfl (Vb.ob _) ?_ | exact VS.nil | exact VH.nil | exact Vws.nil | refine VS.cons rfl ?_ ?_ | refine VH.cons rfl rfl (Vb.box ?_) ?_ | refine VH.cons rfl rfl (Vb.arr ?_) ?_ | exact vws_dm _ | refine Vws.cons ?_ ?_ | exact Vw.d _ | exact Vw.p rfl | exact Vw.h rfl | exact Vw.e rfl | exact Vw.s rfl | exact Vw.q _ | refine Vw.a ?_ | refine Vw.t ?_ | exact Vw.nil | exact Vw.fh rfl rfl (vws_dm _) | exact Vw.un _))) ⟨x, [], τ, rfl, ?_, rfl⟩ ?_; rotate_left; rintro κ _ ⟨i, l, τ, rfl, hP, rfl⟩; rotate_left
  · exact ⟨by omega, by simp; omega, by kernel_rfl⟩
  (repeat' (first | refine sw ?_ | (refine swt ?_; intro x τ hx) | (refine sp ?_ ?_ <;> (intro h; (first | (have h2 : (_ : Bool) = _ := h; clear h2; subst h) | skip); (try simp only [decide_eq_true_eq, decide_eq_false_iff_not, Bool.not_eq_true', Bool.not_eq_false', Kv.eta, Bnd.eta, Rng.eta, tn_sub1] at h); (first | (have h2 : (_ : Bool) = _ := h; clear h2; subst h) | skip))) | fail))
  · rename_i k _ hk
    have hvk : vk k = true := by
      simp only [contains, Bool.and_eq_true] at hk; exact hk.1.1.2
    obtain ⟨g1, g2, g3⟩ := put_valid (x := ⟨k, x⟩) hP.2.2 (by simp [vrow, hvk]; omega) (by omega)
    refine wk_loop_n ((i - 1).toNat) (st' := ⟨[(0, .p 0 0), (4, .p 104 0), (7, .d (rows ((put ⟨k, x⟩ l).1))), (8, vI (i - 1))], [(0, some (tpb (τ))), (104, some (.box 50 [vS ak, vB ax, vS bk, vB bx]))]⟩) (wk [(0, 0), (104, 104)] rfl rfl rfl rfl (by repeat (first | refine VH.cons rfl rfl vb_tpb ?_ | refine VH.cons rfl rfl (Vb.ob _) ?_ | exact VS.nil | exact VH.nil | exact Vws.nil | refine VS.cons rfl ?_ ?_ | refine VH.cons rfl rfl (Vb.box ?_) ?_ | refine VH.cons rfl rfl (Vb.arr ?_) ?_ | exact vws_dm _ | refine Vws.cons ?_ ?_ | exact Vw.d _ | exact Vw.p rfl | exact Vw.h rfl | exact Vw.e rfl | exact Vw.s rfl | exact Vw.q _ | refine Vw.a ?_ | refine Vw.t ?_ | exact Vw.nil | exact Vw.fh rfl rfl (vws_dm _) | exact Vw.un _)) (by repeat (first | refine VH.cons rfl rfl vb_tpb ?_ | refine VH.cons rfl rfl (Vb.ob _) ?_ | exact VS.nil | exact VH.nil | exact Vws.nil | refine VS.cons rfl ?_ ?_ | refine VH.cons rfl rfl (Vb.box ?_) ?_ | refine VH.cons rfl rfl (Vb.arr ?_) ?_ | exact vws_dm _ | refine Vws.cons ?_ ?_ | exact Vw.d _ | exact Vw.p rfl | exact Vw.h rfl | exact Vw.e rfl | exact Vw.s rfl | exact Vw.q _ | refine Vw.a ?_ | refine Vw.t ?_ | exact Vw.nil | exact Vw.fh rfl rfl (vws_dm _) | exact Vw.un _))) ?_ ⟨i - 1, (put ⟨k, x⟩ l).1, τ, rfl, ?_, rfl⟩
    · omega
    · rw [g1]; exact ⟨by omega, by simp only; omega, g2⟩
  · exact wk_own [(0, 0)] rfl (by first | exact trivial | exact resT_cell rfl rfl (by exact inferInstance) trivial) rfl (by first | exact Vw.nil | exact Vw.d _ | (repeat (first | exact Vws.nil | apply Vws.cons | exact Vw.nil | exact Vw.d _ | apply Vw.a | apply Vw.t | exact Vw.fh rfl rfl (vws_dm _) | exact Vw.fh rfl rfl Vws.nil | exact Vw.h rfl)); done) (by exact VH.cons rfl rfl vb_tpb VH.nil) ⟨_, _, by (exact ⟨hP.2.2, by omega⟩), rfl, rfl⟩, fun _ _ => rfl⟩
instance rows_tc (n : Int) : Tc Tryd.prog 16 [vI n] (0 ≤ n ∧ n ≤ 1000) (fun l => .d (rows l)) (fun l => tvalid l = true ∧ (l.length : Int) ≤ n) := ⟨fun h0 τ => by
  refine Spec.intro Tryd.func16 rfl rfl Tryd.ntmps16 Tryd.results16 rfl fun B w0 ρ0 => ?_; simp only [slots, List.map_nil, List.map_cons, Nat.reduceAdd]
  (repeat' (first | refine sw ?_ | (refine swt ?_; intro x τ hx) | (refine sp ?_ ?_ <;> (intro h; (first | (have h2 : (_ : Bool) = _ := h; clear h2; subst h) | skip); (try simp only [decide_eq_true_eq, decide_eq_false_iff_not, Bool.not_eq_true', Bool.not_eq_false', Kv.eta, Bnd.eta, Rng.eta, tn_sub1] at h); (first | (have h2 : (_ : Bool) = _ := h; clear h2; subst h) | skip))) | fail))
  exact wk_own [(0, 0)] rfl (by first | exact trivial | exact resT_cell rfl rfl (by exact inferInstance) trivial) rfl (by first | exact Vw.nil | exact Vw.d _ | (repeat (first | exact Vws.nil | apply Vws.cons | exact Vw.nil | exact Vw.d _ | apply Vw.a | apply Vw.t | exact Vw.fh rfl rfl (vws_dm _) | exact Vw.fh rfl rfl Vws.nil | exact Vw.h rfl)); done) (by exact VH.cons rfl rfl vb_tpb VH.nil) ⟨_, _, by assumption, rfl, rfl⟩, fun _ _ => rfl⟩
end Go.Proofs.YtjnnkpkbgdknmaaDoor
namespace Go.Proofs.YtjnnkpkbgdknmaaDoor
set_option linter.unusedSimpArgs false
set_option linter.unusedVariables false
open Go.RowKit
theorem eq_ref20_without_l1 (k : ByteArray) : ∀ (t out : List Kv), t.length + out.length ≤ 4294967296 → Mref20_without_l1 k t out = some (out ++ wthout k t)
  | [], out, _ => by simp [Mref20_without_l1, wthout]
  | x :: t, out, h => by
    simp only [List.length_cons] at h
    rw [Mref20_without_l1.eq_2, sel_ite]
    by_cases hk : x.key = k
    · rw [if_neg (by simp [hk]), eq_ref20_without_l1 k t out (by omega)]; simp [wthout, hk]
    · rw [if_pos (by simp [hk]), app_le (by simp; omega), obnd_some, eq_ref20_without_l1 k t _ (by simp; omega)]; simp [wthout, hk]
theorem eq_ref20_without (k : ByteArray) (t : List Kv) (h : t.length ≤ 4294967296) : Mref20_without t k = some (wthout k t) := by
  rw [Mref20_without, eq_ref20_without_l1 k t [] (by simpa using h), obnd_some]; rfl
theorem eq_ref20_with_l1 (x : Kv) : ∀ (t out : List Kv) (d : Bool), 2 * t.length + out.length + 1 ≤ 4294967296 → ∃ d', Mref20_with_l1 x t out d = some (out ++ (if d then t else (ins x t).take (t.length + d'.toNat)), d') ∧ (d = true → d' = true) ∧ (d = false → d' = false → ins x t = t ++ [x]) := by
  intro t
  induction t with
  | nil =>
    intro out d _
    exact ⟨d, by cases d <;> simp [Mref20_with_l1, ins], fun h => h, fun _ _ => rfl⟩
  | cons r t ih =>
    intro out d h
    simp only [List.length_cons] at h
    rw [Mref20_with_l1.eq_2]
    cases d with
    | true =>
      rw [show (!true) = false from rfl, sel_false, obnd_some, sel_false, app_le (by simp; omega), obnd_some]
      obtain ⟨d', e, h1, h2⟩ := ih (out ++ [r]) true (by simp; omega)
      exact ⟨d', by rw [e]; simp, h1, (fun h => by cases h)⟩
    | false =>
      rw [show (!false) = true from rfl, sel_true, obnd_some, sel_ite]
      by_cases hb : bl x.key r.key = true
      · rw [if_pos hb, app_le (by simp; omega), obnd_some, app_le (by simp; omega), obnd_some]
        obtain ⟨d', e, h1, h2⟩ := ih (out ++ [x] ++ [r]) true (by simp; omega)
        obtain rfl := h1 rfl
        exact ⟨true, by rw [e]; simp [ins, hb], fun _ => rfl, (fun _ h => by cases h)⟩
      · rw [if_neg hb, app_le (by simp; omega), obnd_some]
        obtain ⟨d', e, h1, h2⟩ := ih (out ++ [r]) false (by simp; omega)
        refine ⟨d', ?_, (fun h => by cases h), fun _ h3 => ?_⟩
        · rw [e]; simp [ins, hb, Nat.add_right_comm]
        · simp [ins, hb, h2 rfl h3]
theorem eq_ref20_with (x : Kv) (t : List Kv) (h : 2 * t.length + 10 ≤ 4294967296) : Mref20_with t x = some (wth x t) := by
  have hw : (wthout x.key t).length ≤ t.length := List.length_filter_le _ _
  rw [Mref20_with, eq_ref20_without _ _ (by omega), obnd_some]
  obtain ⟨d', e, h1, h2⟩ := eq_ref20_with_l1 x (wthout x.key t) [] false (by simp; omega)
  rw [e, obnd_some]
  cases d' with
  | true =>
    simp only [Bool.not_true, sel_false, Bool.false_eq_true, if_false, List.nil_append, wth]
    rw [List.take_of_length_le (by rw [ins_len]; simp)]
  | false =>
    simp only [Bool.not_false, sel_true, Bool.false_eq_true, if_false, List.nil_append]
    have hi := h2 rfl rfl
    rw [hi]
    rw [app_le (by simp; omega), obnd_some, wth, hi]
    simp
theorem okAt_cons (t : List Kv) (m : Nat) (r : Kv) (h : t[m]? = some r) : okAt t m = (vrow r && (m == 0 || match t[m - 1]? with | some x => bl x.key r.key | none => false)) := by
  have h2 := (List.getElem?_eq_some_iff.1 h)
  obtain ⟨h3, rfl⟩ := h2
  rw [okAt_eq h3]
  cases m with
  | zero => simp
  | succ m =>
    have : t[m]? = some t[m] := List.getElem?_eq_getElem (by omega)
    simp [this]
theorem drop_get {α : Type} {t xs : List α} {m : Nat} {r : α} (h : t.drop m = r :: xs) : t[m]? = some r ∧ t.drop (m + 1) = xs := by
  constructor
  · rw [← List.head?_drop, h]; rfl
  · rw [← List.tail_drop, h]; rfl
theorem range_all (n m : Nat) (f : Nat → Bool) (h : m < n) : ((List.range' m (n - m)).all f) = (f m && (List.range' (m + 1) (n - (m + 1))).all f) := by
  obtain ⟨k, rfl⟩ := Nat.exists_eq_add_of_lt h
  rw [show m + k + 1 - m = k + 1 by omega, show m + k + 1 - (m + 1) = k by omega, List.range'_succ]
  rfl
theorem eq_ref20_Valid_l1 (t : List Kv) (ht : t.length ≤ 1024) : ∀ (xs : List Kv) (m : Nat), t.drop m = xs → m ≤ t.length → Mref20_Valid_l1 t xs (m : Int) = some (sel ((List.range' m (t.length - m)).all (okAt t)) (.nxt ()) (.ret false))
  | [], m, h, hm => by
    have : t.length - m = 0 := by have := congrArg List.length h; simpa using this
    simp [Mref20_Valid_l1, this, sel_true]
  | r :: xs, m, h, hm => by
    obtain ⟨h1, h2⟩ := drop_get h
    have h3 := (List.getElem?_eq_some_iff.1 h1).1
    have ih := eq_ref20_Valid_l1 t ht xs (m + 1) h2 h3
    rw [Mref20_Valid_l1.eq_2, bnd_eq, range_all _ _ _ h3, okAt_cons t m r h1, eq_ref1_ValidKey, vrow, show (m : Int) + 1 = ((m + 1 : Nat) : Int) by omega, ih]
    have hsz : decide (64 < (r.val.size : Int)) = !decide (r.val.size ≤ 64) := by
      by_cases h : r.val.size ≤ 64
      · have : ¬ 64 < (r.val.size : Int) := by omega
        simp [h, this]
      · have : 64 < (r.val.size : Int) := by omega
        simp [h, this]
    rw [hsz]
    cases vk r.key with
    | false => rfl
    | true =>
      cases decide (r.val.size ≤ 64) with
      | false => rfl
      | true =>
        cases m with
        | zero => rfl
        | succ m =>
          have e1 : i64w (((m + 1 : Nat) : Int) - 1) = (m : Int) := by rw [i64w_id (by omega) (by omega)]; omega
          have e2 : decide ((0 : Int) < ((m + 1 : Nat) : Int)) = true := decide_eq_true (by omega)
          have e3 : t[m + 1 - 1]? = some t[m] := List.getElem?_eq_getElem (by omega)
          rw [e1, e2, e3, lget_nat, List.getElem?_eq_getElem (show m < t.length by omega), obnd_some]
          have e4 : (m + 1 == 0) = false := rfl
          rw [e4]
          simp only
          cases bl t[m].key r.key <;> rfl
theorem eq_ref20_Valid (t : List Kv) : Mref20_Valid t = some (tvalid t) := by
  unfold Mref20_Valid
  rw [sel_ite]
  by_cases h : t.length ≤ 1024
  · rw [if_neg (by simp; omega)]
    have := eq_ref20_Valid_l1 t h t 0 rfl (Nat.zero_le _)
    rw [show ((0 : Nat) : Int) = 0 from rfl] at this
    rw [this, obnd_some, tvalid, List.range_eq_range']
    simp only [Nat.sub_zero, h, decide_true, Bool.true_and]
    cases (List.range' 0 t.length).all (okAt t) <;> rfl
  · rw [if_pos (by simp; omega)]
    simp [tvalid, h]
theorem eq_ref20_Put (t : List Kv) (x : Kv) (h : t.length ≤ 100000) : Mref20_Put t x = some (put x t) := by
  unfold Mref20_Put
  simp only [eq_ref20_Valid, obnd_some, tvalid_one, put]
  cases tvalid t with
  | false => rfl
  | true =>
    cases vrow x with
    | false => rfl
    | true =>
      simp only [Bool.not_true, sel_false, obnd_some, Bool.and_self, if_true]
      rw [eq_ref20_with x t (by omega), obnd_some, sel_ite]
      by_cases hh : 1024 < (wth x t).length
      · rw [if_pos (by simp; omega), if_pos hh]
      · rw [if_neg (by simp; omega), if_neg hh]
theorem contains_vk {r : Rng} {k : ByteArray} (h : contains r k = true) : vk k = true := by
  simp only [contains, Bool.and_eq_true] at h; exact h.1.1.2
theorem keyIn_l1_ok (r : Rng) : ∀ (fuel : Nat) (l : List Int) (a i : Int), okT ⟨l, a⟩ → 0 ≤ i → i ≤ 4 → (4 - i).toNat < fuel → ∃ c, Mwld_Tape_KeyIn_l1 r fuel l a i = some c ∧ ((∃ k τ', c = .ret (k, τ') ∧ okT τ' ∧ contains r k = true) ∨ ∃ l' a', c = .nxt (l', a') ∧ okT ⟨l', a'⟩)
  | 0, _, _, _, _, _, _, h => absurd h (by omega)
  | fuel + 1, l, a, i, h, h0, h4, hf => by
    rw [Mwld_Tape_KeyIn_l1.eq_2, sel_ite]
    by_cases hi : i < 4
    · rw [if_pos (by simpa using hi), obnd_some, ocbnd_nxt]
      obtain ⟨k, τ1, e1, h1, hk⟩ := key_ok h
      rw [e1, obnd_some, bnd_eq, eq_ref1_Contains, sel_ite]
      split
      · exact ⟨_, rfl, .inl ⟨_, _, rfl, h1, by assumption⟩⟩
      · rw [i64w_id (by omega) (by omega)]
        exact keyIn_l1_ok r fuel _ _ _ h1 (by omega) (by omega) (by omega)
    · rw [if_neg (by simpa using hi), obnd_some, ocbnd_ret]
      exact ⟨_, rfl, .inr ⟨_, _, rfl, h⟩⟩
theorem keyIn_ok {τ : TTape} (h : okT τ) (r : Rng) (hr : emp r = false) : ∃ k τ', Mwld_Tape_KeyIn τ r = some (k, τ') ∧ okT τ' ∧ contains r k = true := by
  obtain ⟨c, e, hc⟩ := keyIn_l1_ok r FU τ.l τ.at_ 0 h (by omega) (by omega) (by unfold FU; omega)
  unfold Mwld_Tape_KeyIn
  rw [e, obnd_some]
  rcases hc with ⟨k, τ', rfl, h1, h2⟩ | ⟨l', a', rfl, h1⟩
  · exact ⟨_, _, rfl, h1, h2⟩
  · exact ⟨_, _, rfl, h1, contains_lo hr⟩
theorem rowsIn_l1_ok (r : Rng) (hr : emp r = false) : ∀ (fuel : Nat) (l : List Int) (a : Int) (out : List Kv) (i : Int), okT ⟨l, a⟩ → i.toNat < fuel → tvalid out = true → (∀ x ∈ out, contains r x.key = true) → (out.length : Int) + max i 0 ≤ 1000 →
    ∃ t l' a', Mwld_Tape_RowsIn_l1 r fuel l a out i = some (t, l', a') ∧ okT ⟨l', a'⟩ ∧ tvalid t = true ∧ (∀ x ∈ t, contains r x.key = true) ∧ (t.length : Int) ≤ out.length + max i 0
  | 0, _, _, _, _, _, h, _, _, _ => absurd h (by omega)
  | fuel + 1, l, a, out, i, h, hf, hv, hx, hl => by
    rw [Mwld_Tape_RowsIn_l1.eq_2, sel_ite]
    by_cases hi : 0 < i
    · rw [if_pos (by simpa using hi), obnd_some, ocbnd_nxt]
      obtain ⟨k, τ1, e1, h1, hk⟩ := keyIn_ok h r hr
      obtain ⟨v, τ2, e2, h2, hv2⟩ := value_ok h1
      rw [e1, obnd_some]; simp only; rw [e2, obnd_some]; simp only
      obtain ⟨g1, g2, g3⟩ := put_valid (x := ⟨k, v⟩) hv (by simp [vrow, contains_vk hk, hv2]) (by omega)
      rw [eq_ref20_Put _ _ (by omega), obnd_some, g1, i64w_id (by omega) (by omega)]
      have hmem : ∀ x ∈ wth ⟨k, v⟩ out, contains r x.key = true := fun x hxm => by
        rcases ins_mem.1 hxm with rfl | hxm
        · exact hk
        · exact hx x (List.mem_filter.1 hxm).1
      obtain ⟨t, l', a', e, q1, q2, q3, q4⟩ := rowsIn_l1_ok r hr fuel τ2.l τ2.at_ (wth ⟨k, v⟩ out) (i - 1) h2 (by omega) g2 hmem (by omega)
      exact ⟨t, l', a', e, q1, q2, q3, by omega⟩
    · rw [if_neg (by simpa using hi), obnd_some, ocbnd_ret]
      exact ⟨_, _, _, rfl, h, hv, hx, by omega⟩
theorem rowsIn_ok {τ : TTape} (h : okT τ) (r : Rng) (n : Int) (h0 : 0 ≤ n) (hn : n ≤ 900) : ∃ t τ', Mwld_Tape_RowsIn τ r n = some (t, τ') ∧ okT τ' ∧ tvalid t = true ∧ (∀ x ∈ t, contains r x.key = true) ∧ (t.length : Int) ≤ n := by
  unfold Mwld_Tape_RowsIn
  rw [bnd_eq, eq_ref1_Empty, sel_ite]
  split
  · exact ⟨_, _, rfl, h, by kernel_rfl, by simp, by simpa using h0⟩
  · rename_i hr
    rw [i64w_id (by omega) (by omega)]
    obtain ⟨x, τ1, e1, h1, hx⟩ := next_ok h (n + 1) (by omega)
    unfold Cho at hx
    rw [e1, obnd_some]; simp only
    obtain ⟨t, l', a', e, q1, q2, q3, q4⟩ := rowsIn_l1_ok r (by simpa using hr) FU τ1.l τ1.at_ [] x h1 (by unfold FU; omega) (by kernel_rfl) (by simp) (by simp; omega)
    rw [e, obnd_some]
    simp at q4
    exact ⟨t, _, rfl, q1, q2, q3, by omega⟩
theorem rows_ok {τ : TTape} (h : okT τ) (n : Int) (h0 : 0 ≤ n) (hn : n ≤ 900) : ∃ t τ', Mwld_Tape_Rows τ n = some (t, τ') ∧ okT τ' ∧ tvalid t = true ∧ (t.length : Int) ≤ n := by
  unfold Mwld_Tape_Rows
  obtain ⟨t, τ', e, q1, q2, -, q4⟩ := rowsIn_ok h Mwld_All n h0 hn
  rw [bnd_eq, e, obnd_some]
  exact ⟨_, _, rfl, q1, q2, q4⟩
theorem query_l1_ok : ∀ (fuel : Nat) (l : List Int) (a : Int) (q : List Rng) (i : Int), okT ⟨l, a⟩ → (i + 1).toNat < fuel → -1 ≤ i → (q.length : Int) + i ≤ 100 → (∀ r ∈ q, emp r = false) → ∃ q' l' a', Mwld_Tape_Query_l1 fuel l a q i = some (q', l', a') ∧ okT ⟨l', a'⟩ ∧ (q'.length : Int) = q.length + i + 1 ∧ ∀ r ∈ q', emp r = false
  | 0, _, _, _, _, _, h, _, _, _ => absurd h (by omega)
  | fuel + 1, l, a, q, i, h, hf, h1, hl, he => by
    rw [Mwld_Tape_Query_l1.eq_2, sel_ite]
    by_cases hi : 0 ≤ i
    · rw [if_pos (by simpa using hi), obnd_some, ocbnd_nxt]
      obtain ⟨r, τ1, e1, g1, hr⟩ := proper_ok h
      rw [e1, obnd_some, app_le (by simp; omega), obnd_some, i64w_id (by omega) (by omega)]
      obtain ⟨q', l', a', e, k1, k2, k3⟩ := query_l1_ok fuel τ1.l τ1.at_ (q ++ [r]) (i - 1) g1 (by omega) (by omega) (by simp; omega) (fun x hx => by
        rcases List.mem_append.1 hx with hx | hx
        · exact he x hx
        · rw [List.mem_singleton.1 hx]; exact hr)
      exact ⟨q', l', a', e, k1, by rw [k2]; simp; omega, k3⟩
    · rw [if_neg (by simpa using hi), obnd_some, ocbnd_ret]
      exact ⟨_, _, _, rfl, h, by omega, he⟩
def qok (q : TQuery) : Prop := qchk q.Kind q.Ranges q.Key q.Count = 0 ∧ q.Ranges.length ≤ 4 ∧ 0 ≤ q.Count ∧ q.Count ≤ 1024 ∧ q.Key.size ≤ 64
theorem query_ok {τ : TTape} (h : okT τ) : ∃ q τ', Mwld_Tape_Query τ = some (q, τ') ∧ okT τ' ∧ qok q := by
  unfold Mwld_Tape_Query
  obtain ⟨x, τ1, e1, h1, hx⟩ := next_ok h 4 (by omega)
  unfold Cho at hx
  rw [e1, obnd_some]; simp only
  rw [i64w_id (by omega) (by omega), sel_ite]
  by_cases c1 : 1 + x = 1
  · rw [if_pos (by simpa using c1)]
    obtain ⟨y, τ2, e2, h2, hy⟩ := next_ok h1 4 (by omega)
    unfold Cho at hy
    rw [e2, obnd_some]; simp only
    obtain ⟨q', l', a', e, k1, k2, k3⟩ := query_l1_ok FU τ2.l τ2.at_ [] y h2 (by unfold FU; omega) (by omega) (by simp; omega) (by simp)
    rw [e, obnd_some, obnd_some]
    simp at k2
    exact ⟨_, _, rfl, k1, by rw [c1]; exact qmade_1 (l := q') k3 (by omega)⟩
  · rw [if_neg (by simpa using c1), sel_ite]
    by_cases c2 : 1 + x = 2
    · rw [if_pos (by simpa using c2)]
      obtain ⟨k, τ2, e2, h2, hk⟩ := key_ok h1
      rw [e2, obnd_some, obnd_some]
      exact ⟨_, _, rfl, h2, by rw [c2]; exact qmade_2 hk⟩
    · rw [if_neg (by simpa using c2)]
      obtain ⟨k, τ2, e2, h2, hk⟩ := key_ok h1
      obtain ⟨c, τ3, e3, h3, hc⟩ := pick_ok h2 [1, 2, 3, 5, 1024] (by decide) (by decide)
      rw [e2, obnd_some]; simp only; rw [e3, obnd_some, obnd_some]
      exact ⟨_, _, rfl, h3, qmade_3 (k := 1 + x) (by omega) hk hc⟩
theorem oddQuery_l1_ok (y : Int × TTape) (hy : y.1 ≤ 100) : ∀ (fuel : Nat) (q : List Rng), (y.1 - q.length).toNat < fuel → q.length ≤ 100 → ∃ q', Mwld_Tape_OddQuery_l1 y fuel q = some q' ∧ q'.length ≤ 100
  | 0, _, h, _ => absurd h (by omega)
  | fuel + 1, q, h, hq => by
    rw [Mwld_Tape_OddQuery_l1.eq_2, sel_ite]
    split
    · rename_i hh
      simp only [decide_eq_true_eq] at hh
      rw [app_le (by simp; omega), obnd_some]
      exact oddQuery_l1_ok y hy fuel _ (by simp; omega) (by simp; omega)
    · exact ⟨_, rfl, hq⟩
theorem oddQuery_ok {τ : TTape} (h : okT τ) : ∃ q τ', Mwld_Tape_OddQuery τ = some (q, τ') ∧ okT τ' ∧ q.Ranges.length ≤ 100 := by
  unfold Mwld_Tape_OddQuery
  obtain ⟨q, τ1, e1, h1, hq⟩ := query_ok h
  have hq2 := hq.2.1
  obtain ⟨x, τ2, e2, h2, hx⟩ := next_ok h1 6 (by omega)
  rw [e1, obnd_some]; simp only; rw [e2, obnd_some]; simp only
  have fin : ∀ {M : Option (Int × List Rng × ByteArray × Int × List Int × Int)}, (∃ a b c d l a', M = some (a, b, c, d, l, a') ∧ okT ⟨l, a'⟩ ∧ b.length ≤ 100) → ∃ q τ', (obnd M fun (q13, q14, q15, q16, x17, x18) => some ((TQuery.mk q13 q14 q15 q16), (TTape.mk x17 x18))) = some (q, τ') ∧ okT τ' ∧ q.Ranges.length ≤ 100 := by
    rintro _ ⟨a, b, c, d, l, a', rfl, g1, g2⟩
    exact ⟨_, _, rfl, g1, g2⟩
  refine fin ?_
  rw [sel_ite]; split
  · obtain ⟨y, τ3, e3, h3, hy⟩ := pick_ok h2 [0, 5, (-1), 1, 2, 3, 4] (by decide) (by decide)
    rw [e3, obnd_some]
    exact ⟨_, _, _, _, _, _, rfl, h3, by omega⟩
  rw [sel_ite]; split
  · obtain ⟨y, τ3, e3, h3, hy⟩ := oddKey_ok h2
    rw [e3, obnd_some]
    exact ⟨_, _, _, _, _, _, rfl, h3, by omega⟩
  rw [sel_ite]; split
  · obtain ⟨y, τ3, e3, h3, hy⟩ := pick_ok h2 [0, (-1), 1024, 1025, 1] (by decide) (by decide)
    rw [e3, obnd_some]
    exact ⟨_, _, _, _, _, _, rfl, h3, by omega⟩
  rw [sel_ite]; split
  · obtain ⟨y, τ3, e3, h3, -⟩ := range_ok h2
    rw [e3, obnd_some, app_le (by simp; omega), obnd_some]
    exact ⟨_, _, _, _, _, _, rfl, h3, by simp; omega⟩
  rw [sel_ite]; split
  · obtain ⟨y, τ3, e3, h3, hy⟩ := pick_ok h2 [64, 65] (by decide) (by decide)
    have hy' : y = 64 ∨ y = 65 := by simpa using hy
    rw [e3, obnd_some]
    obtain ⟨q', e, hq'⟩ := oddQuery_l1_ok (y, τ3) (by simp only; omega) FU q.Ranges (by unfold FU; simp only; omega) (by omega)
    rw [e, obnd_some]
    exact ⟨_, _, _, _, _, _, rfl, h3, hq'⟩
  · exact ⟨_, _, _, _, _, _, rfl, h2, by omega⟩
end Go.Proofs.YtjnnkpkbgdknmaaDoor
namespace Go.Proofs.YtjnnkpkbgdknmaaDoor
set_option linter.unusedSimpArgs false
set_option linter.unusedVariables false
open Go.RowKit
def dval (d : ByteArray) : Nat → Nat
  | 0 => 0
  | k + 1 => dval d k * 10 + ((d.get! k).toNat - 48)
def isD (d : ByteArray) (k : Nat) : Prop := 48 ≤ (d.get! k).toNat ∧ (d.get! k).toNat ≤ 57
def allD (d : ByteArray) : Prop := ∀ k, k < d.size → isD d k
def badN (mn : Bool) (d : ByteArray) : Prop := d.size = 0 ∨ 13 < d.size ∨ ((d.get! 0).toNat = 48 ∧ (1 < d.size ∨ mn = true)) ∨ ¬ allD d ∨ 1000000000000 < dval d d.size
open Classical in
noncomputable def numD (mn : Bool) (d : ByteArray) : Int × Bool :=
  if badN mn d then (0, false) else (if mn then - (dval d d.size : Int) else dval d d.size, true)
noncomputable def num (s : ByteArray) : Int × Bool := if 1 < s.size ∧ (s.get! 0).toNat = 45 then numD true (s.extract 1 s.size) else numD false s
theorem numD_f {mn : Bool} {d : ByteArray} (h : badN mn d) : numD mn d = (0, false) := if_pos h
theorem numD_t {mn : Bool} {d : ByteArray} (h : ¬ badN mn d) : numD mn d = (if mn then - (dval d d.size : Int) else dval d d.size, true) := if_neg h
theorem dval_lt {d : ByteArray} : ∀ {k : Nat}, (∀ j, j < k → isD d j) → dval d k < 10 ^ k
  | 0, _ => by simp [dval]
  | k + 1, h => by
    have h1 := dval_lt (k := k) fun j hj => h j (by omega)
    have h2 := h k (by omega)
    unfold isD at h2
    rw [dval, Nat.pow_succ]; omega
theorem dval_mono {d : ByteArray} {k m : Nat} (h : k ≤ m) : dval d k ≤ dval d m := by
  induction m with
  | zero => rw [Nat.le_zero.1 h]; exact Nat.le_refl _
  | succ m ih =>
    rcases Nat.lt_or_ge k (m + 1) with h1 | h1
    · have := ih (by omega); rw [dval]; omega
    · rw [show k = m + 1 by omega]; exact Nat.le_refl _
theorem dval_big {d : ByteArray} (h0 : 49 ≤ (d.get! 0).toNat) : ∀ {k : Nat}, 10 ^ k ≤ dval d (k + 1)
  | 0 => by simp [dval]; omega
  | k + 1 => by
    have := dval_big h0 (k := k)
    rw [dval, Nat.pow_succ]; omega
theorem dval_13 {d : ByteArray} {k : Nat} (h : ∀ j, j < k → isD d j) (hk : k ≤ 13) : dval d k < 10000000000000 := by
  have h1 := dval_lt h
  have h2 : 10 ^ k ≤ 10 ^ 13 := Nat.pow_le_pow_right (by decide) hk
  omega
theorem tn0 : Int.toNat 0 = 0 := rfl
theorem tn1 : Int.toNat 1 = 1 := rfl
theorem tnc (n : Nat) : Int.toNat (n : Int) = n := by omega
theorem badN_1 {mn : Bool} {d : ByteArray} (h : d.size = 0) : badN mn d := .inl h
theorem badN_2 {mn : Bool} {d : ByteArray} (h : 13 < d.size) : badN mn d := .inr (.inl h)
theorem badN_3 {mn : Bool} {d : ByteArray} (h : (d.get! 0).toNat = 48) (h1 : 1 < d.size) : badN mn d := .inr (.inr (.inl ⟨h, .inl h1⟩))
theorem badN_3t {d : ByteArray} (h : (d.get! 0).toNat = 48) : badN true d := .inr (.inr (.inl ⟨h, .inr rfl⟩))
theorem badN_4 {mn : Bool} {d : ByteArray} (k : Nat) (h : k < d.size) (h1 : ¬ isD d k) : badN mn d := .inr (.inr (.inr (.inl fun h2 => h1 (h2 k h))))
theorem badN_5 {mn : Bool} {d : ByteArray} (h : 1000000000000 < dval d d.size) : badN mn d := .inr (.inr (.inr (.inr h)))
theorem get_lt (d : ByteArray) (m : Nat) : (d.get! m).toNat < 256 := (d.get! m).toNat_lt
abbrev vN (r : Int × Bool) : V := .t [vI r.1, vB r.2]
attribute [local irreducible] WK WC WL Wk Rel OpD OpV WD WO Op.bytesLess cmp vk vb vld emp contains
attribute [local irreducible] numD num
theorem good_num {mn : Bool} {d : ByteArray} (h1 : d.size ≠ 0) (h2 : d.size ≤ 13) (h3 : (d.get! 0).toNat = 48 → d.size ≤ 1 ∧ mn = false) (h4 : ∀ j, j < d.size → isD d j) (h5 : dval d d.size ≤ 1000000000000) : ¬ badN mn d := by
  rintro (h | h | ⟨h, h'⟩ | h | h)
  · exact h1 h
  · omega
  · obtain ⟨g1, g2⟩ := h3 h
    rcases h' with h' | h'
    · omega
    · rw [g2] at h'; cases h'
  · exact h h4
  · omega
set_option maxHeartbeats 4000000 in
instance num_r (s : ByteArray) : Ct Tryd.prog 91 [vS s] (s.size ≤ 1000) (vN (num s)) := ⟨fun hs => by
  by_cases hm : 1 < s.size ∧ (s.get! 0).toNat = 45
  · have hn : num s = numD true (s.extract 1 s.size) := by unfold num; exact if_pos hm
    have hsz : (s.extract 1 s.size).size = s.size - 1 := by simp [ByteArray.size_extract]
    refine Spec.intro Tryd.func91 rfl rfl Tryd.ntmps91 Tryd.results91 rfl fun B w0 ρ0 => ?_; simp only [slots, List.map_nil, List.map_cons, Nat.reduceAdd]
    (repeat' (first | refine sw ?_ | (refine swt ?_; intro x τ hx) | (refine sp ?_ ?_ <;> (intro h; (first | (have h2 : (_ : Bool) = _ := h; clear h2; subst h) | skip); (try simp only [decide_eq_true_eq, decide_eq_false_iff_not, Bool.not_eq_true', Bool.not_eq_false', Kv.eta, Bnd.eta, Rng.eta, tn_sub1] at h); (first | (have h2 : (_ : Bool) = _ := h; clear h2; subst h) | skip))) | fail))
    all_goals (try simp only [tn0, tn1, tnc] at *)
    all_goals (try (exfalso; omega))
    all_goals (generalize hd : s.extract 1 s.size = d at *)
    all_goals (try ((first | refine wk_pure rfl (by first | exact trivial | exact resT_cell rfl rfl (by exact inferInstance) trivial) rfl (by first | exact Vw.fmp rfl rfl rfl | exact Vw.nil | exact Vw.d _ | (repeat (first | exact Vws.nil | apply Vws.cons | exact Vw.nil | exact Vw.d _ | apply Vw.a | apply Vw.t | exact Vw.fh rfl rfl (vws_dm _) | exact Vw.fh rfl rfl Vws.nil)); done) ?_ | refine wk_pure_n rfl (by first | exact trivial | exact resT_cell rfl rfl (by exact inferInstance) trivial) rfl (by first | exact Vw.fmp rfl rfl rfl | exact Vw.nil | exact Vw.d _ | (repeat (first | exact Vws.nil | apply Vws.cons | exact Vw.nil | exact Vw.d _ | apply Vw.a | apply Vw.t | exact Vw.fh rfl rfl (vws_dm _) | exact Vw.fh rfl rfl Vws.nil)); done) ?_); refine ⟨?_, rfl⟩; rw [hn, numD_f (by first | exact badN_1 (by omega) | exact badN_2 (by omega) | exact badN_3 (by omega) (by omega) | exact badN_3t (by omega))]; done))
    all_goals (
      refine wc_loop (fun κ st => ∃ (m : Nat), κ = d.size - m ∧ (m ≤ d.size ∧ ∀ j, j < m → isD d j) ∧ st = ⟨[(4, vS d), (5, vB true), (6, vI (dval d m)), (7, vI (m : Int))], []⟩) (d.size - (0)) ⟨[(4, vS d), (5, vB true), (6, vI (dval d (0))), (7, vI ((0) : Int))], []⟩ (wk [] rfl rfl rfl rfl (by repeat (first | refine VH.cons rfl rfl vb_tpb ?_ | refine VH.cons rfl rfl (Vb.ob _) ?_ | exact VS.nil | exact VH.nil | exact Vws.nil | refine VS.cons rfl ?_ ?_ | refine VH.cons rfl rfl (Vb.box ?_) ?_ | refine VH.cons rfl rfl (Vb.arr ?_) ?_ | exact vws_dm _ | refine Vws.cons ?_ ?_ | exact Vw.d _ | exact Vw.p rfl | exact Vw.h rfl | exact Vw.e rfl | exact Vw.s rfl | exact Vw.q _ | refine Vw.a ?_ | refine Vw.t ?_ | exact Vw.nil | exact Vw.fh rfl rfl (vws_dm _) | exact Vw.un _)) (by repeat (first | refine VH.cons rfl rfl vb_tpb ?_ | refine VH.cons rfl rfl (Vb.ob _) ?_ | exact VS.nil | exact VH.nil | exact Vws.nil | refine VS.cons rfl ?_ ?_ | refine VH.cons rfl rfl (Vb.box ?_) ?_ | refine VH.cons rfl rfl (Vb.arr ?_) ?_ | exact vws_dm _ | refine Vws.cons ?_ ?_ | exact Vw.d _ | exact Vw.p rfl | exact Vw.h rfl | exact Vw.e rfl | exact Vw.s rfl | exact Vw.q _ | refine Vw.a ?_ | refine Vw.t ?_ | exact Vw.nil | exact Vw.fh rfl rfl (vws_dm _) | exact Vw.un _))) ⟨0, rfl, ?_, rfl⟩ ?_; rotate_left; rintro κ _ ⟨m, rfl, hP, rfl⟩; rotate_left
      · exact ⟨by omega, fun j h => by omega⟩
      obtain ⟨hm1, hP⟩ := hP
      have hv := dval_13 hP (by omega)
      have hb := get_lt d m
      have hdv : dval d (m + 1) = dval d m * 10 + ((d.get! m).toNat - 48) := rfl
      (repeat' (first | refine sw ?_ | (refine swt ?_; intro x τ hx) | (refine sp ?_ ?_ <;> (intro h; (first | (have h2 : (_ : Bool) = _ := h; clear h2; subst h) | skip); (try simp only [decide_eq_true_eq, decide_eq_false_iff_not, Bool.not_eq_true', Bool.not_eq_false', Kv.eta, Bnd.eta, Rng.eta, tn_sub1] at h); (first | (have h2 : (_ : Bool) = _ := h; clear h2; subst h) | skip))) | fail))
      all_goals (try simp only [tn0, tn1, tnc] at *)
      all_goals first
        | ((first | refine wk_pure rfl (by first | exact trivial | exact resT_cell rfl rfl (by exact inferInstance) trivial) rfl (by first | exact Vw.fmp rfl rfl rfl | exact Vw.nil | exact Vw.d _ | (repeat (first | exact Vws.nil | apply Vws.cons | exact Vw.nil | exact Vw.d _ | apply Vw.a | apply Vw.t | exact Vw.fh rfl rfl (vws_dm _) | exact Vw.fh rfl rfl Vws.nil)); done) ?_ | refine wk_pure_n rfl (by first | exact trivial | exact resT_cell rfl rfl (by exact inferInstance) trivial) rfl (by first | exact Vw.fmp rfl rfl rfl | exact Vw.nil | exact Vw.d _ | (repeat (first | exact Vws.nil | apply Vws.cons | exact Vw.nil | exact Vw.d _ | apply Vw.a | apply Vw.t | exact Vw.fh rfl rfl (vws_dm _) | exact Vw.fh rfl rfl Vws.nil)); done) ?_); refine ⟨?_, rfl⟩; rw [hn, numD_f (badN_4 m (by omega) (by unfold isD; omega))]; done)
        | (rw [show (10 * (dval d m : Int) + (((d.get! m).toNat : Int) - 48)) = ((dval d (m + 1) : Nat) : Int) by omega]; refine wk_loop_n (d.size - (m + 1)) (st' := ⟨[(4, vS d), (5, vB true), (6, vI (dval d (m + 1))), (7, vI ((m + 1) : Int))], []⟩) (wk [] rfl rfl rfl rfl (by repeat (first | refine VH.cons rfl rfl vb_tpb ?_ | refine VH.cons rfl rfl (Vb.ob _) ?_ | exact VS.nil | exact VH.nil | exact Vws.nil | refine VS.cons rfl ?_ ?_ | refine VH.cons rfl rfl (Vb.box ?_) ?_ | refine VH.cons rfl rfl (Vb.arr ?_) ?_ | exact vws_dm _ | refine Vws.cons ?_ ?_ | exact Vw.d _ | exact Vw.p rfl | exact Vw.h rfl | exact Vw.e rfl | exact Vw.s rfl | exact Vw.q _ | refine Vw.a ?_ | refine Vw.t ?_ | exact Vw.nil | exact Vw.fh rfl rfl (vws_dm _) | exact Vw.un _)) (by repeat (first | refine VH.cons rfl rfl vb_tpb ?_ | refine VH.cons rfl rfl (Vb.ob _) ?_ | exact VS.nil | exact VH.nil | exact Vws.nil | refine VS.cons rfl ?_ ?_ | refine VH.cons rfl rfl (Vb.box ?_) ?_ | refine VH.cons rfl rfl (Vb.arr ?_) ?_ | exact vws_dm _ | refine Vws.cons ?_ ?_ | exact Vw.d _ | exact Vw.p rfl | exact Vw.h rfl | exact Vw.e rfl | exact Vw.s rfl | exact Vw.q _ | refine Vw.a ?_ | refine Vw.t ?_ | exact Vw.nil | exact Vw.fh rfl rfl (vws_dm _) | exact Vw.un _))) ?_ ⟨m + 1, rfl, ?_, rfl⟩ <;> first | omega | (refine ⟨by omega, fun j hj => ?_⟩; rcases Nat.lt_or_ge j m with h1 | h1 <;> first | exact hP j h1 | (rw [show j = m by omega]; unfold isD; omega)))
        | (obtain rfl : m = d.size := by omega
           (first | refine wk_pure rfl (by first | exact trivial | exact resT_cell rfl rfl (by exact inferInstance) trivial) rfl (by first | exact Vw.fmp rfl rfl rfl | exact Vw.nil | exact Vw.d _ | (repeat (first | exact Vws.nil | apply Vws.cons | exact Vw.nil | exact Vw.d _ | apply Vw.a | apply Vw.t | exact Vw.fh rfl rfl (vws_dm _) | exact Vw.fh rfl rfl Vws.nil)); done) ?_ | refine wk_pure_n rfl (by first | exact trivial | exact resT_cell rfl rfl (by exact inferInstance) trivial) rfl (by first | exact Vw.fmp rfl rfl rfl | exact Vw.nil | exact Vw.d _ | (repeat (first | exact Vws.nil | apply Vws.cons | exact Vw.nil | exact Vw.d _ | apply Vw.a | apply Vw.t | exact Vw.fh rfl rfl (vws_dm _) | exact Vw.fh rfl rfl Vws.nil)); done) ?_); refine ⟨?_, rfl⟩
           first
             | (rw [hn, numD_f (badN_5 (by omega))]; done)
             | (rw [hn, numD_t (good_num (by omega) (by omega) (fun hg => by first | (exfalso; omega) | exact ⟨by omega, rfl⟩) hP (by omega))]; rfl)))
  · have hn : num s = numD false s := by unfold num; exact if_neg hm
    refine Spec.intro Tryd.func91 rfl rfl Tryd.ntmps91 Tryd.results91 rfl fun B w0 ρ0 => ?_; simp only [slots, List.map_nil, List.map_cons, Nat.reduceAdd]
    (repeat' (first | refine sw ?_ | (refine swt ?_; intro x τ hx) | (refine sp ?_ ?_ <;> (intro h; (first | (have h2 : (_ : Bool) = _ := h; clear h2; subst h) | skip); (try simp only [decide_eq_true_eq, decide_eq_false_iff_not, Bool.not_eq_true', Bool.not_eq_false', Kv.eta, Bnd.eta, Rng.eta, tn_sub1] at h); (first | (have h2 : (_ : Bool) = _ := h; clear h2; subst h) | skip))) | fail))
    all_goals (try simp only [tn0, tn1, tnc] at *)
    all_goals (try (exfalso; omega))
    all_goals (generalize hd : s = d at *)
    all_goals (try ((first | refine wk_pure rfl (by first | exact trivial | exact resT_cell rfl rfl (by exact inferInstance) trivial) rfl (by first | exact Vw.fmp rfl rfl rfl | exact Vw.nil | exact Vw.d _ | (repeat (first | exact Vws.nil | apply Vws.cons | exact Vw.nil | exact Vw.d _ | apply Vw.a | apply Vw.t | exact Vw.fh rfl rfl (vws_dm _) | exact Vw.fh rfl rfl Vws.nil)); done) ?_ | refine wk_pure_n rfl (by first | exact trivial | exact resT_cell rfl rfl (by exact inferInstance) trivial) rfl (by first | exact Vw.fmp rfl rfl rfl | exact Vw.nil | exact Vw.d _ | (repeat (first | exact Vws.nil | apply Vws.cons | exact Vw.nil | exact Vw.d _ | apply Vw.a | apply Vw.t | exact Vw.fh rfl rfl (vws_dm _) | exact Vw.fh rfl rfl Vws.nil)); done) ?_); refine ⟨?_, rfl⟩; rw [hn, numD_f (by first | exact badN_1 (by omega) | exact badN_2 (by omega) | exact badN_3 (by omega) (by omega) | exact badN_3t (by omega))]; done))
    all_goals (
      refine wc_loop (fun κ st => ∃ (m : Nat), κ = d.size - m ∧ (m ≤ d.size ∧ ∀ j, j < m → isD d j) ∧ st = ⟨[(4, vS d), (5, vB false), (6, vI (dval d m)), (7, vI (m : Int))], []⟩) (d.size - (0)) ⟨[(4, vS d), (5, vB false), (6, vI (dval d (0))), (7, vI ((0) : Int))], []⟩ (wk [] rfl rfl rfl rfl (by repeat (first | refine VH.cons rfl rfl vb_tpb ?_ | refine VH.cons rfl rfl (Vb.ob _) ?_ | exact VS.nil | exact VH.nil | exact Vws.nil | refine VS.cons rfl ?_ ?_ | refine VH.cons rfl rfl (Vb.box ?_) ?_ | refine VH.cons rfl rfl (Vb.arr ?_) ?_ | exact vws_dm _ | refine Vws.cons ?_ ?_ | exact Vw.d _ | exact Vw.p rfl | exact Vw.h rfl | exact Vw.e rfl | exact Vw.s rfl | exact Vw.q _ | refine Vw.a ?_ | refine Vw.t ?_ | exact Vw.nil | exact Vw.fh rfl rfl (vws_dm _) | exact Vw.un _)) (by repeat (first | refine VH.cons rfl rfl vb_tpb ?_ | refine VH.cons rfl rfl (Vb.ob _) ?_ | exact VS.nil | exact VH.nil | exact Vws.nil | refine VS.cons rfl ?_ ?_ | refine VH.cons rfl rfl (Vb.box ?_) ?_ | refine VH.cons rfl rfl (Vb.arr ?_) ?_ | exact vws_dm _ | refine Vws.cons ?_ ?_ | exact Vw.d _ | exact Vw.p rfl | exact Vw.h rfl | exact Vw.e rfl | exact Vw.s rfl | exact Vw.q _ | refine Vw.a ?_ | refine Vw.t ?_ | exact Vw.nil | exact Vw.fh rfl rfl (vws_dm _) | exact Vw.un _))) ⟨0, rfl, ?_, rfl⟩ ?_; rotate_left; rintro κ _ ⟨m, rfl, hP, rfl⟩; rotate_left
      · exact ⟨by omega, fun j h => by omega⟩
      obtain ⟨hm1, hP⟩ := hP
      have hv := dval_13 hP (by omega)
      have hb := get_lt d m
      have hdv : dval d (m + 1) = dval d m * 10 + ((d.get! m).toNat - 48) := rfl
      (repeat' (first | refine sw ?_ | (refine swt ?_; intro x τ hx) | (refine sp ?_ ?_ <;> (intro h; (first | (have h2 : (_ : Bool) = _ := h; clear h2; subst h) | skip); (try simp only [decide_eq_true_eq, decide_eq_false_iff_not, Bool.not_eq_true', Bool.not_eq_false', Kv.eta, Bnd.eta, Rng.eta, tn_sub1] at h); (first | (have h2 : (_ : Bool) = _ := h; clear h2; subst h) | skip))) | fail))
      all_goals (try simp only [tn0, tn1, tnc] at *)
      all_goals first
        | ((first | refine wk_pure rfl (by first | exact trivial | exact resT_cell rfl rfl (by exact inferInstance) trivial) rfl (by first | exact Vw.fmp rfl rfl rfl | exact Vw.nil | exact Vw.d _ | (repeat (first | exact Vws.nil | apply Vws.cons | exact Vw.nil | exact Vw.d _ | apply Vw.a | apply Vw.t | exact Vw.fh rfl rfl (vws_dm _) | exact Vw.fh rfl rfl Vws.nil)); done) ?_ | refine wk_pure_n rfl (by first | exact trivial | exact resT_cell rfl rfl (by exact inferInstance) trivial) rfl (by first | exact Vw.fmp rfl rfl rfl | exact Vw.nil | exact Vw.d _ | (repeat (first | exact Vws.nil | apply Vws.cons | exact Vw.nil | exact Vw.d _ | apply Vw.a | apply Vw.t | exact Vw.fh rfl rfl (vws_dm _) | exact Vw.fh rfl rfl Vws.nil)); done) ?_); refine ⟨?_, rfl⟩; rw [hn, numD_f (badN_4 m (by omega) (by unfold isD; omega))]; done)
        | (rw [show (10 * (dval d m : Int) + (((d.get! m).toNat : Int) - 48)) = ((dval d (m + 1) : Nat) : Int) by omega]; refine wk_loop_n (d.size - (m + 1)) (st' := ⟨[(4, vS d), (5, vB false), (6, vI (dval d (m + 1))), (7, vI ((m + 1) : Int))], []⟩) (wk [] rfl rfl rfl rfl (by repeat (first | refine VH.cons rfl rfl vb_tpb ?_ | refine VH.cons rfl rfl (Vb.ob _) ?_ | exact VS.nil | exact VH.nil | exact Vws.nil | refine VS.cons rfl ?_ ?_ | refine VH.cons rfl rfl (Vb.box ?_) ?_ | refine VH.cons rfl rfl (Vb.arr ?_) ?_ | exact vws_dm _ | refine Vws.cons ?_ ?_ | exact Vw.d _ | exact Vw.p rfl | exact Vw.h rfl | exact Vw.e rfl | exact Vw.s rfl | exact Vw.q _ | refine Vw.a ?_ | refine Vw.t ?_ | exact Vw.nil | exact Vw.fh rfl rfl (vws_dm _) | exact Vw.un _)) (by repeat (first | refine VH.cons rfl rfl vb_tpb ?_ | refine VH.cons rfl rfl (Vb.ob _) ?_ | exact VS.nil | exact VH.nil | exact Vws.nil | refine VS.cons rfl ?_ ?_ | refine VH.cons rfl rfl (Vb.box ?_) ?_ | refine VH.cons rfl rfl (Vb.arr ?_) ?_ | exact vws_dm _ | refine Vws.cons ?_ ?_ | exact Vw.d _ | exact Vw.p rfl | exact Vw.h rfl | exact Vw.e rfl | exact Vw.s rfl | exact Vw.q _ | refine Vw.a ?_ | refine Vw.t ?_ | exact Vw.nil | exact Vw.fh rfl rfl (vws_dm _) | exact Vw.un _))) ?_ ⟨m + 1, rfl, ?_, rfl⟩ <;> first | omega | (refine ⟨by omega, fun j hj => ?_⟩; rcases Nat.lt_or_ge j m with h1 | h1 <;> first | exact hP j h1 | (rw [show j = m by omega]; unfold isD; omega)))
        | (obtain rfl : m = d.size := by omega
           (first | refine wk_pure rfl (by first | exact trivial | exact resT_cell rfl rfl (by exact inferInstance) trivial) rfl (by first | exact Vw.fmp rfl rfl rfl | exact Vw.nil | exact Vw.d _ | (repeat (first | exact Vws.nil | apply Vws.cons | exact Vw.nil | exact Vw.d _ | apply Vw.a | apply Vw.t | exact Vw.fh rfl rfl (vws_dm _) | exact Vw.fh rfl rfl Vws.nil)); done) ?_ | refine wk_pure_n rfl (by first | exact trivial | exact resT_cell rfl rfl (by exact inferInstance) trivial) rfl (by first | exact Vw.fmp rfl rfl rfl | exact Vw.nil | exact Vw.d _ | (repeat (first | exact Vws.nil | apply Vws.cons | exact Vw.nil | exact Vw.d _ | apply Vw.a | apply Vw.t | exact Vw.fh rfl rfl (vws_dm _) | exact Vw.fh rfl rfl Vws.nil)); done) ?_); refine ⟨?_, rfl⟩
           first
             | (rw [hn, numD_f (badN_5 (by omega))]; done)
             | (rw [hn, numD_t (good_num (by omega) (by omega) (fun hg => by first | (exfalso; omega) | exact ⟨by omega, rfl⟩) hP (by omega))]; rfl)))⟩
end Go.Proofs.YtjnnkpkbgdknmaaDoor
