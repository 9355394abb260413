/-
  Lemmas: Models and walks
-/
import Derived.Test.YtlbnhhfaedhgfaaGreatDoorPB24
set_option linter.unusedSimpArgs false
set_option linter.unusedVariables false
namespace Go.Proofs.YtlbnhhfaedhgfaaGreatDoor
open Go.RowKit
set_option maxRecDepth 100000
set_option maxHeartbeats 4000000
attribute [local irreducible] WK WC WL Wk Rel OpD OpV WD WO sel bnd obnd app lget lsl sget ssl scat letg iquo irem Op.bytesLess
attribute [local irreducible] qchk qranges union
theorem o_nilce {P : Program} {o : Oper} {H : Hp} {sl : List (Nat × V)} {x : Operand} {k off : Nat} (hop : o.op = .nilCheck x) (hx : ev sl x = some (.e k off)) : OpD P o H sl 0 0 (.e k off) [] := .read fun B a w ρ hs _ => by
  have hx' := ev_spec hs hx
  unfold execOp; rw [hop]
  generalize e : a.eval x = vx at hx'
  cases hx' with
  | e hp => exact ⟨_, by simp [e], .e hp⟩
theorem o_nilcq {P : Program} {o : Oper} {H : Hp} {sl : List (Nat × V)} {x : Operand} {xs : List D} (hop : o.op = .nilCheck x) (hx : ev sl x = some (.q xs)) : OpD P o H sl 0 0 (.q xs) [] := .read fun B a w ρ hs _ => by
  have hx' := ev_spec hs hx
  unfold execOp; rw [hop]
  generalize e : a.eval x = vx at hx'
  cases hx' with
  | q h1 h2 h3 => exact ⟨_, by simp [e], .q h1 h2 h3⟩
theorem fe_of0 {α : Type} {f : α → List D} {xs : List α} {i : Int} {a : α} {z : Nat} [hL : Len f z] (hg : lget xs i = some a) : ((xs.flatMap f).drop (i.toNat * z)).take z = f a := fe_of hg
def Mlaw29_spoil (t1 : TTape) (l2 : List TVisit) : Option (List TVisit × TTape) :=
 obnd (app ([] : List TVisit) l2) fun l3 =>
 sel (decide ((l3.length : Int) = 0)) (
  obnd (Mwld_Tape_Proper t1) fun y4 =>
  obnd (Mwld_Tape_View y4.2 y4.1) fun y5 =>
  obnd (Mwld_Tape_Proper y5.2) fun y6 =>
  obnd (app l3 ([(TVisit.mk y5.1 y6.1)] : List TVisit)) fun l7 =>
  some (l7, y6.2)) (
  obnd (Mwld_Tape_Next t1 (l3.length : Int)) fun y8 =>
  obnd (lget l3 y8.1) fun e9 =>
  obnd (Mwld_Tape_Next y8.2 11) fun y10 =>
  sel (decide (y10.1 = 0)) (
   bnd ((TVisit.mk (TView.mk (i64w (e9.View.Owner + 1)) e9.View.Interval e9.View.Stamp e9.View.Rows) e9.Part)) fun e12 =>
   bnd (l3.set (Int.toNat y8.1) e12) fun l11 =>
   some (l11, y10.2)) (
   sel (decide (y10.1 = 1)) (
    bnd ((TVisit.mk (TView.mk e9.View.Owner e9.View.Interval (TStamp.mk e9.View.Stamp.Epoch (i64w (e9.View.Stamp.Version + 1))) e9.View.Rows) e9.Part)) fun e14 =>
    bnd (l3.set (Int.toNat y8.1) e14) fun l13 =>
    some (l13, y10.2)) (
    sel (decide (y10.1 = 2)) (
     obnd (Mwld_Tape_OddStamp y10.2) fun y15 =>
     bnd ((TVisit.mk (TView.mk e9.View.Owner e9.View.Interval y15.1 e9.View.Rows) e9.Part)) fun e17 =>
     bnd (l3.set (Int.toNat y8.1) e17) fun l16 =>
     some (l16, y15.2)) (
     sel (decide (y10.1 = 3)) (
      obnd (Mwld_Tape_Range y10.2) fun y18 =>
      bnd ((TVisit.mk (TView.mk e9.View.Owner y18.1 e9.View.Stamp e9.View.Rows) e9.Part)) fun e20 =>
      bnd (l3.set (Int.toNat y8.1) e20) fun l19 =>
      some (l19, y18.2)) (
      sel (decide (y10.1 = 4)) (
       obnd (Mwld_Tape_Range y10.2) fun y21 =>
       bnd ((TVisit.mk e9.View y21.1)) fun e23 =>
       bnd (l3.set (Int.toNat y8.1) e23) fun l22 =>
       some (l22, y21.2)) (
       sel (decide (y10.1 = 5)) (
        obnd (app ([] : List Kv) e9.View.Rows) fun l24 =>
        obnd (Mwld_Tape_Row y10.2) fun y25 =>
        obnd (app l24 ([y25.1] : List Kv)) fun l26 =>
        bnd ((TVisit.mk (TView.mk e9.View.Owner e9.View.Interval e9.View.Stamp l26) e9.Part)) fun e28 =>
        bnd (l3.set (Int.toNat y8.1) e28) fun l27 =>
        some (l27, y25.2)) (
        sel (decide (y10.1 = 6)) (
         sel (decide (0 < (e9.View.Rows.length : Int))) (
          obnd (lsl e9.View.Rows 0 (i64w ((e9.View.Rows.length : Int) - 1))) fun l29 =>
          bnd ((TVisit.mk (TView.mk e9.View.Owner e9.View.Interval e9.View.Stamp l29) e9.Part)) fun e31 =>
          bnd (l3.set (Int.toNat y8.1) e31) fun l30 =>
          some (l30, y10.2)) (
          bnd ((TVisit.mk (TView.mk (i64w (e9.View.Owner + 1)) e9.View.Interval e9.View.Stamp e9.View.Rows) e9.Part)) fun e33 =>
          bnd (l3.set (Int.toNat y8.1) e33) fun l32 =>
          some (l32, y10.2))) (
         sel (decide (y10.1 = 7)) (
          obnd (lsl l3 0 y8.1) fun l34 =>
          obnd (lsl l3 (i64w (y8.1 + 1)) (l3.length : Int)) fun l35 =>
          obnd (apd l3 l34 l35) fun l36 =>
          some (l36, y10.2)) (
          sel (decide (y10.1 = 8)) (
           obnd (lsl l3 0 y8.1) fun l37 =>
           obnd (app ([] : List TVisit) l37) fun l38 =>
           obnd (app l38 ([e9] : List TVisit)) fun l39 =>
           obnd (lsl l3 y8.1 (l3.length : Int)) fun l40 =>
           obnd (app l39 l40) fun l41 =>
           some (l41, y10.2)) (
           sel (decide (y10.1 = 9)) (
            obnd (Mwld_Tape_Next y10.2 (l3.length : Int)) fun y42 =>
            obnd (lget l3 y42.1) fun e43 =>
            obnd (lget l3 y8.1) fun e44 =>
            obnd (lget l3 y8.1) fun e45 =>
            bnd (e43) fun e47 =>
            bnd (l3.set (Int.toNat y8.1) e47) fun l46 =>
            obnd (lget l46 y42.1) fun e48 =>
            bnd (e44) fun e50 =>
            bnd (l46.set (Int.toNat y42.1) e50) fun l49 =>
            some (l49, y42.2)) (
            sel (decide (y10.1 = 10)) (
             obnd (Mwld_Tape_Bound y10.2) fun y51 =>
             bnd ((TVisit.mk e9.View (Rng.mk e9.Part.lo y51.1))) fun e53 =>
             bnd (l3.set (Int.toNat y8.1) e53) fun l52 =>
             some (l52, y51.2)) (
             some (l3, y10.2)))))))))))))
theorem Mlaw29_spoil_sp {t1 : TTape} {l2 : List TVisit} {y : (List TVisit × TTape)} (hm : Mlaw29_spoil t1 l2 = some y) : Spec Tryz.prog 47 [.p 0 0, .d (lst TVisit.ds l2)] [(0, some (.box 119 [.d (lst dsI t1.l), vI t1.at_]))] fun u h => u = .d (lst TVisit.ds y.1) ∧ h = [(0, some (.box 119 [.d (lst dsI y.2.l), vI y.2.at_]))] := by
 refine si Tryz.func47 Tryz.ntmps47 Tryz.results47 fun B w0 ρ0 => ?_
 unfold Mlaw29_spoil at hm
 refine sr ?_
 refine sr ?_
 obtain ⟨l3, hy, hm⟩ := obnd_o hm
 refine wl_1 (n_appn (k := 110) hy rfl rfl rfl rfl rfl rfl) rfl rfl rfl rfl ?_
 refine sr ?_
 refine wc_cs hm ?_ ?_ <;> clear hm <;> intro hm
 ·refine sr ?_
  obtain ⟨y4, hy, hm⟩ := obnd_o hm
  refine wl_iq (Mwld_Tape_Proper_sp (hm := hy)) 0 ?_
  refine ss ?_
  obtain ⟨y5, hy, hm⟩ := obnd_o hm
  refine wl_iq (Mwld_Tape_View_sp (hm := hy)) 0 ?_
  refine ss ?_
  obtain ⟨y6, hy, hm⟩ := obnd_o hm
  refine wl_iq (Mwld_Tape_Proper_sp (hm := hy)) 0 ?_
  refine ss ?_
  refine wl_bt TVisit.ds [(TVisit.mk y5.1 y6.1)] rfl rfl (by simp only [flatV, cellsV, List.cons_append, List.nil_append, List.append_nil]; exact rfl) rfl rfl rfl rfl rfl rfl ?_
  refine ss ?_
  obtain ⟨l7, hy, hm⟩ := obnd_o hm
  refine wl_2 (n_app (k' := 123) hy rfl rfl rfl rfl rfl rfl rfl rfl) rfl rfl rfl rfl ?_
  refine sx ?_
  cases hm
  exact wk_reti [(0, 0)] ⟨rfl, rfl⟩
 refine sx ?_
 refine sr ?_
 obtain ⟨y8, hy, hm⟩ := obnd_o hm
 refine wl_iq (Mwld_Tape_Next_sp (hm := hy)) 0 ?_
 refine sr ?_
 obtain ⟨e9, hy, hm⟩ := obnd_o hm
 have hge9 := hy
 refine wl_r (o_ixo hy rfl rfl rfl rfl) rfl rfl rfl ?_
 refine sr ?_
 obtain ⟨y10, hy, hm⟩ := obnd_o hm
 refine wl_iq (Mwld_Tape_Next_sp (hm := hy)) 0 ?_
 refine sr ?_
 refine wc_cs hm ?_ ?_ <;> clear hm <;> intro hm
 ·refine sr ?_
  refine wl_r (o_nilce rfl rfl) rfl rfl rfl ?_
  refine ss ?_
  refine wl_r (o_ldo (k := 110) (f := TVisit.ds) (zz := 12) (u := vI e9.View.Owner) (off := 0) hge9 rfl rfl rfl (by exact inferInstance) rfl rfl) rfl rfl rfl ?_
  refine ss ?_
  refine wl_r (o_add rfl rfl rfl rfl) rfl rfl rfl ?_
  refine ss ?_
  refine wl_r (o_nilce rfl rfl) rfl rfl rfl ?_
  refine ss ?_
  obtain ⟨e12, hy, hm⟩ := bnd_o hm
  have hxe12 := hy
  refine ss ?_
  obtain ⟨l11, hy, hm⟩ := bnd_o hm
  refine wl_0 (lo := 0) (nn := 0) (o_sto (k := 110) (f := TVisit.ds) (zz := 12) (off := 0) hge9 hy rfl rfl rfl rfl (by exact inferInstance) rfl (by rw [← hxe12]; rfl)) rfl rfl (fresh0 _ _) ?_
  have hge12 := lget_set hge9 e12
  rw [hy] at hge12
  refine sr ?_
  refine sx ?_
  cases hm
  exact wk_reti [(0, 0)] ⟨rfl, rfl⟩
 refine sr ?_
 refine wc_cs hm ?_ ?_ <;> clear hm <;> intro hm
 ·refine sr ?_
  refine wl_r (o_nilce rfl rfl) rfl rfl rfl ?_
  refine ss ?_
  refine wl_r (o_ldo (k := 110) (f := TVisit.ds) (zz := 12) (u := vI e9.View.Stamp.Version) (off := 6) hge9 rfl rfl rfl (by exact inferInstance) rfl rfl) rfl rfl rfl ?_
  refine ss ?_
  refine wl_r (o_add rfl rfl rfl rfl) rfl rfl rfl ?_
  refine ss ?_
  refine wl_r (o_nilce rfl rfl) rfl rfl rfl ?_
  refine ss ?_
  obtain ⟨e14, hy, hm⟩ := bnd_o hm
  have hxe14 := hy
  refine ss ?_
  obtain ⟨l13, hy, hm⟩ := bnd_o hm
  refine wl_0 (lo := 0) (nn := 0) (o_sto (k := 110) (f := TVisit.ds) (zz := 12) (off := 6) hge9 hy rfl rfl rfl rfl (by exact inferInstance) rfl (by rw [← hxe14]; rfl)) rfl rfl (fresh0 _ _) ?_
  have hge14 := lget_set hge9 e14
  rw [hy] at hge14
  refine sr ?_
  refine sx ?_
  cases hm
  exact wk_reti [(0, 0)] ⟨rfl, rfl⟩
 refine sr ?_
 refine wc_cs hm ?_ ?_ <;> clear hm <;> intro hm
 ·refine sr ?_
  obtain ⟨y15, hy, hm⟩ := obnd_o hm
  refine wl_iq (Mwld_Tape_OddStamp_sp (hm := hy)) 0 ?_
  refine ss ?_
  refine wl_r (o_nilce rfl rfl) rfl rfl rfl ?_
  refine ss ?_
  obtain ⟨e17, hy, hm⟩ := bnd_o hm
  have hxe17 := hy
  refine ss ?_
  obtain ⟨l16, hy, hm⟩ := bnd_o hm
  refine wl_0 (lo := 0) (nn := 0) (o_sto (k := 110) (f := TVisit.ds) (zz := 12) (off := 5) hge9 hy rfl rfl rfl rfl (by exact inferInstance) rfl (by rw [← hxe17]; rfl)) rfl rfl (fresh0 _ _) ?_
  have hge17 := lget_set hge9 e17
  rw [hy] at hge17
  refine sr ?_
  refine sx ?_
  cases hm
  exact wk_reti [(0, 0)] ⟨rfl, rfl⟩
 refine sr ?_
 refine wc_cs hm ?_ ?_ <;> clear hm <;> intro hm
 ·refine sr ?_
  obtain ⟨y18, hy, hm⟩ := obnd_o hm
  refine wl_iq (Mwld_Tape_Range_sp (hm := hy)) 0 ?_
  refine ss ?_
  refine wl_r (o_nilce rfl rfl) rfl rfl rfl ?_
  refine ss ?_
  obtain ⟨e20, hy, hm⟩ := bnd_o hm
  have hxe20 := hy
  refine ss ?_
  obtain ⟨l19, hy, hm⟩ := bnd_o hm
  refine wl_0 (lo := 0) (nn := 0) (o_sto (k := 110) (f := TVisit.ds) (zz := 12) (off := 1) hge9 hy rfl rfl rfl rfl (by exact inferInstance) rfl (by rw [← hxe20]; rfl)) rfl rfl (fresh0 _ _) ?_
  have hge20 := lget_set hge9 e20
  rw [hy] at hge20
  refine sr ?_
  refine sx ?_
  cases hm
  exact wk_reti [(0, 0)] ⟨rfl, rfl⟩
 refine sr ?_
 refine wc_cs hm ?_ ?_ <;> clear hm <;> intro hm
 ·refine sr ?_
  obtain ⟨y21, hy, hm⟩ := obnd_o hm
  refine wl_iq (Mwld_Tape_Range_sp (hm := hy)) 0 ?_
  refine ss ?_
  refine wl_r (o_nilce rfl rfl) rfl rfl rfl ?_
  refine ss ?_
  obtain ⟨e23, hy, hm⟩ := bnd_o hm
  have hxe23 := hy
  refine ss ?_
  obtain ⟨l22, hy, hm⟩ := bnd_o hm
  refine wl_0 (lo := 0) (nn := 0) (o_sto (k := 110) (f := TVisit.ds) (zz := 12) (off := 8) hge9 hy rfl rfl rfl rfl (by exact inferInstance) rfl (by rw [← hxe23]; rfl)) rfl rfl (fresh0 _ _) ?_
  have hge23 := lget_set hge9 e23
  rw [hy] at hge23
  refine sr ?_
  refine sx ?_
  cases hm
  exact wk_reti [(0, 0)] ⟨rfl, rfl⟩
 refine sr ?_
 refine wc_cs hm ?_ ?_ <;> clear hm <;> intro hm
 ·refine sr ?_
  refine wl_r (o_nilce rfl rfl) rfl rfl rfl ?_
  refine ss ?_
  refine wl_r (o_ldo (k := 110) (f := TVisit.ds) (zz := 12) (u := .d (lst Kv.ds e9.View.Rows)) (off := 7) hge9 rfl rfl rfl (by exact inferInstance) rfl rfl) rfl rfl rfl ?_
  refine ss ?_
  obtain ⟨l24, hy, hm⟩ := obnd_o hm
  refine wl_1 (n_appn (k := 188) hy rfl rfl rfl rfl rfl rfl) rfl rfl rfl rfl ?_
  refine ss ?_
  obtain ⟨y25, hy, hm⟩ := obnd_o hm
  refine wl_iq (Mwld_Tape_Row_sp (hm := hy)) 0 ?_
  refine ss ?_
  refine wl_bt Kv.ds [y25.1] rfl rfl (by simp only [flatV, cellsV, List.cons_append, List.nil_append, List.append_nil]; exact rfl) rfl rfl rfl rfl rfl rfl ?_
  refine ss ?_
  obtain ⟨l26, hy, hm⟩ := obnd_o hm
  refine wl_2 (n_app (k' := 192) hy rfl rfl rfl rfl rfl rfl rfl rfl) rfl rfl rfl rfl ?_
  refine ss ?_
  refine wl_r (o_nilce rfl rfl) rfl rfl rfl ?_
  refine ss ?_
  refine wl_wkw [(0, 0), (110, 110)] ⟨[(1, .h 110), (92, .d (lst Kv.ds l26)), (95, .e 110 (Int.toNat y8.1 * 12 + 7))], [(0, some (.box 119 [.d (lst dsI y25.2.l), vI y25.2.at_])), (110, some (arrT 62 12 TVisit.ds l3))]⟩ ?_
  refine ss ?_
  obtain ⟨e28, hy, hm⟩ := bnd_o hm
  have hxe28 := hy
  refine ss ?_
  obtain ⟨l27, hy, hm⟩ := bnd_o hm
  refine wl_0 (lo := 0) (nn := 0) (o_sto (k := 110) (f := TVisit.ds) (zz := 12) (off := 7) hge9 hy rfl rfl rfl rfl (by exact inferInstance) rfl (by rw [← hxe28]; rfl)) rfl rfl (fresh0 _ _) ?_
  have hge28 := lget_set hge9 e28
  rw [hy] at hge28
  refine sr ?_
  refine sx ?_
  cases hm
  exact wk_reti [(0, 0)] ⟨rfl, rfl⟩
 refine sr ?_
 refine wc_cs hm ?_ ?_ <;> clear hm <;> intro hm
 ·refine sr ?_
  refine wl_r (o_nilce rfl rfl) rfl rfl rfl ?_
  refine ss ?_
  refine wl_r (o_ldo (k := 110) (f := TVisit.ds) (zz := 12) (u := .d (lst Kv.ds e9.View.Rows)) (off := 7) hge9 rfl rfl rfl (by exact inferInstance) rfl rfl) rfl rfl rfl ?_
  refine sr ?_
  refine wc_cs hm ?_ ?_ <;> clear hm <;> intro hm
  ·refine sr ?_
   refine wl_r (o_nilce rfl rfl) rfl rfl rfl ?_
   refine ss ?_
   refine wl_r (o_ldo (k := 110) (f := TVisit.ds) (zz := 12) (u := .d (lst Kv.ds e9.View.Rows)) (off := 7) hge9 rfl rfl rfl (by exact inferInstance) rfl rfl) rfl rfl rfl ?_
   refine ss ?_
   obtain ⟨l29, hy, hm⟩ := obnd_o hm
   refine wl_r (o_lsl hy rfl rfl rfl rfl) rfl rfl rfl ?_
   refine ss ?_
   refine wl_r (o_nilce rfl rfl) rfl rfl rfl ?_
   refine ss ?_
   obtain ⟨e31, hy, hm⟩ := bnd_o hm
   have hxe31 := hy
   refine ss ?_
   obtain ⟨l30, hy, hm⟩ := bnd_o hm
   refine wl_0 (lo := 0) (nn := 0) (o_sto (k := 110) (f := TVisit.ds) (zz := 12) (off := 7) hge9 hy rfl rfl rfl rfl (by exact inferInstance) rfl (by rw [← hxe31]; rfl)) rfl rfl (fresh0 _ _) ?_
   have hge31 := lget_set hge9 e31
   rw [hy] at hge31
   refine sr ?_
   refine sx ?_
   cases hm
   exact wk_reti [(0, 0)] ⟨rfl, rfl⟩
  refine sr ?_
  refine wl_r (o_nilce rfl rfl) rfl rfl rfl ?_
  refine ss ?_
  refine wl_r (o_ldo (k := 110) (f := TVisit.ds) (zz := 12) (u := vI e9.View.Owner) (off := 0) hge9 rfl rfl rfl (by exact inferInstance) rfl rfl) rfl rfl rfl ?_
  refine ss ?_
  refine wl_r (o_add rfl rfl rfl rfl) rfl rfl rfl ?_
  refine ss ?_
  refine wl_r (o_nilce rfl rfl) rfl rfl rfl ?_
  refine ss ?_
  obtain ⟨e33, hy, hm⟩ := bnd_o hm
  have hxe33 := hy
  refine ss ?_
  obtain ⟨l32, hy, hm⟩ := bnd_o hm
  refine wl_0 (lo := 0) (nn := 0) (o_sto (k := 110) (f := TVisit.ds) (zz := 12) (off := 0) hge9 hy rfl rfl rfl rfl (by exact inferInstance) rfl (by rw [← hxe33]; rfl)) rfl rfl (fresh0 _ _) ?_
  have hge33 := lget_set hge9 e33
  rw [hy] at hge33
  refine sr ?_
  refine sx ?_
  cases hm
  exact wk_reti [(0, 0)] ⟨rfl, rfl⟩
 refine sr ?_
 refine wc_cs hm ?_ ?_ <;> clear hm <;> intro hm
 ·refine wc_seq ?_
  refine wc_draw (id := 25) [⟨0, 0, [1]⟩, ⟨1, 0, [5]⟩, ⟨2, 3, [129, 130]⟩, ⟨3, 0, [1]⟩, ⟨4, 0, [5]⟩, ⟨5, 16, [133]⟩, ⟨6, 56, [132, 134]⟩, ⟨7, 127, [131, 135]⟩, ⟨8, 255, [136]⟩] mixed (by kernel_rfl) ?_
  refine ss ?_
  obtain ⟨l34, hy, hm⟩ := obnd_o hm
  have hvl34 := hy
  refine wd_slv hy rfl rfl rfl rfl rfl rfl (by first | exact .no rfl | exact .y rfl rfl rfl rfl) rfl rfl ?_
  refine ss ?_
  refine wd_r [] (o_add rfl rfl rfl rfl) rfl (by first | exact .no rfl | exact .y rfl rfl rfl rfl) rfl rfl ?_
  refine ss ?_
  obtain ⟨l35, hy, hm⟩ := obnd_o hm
  have hvl35 := hy
  refine wd_slv hy rfl rfl rfl rfl rfl rfl (by first | exact .no rfl | exact .y rfl rfl rfl rfl) rfl rfl ?_
  refine ss ?_
  obtain ⟨l36, hy, hm⟩ := obnd_o hm
  refine wd_del (k' := 236) hy hvl34 hvl35 rfl rfl rfl rfl rfl rfl rfl (by first | exact .no rfl | exact .y rfl rfl rfl rfl) rfl rfl rfl ?_
  refine sx ?_
  cases hm
  exact wk_reti [(0, 0)] ⟨rfl, rfl⟩
 refine sr ?_
 refine wc_cs hm ?_ ?_ <;> clear hm <;> intro hm
 ·refine wc_seq ?_
  refine wc_wkw [(0, 0)] ⟨[(1, .d (lst TVisit.ds l3)), (5, vI y8.1), (6, .q [dI e9.View.Owner, dS e9.View.Interval.lo.key, dB e9.View.Interval.lo.top, dS e9.View.Interval.hi.key, dB e9.View.Interval.hi.top, dI e9.View.Stamp.Epoch, dI e9.View.Stamp.Version, lst Kv.ds e9.View.Rows, dS e9.Part.lo.key, dB e9.Part.lo.top, dS e9.Part.hi.key, dB e9.Part.hi.top])], [(0, some (.box 119 [.d (lst dsI y10.2.l), vI y10.2.at_]))]⟩ ?_ (hs := by repeat (first | exact VS.nil | refine VS.cons rfl ?_ ?_ | exact Vw.d _ | exact Vw.p rfl | exact Vw.fh rfl rfl (vws_dm _) | exact Vw.fe rfl rfl (vws_dm _) (fe_of0 (by assumption))))
  refine wc_draw (id := 27) [⟨0, 0, [1]⟩, ⟨1, 0, [5]⟩, ⟨2, 3, [139, 140]⟩, ⟨3, 7, [141]⟩, ⟨4, 0, [6]⟩, ⟨5, 16, [143]⟩, ⟨6, 48, [144]⟩, ⟨7, 112, [145]⟩, ⟨8, 255, [142, 146]⟩, ⟨9, 0, [1]⟩, ⟨10, 0, [5]⟩, ⟨11, 1536, [148, 149]⟩, ⟨12, 4095, [147, 150]⟩, ⟨13, 8191, [151]⟩] mixed (by kernel_rfl) ?_
  refine ss ?_
  obtain ⟨l37, hy, hm⟩ := obnd_o hm
  refine wd_r [] (o_lsl hy rfl rfl rfl rfl) rfl (by first | exact .no rfl | exact .y rfl rfl rfl rfl) rfl rfl ?_
  refine ss ?_
  obtain ⟨l38, hy, hm⟩ := obnd_o hm
  refine wd_1 [] (n_appn (k := 242) hy rfl rfl rfl rfl rfl rfl) rfl (by first | exact .no rfl | exact .y rfl rfl rfl rfl) rfl rfl rfl ?_
  refine ss ?_
  refine wd_r [] (o_nilcq rfl rfl) rfl (by first | exact .no rfl | exact .y rfl rfl rfl rfl) rfl rfl ?_
  refine ss ?_
  refine wd_bt TVisit.ds [e9] rfl rfl (by simp only [flatV, cellsV, List.cons_append, List.nil_append, List.append_nil]; exact rfl) rfl rfl rfl rfl (by first | exact .no rfl | exact .y rfl rfl rfl rfl) rfl rfl ?_
  refine ss ?_
  obtain ⟨l39, hy, hm⟩ := obnd_o hm
  refine wd_app (k' := 247) hy rfl rfl rfl rfl rfl rfl rfl rfl (by first | exact .no rfl | exact .y rfl rfl rfl rfl) rfl rfl rfl ?_
  refine ss ?_
  obtain ⟨l40, hy, hm⟩ := obnd_o hm
  refine wd_r [] (o_lsl hy rfl rfl rfl rfl) rfl (by first | exact .no rfl | exact .y rfl rfl rfl rfl) rfl rfl ?_
  refine ss ?_
  obtain ⟨l41, hy, hm⟩ := obnd_o hm
  refine wd_app (k' := 251) hy rfl rfl rfl rfl rfl rfl rfl rfl (by first | exact .no rfl | exact .y rfl rfl rfl rfl) rfl rfl rfl ?_
  refine sx ?_
  cases hm
  exact wk_reti [(0, 0)] ⟨rfl, rfl⟩
 refine sr ?_
 refine wc_cs hm ?_ ?_ <;> clear hm <;> intro hm
 ·refine sr ?_
  obtain ⟨y42, hy, hm⟩ := obnd_o hm
  refine wl_iq (Mwld_Tape_Next_sp (hm := hy)) 0 ?_
  refine ss ?_
  refine wc_draw (id := 30) [⟨0, 0, [1]⟩, ⟨1, 0, [5]⟩, ⟨2, 0, [1]⟩, ⟨3, 0, [8]⟩, ⟨4, 0, [1]⟩, ⟨5, 0, [8]⟩, ⟨6, 48, [162, 163]⟩, ⟨7, 112, [164]⟩, ⟨8, 0, [1]⟩, ⟨9, 0, [5]⟩, ⟨10, 768, [166, 167]⟩, ⟨11, 1792, [168]⟩, ⟨12, 4083, [158, 159]⟩, ⟨13, 8179, [165, 170]⟩, ⟨14, 16383, [160, 161]⟩, ⟨15, 32767, [169, 171]⟩] mixed (by kernel_rfl) ?_
  refine ss ?_
  obtain ⟨e43, hy, hm⟩ := obnd_o hm
  have hge43 := hy
  refine wd_ixo hy rfl rfl rfl rfl rfl (by first | exact .no rfl | exact .y rfl rfl rfl rfl) rfl rfl ?_
  refine ss ?_
  refine wd_ldo (kk := 110) (f := TVisit.ds) (zz := 12) (u := .a [vI e43.View.Owner, vS e43.View.Interval.lo.key, vB e43.View.Interval.lo.top, vS e43.View.Interval.hi.key, vB e43.View.Interval.hi.top, vI e43.View.Stamp.Epoch, vI e43.View.Stamp.Version, .d (lst Kv.ds e43.View.Rows), vS e43.Part.lo.key, vB e43.Part.lo.top, vS e43.Part.hi.key, vB e43.Part.hi.top]) (off := 0) hge43 rfl rfl rfl (by exact inferInstance) rfl rfl rfl (by first | exact .no rfl | exact .y rfl rfl rfl rfl) rfl rfl ?_
  refine ss ?_
  obtain ⟨e44, hy, hm⟩ := obnd_o hm
  have hge44 := hy
  refine wd_ixo hy rfl rfl rfl rfl rfl (by first | exact .no rfl | exact .y rfl rfl rfl rfl) rfl rfl ?_
  refine ss ?_
  refine wd_ldo (kk := 110) (f := TVisit.ds) (zz := 12) (u := .a [vI e44.View.Owner, vS e44.View.Interval.lo.key, vB e44.View.Interval.lo.top, vS e44.View.Interval.hi.key, vB e44.View.Interval.hi.top, vI e44.View.Stamp.Epoch, vI e44.View.Stamp.Version, .d (lst Kv.ds e44.View.Rows), vS e44.Part.lo.key, vB e44.Part.lo.top, vS e44.Part.hi.key, vB e44.Part.hi.top]) (off := 0) hge44 rfl rfl rfl (by exact inferInstance) rfl rfl rfl (by first | exact .no rfl | exact .y rfl rfl rfl rfl) rfl rfl ?_
  refine ss ?_
  obtain ⟨e45, hy, hm⟩ := obnd_o hm
  have hge45 := hy
  refine wd_ixo hy rfl rfl rfl rfl rfl (by first | exact .no rfl | exact .y rfl rfl rfl rfl) rfl rfl ?_
  refine ss ?_
  obtain ⟨e47, hy, hm⟩ := bnd_o hm
  have hxe47 := hy
  refine ss ?_
  obtain ⟨l46, hy, hm⟩ := bnd_o hm
  refine wd_sto (kk := 110) (f := TVisit.ds) (zz := 12) (off := 0) hge45 hy rfl rfl rfl rfl (by exact inferInstance) rfl (by rw [← hxe47]; rfl) rfl (by first | exact .no rfl | exact .y rfl rfl rfl rfl) rfl ?_
  have hge47 := lget_set hge45 e47
  rw [hy] at hge47
  refine ss ?_
  obtain ⟨e48, hy, hm⟩ := obnd_o hm
  have hge48 := hy
  refine wd_ixo hy rfl rfl rfl rfl rfl (by first | exact .no rfl | exact .y rfl rfl rfl rfl) rfl rfl ?_
  refine ss ?_
  obtain ⟨e50, hy, hm⟩ := bnd_o hm
  have hxe50 := hy
  refine ss ?_
  obtain ⟨l49, hy, hm⟩ := bnd_o hm
  refine wd_sto (kk := 110) (f := TVisit.ds) (zz := 12) (off := 0) hge48 hy rfl rfl rfl rfl (by exact inferInstance) rfl (by rw [← hxe50]; rfl) rfl (by first | exact .no rfl | exact .y rfl rfl rfl rfl) rfl ?_
  have hge50 := lget_set hge48 e50
  rw [hy] at hge50
  refine sr ?_
  refine sx ?_
  cases hm
  exact wk_reti [(0, 0)] ⟨rfl, rfl⟩
 refine sr ?_
 refine wc_cs hm ?_ ?_ <;> clear hm <;> intro hm
 ·refine sr ?_
  obtain ⟨y51, hy, hm⟩ := obnd_o hm
  refine wl_iq (Mwld_Tape_Bound_sp (hm := hy)) 0 ?_
  refine ss ?_
  refine wl_r (o_nilce rfl rfl) rfl rfl rfl ?_
  refine ss ?_
  obtain ⟨e53, hy, hm⟩ := bnd_o hm
  have hxe53 := hy
  refine ss ?_
  obtain ⟨l52, hy, hm⟩ := bnd_o hm
  refine wl_0 (lo := 0) (nn := 0) (o_sto (k := 110) (f := TVisit.ds) (zz := 12) (off := 10) hge9 hy rfl rfl rfl rfl (by exact inferInstance) rfl (by rw [← hxe53]; rfl)) rfl rfl (fresh0 _ _) ?_
  have hge53 := lget_set hge9 e53
  rw [hy] at hge53
  refine sr ?_
  refine sx ?_
  cases hm
  exact wk_reti [(0, 0)] ⟨rfl, rfl⟩
 refine sx ?_
 refine sr ?_
 refine sx ?_
 cases hm
 exact wk_reti [(0, 0)] ⟨rfl, rfl⟩

end Go.Proofs.YtlbnhhfaedhgfaaGreatDoor
