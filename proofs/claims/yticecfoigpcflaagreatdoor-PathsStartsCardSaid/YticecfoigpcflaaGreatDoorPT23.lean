/-
  Lemmas: Models and walks
-/
import Derived.Test.YticecfoigpcflaaGreatDoorPT18
import Derived.Test.YticecfoigpcflaaGreatDoorPT22
import Derived.Test.YticecfoigpcflaaGreatDoorPT21
set_option linter.unusedSimpArgs false
set_option linter.unusedVariables false
namespace Go.Proofs.YticecfoigpcflaaGreatDoor
open Go.RowKit
set_option maxRecDepth 100000
set_option maxHeartbeats 4000000
attribute [local irreducible] WK WC WL Wk Rel OpD OpV WD WO sel bnd obnd app lget lsl sget ssl scat letg iquo irem Op.bytesLess
attribute [local irreducible] qchk qranges union
def Mwalk_Inside (outer1 : Rng) (inner2 : Rng) : Bool :=
 bnd (Mkeyspace_Empty outer1) fun y3 =>
 sel (!y3) (
  bnd (Mkeyspace_Compare outer1.lo inner2.lo) fun y4 =>
  sel (decide (y4 ≤ 0)) (
   bnd (Mkeyspace_Compare inner2.hi outer1.hi) fun y5 =>
   decide (y5 ≤ 0)) (
   false)) (
  false)
instance Mwalk_Inside_sp {outer1} {inner2} : SpT (Mwalk_Inside outer1 inner2) fun y => Sp 193 [.a (Rng.vs outer1), .a (Rng.vs inner2)] [] (vB y) [] := ⟨fun hm => by
 refine si Tryz.func193 Tryz.ntmps193 Tryz.results193 fun B w0 ρ0 => ?_
 exact az0 hm⟩

def Mwalk_Start_l2 (r5 : Rng) : List Rng → Bool → Option Bool
  | [], found12 =>
  some found12
  | r13 :: xs14, found12 =>
  sel found12 (
   Mwalk_Start_l2 r5 xs14 true) (
   bnd (Mwalk_Inside r13 r5) fun y16 =>
   Mwalk_Start_l2 r5 xs14 y16)
def Mwalk_Start_l1 (ranges2 : List Rng) (y4 : List Rng) : List Rng → Int → Option (Ctl (TWalk × Int) Unit)
  | [], i =>
  some (Ctl.nxt ())
  | r5 :: xs6, i =>
  obnd (
   bnd (Mkeyspace_Empty r5) fun y8 =>
   sel y8 (
    some (Ctl.ret (Ctl.ret ((TWalk.mk (TQuery.mk 0 [] ⟨#[]⟩ 0) [] []), 1)))) (
    obnd (
     sel (decide (0 < i)) (
      obnd (lget ranges2 (i64w (i - 1))) fun e9 =>
      bnd (Mkeyspace_Compare r5.lo e9.hi) fun y10 =>
      some (decide (y10 < 0))) (
      some false) : Option Bool) fun x11 =>
    sel x11 (
     some (Ctl.ret (Ctl.ret ((TWalk.mk (TQuery.mk 0 [] ⟨#[]⟩ 0) [] []), 8)))) (
     obnd (
      Mwalk_Start_l2 r5 y4 false : Option Bool) fun found17 =>
     sel (!found17) (
      some (Ctl.ret (Ctl.ret ((TWalk.mk (TQuery.mk 0 [] ⟨#[]⟩ 0) [] []), 2)))) (
      some (Ctl.nxt ())))) : Option (Ctl (Ctl (TWalk × Int) Unit) Unit)) fun mu => ocbnd mu fun (_ : Unit) =>
  Mwalk_Start_l1 ranges2 y4 xs6 (i + 1)
def Mwalk_Start (q1 : TQuery) (ranges2 : List Rng) : Option (TWalk × Int) :=
 obnd (Mquery_Check q1) fun y3 =>
 sel (!decide (y3 = 0)) (
  some ((TWalk.mk (TQuery.mk 0 [] ⟨#[]⟩ 0) [] []), y3)) (
  sel (decide (128 < (ranges2.length : Int))) (
   some ((TWalk.mk (TQuery.mk 0 [] ⟨#[]⟩ 0) [] []), 3)) (
   obnd (Mquery_Ranges q1) fun y4 =>
   obnd (
    Mwalk_Start_l1 ranges2 y4 ranges2 0 : Option (Ctl (TWalk × Int) Unit)) fun mu => ocbnd mu fun (_ : Unit) =>
   obnd (Mclone_Query q1) fun y18 =>
   obnd (Mclone_List_api_Range_ ranges2) fun y19 =>
   some ((TWalk.mk y18 y19 []), 0)))
instance Mwalk_Start_sp {q1} {ranges2} : SpO (Mwalk_Start q1 ranges2) fun y => Sp 138 [.a (TQuery.vs q1), .d (lst Rng.ds ranges2)] [] (.t [.a (TWalk.vs y.1), vI y.2]) [] := ⟨fun hm => by
 refine si Tryz.func138 Tryz.ntmps138 Tryz.results138 fun B w0 ρ0 => ?_
 refine sr ?_
 refine sr ?_
 obtain ⟨y3, hy, hm⟩ := obnd_o hm
 refine wl_cq (Mquery_Check_sp (hm := hy)) ?_
 refine co hm (fun hm => ?_) fun hm => ?_
 ·exact en00 hm
 refine co hm (fun hm => ?_) fun hm => ?_
 ·exact en00 hm
 refine sx ?_
 refine sr ?_
 obtain ⟨y4, hy, hm⟩ := obnd_o hm
 refine wl_cq (Mquery_Ranges_sp (hm := hy)) ?_
 refine sr ?_
 refine jc0 hm [1, 2, 4] [102, 104] [] (fun _ hm hm1 => ?_) (fun hm => ?_)
 ·refine wc_block ?_
  refine lru0 hm1 25 [1, 2, 4, 7, 25, 26] [102, 104] (fun m7 => [(27, vI (m7 : Int))]) (fun hlenm7 m7 r5 hltm7 hxm7 hm1 => ?_) (fun m7 hm1 => ?_)
  ·refine sx ?_
   refine wc_seq ?_
   refine jc0 hm1 [1, 2, 4, 7, 25, 26, 27] [102, 104] [] (fun _ hm1 hm2 => ?_) (fun hm1 => ?_)
   ·refine bp hm2 fun y8 hm2 => ?_
    refine co hm2 (fun hm2 => ?_) fun hm2 => ?_
    ·exact en20 hm hm1 hm2
    refine sx ?_
    refine wc_seq ?_
    refine wc_seq ?_
    refine jo1 hm2 [1, 2, 4, 7, 9, 25, 26, 27] [102, 104, 109] (fun x11 => [(48, vB x11)]) (fun _ hm2 hm3 => ?_) (fun x11 hm2 => ?_)
    ·refine wc_draw (id := 12) [⟨0, 0, [8]⟩, ⟨1, 1, [35]⟩, ⟨2, 3, [36]⟩, ⟨3, 7, [9, 37]⟩, ⟨4, 15, [37, 38]⟩, ⟨5, 7, [1, 37]⟩, ⟨6, 7, [8, 37]⟩, ⟨7, 71, [37, 41]⟩, ⟨8, 231, [37, 40, 42]⟩, ⟨9, 487, [37, 43]⟩, ⟨10, 999, [37, 44]⟩, ⟨11, 2047, [37, 39, 45]⟩, ⟨12, 4095, [37, 46]⟩, ⟨13, 8191, [37, 47]⟩] mixed (by kernel_rfl) ?_
     exact az3 hm hm1 hm2 hm3
    refine co hm2 (fun hm2 => ?_) fun hm2 => ?_
    ·exact en20 hm hm1 hm2
    refine sx ?_
    refine sr ?_
    refine sr ?_
    refine jo1 hm2 [1, 2, 4, 7, 25, 26, 27] [102, 104] (fun found17 => [(10, vB found17)]) (fun _ hm2 hm3 => ?_) (fun found17 hm2 => ?_)
    ·refine wc_block ?_
     refine lr1 hm3 50 [1, 2, 4, 7, 9, 25, 26, 27, 50, 51] [102, 104, 109] (fun m15 found12 => [(10, vB found12), (52, vI (m15 : Int))]) (fun hlenm15 m15 found12 r13 hltm15 hxm15 hm3 => ?_) (fun m15 found12 hm3 => ?_)
     ·refine co hm3 (fun hm3 => ?_) fun hm3 => ?_
      ·exact eb3 hm hm1 hm2 hm3
      refine bp hm3 fun y16 hm3 => ?_
      exact eb3 hm hm1 hm2 hm3
     exact en33 hm hm1 hm2 hm3
    exact az2 hm hm1 hm2
   exact eb1 hm hm1
  exact en11 hm hm1
 exact az0 hm⟩

end Go.Proofs.YticecfoigpcflaaGreatDoor
