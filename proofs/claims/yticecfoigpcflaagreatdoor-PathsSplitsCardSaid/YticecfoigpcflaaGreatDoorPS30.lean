/-
  Lemmas: Models and walks
-/
import Derived.Test.YticecfoigpcflaaGreatDoorPS17
import Derived.Test.YticecfoigpcflaaGreatDoorPS29
set_option linter.unusedSimpArgs false
set_option linter.unusedVariables false
namespace Go.Proofs.YticecfoigpcflaaGreatDoor
open Go.RowKit
set_option maxRecDepth 100000
set_option maxHeartbeats 4000000
attribute [local irreducible] WK WC WL Wk Rel OpD OpV WD WO sel bnd obnd app lget lsl sget ssl scat letg iquo irem Op.bytesLess
attribute [local irreducible] qchk qranges union mlk mset mput ment cpy sstab
def Mwld_Tape_Ranges_l1 : Nat → List Int → Int → List Rng → Int → Option (List Rng × List Int × Int)
  | 0, _, _, _, _ => none
  | fuel + 1, x4, x5, out6, i7 =>
  obnd (
   sel (decide (0 < i7)) (
    some (Ctl.nxt ())) (
    some (Ctl.ret (out6, x4, x5))) : Option (Ctl (List Rng × List Int × Int) Unit)) fun mu => ocbnd mu fun (_ : Unit) =>
  obnd (Mwld_Tape_Proper (TTape.mk x4 x5)) fun y8 =>
  obnd (Mwld_Tape_Bool y8.2 6) fun y9 =>
  sel y9.1 (
   obnd (Mwld_Tape_Range y9.2) fun y10 =>
   obnd (app out6 ([y10.1] : List Rng)) fun l11 =>
   Mwld_Tape_Ranges_l1 fuel y10.2.l y10.2.at_ l11 (i64w (i7 - 1))) (
   obnd (app out6 ([y8.1] : List Rng)) fun l12 =>
   Mwld_Tape_Ranges_l1 fuel y9.2.l y9.2.at_ l12 (i64w (i7 - 1)))
def Mwld_Tape_Ranges (t1 : TTape) (n2 : Int) : Option (List Rng × TTape) :=
 obnd (Mwld_Tape_Next t1 (i64w (n2 + 1))) fun y3 =>
 obnd (
  Mwld_Tape_Ranges_l1 FU y3.2.l y3.2.at_ [] y3.1 : Option (List Rng × List Int × Int)) fun (out13, x14, x15) =>
 some (out13, (TTape.mk x14 x15))
instance Mwld_Tape_Ranges_sp {t1} {n2} : SpO (Mwld_Tape_Ranges t1 n2) fun y => Sp 12 [.p 0 0, vI n2] [(0, some (.box 126 [.d (lst dsI t1.l), vI t1.at_]))] (.d (lst Rng.ds y.1)) ([(0, some (.box 126 [.d (lst dsI y.2.l), vI y.2.at_]))]) := ⟨fun hm => by
 refine si Tryz.func12 Tryz.ntmps12 Tryz.results12 fun B w0 ρ0 => ?_
 refine bo hm fun y3 hm => ?_
 refine ss ?_
 refine jo3 hm [] [] (fun out13 x14 x15 => [(5, .d (lst Rng.ds out13))]) (fun _ hm hm1 => ?_) (fun out13 x14 x15 hm => ?_) (B := (fun out13 x14 x15 => [(0, some (.box 126 [.d (lst dsI x14), vI x15]))]))
 ·refine wc_block ?_
  refine wc_wk (wk_nil 5 5001 60 4 rfl rfl) ?_
  refine lf4 hm1 [0] [] (fun x4 x5 out6 i7 => [(5, .h 5001), (6, vI i7)]) (fun κ x4 x5 out6 i7 hm1 => ?_) (B := (fun x4 x5 out6 i7 => [(0, some (.box 126 [.d (lst dsI x4), vI x5])), (5001, some (arrT 60 4 Rng.ds out6))]))
  refine sr ?_
  refine jc0 hm1 [0, 5, 6] [0, 5001] [] (fun _ hm1 hm2 => ?_) (fun hm1 => ?_)
  ·exact az2 hm hm1 hm2
  refine bo hm1 fun y8 hm1 => ?_
  refine bo hm1 fun y9 hm1 => ?_
  refine co hm1 (fun hm1 => ?_) fun hm1 => ?_
  ·refine bo hm1 fun y10 hm1 => ?_
   refine sr ?_
   refine wl_bt Rng.ds [y10.1] rfl rfl (by simp only [flatV, cellsV, List.cons_append, List.nil_append, List.append_nil]; exact rfl) rfl rfl rfl rfl rfl rfl ?_
   refine bo hm1 fun l11 hm1 => ?_
   exact ebm1 [(0, 0), (5001, 125)] hm hm1
  refine sx ?_
  refine sr ?_
  refine wl_bt Rng.ds [y8.1] rfl rfl (by simp only [flatV, cellsV, List.cons_append, List.nil_append, List.append_nil]; exact rfl) rfl rfl rfl rfl rfl rfl ?_
  refine bo hm1 fun l12 hm1 => ?_
  exact ebm1 [(0, 0), (5001, 125)] hm hm1
 exact en00 hm⟩

theorem Mwld_Tape_Cuts_so0 {t1 : TTape} {n2 : Int} {y : (List Bnd × TTape)} (hm : Mwld_Tape_Cuts t1 n2 = some y) : Spec Tryz.prog 13 [.p 0 0, vI n2] [(0, some (.box 126 [.d (lst dsI t1.l), vI t1.at_]))] fun u h => u = .h 1 ∧ h = [(0, some (.box 126 [.d (lst dsI y.2.l), vI y.2.at_])), (1, some (arrT 32 2 Bnd.ds y.1))] := by
 refine si Tryz.func13 Tryz.ntmps13 Tryz.results13 fun B w0 ρ0 => ?_
 refine bo hm fun y3 hm => ?_
 refine ss ?_
 refine jo3 hm [] [] (fun out38 x39 x40 => [(5, .h 5003)]) (fun _ hm hm1 => ?_) (fun out38 x39 x40 hm => ?_) (B := (fun out38 x39 x40 => [(0, some (.box 126 [.d (lst dsI x39), vI x40])), (5003, some (arrT 32 2 Bnd.ds out38))]))
 ·refine wc_block ?_
  refine wc_wk (wk_nil 5 5001 32 2 rfl rfl) ?_
  refine lf4 hm1 [0] [] (fun x4 x5 out6 i7 => [(5, .h 5001), (6, vI i7)]) (fun κ x4 x5 out6 i7 hm1 => ?_) (B := (fun x4 x5 out6 i7 => [(0, some (.box 126 [.d (lst dsI x4), vI x5])), (5001, some (arrT 32 2 Bnd.ds out6))]))
  refine sr ?_
  refine jc0 hm1 [0, 5, 6] [0, 5001] [] (fun _ hm1 hm2 => ?_) (fun hm1 => ?_)
  ·refine co hm2 (fun hm2 => ?_) fun hm2 => ?_
   ·exact en22 hm hm1 hm2
   exact em21 [(0, 0), (5003, 5001)] hm hm1 hm2
  refine ss ?_
  refine wc_seq ?_
  refine jo3 hm1 [0, 6] [] (fun x35 x36 out37 => [(5, .h 5002)]) (fun _ hm1 hm2 => ?_) (fun x35 x36 out37 hm1 => ?_) (B := (fun x35 x36 out37 => [(0, some (.box 126 [.d (lst dsI x35), vI x36])), (5002, some (arrT 32 2 Bnd.ds out37))]))
  ·refine bo hm2 fun y8 hm2 => ?_
   refine sr ?_
   refine wc_seq ?_
   refine jo3 hm2 [0, 5, 6, 7] [107, 5001] (fun x15 x16 k17 => [(8, vI k17)]) (fun _ hm2 hm3 => ?_) (fun x15 x16 k17 hm2 => ?_) (B := (fun x15 x16 k17 => [(0, some (.box 126 [.d (lst dsI x15), vI x16]))]))
   ·refine wc_block ?_
    refine lf3 hm3 [0, 5, 6, 7] [107, 5001] (fun x9 x10 k11 => [(8, vI k11)]) (fun κ x9 x10 k11 hm3 => ?_) (B := (fun x9 x10 k11 => [(0, some (.box 126 [.d (lst dsI x9), vI x10]))]))
    refine wc_seq ?_
    refine wc_seq ?_
    refine wc_draw (id := 7) [⟨0, 0, [8]⟩, ⟨1, 1, [21]⟩, ⟨2, 3, [22]⟩, ⟨3, 7, [5, 23]⟩, ⟨4, 7, [8, 23]⟩, ⟨5, 23, [23, 25]⟩, ⟨6, 63, [23, 24, 26]⟩, ⟨7, 127, [23, 27]⟩, ⟨8, 7, [7, 23]⟩, ⟨9, 511, [23, 28, 29]⟩, ⟨10, 1023, [23, 30]⟩, ⟨11, 2047, [23, 31]⟩, ⟨12, 4095, [32]⟩, ⟨13, 8191, [0, 33]⟩, ⟨14, 16383, [33, 34]⟩, ⟨15, 32767, [33, 35]⟩, ⟨16, 65535, [33, 36]⟩] mixed (by kernel_rfl) ?_
    refine co hm3 (fun hm3 => ?_) fun hm3 => ?_
    ·refine bo' hm3 fun e12 hge12 hm3 => ?_
     refine ss ?_
     refine wd_ldo (kk := 5001) (f := Bnd.ds) (zz := 2) (u := .a [vS e12.key, vB e12.top]) (off := 0) hge12 rfl rfl rfl (by exact inferInstance) rfl rfl rfl (by first | exact .no rfl | exact .y rfl rfl rfl rfl) rfl rfl ?_
     refine bp hm3 fun y13 hm3 => ?_
     refine co hm3 (fun hm3 => ?_) fun hm3 => ?_
     ·refine bo hm3 fun y14 hm3 => ?_
      refine co hm3 (fun hm3 => ?_) fun hm3 => ?_
      ·exact eb3 hm hm1 hm2 hm3
      exact en33 hm hm1 hm2 hm3
     refine ss ?_
     refine wc_cond_f rfl ?_
     exact en33 hm hm1 hm2 hm3
    refine ss ?_
    refine wc_cond_f rfl ?_
    exact en33 hm hm1 hm2 hm3
   refine ss ?_
   refine wc_seq ?_
   refine wc_seq ?_
   refine jo3 hm2 [0, 5, 6, 7, 8] [107, 5001] (fun x27 x28 x29 => [(66, vB x29)]) (fun _ hm2 hm3 => ?_) (fun x27 x28 x29 hm2 => ?_) (B := (fun x27 x28 x29 => [(0, some (.box 126 [.d (lst dsI x27), vI x28]))]))
   ·refine wc_draw (id := 9) [⟨0, 0, [8]⟩, ⟨1, 1, [40]⟩, ⟨2, 3, [41]⟩, ⟨3, 7, [5, 42]⟩, ⟨4, 7, [8, 42]⟩, ⟨5, 23, [42, 44]⟩, ⟨6, 63, [42, 43, 45]⟩, ⟨7, 127, [42, 46]⟩, ⟨8, 7, [7, 42]⟩, ⟨9, 511, [42, 47, 48]⟩, ⟨10, 1023, [42, 49]⟩, ⟨11, 2047, [42, 50]⟩, ⟨12, 4095, [51]⟩, ⟨13, 8191, [0, 52]⟩, ⟨14, 16383, [52, 53]⟩, ⟨15, 32767, [52, 54]⟩, ⟨16, 65535, [52, 55]⟩, ⟨17, 131071, [56]⟩, ⟨18, 262143, [7, 57]⟩, ⟨19, 524287, [57, 58]⟩, ⟨20, 1048575, [57, 59]⟩, ⟨21, 2097151, [57, 60]⟩, ⟨22, 4194303, [0, 61]⟩, ⟨23, 8388607, [61, 62]⟩, ⟨24, 16777215, [61, 63]⟩, ⟨25, 33554431, [57, 61, 64]⟩, ⟨26, 67108863, [57, 65]⟩] mixed (by kernel_rfl) ?_
    refine co hm3 (fun hm3 => ?_) fun hm3 => ?_
    ·refine bo' hm3 fun e18 hge18 hm3 => ?_
     refine ss ?_
     refine wd_ldo (kk := 5001) (f := Bnd.ds) (zz := 2) (u := .a [vS e18.key, vB e18.top]) (off := 0) hge18 rfl rfl rfl (by exact inferInstance) rfl rfl rfl (by first | exact .no rfl | exact .y rfl rfl rfl rfl) rfl rfl ?_
     exact az3 hm hm1 hm2 hm3
    exact az3 hm hm1 hm2 hm3
   refine ss ?_
   refine jc0 hm2 [0, 5, 6, 7, 8] [0, 107, 5001] [] (fun _ hm2 hm3 => ?_) (fun hm2 => ?_)
   ·refine co hm3 (fun hm3 => ?_) fun hm3 => ?_
    ·exact em32 [(0, 0), (5002, 5001)] hm hm1 hm2 hm3
    exact en33 hm hm1 hm2 hm3
   refine ss ?_
   refine wc_wkw [(0, 0), (107, 107)] ⟨[(0, .p 0 0), (5, .d (lst Bnd.ds out6)), (6, vI i7), (7, .p 107 0), (8, vI k17)], [(0, some (.box 126 [.d (lst dsI x27), vI x28])), (107, some (.box 32 [vS y8.1.key, vB y8.1.top]))]⟩ ?_
   refine wc_draw (id := 10) [⟨0, 0, [5]⟩, ⟨1, 0, [8]⟩, ⟨2, 3, [67, 68]⟩, ⟨3, 7, [69]⟩, ⟨4, 0, [7]⟩, ⟨5, 16, [71]⟩, ⟨6, 63, [70, 72]⟩, ⟨7, 0, [5]⟩, ⟨8, 0, [8]⟩, ⟨9, 384, [74, 75]⟩, ⟨10, 1023, [73, 76]⟩, ⟨11, 2047, [77]⟩] mixed (by kernel_rfl) ?_
   refine bo hm2 fun l30 hm2 => ?_
   refine bo hm2 fun l31 hm2 => ?_
   refine ss ?_
   refine wd_bt Bnd.ds [y8.1] rfl rfl (by simp only [flatV, cellsV, List.cons_append, List.nil_append, List.append_nil]; exact rfl) rfl rfl rfl rfl (by first | exact .no rfl | exact .y rfl rfl rfl rfl) rfl rfl ?_
   refine bo hm2 fun l32 hm2 => ?_
   refine bo hm2 fun l33 hm2 => ?_
   refine bo hm2 fun l34 hm2 => ?_
   exact em22 [(0, 0), (5002, 177)] hm hm1 hm2
  exact ebm1 [(0, 0), (5001, 5002)] hm hm1
 exact em00 [(0, 0), (1, 5003)] hm
def Mlaw30_PathsSplits_l2 (r14 : List Rng) : List (List Bnd) → Option (Ctl (Ctl (Ctl Bool Unit) Unit) Unit)
  | [] =>
  some (Ctl.nxt ())
  | r17 :: xs18 =>
  obnd (Mpaths_Split r14 r17) fun y20 =>
  obnd (Mref28_Split r14 r17) fun y21 =>
  obnd (Mref1_Same y20 y21) fun y22 =>
  sel (!y22) (
   some (Ctl.ret (Ctl.ret (Ctl.ret false)))) (
   Mlaw30_PathsSplits_l2 r14 xs18)
def Mlaw30_PathsSplits_l1 (cuts3 : List Bnd) (y13 : List Bnd) : List (List Rng) → Option (Ctl Bool Unit)
  | [] =>
  some (Ctl.nxt ())
  | r14 :: xs15 =>
  obnd (
   obnd (
    Mlaw30_PathsSplits_l2 r14 ([cuts3, y13, []] : List (List Bnd)) : Option (Ctl (Ctl (Ctl Bool Unit) Unit) Unit)) fun mu => ocbnd mu fun (_ : Unit) =>
   some (Ctl.nxt ()) : Option (Ctl (Ctl Bool Unit) Unit)) fun mu => ocbnd mu fun (_ : Unit) =>
  Mlaw30_PathsSplits_l1 cuts3 y13 xs15
def Mlaw30_PathsSplits (l1 : List Int) (raw2 : List Rng) (cuts3 : List Bnd) : Option Bool :=
 obnd (
  sel (decide (40 < (raw2.length : Int))) (
   some true) (
   some (decide (40 < (cuts3.length : Int)))) : Option Bool) fun x4 =>
 sel x4 (
  obnd (Mlaw30_awake) fun y5 =>
  some y5) (
  obnd (Mwld_New l1) fun y6 =>
  obnd (Mwld_Tape_Ranges y6 4) fun y7 =>
  obnd (Mwld_Tape_Cuts y7.2 6) fun y8 =>
  obnd (Mwld_Tape_Bool y8.2 4) fun y9 =>
  obnd (
   sel y9.1 (
    obnd (Mwld_Tape_Bound y9.2) fun y10 =>
    obnd (Mwld_Tape_Bound y10.2) fun y11 =>
    obnd (app y8.1 ([y10.1, y11.1] : List Bnd)) fun l12 =>
    some l12) (
    some y8.1) : Option (List Bnd)) fun y13 =>
  obnd (
   Mlaw30_PathsSplits_l1 cuts3 y13 ([raw2, y7.1] : List (List Rng)) : Option (Ctl Bool Unit)) fun mu => ocbnd mu fun (_ : Unit) =>
  obnd (Mpaths_Split y7.1 y13) fun y23 =>
  obnd (Mref1_Union y23) fun y24 =>
  obnd (Mref1_Union y7.1) fun y25 =>
  obnd (Mref1_Same y24 y25) fun y26 =>
  sel y26 (
   obnd (Mlaw30_awake) fun y27 =>
   some y27) (
   some false))
theorem Mlaw30_PathsSplits_sp {l1 : List Int} {raw2 : List Rng} {cuts3 : List Bnd} {y : Bool} (hm : Mlaw30_PathsSplits l1 raw2 cuts3 = some y) : Spec Tryz.prog 3 [.d (lst dsI l1), .d (lst Rng.ds raw2), .d (lst Bnd.ds cuts3)] [] fun u h => u = vB y ∧ h = [] := by
 refine si Tryz.func3 Tryz.ntmps3 Tryz.results3 fun B w0 ρ0 => ?_
 refine sr ?_
 refine wc_seq ?_
 refine wc_seq ?_
 refine jo1 hm [0, 1, 2] [] (fun x4 => [(22, vB x4)]) (fun _ hm hm1 => ?_) (fun x4 hm => ?_)
 ·exact az1 hm hm1
 refine co hm (fun hm => ?_) fun hm => ?_
 ·exact az0 hm
 refine sx ?_
 refine sr ?_
 obtain ⟨y6, hy, hm⟩ := obnd_o hm
 refine wl_mkn (u' := .p 202501 0) (h' := [(202501, some (.box 126 (TTape.vs y6)))]) (Mwld_New_sp.out hy) 202500 rfl rfl rfl (by repeat (first | exact Vws.nil | apply Vws.cons | exact Vw.nil | exact Vw.d _ | exact Vw.q _ | apply Vw.a)) rfl (by (try simp only [renH, Option.map_some, Blk.ren, rens_d]); rfl) rfl rfl rfl rfl ?_
 refine bo hm fun y7 hm => ?_
 refine ss ?_
 obtain ⟨y8, hy, hm⟩ := obnd_o hm
 refine wl_gen (u' := .h 202901) (h' := [(202501, some (.box 126 (TTape.vs y8.2))), (202901, some (arrT 32 2 Bnd.ds y8.1))]) (Mwld_Tape_Cuts_so0 (hm := hy)) 202501 202900 rfl rfl rfl (by repeat (first | exact Vws.nil | apply Vws.cons | exact Vw.nil | exact Vw.d _ | exact Vw.q _ | exact Vw.p rfl | apply Vw.a)) rfl (Vb.box (by repeat (first | exact Vws.nil | apply Vws.cons | exact Vw.nil | exact Vw.d _ | exact Vw.q _ | exact Vw.p rfl | apply Vw.a))) rfl (by (try simp only [renH, Option.map_some, Blk.ren, rens_d]); rfl) rfl rfl rfl rfl ?_
 refine bo hm fun y9 hm => ?_
 refine ss ?_
 refine jo1 hm [1, 2, 8] [] (fun y13 => [(9, .d (lst Bnd.ds y13))]) (fun _ hm hm1 => ?_) (fun y13 hm => ?_)
 ·refine co hm1 (fun hm1 => ?_) fun hm1 => ?_
  ·refine bo hm1 fun y10 hm1 => ?_
   refine bo hm1 fun y11 hm1 => ?_
   refine ss ?_
   refine wl_bt Bnd.ds [y10.1, y11.1] rfl rfl (by simp only [flatV, cellsV, List.cons_append, List.nil_append, List.append_nil]; exact rfl) rfl rfl rfl rfl rfl rfl ?_
   exact az1 hm hm1
  exact en11 hm hm1
 refine sr ?_
 refine wl_bt (dsL Rng.ds) [raw2, y7.1] rfl rfl (by simp only [flatV, cellsV, List.cons_append, List.nil_append, List.append_nil]; exact rfl) rfl rfl rfl rfl rfl rfl ?_
 refine ss ?_
 refine jc0 hm [8, 9] [] [] (fun _ hm hm1 => ?_) (fun hm => ?_)
 ·refine wc_block ?_
  refine lr0 hm1 41 [2, 8, 9, 41, 42] [] (fun m16 => [(43, vI (m16 : Int))]) (fun hlenm16 m16 r14 hltm16 hxm16 hm1 => ?_) (fun m16 hm1 => ?_)
  ·refine sx ?_
   refine wc_seq ?_
   refine jc0 hm1 [2, 8, 9, 41, 42, 43] [] [] (fun _ hm1 hm2 => ?_) (fun hm1 => ?_)
   ·refine sr ?_
    refine wl_r (o_ixm hxm16 rfl rfl rfl rfl) rfl rfl rfl ?_
    refine sr ?_
    refine wl_btn (dsL Bnd.ds) [cuts3, y13, []] (ds := [lst Bnd.ds cuts3, lst Bnd.ds y13, .c (.slice none 0 0)]) rfl rfl (by simp only [flatV, cellsV, List.cons_append, List.nil_append, List.append_nil]; exact rfl) rfl rfl (by repeat (first | exact .nil | refine .z ?_ | refine .cons ?_)) rfl rfl rfl rfl ?_
    refine ss ?_
    refine jc0 hm2 [2, 8, 9, 41, 42, 43] [] [] (fun _ hm2 hm3 => ?_) (fun hm2 => ?_)
    ·refine wc_block ?_
     refine lr0 hm3 49 [2, 8, 9, 11, 41, 42, 43, 49, 50] [] (fun m19 => [(51, vI (m19 : Int))]) (fun hlenm19 m19 r17 hltm19 hxm19 hm3 => ?_) (fun m19 hm3 => ?_)
     ·refine bo hm3 fun y20 hm3 => ?_
      refine bo hm3 fun y21 hm3 => ?_
      refine bo hm3 fun y22 hm3 => ?_
      refine co hm3 (fun hm3 => ?_) fun hm3 => ?_
      ·exact en30 hm hm1 hm2 hm3
      exact eb3 hm hm1 hm2 hm3
     exact en33 hm hm1 hm2 hm3
    exact en22 hm hm1 hm2
   exact eb1 hm hm1
  exact en11 hm hm1
 refine bo hm fun y23 hm => ?_
 refine sr ?_
 obtain ⟨y24, hy, hm⟩ := obnd_o hm
 refine wl_cq (Mref1_Union_sp (hm := hy)) ?_
 refine ss ?_
 obtain ⟨y25, hy, hm⟩ := obnd_o hm
 refine wl_cq (Mref1_Union_sp (hm := hy)) ?_
 exact az0 hm

end Go.Proofs.YticecfoigpcflaaGreatDoor
