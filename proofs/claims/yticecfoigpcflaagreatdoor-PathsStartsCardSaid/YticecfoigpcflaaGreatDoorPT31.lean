/-
  Lemmas: Models and walks
-/
import Derived.Test.YticecfoigpcflaaGreatDoorPT18
import Derived.Test.YticecfoigpcflaaGreatDoorPT30
set_option linter.unusedSimpArgs false
set_option linter.unusedVariables false
namespace Go.Proofs.YticecfoigpcflaaGreatDoor
open Go.RowKit
set_option maxRecDepth 100000
set_option maxHeartbeats 4000000
attribute [local irreducible] WK WC WL Wk Rel OpD OpV WD WO sel bnd obnd app lget lsl sget ssl scat letg iquo irem Op.bytesLess
attribute [local irreducible] qchk qranges union mlk mset mput ment cpy sstab
theorem Mwld_Tape_Cuts_so0 {t1 : TTape} {n2 : Int} {y : (List Bnd × TTape)} (hm : Mwld_Tape_Cuts t1 n2 = some y) : Spec Tryz.prog 13 [.p 0 0, vI n2] [(0, some (.box 126 [.d (lst dsI t1.l), vI t1.at_]))] fun u h => u = .h 1 ∧ h = [(0, some (.box 126 [.d (lst dsI y.2.l), vI y.2.at_])), (1, some (arrT 32 2 Bnd.ds y.1))] := by
 refine si Tryz.func13 Tryz.ntmps13 Tryz.results13 fun B w0 ρ0 => ?_
 refine bo hm fun y3 hm => ?_
 refine ss ?_
 refine jo3 hm [] [] (fun out38 x39 x40 => [(5, .h 5003)]) (fun _ hm hm1 => ?_) (fun out38 x39 x40 hm => ?_) (B := (fun out38 x39 x40 => [(0, some (.box 126 [.d (lst dsI x39), vI x40])), (5003, some (arrT 32 2 Bnd.ds out38))]))
 ·refine wc_block ?_
  refine wc_wk (wk_nil 5 5001 32 2 rfl rfl) ?_
  refine lf4 hm1 [0] [] (fun x4 x5 out6 i7 => [(5, .h 5001), (6, vI i7)]) (fun κ x4 x5 out6 i7 hm1 => ?_) (B := (fun x4 x5 out6 i7 => [(0, some (.box 126 [.d (lst dsI x4), vI x5])), (5001, some (arrT 32 2 Bnd.ds out6))]))
  refine sr ?_
  refine jc0 hm1 [0, 5, 6] [0, 5001] [] (fun _ hm1 hm2 => ?_) (fun hm1 => ?_)
  ·refine co hm2 (fun hm2 => ?_) fun hm2 => ?_
   ·exact en22 hm hm1 hm2
   exact em21 [(0, 0), (5003, 5001)] hm hm1 hm2
  refine ss ?_
  refine wc_seq ?_
  refine jo3 hm1 [0, 6] [] (fun x35 x36 out37 => [(5, .h 5002)]) (fun _ hm1 hm2 => ?_) (fun x35 x36 out37 hm1 => ?_) (B := (fun x35 x36 out37 => [(0, some (.box 126 [.d (lst dsI x35), vI x36])), (5002, some (arrT 32 2 Bnd.ds out37))]))
  ·refine bo hm2 fun y8 hm2 => ?_
   refine sr ?_
   refine wc_seq ?_
   refine jo3 hm2 [0, 5, 6, 7] [107, 5001] (fun x15 x16 k17 => [(8, vI k17)]) (fun _ hm2 hm3 => ?_) (fun x15 x16 k17 hm2 => ?_) (B := (fun x15 x16 k17 => [(0, some (.box 126 [.d (lst dsI x15), vI x16]))]))
   ·refine wc_block ?_
    refine lf3 hm3 [0, 5, 6, 7] [107, 5001] (fun x9 x10 k11 => [(8, vI k11)]) (fun κ x9 x10 k11 hm3 => ?_) (B := (fun x9 x10 k11 => [(0, some (.box 126 [.d (lst dsI x9), vI x10]))]))
    refine wc_seq ?_
    refine wc_seq ?_
    refine wc_draw (id := 7) [⟨0, 0, [8]⟩, ⟨1, 1, [21]⟩, ⟨2, 3, [22]⟩, ⟨3, 7, [5, 23]⟩, ⟨4, 7, [8, 23]⟩, ⟨5, 23, [23, 25]⟩, ⟨6, 63, [23, 24, 26]⟩, ⟨7, 127, [23, 27]⟩, ⟨8, 7, [7, 23]⟩, ⟨9, 511, [23, 28, 29]⟩, ⟨10, 1023, [23, 30]⟩, ⟨11, 2047, [23, 31]⟩, ⟨12, 4095, [32]⟩, ⟨13, 8191, [0, 33]⟩, ⟨14, 16383, [33, 34]⟩, ⟨15, 32767, [33, 35]⟩, ⟨16, 65535, [33, 36]⟩] mixed (by kernel_rfl) ?_
    refine co hm3 (fun hm3 => ?_) fun hm3 => ?_
    ·refine bo' hm3 fun e12 hge12 hm3 => ?_
     refine ss ?_
     refine wd_ldo (kk := 5001) (f := Bnd.ds) (zz := 2) (u := .a [vS e12.key, vB e12.top]) (off := 0) hge12 rfl rfl rfl (by exact inferInstance) rfl rfl rfl (by first | exact .no rfl | exact .y rfl rfl rfl rfl) rfl rfl ?_
     refine bp hm3 fun y13 hm3 => ?_
     refine co hm3 (fun hm3 => ?_) fun hm3 => ?_
     ·refine bo hm3 fun y14 hm3 => ?_
      refine co hm3 (fun hm3 => ?_) fun hm3 => ?_
      ·exact eb3 hm hm1 hm2 hm3
      exact en33 hm hm1 hm2 hm3
     refine ss ?_
     refine wc_cond_f rfl ?_
     exact en33 hm hm1 hm2 hm3
    refine ss ?_
    refine wc_cond_f rfl ?_
    exact en33 hm hm1 hm2 hm3
   refine ss ?_
   refine wc_seq ?_
   refine wc_seq ?_
   refine jo3 hm2 [0, 5, 6, 7, 8] [107, 5001] (fun x27 x28 x29 => [(66, vB x29)]) (fun _ hm2 hm3 => ?_) (fun x27 x28 x29 hm2 => ?_) (B := (fun x27 x28 x29 => [(0, some (.box 126 [.d (lst dsI x27), vI x28]))]))
   ·refine wc_draw (id := 9) [⟨0, 0, [8]⟩, ⟨1, 1, [40]⟩, ⟨2, 3, [41]⟩, ⟨3, 7, [5, 42]⟩, ⟨4, 7, [8, 42]⟩, ⟨5, 23, [42, 44]⟩, ⟨6, 63, [42, 43, 45]⟩, ⟨7, 127, [42, 46]⟩, ⟨8, 7, [7, 42]⟩, ⟨9, 511, [42, 47, 48]⟩, ⟨10, 1023, [42, 49]⟩, ⟨11, 2047, [42, 50]⟩, ⟨12, 4095, [51]⟩, ⟨13, 8191, [0, 52]⟩, ⟨14, 16383, [52, 53]⟩, ⟨15, 32767, [52, 54]⟩, ⟨16, 65535, [52, 55]⟩, ⟨17, 131071, [56]⟩, ⟨18, 262143, [7, 57]⟩, ⟨19, 524287, [57, 58]⟩, ⟨20, 1048575, [57, 59]⟩, ⟨21, 2097151, [57, 60]⟩, ⟨22, 4194303, [0, 61]⟩, ⟨23, 8388607, [61, 62]⟩, ⟨24, 16777215, [61, 63]⟩, ⟨25, 33554431, [57, 61, 64]⟩, ⟨26, 67108863, [57, 65]⟩] mixed (by kernel_rfl) ?_
    refine co hm3 (fun hm3 => ?_) fun hm3 => ?_
    ·refine bo' hm3 fun e18 hge18 hm3 => ?_
     refine ss ?_
     refine wd_ldo (kk := 5001) (f := Bnd.ds) (zz := 2) (u := .a [vS e18.key, vB e18.top]) (off := 0) hge18 rfl rfl rfl (by exact inferInstance) rfl rfl rfl (by first | exact .no rfl | exact .y rfl rfl rfl rfl) rfl rfl ?_
     exact az3 hm hm1 hm2 hm3
    exact az3 hm hm1 hm2 hm3
   refine ss ?_
   refine jc0 hm2 [0, 5, 6, 7, 8] [0, 107, 5001] [] (fun _ hm2 hm3 => ?_) (fun hm2 => ?_)
   ·refine co hm3 (fun hm3 => ?_) fun hm3 => ?_
    ·exact em32 [(0, 0), (5002, 5001)] hm hm1 hm2 hm3
    exact en33 hm hm1 hm2 hm3
   refine ss ?_
   refine wc_wkw [(0, 0), (107, 107)] ⟨[(0, .p 0 0), (5, .d (lst Bnd.ds out6)), (6, vI i7), (7, .p 107 0), (8, vI k17)], [(0, some (.box 126 [.d (lst dsI x27), vI x28])), (107, some (.box 32 [vS y8.1.key, vB y8.1.top]))]⟩ ?_
   refine wc_draw (id := 10) [⟨0, 0, [5]⟩, ⟨1, 0, [8]⟩, ⟨2, 3, [67, 68]⟩, ⟨3, 7, [69]⟩, ⟨4, 0, [7]⟩, ⟨5, 16, [71]⟩, ⟨6, 63, [70, 72]⟩, ⟨7, 0, [5]⟩, ⟨8, 0, [8]⟩, ⟨9, 384, [74, 75]⟩, ⟨10, 1023, [73, 76]⟩, ⟨11, 2047, [77]⟩] mixed (by kernel_rfl) ?_
   refine bo hm2 fun l30 hm2 => ?_
   refine bo hm2 fun l31 hm2 => ?_
   refine ss ?_
   refine wd_bt Bnd.ds [y8.1] rfl rfl (by simp only [flatV, cellsV, List.cons_append, List.nil_append, List.append_nil]; exact rfl) rfl rfl rfl rfl (by first | exact .no rfl | exact .y rfl rfl rfl rfl) rfl rfl ?_
   refine bo hm2 fun l32 hm2 => ?_
   refine bo hm2 fun l33 hm2 => ?_
   refine bo hm2 fun l34 hm2 => ?_
   exact em22 [(0, 0), (5002, 177)] hm hm1 hm2
  exact ebm1 [(0, 0), (5001, 5002)] hm hm1
 exact em00 [(0, 0), (1, 5003)] hm
end Go.Proofs.YticecfoigpcflaaGreatDoor
