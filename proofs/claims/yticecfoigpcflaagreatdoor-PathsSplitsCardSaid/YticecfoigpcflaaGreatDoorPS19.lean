/-
  Lemmas: Models and walks
-/
import Derived.Test.YticecfoigpcflaaGreatDoorPS17
import Derived.Test.YticecfoigpcflaaGreatDoorPS18
set_option linter.unusedSimpArgs false
set_option linter.unusedVariables false
namespace Go.Proofs.YticecfoigpcflaaGreatDoor
open Go.RowKit
set_option maxRecDepth 100000
set_option maxHeartbeats 4000000
attribute [local irreducible] WK WC WL Wk Rel OpD OpV WD WO sel bnd obnd app lget lsl sget ssl scat letg iquo irem Op.bytesLess
def Mkeyspace_ValidKey (k1 : ByteArray) : Bool :=
 decide ((k1.size : Int) ≤ 64)
instance Mkeyspace_ValidKey_sp {k1} : SpT (Mkeyspace_ValidKey k1) fun y => Sp 134 [vS k1] [] (vB y) [] := ⟨fun hm => by
 refine si Tryz.func134 Tryz.ntmps134 Tryz.results134 fun B w0 ρ0 => ?_
 unfold Mkeyspace_ValidKey at hm
 exact en00 hm⟩

def Mkeyspace_ValidBound (b1 : Bnd) : Bool :=
 bnd (Mkeyspace_ValidKey b1.key) fun y2 =>
 sel y2 (
  sel (!b1.top) (
   true) (
   decide (b1.key = ⟨#[]⟩))) (
  false)
instance Mkeyspace_ValidBound_sp {b1} : SpT (Mkeyspace_ValidBound b1) fun y => Sp 70 [.a [vS b1.key, vB b1.top]] [] (vB y) [] := ⟨fun hm => by
 refine si Tryz.func70 Tryz.ntmps70 Tryz.results70 fun B w0 ρ0 => ?_
 exact az0 hm⟩

def Mkeyspace_Compare (a1 : Bnd) (b2 : Bnd) : Int :=
 bnd (
  sel a1.top (
   b2.top) (
   false) : Bool) fun x3 =>
 sel x3 (
  0) (
  sel a1.top (
   1) (
   bnd (
    sel b2.top (
     true) (
     bl a1.key b2.key) : Bool) fun x4 =>
   sel x4 (
    (-1)) (
    sel (bl b2.key a1.key) (
     1) (
     0))))
instance Mkeyspace_Compare_sp {a1} {b2} : SpT (Mkeyspace_Compare a1 b2) fun y => Sp 68 [.a [vS a1.key, vB a1.top], .a [vS b2.key, vB b2.top]] [] (vI y) [] := ⟨fun hm => by
 refine si Tryz.func68 Tryz.ntmps68 Tryz.results68 fun B w0 ρ0 => ?_
 refine sr ?_
 refine wc_seq ?_
 refine wc_block ?_
 refine wc_seq ?_
 refine jp1 hm [2, 3] [102, 103] (fun x3 => [(5, vB x3)]) (fun _ hm hm1 => ?_) (fun x3 hm => ?_)
 ·exact az1 hm hm1
 refine co hm (fun hm => ?_) fun hm => ?_
 ·exact en00 hm
 refine co hm (fun hm => ?_) fun hm => ?_
 ·exact en00 hm
 refine wc_seq ?_
 refine jp1 hm [2, 3] [102, 103] (fun x4 => [(15, vB x4)]) (fun _ hm hm1 => ?_) (fun x4 hm => ?_)
 ·exact az1 hm hm1
 exact az0 hm⟩

def Mkeyspace_Valid (r1 : Rng) : Bool :=
 bnd (Mkeyspace_ValidBound r1.lo) fun y2 =>
 sel y2 (
  bnd (Mkeyspace_ValidBound r1.hi) fun y3 =>
  sel y3 (
   bnd (Mkeyspace_Compare r1.lo r1.hi) fun y4 =>
   decide (y4 ≤ 0)) (
   false)) (
  false)
instance Mkeyspace_Valid_sp {r1} : SpT (Mkeyspace_Valid r1) fun y => Sp 133 [.a (Rng.vs r1)] [] (vB y) [] := ⟨fun hm => by
 refine si Tryz.func133 Tryz.ntmps133 Tryz.results133 fun B w0 ρ0 => ?_
 exact az0 hm⟩

def Mkeyspace_Empty (r1 : Rng) : Bool :=
 bnd (Mkeyspace_Valid r1) fun y2 =>
 sel (!y2) (
  true) (
  bnd (Mkeyspace_Compare r1.lo r1.hi) fun y3 =>
  decide (y3 = 0))
instance Mkeyspace_Empty_sp {r1} : SpT (Mkeyspace_Empty r1) fun y => Sp 69 [.a (Rng.vs r1)] [] (vB y) [] := ⟨fun hm => by
 refine si Tryz.func69 Tryz.ntmps69 Tryz.results69 fun B w0 ρ0 => ?_
 exact az0 hm⟩

structure Tsum where
  Count : Int
  Numbers : Int
  Sum : Int
  Low : Int
  High : Int
  First : ByteArray
  Last : ByteArray
  deriving DecidableEq
def Tsum.ds (x : Tsum) : List D := [dI x.Count, dI x.Numbers, dI x.Sum, dI x.Low, dI x.High, dS x.First, dS x.Last]
instance : Len Tsum.ds 7 := ⟨fun _ => rfl⟩
abbrev Tsum.vs (x : Tsum) : List V := [vI x.Count, vI x.Numbers, vI x.Sum, vI x.Low, vI x.High, vS x.First, vS x.Last]
structure TFold where
  Count : Int
  Numbers : Int
  Sum : Int
  Low : Int
  High : Int
  First : ByteArray
  Last : ByteArray
  deriving DecidableEq
def TFold.ds (x : TFold) : List D := [dI x.Count, dI x.Numbers, dI x.Sum, dI x.Low, dI x.High, dS x.First, dS x.Last]
instance : Len TFold.ds 7 := ⟨fun _ => rfl⟩
abbrev TFold.vs (x : TFold) : List V := [vI x.Count, vI x.Numbers, vI x.Sum, vI x.Low, vI x.High, vS x.First, vS x.Last]
def Mclone_List_api_Row_ (l1 : List Kv) : Option (List Kv) :=
 obnd (app ([] : List Kv) l1) fun l2 =>
 some l2
instance Mclone_List_api_Row__sp {l1} : SpO (Mclone_List_api_Row_ l1) fun y => Sp 125 [.d (lst Kv.ds l1)] [] (.d (lst Kv.ds y)) [] := ⟨fun hm => by
 refine si Tryz.func125 Tryz.ntmps125 Tryz.results125 fun B w0 ρ0 => ?_
 exact az0 hm⟩

structure TAnswer where
  Rows : List Kv
  Fold : TFold
  deriving DecidableEq
def TAnswer.ds (x : TAnswer) : List D := [lst Kv.ds x.Rows, dI x.Fold.Count, dI x.Fold.Numbers, dI x.Fold.Sum, dI x.Fold.Low, dI x.Fold.High, dS x.Fold.First, dS x.Fold.Last]
instance : Len TAnswer.ds 8 := ⟨fun _ => rfl⟩
abbrev TAnswer.vs (x : TAnswer) : List V := [.d (lst Kv.ds x.Rows), vI x.Fold.Count, vI x.Fold.Numbers, vI x.Fold.Sum, vI x.Fold.Low, vI x.Fold.High, vS x.Fold.First, vS x.Fold.Last]

end Go.Proofs.YticecfoigpcflaaGreatDoor
