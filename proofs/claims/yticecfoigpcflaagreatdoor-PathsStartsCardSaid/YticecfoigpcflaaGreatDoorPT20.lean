/-
  Lemmas: Models and walks
-/
import Derived.Test.YticecfoigpcflaaGreatDoorPT18
import Derived.Test.YticecfoigpcflaaGreatDoorPT19
set_option linter.unusedSimpArgs false
set_option linter.unusedVariables false
namespace Go.Proofs.YticecfoigpcflaaGreatDoor
open Go.RowKit
set_option maxRecDepth 100000
set_option maxHeartbeats 4000000
attribute [local irreducible] WK WC WL Wk Rel OpD OpV WD WO sel bnd obnd app lget lsl sget ssl scat letg iquo irem Op.bytesLess
def Mkeyspace_ValidKey (k1 : ByteArray) : Bool :=
 decide ((k1.size : Int) ≤ 64)
instance Mkeyspace_ValidKey_sp {k1} : SpT (Mkeyspace_ValidKey k1) fun y => Sp 134 [vS k1] [] (vB y) [] := ⟨fun hm => by
 refine si Tryz.func134 Tryz.ntmps134 Tryz.results134 fun B w0 ρ0 => ?_
 unfold Mkeyspace_ValidKey at hm
 exact en00 hm⟩

def Mkeyspace_ValidBound (b1 : Bnd) : Bool :=
 bnd (Mkeyspace_ValidKey b1.key) fun y2 =>
 sel y2 (
  sel (!b1.top) (
   true) (
   decide (b1.key = ⟨#[]⟩))) (
  false)
instance Mkeyspace_ValidBound_sp {b1} : SpT (Mkeyspace_ValidBound b1) fun y => Sp 70 [.a [vS b1.key, vB b1.top]] [] (vB y) [] := ⟨fun hm => by
 refine si Tryz.func70 Tryz.ntmps70 Tryz.results70 fun B w0 ρ0 => ?_
 exact az0 hm⟩

def Mkeyspace_Compare (a1 : Bnd) (b2 : Bnd) : Int :=
 bnd (
  sel a1.top (
   b2.top) (
   false) : Bool) fun x3 =>
 sel x3 (
  0) (
  sel a1.top (
   1) (
   bnd (
    sel b2.top (
     true) (
     bl a1.key b2.key) : Bool) fun x4 =>
   sel x4 (
    (-1)) (
    sel (bl b2.key a1.key) (
     1) (
     0))))
instance Mkeyspace_Compare_sp {a1} {b2} : SpT (Mkeyspace_Compare a1 b2) fun y => Sp 68 [.a [vS a1.key, vB a1.top], .a [vS b2.key, vB b2.top]] [] (vI y) [] := ⟨fun hm => by
 refine si Tryz.func68 Tryz.ntmps68 Tryz.results68 fun B w0 ρ0 => ?_
 refine sr ?_
 refine wc_seq ?_
 refine wc_block ?_
 refine wc_seq ?_
 refine jp1 hm [2, 3] [102, 103] (fun x3 => [(5, vB x3)]) (fun _ hm hm1 => ?_) (fun x3 hm => ?_)
 ·exact az1 hm hm1
 refine co hm (fun hm => ?_) fun hm => ?_
 ·exact en00 hm
 refine co hm (fun hm => ?_) fun hm => ?_
 ·exact en00 hm
 refine wc_seq ?_
 refine jp1 hm [2, 3] [102, 103] (fun x4 => [(15, vB x4)]) (fun _ hm hm1 => ?_) (fun x4 hm => ?_)
 ·exact az1 hm hm1
 exact az0 hm⟩

def Mkeyspace_Valid (r1 : Rng) : Bool :=
 bnd (Mkeyspace_ValidBound r1.lo) fun y2 =>
 sel y2 (
  bnd (Mkeyspace_ValidBound r1.hi) fun y3 =>
  sel y3 (
   bnd (Mkeyspace_Compare r1.lo r1.hi) fun y4 =>
   decide (y4 ≤ 0)) (
   false)) (
  false)
instance Mkeyspace_Valid_sp {r1} : SpT (Mkeyspace_Valid r1) fun y => Sp 133 [.a (Rng.vs r1)] [] (vB y) [] := ⟨fun hm => by
 refine si Tryz.func133 Tryz.ntmps133 Tryz.results133 fun B w0 ρ0 => ?_
 exact az0 hm⟩

def Mkeyspace_Empty (r1 : Rng) : Bool :=
 bnd (Mkeyspace_Valid r1) fun y2 =>
 sel (!y2) (
  true) (
  bnd (Mkeyspace_Compare r1.lo r1.hi) fun y3 =>
  decide (y3 = 0))
instance Mkeyspace_Empty_sp {r1} : SpT (Mkeyspace_Empty r1) fun y => Sp 69 [.a (Rng.vs r1)] [] (vB y) [] := ⟨fun hm => by
 refine si Tryz.func69 Tryz.ntmps69 Tryz.results69 fun B w0 ρ0 => ?_
 exact az0 hm⟩

structure Tsum where
  Count : Int
  Numbers : Int
  Sum : Int
  Low : Int
  High : Int
  First : ByteArray
  Last : ByteArray
  deriving DecidableEq
def Tsum.ds (x : Tsum) : List D := [dI x.Count, dI x.Numbers, dI x.Sum, dI x.Low, dI x.High, dS x.First, dS x.Last]
instance : Len Tsum.ds 7 := ⟨fun _ => rfl⟩
abbrev Tsum.vs (x : Tsum) : List V := [vI x.Count, vI x.Numbers, vI x.Sum, vI x.Low, vI x.High, vS x.First, vS x.Last]
structure TFold where
  Count : Int
  Numbers : Int
  Sum : Int
  Low : Int
  High : Int
  First : ByteArray
  Last : ByteArray
  deriving DecidableEq
def TFold.ds (x : TFold) : List D := [dI x.Count, dI x.Numbers, dI x.Sum, dI x.Low, dI x.High, dS x.First, dS x.Last]
instance : Len TFold.ds 7 := ⟨fun _ => rfl⟩
abbrev TFold.vs (x : TFold) : List V := [vI x.Count, vI x.Numbers, vI x.Sum, vI x.Low, vI x.High, vS x.First, vS x.Last]
def Mclone_List_api_Row_ (l1 : List Kv) : Option (List Kv) :=
 obnd (app ([] : List Kv) l1) fun l2 =>
 some l2
instance Mclone_List_api_Row__sp {l1} : SpO (Mclone_List_api_Row_ l1) fun y => Sp 125 [.d (lst Kv.ds l1)] [] (.d (lst Kv.ds y)) [] := ⟨fun hm => by
 refine si Tryz.func125 Tryz.ntmps125 Tryz.results125 fun B w0 ρ0 => ?_
 exact az0 hm⟩

def Mref22_Check_l1 : List Rng → Ctl Int Unit
  | [] =>
  Ctl.nxt ()
  | r3 :: xs4 =>
  bnd (Mref1_Valid r3) fun y6 =>
  sel (!y6) (
   Ctl.ret 1) (
   Mref22_Check_l1 xs4)
def Mref22_Check (q1 : TQuery) : Int :=
 bnd (
  sel (decide (q1.Kind < 1)) (
   true) (
   decide (4 < q1.Kind)) : Bool) fun x2 =>
 sel x2 (
  1) (
  sel (decide (64 < (q1.Ranges.length : Int))) (
   3) (
   bnd (
    Mref22_Check_l1 q1.Ranges : Ctl Int Unit) fun mu => cbnd mu fun (_ : Unit) =>
   bnd (
    bnd (Mref1_ValidKey q1.Key) fun y7 =>
    sel (!y7) (
     true) (
     sel (decide (0 < (q1.Ranges.length : Int))) (
      sel (!decide (q1.Kind = 1)) (
       true) (
       sel (!decide (q1.Key = ⟨#[]⟩)) (
        decide (q1.Kind = 1)) (
        false))) (
      sel (!decide (q1.Key = ⟨#[]⟩)) (
       decide (q1.Kind = 1)) (
       false))) : Bool) fun x8 =>
   sel x8 (
    1) (
    bnd (
     sel (decide (q1.Kind = 3)) (
      true) (
      decide (q1.Kind = 4)) : Bool) fun counts9 =>
    sel counts9 (
     sel (decide (q1.Count < 1)) (
      2) (
      sel (decide (1024 < q1.Count)) (
       2) (
       sel (!counts9) (
        sel (!decide (q1.Count = 0)) (
         2) (
         0)) (
        0)))) (
     sel (!counts9) (
      sel (!decide (q1.Count = 0)) (
       2) (
       0)) (
      0)))))
instance Mref22_Check_sp {q1} : SpT (Mref22_Check q1) fun y => Sp 78 [.a (TQuery.vs q1)] [] (vI y) [] := ⟨fun hm => by
 refine si Tryz.func78 Tryz.ntmps78 Tryz.results78 fun B w0 ρ0 => ?_
 refine sr ?_
 refine wc_seq ?_
 refine wc_seq ?_
 refine jp1 hm [1] [101] (fun x2 => [(13, vB x2)]) (fun _ hm hm1 => ?_) (fun x2 hm => ?_)
 ·exact az1 hm hm1
 refine co hm (fun hm => ?_) fun hm => ?_
 ·exact en00 hm
 refine co hm (fun hm => ?_) fun hm => ?_
 ·exact en00 hm
 refine sx ?_
 refine sr ?_
 refine jd0 hm [1] [101] [] (fun _ hm hm1 => ?_) (fun hm => ?_)
 ·refine wc_block ?_
  refine lr0 hm1 19 [1, 19, 20] [101] (fun m5 => [(21, vI (m5 : Int))]) (fun hlenm5 m5 r3 hltm5 hxm5 hm1 => ?_) (fun m5 hm1 => ?_)
  ·refine bp hm1 fun y6 hm1 => ?_
   refine co hm1 (fun hm1 => ?_) fun hm1 => ?_
   ·exact en10 hm hm1
   exact eb1 hm hm1
  exact en11 hm hm1
 refine ss ?_
 refine wc_seq ?_
 refine wc_seq ?_
 refine jp1 hm [1] [101] (fun x8 => [(53, vB x8)]) (fun _ hm hm1 => ?_) (fun x8 hm => ?_)
 ·exact az1 hm hm1
 refine co hm (fun hm => ?_) fun hm => ?_
 ·exact en00 hm
 refine sx ?_
 refine wc_seq ?_
 refine jp1 hm [1] [101] (fun counts9 => [(5, vB counts9)]) (fun _ hm hm1 => ?_) (fun counts9 hm => ?_)
 ·exact az1 hm hm1
 refine co hm (fun hm => ?_) fun hm => ?_
 ·refine co hm (fun hm => ?_) fun hm => ?_
  ·refine ss ?_
   refine wc_cond_t rfl ?_
   exact en00 hm
  refine co hm (fun hm => ?_) fun hm => ?_
  ·refine ss ?_
   refine wc_cond_t rfl ?_
   exact en00 hm
  refine co hm (fun hm => ?_) fun hm => ?_
  ·exact az0 hm
  refine ss ?_
  refine wc_cond_f rfl ?_
  exact en00 hm
 refine co hm (fun hm => ?_) fun hm => ?_
 ·exact az0 hm
 refine ss ?_
 refine wc_cond_f rfl ?_
 exact en00 hm⟩

def Mref22_Same_l1 (a1 : TQuery) (b2 : TQuery) : List Rng → Int → Option (Ctl Bool Unit)
  | [], i =>
  some (Ctl.nxt ())
  | r4 :: xs5, i =>
  obnd (lget a1.Ranges i) fun e7 =>
  obnd (lget b2.Ranges i) fun e8 =>
  sel (!(decide (e7.lo.key = e8.lo.key) && decide (e7.lo.top = e8.lo.top) && decide (e7.hi.key = e8.hi.key) && decide (e7.hi.top = e8.hi.top))) (
   some (Ctl.ret false)) (
   Mref22_Same_l1 a1 b2 xs5 (i + 1))
def Mref22_Same (a1 : TQuery) (b2 : TQuery) : Option Bool :=
 obnd (
  sel (!decide (a1.Kind = b2.Kind)) (
   some true) (
   sel (!decide (a1.Key = b2.Key)) (
    some true) (
    sel (!decide (a1.Count = b2.Count)) (
     some true) (
     some (!decide ((a1.Ranges.length : Int) = (b2.Ranges.length : Int)))))) : Option Bool) fun x3 =>
 sel x3 (
  some false) (
  obnd (
   Mref22_Same_l1 a1 b2 a1.Ranges 0 : Option (Ctl Bool Unit)) fun mu => ocbnd mu fun (_ : Unit) =>
  some true)
instance Mref22_Same_sp {a1} {b2} : SpO (Mref22_Same a1 b2) fun y => Sp 143 [.a (TQuery.vs a1), .a (TQuery.vs b2)] [] (vB y) [] := ⟨fun hm => by
 refine si Tryz.func143 Tryz.ntmps143 Tryz.results143 fun B w0 ρ0 => ?_
 refine sr ?_
 refine wc_seq ?_
 refine wc_seq ?_
 refine jo1 hm [2, 3] [102, 103] (fun x3 => [(33, vB x3)]) (fun _ hm hm1 => ?_) (fun x3 hm => ?_)
 ·exact az1 hm hm1
 refine co hm (fun hm => ?_) fun hm => ?_
 ·exact en00 hm
 refine sx ?_
 refine sr ?_
 refine jc0 hm [] [] [] (fun _ hm hm1 => ?_) (fun hm => ?_)
 ·refine wc_block ?_
  refine lru0 hm1 35 [2, 3, 36] [102, 103] (fun m6 => [(37, vI (m6 : Int))]) (fun hlenm6 m6 r4 hltm6 hxm6 hm1 => ?_) (fun m6 hm1 => ?_)
  ·refine sx ?_
   refine sr ?_
   refine wc_seq ?_
   refine wc_draw (id := 6) [⟨0, 0, [2]⟩, ⟨1, 1, [40]⟩, ⟨2, 0, [5]⟩, ⟨3, 7, [41, 42]⟩, ⟨4, 15, [43]⟩, ⟨5, 0, [3]⟩, ⟨6, 32, [45]⟩, ⟨7, 0, [5]⟩, ⟨8, 224, [46, 47]⟩, ⟨9, 480, [48]⟩, ⟨10, 1023, [44, 49]⟩] mixed (by kernel_rfl) ?_
   refine ss ?_
   obtain ⟨e7, hy, hm1⟩ := obnd_o hm1
   refine wd_r [] (o_ixg (ys := [dS e7.lo.key, dB e7.lo.top, dS e7.hi.key, dB e7.hi.top]) hy rfl rfl rfl rfl) rfl (by first | exact .no rfl | exact .y rfl rfl rfl rfl) rfl rfl ?_
   refine ss ?_
   obtain ⟨e8, hy, hm1⟩ := obnd_o hm1
   refine wd_r [] (o_ixg (ys := [dS e8.lo.key, dB e8.lo.top, dS e8.hi.key, dB e8.hi.top]) hy rfl rfl rfl rfl) rfl (by first | exact .no rfl | exact .y rfl rfl rfl rfl) rfl rfl ?_
   refine co hm1 (fun hm1 => ?_) fun hm1 => ?_
   ·exact en10 hm hm1
   exact eb1 hm hm1
  exact en11 hm hm1
 exact en00 hm⟩

structure TAnswer where
  Rows : List Kv
  Fold : TFold
  deriving DecidableEq
def TAnswer.ds (x : TAnswer) : List D := [lst Kv.ds x.Rows, dI x.Fold.Count, dI x.Fold.Numbers, dI x.Fold.Sum, dI x.Fold.Low, dI x.Fold.High, dS x.Fold.First, dS x.Fold.Last]
instance : Len TAnswer.ds 8 := ⟨fun _ => rfl⟩
abbrev TAnswer.vs (x : TAnswer) : List V := [.d (lst Kv.ds x.Rows), vI x.Fold.Count, vI x.Fold.Numbers, vI x.Fold.Sum, vI x.Fold.Low, vI x.Fold.High, vS x.Fold.First, vS x.Fold.Last]

end Go.Proofs.YticecfoigpcflaaGreatDoor
