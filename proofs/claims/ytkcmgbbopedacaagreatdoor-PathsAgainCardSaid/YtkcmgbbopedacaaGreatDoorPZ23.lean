/-
  Lemmas: Models and walks
-/
import Derived.Test.YtkcmgbbopedacaaGreatDoorPZ18
import Derived.Test.YtkcmgbbopedacaaGreatDoorPZ20
import Derived.Test.YtkcmgbbopedacaaGreatDoorPZ21
set_option linter.unusedSimpArgs false
set_option linter.unusedVariables false
namespace Go.Proofs.YtkcmgbbopedacaaGreatDoor
open Go.RowKit
set_option maxRecDepth 100000
set_option maxHeartbeats 4000000
attribute [local irreducible] WK WC WL Wk Rel OpD OpV WD WO sel bnd Ze app YD lsl ZeM ssl ZhA Zhi Zi9 Zh4 Op.bytesLess
attribute [local irreducible] ZcE Yi union
structure YU where
 Epoch:Int
 Version:Int
 deriving DecidableEq
def YU.ds (x:YU):List D:=[dI x.Epoch,dI x.Version]
instance : Len YU.ds 2:=⟨fun _=>rfl⟩
abbrev YU.vs (x:YU):List V:=[vI x.Epoch,vI x.Version]
structure Zr where
 Owner:Int
 Interval:Rng
 Stamp:YU
 Rows:List Kv
 deriving DecidableEq
def Zr.ds (x:Zr):List D:=[dI x.Owner,dS x.Interval.lo.key,dB x.Interval.lo.top,dS x.Interval.hi.key,dB x.Interval.hi.top,dI x.Stamp.Epoch,dI x.Stamp.Version,lst Kv.ds x.Rows]
instance : Len Zr.ds 8:=⟨fun _=>rfl⟩
abbrev Zr.vs (x:Zr):List V:=[vI x.Owner,vS x.Interval.lo.key,vB x.Interval.lo.top,vS x.Interval.hi.key,vB x.Interval.hi.top,vI x.Stamp.Epoch,vI x.Stamp.Version,.d (lst Kv.ds x.Rows)]
structure Zi where
 View:Zr
 Part:Rng
 deriving DecidableEq
def Zi.ds (x:Zi):List D:=[dI x.View.Owner,dS x.View.Interval.lo.key,dB x.View.Interval.lo.top,dS x.View.Interval.hi.key,dB x.View.Interval.hi.top,dI x.View.Stamp.Epoch,dI x.View.Stamp.Version,lst Kv.ds x.View.Rows,dS x.Part.lo.key,dB x.Part.lo.top,dS x.Part.hi.key,dB x.Part.hi.top]
instance : Len Zi.ds 12:=⟨fun _=>rfl⟩
abbrev Zi.vs (x:Zi):List V:=[vI x.View.Owner,vS x.View.Interval.lo.key,vB x.View.Interval.lo.top,vS x.View.Interval.hi.key,vB x.View.Interval.hi.top,vI x.View.Stamp.Epoch,vI x.View.Stamp.Version,.d (lst Kv.ds x.View.Rows),vS x.Part.lo.key,vB x.Part.lo.top,vS x.Part.hi.key,vB x.Part.hi.top]
structure Z7 where
 Query:Zf
 First:List Zi
 Second:List Zi
 deriving DecidableEq
def Z7.ds (x:Z7):List D:=[dI x.Query.Kind,lst Rng.ds x.Query.Ranges,dS x.Query.Key,dI x.Query.Count,lst Zi.ds x.First,lst Zi.ds x.Second]
instance : Len Z7.ds 6:=⟨fun _=>rfl⟩
abbrev Z7.vs (x:Z7):List V:=[vI x.Query.Kind,.d (lst Rng.ds x.Query.Ranges),vS x.Query.Key,vI x.Query.Count,.d (lst Zi.ds x.First),.d (lst Zi.ds x.Second)]
structure ZaD where
 Key:ByteArray
 Value:ByteArray
 Delete:Bool
 deriving DecidableEq
def ZaD.ds (x:ZaD):List D:=[dS x.Key,dS x.Value,dB x.Delete]
instance : Len ZaD.ds 3:=⟨fun _=>rfl⟩
abbrev ZaD.vs (x:ZaD):List V:=[vS x.Key,vS x.Value,vB x.Delete]
structure ZgG where
 Kind:Int
 Writes:List ZaD
 Key:ByteArray
 Value:ByteArray
 Has:Bool
 Query:Int
 Receipt:Z7
 deriving DecidableEq
def ZgG.ds (x:ZgG):List D:=[dI x.Kind,lst ZaD.ds x.Writes,dS x.Key,dS x.Value,dB x.Has,dI x.Query,dI x.Receipt.Query.Kind,lst Rng.ds x.Receipt.Query.Ranges,dS x.Receipt.Query.Key,dI x.Receipt.Query.Count,lst Zi.ds x.Receipt.First,lst Zi.ds x.Receipt.Second]
instance : Len ZgG.ds 12:=⟨fun _=>rfl⟩
abbrev ZgG.vs (x:ZgG):List V:=[vI x.Kind,.d (lst ZaD.ds x.Writes),vS x.Key,vS x.Value,vB x.Has,vI x.Query,vI x.Receipt.Query.Kind,.d (lst Rng.ds x.Receipt.Query.Ranges),vS x.Receipt.Query.Key,vI x.Receipt.Query.Count,.d (lst Zi.ds x.Receipt.First),.d (lst Zi.ds x.Receipt.Second)]
structure Zc where
 Query:Zf
 Todo:List Rng
 Visits:List Zi
 deriving DecidableEq
def Zc.ds (x:Zc):List D:=[dI x.Query.Kind,lst Rng.ds x.Query.Ranges,dS x.Query.Key,dI x.Query.Count,lst Rng.ds x.Todo,lst Zi.ds x.Visits]
instance : Len Zc.ds 6:=⟨fun _=>rfl⟩
abbrev Zc.vs (x:Zc):List V:=[vI x.Query.Kind,.d (lst Rng.ds x.Query.Ranges),vS x.Query.Key,vI x.Query.Count,.d (lst Rng.ds x.Todo),.d (lst Zi.ds x.Visits)]
structure ZcG where
 Serial:Int
 From:Int
 To:Int
 Stamp:YU
 Range:Rng
 Rows:List Kv
 deriving DecidableEq
def ZcG.ds (x:ZcG):List D:=[dI x.Serial,dI x.From,dI x.To,dI x.Stamp.Epoch,dI x.Stamp.Version,dS x.Range.lo.key,dB x.Range.lo.top,dS x.Range.hi.key,dB x.Range.hi.top,lst Kv.ds x.Rows]
instance : Len ZcG.ds 10:=⟨fun _=>rfl⟩
abbrev ZcG.vs (x:ZcG):List V:=[vI x.Serial,vI x.From,vI x.To,vI x.Stamp.Epoch,vI x.Stamp.Version,vS x.Range.lo.key,vB x.Range.lo.top,vS x.Range.hi.key,vB x.Range.hi.top,.d (lst Kv.ds x.Rows)]
structure ZcH where
 Range:Rng
 Stamp:YU
 Rows:List Kv
 Pending:List ZaD
 Out:ZcG
 In:ZcG
 Took:Int
 From:Int
 deriving DecidableEq
def ZcH.ds (x:ZcH):List D:=[dS x.Range.lo.key,dB x.Range.lo.top,dS x.Range.hi.key,dB x.Range.hi.top,dI x.Stamp.Epoch,dI x.Stamp.Version,lst Kv.ds x.Rows,lst ZaD.ds x.Pending,dI x.Out.Serial,dI x.Out.From,dI x.Out.To,dI x.Out.Stamp.Epoch,dI x.Out.Stamp.Version,dS x.Out.Range.lo.key,dB x.Out.Range.lo.top,dS x.Out.Range.hi.key,dB x.Out.Range.hi.top,lst Kv.ds x.Out.Rows,dI x.In.Serial,dI x.In.From,dI x.In.To,dI x.In.Stamp.Epoch,dI x.In.Stamp.Version,dS x.In.Range.lo.key,dB x.In.Range.lo.top,dS x.In.Range.hi.key,dB x.In.Range.hi.top,lst Kv.ds x.In.Rows,dI x.Took,dI x.From]
instance : Len ZcH.ds 30:=⟨fun _=>rfl⟩
abbrev ZcH.vs (x:ZcH):List V:=[vS x.Range.lo.key,vB x.Range.lo.top,vS x.Range.hi.key,vB x.Range.hi.top,vI x.Stamp.Epoch,vI x.Stamp.Version,.d (lst Kv.ds x.Rows),.d (lst ZaD.ds x.Pending),vI x.Out.Serial,vI x.Out.From,vI x.Out.To,vI x.Out.Stamp.Epoch,vI x.Out.Stamp.Version,vS x.Out.Range.lo.key,vB x.Out.Range.lo.top,vS x.Out.Range.hi.key,vB x.Out.Range.hi.top,.d (lst Kv.ds x.Out.Rows),vI x.In.Serial,vI x.In.From,vI x.In.To,vI x.In.Stamp.Epoch,vI x.In.Stamp.Version,vS x.In.Range.lo.key,vB x.In.Range.lo.top,vS x.In.Range.hi.key,vB x.In.Range.hi.top,.d (lst Kv.ds x.In.Rows),vI x.Took,vI x.From]
structure Xb where
 ID:Int
 Up:Bool
 Copy:ZcH
 deriving DecidableEq
def Xb.ds (x:Xb):List D:=[dI x.ID,dB x.Up,dS x.Copy.Range.lo.key,dB x.Copy.Range.lo.top,dS x.Copy.Range.hi.key,dB x.Copy.Range.hi.top,dI x.Copy.Stamp.Epoch,dI x.Copy.Stamp.Version,lst Kv.ds x.Copy.Rows,lst ZaD.ds x.Copy.Pending,dI x.Copy.Out.Serial,dI x.Copy.Out.From,dI x.Copy.Out.To,dI x.Copy.Out.Stamp.Epoch,dI x.Copy.Out.Stamp.Version,dS x.Copy.Out.Range.lo.key,dB x.Copy.Out.Range.lo.top,dS x.Copy.Out.Range.hi.key,dB x.Copy.Out.Range.hi.top,lst Kv.ds x.Copy.Out.Rows,dI x.Copy.In.Serial,dI x.Copy.In.From,dI x.Copy.In.To,dI x.Copy.In.Stamp.Epoch,dI x.Copy.In.Stamp.Version,dS x.Copy.In.Range.lo.key,dB x.Copy.In.Range.lo.top,dS x.Copy.In.Range.hi.key,dB x.Copy.In.Range.hi.top,lst Kv.ds x.Copy.In.Rows,dI x.Copy.Took,dI x.Copy.From]
instance : Len Xb.ds 32:=⟨fun _=>rfl⟩
abbrev Xb.vs (x:Xb):List V:=[vI x.ID,vB x.Up,vS x.Copy.Range.lo.key,vB x.Copy.Range.lo.top,vS x.Copy.Range.hi.key,vB x.Copy.Range.hi.top,vI x.Copy.Stamp.Epoch,vI x.Copy.Stamp.Version,.d (lst Kv.ds x.Copy.Rows),.d (lst ZaD.ds x.Copy.Pending),vI x.Copy.Out.Serial,vI x.Copy.Out.From,vI x.Copy.Out.To,vI x.Copy.Out.Stamp.Epoch,vI x.Copy.Out.Stamp.Version,vS x.Copy.Out.Range.lo.key,vB x.Copy.Out.Range.lo.top,vS x.Copy.Out.Range.hi.key,vB x.Copy.Out.Range.hi.top,.d (lst Kv.ds x.Copy.Out.Rows),vI x.Copy.In.Serial,vI x.Copy.In.From,vI x.Copy.In.To,vI x.Copy.In.Stamp.Epoch,vI x.Copy.In.Stamp.Version,vS x.Copy.In.Range.lo.key,vB x.Copy.In.Range.lo.top,vS x.Copy.In.Range.hi.key,vB x.Copy.In.Range.hi.top,.d (lst Kv.ds x.Copy.In.Rows),vI x.Copy.Took,vI x.Copy.From]
structure Z8 where
 Number:Int
 Open:Bool
 Members:List Xb
 deriving DecidableEq
def Z8.ds (x:Z8):List D:=[dI x.Number,dB x.Open,lst Xb.ds x.Members]
instance : Len Z8.ds 3:=⟨fun _=>rfl⟩
abbrev Z8.vs (x:Z8):List V:=[vI x.Number,vB x.Open,.d (lst Xb.ds x.Members)]
def QO (a1:Bnd) (b2:Bnd):Bnd :=
 bnd (Zl b2 a1) fun y3 =>
 sel (decide (0<y3)) (
  b2) (
  a1)
instance Zkn {a1} {b2}:SpT (QO a1 b2) fun y=>Sp 211 [.a [vS a1.key,vB a1.top],.a [vS b2.key,vB b2.top]] [] (.a [vS y.key,vB y.top]) []:=⟨fun hm=>by
 refine si Tryz.func211 Tryz.ntmps211 Tryz.results211 fun B w0 ρ0=>?_
 exact az0 hm⟩
def Zah (a1:Bnd) (b2:Bnd):Bnd :=
 bnd (Zl b2 a1) fun y3 =>
 sel (decide (y3<0)) (
  b2) (
  a1)
instance Zlp {a1} {b2}:SpT (Zah a1 b2) fun y=>Sp 212 [.a [vS a1.key,vB a1.top],.a [vS b2.key,vB b2.top]] [] (.a [vS y.key,vB y.top]) []:=⟨fun hm=>by
 refine si Tryz.func212 Tryz.ntmps212 Tryz.results212 fun B w0 ρ0=>?_
 exact az0 hm⟩
def X5 (a1:Rng) (b2:Rng):Rng :=
 bnd (QO a1.lo b2.lo) fun y3 =>
 bnd (Zah a1.hi b2.hi) fun y4 =>
 bnd (ZV a1) fun y5 =>
 sel y5 (
  (Rng.mk (Bnd.mk ⟨#[]⟩ false) (Bnd.mk ⟨#[]⟩ false))) (
  bnd (ZV b2) fun y6 =>
  sel y6 (
   (Rng.mk (Bnd.mk ⟨#[]⟩ false) (Bnd.mk ⟨#[]⟩ false))) (
   bnd (ZV (Rng.mk y3 y4)) fun y7 =>
   sel y7 (
    (Rng.mk (Bnd.mk ⟨#[]⟩ false) (Bnd.mk ⟨#[]⟩ false))) (
    (Rng.mk y3 y4))))
instance Zi7 {a1} {b2}:SpT (X5 a1 b2) fun y=>Sp 171 [.a (Rng.vs a1),.a (Rng.vs b2)] [] (.a (Rng.vs y)) []:=⟨fun hm=>by
 refine si Tryz.func171 Tryz.ntmps171 Tryz.results171 fun B w0 ρ0=>?_
 refine sr ?_
 refine Zg ?_
 refine Zy (id:=1) [⟨0,0,[2]⟩,⟨1,1,[6]⟩,⟨2,0,[3]⟩,⟨3,4,[8]⟩,⟨5,0,[2]⟩,⟨6,32,[11]⟩,⟨7,0,[3]⟩,⟨8,128,[13]⟩,⟨11,0,[]⟩,⟨4,15,[7,9]⟩,⟨9,511,[12,14]⟩,⟨10,1023,[10,15]⟩,⟨12,4095,[5,16]⟩] mixed (by kernel_rfl) ?_
 refine bp hm fun y3 hm=>?_
 refine bp hm fun y4 hm=>?_
 refine bp hm fun y5 hm=>?_
 refine co hm (fun hm=>?_) fun hm=>?_
 ·refine ss ?_
  refine Xn rfl ?_
  exact YF hm
 refine bp hm fun y6 hm=>?_
 refine co hm (fun hm=>?_) fun hm=>?_
 ·refine ss ?_
  refine Xn rfl ?_
  exact YF hm
 exact az0 hm⟩
def Zbn (a1:Bnd) (b2:Bnd):Bnd :=
 bnd (Zk a1 b2) fun y3 =>
 sel (decide (0≤y3)) (
  a1) (
  b2)
instance ZnL {a1} {b2}:SpT (Zbn a1 b2) fun y=>Sp 72 [.a [vS a1.key,vB a1.top],.a [vS b2.key,vB b2.top]] [] (.a [vS y.key,vB y.top]) []:=⟨fun hm=>by
 refine si Tryz.func72 Tryz.ntmps72 Tryz.results72 fun B w0 ρ0=>?_
 exact az0 hm⟩
def Zda (a1:Bnd) (b2:Bnd):Bnd :=
 bnd (Zk a1 b2) fun y3 =>
 sel (decide (y3≤0)) (
  a1) (
  b2)
instance Zrl {a1} {b2}:SpT (Zda a1 b2) fun y=>Sp 233 [.a [vS a1.key,vB a1.top],.a [vS b2.key,vB b2.top]] [] (.a [vS y.key,vB y.top]) []:=⟨fun hm=>by
 refine si Tryz.func233 Tryz.ntmps233 Tryz.results233 fun B w0 ρ0=>?_
 exact az0 hm⟩
def Zcs (r1:Rng):Rng :=
 bnd (ZU r1) fun y2 =>
 sel y2 (
  (Rng.mk (Bnd.mk ⟨#[]⟩ false) (Bnd.mk ⟨#[]⟩ false))) (
  r1)
instance ZqK {r1}:SpT (Zcs r1) fun y=>Sp 232 [.a (Rng.vs r1)] [] (.a (Rng.vs y)) []:=⟨fun hm=>by
 refine si Tryz.func232 Tryz.ntmps232 Tryz.results232 fun B w0 ρ0=>?_
 exact az0 hm⟩
def XH (a1:Rng) (b2:Rng):Rng :=
 bnd (
  bnd (ZU a1) fun y3 =>
  sel y3 (
   true) (
   bnd (ZU b2) fun y4 =>
   y4):Bool) fun x5 =>
 sel x5 (
  (Rng.mk (Bnd.mk ⟨#[]⟩ false) (Bnd.mk ⟨#[]⟩ false))) (
  bnd (Zbn a1.lo b2.lo) fun y6 =>
  bnd (Zda a1.hi b2.hi) fun y7 =>
  bnd (Zcs (Rng.mk y6 y7)) fun y8 =>
  y8)
instance ZmX {a1} {b2}:SpT (XH a1 b2) fun y=>Sp 204 [.a (Rng.vs a1),.a (Rng.vs b2)] [] (.a (Rng.vs y)) []:=⟨fun hm=>by
 refine si Tryz.func204 Tryz.ntmps204 Tryz.results204 fun B w0 ρ0=>?_
 refine sr ?_
 refine Zg ?_
 refine Zg ?_
 refine jp1 hm [2,3,4] [102,103,104] (fun x5=>[(10,vB x5)]) (fun _ hm hm1=>?_) (fun x5 hm=>?_)
 ·exact az1 hm hm1
 refine co hm (fun hm=>?_) fun hm=>?_
 ·exact YF hm
 refine sx ?_
 refine Zg ?_
 refine Zy (id:=3) [⟨0,0,[2]⟩,⟨1,1,[12]⟩,⟨2,0,[3]⟩,⟨3,4,[14]⟩,⟨5,0,[2]⟩,⟨6,32,[17]⟩,⟨7,0,[3]⟩,⟨8,128,[19]⟩,⟨4,15,[13,15]⟩,⟨9,511,[18,20]⟩,⟨10,1023,[16,21]⟩,⟨11,2047,[22]⟩,⟨12,4095,[4,23]⟩] mixed (by kernel_rfl) ?_
 exact az0 hm⟩
def Yb (l1:List Rng):Option (List Rng) :=
 Ze (app ([]:List Rng) l1) fun l2 =>
 some l2
instance Zhz {l1}:SpO (Yb l1) fun y=>Sp 139 [.d (lst Rng.ds l1)] [] (.d (lst Rng.ds y)) []:=⟨fun hm=>by
 refine si Tryz.func139 Tryz.ntmps139 Tryz.results139 fun B w0 ρ0=>?_
 exact az0 hm⟩
def XU (q1:Zf):Option Zf :=
 Ze (Yb q1.Ranges) fun y2 =>
 some (Zf.mk q1.Kind y2 q1.Key q1.Count)
instance ZqU {q1}:SpO (XU q1) fun y=>Sp 76 [.a (Zf.vs q1)] [] (.a (Zf.vs y)) []:=⟨fun hm=>by
 refine si Tryz.func76 Tryz.ntmps76 Tryz.results76 fun B w0 ρ0=>?_
 exact az0 hm⟩
def Zdl (v1:Zr):Option Zr :=
 Ze (Z9 v1.Rows) fun y2 =>
 some (Zr.mk v1.Owner v1.Interval v1.Stamp y2)
instance Zra {v1}:SpO (Zdl v1) fun y=>Sp 224 [.a (Zr.vs v1)] [] (.a (Zr.vs y)) []:=⟨fun hm=>by
 refine si Tryz.func224 Tryz.ntmps224 Tryz.results224 fun B w0 ρ0=>?_
 exact az0 hm⟩
def Xe (l1:List Zi):Option (List Zi) :=
 Ze (app ([]:List Zi) l1) fun l2 =>
 some l2
instance Zhy {l1}:SpO (Xe l1) fun y=>Sp 223 [.d (lst Zi.ds l1)] [] (.d (lst Zi.ds y)) []:=⟨fun hm=>by
 refine si Tryz.func223 Tryz.ntmps223 Tryz.results223 fun B w0 ρ0=>?_
 exact az0 hm⟩
theorem QT {l1:List Zi} {y:List Zi} (hm:Xe l1=some y):Spec Tryz.prog 223 [.d (lst Zi.ds l1)] [] fun u h=>u=.h 1∧h=[(1,some (YY 149 12 Zi.ds y))]:=by
 refine si Tryz.func223 Tryz.ntmps223 Tryz.results223 fun B w0 ρ0=>?_
 refine bo hm fun l2 hm=>?_
 exact ZqV [(1,104)] hm
def Qd (y2:List Zi):Nat→List Zi→Int→Option (List Zi)
 | 0,_,_=>none
 | fuel+1,l3,x4 =>
 Ze (
  sel (decide (x4<(y2.length:Int))) (
   some (Ctl.nxt ())) (
   some (Ctl.ret l3)):Option (Ctl (List Zi) Unit)) fun mu=>Yz mu fun (_:Unit) =>
 Ze (YD l3 x4) fun e5 =>
 Ze (Zdl e5.View) fun y6 =>
 Ze (YD l3 x4) fun e7 =>
 bnd ((Zi.mk y6 e7.Part)) fun e9 =>
 bnd (l3.set (Int.toNat x4) e9) fun l8 =>
 Qd y2 fuel l8 (ZJ (x4+1))
def QK (l1:List Zi):Option (List Zi) :=
 Ze (Xe l1) fun y2 =>
 Ze (
  Qd y2 FU y2 0:Option (List Zi)) fun l10 =>
 some l10
instance Zof {l1}:SpO (QK l1) fun y=>Sp 194 [.d (lst Zi.ds l1)] [] (.d (lst Zi.ds y)) []:=⟨fun hm=>by
 refine si Tryz.func194 Tryz.ntmps194 Tryz.results194 fun B w0 ρ0=>?_
 refine sr ?_
 refine sr ?_
 obtain ⟨y2,hy,hm⟩:=ZH hm
 refine ZfY (u':=.h 200501) (h':=[(200501,some (YY 149 12 Zi.ds y2))]) (QT (hm:=hy)) 200500 rfl rfl rfl (by repeat (first | exact Vws.nil | apply Vws.cons | exact Vw.nil | exact Vw.d _ | exact Vw.q _ | apply Vw.a)) rfl (by (try simp only [Zfw,Option.map_some,Blk.ren,Zcf]); rfl) rfl rfl rfl rfl ?_
 refine sr ?_
 refine jo1 hm [] [] (fun l10=>[(0,.d (lst Zi.ds l10))]) (fun _ hm hm1=>?_) (fun l10 hm=>?_)
 ·refine Zm ?_
  refine lf2 hm1 [7] [] (fun l3 x4=>[(0,.h 5001),(8,vI x4)]) (fun κ l3 x4 hm1=>?_) (B:=(fun l3 x4=>[(5001,some (YY 149 12 Zi.ds l3))])) (f:=[(5001,200501)])
  refine sr ?_
  refine Zg ?_
  refine jc0 hm1 [0,7,8] [5001] [] (fun _ hm1 hm2=>?_) (fun hm1=>?_)
  ·exact az2 hm hm1 hm2
  refine bo' hm1 fun e5 hge5 hm1=>?_
  refine ss ?_
  refine ZL (Zkz (k:=5001) (f:=Zi.ds) (zz:=12) (u:=.a (Zr.vs e5.View)) (off:=0) hge5 rfl rfl rfl (by exact inferInstance) rfl rfl) rfl rfl rfl ?_
  refine bo hm1 fun y6 hm1=>?_
  refine bo' hm1 fun e7 hge7 hm1=>?_
  refine ss ?_
  obtain ⟨e9,hy,hm1⟩:=Zao hm1
  have hxe9:=hy
  refine ss ?_
  obtain ⟨l8,hy,hm1⟩:=Zao hm1
  refine ZqW (lo:=0) (nn:=0) (Zje (k:=5001) (f:=Zi.ds) (zz:=12) (off:=0) hge7 hy rfl rfl rfl rfl (by exact inferInstance) rfl (by rw [← hxe9]; rfl)) rfl rfl (QX _ _) ?_
  have hge9:=ZaI hge7 e9
  rw [hy] at hge9
  refine sr ?_
  refine ZL (YZ rfl rfl rfl rfl) rfl rfl rfl ?_
  refine ss ?_
  exact eb1 hm hm1
 exact YF hm⟩
def Zbe (w1:Zc):Option Zc :=
 Ze (XU w1.Query) fun y2 =>
 Ze (Yb w1.Todo) fun y3 =>
 Ze (QK w1.Visits) fun y4 =>
 some (Zc.mk y2 y3 y4)
instance Zrm {w1}:SpO (Zbe w1) fun y=>Sp 141 [.a (Zc.vs w1)] [] (.a (Zc.vs y)) []:=⟨fun hm=>by
 refine si Tryz.func141 Tryz.ntmps141 Tryz.results141 fun B w0 ρ0=>?_
 refine sr ?_
 refine Zg ?_
 refine Zy (id:=1) [⟨0,0,[1]⟩,⟨1,1,[3]⟩,⟨3,0,[1]⟩,⟨4,8,[6]⟩,⟨6,0,[1]⟩,⟨7,64,[9]⟩,⟨2,3,[4]⟩,⟨9,223,[1]⟩,⟨5,31,[7]⟩,⟨8,255,[10]⟩,⟨10,1023,[5,12]⟩,⟨11,2047,[1]⟩,⟨12,4095,[8,13]⟩,⟨13,8191,[1]⟩,⟨14,16383,[11,14]⟩] mixed (by kernel_rfl) ?_
 exact az0 hm⟩
def Zcn (s1:YU):Bool :=
 sel (decide (0≤s1.Epoch)) (
  sel (decide (s1.Epoch≤1099511627776)) (
   sel (decide (0≤s1.Version)) (
    decide (s1.Version≤1099511627776)) (
    false)) (
   false)) (
  false)
instance ZqN {s1}:SpT (Zcn s1) fun y=>Sp 210 [.a [vI s1.Epoch,vI s1.Version]] [] (vB y) []:=⟨fun hm=>by
 refine si Tryz.func210 Tryz.ntmps210 Tryz.results210 fun B w0 ρ0=>?_
 exact az0 hm⟩
def Qv (s1:YU):Bool :=
 sel (decide (0≤s1.Epoch)) (
  sel (decide (s1.Epoch≤1099511627776)) (
   sel (decide (0≤s1.Version)) (
    decide (s1.Version≤1099511627776)) (
    false)) (
   false)) (
  false)
instance Zqy {s1}:SpT (Qv s1) fun y=>Sp 151 [.a [vI s1.Epoch,vI s1.Version]] [] (vB y) []:=⟨fun hm=>by
 refine si Tryz.func151 Tryz.ntmps151 Tryz.results151 fun B w0 ρ0=>?_
 exact az0 hm⟩
def Y6 (n1:Int):Bool :=
 sel (decide (1≤n1)) (
  decide (n1≤2147483647)) (
  false)
instance Zol {n1}:SpT (Y6 n1) fun y=>Sp 153 [vI n1] [] (vB y) []:=⟨fun hm=>by
 refine si Tryz.func153 Tryz.ntmps153 Tryz.results153 fun B w0 ρ0=>?_
 exact az0 hm⟩
def ZQ (a1:Rng) (b2:Rng):Bool :=
 bnd (Zk a1.lo b2.lo) fun y3 =>
 sel (decide (y3=0)) (
  bnd (Zk a1.hi b2.hi) fun y4 =>
  decide (y4=0)) (
  false)
instance Zlu {a1} {b2}:SpT (ZQ a1 b2) fun y=>Sp 207 [.a (Rng.vs a1),.a (Rng.vs b2)] [] (vB y) []:=⟨fun hm=>by
 refine si Tryz.func207 Tryz.ntmps207 Tryz.results207 fun B w0 ρ0=>?_
 exact az0 hm⟩
def Zam (r2:Rng):List Kv→Ctl Bool Unit
 | [] =>
 Ctl.nxt ()
 | r3::xs4 =>
 bnd (Xz r2 r3.key) fun y6 =>
 sel (!y6) (
  Ctl.ret false) (
  Zam r2 xs4)
def Xo (t1:List Kv) (r2:Rng):Bool :=
 bnd (
  Zam r2 t1:Ctl Bool Unit) fun mu=>Zs5 mu fun (_:Unit) =>
 true
instance Zoh {t1} {r2}:SpT (Xo t1 r2) fun y=>Sp 152 [.d (lst Kv.ds t1),.a (Rng.vs r2)] [] (vB y) []:=⟨fun hm=>by
 refine si Tryz.func152 Tryz.ntmps152 Tryz.results152 fun B w0 ρ0=>?_
 refine sr ?_
 refine sr ?_
 refine jd0 hm [] [] [] (fun _ hm hm1=>?_) (fun hm=>?_)
 ·refine Zm ?_
  refine lr0 hm1 7 [3,7,8] [103] (fun m5=>[(9,vI (m5:Int))]) (fun hlenm5 m5 r3 hltm5 hxm5 hm1=>?_) (fun m5 hm1=>?_)
  ·refine bp hm1 fun y6 hm1=>?_
   refine co hm1 (fun hm1=>?_) fun hm1=>?_
   ·exact ZcF hm hm1
   exact eb1 hm hm1
  exact ZbU hm hm1
 exact YF hm⟩
def QN (out6:List Bnd) (y8:(Bnd × ZC)):Nat→List Int→Int→Int→Option (List Int × Int × Int)
 | 0,_,_,_=>none
 | fuel+1,x9,x10,k11 =>
 sel (decide (0<k11)) (
  Ze (YD out6 (ZJ (k11 - 1))) fun e12 =>
  bnd (Zk e12 y8.1) fun y13 =>
  sel (decide (0<y13)) (
   Ze (ZF (ZC.mk x9 x10) 20) fun y14 =>
   sel (!y14.1) (
    QN out6 y8 fuel y14.2.l y14.2.at_ (ZJ (k11 - 1))) (
    some (y14.2.l,y14.2.at_,k11))) (
   some (x9,x10,k11))) (
  some (x9,x10,k11))
def QM:Nat→List Int→Int→List Bnd→Int→Option (List Bnd × List Int × Int)
 | 0,_,_,_,_=>none
 | fuel+1,x4,x5,out6,i7 =>
 Ze (
  sel (decide (0<i7)) (
   some (Ctl.nxt ())) (
   some (Ctl.ret (out6,x4,x5))):Option (Ctl (List Bnd × List Int × Int) Unit)) fun mu=>Yz mu fun (_:Unit) =>
 Ze (
  Ze (Xc (ZC.mk x4 x5)) fun y8 =>
  Ze (
   QN out6 y8 FU y8.2.l y8.2.at_ (out6.length:Int):Option (List Int × Int × Int)) fun (x15,x16,k17) =>
  Ze (
   sel (decide (0<k17)) (
    Ze (YD out6 (ZJ (k17 - 1))) fun e18 =>
    bnd (Zk e18 y8.1) fun y19 =>
    sel (decide (y19=0)) (
     Ze (ZF (ZC.mk x15 x16) 20) fun y20 =>
     sel (!y20.1) (
      some (y20.2.l,y20.2.at_,true)) (
      bnd (Z4 y8.1) fun y21 =>
      sel (!y21) (
       Ze (ZF y20.2 20) fun y22 =>
       some (y22.2.l,y22.2.at_,!y22.1)) (
       some (y20.2.l,y20.2.at_,false)))) (
     bnd (Z4 y8.1) fun y23 =>
     sel (!y23) (
      Ze (ZF (ZC.mk x15 x16) 20) fun y24 =>
      some (y24.2.l,y24.2.at_,!y24.1)) (
      some (x15,x16,false)))) (
    bnd (Z4 y8.1) fun y25 =>
    sel (!y25) (
     Ze (ZF (ZC.mk x15 x16) 20) fun y26 =>
     some (y26.2.l,y26.2.at_,!y26.1)) (
     some (x15,x16,false))):Option (List Int × Int × Bool)) fun (x27,x28,x29) =>
  Ze (
   sel x29 (
    some (Ctl.ret (x27,x28,out6))) (
    some (Ctl.nxt ())):Option (Ctl (List Int × Int × List Bnd) Unit)) fun mu=>Yz mu fun (_:Unit) =>
  Ze (lsl out6 0 k17) fun l30 =>
  Ze (app ([]:List Bnd) l30) fun l31 =>
  Ze (app l31 ([y8.1]:List Bnd)) fun l32 =>
  Ze (lsl out6 k17 (out6.length:Int)) fun l33 =>
  Ze (app l32 l33) fun l34 =>
  some (x27,x28,l34):Option (List Int × Int × List Bnd)) fun (x35,x36,out37) =>
 QM fuel x35 x36 out37 (ZJ (i7 - 1))
def Zab (t1:ZC) (n2:Int):Option (List Bnd × ZC) :=
 Ze (Zt t1 (ZJ (n2+1))) fun y3 =>
 Ze (
  QM FU y3.2.l y3.2.at_ [] y3.1:Option (List Bnd × List Int × Int)) fun (out38,x39,x40) =>
 some (out38,(ZC.mk x39 x40))
instance ZnT {t1} {n2}:SpO (Zab t1 n2) fun y=>Sp 13 [.p 0 0,vI n2] [(0,some (.box 126 [.d (lst dsI t1.l),vI t1.at_]))] (.d (lst Bnd.ds y.1)) ([(0,some (.box 126 [.d (lst dsI y.2.l),vI y.2.at_]))]):=⟨fun hm=>by
 refine si Tryz.func13 Tryz.ntmps13 Tryz.results13 fun B w0 ρ0=>?_
 refine bo hm fun y3 hm=>?_
 refine ss ?_
 refine jo3 hm [] [] (fun out38 x39 x40=>[(5,.d (lst Bnd.ds out38))]) (fun _ hm hm1=>?_) (fun out38 x39 x40 hm=>?_) (B:=(fun out38 x39 x40=>[(0,some (.box 126 [.d (lst dsI x39),vI x40]))]))
 ·refine Zm ?_
  refine lf4 hm1 [0] [] (fun x4 x5 out6 i7=>[(5,.d (lst Bnd.ds out6)),(6,vI i7)]) (fun κ x4 x5 out6 i7 hm1=>?_) (B:=(fun x4 x5 out6 i7=>[(0,some (.box 126 [.d (lst dsI x4),vI x5]))]))
  refine sr ?_
  refine jc0 hm1 [0,5,6] [0] [] (fun _ hm1 hm2=>?_) (fun hm1=>?_)
  ·exact az2 hm hm1 hm2
  refine ss ?_
  refine Zg ?_
  refine jo3 hm1 [0,6] [] (fun x35 x36 out37=>[(5,.d (lst Bnd.ds out37))]) (fun _ hm1 hm2=>?_) (fun x35 x36 out37 hm1=>?_) (B:=(fun x35 x36 out37=>[(0,some (.box 126 [.d (lst dsI x35),vI x36]))]))
  ·refine bo hm2 fun y8 hm2=>?_
   refine sr ?_
   refine Zg ?_
   refine jo3 hm2 [0,5,6,7] [107] (fun x15 x16 k17=>[(8,vI k17)]) (fun _ hm2 hm3=>?_) (fun x15 x16 k17 hm2=>?_) (B:=(fun x15 x16 k17=>[(0,some (.box 126 [.d (lst dsI x15),vI x16]))]))
   ·refine Zm ?_
    refine lf3 hm3 [0,5,6,7] [107] (fun x9 x10 k11=>[(8,vI k11)]) (fun κ x9 x10 k11 hm3=>?_) (B:=(fun x9 x10 k11=>[(0,some (.box 126 [.d (lst dsI x9),vI x10]))]))
    refine Zg ?_
    refine Zg ?_
    refine Zy (id:=7) [⟨0,0,[8]⟩,⟨1,1,[21]⟩,⟨2,3,[22]⟩,⟨3,7,[5,23]⟩,⟨4,7,[8,23]⟩,⟨5,23,[23,25]⟩,⟨6,63,[23,24,26]⟩,⟨7,127,[23,27]⟩,⟨8,7,[7,23]⟩,⟨9,511,[23,28,29]⟩,⟨10,1023,[23,30]⟩,⟨11,2047,[23,31]⟩,⟨12,4095,[32]⟩,⟨13,8191,[0,33]⟩,⟨14,16383,[33,34]⟩,⟨15,32767,[33,35]⟩,⟨16,65535,[33,36]⟩] mixed (by kernel_rfl) ?_
    refine co hm3 (fun hm3=>?_) fun hm3=>?_
    ·refine bo hm3 fun e12 hm3=>?_
     refine bp hm3 fun y13 hm3=>?_
     refine co hm3 (fun hm3=>?_) fun hm3=>?_
     ·refine bo hm3 fun y14 hm3=>?_
      refine co hm3 (fun hm3=>?_) fun hm3=>?_
      ·exact eb3 hm hm1 hm2 hm3
      exact Zvl hm hm1 hm2 hm3
     refine ss ?_
     refine Yf rfl ?_
     exact Zvl hm hm1 hm2 hm3
    refine ss ?_
    refine Yf rfl ?_
    exact Zvl hm hm1 hm2 hm3
   refine ss ?_
   refine Zg ?_
   refine Zg ?_
   refine jo3 hm2 [0,5,6,7,8] [107] (fun x27 x28 x29=>[(66,vB x29)]) (fun _ hm2 hm3=>?_) (fun x27 x28 x29 hm2=>?_) (B:=(fun x27 x28 x29=>[(0,some (.box 126 [.d (lst dsI x27),vI x28]))]))
   ·refine Zy (id:=9) [⟨0,0,[8]⟩,⟨1,1,[40]⟩,⟨2,3,[41]⟩,⟨3,7,[5,42]⟩,⟨4,7,[8,42]⟩,⟨5,23,[42,44]⟩,⟨6,63,[42,43,45]⟩,⟨7,127,[42,46]⟩,⟨8,7,[7,42]⟩,⟨9,511,[42,47,48]⟩,⟨10,1023,[42,49]⟩,⟨11,2047,[42,50]⟩,⟨12,4095,[51]⟩,⟨13,8191,[0,52]⟩,⟨14,16383,[52,53]⟩,⟨15,32767,[52,54]⟩,⟨16,65535,[52,55]⟩,⟨17,131071,[56]⟩,⟨18,262143,[7,57]⟩,⟨19,524287,[57,58]⟩,⟨20,1048575,[57,59]⟩,⟨21,2097151,[57,60]⟩,⟨22,4194303,[0,61]⟩,⟨23,8388607,[61,62]⟩,⟨24,16777215,[61,63]⟩,⟨25,33554431,[57,61,64]⟩,⟨26,67108863,[57,65]⟩] mixed (by kernel_rfl) ?_
    exact az3 hm hm1 hm2 hm3
   refine ss ?_
   refine jc0 hm2 [0,5,6,7,8] [0,107] [] (fun _ hm2 hm3=>?_) (fun hm2=>?_)
   ·exact az3 hm hm1 hm2 hm3
   refine ss ?_
   refine Zy (id:=10) [⟨0,0,[5]⟩,⟨1,0,[8]⟩,⟨2,3,[67,68]⟩,⟨3,7,[69]⟩,⟨4,0,[7]⟩,⟨5,16,[71]⟩,⟨6,63,[70,72]⟩,⟨7,0,[5]⟩,⟨8,0,[8]⟩,⟨9,384,[74,75]⟩,⟨10,1023,[73,76]⟩,⟨11,2047,[77]⟩] mixed (by kernel_rfl) ?_
   refine bo hm2 fun l30 hm2=>?_
   refine bo hm2 fun l31 hm2=>?_
   refine ss ?_
   refine ZeP Bnd.ds [y8.1] rfl rfl (by simp only [YB,Zq,List.cons_append,List.nil_append,List.append_nil]; exact rfl) rfl rfl rfl rfl (by first | exact .no rfl | exact .y rfl rfl rfl rfl) rfl rfl ?_
   exact az2 hm hm1 hm2
  exact eb1 hm hm1
 exact YF hm⟩
end Go.Proofs.YtkcmgbbopedacaaGreatDoor
