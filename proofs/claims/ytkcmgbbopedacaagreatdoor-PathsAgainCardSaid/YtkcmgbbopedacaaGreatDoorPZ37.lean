/-
  Lemmas: Models and walks
-/
import Derived.Test.YtkcmgbbopedacaaGreatDoorPZ18
import Derived.Test.YtkcmgbbopedacaaGreatDoorPZ34
import Derived.Test.YtkcmgbbopedacaaGreatDoorPZ36
set_option linter.unusedSimpArgs false
set_option linter.unusedVariables false
namespace Go.Proofs.YtkcmgbbopedacaaGreatDoor
open Go.RowKit
set_option maxRecDepth 100000
set_option maxHeartbeats 4000000
attribute [local irreducible] WK WC WL Wk Rel OpD OpV WD WO sel bnd Ze app YD lsl ZeM ssl ZhA Zhi Zi9 Zh4 Op.bytesLess
attribute [local irreducible] ZcE Yi union mlk ZtS Zve ZtT cpy Zc2
theorem Zdd {q0 q1 q2 q3 q4 x1 x2 y:D} {t:Bool} (hm:sel t x2 x1=y):Sp 112 [.a [.d q0,.d q1,.d q2,.d q3,.d q4,.d x1,.d x2,vB t]] [] (.d y) []:=by
 refine si Tryz.func112 Tryz.ntmps112 Tryz.results112 fun B w0 ρ0=>?_
 exact az0 hm
def Q8 (p1:Zh):List Zc :=
 sel p1.Turned (
  p1.Second) (
  p1.First)
instance ZnU {p1}:SpT (Q8 p1) fun y=>Sp 112 [.a (Zh.vs p1)] [] (.d (lst Zc.ds y)) []:=⟨fun hm=>by
 refine si Tryz.func112 Tryz.ntmps112 Tryz.results112 fun B w0 ρ0=>?_
 exact az0 hm⟩
def ZeF (p1:Zh) (i2:Int):Option (Rng × Bool) :=
 bnd (Q8 p1) fun y3 =>
 Ze (
  sel (decide (i2<0)) (
   some true) (
   some (decide ((y3.length:Int)≤i2))):Option Bool) fun x4 =>
 sel x4 (
  some ((Rng.mk (Bnd.mk ⟨#[]⟩ false) (Bnd.mk ⟨#[]⟩ false)),false)) (
  Ze (YD y3 i2) fun e5 =>
  Ze (ZcQ e5) fun y6 =>
  some (y6.1,y6.2))
instance Zri {p1} {i2}:SpO (ZeF p1 i2) fun y=>Sp 44 [.a (Zh.vs p1),vI i2] [] (.t [.a (Rng.vs y.1),vB y.2]) []:=⟨fun hm=>by
 refine si Tryz.func44 Tryz.ntmps44 Tryz.results44 fun B w0 ρ0=>?_
 refine bp hm fun y3 hm=>?_
 refine ss ?_
 refine Zg ?_
 refine Zg ?_
 refine jo1 hm [1,4,6] [104] (fun x4=>[(16,vB x4)]) (fun _ hm hm1=>?_) (fun x4 hm=>?_)
 ·exact az1 hm hm1
 exact az0 hm⟩
def Qw (p1:Zh):Option Zh :=
 Ze (XU p1.Query) fun y2 =>
 Ze (Ya p1.Cuts) fun y3 =>
 Ze (XR p1.First) fun y4 =>
 Ze (XR p1.Second) fun y5 =>
 some (Zh.mk y2 y3 y4 y5 p1.Turned)
instance ZqE {p1}:SpO (Qw p1) fun y=>Sp 114 [.a (Zh.vs p1)] [] (.a (Zh.vs y)) []:=⟨fun hm=>by
 refine si Tryz.func114 Tryz.ntmps114 Tryz.results114 fun B w0 ρ0=>?_
 refine sr ?_
 refine Zg ?_
 refine Zy (id:=1) [⟨0,0,[1]⟩,⟨1,1,[3]⟩,⟨3,0,[1]⟩,⟨4,8,[6]⟩,⟨6,0,[1]⟩,⟨7,64,[9]⟩,⟨9,0,[1]⟩,⟨10,512,[12]⟩,⟨2,3,[4]⟩,⟨12,1759,[1]⟩,⟨5,31,[7]⟩,⟨8,255,[10]⟩,⟨11,2047,[13]⟩,⟨13,8191,[5,15]⟩,⟨14,16383,[1]⟩,⟨15,32767,[8,16]⟩,⟨16,65535,[1]⟩,⟨17,131071,[11,17]⟩,⟨18,262143,[1]⟩,⟨19,524287,[14,18]⟩] mixed (by kernel_rfl) ?_
 exact az0 hm⟩
theorem Zdy {l1:List Zc} {y:List Zc} (hm:XR l1=some y):Spec Tryz.prog 77 [.d (lst Zc.ds l1)] [] fun u h=>u=.h 1∧h=[(1,some (YY 124 6 Zc.ds y))]:=by
 refine si Tryz.func77 Tryz.ntmps77 Tryz.results77 fun B w0 ρ0=>?_
 refine sr ?_
 refine sr ?_
 obtain ⟨y2,hy,hm⟩:=ZH hm
 refine ZfY (u':=.h 200501) (h':=[(200501,some (YY 124 6 Zc.ds y2))]) (Zac (hm:=hy)) 200500 rfl rfl rfl (by repeat (first | exact Vws.nil | apply Vws.cons | exact Vw.nil | exact Vw.d _ | exact Vw.q _ | apply Vw.a)) rfl (by (try simp only [Zfw,Option.map_some,Blk.ren,Zcf]); rfl) rfl rfl rfl rfl ?_
 refine sr ?_
 refine jo1 hm [] [] (fun l10=>[(0,.h 5002)]) (fun _ hm hm1=>?_) (fun l10 hm=>?_) (B:=(fun l10=>[(5002,some (YY 124 6 Zc.ds l10))]))
 ·refine Zm ?_
  refine lf2 hm1 [7] [] (fun l3 x4=>[(0,.h 5001),(8,vI x4)]) (fun κ l3 x4 hm1=>?_) (B:=(fun l3 x4=>[(5001,some (YY 124 6 Zc.ds l3))])) (f:=[(5001,200501)])
  refine sr ?_
  refine Zg ?_
  refine jc0 hm1 [0,7,8] [5001] [] (fun _ hm1 hm2=>?_) (fun hm1=>?_)
  ·refine co hm2 (fun hm2=>?_) fun hm2=>?_
   ·exact Zxu hm hm1 hm2
   exact Zvn [(5002,5001)] hm hm1 hm2
  refine bo' hm1 fun e5 hge5 hm1=>?_
  refine ss ?_
  refine ZL (Zkz (k:=5001) (f:=Zc.ds) (zz:=6) (u:=.a (Zc.vs e5)) (off:=0) hge5 rfl rfl rfl (by exact inferInstance) rfl rfl) rfl rfl rfl ?_
  refine bo hm1 fun y6 hm1=>?_
  refine bo' hm1 fun e7 hge7 hm1=>?_
  refine ss ?_
  obtain ⟨e9,hy,hm1⟩:=Zao hm1
  have hxe9:=hy
  refine ss ?_
  obtain ⟨l8,hy,hm1⟩:=Zao hm1
  refine ZqW (lo:=0) (nn:=0) (Zje (k:=5001) (f:=Zc.ds) (zz:=6) (off:=0) hge7 hy rfl rfl rfl rfl (by exact inferInstance) rfl (by rw [← hxe9]; rfl)) rfl rfl (QX _ _) ?_
  have hge9:=ZaI hge7 e9
  rw [hy] at hge9
  refine sr ?_
  refine ZL (YZ rfl rfl rfl rfl) rfl rfl rfl ?_
  refine ss ?_
  exact eb1 hm hm1
 exact ZqV [(1,5002)] hm
theorem Zfu {p1:Zh} {y:Zh} (hm:Qw p1=some y):Spec Tryz.prog 114 [.a (Zh.vs p1)] [] fun u h=>u=.a [vI y.Query.Kind,.d (lst Rng.ds y.Query.Ranges),vS y.Query.Key,vI y.Query.Count,.d (lst Bnd.ds y.Cuts),.h 1,.h 2,vB y.Turned]∧h=[(1,some (YY 124 6 Zc.ds y.First)),(2,some (YY 124 6 Zc.ds y.Second))]:=by
 refine si Tryz.func114 Tryz.ntmps114 Tryz.results114 fun B w0 ρ0=>?_
 refine sr ?_
 refine Zg ?_
 refine Zy (id:=1) [⟨0,0,[1]⟩,⟨1,1,[3]⟩,⟨3,0,[1]⟩,⟨4,8,[6]⟩,⟨6,0,[1]⟩,⟨7,64,[9]⟩,⟨9,0,[1]⟩,⟨10,512,[12]⟩,⟨2,3,[4]⟩,⟨12,1759,[1]⟩,⟨5,31,[7]⟩,⟨8,255,[10]⟩,⟨11,2047,[13]⟩,⟨13,8191,[5,15]⟩,⟨14,16383,[1]⟩,⟨15,32767,[8,16]⟩,⟨16,65535,[1]⟩,⟨17,131071,[11,17]⟩,⟨18,262143,[1]⟩,⟨19,524287,[14,18]⟩] mixed (by kernel_rfl) ?_
 refine bo hm fun y2 hm=>?_
 refine bo hm fun y3 hm=>?_
 refine ss ?_
 obtain ⟨y4,hy,hm⟩:=ZH hm
 refine ZlH (u':=.h 201101) (h':=[(201101,some (YY 124 6 Zc.ds y4))]) (Zdy (hm:=hy)) 201100 [201101] rfl rfl rfl rfl (by repeat (first | exact Vws.nil | apply Vws.cons | exact Vw.nil | exact Vw.d _ | exact Vw.q _ | apply Vw.a)) rfl (by (try simp only [Zfw,Option.map_some,Blk.ren,Zcf]); rfl) rfl (by first | exact .no rfl | exact .y rfl rfl rfl rfl) rfl rfl rfl rfl rfl ?_
 refine ss ?_
 obtain ⟨y5,hy,hm⟩:=ZH hm
 refine ZlH (u':=.h 201401) (h':=[(201401,some (YY 124 6 Zc.ds y5))]) (Zdy (hm:=hy)) 201400 [201401] rfl rfl rfl rfl (by repeat (first | exact Vws.nil | apply Vws.cons | exact Vw.nil | exact Vw.d _ | exact Vw.q _ | apply Vw.a)) rfl (by (try simp only [Zfw,Option.map_some,Blk.ren,Zcf]); rfl) rfl (by first | exact .no rfl | exact .y rfl rfl rfl rfl) rfl rfl rfl rfl rfl ?_
 exact ZqV [(1,201101),(2,201401)] hm
def Zdb (p1:Zh) (i2:Int) (v3:Zr):Option (Zh × Int) :=
 Ze (
  sel (decide (i2<0)) (
   some true) (
   bnd (Q8 p1) fun y4 =>
   some (decide ((y4.length:Int)≤i2))):Option Bool) fun x5 =>
 sel x5 (
  some ((Zh.mk (Zf.mk 0 [] ⟨#[]⟩ 0) [] [] [] false),2)) (
  Ze (Qw p1) fun y6 =>
  sel y6.Turned (
   Ze (YD y6.Second i2) fun e7 =>
   Ze (ZcM e7 v3) fun y8 =>
   sel (!decide (y8.2=0)) (
    some ((Zh.mk (Zf.mk 0 [] ⟨#[]⟩ 0) [] [] [] false),y8.2)) (
    Ze (YD y6.Second i2) fun e9 =>
    bnd (y8.1) fun e11 =>
    bnd (y6.Second.set (Int.toNat i2) e11) fun l10 =>
    some ((Zh.mk y6.Query y6.Cuts y6.First l10 true),0))) (
   Ze (YD y6.First i2) fun e12 =>
   Ze (ZcM e12 v3) fun y13 =>
   sel (!decide (y13.2=0)) (
    some ((Zh.mk (Zf.mk 0 [] ⟨#[]⟩ 0) [] [] [] false),y13.2)) (
    Ze (YD y6.First i2) fun e14 =>
    bnd (y13.1) fun e16 =>
    bnd (y6.First.set (Int.toNat i2) e16) fun l15 =>
    some ((Zh.mk y6.Query y6.Cuts l15 y6.Second false),0))))
instance Zq7 {p1} {i2} {v3}:SpO (Zdb p1 i2 v3) fun y=>Sp 45 [.a (Zh.vs p1),vI i2,.a (Zr.vs v3)] [] (.t [.a (Zh.vs y.1),vI y.2]) []:=⟨fun hm=>by
 refine si Tryz.func45 Tryz.ntmps45 Tryz.results45 fun B w0 ρ0=>?_
 refine sr ?_
 refine Zg ?_
 refine Zg ?_
 refine jo1 hm [1,3,5,6] [103,105,106] (fun x5=>[(18,vB x5)]) (fun _ hm hm1=>?_) (fun x5 hm=>?_)
 ·exact az1 hm hm1
 refine co hm (fun hm=>?_) fun hm=>?_
 ·exact YF hm
 refine sx ?_
 refine sr ?_
 obtain ⟨y6,hy,hm⟩:=ZH hm
 refine ZfY (u':=.a [vI y6.Query.Kind,.d (lst Rng.ds y6.Query.Ranges),vS y6.Query.Key,vI y6.Query.Count,.d (lst Bnd.ds y6.Cuts),.h 202101,.h 202102,vB y6.Turned]) (h':=[(202101,some (YY 124 6 Zc.ds y6.First)),(202102,some (YY 124 6 Zc.ds y6.Second))]) (Zfu (hm:=hy)) 202100 rfl rfl rfl (by repeat (first | exact Vws.nil | apply Vws.cons | exact Vw.nil | exact Vw.d _ | exact Vw.q _ | apply Vw.a)) rfl (by (try simp only [Zfw,Option.map_some,Blk.ren,Zcf]); rfl) rfl rfl rfl rfl ?_
 refine ss ?_
 refine Zg ?_
 refine Zy (id:=4) [⟨0,0,[3]⟩,⟨2,0,[1]⟩,⟨5,0,[5]⟩,⟨10,0,[]⟩,⟨1,1,[23]⟩,⟨3,7,[24,25]⟩,⟨4,15,[26]⟩,⟨6,63,[27,28]⟩,⟨7,127,[29]⟩,⟨8,255,[22]⟩,⟨9,255,[22]⟩,⟨11,1535,[8,30]⟩,⟨12,4095,[31]⟩] mixed (by kernel_rfl) ?_
 refine ss ?_
 refine Zz2 (y6.Turned) (fun h=>?_) (fun h=>?_)
 ·replace hm:=Zhq h hm
  rw [h]
  refine ss ?_
  refine Zh7 (pre:=[_,_,_,_,_]) (post:=[_]) true 202102 (fun v1 v2=>Zdd (x1:=.c v1) (x2:=.c v2) (slt _ _)) rfl rfl rfl rfl rfl (by first | exact .no rfl | exact .y rfl rfl rfl rfl) rfl rfl ?_
  refine bo' hm fun e7 hge7 hm=>?_
  refine ss ?_
  refine ZoD (kk:=202102) (f:=Zc.ds) (zz:=6) (u:=.a (Zc.vs e7)) (off:=0) hge7 rfl rfl rfl (by exact inferInstance) rfl rfl rfl (by first | exact .no rfl | exact .y rfl rfl rfl rfl) rfl rfl ?_
  refine bo hm fun y8 hm=>?_
  refine co hm (fun hm=>?_) fun hm=>?_
  ·exact YF hm
  refine sx ?_
  refine Zg ?_
  refine Zy (id:=7) [⟨0,0,[3]⟩,⟨2,0,[1]⟩,⟨3,0,[8]⟩,⟨1,1,[36]⟩,⟨4,15,[37,38]⟩,⟨5,31,[39,40]⟩] mixed (by kernel_rfl) ?_
  refine ss ?_
  refine Zh7 (pre:=[_,_,_,_,_]) (post:=[_]) true 202102 (fun v1 v2=>Zdd (x1:=.c v1) (x2:=.c v2) (slt _ _)) rfl rfl rfl rfl rfl (by first | exact .no rfl | exact .y rfl rfl rfl rfl) rfl rfl ?_
  refine bo' hm fun e9 hge9 hm=>?_
  refine ss ?_
  obtain ⟨e11,hy,hm⟩:=Zao hm
  have hxe11:=hy
  refine ss ?_
  obtain ⟨l10,hy,hm⟩:=Zao hm
  refine Ztk (kk:=202102) (f:=Zc.ds) (zz:=6) (off:=0) hge9 hy rfl rfl rfl rfl (by exact inferInstance) rfl (by rw [← hxe11]; rfl) rfl (by first | exact .no rfl | exact .y rfl rfl rfl rfl) rfl ?_
  have hge11:=ZaI hge9 e11
  rw [hy] at hge11
  exact YF hm
 replace hm:=Zhn h hm
 rw [h]
 refine ss ?_
 refine Zh7 (pre:=[_,_,_,_,_]) (post:=[_]) false 202101 (fun v1 v2=>Zdd (x1:=.c v1) (x2:=.c v2) (slf _ _)) rfl rfl rfl rfl rfl (by first | exact .no rfl | exact .y rfl rfl rfl rfl) rfl rfl ?_
 refine bo' hm fun e12 hge12 hm=>?_
 refine ss ?_
 refine ZoD (kk:=202101) (f:=Zc.ds) (zz:=6) (u:=.a (Zc.vs e12)) (off:=0) hge12 rfl rfl rfl (by exact inferInstance) rfl rfl rfl (by first | exact .no rfl | exact .y rfl rfl rfl rfl) rfl rfl ?_
 refine bo hm fun y13 hm=>?_
 refine co hm (fun hm=>?_) fun hm=>?_
 ·exact YF hm
 refine sx ?_
 refine Zg ?_
 refine Zy (id:=7) [⟨0,0,[3]⟩,⟨2,0,[1]⟩,⟨3,0,[8]⟩,⟨1,1,[36]⟩,⟨4,15,[37,38]⟩,⟨5,31,[39,40]⟩] mixed (by kernel_rfl) ?_
 refine ss ?_
 refine Zh7 (pre:=[_,_,_,_,_]) (post:=[_]) false 202101 (fun v1 v2=>Zdd (x1:=.c v1) (x2:=.c v2) (slf _ _)) rfl rfl rfl rfl rfl (by first | exact .no rfl | exact .y rfl rfl rfl rfl) rfl rfl ?_
 refine bo' hm fun e14 hge14 hm=>?_
 refine ss ?_
 obtain ⟨e16,hy,hm⟩:=Zao hm
 have hxe16:=hy
 refine ss ?_
 obtain ⟨l15,hy,hm⟩:=Zao hm
 refine Ztk (kk:=202101) (f:=Zc.ds) (zz:=6) (off:=0) hge14 hy rfl rfl rfl rfl (by exact inferInstance) rfl (by rw [← hxe16]; rfl) rfl (by first | exact .no rfl | exact .y rfl rfl rfl rfl) rfl ?_
 have hge16:=ZaI hge14 e16
 rw [hy] at hge16
 exact YF hm⟩
end Go.Proofs.YtkcmgbbopedacaaGreatDoor
