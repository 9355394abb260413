/-
  Lemmas: Models and walks
-/
import Derived.Test.YtkcmgbbopedacaaGreatDoorPY18
import Derived.Test.YtkcmgbbopedacaaGreatDoorPY34
import Derived.Test.YtkcmgbbopedacaaGreatDoorPY36
set_option linter.unusedSimpArgs false
set_option linter.unusedVariables false
namespace Go.Proofs.YtkcmgbbopedacaaGreatDoor
open Go.RowKit
set_option maxRecDepth 100000
set_option maxHeartbeats 4000000
attribute [local irreducible] WK WC WL Wk Rel OpD OpV WD WO sel bnd Ze app Yx lsl Zex ssl Zhj Zg2 ZiR ZhL Op.bytesLess
attribute [local irreducible] Zcv Yg union mlk Zts ZuN Ztq cpy ZcT
theorem Zdc {q0 q1 q2 q3 q4 x1 x2 y:D} {t:Bool} (hm:sel t x2 x1=y):Sp 112 [.a [.d q0,.d q1,.d q2,.d q3,.d q4,.d x1,.d x2,vB t]] [] (.d y) []:=by
 refine si Tryz.func112 Tryz.ntmps112 Tryz.results112 fun B w0 ρ0=>?_
 exact az0 hm
def Zbd (p1:Zk):List Zc :=
 sel p1.Turned (
  p1.Second) (
  p1.First)
instance Zny {p1}:SpT (Zbd p1) fun y=>Sp 112 [.a (Zk.vs p1)] [] (.d (lst Zc.ds y)) []:=⟨fun hm=>by
 refine si Tryz.func112 Tryz.ntmps112 Tryz.results112 fun B w0 ρ0=>?_
 exact az0 hm⟩
def Zap (p1:Zk):Option Zk :=
 Ze (XK p1.Query) fun y2 =>
 Ze (Z7 p1.Cuts) fun y3 =>
 Ze (XJ p1.First) fun y4 =>
 Ze (XJ p1.Second) fun y5 =>
 some (Zk.mk y2 y3 y4 y5 p1.Turned)
instance Zqg {p1}:SpO (Zap p1) fun y=>Sp 114 [.a (Zk.vs p1)] [] (.a (Zk.vs y)) []:=⟨fun hm=>by
 refine si Tryz.func114 Tryz.ntmps114 Tryz.results114 fun B w0 ρ0=>?_
 refine sr ?_
 refine Zh ?_
 refine Zx (id:=1) [⟨0,0,[1]⟩,⟨1,1,[3]⟩,⟨3,0,[1]⟩,⟨4,8,[6]⟩,⟨6,0,[1]⟩,⟨7,64,[9]⟩,⟨9,0,[1]⟩,⟨10,512,[12]⟩,⟨2,3,[4]⟩,⟨12,1759,[1]⟩,⟨5,31,[7]⟩,⟨8,255,[10]⟩,⟨11,2047,[13]⟩,⟨13,8191,[5,15]⟩,⟨14,16383,[1]⟩,⟨15,32767,[8,16]⟩,⟨16,65535,[1]⟩,⟨17,131071,[11,17]⟩,⟨18,262143,[1]⟩,⟨19,524287,[14,18]⟩] mixed (by kernel_rfl) ?_
 exact az0 hm⟩
theorem Zdn {l1:List Zc} {y:List Zc} (hm:XJ l1=some y):Spec Tryz.prog 77 [.d (lst Zc.ds l1)] [] fun u h=>u=.h 1∧h=[(1,some (YR 124 6 Zc.ds y))]:=by
 refine si Tryz.func77 Tryz.ntmps77 Tryz.results77 fun B w0 ρ0=>?_
 refine sr ?_
 refine sr ?_
 obtain ⟨y2,hy,hm⟩:=ZF hm
 refine ZfF (u':=.h 200501) (h':=[(200501,some (YR 124 6 Zc.ds y2))]) (QY (hm:=hy)) 200500 rfl rfl rfl (by repeat (first | exact Vws.nil | apply Vws.cons | exact Vw.nil | exact Vw.d _ | exact Vw.q _ | apply Vw.a)) rfl (by (try simp only [Zfd,Option.map_some,Blk.ren,Zb7]); rfl) rfl rfl rfl rfl ?_
 refine sr ?_
 refine jo1 hm [] [] (fun l10=>[(0,.h 5002)]) (fun _ hm hm1=>?_) (fun l10 hm=>?_) (B:=(fun l10=>[(5002,some (YR 124 6 Zc.ds l10))]))
 ·refine Zl ?_
  refine lf2 hm1 [7] [] (fun l3 x4=>[(0,.h 5001),(8,vI x4)]) (fun κ l3 x4 hm1=>?_) (B:=(fun l3 x4=>[(5001,some (YR 124 6 Zc.ds l3))])) (f:=[(5001,200501)])
  refine sr ?_
  refine Zh ?_
  refine jc0 hm1 [0,7,8] [5001] [] (fun _ hm1 hm2=>?_) (fun hm1=>?_)
  ·refine co hm2 (fun hm2=>?_) fun hm2=>?_
   ·exact Zxu hm hm1 hm2
   exact ZuY [(5002,5001)] hm hm1 hm2
  refine bo' hm1 fun e5 hge5 hm1=>?_
  refine ss ?_
  refine ZK (Zkg (k:=5001) (f:=Zc.ds) (zz:=6) (u:=.a (Zc.vs e5)) (off:=0) hge5 rfl rfl rfl (by exact inferInstance) rfl rfl) rfl rfl rfl ?_
  refine bo hm1 fun y6 hm1=>?_
  refine bo' hm1 fun e7 hge7 hm1=>?_
  refine ss ?_
  obtain ⟨e9,hy,hm1⟩:=Zaf hm1
  have hxe9:=hy
  refine ss ?_
  obtain ⟨l8,hy,hm1⟩:=Zaf hm1
  refine Zqw (lo:=0) (nn:=0) (ZiW (k:=5001) (f:=Zc.ds) (zz:=6) (off:=0) hge7 hy rfl rfl rfl rfl (by exact inferInstance) rfl (by rw [← hxe9]; rfl)) rfl rfl (QJ _ _) ?_
  have hge9:=Zay hge7 e9
  rw [hy] at hge9
  refine sr ?_
  refine ZK (Y0 rfl rfl rfl rfl) rfl rfl rfl ?_
  refine ss ?_
  exact eb1 hm hm1
 exact Zqx [(1,5002)] hm
theorem Zfb {p1:Zk} {y:Zk} (hm:Zap p1=some y):Spec Tryz.prog 114 [.a (Zk.vs p1)] [] fun u h=>u=.a [vI y.Query.Kind,.d (lst Rng.ds y.Query.Ranges),vS y.Query.Key,vI y.Query.Count,.d (lst Bnd.ds y.Cuts),.h 1,.h 2,vB y.Turned]∧h=[(1,some (YR 124 6 Zc.ds y.First)),(2,some (YR 124 6 Zc.ds y.Second))]:=by
 refine si Tryz.func114 Tryz.ntmps114 Tryz.results114 fun B w0 ρ0=>?_
 refine sr ?_
 refine Zh ?_
 refine Zx (id:=1) [⟨0,0,[1]⟩,⟨1,1,[3]⟩,⟨3,0,[1]⟩,⟨4,8,[6]⟩,⟨6,0,[1]⟩,⟨7,64,[9]⟩,⟨9,0,[1]⟩,⟨10,512,[12]⟩,⟨2,3,[4]⟩,⟨12,1759,[1]⟩,⟨5,31,[7]⟩,⟨8,255,[10]⟩,⟨11,2047,[13]⟩,⟨13,8191,[5,15]⟩,⟨14,16383,[1]⟩,⟨15,32767,[8,16]⟩,⟨16,65535,[1]⟩,⟨17,131071,[11,17]⟩,⟨18,262143,[1]⟩,⟨19,524287,[14,18]⟩] mixed (by kernel_rfl) ?_
 refine bo hm fun y2 hm=>?_
 refine bo hm fun y3 hm=>?_
 refine ss ?_
 obtain ⟨y4,hy,hm⟩:=ZF hm
 refine Zll (u':=.h 201101) (h':=[(201101,some (YR 124 6 Zc.ds y4))]) (Zdn (hm:=hy)) 201100 [201101] rfl rfl rfl rfl (by repeat (first | exact Vws.nil | apply Vws.cons | exact Vw.nil | exact Vw.d _ | exact Vw.q _ | apply Vw.a)) rfl (by (try simp only [Zfd,Option.map_some,Blk.ren,Zb7]); rfl) rfl (by first | exact .no rfl | exact .y rfl rfl rfl rfl) rfl rfl rfl rfl rfl ?_
 refine ss ?_
 obtain ⟨y5,hy,hm⟩:=ZF hm
 refine Zll (u':=.h 201401) (h':=[(201401,some (YR 124 6 Zc.ds y5))]) (Zdn (hm:=hy)) 201400 [201401] rfl rfl rfl rfl (by repeat (first | exact Vws.nil | apply Vws.cons | exact Vw.nil | exact Vw.d _ | exact Vw.q _ | apply Vw.a)) rfl (by (try simp only [Zfd,Option.map_some,Blk.ren,Zb7]); rfl) rfl (by first | exact .no rfl | exact .y rfl rfl rfl rfl) rfl rfl rfl rfl rfl ?_
 exact Zqx [(1,201101),(2,201401)] hm
def Zc8 (p1:Zk) (i2:Int) (v3:Zt):Option (Zk × Int) :=
 Ze (
  sel (decide (i2<0)) (
   some true) (
   bnd (Zbd p1) fun y4 =>
   some (decide ((y4.length:Int)≤i2))):Option Bool) fun x5 =>
 sel x5 (
  some ((Zk.mk (Zg.mk 0 [] ⟨#[]⟩ 0) [] [] [] false),2)) (
  Ze (Zap p1) fun y6 =>
  sel y6.Turned (
   Ze (Yx y6.Second i2) fun e7 =>
   Ze (ZcJ e7 v3) fun y8 =>
   sel (!decide (y8.2=0)) (
    some ((Zk.mk (Zg.mk 0 [] ⟨#[]⟩ 0) [] [] [] false),y8.2)) (
    Ze (Yx y6.Second i2) fun e9 =>
    bnd (y8.1) fun e11 =>
    bnd (y6.Second.set (Int.toNat i2) e11) fun l10 =>
    some ((Zk.mk y6.Query y6.Cuts y6.First l10 true),0))) (
   Ze (Yx y6.First i2) fun e12 =>
   Ze (ZcJ e12 v3) fun y13 =>
   sel (!decide (y13.2=0)) (
    some ((Zk.mk (Zg.mk 0 [] ⟨#[]⟩ 0) [] [] [] false),y13.2)) (
    Ze (Yx y6.First i2) fun e14 =>
    bnd (y13.1) fun e16 =>
    bnd (y6.First.set (Int.toNat i2) e16) fun l15 =>
    some ((Zk.mk y6.Query y6.Cuts l15 y6.Second false),0))))
instance ZqT {p1} {i2} {v3}:SpO (Zc8 p1 i2 v3) fun y=>Sp 45 [.a (Zk.vs p1),vI i2,.a (Zt.vs v3)] [] (.t [.a (Zk.vs y.1),vI y.2]) []:=⟨fun hm=>by
 refine si Tryz.func45 Tryz.ntmps45 Tryz.results45 fun B w0 ρ0=>?_
 refine sr ?_
 refine Zh ?_
 refine Zh ?_
 refine jo1 hm [1,3,5,6] [103,105,106] (fun x5=>[(18,vB x5)]) (fun _ hm hm1=>?_) (fun x5 hm=>?_)
 ·exact az1 hm hm1
 refine co hm (fun hm=>?_) fun hm=>?_
 ·exact YF hm
 refine sx ?_
 refine sr ?_
 obtain ⟨y6,hy,hm⟩:=ZF hm
 refine ZfF (u':=.a [vI y6.Query.Kind,.d (lst Rng.ds y6.Query.Ranges),vS y6.Query.Key,vI y6.Query.Count,.d (lst Bnd.ds y6.Cuts),.h 202101,.h 202102,vB y6.Turned]) (h':=[(202101,some (YR 124 6 Zc.ds y6.First)),(202102,some (YR 124 6 Zc.ds y6.Second))]) (Zfb (hm:=hy)) 202100 rfl rfl rfl (by repeat (first | exact Vws.nil | apply Vws.cons | exact Vw.nil | exact Vw.d _ | exact Vw.q _ | apply Vw.a)) rfl (by (try simp only [Zfd,Option.map_some,Blk.ren,Zb7]); rfl) rfl rfl rfl rfl ?_
 refine ss ?_
 refine Zh ?_
 refine Zx (id:=4) [⟨0,0,[3]⟩,⟨2,0,[1]⟩,⟨5,0,[5]⟩,⟨10,0,[]⟩,⟨1,1,[23]⟩,⟨3,7,[24,25]⟩,⟨4,15,[26]⟩,⟨6,63,[27,28]⟩,⟨7,127,[29]⟩,⟨8,255,[22]⟩,⟨9,255,[22]⟩,⟨11,1535,[8,30]⟩,⟨12,4095,[31]⟩] mixed (by kernel_rfl) ?_
 refine ss ?_
 refine ZzK (y6.Turned) (fun h=>?_) (fun h=>?_)
 ·replace hm:=Zg7 h hm
  rw [h]
  refine ss ?_
  refine ZhZ (pre:=[_,_,_,_,_]) (post:=[_]) true 202102 (fun v1 v2=>Zdc (x1:=.c v1) (x2:=.c v2) (slt _ _)) rfl rfl rfl rfl rfl (by first | exact .no rfl | exact .y rfl rfl rfl rfl) rfl rfl ?_
  refine bo' hm fun e7 hge7 hm=>?_
  refine ss ?_
  refine Zoj (kk:=202102) (f:=Zc.ds) (zz:=6) (u:=.a (Zc.vs e7)) (off:=0) hge7 rfl rfl rfl (by exact inferInstance) rfl rfl rfl (by first | exact .no rfl | exact .y rfl rfl rfl rfl) rfl rfl ?_
  refine bo hm fun y8 hm=>?_
  refine co hm (fun hm=>?_) fun hm=>?_
  ·exact YF hm
  refine sx ?_
  refine Zh ?_
  refine Zx (id:=7) [⟨0,0,[3]⟩,⟨2,0,[1]⟩,⟨3,0,[8]⟩,⟨1,1,[36]⟩,⟨4,15,[37,38]⟩,⟨5,31,[39,40]⟩] mixed (by kernel_rfl) ?_
  refine ss ?_
  refine ZhZ (pre:=[_,_,_,_,_]) (post:=[_]) true 202102 (fun v1 v2=>Zdc (x1:=.c v1) (x2:=.c v2) (slt _ _)) rfl rfl rfl rfl rfl (by first | exact .no rfl | exact .y rfl rfl rfl rfl) rfl rfl ?_
  refine bo' hm fun e9 hge9 hm=>?_
  refine ss ?_
  obtain ⟨e11,hy,hm⟩:=Zaf hm
  have hxe11:=hy
  refine ss ?_
  obtain ⟨l10,hy,hm⟩:=Zaf hm
  refine ZsT (kk:=202102) (f:=Zc.ds) (zz:=6) (off:=0) hge9 hy rfl rfl rfl rfl (by exact inferInstance) rfl (by rw [← hxe11]; rfl) rfl (by first | exact .no rfl | exact .y rfl rfl rfl rfl) rfl ?_
  have hge11:=Zay hge9 e11
  rw [hy] at hge11
  exact YF hm
 replace hm:=Zg8 h hm
 rw [h]
 refine ss ?_
 refine ZhZ (pre:=[_,_,_,_,_]) (post:=[_]) false 202101 (fun v1 v2=>Zdc (x1:=.c v1) (x2:=.c v2) (slf _ _)) rfl rfl rfl rfl rfl (by first | exact .no rfl | exact .y rfl rfl rfl rfl) rfl rfl ?_
 refine bo' hm fun e12 hge12 hm=>?_
 refine ss ?_
 refine Zoj (kk:=202101) (f:=Zc.ds) (zz:=6) (u:=.a (Zc.vs e12)) (off:=0) hge12 rfl rfl rfl (by exact inferInstance) rfl rfl rfl (by first | exact .no rfl | exact .y rfl rfl rfl rfl) rfl rfl ?_
 refine bo hm fun y13 hm=>?_
 refine co hm (fun hm=>?_) fun hm=>?_
 ·exact YF hm
 refine sx ?_
 refine Zh ?_
 refine Zx (id:=7) [⟨0,0,[3]⟩,⟨2,0,[1]⟩,⟨3,0,[8]⟩,⟨1,1,[36]⟩,⟨4,15,[37,38]⟩,⟨5,31,[39,40]⟩] mixed (by kernel_rfl) ?_
 refine ss ?_
 refine ZhZ (pre:=[_,_,_,_,_]) (post:=[_]) false 202101 (fun v1 v2=>Zdc (x1:=.c v1) (x2:=.c v2) (slf _ _)) rfl rfl rfl rfl rfl (by first | exact .no rfl | exact .y rfl rfl rfl rfl) rfl rfl ?_
 refine bo' hm fun e14 hge14 hm=>?_
 refine ss ?_
 obtain ⟨e16,hy,hm⟩:=Zaf hm
 have hxe16:=hy
 refine ss ?_
 obtain ⟨l15,hy,hm⟩:=Zaf hm
 refine ZsT (kk:=202101) (f:=Zc.ds) (zz:=6) (off:=0) hge14 hy rfl rfl rfl rfl (by exact inferInstance) rfl (by rw [← hxe16]; rfl) rfl (by first | exact .no rfl | exact .y rfl rfl rfl rfl) rfl ?_
 have hge16:=Zay hge14 e16
 rw [hy] at hge16
 exact YF hm⟩
end Go.Proofs.YtkcmgbbopedacaaGreatDoor
