/-
  Lemmas: Models and walks
-/
import Derived.Test.YtkcmgbbopedacaaGreatDoorPZ18
import Derived.Test.YtkcmgbbopedacaaGreatDoorPZ23
import Derived.Test.YtkcmgbbopedacaaGreatDoorPZ21
set_option linter.unusedSimpArgs false
set_option linter.unusedVariables false
namespace Go.Proofs.YtkcmgbbopedacaaGreatDoor
open Go.RowKit
set_option maxRecDepth 100000
set_option maxHeartbeats 4000000
attribute [local irreducible] WK WC WL Wk Rel OpD OpV WD WO sel bnd Ze app YD lsl ZeM ssl ZhA Zhi Zi9 Zh4 Op.bytesLess
attribute [local irreducible] ZcE Yi union
def ZbD (outer1:Rng) (inner2:Rng):Bool :=
 bnd (ZV outer1) fun y3 =>
 sel (!y3) (
  bnd (Zl outer1.lo inner2.lo) fun y4 =>
  sel (decide (y4≤0)) (
   bnd (Zl inner2.hi outer1.hi) fun y5 =>
   decide (y5≤0)) (
   false)) (
  false)
instance Zqx {outer1} {inner2}:SpT (ZbD outer1 inner2) fun y=>Sp 193 [.a (Rng.vs outer1),.a (Rng.vs inner2)] [] (vB y) []:=⟨fun hm=>by
 refine si Tryz.func193 Tryz.ntmps193 Tryz.results193 fun B w0 ρ0=>?_
 exact az0 hm⟩
def Qi (r5:Rng):List Rng→Bool→Option Bool
 | [],found12 =>
 some found12
 | r13::xs14,found12 =>
 sel found12 (
  Qi r5 xs14 true) (
  bnd (ZbD r13 r5) fun y16 =>
  Qi r5 xs14 y16)
def Zbq (ranges2:List Rng) (y4:List Rng):List Rng→Int→Option (Ctl (Zc × Int) Unit)
 | [],i =>
 some (Ctl.nxt ())
 | r5::xs6,i =>
 Ze (
  bnd (ZV r5) fun y8 =>
  sel y8 (
   some (Ctl.ret (Ctl.ret ((Zc.mk (Zf.mk 0 [] ⟨#[]⟩ 0) [] []),1)))) (
   Ze (
    sel (decide (0<i)) (
     Ze (YD ranges2 (ZJ (i - 1))) fun e9 =>
     bnd (Zl r5.lo e9.hi) fun y10 =>
     some (decide (y10<0))) (
     some false):Option Bool) fun x11 =>
   sel x11 (
    some (Ctl.ret (Ctl.ret ((Zc.mk (Zf.mk 0 [] ⟨#[]⟩ 0) [] []),8)))) (
    Ze (
     Qi r5 y4 false:Option Bool) fun found17 =>
    sel (!found17) (
     some (Ctl.ret (Ctl.ret ((Zc.mk (Zf.mk 0 [] ⟨#[]⟩ 0) [] []),2)))) (
     some (Ctl.nxt ())))):Option (Ctl (Ctl (Zc × Int) Unit) Unit)) fun mu=>Yz mu fun (_:Unit) =>
 Zbq ranges2 y4 xs6 (i+1)
def Zat (q1:Zf) (ranges2:List Rng):Option (Zc × Int) :=
 Ze (Y8 q1) fun y3 =>
 sel (!decide (y3=0)) (
  some ((Zc.mk (Zf.mk 0 [] ⟨#[]⟩ 0) [] []),y3)) (
  sel (decide (128<(ranges2.length:Int))) (
   some ((Zc.mk (Zf.mk 0 [] ⟨#[]⟩ 0) [] []),3)) (
   Ze (YK q1) fun y4 =>
   Ze (
    Zbq ranges2 y4 ranges2 0:Option (Ctl (Zc × Int) Unit)) fun mu=>Yz mu fun (_:Unit) =>
   Ze (XU q1) fun y18 =>
   Ze (Yb ranges2) fun y19 =>
   some ((Zc.mk y18 y19 []),0)))
instance Zq5 {q1} {ranges2}:SpO (Zat q1 ranges2) fun y=>Sp 138 [.a (Zf.vs q1),.d (lst Rng.ds ranges2)] [] (.t [.a (Zc.vs y.1),vI y.2]) []:=⟨fun hm=>by
 refine si Tryz.func138 Tryz.ntmps138 Tryz.results138 fun B w0 ρ0=>?_
 refine sr ?_
 refine sr ?_
 obtain ⟨y3,hy,hm⟩:=ZH hm
 refine Zhp (Zb8 (hm:=hy)) ?_
 refine co hm (fun hm=>?_) fun hm=>?_
 ·exact YF hm
 refine co hm (fun hm=>?_) fun hm=>?_
 ·exact YF hm
 refine sx ?_
 refine sr ?_
 obtain ⟨y4,hy,hm⟩:=ZH hm
 refine Zhp (ZbI (hm:=hy)) ?_
 refine sr ?_
 refine jc0 hm [1,2,4] [102,104] [] (fun _ hm hm1=>?_) (fun hm=>?_)
 ·refine Zm ?_
  refine Zrq hm1 25 [1,2,4,7,25,26] [102,104] (fun m7=>[(27,vI (m7:Int))]) (fun hlenm7 m7 r5 hltm7 hxm7 hm1=>?_) (fun m7 hm1=>?_)
  ·refine sx ?_
   refine Zg ?_
   refine jc0 hm1 [1,2,4,7,25,26,27] [102,104] [] (fun _ hm1 hm2=>?_) (fun hm1=>?_)
   ·refine bp hm2 fun y8 hm2=>?_
    refine co hm2 (fun hm2=>?_) fun hm2=>?_
    ·exact Zzd hm hm1 hm2
    refine sx ?_
    refine Zg ?_
    refine Zg ?_
    refine jo1 hm2 [1,2,4,7,9,25,26,27] [102,104,109] (fun x11=>[(48,vB x11)]) (fun _ hm2 hm3=>?_) (fun x11 hm2=>?_)
    ·refine Zy (id:=12) [⟨0,0,[8]⟩,⟨1,1,[35]⟩,⟨2,3,[36]⟩,⟨3,7,[9,37]⟩,⟨4,15,[37,38]⟩,⟨5,7,[1,37]⟩,⟨6,7,[8,37]⟩,⟨7,71,[37,41]⟩,⟨8,231,[37,40,42]⟩,⟨9,487,[37,43]⟩,⟨10,999,[37,44]⟩,⟨11,2047,[37,39,45]⟩,⟨12,4095,[37,46]⟩,⟨13,8191,[37,47]⟩] mixed (by kernel_rfl) ?_
     exact az3 hm hm1 hm2 hm3
    refine co hm2 (fun hm2=>?_) fun hm2=>?_
    ·exact Zzd hm hm1 hm2
    refine sx ?_
    refine sr ?_
    refine sr ?_
    refine jo1 hm2 [1,2,4,7,25,26,27] [102,104] (fun found17=>[(10,vB found17)]) (fun _ hm2 hm3=>?_) (fun found17 hm2=>?_)
    ·refine Zm ?_
     refine lr1 hm3 50 [1,2,4,7,9,25,26,27,50,51] [102,104,109] (fun m15 found12=>[(10,vB found12),(52,vI (m15:Int))]) (fun hlenm15 m15 found12 r13 hltm15 hxm15 hm3=>?_) (fun m15 found12 hm3=>?_)
     ·refine co hm3 (fun hm3=>?_) fun hm3=>?_
      ·exact eb3 hm hm1 hm2 hm3
      refine bp hm3 fun y16 hm3=>?_
      exact eb3 hm hm1 hm2 hm3
     exact Zvl hm hm1 hm2 hm3
    exact az2 hm hm1 hm2
   exact eb1 hm hm1
  exact ZbU hm hm1
 exact az0 hm⟩
def ZaS:List Zi→List Kv→Option (List Kv)
 | [],out2 =>
 some out2
 | r3::xs4,out2 =>
 Ze (app out2 r3.View.Rows) fun l6 =>
 ZaS xs4 l6
def ZcS (w1:Zc):Option (List Kv) :=
 Ze (
  ZaS w1.Visits []:Option (List Kv)) fun out7 =>
 some out7
instance Zs3 {w1}:SpO (ZcS w1) fun y=>Sp 209 [.a (Zc.vs w1)] [] (.d (lst Kv.ds y)) []:=⟨fun hm=>by
 refine si Tryz.func209 Tryz.ntmps209 Tryz.results209 fun B w0 ρ0=>?_
 refine sr ?_
 refine sr ?_
 refine sr ?_
 refine jo1 hm [] [] (fun out7=>[(3,.d (lst Kv.ds out7))]) (fun _ hm hm1=>?_) (fun out7 hm=>?_)
 ·refine Zm ?_
  refine ZbW (ZbY 3 5001 154 2 rfl rfl) ?_
  refine lr1 hm1 7 [7,8] [] (fun m5 out2=>[(3,.h 5001),(9,vI (m5:Int))]) (fun hlenm5 m5 out2 r3 hltm5 hxm5 hm1=>?_) (fun m5 out2 hm1=>?_) (B:=(fun m5 out2=>[(5001,some (YY 154 2 Kv.ds out2))]))
  ·refine bo hm1 fun l6 hm1=>?_
   exact Zh5 [(5001,117)] hm hm1
  exact ZbU hm hm1
 exact YF hm⟩
def ZcR (w1:Zc):Option Bool :=
 sel (decide ((w1.Todo.length:Int)=0)) (
  some true) (
  Ze (ZcS w1) fun y2 =>
  bnd (ZaQ w1.Query (y2.length:Int)) fun y3 =>
  some y3)
instance Zs2 {w1}:SpO (ZcR w1) fun y=>Sp 168 [.a (Zc.vs w1)] [] (vB y) []:=⟨fun hm=>by
 refine si Tryz.func168 Tryz.ntmps168 Tryz.results168 fun B w0 ρ0=>?_
 refine sr ?_
 refine Zg ?_
 refine Zy (id:=1) [⟨0,0,[1]⟩,⟨1,1,[3]⟩,⟨2,3,[4]⟩,⟨3,7,[5]⟩,⟨4,15,[6]⟩,⟨5,31,[1,7]⟩,⟨6,63,[7,8]⟩,⟨7,31,[1,7]⟩,⟨8,159,[7,10]⟩,⟨9,415,[7,11]⟩,⟨10,1023,[7,9,12]⟩,⟨11,2047,[7,13]⟩,⟨12,4095,[14]⟩] mixed (by kernel_rfl) ?_
 exact az0 hm⟩
def ZcQ (w1:Zc):Option (Rng × Bool) :=
 Ze (ZcR w1) fun y2 =>
 sel y2 (
  some ((Rng.mk (Bnd.mk ⟨#[]⟩ false) (Bnd.mk ⟨#[]⟩ false)),false)) (
  bnd (Qt w1.Query) fun y3 =>
  sel y3 (
   Ze (YD w1.Todo (ZJ ((w1.Todo.length:Int) - 1))) fun e4 =>
   some (e4,true)) (
   Ze (YD w1.Todo 0) fun e5 =>
   some (e5,true)))
instance ZsW {w1}:SpO (ZcQ w1) fun y=>Sp 113 [.a (Zc.vs w1)] [] (.t [.a (Rng.vs y.1),vB y.2]) []:=⟨fun hm=>by
 refine si Tryz.func113 Tryz.ntmps113 Tryz.results113 fun B w0 ρ0=>?_
 exact az0 hm⟩
def QA (v1:Zr):Option Bool :=
 sel (decide (1≤v1.Owner)) (
  sel (decide (v1.Owner≤2147483647)) (
   bnd (ZV v1.Interval) fun y2 =>
   sel (!y2) (
    bnd (Zcn v1.Stamp) fun y3 =>
    sel y3 (
     Ze (Zcr v1.Rows) fun y4 =>
     sel y4 (
      Ze (ZaA v1.Rows v1.Interval) fun y5 =>
      some (decide ((y5.length:Int)=(v1.Rows.length:Int)))) (
      some false)) (
     some false)) (
    some false)) (
   some false)) (
  some false)
instance ZmY {v1}:SpO (QA v1) fun y=>Sp 170 [.a (Zr.vs v1)] [] (vB y) []:=⟨fun hm=>by
 refine si Tryz.func170 Tryz.ntmps170 Tryz.results170 fun B w0 ρ0=>?_
 refine sr ?_
 refine Zg ?_
 refine Zy (id:=1) [⟨0,0,[1]⟩,⟨1,1,[3]⟩,⟨2,3,[4]⟩,⟨3,7,[5]⟩,⟨4,15,[1,6]⟩,⟨5,31,[6,7]⟩,⟨6,63,[6,8]⟩,⟨7,127,[6,9]⟩,⟨8,255,[10]⟩,⟨9,511,[1,11]⟩,⟨10,1023,[11,12]⟩,⟨11,2047,[11,13]⟩,⟨12,4095,[11,14]⟩,⟨13,8191,[11,15]⟩,⟨14,16383,[16]⟩,⟨15,32767,[1,17]⟩,⟨16,65535,[17,18]⟩,⟨17,131071,[17,19]⟩,⟨18,262143,[17,20]⟩,⟨19,524287,[21]⟩,⟨20,1048575,[1,22]⟩,⟨21,2097151,[22,23]⟩,⟨22,4194303,[22,24]⟩,⟨23,8388607,[22,25]⟩,⟨24,16777215,[26]⟩,⟨25,33554431,[1,27]⟩,⟨26,67108863,[27,28]⟩,⟨27,33554431,[1,27]⟩,⟨28,167772159,[27,30]⟩,⟨31,33554431,[1,27]⟩,⟨32,2181038079,[27,34]⟩,⟨33,6476005375,[27,35]⟩,⟨29,536870911,[27,29,31]⟩,⟨30,1073741823,[27,32]⟩,⟨34,17179869183,[27,33,36]⟩,⟨35,34359738367,[27,37]⟩,⟨36,68719476735,[38]⟩] mixed (by kernel_rfl) ?_
 exact az0 hm⟩
theorem Zcd {l1:List Rng} {y:List Rng} (hm:Yb l1=some y):Spec Tryz.prog 139 [.d (lst Rng.ds l1)] [] fun u h=>u=.h 1∧h=[(1,some (YY 72 4 Rng.ds y))]:=by
 refine si Tryz.func139 Tryz.ntmps139 Tryz.results139 fun B w0 ρ0=>?_
 refine bo hm fun l2 hm=>?_
 exact ZqV [(1,104)] hm
theorem ZfO {l1:List Zi} {y:List Zi} (hm:QK l1=some y):Spec Tryz.prog 194 [.d (lst Zi.ds l1)] [] fun u h=>u=.h 1∧h=[(1,some (YY 149 12 Zi.ds y))]:=by
 refine si Tryz.func194 Tryz.ntmps194 Tryz.results194 fun B w0 ρ0=>?_
 refine sr ?_
 refine sr ?_
 obtain ⟨y2,hy,hm⟩:=ZH hm
 refine ZfY (u':=.h 200501) (h':=[(200501,some (YY 149 12 Zi.ds y2))]) (QT (hm:=hy)) 200500 rfl rfl rfl (by repeat (first | exact Vws.nil | apply Vws.cons | exact Vw.nil | exact Vw.d _ | exact Vw.q _ | apply Vw.a)) rfl (by (try simp only [Zfw,Option.map_some,Blk.ren,Zcf]); rfl) rfl rfl rfl rfl ?_
 refine sr ?_
 refine jo1 hm [] [] (fun l10=>[(0,.h 5002)]) (fun _ hm hm1=>?_) (fun l10 hm=>?_) (B:=(fun l10=>[(5002,some (YY 149 12 Zi.ds l10))]))
 ·refine Zm ?_
  refine lf2 hm1 [7] [] (fun l3 x4=>[(0,.h 5001),(8,vI x4)]) (fun κ l3 x4 hm1=>?_) (B:=(fun l3 x4=>[(5001,some (YY 149 12 Zi.ds l3))])) (f:=[(5001,200501)])
  refine sr ?_
  refine Zg ?_
  refine jc0 hm1 [0,7,8] [5001] [] (fun _ hm1 hm2=>?_) (fun hm1=>?_)
  ·refine co hm2 (fun hm2=>?_) fun hm2=>?_
   ·exact Zxu hm hm1 hm2
   exact Zvn [(5002,5001)] hm hm1 hm2
  refine bo' hm1 fun e5 hge5 hm1=>?_
  refine ss ?_
  refine ZL (Zkz (k:=5001) (f:=Zi.ds) (zz:=12) (u:=.a (Zr.vs e5.View)) (off:=0) hge5 rfl rfl rfl (by exact inferInstance) rfl rfl) rfl rfl rfl ?_
  refine bo hm1 fun y6 hm1=>?_
  refine bo' hm1 fun e7 hge7 hm1=>?_
  refine ss ?_
  obtain ⟨e9,hy,hm1⟩:=Zao hm1
  have hxe9:=hy
  refine ss ?_
  obtain ⟨l8,hy,hm1⟩:=Zao hm1
  refine ZqW (lo:=0) (nn:=0) (Zje (k:=5001) (f:=Zi.ds) (zz:=12) (off:=0) hge7 hy rfl rfl rfl rfl (by exact inferInstance) rfl (by rw [← hxe9]; rfl)) rfl rfl (QX _ _) ?_
  have hge9:=ZaI hge7 e9
  rw [hy] at hge9
  refine sr ?_
  refine ZL (YZ rfl rfl rfl rfl) rfl rfl rfl ?_
  refine ss ?_
  exact eb1 hm hm1
 exact ZqV [(1,5002)] hm
theorem ZfQ {w1:Zc} {y:Zc} (hm:Zbe w1=some y):Spec Tryz.prog 141 [.a (Zc.vs w1)] [] fun u h=>u=.a [vI y.Query.Kind,.d (lst Rng.ds y.Query.Ranges),vS y.Query.Key,vI y.Query.Count,.h 1,.h 2]∧h=[(1,some (YY 72 4 Rng.ds y.Todo)),(2,some (YY 149 12 Zi.ds y.Visits))]:=by
 refine si Tryz.func141 Tryz.ntmps141 Tryz.results141 fun B w0 ρ0=>?_
 refine sr ?_
 refine Zg ?_
 refine Zy (id:=1) [⟨0,0,[1]⟩,⟨1,1,[3]⟩,⟨3,0,[1]⟩,⟨4,8,[6]⟩,⟨6,0,[1]⟩,⟨7,64,[9]⟩,⟨2,3,[4]⟩,⟨9,223,[1]⟩,⟨5,31,[7]⟩,⟨8,255,[10]⟩,⟨10,1023,[5,12]⟩,⟨11,2047,[1]⟩,⟨12,4095,[8,13]⟩,⟨13,8191,[1]⟩,⟨14,16383,[11,14]⟩] mixed (by kernel_rfl) ?_
 refine bo hm fun y2 hm=>?_
 refine ss ?_
 obtain ⟨y3,hy,hm⟩:=ZH hm
 refine ZlH (u':=.h 200801) (h':=[(200801,some (YY 72 4 Rng.ds y3))]) (Zcd (hm:=hy)) 200800 [200801] rfl rfl rfl rfl (by repeat (first | exact Vws.nil | apply Vws.cons | exact Vw.nil | exact Vw.d _ | exact Vw.q _ | apply Vw.a)) rfl (by (try simp only [Zfw,Option.map_some,Blk.ren,Zcf]); rfl) rfl (by first | exact .no rfl | exact .y rfl rfl rfl rfl) rfl rfl rfl rfl rfl ?_
 refine ss ?_
 obtain ⟨y4,hy,hm⟩:=ZH hm
 refine ZlH (u':=.h 201101) (h':=[(201101,some (YY 149 12 Zi.ds y4))]) (ZfO (hm:=hy)) 201100 [201101] rfl rfl rfl rfl (by repeat (first | exact Vws.nil | apply Vws.cons | exact Vw.nil | exact Vw.d _ | exact Vw.q _ | apply Vw.a)) rfl (by (try simp only [Zfw,Option.map_some,Blk.ren,Zcf]); rfl) rfl (by first | exact .no rfl | exact .y rfl rfl rfl rfl) rfl rfl rfl rfl rfl ?_
 exact ZqV [(1,200801),(2,201101)] hm
def ZcM (w1:Zc) (v2:Zr):Option (Zc × Int) :=
 Ze (ZcQ w1) fun y3 =>
 sel (!y3.2) (
  some ((Zc.mk (Zf.mk 0 [] ⟨#[]⟩ 0) [] []),7)) (
  Ze (QA v2) fun y4 =>
  sel (!y4) (
   some ((Zc.mk (Zf.mk 0 [] ⟨#[]⟩ 0) [] []),1)) (
   bnd (Qt w1.Query) fun y5 =>
   Ze (
    sel y5 (
     some (y3.1.hi.key,y3.1.hi.top)) (
     some (y3.1.lo.key,y3.1.lo.top)):Option (ByteArray × Bool)) fun (end6,end7) =>
   Ze (
    sel (!y5) (
     bnd (Zl v2.Interval.lo (Bnd.mk end6 end7)) fun y8 =>
     sel (decide (0<y8)) (
      some true) (
      bnd (Zl v2.Interval.hi (Bnd.mk end6 end7)) fun y9 =>
      sel (decide (y9≤0)) (
       some true) (
       sel y5 (
        bnd (Zl v2.Interval.hi (Bnd.mk end6 end7)) fun y10 =>
        sel (decide (y10<0)) (
         some true) (
         bnd (Zl v2.Interval.lo (Bnd.mk end6 end7)) fun y11 =>
         some (decide (0≤y11)))) (
        some false)))) (
     sel y5 (
      bnd (Zl v2.Interval.hi (Bnd.mk end6 end7)) fun y12 =>
      sel (decide (y12<0)) (
       some true) (
       bnd (Zl v2.Interval.lo (Bnd.mk end6 end7)) fun y13 =>
       some (decide (0≤y13)))) (
      some false)):Option Bool) fun x14 =>
   sel x14 (
    some ((Zc.mk (Zf.mk 0 [] ⟨#[]⟩ 0) [] []),12)) (
    bnd (X5 v2.Interval y3.1) fun y15 =>
    Ze (ZaA v2.Rows y15) fun y16 =>
    Ze (Zbe w1) fun y17 =>
    Ze (
     sel y5 (
      Ze (app ([(Zi.mk (Zr.mk v2.Owner v2.Interval v2.Stamp y16) y15)]:List Zi) y17.Visits) fun l18 =>
      Ze (YD y17.Todo (ZJ ((y17.Todo.length:Int) - 1))) fun e19 =>
      bnd ((Rng.mk e19.lo y15.lo)) fun e21 =>
      bnd (y17.Todo.set (Int.toNat (ZJ ((y17.Todo.length:Int) - 1))) e21) fun l20 =>
      some (l20,l18,ZJ ((y17.Todo.length:Int) - 1))) (
      Ze (app y17.Visits ([(Zi.mk (Zr.mk v2.Owner v2.Interval v2.Stamp y16) y15)]:List Zi)) fun l22 =>
      Ze (YD y17.Todo 0) fun e23 =>
      bnd ((Rng.mk y15.hi e23.hi)) fun e25 =>
      bnd (y17.Todo.set (Int.toNat 0) e25) fun l24 =>
      some (l24,l22,0)):Option (List Rng × List Zi × Int)) fun (w26,w27,at28) =>
    Ze (YD w26 at28) fun e29 =>
    bnd (ZV e29) fun y30 =>
    sel y30 (
     Ze (lsl w26 0 at28) fun l31 =>
     Ze (lsl w26 (ZJ (at28+1)) (w26.length:Int)) fun l32 =>
     Ze (apd w26 l31 l32) fun l33 =>
     some ((Zc.mk y17.Query l33 w27),0)) (
     some ((Zc.mk y17.Query w26 w27),0)))))
instance ZsV {w1} {v2}:SpO (ZcM w1 v2) fun y=>Sp 115 [.a (Zc.vs w1),.a (Zr.vs v2)] [] (.t [.a (Zc.vs y.1),vI y.2]) []:=⟨fun hm=>by
 refine si Tryz.func115 Tryz.ntmps115 Tryz.results115 fun B w0 ρ0=>?_
 refine bo hm fun y3 hm=>?_
 refine co hm (fun hm=>?_) fun hm=>?_
 ·exact YF hm
 refine bo hm fun y4 hm=>?_
 refine co hm (fun hm=>?_) fun hm=>?_
 ·exact YF hm
 refine sx ?_
 refine Zg ?_
 refine Zy (id:=6) [⟨0,0,[2]⟩,⟨1,1,[26]⟩,⟨3,0,[3]⟩,⟨4,8,[29]⟩,⟨5,0,[]⟩,⟨2,3,[27]⟩,⟨6,39,[28]⟩,⟨7,127,[9,30]⟩] mixed (by kernel_rfl) ?_
 refine bp hm fun y5 hm=>?_
 refine sr ?_
 refine sr ?_
 refine jo2 hm [2,3,4,6,8,9,10] [102,103,104,106,109] (fun end6 end7=>[]) (fun _ hm hm1=>?_) (fun end6 end7 hm=>?_) (B:=(fun end6 end7=>[(110,some (.box 32 [vS end6,vB end7]))]))
 ·exact az1 hm hm1
 refine ss ?_
 refine Zg ?_
 refine Zg ?_
 refine jo1 hm [2,3,4,6,8,9] [102,103,104,106,109] (fun x14=>[(68,vB x14)]) (fun _ hm hm1=>?_) (fun x14 hm=>?_)
 ·exact az1 hm hm1
 refine co hm (fun hm=>?_) fun hm=>?_
 ·exact YF hm
 refine bp hm fun y15 hm=>?_
 refine bo hm fun y16 hm=>?_
 refine sr ?_
 obtain ⟨y17,hy,hm⟩:=ZH hm
 refine ZfY (u':=.a [vI y17.Query.Kind,.d (lst Rng.ds y17.Query.Ranges),vS y17.Query.Key,vI y17.Query.Count,.h 208301,.h 208302]) (h':=[(208301,some (YY 72 4 Rng.ds y17.Todo)),(208302,some (YY 149 12 Zi.ds y17.Visits))]) (ZfQ (hm:=hy)) 208300 rfl rfl rfl (by repeat (first | exact Vws.nil | apply Vws.cons | exact Vw.nil | exact Vw.d _ | exact Vw.q _ | apply Vw.a)) rfl (by (try simp only [Zfw,Option.map_some,Blk.ren,Zcf]); rfl) rfl rfl rfl rfl ?_
 refine sr ?_
 refine sr ?_
 refine jo3 hm [2,4] [104] (fun w26 w27 at28=>[(13,vI at28)]) (fun _ hm hm1=>?_) (fun w26 w27 at28 hm=>?_) (B:=(fun w26 w27 at28=>[(102,some (.box 124 [vI y17.Query.Kind,.d (lst Rng.ds y17.Query.Ranges),vS y17.Query.Key,vI y17.Query.Count,.h 5001,.d (lst Zi.ds w27)])),(5001,some (YY 72 4 Rng.ds w26))]))
 ·refine co hm1 (fun hm1=>?_) fun hm1=>?_
  ·refine sr ?_
   refine Zg ?_
   refine ZwN [(102,102),(104,104),(111,111),(112,112),(208301,208301)] ⟨[(2,.p 102 0),(4,.p 104 0),(11,.p 111 0),(12,.p 112 0),(13,vI (ZJ ((y17.Todo.length:Int) - 1)))],[(102,some (.box 124 [vI y17.Query.Kind,.d (lst Rng.ds y17.Query.Ranges),vS y17.Query.Key,vI y17.Query.Count,.h 208301,.d (lst Zi.ds y17.Visits)])),(104,some (.box 124 [vI 0,.d (.c (.slice none 0 0)),vS ⟨#[]⟩,vI 0,.d (.c (.slice none 0 0)),.d (.c (.slice none 0 0))])),(111,some (.box 72 (Rng.vs y15))),(112,some (.box 149 (Zi.vs (Zi.mk (Zr.mk v2.Owner v2.Interval v2.Stamp y16) y15)))),(208301,some (YY 72 4 Rng.ds y17.Todo))]⟩ ?_
   refine sr ?_
   refine Zlw (Zwo (k:=190) Zi.ds [(Zi.mk (Zr.mk v2.Owner v2.Interval v2.Stamp y16) y15)] rfl rfl rfl rfl (by simp only [YB,Zq,List.cons_append,List.nil_append,List.append_nil]; exact rfl) rfl rfl) rfl rfl rfl rfl ?_
   refine bo hm1 fun l18 hm1=>?_
   refine bo' hm1 fun e19 hge19 hm1=>?_
   refine ss ?_
   obtain ⟨e21,hy,hm1⟩:=Zao hm1
   have hxe21:=hy
   refine ss ?_
   obtain ⟨l20,hy,hm1⟩:=Zao hm1
   refine ZqW (lo:=0) (nn:=0) (Zje (k:=208301) (f:=Rng.ds) (zz:=4) (off:=2) hge19 hy rfl rfl rfl rfl (by exact inferInstance) rfl (by rw [← hxe21]; rfl)) rfl rfl (QX _ _) ?_
   have hge21:=ZaI hge19 e21
   rw [hy] at hge21
   exact Zxw [(102,102),(104,104),(5001,208301)] hm hm1
  refine sr ?_
  refine Zaq Zi.ds [(Zi.mk (Zr.mk v2.Owner v2.Interval v2.Stamp y16) y15)] rfl rfl (by simp only [YB,Zq,List.cons_append,List.nil_append,List.append_nil]; exact rfl) rfl rfl rfl rfl rfl rfl ?_
  refine bo hm1 fun l22 hm1=>?_
  refine bo' hm1 fun e23 hge23 hm1=>?_
  refine ss ?_
  obtain ⟨e25,hy,hm1⟩:=Zao hm1
  have hxe25:=hy
  refine ss ?_
  obtain ⟨l24,hy,hm1⟩:=Zao hm1
  refine ZqW (lo:=0) (nn:=0) (Zje (k:=208301) (f:=Rng.ds) (zz:=4) (off:=0) hge23 hy rfl rfl rfl rfl (by exact inferInstance) rfl (by rw [← hxe25]; rfl)) rfl rfl (QX _ _) ?_
  have hge25:=ZaI hge23 e25
  rw [hy] at hge25
  exact Zxw [(102,102),(104,104),(5001,208301)] hm hm1
 refine bo' hm fun e29 hge29 hm=>?_
 refine ss ?_
 refine ZL (Zkz (k:=5001) (f:=Rng.ds) (zz:=4) (u:=.a (Rng.vs e29)) (off:=0) hge29 rfl rfl rfl (by exact inferInstance) rfl rfl) rfl rfl rfl ?_
 refine bp hm fun y30 hm=>?_
 refine co hm (fun hm=>?_) fun hm=>?_
 ·refine Zy (id:=24) [⟨0,0,[2]⟩,⟨1,1,[121]⟩,⟨2,0,[13]⟩,⟨3,7,[122,123]⟩,⟨4,0,[2]⟩,⟨5,16,[125]⟩,⟨6,0,[13]⟩,⟨7,64,[127]⟩,⟨8,240,[126,128]⟩,⟨9,511,[124,129]⟩,⟨10,1023,[2]⟩,⟨11,2047,[130,131]⟩] mixed (by kernel_rfl) ?_
  refine bo' hm fun l31 hvl31 hm=>?_
  refine bo' hm fun l32 hvl32 hm=>?_
  refine ss ?_
  obtain ⟨l33,hy,hm⟩:=ZH hm
  refine ZwF (k':=230) hy hvl31 hvl32 rfl rfl rfl rfl rfl rfl rfl (by first | exact .no rfl | exact .y rfl rfl rfl rfl) rfl rfl rfl ?_
  exact YF hm
 exact YF hm⟩
end Go.Proofs.YtkcmgbbopedacaaGreatDoor
