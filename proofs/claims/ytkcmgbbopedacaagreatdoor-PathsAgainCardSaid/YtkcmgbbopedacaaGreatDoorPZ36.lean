/-
  Lemmas: A call that hands one of two own slices back.
-/
import Derived.Test.YtkcmgbbopedacaaGreatDoorPZ18
import Derived.Test.YtkcmgbbopedacaaGreatDoorPZ24
import Derived.Test.YtkcmgbbopedacaaGreatDoorPZ25
import Derived.Test.YtkcmgbbopedacaaGreatDoorPZ35
import Derived.Test.YtkcmgbbopedacaaGreatDoorPZ26
import Derived.Test.YtkcmgbbopedacaaGreatDoorPZ31
import Derived.Laws.BytesString
import Derived.Test.YtkcmgbbopedacaaGreatDoorPZ17
import Derived.Test.YtkcmgbbopedacaaGreatDoorPZ9
import Derived.Laws.MakeOwn
set_option linter.unusedSimpArgs false
set_option linter.unusedVariables false
namespace Go.Proofs.YtkcmgbbopedacaaGreatDoor
open Go.RowKit
set_option maxRecDepth 100000
set_option maxHeartbeats 4000000
attribute [local irreducible] WK WC WL Wk Rel OpD OpV WD WO sel bnd Ze app YD lsl ZeM ssl ZhA Zhi Zi9 Zh4 Op.bytesLess
attribute [local irreducible] ZcE Yi union
def Xt (a1:Rng) (b2:Rng):Bool :=
 bnd (Zl a1.lo b2.lo) fun y3 =>
 sel (decide (y3=0)) (
  bnd (Zl a1.hi b2.hi) fun y4 =>
  decide (y4=0)) (
  false)
instance Zke {a1} {b2}:SpT (Xt a1 b2) fun y=>Sp 239 [.a (Rng.vs a1),.a (Rng.vs b2)] [] (vB y) []:=⟨fun hm=>by
 refine si Tryz.func239 Tryz.ntmps239 Tryz.results239 fun B w0 ρ0=>?_
 exact az0 hm⟩
def Z6 (a1:List Kv) (b2:List Kv):List Kv→Int→Option (Ctl Bool Unit)
 | [],i =>
 some (Ctl.nxt ())
 | r3::xs4,i =>
 Ze (YD a1 i) fun e6 =>
 Ze (YD b2 i) fun e7 =>
 sel (!(decide (e6.key=e7.key) && decide (e6.val=e7.val))) (
  some (Ctl.ret false)) (
  Z6 a1 b2 xs4 (i+1))
def Xm (a1:List Kv) (b2:List Kv):Option Bool :=
 sel (!decide ((a1.length:Int)=(b2.length:Int))) (
  some false) (
  Ze (
   Z6 a1 b2 a1 0:Option (Ctl Bool Unit)) fun mu=>Yz mu fun (_:Unit) =>
  some true)
instance Zgi {a1} {b2}:SpO (Xm a1 b2) fun y=>Sp 245 [.d (lst Kv.ds a1),.d (lst Kv.ds b2)] [] (vB y) []:=⟨fun hm=>by
 refine si Tryz.func245 Tryz.ntmps245 Tryz.results245 fun B w0 ρ0=>?_
 refine co hm (fun hm=>?_) fun hm=>?_
 ·exact YF hm
 refine sx ?_
 refine sr ?_
 refine jc0 hm [] [] [] (fun _ hm hm1=>?_) (fun hm=>?_)
 ·refine Zm ?_
  refine Zrq hm1 0 [0,1,12] [] (fun m5=>[(13,vI (m5:Int))]) (fun hlenm5 m5 r3 hltm5 hxm5 hm1=>?_) (fun m5 hm1=>?_)
  ·refine sx ?_
   refine sr ?_
   refine Zg ?_
   refine Zy (id:=6) [⟨0,0,[0]⟩,⟨1,0,[5]⟩,⟨2,3,[16,17]⟩,⟨3,7,[18]⟩,⟨4,0,[1]⟩,⟨5,0,[5]⟩,⟨6,48,[20,21]⟩,⟨7,112,[22]⟩,⟨8,255,[19,23]⟩] mixed (by kernel_rfl) ?_
   refine ss ?_
   obtain ⟨e6,hy,hm1⟩:=ZH hm1
   refine Yp [] (Zjb (ys:=[dS e6.key,dS e6.val]) hy rfl rfl rfl rfl) rfl (by first | exact .no rfl | exact .y rfl rfl rfl rfl) rfl rfl ?_
   refine ss ?_
   obtain ⟨e7,hy,hm1⟩:=ZH hm1
   refine Yp [] (Zjb (ys:=[dS e7.key,dS e7.val]) hy rfl rfl rfl rfl) rfl (by first | exact .no rfl | exact .y rfl rfl rfl rfl) rfl rfl ?_
   refine co hm1 (fun hm1=>?_) fun hm1=>?_
   ·exact ZcF hm hm1
   exact eb1 hm hm1
  exact ZbU hm hm1
 exact YF hm⟩
def QL (a1:List Kv) (b2:List Kv):Option Bool :=
 Ze (Xm a1 b2) fun y3 =>
 some y3
instance Zkk {a1} {b2}:SpO (QL a1 b2) fun y=>Sp 240 [.d (lst Kv.ds a1),.d (lst Kv.ds b2)] [] (vB y) []:=⟨fun hm=>by
 refine si Tryz.func240 Tryz.ntmps240 Tryz.results240 fun B w0 ρ0=>?_
 exact az0 hm⟩
def Xu:List Zc→List Zi→Option (List Zi)
 | [],out2 =>
 some out2
 | r3::xs4,out2 =>
 Ze (app out2 r3.Visits) fun l6 =>
 Xu xs4 l6
def Za1 (l1:List Zc):Option (List Zi) :=
 Ze (
  Xu l1 []:Option (List Zi)) fun out7 =>
 Ze (QK out7) fun y8 =>
 some y8
instance ZmS {l1}:SpO (Za1 l1) fun y=>Sp 158 [.d (lst Zc.ds l1)] [] (.d (lst Zi.ds y)) []:=⟨fun hm=>by
 refine si Tryz.func158 Tryz.ntmps158 Tryz.results158 fun B w0 ρ0=>?_
 refine sr ?_
 refine sr ?_
 refine sr ?_
 refine jo1 hm [] [] (fun out7=>[(3,.d (lst Zi.ds out7))]) (fun _ hm hm1=>?_) (fun out7 hm=>?_)
 ·refine Zm ?_
  refine ZbW (ZbY 3 5001 149 12 rfl rfl) ?_
  refine lr1 hm1 6 [6,7] [] (fun m5 out2=>[(3,.h 5001),(8,vI (m5:Int))]) (fun hlenm5 m5 out2 r3 hltm5 hxm5 hm1=>?_) (fun m5 out2 hm1=>?_) (B:=(fun m5 out2=>[(5001,some (YY 149 12 Zi.ds out2))]))
  ·refine bo hm1 fun l6 hm1=>?_
   exact Zh5 [(5001,115)] hm hm1
  exact ZbU hm hm1
 exact az0 hm⟩
def X4 (l1:List Zi):Option (List Kv) :=
 Ze (ZcS (Zc.mk (Zf.mk 0 [] ⟨#[]⟩ 0) [] l1)) fun y2 =>
 some y2
instance Zog {l1}:SpO (X4 l1) fun y=>Sp 228 [.d (lst Zi.ds l1)] [] (.d (lst Kv.ds y)) []:=⟨fun hm=>by
 refine si Tryz.func228 Tryz.ntmps228 Tryz.results228 fun B w0 ρ0=>?_
 exact az0 hm⟩
def ZbQ (q1:Zf) (first2:List Zc) (second3:List Zc):Option Z7 :=
 Ze (XU q1) fun y4 =>
 Ze (Za1 first2) fun y5 =>
 Ze (Za1 second3) fun y6 =>
 some (Z7.mk y4 y5 y6)
instance Zok {q1} {first2} {second3}:SpO (ZbQ q1 first2 second3) fun y=>Sp 101 [.a (Zf.vs q1),.d (lst Zc.ds first2),.d (lst Zc.ds second3)] [] (.a (Z7.vs y)) []:=⟨fun hm=>by
 refine si Tryz.func101 Tryz.ntmps101 Tryz.results101 fun B w0 ρ0=>?_
 exact az0 hm⟩
def ZbP (a1:Zi) (b2:Zi):Option Bool :=
 sel (decide (a1.View.Owner=b2.View.Owner)) (
  bnd (Xt a1.View.Interval b2.View.Interval) fun y3 =>
  sel y3 (
   bnd (Xt a1.Part b2.Part) fun y4 =>
   sel y4 (
    sel (decide (a1.View.Stamp.Epoch=b2.View.Stamp.Epoch) && decide (a1.View.Stamp.Version=b2.View.Stamp.Version)) (
     Ze (QL a1.View.Rows b2.View.Rows) fun y5 =>
     some y5) (
     some false)) (
    some false)) (
   some false)) (
  some false)
instance Zoc {a1} {b2}:SpO (ZbP a1 b2) fun y=>Sp 226 [.a (Zi.vs a1),.a (Zi.vs b2)] [] (vB y) []:=⟨fun hm=>by
 refine si Tryz.func226 Tryz.ntmps226 Tryz.results226 fun B w0 ρ0=>?_
 exact az0 hm⟩
def Qo:List Zi→Option (Ctl Int Unit)
 | [] =>
 some (Ctl.nxt ())
 | r4::xs5 =>
 Ze (
  Ze (QA r4.View) fun y7 =>
  sel (!y7) (
   some true) (
   bnd (ZV r4.Part) fun y8 =>
   sel y8 (
    some true) (
    bnd (ZbD r4.View.Interval r4.Part) fun y9 =>
    some (!y9))):Option Bool) fun x10 =>
 sel x10 (
  some (Ctl.ret 1)) (
  Ze (ZaA r4.View.Rows r4.Part) fun y11 =>
  sel (!decide ((y11.length:Int)=(r4.View.Rows.length:Int))) (
   some (Ctl.ret 17)) (
   Qo xs5))
def YM (y12:List Rng):List Zi→Int→ByteArray→Bool→Option (Ctl Int Int)
 | [],i23,position24,position25 =>
 some (Ctl.nxt i23)
 | r26::xs27,i23,position24,position25 =>
 sel (decide (i23=(y12.length:Int))) (
  some (Ctl.ret 2)) (
  bnd (Zl r26.Part.lo (Bnd.mk position24 position25)) fun y29 =>
  sel (decide (y29=1)) (
   some (Ctl.ret 9)) (
   sel (decide (y29=(-1))) (
    some (Ctl.ret 10)) (
    Ze (YD y12 i23) fun e30 =>
    bnd (Zl r26.Part.hi e30.hi) fun y31 =>
    sel (decide (y31=1)) (
     some (Ctl.ret 2)) (
     sel (decide (y31=0)) (
      sel (decide (ZJ (i23+1)<(y12.length:Int))) (
       Ze (YD y12 (ZJ (i23+1))) fun e32 =>
       YM y12 xs27 (ZJ (i23+1)) e32.lo.key e32.lo.top) (
       YM y12 xs27 (ZJ (i23+1)) r26.Part.hi.key r26.Part.hi.top)) (
      YM y12 xs27 i23 r26.Part.hi.key r26.Part.hi.top)))))
def Za6 (q1:Zf) (l2:List Zi):Option Int :=
 Ze (Y8 q1) fun y3 =>
 sel (!decide (y3=0)) (
  some y3) (
  Ze (
   Qo l2:Option (Ctl Int Unit)) fun mu=>Yz mu fun (_:Unit) =>
  Ze (YK q1) fun y12 =>
  Ze (X4 l2) fun y13 =>
  bnd (ZaQ q1 (y13.length:Int)) fun y14 =>
  Ze (
   sel (decide (0<(y12.length:Int))) (
    Ze (YD y12 0) fun e15 =>
    some (e15.lo.key,e15.lo.top)) (
    some (⟨#[]⟩,false)):Option (ByteArray × Bool)) fun (position16,position17) =>
  Ze (
   bnd (Qt q1) fun y18 =>
   sel y18 (
    sel y14 (
     some (decide (0<(l2.length:Int)))) (
     some false)) (
    some false):Option Bool) fun x19 =>
  Ze (
   sel x19 (
    Ze (YD l2 0) fun e20 =>
    some (e20.Part.lo.key,e20.Part.lo.top)) (
    some (position16,position17)):Option (ByteArray × Bool)) fun (position21,position22) =>
  Ze (
   YM y12 l2 0 position21 position22:Option (Ctl Int Int)) fun mu=>Yz mu fun i33 =>
  sel (decide (i33<(y12.length:Int))) (
   sel (decide (q1.Kind=3)) (
    sel (!y14) (
     some 9) (
     some 0)) (
    sel (!false) (
     some 9) (
     some 0))) (
   some 0))
instance ZmU {q1} {l2}:SpO (Za6 q1 l2) fun y=>Sp 225 [.a (Zf.vs q1),.d (lst Zi.ds l2)] [] (vI y) []:=⟨fun hm=>by
 refine si Tryz.func225 Tryz.ntmps225 Tryz.results225 fun B w0 ρ0=>?_
 refine sr ?_
 refine sr ?_
 obtain ⟨y3,hy,hm⟩:=ZH hm
 refine Zhp (Zb8 (hm:=hy)) ?_
 refine co hm (fun hm=>?_) fun hm=>?_
 ·exact YF hm
 refine sx ?_
 refine sr ?_
 refine jc0 hm [1,2] [102] [] (fun _ hm hm1=>?_) (fun hm=>?_)
 ·refine Zm ?_
  refine lr0 hm1 19 [1,2,19,20] [102] (fun m6=>[(21,vI (m6:Int))]) (fun hlenm6 m6 r4 hltm6 hxm6 hm1=>?_) (fun m6 hm1=>?_)
  ·refine sx ?_
   refine sr ?_
   refine ZL (Zc3 hxm6 rfl rfl rfl rfl) rfl rfl rfl ?_
   refine ss ?_
   refine Zg ?_
   refine Zg ?_
   refine jo1 hm1 [1,2,7,19,20,21] [102,107] (fun x10=>[(42,vB x10)]) (fun _ hm1 hm2=>?_) (fun x10 hm1=>?_)
   ·exact az2 hm hm1 hm2
   refine co hm1 (fun hm1=>?_) fun hm1=>?_
   ·exact ZcF hm hm1
   refine sx ?_
   refine Zg ?_
   refine Zy (id:=9) [⟨0,0,[7]⟩,⟨1,1,[43]⟩,⟨2,3,[44]⟩,⟨3,0,[7]⟩,⟨4,8,[46]⟩,⟨7,0,[7]⟩,⟨8,128,[50]⟩,⟨9,384,[51]⟩,⟨10,896,[52]⟩,⟨5,31,[45,47]⟩,⟨6,63,[48]⟩,⟨11,2047,[49,53]⟩] mixed (by kernel_rfl) ?_
   refine bo hm1 fun y11 hm1=>?_
   refine co hm1 (fun hm1=>?_) fun hm1=>?_
   ·exact ZcF hm hm1
   exact eb1 hm hm1
  exact ZbU hm hm1
 refine ss ?_
 refine Zg ?_
 refine Zy (id:=12) [⟨0,0,[2]⟩,⟨2,0,[2]⟩,⟨3,0,[1]⟩,⟨1,1,[56]⟩,⟨4,11,[59]⟩,⟨5,27,[60]⟩,⟨6,63,[58,61]⟩,⟨7,127,[57]⟩,⟨8,255,[62]⟩] mixed (by kernel_rfl) ?_
 refine ss ?_
 obtain ⟨y12,hy,hm⟩:=ZH hm
 refine Zt9 (ZbI (hm:=hy)) ?_
 refine bo hm fun y13 hm=>?_
 refine bp hm fun y14 hm=>?_
 refine sr ?_
 refine sr ?_
 refine jo2 hm [1,2,8,9,10,11] [102] (fun position16 position17=>[]) (fun _ hm hm1=>?_) (fun position16 position17 hm=>?_) (B:=(fun position16 position17=>[(111,some (.box 32 [vS position16,vB position17]))]))
 ·exact az1 hm hm1
 refine ss ?_
 refine Zg ?_
 refine Zg ?_
 refine jo1 hm [1,2,8,9,10,11] [102,111] (fun x19=>[(80,vB x19)]) (fun _ hm hm1=>?_) (fun x19 hm=>?_)
 ·exact az1 hm hm1
 refine ss ?_
 refine jo2 hm [1,2,8,9,10,11] [102] (fun position21 position22=>[]) (fun _ hm hm1=>?_) (fun position21 position22 hm=>?_) (B:=(fun position21 position22=>[(111,some (.box 32 [vS position21,vB position22]))]))
 ·exact az1 hm hm1
 refine sr ?_
 refine jc1 hm [2,8,9] [102] (fun i33=>[(10,vI i33)]) (fun _ hm hm1=>?_) (fun i33 hm=>?_)
 ·refine Zm ?_
  refine lr3 hm1 86 [2,8,9,11,86,87] [102] (fun m28 i23 position24 position25=>[(10,vI i23),(88,vI (m28:Int))]) (fun hlenm28 m28 i23 position24 position25 r26 hltm28 hxm28 hm1=>?_) (fun m28 i23 position24 position25 hm1=>?_) (B:=(fun m28 i23 position24 position25=>[(111,some (.box 32 [vS position24,vB position25]))]))
  ·refine co hm1 (fun hm1=>?_) fun hm1=>?_
   ·exact ZcF hm hm1
   refine bp hm1 fun y29 hm1=>?_
   refine co hm1 (fun hm1=>?_) fun hm1=>?_
   ·exact ZcF hm hm1
   refine co hm1 (fun hm1=>?_) fun hm1=>?_
   ·exact ZcF hm hm1
   refine sx ?_
   refine sr ?_
   refine Zg ?_
   refine Zy (id:=29) [⟨0,0,[11]⟩,⟨1,0,[8]⟩,⟨2,0,[10]⟩,⟨3,6,[109,110]⟩,⟨4,14,[111]⟩,⟨5,30,[112]⟩,⟨6,63,[108,113]⟩] mixed (by kernel_rfl) ?_
   refine bo hm1 fun e30 hm1=>?_
   refine bp hm1 fun y31 hm1=>?_
   refine co hm1 (fun hm1=>?_) fun hm1=>?_
   ·exact ZcF hm hm1
   refine co hm1 (fun hm1=>?_) fun hm1=>?_
   ·refine co hm1 (fun hm1=>?_) fun hm1=>?_
    ·refine bo hm1 fun e32 hm1=>?_
     exact eb1 hm hm1
    exact eb1 hm hm1
   exact eb1 hm hm1
  exact ZbU hm hm1
 refine co hm (fun hm=>?_) fun hm=>?_
 ·exact az0 hm
 refine ss ?_
 refine Yf rfl ?_
 exact YF hm⟩
def XN (r1:Z7):List (List Zi)→Option (Ctl (Yq × Int) Unit)
 | [] =>
 some (Ctl.nxt ())
 | r2::xs3 =>
 Ze (Za6 r1.Query r2) fun y5 =>
 sel (!decide (y5=0)) (
  some (Ctl.ret ((Yq.mk [] (Y5.mk 0 0 0 0 0 ⟨#[]⟩ ⟨#[]⟩)),y5))) (
  XN r1 xs3)
def XL (r1:Z7):List Zi→Int→Option (Ctl (Yq × Int) Unit)
 | [],i =>
 some (Ctl.nxt ())
 | r6::xs7,i =>
 Ze (YD r1.Second i) fun e9 =>
 Ze (ZbP r6 e9) fun y10 =>
 sel (!y10) (
  some (Ctl.ret ((Yq.mk [] (Y5.mk 0 0 0 0 0 ⟨#[]⟩ ⟨#[]⟩)),11))) (
  XL r1 xs7 (i+1))
def ZcA (r1:Z7):Option (Yq × Int) :=
 Ze (
  XN r1 ([r1.First,r1.Second]:List (List Zi)):Option (Ctl (Yq × Int) Unit)) fun mu=>Yz mu fun (_:Unit) =>
 sel (!decide ((r1.First.length:Int)=(r1.Second.length:Int))) (
  some ((Yq.mk [] (Y5.mk 0 0 0 0 0 ⟨#[]⟩ ⟨#[]⟩)),11)) (
  Ze (
   XL r1 r1.First 0:Option (Ctl (Yq × Int) Unit)) fun mu=>Yz mu fun (_:Unit) =>
  Ze (X4 r1.First) fun y11 =>
  Ze (Zdj r1.Query y11) fun y12 =>
  Ze (Ze0 y12) fun y13 =>
  some ((Yq.mk y12 y13),0))
instance ZnI {r1}:SpO (ZcA r1) fun y=>Sp 198 [.a (Z7.vs r1)] [] (.t [.a (Yq.vs y.1),vI y.2]) []:=⟨fun hm=>by
 refine si Tryz.func198 Tryz.ntmps198 Tryz.results198 fun B w0 ρ0=>?_
 refine sr ?_
 refine sr ?_
 refine Zaq (dsL Zi.ds) [r1.First,r1.Second] rfl rfl (by simp only [YB,Zq,List.cons_append,List.nil_append,List.append_nil]; exact rfl) rfl rfl rfl rfl rfl rfl ?_
 refine ss ?_
 refine jc0 hm [1,2] [101,102] [] (fun _ hm hm1=>?_) (fun hm=>?_)
 ·refine Zm ?_
  refine lr0 hm1 14 [1,2,14,15] [101,102] (fun m4=>[(16,vI (m4:Int))]) (fun hlenm4 m4 r2 hltm4 hxm4 hm1=>?_) (fun m4 hm1=>?_)
  ·refine bo hm1 fun y5 hm1=>?_
   refine co hm1 (fun hm1=>?_) fun hm1=>?_
   ·exact ZcF hm hm1
   exact eb1 hm hm1
  exact ZbU hm hm1
 refine co hm (fun hm=>?_) fun hm=>?_
 ·exact YF hm
 refine sx ?_
 refine sr ?_
 refine jc0 hm [1,2] [101,102] [] (fun _ hm hm1=>?_) (fun hm=>?_)
 ·refine Zm ?_
  refine Zrq hm1 38 [1,2,38,39] [101,102] (fun m8=>[(40,vI (m8:Int))]) (fun hlenm8 m8 r6 hltm8 hxm8 hm1=>?_) (fun m8 hm1=>?_)
  ·refine sx ?_
   refine sr ?_
   refine ZL (Zc3 hxm8 rfl rfl rfl rfl) rfl rfl rfl ?_
   refine ss ?_
   refine Zg ?_
   refine Zy (id:=13) [⟨0,0,[8]⟩,⟨1,0,[1]⟩,⟨2,2,[46]⟩,⟨3,0,[7]⟩,⟨4,14,[47,48]⟩,⟨5,30,[49]⟩,⟨6,63,[45,50]⟩,⟨7,127,[51]⟩] mixed (by kernel_rfl) ?_
   refine bo hm1 fun e9 hm1=>?_
   refine bo hm1 fun y10 hm1=>?_
   refine co hm1 (fun hm1=>?_) fun hm1=>?_
   ·exact ZcF hm hm1
   exact eb1 hm hm1
  exact ZbU hm hm1
 refine ss ?_
 refine Zg ?_
 refine Zy (id:=16) [⟨0,0,[1]⟩,⟨1,1,[55]⟩,⟨2,0,[1]⟩,⟨3,4,[57]⟩,⟨4,12,[58]⟩,⟨5,31,[56,59]⟩,⟨6,63,[60]⟩] mixed (by kernel_rfl) ?_
 exact az0 hm⟩
end Go.Proofs.YtkcmgbbopedacaaGreatDoor
namespace Go.Proofs.YtkcmgbbopedacaaGreatDoor
open Go.RowKit
set_option maxRecDepth 100000
set_option maxHeartbeats 4000000
attribute [local irreducible] WK WC WL Wk Rel OpD OpV WD WO sel bnd Ze app YD lsl ZeM ssl ZhA Zhi Zi9 Zh4 Op.bytesLess
attribute [local irreducible] ZcE Yi union
def Q6:List Zc→List Zi→Option (List Zi)
 | [],r4 =>
 some r4
 | r5::xs6,r4 =>
 Ze (app r4 r5.Visits) fun l8 =>
 Q6 xs6 l8
def Q7:List Zc→List Zi→Option (List Zi)
 | [],r10 =>
 some r10
 | r11::xs12,r10 =>
 Ze (app r10 r11.Visits) fun l14 =>
 Q7 xs12 l14
def Zdh (q1:Zf) (first2:List Zc) (second3:List Zc):Option Z7 :=
 Ze (
  Q6 first2 []:Option (List Zi)) fun r9 =>
 Ze (
  Q7 second3 []:Option (List Zi)) fun r15 =>
 some (Z7.mk q1 r9 r15)
instance ZqZ {q1} {first2} {second3}:SpO (Zdh q1 first2 second3) fun y=>Sp 178 [.a (Zf.vs q1),.d (lst Zc.ds first2),.d (lst Zc.ds second3)] [] (.a (Z7.vs y)) []:=⟨fun hm=>by
 refine si Tryz.func178 Tryz.ntmps178 Tryz.results178 fun B w0 ρ0=>?_
 refine sr ?_
 refine sr ?_
 refine sr ?_
 refine jo1 hm [2,6,7] [106] (fun r9=>[]) (fun _ hm hm1=>?_) (fun r9 hm=>?_) (B:=(fun r9=>[(107,some (.box 87 [vI q1.Kind,.d (lst Rng.ds q1.Ranges),vS q1.Key,vI q1.Count,.d (lst Zi.ds r9),.d (.c (.slice none 0 0))]))]))
 ·refine Zm ?_
  refine ZbW (Zim 107 4 5001 149 12 rfl rfl rfl rfl) ?_
  refine lr1 hm1 14 [2,6,7,14,15] [106] (fun m7 r4=>[(16,vI (m7:Int))]) (fun hlenm7 m7 r4 r5 hltm7 hxm7 hm1=>?_) (fun m7 r4 hm1=>?_) (B:=(fun m7 r4=>[(107,some (.box 87 [vI q1.Kind,.d (lst Rng.ds q1.Ranges),vS q1.Key,vI q1.Count,.h 5001,.d (.c (.slice none 0 0))])),(5001,some (YY 149 12 Zi.ds r4))]))
  ·refine bo hm1 fun l8 hm1=>?_
   exact Zh5 [(106,106),(107,107),(5001,124)] hm hm1
  exact ZbU hm hm1
 refine sr ?_
 refine jo1 hm [6,7] [106] (fun r15=>[]) (fun _ hm hm1=>?_) (fun r15 hm=>?_) (B:=(fun r15=>[(107,some (.box 87 (Z7.vs (Z7.mk q1 r9 r15))))]))
 ·refine Zm ?_
  refine ZbW (Zim 107 5 5002 149 12 rfl rfl rfl rfl) ?_
  refine lr1 hm1 27 [6,7,27,28] [106] (fun m13 r10=>[(29,vI (m13:Int))]) (fun hlenm13 m13 r10 r11 hltm13 hxm13 hm1=>?_) (fun m13 r10 hm1=>?_) (B:=(fun m13 r10=>[(107,some (.box 87 [vI q1.Kind,.d (lst Rng.ds q1.Ranges),vS q1.Key,vI q1.Count,.d (lst Zi.ds r9),.h 5002])),(5002,some (YY 149 12 Zi.ds r10))]))
  ·refine bo hm1 fun l14 hm1=>?_
   exact Zh5 [(106,106),(107,107),(5002,137)] hm hm1
  exact ZbU hm hm1
 exact YF hm⟩
def Zag:List Zi→Option (Ctl Int Unit)
 | [] =>
 some (Ctl.nxt ())
 | r4::xs5 =>
 Ze (
  Ze (Qg r4.View) fun y7 =>
  sel (!y7) (
   some true) (
   bnd (ZU r4.Part) fun y8 =>
   sel y8 (
    some true) (
    bnd (ZbN r4.Part r4.View.Interval) fun y9 =>
    some (!y9))):Option Bool) fun x10 =>
 sel x10 (
  some (Ctl.ret 1)) (
  bnd (Xo r4.View.Rows r4.Part) fun y11 =>
  sel (!y11) (
   some (Ctl.ret 17)) (
   Zag xs5))
def Y2 (y12:List Rng):List Zi→Int→ByteArray→Bool→Option (Ctl Int Int)
 | [],at23,pos24,pos25 =>
 some (Ctl.nxt at23)
 | r26::xs27,at23,pos24,pos25 =>
 sel (decide (at23=(y12.length:Int))) (
  some (Ctl.ret 2)) (
  bnd (Zk r26.Part.lo (Bnd.mk pos24 pos25)) fun y29 =>
  sel (decide (0<y29)) (
   some (Ctl.ret 9)) (
   bnd (Zk r26.Part.lo (Bnd.mk pos24 pos25)) fun y30 =>
   sel (decide (y30<0)) (
    some (Ctl.ret 10)) (
    Ze (YD y12 at23) fun e31 =>
    bnd (Zk r26.Part.hi e31.hi) fun y32 =>
    sel (decide (0<y32)) (
     some (Ctl.ret 2)) (
     Ze (YD y12 at23) fun e33 =>
     bnd (Zk r26.Part.hi e33.hi) fun y34 =>
     sel (decide (y34=0)) (
      sel (decide (ZJ (at23+1)<(y12.length:Int))) (
       Ze (YD y12 (ZJ (at23+1))) fun e35 =>
       Y2 y12 xs27 (ZJ (at23+1)) e35.lo.key e35.lo.top) (
       Y2 y12 xs27 (ZJ (at23+1)) r26.Part.hi.key r26.Part.hi.top)) (
      Y2 y12 xs27 at23 r26.Part.hi.key r26.Part.hi.top)))))
def ZaO (q1:Zf) (l2:List Zi):Option Int :=
 bnd (XT q1) fun y3 =>
 sel (!decide (y3=0)) (
  some y3) (
  Ze (
   Zag l2:Option (Ctl Int Unit)) fun mu=>Yz mu fun (_:Unit) =>
  Ze (Xp q1) fun y12 =>
  Ze (Qu l2) fun y13 =>
  bnd (ZaU q1 (y13.length:Int)) fun y14 =>
  Ze (
   sel (decide (0<(y12.length:Int))) (
    Ze (YD y12 0) fun e15 =>
    some (e15.lo.key,e15.lo.top)) (
    some (⟨#[]⟩,false)):Option (ByteArray × Bool)) fun (pos16,pos17) =>
  Ze (
   bnd (X0 q1) fun y18 =>
   sel y18 (
    sel y14 (
     some (decide (0<(l2.length:Int)))) (
     some false)) (
    some false):Option Bool) fun x19 =>
  Ze (
   sel x19 (
    Ze (YD l2 0) fun e20 =>
    some (e20.Part.lo.key,e20.Part.lo.top)) (
    some (pos16,pos17)):Option (ByteArray × Bool)) fun (pos21,pos22) =>
  Ze (
   Y2 y12 l2 0 pos21 pos22:Option (Ctl Int Int)) fun mu=>Yz mu fun at36 =>
  sel (decide (at36<(y12.length:Int))) (
   sel (decide (q1.Kind=3)) (
    sel (!y14) (
     some 9) (
     some 0)) (
    sel (!false) (
     some 9) (
     some 0))) (
   some 0))
instance Zoo {q1} {l2}:SpO (ZaO q1 l2) fun y=>Sp 102 [.a (Zf.vs q1),.d (lst Zi.ds l2)] [] (vI y) []:=⟨fun hm=>by
 refine si Tryz.func102 Tryz.ntmps102 Tryz.results102 fun B w0 ρ0=>?_
 refine bp hm fun y3 hm=>?_
 refine co hm (fun hm=>?_) fun hm=>?_
 ·exact YF hm
 refine sx ?_
 refine sr ?_
 refine jc0 hm [1,2] [102] [] (fun _ hm hm1=>?_) (fun hm=>?_)
 ·refine Zm ?_
  refine lr0 hm1 19 [1,2,19,20] [102] (fun m6=>[(21,vI (m6:Int))]) (fun hlenm6 m6 r4 hltm6 hxm6 hm1=>?_) (fun m6 hm1=>?_)
  ·refine sx ?_
   refine sr ?_
   refine ZL (Zc3 hxm6 rfl rfl rfl rfl) rfl rfl rfl ?_
   refine ss ?_
   refine Zg ?_
   refine Zg ?_
   refine jo1 hm1 [1,2,7,19,20,21] [102,107] (fun x10=>[(42,vB x10)]) (fun _ hm1 hm2=>?_) (fun x10 hm1=>?_)
   ·exact az2 hm hm1 hm2
   refine co hm1 (fun hm1=>?_) fun hm1=>?_
   ·exact ZcF hm hm1
   refine bp hm1 fun y11 hm1=>?_
   refine co hm1 (fun hm1=>?_) fun hm1=>?_
   ·exact ZcF hm hm1
   exact eb1 hm hm1
  exact ZbU hm hm1
 refine sr ?_
 obtain ⟨y12,hy,hm⟩:=ZH hm
 refine Zhp (ZbJ (hm:=hy)) ?_
 refine ss ?_
 refine Zg ?_
 refine Zy (id:=13) [⟨0,0,[2]⟩,⟨1,0,[1]⟩,⟨2,2,[54]⟩,⟨3,6,[55]⟩,⟨4,15,[53,56]⟩,⟨5,31,[57]⟩] mixed (by kernel_rfl) ?_
 refine bo hm fun y13 hm=>?_
 refine bp hm fun y14 hm=>?_
 refine sr ?_
 refine sr ?_
 refine sr ?_
 refine jo2 hm [1,2,8,9,10,11] [102] (fun pos16 pos17=>[]) (fun _ hm hm1=>?_) (fun pos16 pos17 hm=>?_) (B:=(fun pos16 pos17=>[(111,some (.box 32 [vS pos16,vB pos17]))]))
 ·exact az1 hm hm1
 refine ss ?_
 refine Zg ?_
 refine Zg ?_
 refine jo1 hm [1,2,8,9,10,11] [102,111] (fun x19=>[(74,vB x19)]) (fun _ hm hm1=>?_) (fun x19 hm=>?_)
 ·exact az1 hm hm1
 refine ss ?_
 refine jo2 hm [1,2,8,9,10,11] [102] (fun pos21 pos22=>[]) (fun _ hm hm1=>?_) (fun pos21 pos22 hm=>?_) (B:=(fun pos21 pos22=>[(111,some (.box 32 [vS pos21,vB pos22]))]))
 ·exact az1 hm hm1
 refine sr ?_
 refine jc1 hm [2,8,9] [102] (fun at36=>[(10,vI at36)]) (fun _ hm hm1=>?_) (fun at36 hm=>?_)
 ·refine Zm ?_
  refine lr3 hm1 80 [2,8,9,11,80,81] [102] (fun m28 at23 pos24 pos25=>[(10,vI at23),(82,vI (m28:Int))]) (fun hlenm28 m28 at23 pos24 pos25 r26 hltm28 hxm28 hm1=>?_) (fun m28 at23 pos24 pos25 hm1=>?_) (B:=(fun m28 at23 pos24 pos25=>[(111,some (.box 32 [vS pos24,vB pos25]))]))
  ·refine co hm1 (fun hm1=>?_) fun hm1=>?_
   ·exact ZcF hm hm1
   refine bp hm1 fun y29 hm1=>?_
   refine co hm1 (fun hm1=>?_) fun hm1=>?_
   ·exact ZcF hm hm1
   refine bp hm1 fun y30 hm1=>?_
   refine co hm1 (fun hm1=>?_) fun hm1=>?_
   ·exact ZcF hm hm1
   refine Zg ?_
   refine Zy (id:=29) [⟨0,0,[13]⟩,⟨1,1,[106]⟩,⟨2,3,[107]⟩,⟨3,0,[8]⟩,⟨4,0,[10]⟩,⟨5,24,[109,110]⟩,⟨6,56,[111]⟩,⟨7,120,[112]⟩,⟨8,255,[108,113]⟩,⟨9,511,[114]⟩,⟨10,1023,[115]⟩] mixed (by kernel_rfl) ?_
   refine bo hm1 fun e31 hm1=>?_
   refine bp hm1 fun y32 hm1=>?_
   refine co hm1 (fun hm1=>?_) fun hm1=>?_
   ·exact ZcF hm hm1
   refine sx ?_
   refine sr ?_
   refine Zg ?_
   refine Zy (id:=32) [⟨0,0,[11]⟩,⟨1,0,[8]⟩,⟨2,0,[10]⟩,⟨3,6,[120,121]⟩,⟨4,14,[122]⟩,⟨5,30,[123]⟩,⟨6,63,[119,124]⟩,⟨7,127,[125]⟩] mixed (by kernel_rfl) ?_
   refine bo hm1 fun e33 hm1=>?_
   refine bp hm1 fun y34 hm1=>?_
   refine co hm1 (fun hm1=>?_) fun hm1=>?_
   ·refine co hm1 (fun hm1=>?_) fun hm1=>?_
    ·refine bo hm1 fun e35 hm1=>?_
     exact eb1 hm hm1
    exact eb1 hm hm1
   exact eb1 hm hm1
  exact ZbU hm hm1
 refine co hm (fun hm=>?_) fun hm=>?_
 ·exact az0 hm
 refine ss ?_
 refine Yf rfl ?_
 exact YF hm⟩
def Zay (r1:Z7):Option (Yq × Int) :=
 Ze (ZaO r1.Query r1.First) fun y2 =>
 sel (!decide (y2=0)) (
  some ((Yq.mk [] (Y5.mk 0 0 0 0 0 ⟨#[]⟩ ⟨#[]⟩)),y2)) (
  Ze (ZaO r1.Query r1.Second) fun y3 =>
  sel (!decide (y3=0)) (
   some ((Yq.mk [] (Y5.mk 0 0 0 0 0 ⟨#[]⟩ ⟨#[]⟩)),y3)) (
   Ze (QS r1.First r1.Second) fun y4 =>
   sel (!y4) (
    some ((Yq.mk [] (Y5.mk 0 0 0 0 0 ⟨#[]⟩ ⟨#[]⟩)),11)) (
    Ze (Qu r1.First) fun y5 =>
    Ze (Zb2 r1.Query y5) fun y6 =>
    Ze (ZaM y6) fun y7 =>
    some ((Yq.mk y6 y7),0))))
instance ZqD {r1}:SpO (Zay r1) fun y=>Sp 39 [.a (Z7.vs r1)] [] (.t [.a (Yq.vs y.1),vI y.2]) []:=⟨fun hm=>by
 refine si Tryz.func39 Tryz.ntmps39 Tryz.results39 fun B w0 ρ0=>?_
 refine bo hm fun y2 hm=>?_
 refine co hm (fun hm=>?_) fun hm=>?_
 ·exact YF hm
 refine bo hm fun y3 hm=>?_
 refine co hm (fun hm=>?_) fun hm=>?_
 ·exact YF hm
 refine bo hm fun y4 hm=>?_
 refine co hm (fun hm=>?_) fun hm=>?_
 ·exact YF hm
 refine sx ?_
 refine Zg ?_
 refine Zy (id:=9) [⟨0,0,[1]⟩,⟨1,1,[32]⟩,⟨2,0,[1]⟩,⟨3,4,[34]⟩,⟨4,12,[35]⟩,⟨5,31,[33,36]⟩,⟨6,63,[37]⟩] mixed (by kernel_rfl) ?_
 exact az0 hm⟩
end Go.Proofs.YtkcmgbbopedacaaGreatDoor
namespace Go.Proofs.YtkcmgbbopedacaaGreatDoor
open Go.RowKit
theorem ZbL (a b:Rng):Xt a b=ZQ a b:=by
 unfold Xt ZQ
 simp only [Zn,Zw,ZG]
theorem Zg4 (a b:List Kv) (h:a.length=b.length):∀ (xs:List Kv) (m:Nat),a.drop m=xs→m≤a.length→Z6 a b xs (m:Int)=some (sel (decide (a.drop m=b.drop m)) (.nxt ()) (.ret false))
 | [],m,h1,hm=>by
  have:a.length - m=0:=by have:=congrArg List.length h1; simpa using this
  rw [Z6.eq_1,Zdi h,dif_neg (by omega)]; rfl
 | r::xs,m,h1,hm=>by
  obtain ⟨h2,h3⟩:=Zci h1
  have h4:=(List.getElem?_eq_some_iff.1 h2).1
  rw [Z6.eq_2,Yc,Yc,List.getElem?_eq_getElem h4,List.getElem?_eq_getElem (show m<b.length by omega),Za,Za,Ztn,show (m:Int)+1=((m+1:Nat):Int) by omega,Zg4 a b h xs (m+1) h3 h4,Zdi h m,dif_pos h4]
  cases decide (a[m]=b[m]) <;> rfl
theorem ZeL (a b:List Kv):QL a b=some (decide (a=b)):=by
 unfold QL Xm
 by_cases h:a.length=b.length
 ·have:=Zg4 a b h a 0 rfl (Nat.zero_le _)
  rw [show ((0:Nat):Int)=0 from rfl,List.drop_zero,List.drop_zero] at this
  rw [decide_eq_true (by omega),this]
  cases decide (a=b) <;> rfl
 ·have h2:a≠b:=fun e=>h (by rw [e])
  rw [decide_eq_false (by omega),decide_eq_false h2]; rfl
def Zhm (a b:Zi):Bool:=decide (a.View.Owner=b.View.Owner) && decide (a.View.Stamp.Epoch=b.View.Stamp.Epoch) && decide (a.View.Stamp.Version=b.View.Stamp.Version) && ZQ a.View.Interval b.View.Interval && ZQ a.Part b.Part && decide (a.View.Rows=b.View.Rows)
theorem Zfv (a b:Zi):Zai a b=some (Zhm a b):=by
 unfold Zai Zhm
 rw [Zn,Zn,Zfl,Za]
 cases decide (a.View.Owner=b.View.Owner) <;> cases decide (a.View.Stamp.Epoch=b.View.Stamp.Epoch) <;> cases decide (a.View.Stamp.Version=b.View.Stamp.Version) <;> cases ZQ a.View.Interval b.View.Interval <;> cases ZQ a.Part b.Part <;> rfl
theorem Zhh (a b:Zi):ZbP a b=some (Zhm a b):=by
 unfold ZbP Zhm
 rw [Zn,Zn,ZbL,ZbL,ZeL,Za]
 cases decide (a.View.Owner=b.View.Owner) <;> cases decide (a.View.Stamp.Epoch=b.View.Stamp.Epoch) <;> cases decide (a.View.Stamp.Version=b.View.Stamp.Version) <;> cases ZQ a.View.Interval b.View.Interval <;> cases ZQ a.Part b.Part <;> rfl
def X8:List Zi→List Zi→Bool
 | [],[]=>true
 | a::l,b::m=>Zhm a b && X8 l m
 | _,_=>false
theorem ZfE:∀ {a b:List Zi},X8 a b=true→a.length=b.length
 | [],[],_=>rfl
 | a::l,b::m,h=>by
  simp only [X8,Bool.and_eq_true] at h
  have:=ZfE h.2
  simp [this]
 | [],_::_,h=>by simp [X8] at h
 | _::_,[],h=>by simp [X8] at h
theorem ZjF {a b:List Zi} (h:a.length=b.length) {m:Nat} (hm:m<a.length):X8 (a.drop m) (b.drop m)=(Zhm a[m] (b[m]'(by omega)) && X8 (a.drop (m+1)) (b.drop (m+1))):=by
 rw [List.drop_eq_getElem_cons hm,List.drop_eq_getElem_cons (l:=b) (by omega)]; rfl
theorem ZhH (a b:List Zi) (h:a.length=b.length):∀ (xs:List Zi) (m:Nat),a.drop m=xs→m≤a.length→Y4 a b xs (m:Int)=some (sel (X8 (a.drop m) (b.drop m)) (.nxt ()) (.ret false))
 | [],m,h1,hm=>by
  have h2:a.length - m=0:=by have:=congrArg List.length h1; simpa using this
  rw [Y4.eq_1,h1,List.drop_eq_nil_of_le (by omega)]; rfl
 | r::xs,m,h1,hm=>by
  obtain ⟨h2,h3⟩:=Zci h1
  have h4:=(List.getElem?_eq_some_iff.1 h2).1
  rw [Y4.eq_2,Yc,Yc,List.getElem?_eq_getElem h4,List.getElem?_eq_getElem (show m<b.length by omega),Za,Za,Zfv,Za,show (m:Int)+1=((m+1:Nat):Int) by omega,ZhH a b h xs (m+1) h3 h4,ZjF h h4]
  cases Zhm a[m] (b[m]'(by omega)) <;> rfl
theorem ZeJ (a b:List Zi):QS a b=some (X8 a b):=by
 unfold QS
 by_cases h:a.length=b.length
 ·have:=ZhH a b h a 0 rfl (Nat.zero_le _)
  rw [show ((0:Nat):Int)=0 from rfl,List.drop_zero,List.drop_zero] at this
  rw [decide_eq_true (by omega),this]
  cases X8 a b <;> rfl
 ·have h2:X8 a b=false:=by
    cases hh:X8 a b with
    | false=>rfl
    | true=>exact absurd (ZfE hh) h
  rw [decide_eq_false (by omega),h2]; rfl
def vOk (v:Zi):Bool:=X7 v.View && !emp v.Part && inside v.View.Interval v.Part
def rOk (v:Zi):Bool:=v.View.Rows.all fun x=>contains v.Part x.key
def tl1:List Zi→Ctl Int Unit
 | []=>.nxt ()
 | v::l=>if vOk v=true then (if rOk v=true then tl1 l else .ret 17) else .ret 1
def tl2 (R:List Rng):List Zi→Nat→Bnd→Ctl Int Int
 | [],a,_=>.nxt (a:Int)
 | v::l,a,p=>match R[a]? with
  | none=>.ret 2
  | some e=>if 0<cmp v.Part.lo p then .ret 9 else if cmp v.Part.lo p<0 then .ret 10 else if 0<cmp v.Part.hi e.hi then .ret 2 else if cmp v.Part.hi e.hi=0 then tl2 R l (a+1) (match R[a+1]? with | some x=>x.lo | none=>v.Part.hi) else tl2 R l a v.Part.hi
theorem Zfn:∀ l:List Zi,(∀ v ∈ l,v.View.Rows.length≤10000)→Qo l=some (tl1 l)
 | [],_=>rfl
 | v::l,h=>by
  have hv:=h v List.mem_cons_self
  have ih:=Zfn l fun x hx=>h x (List.mem_cons_of_mem _ hx)
  rw [Qo.eq_2,Zc0 _ hv,Za,Zn,Zn,Yl,Zen,Zbo _ _ (by omega),ih,tl1]
  unfold vOk rOk
  cases X7 v.View with
  | false=>rfl
  | true =>
   cases emp v.Part with
   | true=>rfl
   | false =>
    cases inside v.View.Interval v.Part with
    | false=>rfl
    | true =>
     simp only [Bool.not_true,Zb,Bool.not_false,Za,Bool.and_self,if_true,ZpH]
     cases (v.View.Rows.all fun x=>contains v.Part x.key) <;> rfl
theorem Zfs:∀ l:List Zi,Zag l=some (tl1 l)
 | []=>rfl
 | v::l=>by
  have ih:=Zfs l
  rw [Zag.eq_2,Zcu,Za,Zn,Zn,Zn,ZT,Zhf,Za4,ih,tl1]
  unfold vOk rOk
  cases X7 v.View with
  | false=>rfl
  | true =>
   cases emp v.Part with
   | true=>rfl
   | false =>
    cases inside v.View.Interval v.Part with
    | false=>rfl
    | true =>
     simp only [Bool.not_true,Zb,Bool.not_false,Za,Bool.and_self,if_true]
     cases (v.View.Rows.all fun x=>contains v.Part x.key) <;> rfl
theorem ZoW (R:List Rng) (a:Nat) (ha:a<1000000) (hR:R.length≤1000000) (p:Bnd) {α:Type} (K:ByteArray→Bool→Option α) :
   sel (decide (ZJ ((a:Int)+1)<(R.length:Int))) (Ze (YD R (ZJ ((a:Int)+1))) fun e=>K e.lo.key e.lo.top) (K p.key p.top)=K (match R[a+1]? with | some x=>x.lo | none=>p).key (match R[a+1]? with | some x=>x.lo | none=>p).top:=by
 rw [ZA (by omega) (by omega),show (a:Int)+1=((a+1:Nat):Int) by omega]
 by_cases h:a+1<R.length
 ·rw [decide_eq_true (by omega),Zd,Yc,List.getElem?_eq_getElem h,Za]
 ·rw [decide_eq_false (by omega),Zb,List.getElem?_eq_none (by omega)]
theorem Zdr (R:List Rng) (hR:R.length≤100000):∀ (l:List Zi) (a:Nat) (p:Bnd),a≤R.length→YM R l (a:Int) p.key p.top=some (tl2 R l a p)
 | [],a,p,_=>rfl
 | v::l,a,p,ha=>by
  rw [YM.eq_2,Zn,Zw,tl2]
  by_cases h:a=R.length
  ·rw [decide_eq_true (by omega),Zd,List.getElem?_eq_none (by omega)]
  ·have hlt:a<R.length:=by omega
   rw [decide_eq_false (by omega),Zb,Yc,List.getElem?_eq_getElem hlt,Za,Zn,Zw]
   have ep:(⟨p.key,p.top⟩:Bnd)=p:=rfl
   rw [ep]
   simp only
   have c1:=Zet v.Part.lo p
   have c2:=Zet v.Part.hi R[a].hi
   rw [ZoW R a (by omega) (by omega) v.Part.hi fun k t=>YM R l (ZJ ((a:Int)+1)) k t]
   rw [ZA (by omega) (by omega),show (a:Int)+1=((a+1:Nat):Int) by omega,Zdr R hR l (a+1) _ (by omega),Zdr R hR l a _ (by omega)]
   rcases c1 with c1 | c1 | c1 <;> rw [c1]
   ·rfl
   ·rcases c2 with c2 | c2 | c2 <;> rw [c2] <;> rfl
   ·rfl
theorem Zdo (R:List Rng) (hR:R.length≤100000):∀ (l:List Zi) (a:Nat) (p:Bnd),a≤R.length→Y2 R l (a:Int) p.key p.top=some (tl2 R l a p)
 | [],a,p,_=>rfl
 | v::l,a,p,ha=>by
  rw [Y2.eq_2,Zn,Zn,ZG,tl2]
  by_cases h:a=R.length
  ·rw [decide_eq_true (by omega),Zd,List.getElem?_eq_none (by omega)]
  ·have hlt:a<R.length:=by omega
   rw [decide_eq_false (by omega),Zb,Yc,List.getElem?_eq_getElem hlt,Za,Za,Zn,Zn,ZG]
   have ep:(⟨p.key,p.top⟩:Bnd)=p:=rfl
   rw [ep]
   simp only
   have c1:=Zet v.Part.lo p
   have c2:=Zet v.Part.hi R[a].hi
   rw [ZoW R a (by omega) (by omega) v.Part.hi fun k t=>Y2 R l (ZJ ((a:Int)+1)) k t]
   rw [ZA (by omega) (by omega),show (a:Int)+1=((a+1:Nat):Int) by omega,Zdo R hR l (a+1) _ (by omega),Zdo R hR l a _ (by omega)]
   rcases c1 with c1 | c1 | c1 <;> rw [c1]
   ·rfl
   ·rcases c2 with c2 | c2 | c2 <;> rw [c2] <;> rfl
   ·rfl
def Zi8 (q:Zf) (l:List Zi):Bnd:=match l with
 | []=>(match qrg q with | r::_=>r.lo | []=>zb)
 | v::_=>if (Xf q && enough q ((YH l).length:Int))=true then v.Part.lo else (match qrg q with | r::_=>r.lo | []=>zb)
def Zas (q:Zf) (l:List Zi):Int :=
 if qch q≠0 then qch q else match tl1 l with
  | .ret e=>e
  | .nxt _=>match tl2 (qrg q) l 0 (Zi8 q l) with
   | .ret e=>e
   | .nxt a=>if a<((qrg q).length:Int) then (if q.Kind=3∧enough q ((YH l).length:Int)=true then 0 else 9) else 0
structure okC (l:List Zi):Prop where
 vis:l.length≤1000
 rows:∀ v ∈ l,v.View.Rows.length≤10000
theorem okC.w {l:List Zi} (h:okC l):okW ⟨⟨0,[],⟨#[]⟩,0⟩,[],l⟩:=⟨by simp,by simp,h.vis,h.rows⟩
theorem ZtM (q:Zf):(qrg q).length≤64:=Zed _ _ _ _
theorem ZmR (R:List Rng):(sel (decide (0<(R.length:Int))) (Ze (YD R 0) fun e15=>some (e15.lo.key,e15.lo.top)) (some (⟨#[]⟩,false)):Option (ByteArray × Bool))=some ((match R with | r::_=>r.lo | []=>zb).key,(match R with | r::_=>r.lo | []=>zb).top):=by
 cases R with
 | nil=>rfl
 | cons r R =>
  rw [decide_eq_true (by simp),Zd,ZcT,Za]
theorem ZpC (q:Zf) (l:List Zi) (p:Bnd) (hp:p=match qrg q with | r::_=>r.lo | []=>zb):(Ze (sel (Xf q) (sel (enough q ((YH l).length:Int)) (some (decide (0<(l.length:Int)))) (some false)) (some false):Option Bool) fun x19=>(sel x19 (Ze (YD l 0) fun e20=>some (e20.Part.lo.key,e20.Part.lo.top)) (some (p.key,p.top)):Option (ByteArray × Bool)))=some ((Zi8 q l).key,(Zi8 q l).top):=by
 cases l with
 | nil =>
  have e:Zi8 q []=p:=by rw [hp]; rfl
  rw [e]
  cases Xf q <;> cases enough q ((YH []).length:Int) <;> rfl
 | cons v l =>
  have e0:decide (0<(((v::l).length:Nat):Int))=true:=decide_eq_true (by rw [List.length_cons]; omega)
  have e1:YD (v::l) 0=some v:=by
   have:=Yc (v::l) 0
   rw [show ((0:Nat):Int)=0 from rfl] at this
   rw [this]; rfl
  have e2:Zi8 q (v::l)=if (Xf q && enough q ((YH (v::l)).length:Int))=true then v.Part.lo else p:=by rw [hp]; rfl
  rw [e0,e1,e2]
  cases Xf q <;> cases enough q ((YH (v::l)).length:Int) <;> rfl
theorem Zh1 {α β γ:Type} (x:Option α) (f:α→Option β) (g:β→Option γ):Ze (Ze x f) g=Ze x fun a=>Ze (f a) g:=by
 cases x <;> rfl
theorem ZcU (q:Zf) (hq:q.Ranges.length<1000000) {l:List Zi} (h:okC l):Za6 q l=some (Zas q l):=by
 have e1:Y8 q=some (qch q):=if_pos hq
 have e2:YK q=some (qrg q):=if_pos hq
 have e3:X4 l=some (YH l):=by unfold X4; rw [ZdP h.w,Za]
 have ed:Qt q=Xf q:=rfl
 have hR:=ZtM q
 unfold Za6 Zas
 rw [e1,Za]
 by_cases h0:qch q=0
 ·rw [decide_eq_true h0,Bool.not_true,Zb,if_neg (by simp [h0]),Zfn _ h.rows,Za]
  cases tl1 l with
  | ret e=>rfl
  | nxt _ =>
   rw [ZB,e2,Za,e3,Za,Zn,ZdV,ZmR,Za,Zn,ed]
   simp only
   rw [← Zh1,ZpC q l _ rfl,Za]
   simp only
   rw [show (0:Int)=((0:Nat):Int) from rfl,Zdr (qrg q) (by omega) l 0 (Zi8 q l) (Nat.zero_le _),Za]
   cases tl2 (qrg q) l 0 (Zi8 q l) with
   | ret e=>rfl
   | nxt a =>
    rw [ZB]
    simp only
    by_cases ha:a<((qrg q).length:Int)
    ·rw [decide_eq_true ha,Zd,if_pos ha]
     by_cases hk:q.Kind=3
     ·rw [decide_eq_true hk,Zd]
      cases enough q ((YH l).length:Int) with
      | true=>rw [if_pos ⟨hk,rfl⟩]; rfl
      | false=>rw [if_neg (by simp)]; rfl
     ·rw [decide_eq_false hk,Zb,if_neg (by simp [hk])]; rfl
    ·rw [decide_eq_false ha,Zb,if_neg ha]
 ·rw [decide_eq_false h0,Bool.not_false,Zd,if_pos h0]
theorem ZdU (q:Zf) (hq:q.Ranges.length<1000000) {l:List Zi} (h:okC l):ZaO q l=some (Zas q l):=by
 have e1:XT q=qch q:=Zcz q
 have e2:Xp q=some (qrg q):=if_pos hq
 have e3:Qu l=some (YH l):=Zdn h.w
 have ed:X0 q=Xf q:=rfl
 have hR:=ZtM q
 unfold ZaO Zas
 rw [Zn,e1]
 by_cases h0:qch q=0
 ·rw [decide_eq_true h0,Bool.not_true,Zb,if_neg (by simp [h0]),Zfs,Za]
  cases tl1 l with
  | ret e=>rfl
  | nxt _ =>
   rw [ZB,e2,Za,e3,Za,Zn,ZdY,ZmR,Za,Zn,ed]
   simp only
   rw [← Zh1,ZpC q l _ rfl,Za]
   simp only
   rw [show (0:Int)=((0:Nat):Int) from rfl,Zdo (qrg q) (by omega) l 0 (Zi8 q l) (Nat.zero_le _),Za]
   cases tl2 (qrg q) l 0 (Zi8 q l) with
   | ret e=>rfl
   | nxt a =>
    rw [ZB]
    simp only
    by_cases ha:a<((qrg q).length:Int)
    ·rw [decide_eq_true ha,Zd,if_pos ha]
     by_cases hk:q.Kind=3
     ·rw [decide_eq_true hk,Zd]
      cases enough q ((YH l).length:Int) with
      | true=>rw [if_pos ⟨hk,rfl⟩]; rfl
      | false=>rw [if_neg (by simp)]; rfl
     ·rw [decide_eq_false hk,Zb,if_neg (by simp [hk])]; rfl
    ·rw [decide_eq_false ha,Zb,if_neg ha]
 ·rw [decide_eq_false h0,Bool.not_false,Zd,if_pos h0]
end Go.Proofs.YtkcmgbbopedacaaGreatDoor
namespace Go.Proofs.YtkcmgbbopedacaaGreatDoor
open Go.RowKit
theorem ZpL:∀ {l:List Zi} {e:Int},tl1 l=.ret e→e≠0
 | [],e,h=>by simp [tl1] at h
 | v::l,e,h=>by
  rw [tl1] at h
  split at h
  ·split at h
   ·exact ZpL h
   ·injection h with h; omega
  ·injection h with h; omega
theorem Zpf:∀ {l:List Zi} {u:Unit},tl1 l=.nxt u→∀ v ∈ l,vOk v=true∧rOk v=true
 | [],_,_,v,hv=>by simp at hv
 | x::l,u,h,v,hv=>by
  rw [tl1] at h
  split at h
  ·split at h
   ·rcases List.mem_cons.1 hv with rfl | hv
    ·exact ⟨by assumption,by assumption⟩
    ·exact Zpf h v hv
   ·cases h
  ·cases h
theorem Zsv {q:Zf} {l:List Zi} (h:Zas q l=0):qch q=0∧∀ v ∈ l,vOk v=true∧rOk v=true:=by
 unfold Zas at h
 by_cases h0:qch q=0
 ·refine ⟨h0,?_⟩
  rw [if_neg (by simp [h0])] at h
  cases e:tl1 l with
  | ret z =>
   rw [e] at h
   exact absurd h (ZpL e)
  | nxt u=>exact Zpf e
 ·rw [if_pos h0] at h
  exact absurd h h0
theorem ZsK {v:Zi} (h:vOk v=true):Yu v.View.Rows=true:=by
 unfold vOk X7 at h
 simp only [Bool.and_eq_true] at h
 exact h.1.1.1.2
theorem Zp7 {l:List Zi} (h:∀ v ∈ l,vOk v=true):∀ r ∈ YH l,ZhB r=true:=fun r hr=>by
 unfold YH at hr
 obtain ⟨v,hv,hrv⟩:=List.mem_flatMap.1 hr
 exact ((XC _).1 (ZsK (h v hv))).2.1 r hrv
def noA:Yq:=⟨[],⟨0,0,0,0,0,⟨#[]⟩,⟨#[]⟩⟩⟩
def ZhE (r:Z7):Int:=if Zas r.Query r.First≠0 then Zas r.Query r.First else if Zas r.Query r.Second≠0 then Zas r.Query r.Second else if X8 r.First r.Second=true then 0 else 11
theorem ZdS (r:Z7) (h:r.First.length=r.Second.length):∀ (xs:List Zi) (m:Nat),r.First.drop m=xs→m≤r.First.length→XL r xs (m:Int)=some (sel (X8 (r.First.drop m) (r.Second.drop m)) (.nxt ()) (.ret (noA,11)))
 | [],m,h1,hm=>by
  have h2:r.First.length - m=0:=by have:=congrArg List.length h1; simpa using this
  rw [XL.eq_1,h1,List.drop_eq_nil_of_le (by omega)]; rfl
 | v::xs,m,h1,hm=>by
  obtain ⟨h2,h3⟩:=Zci h1
  obtain ⟨h4,h5⟩:=List.getElem?_eq_some_iff.1 h2
  rw [XL.eq_2,Yc,List.getElem?_eq_getElem (show m<r.Second.length by omega),Za,Zhh,Za,show (m:Int)+1=((m+1:Nat):Int) by omega,ZdS r h xs (m+1) h3 h4,ZjF h h4,h5]
  cases Zhm v (r.Second[m]'(by omega)) <;> rfl
theorem ZuJ (k c:Int) (l:List Kv):(qtk k c l).length≤l.length:=by
 unfold qtk
 split
 ·simp; omega
 split
 ·simp
 ·exact Nat.le_refl _
theorem Zsm (r:Z7) (hq:r.Query.Ranges.length<1000000) (h1:okC r.First) (h2:okC r.Second):∃ a,ZcA r=some (a,ZhE r)∧Zay r=some (a,ZhE r) ∧
   (ZhE r=0→a.Rows=qtk r.Query.Kind r.Query.Count (YH r.First)∧ZaM a.Rows=some a.Fold):=by
 have hlen:(YH r.First).length≤10000000:=h1.w.rlen
 unfold ZcA Zay ZhE
 rw [XN.eq_2,XN.eq_2,XN.eq_1]
 rw [ZcU _ hq h1,ZcU _ hq h2,ZdU _ hq h1,ZdU _ hq h2]
 simp only [Za]
 by_cases t1:Zas r.Query r.First=0
 ·rw [decide_eq_true t1,Bool.not_true,if_neg (by simp [t1])]
  simp only [Zb]
  by_cases t2:Zas r.Query r.Second=0
  ·rw [decide_eq_true t2,Bool.not_true,if_neg (by simp [t2])]
   simp only [Zb,Za,ZB]
   rw [ZeJ,Za]
   cases hs:X8 r.First r.Second with
   | false =>
    simp only [Bool.not_false,Zd,Bool.false_eq_true,if_false]
    refine ⟨noA,?_,rfl,fun h=>absurd h (by omega)⟩
    by_cases hl:r.First.length=r.Second.length
    ·have:=ZdS r hl r.First 0 rfl (Nat.zero_le _)
     rw [show ((0:Nat):Int)=0 from rfl,List.drop_zero,List.drop_zero,hs] at this
     rw [decide_eq_true (by omega),Bool.not_true,Zb,this]; rfl
    ·rw [decide_eq_false (by omega),Bool.not_false,Zd]; rfl
   | true =>
    have hl:=ZfE hs
    have:=ZdS r hl r.First 0 rfl (Nat.zero_le _)
    rw [show ((0:Nat):Int)=0 from rfl,List.drop_zero,List.drop_zero,hs] at this
    have e3:X4 r.First=some (YH r.First):=by unfold X4; rw [ZdP h1.w,Za]
    have e4:Qu r.First=some (YH r.First):=Zdn h1.w
    obtain ⟨k1,k2⟩:=ZpI r.Query (YH r.First) (by omega)
    have hv:=Zp7 fun v hv=>((Zsv t1).2 v hv).1
    have hql:=ZuJ r.Query.Kind r.Query.Count (YH r.First)
    obtain ⟨g,e5,e6,-⟩:=Zvv (qtk r.Query.Kind r.Query.Count (YH r.First)) (by omega) (fun x hx=>by
     have h1:=hv x (Zo3 _ _ _ x hx)
     simp only [ZhB,Bool.and_eq_true,decide_eq_true_eq] at h1
     omega)
    rw [decide_eq_true (by omega),Bool.not_true,Zb,this,Zd,Za,ZB,e3,Za,k1,Za,e5,Za,Zb,e4,Za,k2,Za,e6,Za]
    exact ⟨_,rfl,rfl,fun _=>⟨rfl,e6⟩⟩
  ·rw [decide_eq_false t2,Bool.not_false,if_pos t2]
   simp only [Zd,Za,Yo]
   exact ⟨_,rfl,rfl,fun h=>absurd h t2⟩
 ·rw [decide_eq_false t1,Bool.not_false,if_pos t1]
  simp only [Zd,Za,Yo]
  exact ⟨_,rfl,rfl,fun h=>absurd h t1⟩
def QW (l:List Zc):List Zi:=l.flatMap (·.Visits)
theorem ZgX:∀ (l:List Zc) (out:List Zi),out.length+(QW l).length≤1000000→Xu l out=some (out++QW l)∧Q6 l out=some (out++QW l)∧Q7 l out=some (out++QW l)
 | [],out,_=>by rw [Xu.eq_1,Q6.eq_1,Q7.eq_1]; simp [QW]
 | w::l,out,h=>by
  unfold QW at h ⊢
  rw [List.flatMap_cons,List.length_append] at h
  have ih:=ZgX l (out++w.Visits) (by unfold QW; rw [List.length_append]; omega)
  unfold QW at ih
  obtain ⟨i1,i2,i3⟩:=ih
  rw [Xu.eq_2,Q6.eq_2,Q7.eq_2,ZW (by omega),Za,Za,Za,i1,i2,i3,List.flatMap_cons,List.append_assoc]
  exact ⟨rfl,rfl,rfl⟩
theorem Zuw (q:Zf) (a b:List Zc) (hq:q.Ranges.length≤1000000) (ha:(QW a).length≤1000000) (hb:(QW b).length≤1000000) (hra:∀ v ∈ QW a,v.View.Rows.length≤10000) (hrb:∀ v ∈ QW b,v.View.Rows.length≤10000) :
   ZbQ q a b=some ⟨q,QW a,QW b⟩∧Zdh q a b=some ⟨q,QW a,QW b⟩:=by
 obtain ⟨a1,a2,a3⟩:=ZgX a [] (by simpa using ha)
 obtain ⟨b1,b2,b3⟩:=ZgX b [] (by simpa using hb)
 rw [List.nil_append] at *
 unfold ZbQ Zdh Za1
 rw [Ql _ (by omega),Za,a1,b1,a2,b3]
 simp only [Za]
 rw [Zcb _ ha (fun v hv=>by have:=hra v hv; omega),Zcb _ hb (fun v hv=>by have:=hrb v hv; omega)]
 simp only [Za,and_self]
end Go.Proofs.YtkcmgbbopedacaaGreatDoor
namespace Go.Proofs.YtkcmgbbopedacaaGreatDoor
open Go.RowKit
theorem Zz2 (b:Bool) {g:Prop} (h1:b=true→g) (h2:b=false→g):g:=by
 cases h:b with
 | true=>exact h1 h
 | false=>exact h2 h
theorem slt {α:Type} (x y:α):sel true x y=x:=rfl
theorem slf {α:Type} (x y:α):sel false x y=y:=rfl
theorem Zpa {w:World} {ok:Nat→Prop} {ρ:Lc}:∀ {xs ys:List V} {vs:List Value},RVs w ok ρ (xs++ys) vs→∃ us zs,vs=us++zs∧RVs w ok ρ xs us∧RVs w ok ρ ys zs
 | [],_,vs,h=>⟨[],vs,rfl,.nil,h⟩
 | x::xs,ys,_,.cons h1 h2=>by
  obtain ⟨us,zs,rfl,g1,g2⟩:=Zpa (xs:=xs) h2
  exact ⟨_::us,zs,rfl,.cons h1 g1,g2⟩
section
variable {P:Program} {o:Oper} {H:Hp} {sl:List (Nat × V)} {x:Operand} {xs:Array Operand} {ats:Array TypeId} {f:FuncId}
theorem ZwQ {pre post:List D} {k1 k2:Nat} (b:Bool) (hs:∀ v1 v2:Value,Spec P f [.a (pre.map V.d++.d (.c v1)::.d (.c v2)::post.map V.d)] [] fun u1 h1=>u1=.d (.c (bif b then v2 else v1))∧h1=[]) (hop:o.op=.call { callee:=.value x,args:=xs,argTypes:=ats }) (hx:ev sl x=some (.d (.c (.func (.func f) #[] #[])))) (ha:evl sl xs.toList=some [.a (pre.map V.d++.h k1::.h k2::post.map V.d)]):OpV P o H sl 0 0 fun u' h'=>u'=.h (bif b then k2 else k1)∧h'=[]:=fun B a w ρ hup hd hsr hr hfr=>by
 have hargs:=ZeW hsr ha
 generalize hg:xs.toList.map a.eval=args at hargs
 obtain ⟨us,rfl,hus⟩:∃ us:List Value,args=[.agg us.toArray]∧RVs w (okb B w ρ) ρ (pre.map V.d++.h k1::.h k2::post.map V.d) us:=by
  cases hargs with | cons h1 h2=>cases h2; cases h1 with | a h=>exact ⟨_,rfl,h⟩
 obtain ⟨A,C,rfl,hA,hC⟩:=Zpa hus
 obtain ⟨p1,n1,c1,p2,n2,c2,D',rfl,e1,e2,hD⟩:∃ p1 n1 c1 p2 n2 c2 D',C=.slice p1 n1 c1::.slice p2 n2 c2::D'∧ρ k1=some (.arr (.slice p1 n1 c1))∧ρ k2=some (.arr (.slice p2 n2 c2))∧RVs w (okb B w ρ) ρ (post.map V.d) D':=by
  cases hC with | cons h1 h2=>cases h2 with | cons h2 h3=>cases h1 with | h e1=>cases h2 with | h e2=>exact ⟨_,_,_,_,_,_,_,rfl,e1,e2,h3⟩
 have hs0:∀ i,sub ρ [] i=none:=fun i=>rfl
 have stl:Stl w w (okb B w ρ) (okb (fun _=>True) w (sub ρ [])):=fun b hb=>⟨⟨hb.1,trivial,fun i l hi=>by rw [hs0] at hi; cases hi⟩,rfl⟩
 have hargs':RVs w (okb (fun _=>True) w (sub ρ [])) (sub ρ []) [.a (pre.map V.d++.d (.c (.slice p1 n1 c1))::.d (.c (.slice p2 n2 c2))::post.map V.d)] [.agg (A++.slice p1 n1 c1::.slice p2 n2 c2::D').toArray] :=
  .cons (.a (RVs.append (RDs.toV ((RVs.ofD hA).mono stl)) (.cons (.d (.c rfl)) (.cons (.d (.c rfl)) (RDs.toV ((RVs.ofD hD).mono stl)))))) .nil
 have hview:HR (fun _=>True) [] (sub ρ []) w:=⟨fun k blk h=>by simp [look] at h,fun k k' blk blk' l l' b h=>by simp [look] at h,fun i l b hi=>(by rw [hs0] at hi; cases hi),fun e he=>⟨⟨(hr.gl e he).1.1,trivial,fun i l hi=>by rw [hs0] at hi; cases hi⟩,(hr.gl e he).2⟩⟩
 have hcall:=(hs (.slice p1 n1 c1) (.slice p2 n2 c2)).run (fun _=>True) w (sub ρ []) _ (fun b hb=>trivial) hargs' hview (fun i l hi=>by rw [hs0] at hi; cases hi)
 obtain ⟨fn,hf1,hf2,hf3⟩:=(hs undef undef).fn
 have hrun:(execOp a.eval o).run P w=.ok (.enter f (xs.toList.map a.eval).toArray) w:=by
  have hx':=ZbM (Zp hsr hx)
  unfold execOp; rw [hop]
  have e:xs.map a.eval=(xs.toList.map a.eval).toArray:=by apply Array.ext'; simp
  have h1 : ¬ fn.name = "runtime.NumGoroutine" := by simpa using hf2
  have h2:¬ fn.body=none:=fun e=>by rw [e] at hf3; cases hf3
  simp [resolve,hx',Deferred.ofValue,invoke,callFunc,program,Sem.run,hf1,h1,h2,e]
 unfold Oper.wp
 rw [hrun,hg,Oper.upon_enter]
 refine hcall.mono ?_
 rintro e w' ⟨r,u1,h1,ρ1,rfl,⟨rfl,rfl⟩,hst,hrv,hlt⟩
 refine ⟨r,.h (bif b then k2 else k1),[],ρ,rfl,⟨rfl,rfl⟩,⟨hst.os,hst.tape,hst.output,hst.size,fun _ _ h=>h,fun k l h=>.inl h,fun b hb _=>hst.keep b hb fun k l _ hk=>(by rw [hs0] at hk; cases hk),fun k h=>absurd rfl h,fun k blk h=>by simp [look] at h,fun k k' blk blk' l l' b h=>by simp [look] at h⟩,?_⟩
 rw [ZbM hrv]
 cases b with
 | true=>exact .h e2
 | false=>exact .h e1
end
section
variable {Γ:Cx} {k:Zcc} {sl:List (Nat × V)} {hp:Hp} {o:Oper} {ops:Array Oper} {i an d:Nat} {ts:List Nat} {r:List PI} {F:List Ft} {f:FuncId} {x:Operand} {xs:Array Operand} {ats:Array TypeId} {rest:List Oper} {pre post:List D} {k1 k2:Nat}
theorem Zh7 (b:Bool) (kr:Nat) (hs:∀ v1 v2:Value,Spec Γ.P f [.a (pre.map V.d++.d (.c v1)::.d (.c v2)::post.map V.d)] [] fun u1 h1=>u1=.d (.c (bif b then v2 else v1))∧h1=[]) (hop:o.op=.call { callee:=.value x,args:=xs,argTypes:=ats }) (hx:ev (keep ts sl) x=some (.d (.c (.func (.func f) #[] #[])))) (ha:evl (keep ts sl) xs.toList=some [.a (pre.map V.d++.h k1::.h k2::post.map V.d)])
   (hkr:(bif b then k2 else k1)=kr) (hd:o.dst=some d) (hw:Wt ops o (keep ts sl) true) (hdl:Nat.blt d Γ.nt=true) (hf:okF ⟨⟨i,an,ts⟩,[],[],0,0⟩ F=true) (hk:WD Γ ops k r (⟨⟨i,an,ts⟩,[],[],0,0⟩::F) ⟨(d,.h kr)::sl,hp⟩):WO Γ ops k o i an ts r F ⟨sl,hp⟩:=by
 subst hkr
 exact ZtR (h:=[]) (ZwQ b hs hop hx ha) hd hw hdl rfl (QX _ _) hf hk
end
end Go.Proofs.YtkcmgbbopedacaaGreatDoor
