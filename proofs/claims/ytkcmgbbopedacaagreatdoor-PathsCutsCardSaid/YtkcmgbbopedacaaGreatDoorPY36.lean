/-
  Lemmas: A call that hands one of two own slices back.
-/
import Derived.Test.YtkcmgbbopedacaaGreatDoorPY18
import Derived.Test.YtkcmgbbopedacaaGreatDoorPY24
import Derived.Test.YtkcmgbbopedacaaGreatDoorPY25
import Derived.Test.YtkcmgbbopedacaaGreatDoorPY35
import Derived.Test.YtkcmgbbopedacaaGreatDoorPY26
import Derived.Test.YtkcmgbbopedacaaGreatDoorPY31
import Derived.Laws.BytesString
import Derived.Test.YtkcmgbbopedacaaGreatDoorPY17
import Derived.Test.YtkcmgbbopedacaaGreatDoorPY9
import Derived.Laws.MakeOwn
set_option linter.unusedSimpArgs false
set_option linter.unusedVariables false
namespace Go.Proofs.YtkcmgbbopedacaaGreatDoor
open Go.RowKit
set_option maxRecDepth 100000
set_option maxHeartbeats 4000000
attribute [local irreducible] WK WC WL Wk Rel OpD OpV WD WO sel bnd Ze app Yx lsl Zex ssl Zhj Zg2 ZiR ZhL Op.bytesLess
attribute [local irreducible] Zcv Yg union
def Xl (a1:Rng) (b2:Rng):Bool :=
 bnd (Zj a1.lo b2.lo) fun y3 =>
 sel (decide (y3=0)) (
  bnd (Zj a1.hi b2.hi) fun y4 =>
  decide (y4=0)) (
  false)
instance ZjZ {a1} {b2}:SpT (Xl a1 b2) fun y=>Sp 239 [.a (Rng.vs a1),.a (Rng.vs b2)] [] (vB y) []:=⟨fun hm=>by
 refine si Tryz.func239 Tryz.ntmps239 Tryz.results239 fun B w0 ρ0=>?_
 exact az0 hm⟩
def ZZ (a1:List Kv) (b2:List Kv):List Kv→Int→Option (Ctl Bool Unit)
 | [],i =>
 some (Ctl.nxt ())
 | r3::xs4,i =>
 Ze (Yx a1 i) fun e6 =>
 Ze (Yx b2 i) fun e7 =>
 sel (!(decide (e6.key=e7.key) && decide (e6.val=e7.val))) (
  some (Ctl.ret false)) (
  ZZ a1 b2 xs4 (i+1))
def Xh (a1:List Kv) (b2:List Kv):Option Bool :=
 sel (!decide ((a1.length:Int)=(b2.length:Int))) (
  some false) (
  Ze (
   ZZ a1 b2 a1 0:Option (Ctl Bool Unit)) fun mu=>Yv mu fun (_:Unit) =>
  some true)
instance ZfX {a1} {b2}:SpO (Xh a1 b2) fun y=>Sp 245 [.d (lst Kv.ds a1),.d (lst Kv.ds b2)] [] (vB y) []:=⟨fun hm=>by
 refine si Tryz.func245 Tryz.ntmps245 Tryz.results245 fun B w0 ρ0=>?_
 refine co hm (fun hm=>?_) fun hm=>?_
 ·exact YF hm
 refine sx ?_
 refine sr ?_
 refine jc0 hm [] [] [] (fun _ hm hm1=>?_) (fun hm=>?_)
 ·refine Zl ?_
  refine Zq3 hm1 0 [0,1,12] [] (fun m5=>[(13,vI (m5:Int))]) (fun hlenm5 m5 r3 hltm5 hxm5 hm1=>?_) (fun m5 hm1=>?_)
  ·refine sx ?_
   refine sr ?_
   refine Zh ?_
   refine Zx (id:=6) [⟨0,0,[0]⟩,⟨1,0,[5]⟩,⟨2,3,[16,17]⟩,⟨3,7,[18]⟩,⟨4,0,[1]⟩,⟨5,0,[5]⟩,⟨6,48,[20,21]⟩,⟨7,112,[22]⟩,⟨8,255,[19,23]⟩] mixed (by kernel_rfl) ?_
   refine ss ?_
   obtain ⟨e6,hy,hm1⟩:=ZF hm1
   refine Ym [] (ZiU (ys:=[dS e6.key,dS e6.val]) hy rfl rfl rfl rfl) rfl (by first | exact .no rfl | exact .y rfl rfl rfl rfl) rfl rfl ?_
   refine ss ?_
   obtain ⟨e7,hy,hm1⟩:=ZF hm1
   refine Ym [] (ZiU (ys:=[dS e7.key,dS e7.val]) hy rfl rfl rfl rfl) rfl (by first | exact .no rfl | exact .y rfl rfl rfl rfl) rfl rfl ?_
   refine co hm1 (fun hm1=>?_) fun hm1=>?_
   ·exact Zcw hm hm1
   exact eb1 hm hm1
  exact ZbL hm hm1
 exact YF hm⟩
def QH (a1:List Kv) (b2:List Kv):Option Bool :=
 Ze (Xh a1 b2) fun y3 =>
 some y3
instance Zj6 {a1} {b2}:SpO (QH a1 b2) fun y=>Sp 240 [.d (lst Kv.ds a1),.d (lst Kv.ds b2)] [] (vB y) []:=⟨fun hm=>by
 refine si Tryz.func240 Tryz.ntmps240 Tryz.results240 fun B w0 ρ0=>?_
 exact az0 hm⟩
def Xm:List Zc→List Zf→Option (List Zf)
 | [],out2 =>
 some out2
 | r3::xs4,out2 =>
 Ze (app out2 r3.Visits) fun l6 =>
 Xm xs4 l6
def ZaV (l1:List Zc):Option (List Zf) :=
 Ze (
  Xm l1 []:Option (List Zf)) fun out7 =>
 Ze (QC out7) fun y8 =>
 some y8
instance ZmD {l1}:SpO (ZaV l1) fun y=>Sp 158 [.d (lst Zc.ds l1)] [] (.d (lst Zf.ds y)) []:=⟨fun hm=>by
 refine si Tryz.func158 Tryz.ntmps158 Tryz.results158 fun B w0 ρ0=>?_
 refine sr ?_
 refine sr ?_
 refine sr ?_
 refine jo1 hm [] [] (fun out7=>[(3,.d (lst Zf.ds out7))]) (fun _ hm hm1=>?_) (fun out7 hm=>?_)
 ·refine Zl ?_
  refine ZbM (ZbP 3 5001 149 12 rfl rfl) ?_
  refine lr1 hm1 6 [6,7] [] (fun m5 out2=>[(3,.h 5001),(8,vI (m5:Int))]) (fun hlenm5 m5 out2 r3 hltm5 hxm5 hm1=>?_) (fun m5 out2 hm1=>?_) (B:=(fun m5 out2=>[(5001,some (YR 149 12 Zf.ds out2))]))
  ·refine bo hm1 fun l6 hm1=>?_
   exact ZhK [(5001,115)] hm hm1
  exact ZbL hm hm1
 exact az0 hm⟩
def XQ (l1:List Zf):Option (List Kv) :=
 Ze (ZcD (Zc.mk (Zg.mk 0 [] ⟨#[]⟩ 0) [] l1)) fun y2 =>
 some y2
instance ZnW {l1}:SpO (XQ l1) fun y=>Sp 228 [.d (lst Zf.ds l1)] [] (.d (lst Kv.ds y)) []:=⟨fun hm=>by
 refine si Tryz.func228 Tryz.ntmps228 Tryz.results228 fun B w0 ρ0=>?_
 exact az0 hm⟩
def ZbE (q1:Zg) (first2:List Zc) (second3:List Zc):Option Z0 :=
 Ze (XK q1) fun y4 =>
 Ze (ZaV first2) fun y5 =>
 Ze (ZaV second3) fun y6 =>
 some (Z0.mk y4 y5 y6)
instance ZnN {q1} {first2} {second3}:SpO (ZbE q1 first2 second3) fun y=>Sp 101 [.a (Zg.vs q1),.d (lst Zc.ds first2),.d (lst Zc.ds second3)] [] (.a (Z0.vs y)) []:=⟨fun hm=>by
 refine si Tryz.func101 Tryz.ntmps101 Tryz.results101 fun B w0 ρ0=>?_
 exact az0 hm⟩
def ZbC (a1:Zf) (b2:Zf):Option Bool :=
 sel (decide (a1.View.Owner=b2.View.Owner)) (
  bnd (Xl a1.View.Interval b2.View.Interval) fun y3 =>
  sel y3 (
   bnd (Xl a1.Part b2.Part) fun y4 =>
   sel y4 (
    sel (decide (a1.View.Stamp.Epoch=b2.View.Stamp.Epoch) && decide (a1.View.Stamp.Version=b2.View.Stamp.Version)) (
     Ze (QH a1.View.Rows b2.View.Rows) fun y5 =>
     some y5) (
     some false)) (
    some false)) (
   some false)) (
  some false)
instance ZnV {a1} {b2}:SpO (ZbC a1 b2) fun y=>Sp 226 [.a (Zf.vs a1),.a (Zf.vs b2)] [] (vB y) []:=⟨fun hm=>by
 refine si Tryz.func226 Tryz.ntmps226 Tryz.results226 fun B w0 ρ0=>?_
 exact az0 hm⟩
def Qd:List Zf→Option (Ctl Int Unit)
 | [] =>
 some (Ctl.nxt ())
 | r4::xs5 =>
 Ze (
  Ze (Qt r4.View) fun y7 =>
  sel (!y7) (
   some true) (
   bnd (ZR r4.Part) fun y8 =>
   sel y8 (
    some true) (
    bnd (Zbm r4.View.Interval r4.Part) fun y9 =>
    some (!y9))):Option Bool) fun x10 =>
 sel x10 (
  some (Ctl.ret 1)) (
  Ze (Zas r4.View.Rows r4.Part) fun y11 =>
  sel (!decide ((y11.length:Int)=(r4.View.Rows.length:Int))) (
   some (Ctl.ret 17)) (
   Qd xs5))
def YC (y12:List Rng):List Zf→Int→ByteArray→Bool→Option (Ctl Int Int)
 | [],i23,position24,position25 =>
 some (Ctl.nxt i23)
 | r26::xs27,i23,position24,position25 =>
 sel (decide (i23=(y12.length:Int))) (
  some (Ctl.ret 2)) (
  bnd (Zj r26.Part.lo (Bnd.mk position24 position25)) fun y29 =>
  sel (decide (y29=1)) (
   some (Ctl.ret 9)) (
   sel (decide (y29=(-1))) (
    some (Ctl.ret 10)) (
    Ze (Yx y12 i23) fun e30 =>
    bnd (Zj r26.Part.hi e30.hi) fun y31 =>
    sel (decide (y31=1)) (
     some (Ctl.ret 2)) (
     sel (decide (y31=0)) (
      sel (decide (ZH (i23+1)<(y12.length:Int))) (
       Ze (Yx y12 (ZH (i23+1))) fun e32 =>
       YC y12 xs27 (ZH (i23+1)) e32.lo.key e32.lo.top) (
       YC y12 xs27 (ZH (i23+1)) r26.Part.hi.key r26.Part.hi.top)) (
      YC y12 xs27 i23 r26.Part.hi.key r26.Part.hi.top)))))
def ZaP (q1:Zg) (l2:List Zf):Option Int :=
 Ze (Y3 q1) fun y3 =>
 sel (!decide (y3=0)) (
  some y3) (
  Ze (
   Qd l2:Option (Ctl Int Unit)) fun mu=>Yv mu fun (_:Unit) =>
  Ze (YA q1) fun y12 =>
  Ze (XQ l2) fun y13 =>
  bnd (ZaF q1 (y13.length:Int)) fun y14 =>
  Ze (
   sel (decide (0<(y12.length:Int))) (
    Ze (Yx y12 0) fun e15 =>
    some (e15.lo.key,e15.lo.top)) (
    some (⟨#[]⟩,false)):Option (ByteArray × Bool)) fun (position16,position17) =>
  Ze (
   bnd (Qk q1) fun y18 =>
   sel y18 (
    sel y14 (
     some (decide (0<(l2.length:Int)))) (
     some false)) (
    some false):Option Bool) fun x19 =>
  Ze (
   sel x19 (
    Ze (Yx l2 0) fun e20 =>
    some (e20.Part.lo.key,e20.Part.lo.top)) (
    some (position16,position17)):Option (ByteArray × Bool)) fun (position21,position22) =>
  Ze (
   YC y12 l2 0 position21 position22:Option (Ctl Int Int)) fun mu=>Yv mu fun i33 =>
  sel (decide (i33<(y12.length:Int))) (
   sel (decide (q1.Kind=3)) (
    sel (!y14) (
     some 9) (
     some 0)) (
    sel (!false) (
     some 9) (
     some 0))) (
   some 0))
instance ZmC {q1} {l2}:SpO (ZaP q1 l2) fun y=>Sp 225 [.a (Zg.vs q1),.d (lst Zf.ds l2)] [] (vI y) []:=⟨fun hm=>by
 refine si Tryz.func225 Tryz.ntmps225 Tryz.results225 fun B w0 ρ0=>?_
 refine sr ?_
 refine sr ?_
 obtain ⟨y3,hy,hm⟩:=ZF hm
 refine Zg3 (Zb2 (hm:=hy)) ?_
 refine co hm (fun hm=>?_) fun hm=>?_
 ·exact YF hm
 refine sx ?_
 refine sr ?_
 refine jc0 hm [1,2] [102] [] (fun _ hm hm1=>?_) (fun hm=>?_)
 ·refine Zl ?_
  refine lr0 hm1 19 [1,2,19,20] [102] (fun m6=>[(21,vI (m6:Int))]) (fun hlenm6 m6 r4 hltm6 hxm6 hm1=>?_) (fun m6 hm1=>?_)
  ·refine sx ?_
   refine sr ?_
   refine ZK (ZcS hxm6 rfl rfl rfl rfl) rfl rfl rfl ?_
   refine ss ?_
   refine Zh ?_
   refine Zh ?_
   refine jo1 hm1 [1,2,7,19,20,21] [102,107] (fun x10=>[(42,vB x10)]) (fun _ hm1 hm2=>?_) (fun x10 hm1=>?_)
   ·exact az2 hm hm1 hm2
   refine co hm1 (fun hm1=>?_) fun hm1=>?_
   ·exact Zcw hm hm1
   refine sx ?_
   refine Zh ?_
   refine Zx (id:=9) [⟨0,0,[7]⟩,⟨1,1,[43]⟩,⟨2,3,[44]⟩,⟨3,0,[7]⟩,⟨4,8,[46]⟩,⟨7,0,[7]⟩,⟨8,128,[50]⟩,⟨9,384,[51]⟩,⟨10,896,[52]⟩,⟨5,31,[45,47]⟩,⟨6,63,[48]⟩,⟨11,2047,[49,53]⟩] mixed (by kernel_rfl) ?_
   refine bo hm1 fun y11 hm1=>?_
   refine co hm1 (fun hm1=>?_) fun hm1=>?_
   ·exact Zcw hm hm1
   exact eb1 hm hm1
  exact ZbL hm hm1
 refine ss ?_
 refine Zh ?_
 refine Zx (id:=12) [⟨0,0,[2]⟩,⟨2,0,[2]⟩,⟨3,0,[1]⟩,⟨1,1,[56]⟩,⟨4,11,[59]⟩,⟨5,27,[60]⟩,⟨6,63,[58,61]⟩,⟨7,127,[57]⟩,⟨8,255,[62]⟩] mixed (by kernel_rfl) ?_
 refine ss ?_
 obtain ⟨y12,hy,hm⟩:=ZF hm
 refine Ztx (Zby (hm:=hy)) ?_
 refine bo hm fun y13 hm=>?_
 refine bp hm fun y14 hm=>?_
 refine sr ?_
 refine sr ?_
 refine jo2 hm [1,2,8,9,10,11] [102] (fun position16 position17=>[]) (fun _ hm hm1=>?_) (fun position16 position17 hm=>?_) (B:=(fun position16 position17=>[(111,some (.box 32 [vS position16,vB position17]))]))
 ·exact az1 hm hm1
 refine ss ?_
 refine Zh ?_
 refine Zh ?_
 refine jo1 hm [1,2,8,9,10,11] [102,111] (fun x19=>[(80,vB x19)]) (fun _ hm hm1=>?_) (fun x19 hm=>?_)
 ·exact az1 hm hm1
 refine ss ?_
 refine jo2 hm [1,2,8,9,10,11] [102] (fun position21 position22=>[]) (fun _ hm hm1=>?_) (fun position21 position22 hm=>?_) (B:=(fun position21 position22=>[(111,some (.box 32 [vS position21,vB position22]))]))
 ·exact az1 hm hm1
 refine sr ?_
 refine jc1 hm [2,8,9] [102] (fun i33=>[(10,vI i33)]) (fun _ hm hm1=>?_) (fun i33 hm=>?_)
 ·refine Zl ?_
  refine lr3 hm1 86 [2,8,9,11,86,87] [102] (fun m28 i23 position24 position25=>[(10,vI i23),(88,vI (m28:Int))]) (fun hlenm28 m28 i23 position24 position25 r26 hltm28 hxm28 hm1=>?_) (fun m28 i23 position24 position25 hm1=>?_) (B:=(fun m28 i23 position24 position25=>[(111,some (.box 32 [vS position24,vB position25]))]))
  ·refine co hm1 (fun hm1=>?_) fun hm1=>?_
   ·exact Zcw hm hm1
   refine bp hm1 fun y29 hm1=>?_
   refine co hm1 (fun hm1=>?_) fun hm1=>?_
   ·exact Zcw hm hm1
   refine co hm1 (fun hm1=>?_) fun hm1=>?_
   ·exact Zcw hm hm1
   refine sx ?_
   refine sr ?_
   refine Zh ?_
   refine Zx (id:=29) [⟨0,0,[11]⟩,⟨1,0,[8]⟩,⟨2,0,[10]⟩,⟨3,6,[109,110]⟩,⟨4,14,[111]⟩,⟨5,30,[112]⟩,⟨6,63,[108,113]⟩] mixed (by kernel_rfl) ?_
   refine bo hm1 fun e30 hm1=>?_
   refine bp hm1 fun y31 hm1=>?_
   refine co hm1 (fun hm1=>?_) fun hm1=>?_
   ·exact Zcw hm hm1
   refine co hm1 (fun hm1=>?_) fun hm1=>?_
   ·refine co hm1 (fun hm1=>?_) fun hm1=>?_
    ·refine bo hm1 fun e32 hm1=>?_
     exact eb1 hm hm1
    exact eb1 hm hm1
   exact eb1 hm hm1
  exact ZbL hm hm1
 refine co hm (fun hm=>?_) fun hm=>?_
 ·exact az0 hm
 refine ss ?_
 refine YX rfl ?_
 exact YF hm⟩
def XE (r1:Z0):List (List Zf)→Option (Ctl (Yf × Int) Unit)
 | [] =>
 some (Ctl.nxt ())
 | r2::xs3 =>
 Ze (ZaP r1.Query r2) fun y5 =>
 sel (!decide (y5=0)) (
  some (Ctl.ret ((Yf.mk [] (YZ.mk 0 0 0 0 0 ⟨#[]⟩ ⟨#[]⟩)),y5))) (
  XE r1 xs3)
def XD (r1:Z0):List Zf→Int→Option (Ctl (Yf × Int) Unit)
 | [],i =>
 some (Ctl.nxt ())
 | r6::xs7,i =>
 Ze (Yx r1.Second i) fun e9 =>
 Ze (ZbC r6 e9) fun y10 =>
 sel (!y10) (
  some (Ctl.ret ((Yf.mk [] (YZ.mk 0 0 0 0 0 ⟨#[]⟩ ⟨#[]⟩)),11))) (
  XD r1 xs7 (i+1))
def Zcr (r1:Z0):Option (Yf × Int) :=
 Ze (
  XE r1 ([r1.First,r1.Second]:List (List Zf)):Option (Ctl (Yf × Int) Unit)) fun mu=>Yv mu fun (_:Unit) =>
 sel (!decide ((r1.First.length:Int)=(r1.Second.length:Int))) (
  some ((Yf.mk [] (YZ.mk 0 0 0 0 0 ⟨#[]⟩ ⟨#[]⟩)),11)) (
  Ze (
   XD r1 r1.First 0:Option (Ctl (Yf × Int) Unit)) fun mu=>Yv mu fun (_:Unit) =>
  Ze (XQ r1.First) fun y11 =>
  Ze (Zda r1.Query y11) fun y12 =>
  Ze (ZeN y12) fun y13 =>
  some ((Yf.mk y12 y13),0))
instance Znz {r1}:SpO (Zcr r1) fun y=>Sp 198 [.a (Z0.vs r1)] [] (.t [.a (Yf.vs y.1),vI y.2]) []:=⟨fun hm=>by
 refine si Tryz.func198 Tryz.ntmps198 Tryz.results198 fun B w0 ρ0=>?_
 refine sr ?_
 refine sr ?_
 refine Zag (dsL Zf.ds) [r1.First,r1.Second] rfl rfl (by simp only [Yp,Zp,List.cons_append,List.nil_append,List.append_nil]; exact rfl) rfl rfl rfl rfl rfl rfl ?_
 refine ss ?_
 refine jc0 hm [1,2] [101,102] [] (fun _ hm hm1=>?_) (fun hm=>?_)
 ·refine Zl ?_
  refine lr0 hm1 14 [1,2,14,15] [101,102] (fun m4=>[(16,vI (m4:Int))]) (fun hlenm4 m4 r2 hltm4 hxm4 hm1=>?_) (fun m4 hm1=>?_)
  ·refine bo hm1 fun y5 hm1=>?_
   refine co hm1 (fun hm1=>?_) fun hm1=>?_
   ·exact Zcw hm hm1
   exact eb1 hm hm1
  exact ZbL hm hm1
 refine co hm (fun hm=>?_) fun hm=>?_
 ·exact YF hm
 refine sx ?_
 refine sr ?_
 refine jc0 hm [1,2] [101,102] [] (fun _ hm hm1=>?_) (fun hm=>?_)
 ·refine Zl ?_
  refine Zq3 hm1 38 [1,2,38,39] [101,102] (fun m8=>[(40,vI (m8:Int))]) (fun hlenm8 m8 r6 hltm8 hxm8 hm1=>?_) (fun m8 hm1=>?_)
  ·refine sx ?_
   refine sr ?_
   refine ZK (ZcS hxm8 rfl rfl rfl rfl) rfl rfl rfl ?_
   refine ss ?_
   refine Zh ?_
   refine Zx (id:=13) [⟨0,0,[8]⟩,⟨1,0,[1]⟩,⟨2,2,[46]⟩,⟨3,0,[7]⟩,⟨4,14,[47,48]⟩,⟨5,30,[49]⟩,⟨6,63,[45,50]⟩,⟨7,127,[51]⟩] mixed (by kernel_rfl) ?_
   refine bo hm1 fun e9 hm1=>?_
   refine bo hm1 fun y10 hm1=>?_
   refine co hm1 (fun hm1=>?_) fun hm1=>?_
   ·exact Zcw hm hm1
   exact eb1 hm hm1
  exact ZbL hm hm1
 refine ss ?_
 refine Zh ?_
 refine Zx (id:=16) [⟨0,0,[1]⟩,⟨1,1,[55]⟩,⟨2,0,[1]⟩,⟨3,4,[57]⟩,⟨4,12,[58]⟩,⟨5,31,[56,59]⟩,⟨6,63,[60]⟩] mixed (by kernel_rfl) ?_
 exact az0 hm⟩
end Go.Proofs.YtkcmgbbopedacaaGreatDoor
namespace Go.Proofs.YtkcmgbbopedacaaGreatDoor
open Go.RowKit
set_option maxRecDepth 100000
set_option maxHeartbeats 4000000
attribute [local irreducible] WK WC WL Wk Rel OpD OpV WD WO sel bnd Ze app Yx lsl Zex ssl Zhj Zg2 ZiR ZhL Op.bytesLess
attribute [local irreducible] Zcv Yg union
def QX:List Zc→List Zf→Option (List Zf)
 | [],r4 =>
 some r4
 | r5::xs6,r4 =>
 Ze (app r4 r5.Visits) fun l8 =>
 QX xs6 l8
def QO:List Zc→List Zf→Option (List Zf)
 | [],r10 =>
 some r10
 | r11::xs12,r10 =>
 Ze (app r10 r11.Visits) fun l14 =>
 QO xs12 l14
def Zc1 (q1:Zg) (first2:List Zc) (second3:List Zc):Option Z0 :=
 Ze (
  QX first2 []:Option (List Zf)) fun r9 =>
 Ze (
  QO second3 []:Option (List Zf)) fun r15 =>
 some (Z0.mk q1 r9 r15)
instance ZqB {q1} {first2} {second3}:SpO (Zc1 q1 first2 second3) fun y=>Sp 178 [.a (Zg.vs q1),.d (lst Zc.ds first2),.d (lst Zc.ds second3)] [] (.a (Z0.vs y)) []:=⟨fun hm=>by
 refine si Tryz.func178 Tryz.ntmps178 Tryz.results178 fun B w0 ρ0=>?_
 refine sr ?_
 refine sr ?_
 refine sr ?_
 refine jo1 hm [2,6,7] [106] (fun r9=>[]) (fun _ hm hm1=>?_) (fun r9 hm=>?_) (B:=(fun r9=>[(107,some (.box 87 [vI q1.Kind,.d (lst Rng.ds q1.Ranges),vS q1.Key,vI q1.Count,.d (lst Zf.ds r9),.d (.c (.slice none 0 0))]))]))
 ·refine Zl ?_
  refine ZbM (ZhT 107 4 5001 149 12 rfl rfl rfl rfl) ?_
  refine lr1 hm1 14 [2,6,7,14,15] [106] (fun m7 r4=>[(16,vI (m7:Int))]) (fun hlenm7 m7 r4 r5 hltm7 hxm7 hm1=>?_) (fun m7 r4 hm1=>?_) (B:=(fun m7 r4=>[(107,some (.box 87 [vI q1.Kind,.d (lst Rng.ds q1.Ranges),vS q1.Key,vI q1.Count,.h 5001,.d (.c (.slice none 0 0))])),(5001,some (YR 149 12 Zf.ds r4))]))
  ·refine bo hm1 fun l8 hm1=>?_
   exact ZhK [(106,106),(107,107),(5001,124)] hm hm1
  exact ZbL hm hm1
 refine sr ?_
 refine jo1 hm [6,7] [106] (fun r15=>[]) (fun _ hm hm1=>?_) (fun r15 hm=>?_) (B:=(fun r15=>[(107,some (.box 87 (Z0.vs (Z0.mk q1 r9 r15))))]))
 ·refine Zl ?_
  refine ZbM (ZhT 107 5 5002 149 12 rfl rfl rfl rfl) ?_
  refine lr1 hm1 27 [6,7,27,28] [106] (fun m13 r10=>[(29,vI (m13:Int))]) (fun hlenm13 m13 r10 r11 hltm13 hxm13 hm1=>?_) (fun m13 r10 hm1=>?_) (B:=(fun m13 r10=>[(107,some (.box 87 [vI q1.Kind,.d (lst Rng.ds q1.Ranges),vS q1.Key,vI q1.Count,.d (lst Zf.ds r9),.h 5002])),(5002,some (YR 149 12 Zf.ds r10))]))
  ·refine bo hm1 fun l14 hm1=>?_
   exact ZhK [(106,106),(107,107),(5002,137)] hm hm1
  exact ZbL hm hm1
 exact YF hm⟩
def Q0:List Zf→Option (Ctl Int Unit)
 | [] =>
 some (Ctl.nxt ())
 | r4::xs5 =>
 Ze (
  Ze (XW r4.View) fun y7 =>
  sel (!y7) (
   some true) (
   bnd (ZQ r4.Part) fun y8 =>
   sel y8 (
    some true) (
    bnd (ZbG r4.Part r4.View.Interval) fun y9 =>
    some (!y9))):Option Bool) fun x10 =>
 sel x10 (
  some (Ctl.ret 1)) (
  bnd (Xj r4.View.Rows r4.Part) fun y11 =>
  sel (!y11) (
   some (Ctl.ret 17)) (
   Q0 xs5))
def YV (y12:List Rng):List Zf→Int→ByteArray→Bool→Option (Ctl Int Int)
 | [],at23,pos24,pos25 =>
 some (Ctl.nxt at23)
 | r26::xs27,at23,pos24,pos25 =>
 sel (decide (at23=(y12.length:Int))) (
  some (Ctl.ret 2)) (
  bnd (Zn r26.Part.lo (Bnd.mk pos24 pos25)) fun y29 =>
  sel (decide (0<y29)) (
   some (Ctl.ret 9)) (
   bnd (Zn r26.Part.lo (Bnd.mk pos24 pos25)) fun y30 =>
   sel (decide (y30<0)) (
    some (Ctl.ret 10)) (
    Ze (Yx y12 at23) fun e31 =>
    bnd (Zn r26.Part.hi e31.hi) fun y32 =>
    sel (decide (0<y32)) (
     some (Ctl.ret 2)) (
     Ze (Yx y12 at23) fun e33 =>
     bnd (Zn r26.Part.hi e33.hi) fun y34 =>
     sel (decide (y34=0)) (
      sel (decide (ZH (at23+1)<(y12.length:Int))) (
       Ze (Yx y12 (ZH (at23+1))) fun e35 =>
       YV y12 xs27 (ZH (at23+1)) e35.lo.key e35.lo.top) (
       YV y12 xs27 (ZH (at23+1)) r26.Part.hi.key r26.Part.hi.top)) (
      YV y12 xs27 at23 r26.Part.hi.key r26.Part.hi.top)))))
def ZaM (q1:Zg) (l2:List Zf):Option Int :=
 bnd (XH q1) fun y3 =>
 sel (!decide (y3=0)) (
  some y3) (
  Ze (
   Q0 l2:Option (Ctl Int Unit)) fun mu=>Yv mu fun (_:Unit) =>
  Ze (Xk q1) fun y12 =>
  Ze (Ql l2) fun y13 =>
  bnd (ZaL q1 (y13.length:Int)) fun y14 =>
  Ze (
   sel (decide (0<(y12.length:Int))) (
    Ze (Yx y12 0) fun e15 =>
    some (e15.lo.key,e15.lo.top)) (
    some (⟨#[]⟩,false)):Option (ByteArray × Bool)) fun (pos16,pos17) =>
  Ze (
   bnd (Qm q1) fun y18 =>
   sel y18 (
    sel y14 (
     some (decide (0<(l2.length:Int)))) (
     some false)) (
    some false):Option Bool) fun x19 =>
  Ze (
   sel x19 (
    Ze (Yx l2 0) fun e20 =>
    some (e20.Part.lo.key,e20.Part.lo.top)) (
    some (pos16,pos17)):Option (ByteArray × Bool)) fun (pos21,pos22) =>
  Ze (
   YV y12 l2 0 pos21 pos22:Option (Ctl Int Int)) fun mu=>Yv mu fun at36 =>
  sel (decide (at36<(y12.length:Int))) (
   sel (decide (q1.Kind=3)) (
    sel (!y14) (
     some 9) (
     some 0)) (
    sel (!false) (
     some 9) (
     some 0))) (
   some 0))
instance Zn2 {q1} {l2}:SpO (ZaM q1 l2) fun y=>Sp 102 [.a (Zg.vs q1),.d (lst Zf.ds l2)] [] (vI y) []:=⟨fun hm=>by
 refine si Tryz.func102 Tryz.ntmps102 Tryz.results102 fun B w0 ρ0=>?_
 refine bp hm fun y3 hm=>?_
 refine co hm (fun hm=>?_) fun hm=>?_
 ·exact YF hm
 refine sx ?_
 refine sr ?_
 refine jc0 hm [1,2] [102] [] (fun _ hm hm1=>?_) (fun hm=>?_)
 ·refine Zl ?_
  refine lr0 hm1 19 [1,2,19,20] [102] (fun m6=>[(21,vI (m6:Int))]) (fun hlenm6 m6 r4 hltm6 hxm6 hm1=>?_) (fun m6 hm1=>?_)
  ·refine sx ?_
   refine sr ?_
   refine ZK (ZcS hxm6 rfl rfl rfl rfl) rfl rfl rfl ?_
   refine ss ?_
   refine Zh ?_
   refine Zh ?_
   refine jo1 hm1 [1,2,7,19,20,21] [102,107] (fun x10=>[(42,vB x10)]) (fun _ hm1 hm2=>?_) (fun x10 hm1=>?_)
   ·exact az2 hm hm1 hm2
   refine co hm1 (fun hm1=>?_) fun hm1=>?_
   ·exact Zcw hm hm1
   refine bp hm1 fun y11 hm1=>?_
   refine co hm1 (fun hm1=>?_) fun hm1=>?_
   ·exact Zcw hm hm1
   exact eb1 hm hm1
  exact ZbL hm hm1
 refine sr ?_
 obtain ⟨y12,hy,hm⟩:=ZF hm
 refine Zg3 (Zbx (hm:=hy)) ?_
 refine ss ?_
 refine Zh ?_
 refine Zx (id:=13) [⟨0,0,[2]⟩,⟨1,0,[1]⟩,⟨2,2,[54]⟩,⟨3,6,[55]⟩,⟨4,15,[53,56]⟩,⟨5,31,[57]⟩] mixed (by kernel_rfl) ?_
 refine bo hm fun y13 hm=>?_
 refine bp hm fun y14 hm=>?_
 refine sr ?_
 refine sr ?_
 refine sr ?_
 refine jo2 hm [1,2,8,9,10,11] [102] (fun pos16 pos17=>[]) (fun _ hm hm1=>?_) (fun pos16 pos17 hm=>?_) (B:=(fun pos16 pos17=>[(111,some (.box 32 [vS pos16,vB pos17]))]))
 ·exact az1 hm hm1
 refine ss ?_
 refine Zh ?_
 refine Zh ?_
 refine jo1 hm [1,2,8,9,10,11] [102,111] (fun x19=>[(74,vB x19)]) (fun _ hm hm1=>?_) (fun x19 hm=>?_)
 ·exact az1 hm hm1
 refine ss ?_
 refine jo2 hm [1,2,8,9,10,11] [102] (fun pos21 pos22=>[]) (fun _ hm hm1=>?_) (fun pos21 pos22 hm=>?_) (B:=(fun pos21 pos22=>[(111,some (.box 32 [vS pos21,vB pos22]))]))
 ·exact az1 hm hm1
 refine sr ?_
 refine jc1 hm [2,8,9] [102] (fun at36=>[(10,vI at36)]) (fun _ hm hm1=>?_) (fun at36 hm=>?_)
 ·refine Zl ?_
  refine lr3 hm1 80 [2,8,9,11,80,81] [102] (fun m28 at23 pos24 pos25=>[(10,vI at23),(82,vI (m28:Int))]) (fun hlenm28 m28 at23 pos24 pos25 r26 hltm28 hxm28 hm1=>?_) (fun m28 at23 pos24 pos25 hm1=>?_) (B:=(fun m28 at23 pos24 pos25=>[(111,some (.box 32 [vS pos24,vB pos25]))]))
  ·refine co hm1 (fun hm1=>?_) fun hm1=>?_
   ·exact Zcw hm hm1
   refine bp hm1 fun y29 hm1=>?_
   refine co hm1 (fun hm1=>?_) fun hm1=>?_
   ·exact Zcw hm hm1
   refine bp hm1 fun y30 hm1=>?_
   refine co hm1 (fun hm1=>?_) fun hm1=>?_
   ·exact Zcw hm hm1
   refine Zh ?_
   refine Zx (id:=29) [⟨0,0,[13]⟩,⟨1,1,[106]⟩,⟨2,3,[107]⟩,⟨3,0,[8]⟩,⟨4,0,[10]⟩,⟨5,24,[109,110]⟩,⟨6,56,[111]⟩,⟨7,120,[112]⟩,⟨8,255,[108,113]⟩,⟨9,511,[114]⟩,⟨10,1023,[115]⟩] mixed (by kernel_rfl) ?_
   refine bo hm1 fun e31 hm1=>?_
   refine bp hm1 fun y32 hm1=>?_
   refine co hm1 (fun hm1=>?_) fun hm1=>?_
   ·exact Zcw hm hm1
   refine sx ?_
   refine sr ?_
   refine Zh ?_
   refine Zx (id:=32) [⟨0,0,[11]⟩,⟨1,0,[8]⟩,⟨2,0,[10]⟩,⟨3,6,[120,121]⟩,⟨4,14,[122]⟩,⟨5,30,[123]⟩,⟨6,63,[119,124]⟩,⟨7,127,[125]⟩] mixed (by kernel_rfl) ?_
   refine bo hm1 fun e33 hm1=>?_
   refine bp hm1 fun y34 hm1=>?_
   refine co hm1 (fun hm1=>?_) fun hm1=>?_
   ·refine co hm1 (fun hm1=>?_) fun hm1=>?_
    ·refine bo hm1 fun e35 hm1=>?_
     exact eb1 hm hm1
    exact eb1 hm hm1
   exact eb1 hm hm1
  exact ZbL hm hm1
 refine co hm (fun hm=>?_) fun hm=>?_
 ·exact az0 hm
 refine ss ?_
 refine YX rfl ?_
 exact YF hm⟩
def Zbr (r1:Z0):Option (Yf × Int) :=
 Ze (ZaM r1.Query r1.First) fun y2 =>
 sel (!decide (y2=0)) (
  some ((Yf.mk [] (YZ.mk 0 0 0 0 0 ⟨#[]⟩ ⟨#[]⟩)),y2)) (
  Ze (ZaM r1.Query r1.Second) fun y3 =>
  sel (!decide (y3=0)) (
   some ((Yf.mk [] (YZ.mk 0 0 0 0 0 ⟨#[]⟩ ⟨#[]⟩)),y3)) (
   Ze (QG r1.First r1.Second) fun y4 =>
   sel (!y4) (
    some ((Yf.mk [] (YZ.mk 0 0 0 0 0 ⟨#[]⟩ ⟨#[]⟩)),11)) (
    Ze (Ql r1.First) fun y5 =>
    Ze (ZbU r1.Query y5) fun y6 =>
    Ze (Zbl y6) fun y7 =>
    some ((Yf.mk y6 y7),0))))
instance Zqh {r1}:SpO (Zbr r1) fun y=>Sp 39 [.a (Z0.vs r1)] [] (.t [.a (Yf.vs y.1),vI y.2]) []:=⟨fun hm=>by
 refine si Tryz.func39 Tryz.ntmps39 Tryz.results39 fun B w0 ρ0=>?_
 refine bo hm fun y2 hm=>?_
 refine co hm (fun hm=>?_) fun hm=>?_
 ·exact YF hm
 refine bo hm fun y3 hm=>?_
 refine co hm (fun hm=>?_) fun hm=>?_
 ·exact YF hm
 refine bo hm fun y4 hm=>?_
 refine co hm (fun hm=>?_) fun hm=>?_
 ·exact YF hm
 refine sx ?_
 refine Zh ?_
 refine Zx (id:=9) [⟨0,0,[1]⟩,⟨1,1,[32]⟩,⟨2,0,[1]⟩,⟨3,4,[34]⟩,⟨4,12,[35]⟩,⟨5,31,[33,36]⟩,⟨6,63,[37]⟩] mixed (by kernel_rfl) ?_
 exact az0 hm⟩
end Go.Proofs.YtkcmgbbopedacaaGreatDoor
namespace Go.Proofs.YtkcmgbbopedacaaGreatDoor
open Go.RowKit
theorem ZbA (a b:Rng):Xl a b=ZN a b:=by
 unfold Xl ZN
 simp only [Zm,Zw,ZC]
theorem ZgV (a b:List Kv) (h:a.length=b.length):∀ (xs:List Kv) (m:Nat),a.drop m=xs→m≤a.length→ZZ a b xs (m:Int)=some (sel (decide (a.drop m=b.drop m)) (.nxt ()) (.ret false))
 | [],m,h1,hm=>by
  have:a.length - m=0:=by have:=congrArg List.length h1; simpa using this
  rw [ZZ.eq_1,Zc7 h,dif_neg (by omega)]; rfl
 | r::xs,m,h1,hm=>by
  obtain ⟨h2,h3⟩:=Zca h1
  have h4:=(List.getElem?_eq_some_iff.1 h2).1
  rw [ZZ.eq_2,Ya,Ya,List.getElem?_eq_getElem h4,List.getElem?_eq_getElem (show m<b.length by omega),Za,Za,ZsW,show (m:Int)+1=((m+1:Nat):Int) by omega,ZgV a b h xs (m+1) h3 h4,Zc7 h m,dif_pos h4]
  cases decide (a[m]=b[m]) <;> rfl
theorem Zew (a b:List Kv):QH a b=some (decide (a=b)):=by
 unfold QH Xh
 by_cases h:a.length=b.length
 ·have:=ZgV a b h a 0 rfl (Nat.zero_le _)
  rw [show ((0:Nat):Int)=0 from rfl,List.drop_zero,List.drop_zero] at this
  rw [decide_eq_true (by omega),this]
  cases decide (a=b) <;> rfl
 ·have h2:a≠b:=fun e=>h (by rw [e])
  rw [decide_eq_false (by omega),decide_eq_false h2]; rfl
def ZhQ (a b:Zf):Bool:=decide (a.View.Owner=b.View.Owner) && decide (a.View.Stamp.Epoch=b.View.Stamp.Epoch) && decide (a.View.Stamp.Version=b.View.Stamp.Version) && ZN a.View.Interval b.View.Interval && ZN a.Part b.Part && decide (a.View.Rows=b.View.Rows)
theorem Zfc (a b:Zf):Zaa a b=some (ZhQ a b):=by
 unfold Zaa ZhQ
 rw [Zm,Zm,Ze8,Za]
 cases decide (a.View.Owner=b.View.Owner) <;> cases decide (a.View.Stamp.Epoch=b.View.Stamp.Epoch) <;> cases decide (a.View.Stamp.Version=b.View.Stamp.Version) <;> cases ZN a.View.Interval b.View.Interval <;> cases ZN a.Part b.Part <;> rfl
theorem ZgZ (a b:Zf):ZbC a b=some (ZhQ a b):=by
 unfold ZbC ZhQ
 rw [Zm,Zm,ZbA,ZbA,Zew,Za]
 cases decide (a.View.Owner=b.View.Owner) <;> cases decide (a.View.Stamp.Epoch=b.View.Stamp.Epoch) <;> cases decide (a.View.Stamp.Version=b.View.Stamp.Version) <;> cases ZN a.View.Interval b.View.Interval <;> cases ZN a.Part b.Part <;> rfl
def Zan:List Zf→List Zf→Bool
 | [],[]=>true
 | a::l,b::m=>ZhQ a b && Zan l m
 | _,_=>false
theorem Zft:∀ {a b:List Zf},Zan a b=true→a.length=b.length
 | [],[],_=>rfl
 | a::l,b::m,h=>by
  simp only [Zan,Bool.and_eq_true] at h
  have:=Zft h.2
  simp [this]
 | [],_::_,h=>by simp [Zan] at h
 | _::_,[],h=>by simp [Zan] at h
theorem Zi9 {a b:List Zf} (h:a.length=b.length) {m:Nat} (hm:m<a.length):Zan (a.drop m) (b.drop m)=(ZhQ a[m] (b[m]'(by omega)) && Zan (a.drop (m+1)) (b.drop (m+1))):=by
 rw [List.drop_eq_getElem_cons hm,List.drop_eq_getElem_cons (l:=b) (by omega)]; rfl
theorem Zhx (a b:List Zf) (h:a.length=b.length):∀ (xs:List Zf) (m:Nat),a.drop m=xs→m≤a.length→YY a b xs (m:Int)=some (sel (Zan (a.drop m) (b.drop m)) (.nxt ()) (.ret false))
 | [],m,h1,hm=>by
  have h2:a.length - m=0:=by have:=congrArg List.length h1; simpa using this
  rw [YY.eq_1,h1,List.drop_eq_nil_of_le (by omega)]; rfl
 | r::xs,m,h1,hm=>by
  obtain ⟨h2,h3⟩:=Zca h1
  have h4:=(List.getElem?_eq_some_iff.1 h2).1
  rw [YY.eq_2,Ya,Ya,List.getElem?_eq_getElem h4,List.getElem?_eq_getElem (show m<b.length by omega),Za,Za,Zfc,Za,show (m:Int)+1=((m+1:Nat):Int) by omega,Zhx a b h xs (m+1) h3 h4,Zi9 h h4]
  cases ZhQ a[m] (b[m]'(by omega)) <;> rfl
theorem Zeu (a b:List Zf):QG a b=some (Zan a b):=by
 unfold QG
 by_cases h:a.length=b.length
 ·have:=Zhx a b h a 0 rfl (Nat.zero_le _)
  rw [show ((0:Nat):Int)=0 from rfl,List.drop_zero,List.drop_zero] at this
  rw [decide_eq_true (by omega),this]
  cases Zan a b <;> rfl
 ·have h2:Zan a b=false:=by
    cases hh:Zan a b with
    | false=>rfl
    | true=>exact absurd (Zft hh) h
  rw [decide_eq_false (by omega),h2]; rfl
def vOk (v:Zf):Bool:=XU v.View && !emp v.Part && inside v.View.Interval v.Part
def rOk (v:Zf):Bool:=v.View.Rows.all fun x=>contains v.Part x.key
def tl1:List Zf→Ctl Int Unit
 | []=>.nxt ()
 | v::l=>if vOk v=true then (if rOk v=true then tl1 l else .ret 17) else .ret 1
def tl2 (R:List Rng):List Zf→Nat→Bnd→Ctl Int Int
 | [],a,_=>.nxt (a:Int)
 | v::l,a,p=>match R[a]? with
  | none=>.ret 2
  | some e=>if 0<cmp v.Part.lo p then .ret 9 else if cmp v.Part.lo p<0 then .ret 10 else if 0<cmp v.Part.hi e.hi then .ret 2 else if cmp v.Part.hi e.hi=0 then tl2 R l (a+1) (match R[a+1]? with | some x=>x.lo | none=>v.Part.hi) else tl2 R l a v.Part.hi
theorem Ze5:∀ l:List Zf,(∀ v ∈ l,v.View.Rows.length≤10000)→Qd l=some (tl1 l)
 | [],_=>rfl
 | v::l,h=>by
  have hv:=h v List.mem_cons_self
  have ih:=Ze5 l fun x hx=>h x (List.mem_cons_of_mem _ hx)
  rw [Qd.eq_2,ZcQ _ hv,Za,Zm,Zm,Yi,Zd8,Zba _ _ (by omega),ih,tl1]
  unfold vOk rOk
  cases XU v.View with
  | false=>rfl
  | true =>
   cases emp v.Part with
   | true=>rfl
   | false =>
    cases inside v.View.Interval v.Part with
    | false=>rfl
    | true =>
     simp only [Bool.not_true,Zb,Bool.not_false,Za,Bool.and_self,if_true,ZoJ]
     cases (v.View.Rows.all fun x=>contains v.Part x.key) <;> rfl
theorem Ze2:∀ l:List Zf,Q0 l=some (tl1 l)
 | []=>rfl
 | v::l=>by
  have ih:=Ze2 l
  rw [Q0.eq_2,Zcl,Za,Zm,Zm,Zm,ZP,ZgY,ZaT,ih,tl1]
  unfold vOk rOk
  cases XU v.View with
  | false=>rfl
  | true =>
   cases emp v.Part with
   | true=>rfl
   | false =>
    cases inside v.View.Interval v.Part with
    | false=>rfl
    | true =>
     simp only [Bool.not_true,Zb,Bool.not_false,Za,Bool.and_self,if_true]
     cases (v.View.Rows.all fun x=>contains v.Part x.key) <;> rfl
theorem ZoP (R:List Rng) (a:Nat) (ha:a<1000000) (hR:R.length≤1000000) (p:Bnd) {α:Type} (K:ByteArray→Bool→Option α) :
   sel (decide (ZH ((a:Int)+1)<(R.length:Int))) (Ze (Yx R (ZH ((a:Int)+1))) fun e=>K e.lo.key e.lo.top) (K p.key p.top)=K (match R[a+1]? with | some x=>x.lo | none=>p).key (match R[a+1]? with | some x=>x.lo | none=>p).top:=by
 rw [ZA (by omega) (by omega),show (a:Int)+1=((a+1:Nat):Int) by omega]
 by_cases h:a+1<R.length
 ·rw [decide_eq_true (by omega),Zd,Ya,List.getElem?_eq_getElem h,Za]
 ·rw [decide_eq_false (by omega),Zb,List.getElem?_eq_none (by omega)]
theorem Zdg (R:List Rng) (hR:R.length≤100000):∀ (l:List Zf) (a:Nat) (p:Bnd),a≤R.length→YC R l (a:Int) p.key p.top=some (tl2 R l a p)
 | [],a,p,_=>rfl
 | v::l,a,p,ha=>by
  rw [YC.eq_2,Zm,Zw,tl2]
  by_cases h:a=R.length
  ·rw [decide_eq_true (by omega),Zd,List.getElem?_eq_none (by omega)]
  ·have hlt:a<R.length:=by omega
   rw [decide_eq_false (by omega),Zb,Ya,List.getElem?_eq_getElem hlt,Za,Zm,Zw]
   have ep:(⟨p.key,p.top⟩:Bnd)=p:=rfl
   rw [ep]
   simp only
   have c1:=Zej v.Part.lo p
   have c2:=Zej v.Part.hi R[a].hi
   rw [ZoP R a (by omega) (by omega) v.Part.hi fun k t=>YC R l (ZH ((a:Int)+1)) k t]
   rw [ZA (by omega) (by omega),show (a:Int)+1=((a+1:Nat):Int) by omega,Zdg R hR l (a+1) _ (by omega),Zdg R hR l a _ (by omega)]
   rcases c1 with c1 | c1 | c1 <;> rw [c1]
   ·rfl
   ·rcases c2 with c2 | c2 | c2 <;> rw [c2] <;> rfl
   ·rfl
theorem Zdf (R:List Rng) (hR:R.length≤100000):∀ (l:List Zf) (a:Nat) (p:Bnd),a≤R.length→YV R l (a:Int) p.key p.top=some (tl2 R l a p)
 | [],a,p,_=>rfl
 | v::l,a,p,ha=>by
  rw [YV.eq_2,Zm,Zm,ZC,tl2]
  by_cases h:a=R.length
  ·rw [decide_eq_true (by omega),Zd,List.getElem?_eq_none (by omega)]
  ·have hlt:a<R.length:=by omega
   rw [decide_eq_false (by omega),Zb,Ya,List.getElem?_eq_getElem hlt,Za,Za,Zm,Zm,ZC]
   have ep:(⟨p.key,p.top⟩:Bnd)=p:=rfl
   rw [ep]
   simp only
   have c1:=Zej v.Part.lo p
   have c2:=Zej v.Part.hi R[a].hi
   rw [ZoP R a (by omega) (by omega) v.Part.hi fun k t=>YV R l (ZH ((a:Int)+1)) k t]
   rw [ZA (by omega) (by omega),show (a:Int)+1=((a+1:Nat):Int) by omega,Zdf R hR l (a+1) _ (by omega),Zdf R hR l a _ (by omega)]
   rcases c1 with c1 | c1 | c1 <;> rw [c1]
   ·rfl
   ·rcases c2 with c2 | c2 | c2 <;> rw [c2] <;> rfl
   ·rfl
def ZiQ (q:Zg) (l:List Zf):Bnd:=match l with
 | []=>(match qrg q with | r::_=>r.lo | []=>zb)
 | v::_=>if (Xb q && enough q ((YH l).length:Int))=true then v.Part.lo else (match qrg q with | r::_=>r.lo | []=>zb)
def Zai (q:Zg) (l:List Zf):Int :=
 if qch q≠0 then qch q else match tl1 l with
  | .ret e=>e
  | .nxt _=>match tl2 (qrg q) l 0 (ZiQ q l) with
   | .ret e=>e
   | .nxt a=>if a<((qrg q).length:Int) then (if q.Kind=3∧enough q ((YH l).length:Int)=true then 0 else 9) else 0
structure okC (l:List Zf):Prop where
 vis:l.length≤1000
 rows:∀ v ∈ l,v.View.Rows.length≤10000
theorem okC.w {l:List Zf} (h:okC l):okW ⟨⟨0,[],⟨#[]⟩,0⟩,[],l⟩:=⟨by simp,by simp,h.vis,h.rows⟩
theorem ZsO (q:Zg):(qrg q).length≤64:=ZdV _ _ _ _
theorem Zl2 (R:List Rng):(sel (decide (0<(R.length:Int))) (Ze (Yx R 0) fun e15=>some (e15.lo.key,e15.lo.top)) (some (⟨#[]⟩,false)):Option (ByteArray × Bool))=some ((match R with | r::_=>r.lo | []=>zb).key,(match R with | r::_=>r.lo | []=>zb).top):=by
 cases R with
 | nil=>rfl
 | cons r R =>
  rw [decide_eq_true (by simp),Zd,ZcG,Za]
theorem ZoY (q:Zg) (l:List Zf) (p:Bnd) (hp:p=match qrg q with | r::_=>r.lo | []=>zb):(Ze (sel (Xb q) (sel (enough q ((YH l).length:Int)) (some (decide (0<(l.length:Int)))) (some false)) (some false):Option Bool) fun x19=>(sel x19 (Ze (Yx l 0) fun e20=>some (e20.Part.lo.key,e20.Part.lo.top)) (some (p.key,p.top)):Option (ByteArray × Bool)))=some ((ZiQ q l).key,(ZiQ q l).top):=by
 cases l with
 | nil =>
  have e:ZiQ q []=p:=by rw [hp]; rfl
  rw [e]
  cases Xb q <;> cases enough q ((YH []).length:Int) <;> rfl
 | cons v l =>
  have e0:decide (0<(((v::l).length:Nat):Int))=true:=decide_eq_true (by rw [List.length_cons]; omega)
  have e1:Yx (v::l) 0=some v:=by
   have:=Ya (v::l) 0
   rw [show ((0:Nat):Int)=0 from rfl] at this
   rw [this]; rfl
  have e2:ZiQ q (v::l)=if (Xb q && enough q ((YH (v::l)).length:Int))=true then v.Part.lo else p:=by rw [hp]; rfl
  rw [e0,e1,e2]
  cases Xb q <;> cases enough q ((YH (v::l)).length:Int) <;> rfl
theorem ZhE {α β γ:Type} (x:Option α) (f:α→Option β) (g:β→Option γ):Ze (Ze x f) g=Ze x fun a=>Ze (f a) g:=by
 cases x <;> rfl
theorem ZcL (q:Zg) (hq:q.Ranges.length<1000000) {l:List Zf} (h:okC l):ZaP q l=some (Zai q l):=by
 have e1:Y3 q=some (qch q):=if_pos hq
 have e2:YA q=some (qrg q):=if_pos hq
 have e3:XQ l=some (YH l):=by unfold XQ; rw [ZdF h.w,Za]
 have ed:Qk q=Xb q:=rfl
 have hR:=ZsO q
 unfold ZaP Zai
 rw [e1,Za]
 by_cases h0:qch q=0
 ·rw [decide_eq_true h0,Bool.not_true,Zb,if_neg (by simp [h0]),Ze5 _ h.rows,Za]
  cases tl1 l with
  | ret e=>rfl
  | nxt _ =>
   rw [Zy,e2,Za,e3,Za,Zm,ZdO,Zl2,Za,Zm,ed]
   simp only
   rw [← ZhE,ZoY q l _ rfl,Za]
   simp only
   rw [show (0:Int)=((0:Nat):Int) from rfl,Zdg (qrg q) (by omega) l 0 (ZiQ q l) (Nat.zero_le _),Za]
   cases tl2 (qrg q) l 0 (ZiQ q l) with
   | ret e=>rfl
   | nxt a =>
    rw [Zy]
    simp only
    by_cases ha:a<((qrg q).length:Int)
    ·rw [decide_eq_true ha,Zd,if_pos ha]
     by_cases hk:q.Kind=3
     ·rw [decide_eq_true hk,Zd]
      cases enough q ((YH l).length:Int) with
      | true=>rw [if_pos ⟨hk,rfl⟩]; rfl
      | false=>rw [if_neg (by simp)]; rfl
     ·rw [decide_eq_false hk,Zb,if_neg (by simp [hk])]; rfl
    ·rw [decide_eq_false ha,Zb,if_neg ha]
 ·rw [decide_eq_false h0,Bool.not_false,Zd,if_pos h0]
theorem ZdM (q:Zg) (hq:q.Ranges.length<1000000) {l:List Zf} (h:okC l):ZaM q l=some (Zai q l):=by
 have e1:XH q=qch q:=Zco q
 have e2:Xk q=some (qrg q):=if_pos hq
 have e3:Ql l=some (YH l):=Zde h.w
 have ed:Qm q=Xb q:=rfl
 have hR:=ZsO q
 unfold ZaM Zai
 rw [Zm,e1]
 by_cases h0:qch q=0
 ·rw [decide_eq_true h0,Bool.not_true,Zb,if_neg (by simp [h0]),Ze2,Za]
  cases tl1 l with
  | ret e=>rfl
  | nxt _ =>
   rw [Zy,e2,Za,e3,Za,Zm,ZdL,Zl2,Za,Zm,ed]
   simp only
   rw [← ZhE,ZoY q l _ rfl,Za]
   simp only
   rw [show (0:Int)=((0:Nat):Int) from rfl,Zdf (qrg q) (by omega) l 0 (ZiQ q l) (Nat.zero_le _),Za]
   cases tl2 (qrg q) l 0 (ZiQ q l) with
   | ret e=>rfl
   | nxt a =>
    rw [Zy]
    simp only
    by_cases ha:a<((qrg q).length:Int)
    ·rw [decide_eq_true ha,Zd,if_pos ha]
     by_cases hk:q.Kind=3
     ·rw [decide_eq_true hk,Zd]
      cases enough q ((YH l).length:Int) with
      | true=>rw [if_pos ⟨hk,rfl⟩]; rfl
      | false=>rw [if_neg (by simp)]; rfl
     ·rw [decide_eq_false hk,Zb,if_neg (by simp [hk])]; rfl
    ·rw [decide_eq_false ha,Zb,if_neg ha]
 ·rw [decide_eq_false h0,Bool.not_false,Zd,if_pos h0]
end Go.Proofs.YtkcmgbbopedacaaGreatDoor
namespace Go.Proofs.YtkcmgbbopedacaaGreatDoor
open Go.RowKit
theorem Zpg:∀ {l:List Zf} {e:Int},tl1 l=.ret e→e≠0
 | [],e,h=>by simp [tl1] at h
 | v::l,e,h=>by
  rw [tl1] at h
  split at h
  ·split at h
   ·exact Zpg h
   ·injection h with h; omega
  ·injection h with h; omega
theorem Zo4:∀ {l:List Zf} {u:Unit},tl1 l=.nxt u→∀ v ∈ l,vOk v=true∧rOk v=true
 | [],_,_,v,hv=>by simp at hv
 | x::l,u,h,v,hv=>by
  rw [tl1] at h
  split at h
  ·split at h
   ·rcases List.mem_cons.1 hv with rfl | hv
    ·exact ⟨by assumption,by assumption⟩
    ·exact Zo4 h v hv
   ·cases h
  ·cases h
theorem ZrR {q:Zg} {l:List Zf} (h:Zai q l=0):qch q=0∧∀ v ∈ l,vOk v=true∧rOk v=true:=by
 unfold Zai at h
 by_cases h0:qch q=0
 ·refine ⟨h0,?_⟩
  rw [if_neg (by simp [h0])] at h
  cases e:tl1 l with
  | ret z =>
   rw [e] at h
   exact absurd h (Zpg e)
  | nxt u=>exact Zo4 e
 ·rw [if_pos h0] at h
  exact absurd h h0
theorem ZrK {v:Zf} (h:vOk v=true):Yq v.View.Rows=true:=by
 unfold vOk XU at h
 simp only [Bool.and_eq_true] at h
 exact h.1.1.1.2
theorem ZpX {l:List Zf} (h:∀ v ∈ l,vOk v=true):∀ r ∈ YH l,ZhN r=true:=fun r hr=>by
 unfold YH at hr
 obtain ⟨v,hv,hrv⟩:=List.mem_flatMap.1 hr
 exact ((X3 _).1 (ZrK (h v hv))).2.1 r hrv
def noA:Yf:=⟨[],⟨0,0,0,0,0,⟨#[]⟩,⟨#[]⟩⟩⟩
def Zhl (r:Z0):Int:=if Zai r.Query r.First≠0 then Zai r.Query r.First else if Zai r.Query r.Second≠0 then Zai r.Query r.Second else if Zan r.First r.Second=true then 0 else 11
theorem ZdI (r:Z0) (h:r.First.length=r.Second.length):∀ (xs:List Zf) (m:Nat),r.First.drop m=xs→m≤r.First.length→XD r xs (m:Int)=some (sel (Zan (r.First.drop m) (r.Second.drop m)) (.nxt ()) (.ret (noA,11)))
 | [],m,h1,hm=>by
  have h2:r.First.length - m=0:=by have:=congrArg List.length h1; simpa using this
  rw [XD.eq_1,h1,List.drop_eq_nil_of_le (by omega)]; rfl
 | v::xs,m,h1,hm=>by
  obtain ⟨h2,h3⟩:=Zca h1
  obtain ⟨h4,h5⟩:=List.getElem?_eq_some_iff.1 h2
  rw [XD.eq_2,Ya,List.getElem?_eq_getElem (show m<r.Second.length by omega),Za,ZgZ,Za,show (m:Int)+1=((m+1:Nat):Int) by omega,ZdI r h xs (m+1) h3 h4,Zi9 h h4,h5]
  cases ZhQ v (r.Second[m]'(by omega)) <;> rfl
theorem ZtW (k c:Int) (l:List Kv):(qtk k c l).length≤l.length:=by
 unfold qtk
 split
 ·simp; omega
 split
 ·simp
 ·exact Nat.le_refl _
theorem Zr7 (r:Z0) (hq:r.Query.Ranges.length<1000000) (h1:okC r.First) (h2:okC r.Second):∃ a,Zcr r=some (a,Zhl r)∧Zbr r=some (a,Zhl r) ∧
   (Zhl r=0→a.Rows=qtk r.Query.Kind r.Query.Count (YH r.First)∧Zbl a.Rows=some a.Fold):=by
 have hlen:(YH r.First).length≤10000000:=h1.w.rlen
 unfold Zcr Zbr Zhl
 rw [XE.eq_2,XE.eq_2,XE.eq_1]
 rw [ZcL _ hq h1,ZcL _ hq h2,ZdM _ hq h1,ZdM _ hq h2]
 simp only [Za]
 by_cases t1:Zai r.Query r.First=0
 ·rw [decide_eq_true t1,Bool.not_true,if_neg (by simp [t1])]
  simp only [Zb]
  by_cases t2:Zai r.Query r.Second=0
  ·rw [decide_eq_true t2,Bool.not_true,if_neg (by simp [t2])]
   simp only [Zb,Za,Zy]
   rw [Zeu,Za]
   cases hs:Zan r.First r.Second with
   | false =>
    simp only [Bool.not_false,Zd,Bool.false_eq_true,if_false]
    refine ⟨noA,?_,rfl,fun h=>absurd h (by omega)⟩
    by_cases hl:r.First.length=r.Second.length
    ·have:=ZdI r hl r.First 0 rfl (Nat.zero_le _)
     rw [show ((0:Nat):Int)=0 from rfl,List.drop_zero,List.drop_zero,hs] at this
     rw [decide_eq_true (by omega),Bool.not_true,Zb,this]; rfl
    ·rw [decide_eq_false (by omega),Bool.not_false,Zd]; rfl
   | true =>
    have hl:=Zft hs
    have:=ZdI r hl r.First 0 rfl (Nat.zero_le _)
    rw [show ((0:Nat):Int)=0 from rfl,List.drop_zero,List.drop_zero,hs] at this
    have e3:XQ r.First=some (YH r.First):=by unfold XQ; rw [ZdF h1.w,Za]
    have e4:Ql r.First=some (YH r.First):=Zde h1.w
    obtain ⟨k1,k2⟩:=ZoX r.Query (YH r.First) (by omega)
    have hv:=ZpX fun v hv=>((ZrR t1).2 v hv).1
    have hql:=ZtW r.Query.Kind r.Query.Count (YH r.First)
    obtain ⟨g,e5,e6,-⟩:=Zvs (qtk r.Query.Kind r.Query.Count (YH r.First)) (by omega) (fun x hx=>by
     have h1:=hv x (Zpk _ _ _ x hx)
     simp only [ZhN,Bool.and_eq_true,decide_eq_true_eq] at h1
     omega)
    rw [decide_eq_true (by omega),Bool.not_true,Zb,this,Zd,Za,Zy,e3,Za,k1,Za,e5,Za,Zb,e4,Za,k2,Za,e6,Za]
    exact ⟨_,rfl,rfl,fun _=>⟨rfl,e6⟩⟩
  ·rw [decide_eq_false t2,Bool.not_false,if_pos t2]
   simp only [Zd,Za,Yl]
   exact ⟨_,rfl,rfl,fun h=>absurd h t2⟩
 ·rw [decide_eq_false t1,Bool.not_false,if_pos t1]
  simp only [Zd,Za,Yl]
  exact ⟨_,rfl,rfl,fun h=>absurd h t1⟩
def Zat (l:List Zc):List Zf:=l.flatMap (·.Visits)
theorem ZgC:∀ (l:List Zc) (out:List Zf),out.length+(Zat l).length≤1000000→Xm l out=some (out++Zat l)∧QX l out=some (out++Zat l)∧QO l out=some (out++Zat l)
 | [],out,_=>by rw [Xm.eq_1,QX.eq_1,QO.eq_1]; simp [Zat]
 | w::l,out,h=>by
  unfold Zat at h ⊢
  rw [List.flatMap_cons,List.length_append] at h
  have ih:=ZgC l (out++w.Visits) (by unfold Zat; rw [List.length_append]; omega)
  unfold Zat at ih
  obtain ⟨i1,i2,i3⟩:=ih
  rw [Xm.eq_2,QX.eq_2,QO.eq_2,ZT (by omega),Za,Za,Za,i1,i2,i3,List.flatMap_cons,List.append_assoc]
  exact ⟨rfl,rfl,rfl⟩
theorem ZtX (q:Zg) (a b:List Zc) (hq:q.Ranges.length≤1000000) (ha:(Zat a).length≤1000000) (hb:(Zat b).length≤1000000) (hra:∀ v ∈ Zat a,v.View.Rows.length≤10000) (hrb:∀ v ∈ Zat b,v.View.Rows.length≤10000) :
   ZbE q a b=some ⟨q,Zat a,Zat b⟩∧Zc1 q a b=some ⟨q,Zat a,Zat b⟩:=by
 obtain ⟨a1,a2,a3⟩:=ZgC a [] (by simpa using ha)
 obtain ⟨b1,b2,b3⟩:=ZgC b [] (by simpa using hb)
 rw [List.nil_append] at *
 unfold ZbE Zc1 ZaV
 rw [X8 _ (by omega),Za,a1,b1,a2,b3]
 simp only [Za]
 rw [Zb3 _ ha (fun v hv=>by have:=hra v hv; omega),Zb3 _ hb (fun v hv=>by have:=hrb v hv; omega)]
 simp only [Za,and_self]
end Go.Proofs.YtkcmgbbopedacaaGreatDoor
namespace Go.Proofs.YtkcmgbbopedacaaGreatDoor
open Go.RowKit
theorem ZzK (b:Bool) {g:Prop} (h1:b=true→g) (h2:b=false→g):g:=by
 cases h:b with
 | true=>exact h1 h
 | false=>exact h2 h
theorem slt {α:Type} (x y:α):sel true x y=x:=rfl
theorem slf {α:Type} (x y:α):sel false x y=y:=rfl
theorem Zoz {w:World} {ok:Nat→Prop} {ρ:Lc}:∀ {xs ys:List V} {vs:List Value},RVs w ok ρ (xs++ys) vs→∃ us zs,vs=us++zs∧RVs w ok ρ xs us∧RVs w ok ρ ys zs
 | [],_,vs,h=>⟨[],vs,rfl,.nil,h⟩
 | x::xs,ys,_,.cons h1 h2=>by
  obtain ⟨us,zs,rfl,g1,g2⟩:=Zoz (xs:=xs) h2
  exact ⟨_::us,zs,rfl,.cons h1 g1,g2⟩
section
variable {P:Program} {o:Oper} {H:Hp} {sl:List (Nat × V)} {x:Operand} {xs:Array Operand} {ats:Array TypeId} {f:FuncId}
theorem Zv0 {pre post:List D} {k1 k2:Nat} (b:Bool) (hs:∀ v1 v2:Value,Spec P f [.a (pre.map V.d++.d (.c v1)::.d (.c v2)::post.map V.d)] [] fun u1 h1=>u1=.d (.c (bif b then v2 else v1))∧h1=[]) (hop:o.op=.call { callee:=.value x,args:=xs,argTypes:=ats }) (hx:ev sl x=some (.d (.c (.func (.func f) #[] #[])))) (ha:evl sl xs.toList=some [.a (pre.map V.d++.h k1::.h k2::post.map V.d)]):OpV P o H sl 0 0 fun u' h'=>u'=.h (bif b then k2 else k1)∧h'=[]:=fun B a w ρ hup hd hsr hr hfr=>by
 have hargs:=ZeM hsr ha
 generalize hg:xs.toList.map a.eval=args at hargs
 obtain ⟨us,rfl,hus⟩:∃ us:List Value,args=[.agg us.toArray]∧RVs w (okb B w ρ) ρ (pre.map V.d++.h k1::.h k2::post.map V.d) us:=by
  cases hargs with | cons h1 h2=>cases h2; cases h1 with | a h=>exact ⟨_,rfl,h⟩
 obtain ⟨A,C,rfl,hA,hC⟩:=Zoz hus
 obtain ⟨p1,n1,c1,p2,n2,c2,D',rfl,e1,e2,hD⟩:∃ p1 n1 c1 p2 n2 c2 D',C=.slice p1 n1 c1::.slice p2 n2 c2::D'∧ρ k1=some (.arr (.slice p1 n1 c1))∧ρ k2=some (.arr (.slice p2 n2 c2))∧RVs w (okb B w ρ) ρ (post.map V.d) D':=by
  cases hC with | cons h1 h2=>cases h2 with | cons h2 h3=>cases h1 with | h e1=>cases h2 with | h e2=>exact ⟨_,_,_,_,_,_,_,rfl,e1,e2,h3⟩
 have hs0:∀ i,sub ρ [] i=none:=fun i=>rfl
 have stl:Stl w w (okb B w ρ) (okb (fun _=>True) w (sub ρ [])):=fun b hb=>⟨⟨hb.1,trivial,fun i l hi=>by rw [hs0] at hi; cases hi⟩,rfl⟩
 have hargs':RVs w (okb (fun _=>True) w (sub ρ [])) (sub ρ []) [.a (pre.map V.d++.d (.c (.slice p1 n1 c1))::.d (.c (.slice p2 n2 c2))::post.map V.d)] [.agg (A++.slice p1 n1 c1::.slice p2 n2 c2::D').toArray] :=
  .cons (.a (RVs.append (RDs.toV ((RVs.ofD hA).mono stl)) (.cons (.d (.c rfl)) (.cons (.d (.c rfl)) (RDs.toV ((RVs.ofD hD).mono stl)))))) .nil
 have hview:HR (fun _=>True) [] (sub ρ []) w:=⟨fun k blk h=>by simp [look] at h,fun k k' blk blk' l l' b h=>by simp [look] at h,fun i l b hi=>(by rw [hs0] at hi; cases hi),fun e he=>⟨⟨(hr.gl e he).1.1,trivial,fun i l hi=>by rw [hs0] at hi; cases hi⟩,(hr.gl e he).2⟩⟩
 have hcall:=(hs (.slice p1 n1 c1) (.slice p2 n2 c2)).run (fun _=>True) w (sub ρ []) _ (fun b hb=>trivial) hargs' hview (fun i l hi=>by rw [hs0] at hi; cases hi)
 obtain ⟨fn,hf1,hf2,hf3⟩:=(hs undef undef).fn
 have hrun:(execOp a.eval o).run P w=.ok (.enter f (xs.toList.map a.eval).toArray) w:=by
  have hx':=ZbB (Zq hsr hx)
  unfold execOp; rw [hop]
  have e:xs.map a.eval=(xs.toList.map a.eval).toArray:=by apply Array.ext'; simp
  have h1 : ¬ fn.name = "runtime.NumGoroutine" := by simpa using hf2
  have h2:¬ fn.body=none:=fun e=>by rw [e] at hf3; cases hf3
  simp [resolve,hx',Deferred.ofValue,invoke,callFunc,program,Sem.run,hf1,h1,h2,e]
 unfold Oper.wp
 rw [hrun,hg,Oper.upon_enter]
 refine hcall.mono ?_
 rintro e w' ⟨r,u1,h1,ρ1,rfl,⟨rfl,rfl⟩,hst,hrv,hlt⟩
 refine ⟨r,.h (bif b then k2 else k1),[],ρ,rfl,⟨rfl,rfl⟩,⟨hst.os,hst.tape,hst.output,hst.size,fun _ _ h=>h,fun k l h=>.inl h,fun b hb _=>hst.keep b hb fun k l _ hk=>(by rw [hs0] at hk; cases hk),fun k h=>absurd rfl h,fun k blk h=>by simp [look] at h,fun k k' blk blk' l l' b h=>by simp [look] at h⟩,?_⟩
 rw [ZbB hrv]
 cases b with
 | true=>exact .h e2
 | false=>exact .h e1
end
section
variable {Γ:Cx} {k:ZbK} {sl:List (Nat × V)} {hp:Hp} {o:Oper} {ops:Array Oper} {i an d:Nat} {ts:List Nat} {r:List PI} {F:List Ft} {f:FuncId} {x:Operand} {xs:Array Operand} {ats:Array TypeId} {rest:List Oper} {pre post:List D} {k1 k2:Nat}
theorem ZhZ (b:Bool) (kr:Nat) (hs:∀ v1 v2:Value,Spec Γ.P f [.a (pre.map V.d++.d (.c v1)::.d (.c v2)::post.map V.d)] [] fun u1 h1=>u1=.d (.c (bif b then v2 else v1))∧h1=[]) (hop:o.op=.call { callee:=.value x,args:=xs,argTypes:=ats }) (hx:ev (keep ts sl) x=some (.d (.c (.func (.func f) #[] #[])))) (ha:evl (keep ts sl) xs.toList=some [.a (pre.map V.d++.h k1::.h k2::post.map V.d)])
   (hkr:(bif b then k2 else k1)=kr) (hd:o.dst=some d) (hw:Wt ops o (keep ts sl) true) (hdl:Nat.blt d Γ.nt=true) (hf:okF ⟨⟨i,an,ts⟩,[],[],0,0⟩ F=true) (hk:WD Γ ops k r (⟨⟨i,an,ts⟩,[],[],0,0⟩::F) ⟨(d,.h kr)::sl,hp⟩):WO Γ ops k o i an ts r F ⟨sl,hp⟩:=by
 subst hkr
 exact Ztr (h:=[]) (Zv0 b hs hop hx ha) hd hw hdl rfl (QJ _ _) hf hk
end
end Go.Proofs.YtkcmgbbopedacaaGreatDoor
