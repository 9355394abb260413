/-
  Lemmas: Models and walks
-/
import Derived.Test.YtkcmgbbopedacaaGreatDoorPZ18
import Derived.Test.YtkcmgbbopedacaaGreatDoorPZ17
set_option linter.unusedSimpArgs false
set_option linter.unusedVariables false
namespace Go.Proofs.YtkcmgbbopedacaaGreatDoor
open Go.RowKit
set_option maxRecDepth 100000
set_option maxHeartbeats 4000000
attribute [local irreducible] WK WC WL Wk Rel OpD OpV WD WO sel bnd Ze app YD lsl ZeM ssl ZhA Zhi Zi9 Zh4 Op.bytesLess
def YT (k1:ByteArray):Bool :=
 decide ((k1.size:Int)≤64)
instance ZnO {k1}:SpT (YT k1) fun y=>Sp 127 [vS k1] [] (vB y) []:=⟨fun hm=>by
 refine si Tryz.func127 Tryz.ntmps127 Tryz.results127 fun B w0 ρ0=>?_
 unfold YT at hm
 exact YF hm⟩
def Z4 (b1:Bnd):Bool :=
 bnd (YT b1.key) fun y2 =>
 sel y2 (
  sel (!b1.top) (
   true) (
   decide (b1.key=⟨#[]⟩))) (
  false)
instance Zlr {b1}:SpT (Z4 b1) fun y=>Sp 62 [.a [vS b1.key,vB b1.top]] [] (vB y) []:=⟨fun hm=>by
 refine si Tryz.func62 Tryz.ntmps62 Tryz.results62 fun B w0 ρ0=>?_
 exact az0 hm⟩
def Zk (a1:Bnd) (b2:Bnd):Int :=
 bnd (
  sel a1.top (
   b2.top) (
   false):Bool) fun x3 =>
 sel x3 (
  0) (
  bnd (
   sel a1.top (
    true) (
    sel (!b2.top) (
     bl b2.key a1.key) (
     false)):Bool) fun x4 =>
  sel x4 (
   1) (
   sel b2.top (
    (-1)) (
    sel (bl a1.key b2.key) (
     (-1)) (
     0))))
instance Zoj {a1} {b2}:SpT (Zk a1 b2) fun y=>Sp 61 [.a [vS a1.key,vB a1.top],.a [vS b2.key,vB b2.top]] [] (vI y) []:=⟨fun hm=>by
 refine si Tryz.func61 Tryz.ntmps61 Tryz.results61 fun B w0 ρ0=>?_
 refine sr ?_
 refine Zg ?_
 refine Zm ?_
 refine Zg ?_
 refine jp1 hm [2,3] [102,103] (fun x3=>[(5,vB x3)]) (fun _ hm hm1=>?_) (fun x3 hm=>?_)
 ·exact az1 hm hm1
 refine co hm (fun hm=>?_) fun hm=>?_
 ·exact YF hm
 refine Zg ?_
 refine jp1 hm [2,3] [102,103] (fun x4=>[(12,vB x4)]) (fun _ hm hm1=>?_) (fun x4 hm=>?_)
 ·exact az1 hm hm1
 refine co hm (fun hm=>?_) fun hm=>?_
 ·exact YF hm
 refine co hm (fun hm=>?_) fun hm=>?_
 ·refine ss ?_
  refine Xn rfl ?_
  exact YF hm
 exact az0 hm⟩
def Zau (r1:Rng):Bool :=
 bnd (Z4 r1.lo) fun y2 =>
 sel y2 (
  bnd (Z4 r1.hi) fun y3 =>
  sel y3 (
   bnd (Zk r1.lo r1.hi) fun y4 =>
   decide (y4≤0)) (
   false)) (
  false)
instance Zq8 {r1}:SpT (Zau r1) fun y=>Sp 135 [.a (Rng.vs r1)] [] (vB y) []:=⟨fun hm=>by
 refine si Tryz.func135 Tryz.ntmps135 Tryz.results135 fun B w0 ρ0=>?_
 exact az0 hm⟩
def ZU (r1:Rng):Bool :=
 bnd (Zau r1) fun y2 =>
 sel (!y2) (
  true) (
  bnd (Zk r1.lo r1.hi) fun y3 =>
  decide (y3=0))
instance Zq2 {r1}:SpT (ZU r1) fun y=>Sp 71 [.a (Rng.vs r1)] [] (vB y) []:=⟨fun hm=>by
 refine si Tryz.func71 Tryz.ntmps71 Tryz.results71 fun B w0 ρ0=>?_
 exact az0 hm⟩
def Xz (r1:Rng) (k2:ByteArray):Bool :=
 bnd (ZU r1) fun y3 =>
 sel (!y3) (
  bnd (YT k2) fun y4 =>
  sel y4 (
   bnd (Zk r1.lo (Bnd.mk k2 false)) fun y5 =>
   sel (decide (y5≤0)) (
    bnd (Zk (Bnd.mk k2 false) r1.hi) fun y6 =>
    decide (y6<0)) (
    false)) (
   false)) (
  false)
instance ZnQ {r1} {k2}:SpT (Xz r1 k2) fun y=>Sp 120 [.a (Rng.vs r1),vS k2] [] (vB y) []:=⟨fun hm=>by
 refine si Tryz.func120 Tryz.ntmps120 Tryz.results120 fun B w0 ρ0=>?_
 exact az0 hm⟩
structure ZC where
 l:List Int
 at_:Int
 deriving DecidableEq
def ZC.ds (x:ZC):List D:=[lst dsI x.l,dI x.at_]
instance : Len ZC.ds 2:=⟨fun _=>rfl⟩
abbrev ZC.vs (x:ZC):List V:=[.d (lst dsI x.l),vI x.at_]
def ZeV (l1:List Int):Option ZC :=
 sel (decide (600<(l1.length:Int))) (
  Ze (lsl l1 0 600) fun l2 =>
  some (ZC.mk l2 0)) (
  some (ZC.mk l1 0))
instance Zli {l1}:SpO (ZeV l1) fun y=>Sp 11 [.d (lst dsI l1)] [] (.p 1 0) ([(1,some (.box 126 [.d (lst dsI y.l),vI y.at_]))]):=⟨fun hm=>by
 refine si Tryz.func11 Tryz.ntmps11 Tryz.results11 fun B w0 ρ0=>?_
 refine co hm (fun hm=>?_) fun hm=>?_
 ·refine bo hm fun l2 hm=>?_
  exact ZqV [(1,110)] hm
 exact ZqV [(1,110)] hm⟩
def Zgn (v1:Int) (n2:Int):Option Int :=
 Ze (Zh4 v1 n2) fun q3 =>
 sel (decide (q3<0)) (
  some (ZJ (q3+n2))) (
  some q3)
instance Zu8 {v1} {n2}:SpO (Zgn v1 n2) fun y=>Sp 73 [vI v1,vI n2] [] (vI y) []:=⟨fun hm=>by
 refine si Tryz.func73 Tryz.ntmps73 Tryz.results73 fun B w0 ρ0=>?_
 exact az0 hm⟩
def Zt (t1:ZC) (n2:Int):Option (Int × ZC) :=
 Ze (
  sel (decide (n2<1)) (
   some true) (
   some (decide ((t1.l.length:Int)≤t1.at_))):Option Bool) fun x3 =>
 sel x3 (
  some (0,t1)) (
  Ze (YD t1.l (ZJ ((ZJ (t1.at_+1)) - 1))) fun e4 =>
  Ze (Zgn e4 n2) fun y5 =>
  some (y5,(ZC.mk t1.l (ZJ (t1.at_+1)))))
instance ZnK {t1} {n2}:SpO (Zt t1 n2) fun y=>Sp 20 [.p 0 0,vI n2] [(0,some (.box 126 [.d (lst dsI t1.l),vI t1.at_]))] (vI y.1) ([(0,some (.box 126 [.d (lst dsI y.2.l),vI y.2.at_]))]):=⟨fun hm=>by
 refine si Tryz.func20 Tryz.ntmps20 Tryz.results20 fun B w0 ρ0=>?_
 refine sr ?_
 refine Zg ?_
 refine Zg ?_
 refine jo1 hm [0,1] [0] (fun x3=>[(18,vB x3)]) (fun _ hm hm1=>?_) (fun x3 hm=>?_)
 ·refine Zy (id:=1) [⟨0,0,[1]⟩,⟨1,1,[5]⟩,⟨2,3,[6]⟩,⟨3,7,[0,7]⟩,⟨4,15,[7,8]⟩,⟨5,31,[7,9]⟩,⟨6,63,[7,10]⟩,⟨7,7,[0,7]⟩,⟨8,135,[7,12]⟩,⟨9,391,[7,13]⟩,⟨10,903,[7,14]⟩,⟨11,1927,[7,15]⟩,⟨12,4095,[7,11,16]⟩,⟨13,8191,[7,17]⟩] mixed (by kernel_rfl) ?_
  exact az1 hm hm1
 refine co hm (fun hm=>?_) fun hm=>?_
 ·exact YF hm
 refine sx ?_
 refine sr ?_
 refine ZL (YZ rfl rfl rfl rfl) rfl rfl rfl ?_
 refine ss ?_
 refine Zg ?_
 refine Zy (id:=4) [⟨0,0,[0]⟩,⟨1,1,[26]⟩,⟨2,3,[27]⟩,⟨3,7,[28]⟩,⟨4,0,[0]⟩,⟨5,16,[30]⟩,⟨6,48,[31]⟩,⟨7,112,[32]⟩,⟨8,240,[33]⟩,⟨9,511,[29,34]⟩,⟨10,1023,[35]⟩,⟨11,0,[1]⟩,⟨12,4095,[36,37]⟩,⟨13,8191,[38]⟩] mixed (by kernel_rfl) ?_
 exact az0 hm⟩
def ZF (t1:ZC) (n2:Int):Option (Bool × ZC) :=
 Ze (Zt t1 n2) fun y3 =>
 some (decide (y3.1=ZJ (n2 - 1)),y3.2)
instance ZnJ {t1} {n2}:SpO (ZF t1 n2) fun y=>Sp 14 [.p 0 0,vI n2] [(0,some (.box 126 [.d (lst dsI t1.l),vI t1.at_]))] (vB y.1) ([(0,some (.box 126 [.d (lst dsI y.2.l),vI y.2.at_]))]):=⟨fun hm=>by
 refine si Tryz.func14 Tryz.ntmps14 Tryz.results14 fun B w0 ρ0=>?_
 exact az0 hm⟩
def Zbm (t1:ZC) (l2:List Int):Option (Int × ZC) :=
 Ze (Zt t1 (l2.length:Int)) fun y3 =>
 Ze (YD l2 y3.1) fun e4 =>
 some (e4,y3.2)
instance ZnW {t1} {l2}:SpO (Zbm t1 l2) fun y=>Sp 74 [.p 0 0,.d (lst dsI l2)] [(0,some (.box 126 [.d (lst dsI t1.l),vI t1.at_]))] (vI y.1) ([(0,some (.box 126 [.d (lst dsI y.2.l),vI y.2.at_]))]):=⟨fun hm=>by
 refine si Tryz.func74 Tryz.ntmps74 Tryz.results74 fun B w0 ρ0=>?_
 exact az0 hm⟩
def ZbB (s1:ByteArray) (n2:Int):Nat→ByteArray→Int→Option ByteArray
 | 0,_,_=>none
 | fuel+1,out3,i4 =>
 sel (decide (i4<n2)) (
  Ze (ZhA out3 s1) fun s5 =>
  ZbB s1 n2 fuel s5 (ZJ (i4+1))) (
  some out3)
def ZcJ (s1:ByteArray) (n2:Int):Option ByteArray :=
 Ze (
  ZbB s1 n2 FU ⟨#[]⟩ 0:Option ByteArray) fun out6 =>
 some out6
instance ZtQ {s1} {n2}:SpO (ZcJ s1 n2) fun y=>Sp 128 [vS s1,vI n2] [] (vS y) []:=⟨fun hm=>by
 refine si Tryz.func128 Tryz.ntmps128 Tryz.results128 fun B w0 ρ0=>?_
 refine sr ?_
 refine sr ?_
 refine sr ?_
 refine jo1 hm [] [] (fun out6=>[(5,vS out6)]) (fun _ hm hm1=>?_) (fun out6 hm=>?_)
 ·refine Zm ?_
  refine lf2 hm1 [0,1] [] (fun out3 i4=>[(5,vS out3),(6,vI i4)]) (fun κ out3 i4 hm1=>?_)
  refine co hm1 (fun hm1=>?_) fun hm1=>?_
  ·refine bo hm1 fun s5 hm1=>?_
   refine sr ?_
   refine ZL (YZ rfl rfl rfl rfl) rfl rfl rfl ?_
   refine ss ?_
   exact eb1 hm hm1
  exact ZbU hm hm1
 exact YF hm⟩
def Zaj:Nat→List Int→Int→ByteArray→Int→Option (ByteArray × List Int × Int)
 | 0,_,_,_,_=>none
 | fuel+1,x7,x8,out9,i10 =>
 Ze (
  sel (decide (0<i10)) (
   some (Ctl.nxt ())) (
   some (Ctl.ret (out9,x7,x8))):Option (Ctl (ByteArray × List Int × Int) Unit)) fun mu=>Yz mu fun (_:Unit) =>
 Ze (Zt (ZC.mk x7 x8) 6) fun y11 =>
 Ze (Zhi y11.1) fun s12 =>
 Ze (ZhA out9 s12) fun s13 =>
 Zaj fuel y11.2.l y11.2.at_ s13 (ZJ (i10 - 1))
def Xq (t1:ZC):Option (ByteArray × ZC) :=
 Ze (Zt t1 12) fun y2 =>
 sel (decide (y2.1=10)) (
  Ze (Zt y2.2 6) fun y3 =>
  Ze (Zhi y3.1) fun s4 =>
  Ze (ZcJ s4 64) fun y5 =>
  some (y5,y3.2)) (
  sel (decide (y2.1=11)) (
   some (⟨#[]⟩,y2.2)) (
   Ze (Zt y2.2 3) fun y6 =>
   Ze (
    Zaj FU y6.2.l y6.2.at_ ⟨#[]⟩ (ZJ (1+y6.1)):Option (ByteArray × List Int × Int)) fun (out14,x15,x16) =>
   some (out14,(ZC.mk x15 x16))))
instance Zon {t1}:SpO (Xq t1) fun y=>Sp 64 [.p 0 0] [(0,some (.box 126 [.d (lst dsI t1.l),vI t1.at_]))] (vS y.1) ([(0,some (.box 126 [.d (lst dsI y.2.l),vI y.2.at_]))]):=⟨fun hm=>by
 refine si Tryz.func64 Tryz.ntmps64 Tryz.results64 fun B w0 ρ0=>?_
 refine bo hm fun y2 hm=>?_
 refine co hm (fun hm=>?_) fun hm=>?_
 ·exact az0 hm
 refine co hm (fun hm=>?_) fun hm=>?_
 ·exact YF hm
 refine bo hm fun y6 hm=>?_
 refine ss ?_
 refine ZL (YZ rfl rfl rfl rfl) rfl rfl rfl ?_
 refine ss ?_
 refine jo3 hm [] [] (fun out14 x15 x16=>[(3,vS out14)]) (fun _ hm hm1=>?_) (fun out14 x15 x16 hm=>?_) (B:=(fun out14 x15 x16=>[(0,some (.box 126 [.d (lst dsI x15),vI x16]))]))
 ·refine Zm ?_
  refine lf4 hm1 [0] [] (fun x7 x8 out9 i10=>[(3,vS out9),(4,vI i10)]) (fun κ x7 x8 out9 i10 hm1=>?_) (B:=(fun x7 x8 out9 i10=>[(0,some (.box 126 [.d (lst dsI x7),vI x8]))]))
  refine sr ?_
  refine jc0 hm1 [0,3,4] [0] [] (fun _ hm1 hm2=>?_) (fun hm1=>?_)
  ·exact az2 hm hm1 hm2
  refine bo hm1 fun y11 hm1=>?_
  refine bo hm1 fun s12 hm1=>?_
  refine bo hm1 fun s13 hm1=>?_
  exact eb1 hm hm1
 exact YF hm⟩
def Zae (t1:ZC):Option (ByteArray × ZC) :=
 Ze (ZF t1 10) fun y2 =>
 sel y2.1 (
  Ze (Zt y2.2 6) fun y3 =>
  Ze (Zhi y3.1) fun s4 =>
  Ze (ZcJ s4 65) fun y5 =>
  some (y5,y3.2)) (
  Ze (Xq y2.2) fun y6 =>
  some (y6.1,y6.2))
instance Zlt {t1}:SpO (Zae t1) fun y=>Sp 63 [.p 0 0] [(0,some (.box 126 [.d (lst dsI t1.l),vI t1.at_]))] (vS y.1) ([(0,some (.box 126 [.d (lst dsI y.2.l),vI y.2.at_]))]):=⟨fun hm=>by
 refine si Tryz.func63 Tryz.ntmps63 Tryz.results63 fun B w0 ρ0=>?_
 exact az0 hm⟩
def Xc (t1:ZC):Option (Bnd × ZC) :=
 Ze (Zt t1 9) fun y2 =>
 sel (decide (y2.1=7)) (
  some ((Bnd.mk ⟨#[]⟩ true),y2.2)) (
  sel (decide (y2.1=8)) (
   Ze (Zae y2.2) fun y3 =>
   Ze (ZF y3.2 3) fun y4 =>
   some ((Bnd.mk y3.1 y4.1),y4.2)) (
   Ze (Xq y2.2) fun y5 =>
   some ((Bnd.mk y5.1 false),y5.2)))
instance ZmZ {t1}:SpO (Xc t1) fun y=>Sp 15 [.p 0 0] [(0,some (.box 126 [.d (lst dsI t1.l),vI t1.at_]))] (.a [vS y.1.key,vB y.1.top]) ([(0,some (.box 126 [.d (lst dsI y.2.l),vI y.2.at_]))]):=⟨fun hm=>by
 refine si Tryz.func15 Tryz.ntmps15 Tryz.results15 fun B w0 ρ0=>?_
 exact az0 hm⟩
def Za2 (t1:ZC):Option (Rng × ZC) :=
 Ze (Xc t1) fun y2 =>
 Ze (Xc y2.2) fun y3 =>
 Ze (ZF y3.2 6) fun y4 =>
 sel (!y4.1) (
  sel y2.1.top (
   some ((Rng.mk y3.1 y2.1),y4.2)) (
   sel (!y3.1.top) (
    sel (bl y3.1.key y2.1.key) (
     some ((Rng.mk y3.1 y2.1),y4.2)) (
     some ((Rng.mk y2.1 y3.1),y4.2))) (
    some ((Rng.mk y2.1 y3.1),y4.2)))) (
  some ((Rng.mk y2.1 y3.1),y4.2))
instance ZmV {t1}:SpO (Za2 t1) fun y=>Sp 60 [.p 0 0] [(0,some (.box 126 [.d (lst dsI t1.l),vI t1.at_]))] (.a (Rng.vs y.1)) ([(0,some (.box 126 [.d (lst dsI y.2.l),vI y.2.at_]))]):=⟨fun hm=>by
 refine si Tryz.func60 Tryz.ntmps60 Tryz.results60 fun B w0 ρ0=>?_
 refine bo hm fun y2 hm=>?_
 refine bo hm fun y3 hm=>?_
 refine bo hm fun y4 hm=>?_
 refine co hm (fun hm=>?_) fun hm=>?_
 ·refine co hm (fun hm=>?_) fun hm=>?_
  ·refine ss ?_
   refine Xn rfl ?_
   exact YF hm
  refine co hm (fun hm=>?_) fun hm=>?_
  ·exact az0 hm
  refine ss ?_
  refine Yf rfl ?_
  exact YF hm
 refine ss ?_
 refine Yf rfl ?_
 exact YF hm⟩
def Zaf (t1:ZC):Option (Rng × ZC) :=
 Ze (Za2 t1) fun y2 =>
 bnd (ZU y2.1) fun y3 =>
 sel y3 (
  some ((Rng.mk (Bnd.mk ⟨#[98]⟩ false) (Bnd.mk ⟨#[]⟩ true)),y2.2)) (
  some (y2.1,y2.2))
instance Zlm {t1}:SpO (Zaf t1) fun y=>Sp 56 [.p 0 0] [(0,some (.box 126 [.d (lst dsI t1.l),vI t1.at_]))] (.a (Rng.vs y.1)) ([(0,some (.box 126 [.d (lst dsI y.2.l),vI y.2.at_]))]):=⟨fun hm=>by
 refine si Tryz.func56 Tryz.ntmps56 Tryz.results56 fun B w0 ρ0=>?_
 exact az0 hm⟩
def Za7 (t1:ZC):Option (ByteArray × ZC) :=
 Ze (Zt t1 9) fun y2 =>
 sel (decide (y2.1=6)) (
  some (⟨#[120]⟩,y2.2)) (
  sel (decide (y2.1=7)) (
   Ze (ZcJ ⟨#[57]⟩ 64) fun y3 =>
   some (y3,y2.2)) (
   sel (decide (y2.1=8)) (
    some (⟨#[48,48,55]⟩,y2.2)) (
    Ze (Zt y2.2 6) fun y4 =>
    Ze (YD ([⟨#[49]⟩,⟨#[45,55]⟩,⟨#[]⟩,⟨#[48]⟩,⟨#[49,48,48,48,48,48,48,48,48,48,48,48,48]⟩,⟨#[49,50]⟩]:List ByteArray) y4.1) fun x5 =>
    some (x5,y4.2))))
instance Zm3 {t1}:SpO (Za7 t1) fun y=>Sp 109 [.p 0 0] [(0,some (.box 126 [.d (lst dsI t1.l),vI t1.at_]))] (vS y.1) ([(0,some (.box 126 [.d (lst dsI y.2.l),vI y.2.at_]))]):=⟨fun hm=>by
 refine si Tryz.func109 Tryz.ntmps109 Tryz.results109 fun B w0 ρ0=>?_
 refine bo hm fun y2 hm=>?_
 refine co hm (fun hm=>?_) fun hm=>?_
 ·exact YF hm
 refine co hm (fun hm=>?_) fun hm=>?_
 ·exact az0 hm
 refine co hm (fun hm=>?_) fun hm=>?_
 ·exact YF hm
 refine bo hm fun y4 hm=>?_
 refine ss ?_
 obtain ⟨x5,hy,hm⟩:=ZH hm
 refine ZL (Zyn (f:=vS) hy rfl rfl rfl (by exact inferInstance) (by exact inferInstance) rfl) rfl rfl rfl ?_
 exact YF hm⟩
structure Zf where
 Kind:Int
 Ranges:List Rng
 Key:ByteArray
 Count:Int
 deriving DecidableEq
def Zf.ds (x:Zf):List D:=[dI x.Kind,lst Rng.ds x.Ranges,dS x.Key,dI x.Count]
instance : Len Zf.ds 4:=⟨fun _=>rfl⟩
abbrev Zf.vs (x:Zf):List V:=[vI x.Kind,.d (lst Rng.ds x.Ranges),vS x.Key,vI x.Count]
def Qp:Nat→List Int→Int→List Rng→Int→Option (List Rng × List Int × Int)
 | 0,_,_,_,_=>none
 | fuel+1,x4,x5,q6,i7 =>
 Ze (
  sel (decide (0≤i7)) (
   some (Ctl.nxt ())) (
   some (Ctl.ret (q6,x4,x5))):Option (Ctl (List Rng × List Int × Int) Unit)) fun mu=>Yz mu fun (_:Unit) =>
 Ze (Zaf (ZC.mk x4 x5)) fun y8 =>
 Ze (app q6 ([y8.1]:List Rng)) fun l9 =>
 Qp fuel y8.2.l y8.2.at_ l9 (ZJ (i7 - 1))
def QD (t1:ZC):Option (Zf × ZC) :=
 Ze (Zt t1 4) fun y2 =>
 Ze (
  sel (decide (ZJ (1+y2.1)=1)) (
   Ze (Zt y2.2 4) fun y3 =>
   Ze (
    Qp FU y3.2.l y3.2.at_ [] y3.1:Option (List Rng × List Int × Int)) fun (q10,x11,x12) =>
   some (q10,⟨#[]⟩,0,x11,x12)) (
   sel (decide (ZJ (1+y2.1)=2)) (
    Ze (Xq y2.2) fun y13 =>
    some ([],y13.1,0,y13.2.l,y13.2.at_)) (
    Ze (Xq y2.2) fun y14 =>
    Ze (Zbm y14.2 ([1,2,3,5,1024]:List Int)) fun y15 =>
    some ([],y14.1,y15.1,y15.2.l,y15.2.at_))):Option (List Rng × ByteArray × Int × List Int × Int)) fun (q16,q17,q18,x19,x20) =>
 some ((Zf.mk (ZJ (1+y2.1)) q16 q17 q18),(ZC.mk x19 x20))
instance Zm0 {t1}:SpO (QD t1) fun y=>Sp 21 [.p 0 0] [(0,some (.box 126 [.d (lst dsI t1.l),vI t1.at_]))] (.a (Zf.vs y.1)) ([(0,some (.box 126 [.d (lst dsI y.2.l),vI y.2.at_]))]):=⟨fun hm=>by
 refine si Tryz.func21 Tryz.ntmps21 Tryz.results21 fun B w0 ρ0=>?_
 refine bo hm fun y2 hm=>?_
 refine ss ?_
 refine ZL (YZ rfl rfl rfl rfl) rfl rfl rfl ?_
 refine sr ?_
 refine jo5 hm [2,3] [102] (fun q16 q17 q18 x19 x20=>[]) (fun _ hm hm1=>?_) (fun q16 q17 q18 x19 x20 hm=>?_) (B:=(fun q16 q17 q18 x19 x20=>[(0,some (.box 126 [.d (lst dsI x19),vI x20])),(103,some (.box 41 (Zf.vs (Zf.mk (ZJ (1+y2.1)) q16 q17 q18))))]))
 ·refine co hm1 (fun hm1=>?_) fun hm1=>?_
  ·refine bo hm1 fun y3 hm1=>?_
   refine ss ?_
   refine jo3 hm1 [2,3] [102] (fun q10 x11 x12=>[]) (fun _ hm1 hm2=>?_) (fun q10 x11 x12 hm1=>?_) (B:=(fun q10 x11 x12=>[(0,some (.box 126 [.d (lst dsI x11),vI x12])),(103,some (.box 41 (Zf.vs (Zf.mk (ZJ (1+y2.1)) q10 ⟨#[]⟩ 0))))]))
   ·refine Zm ?_
    refine ZbW (Zim 103 1 5001 72 4 rfl rfl rfl rfl) ?_
    refine lf4 hm2 [0,2,3] [102] (fun x4 x5 q6 i7=>[(4,vI i7)]) (fun κ x4 x5 q6 i7 hm2=>?_) (B:=(fun x4 x5 q6 i7=>[(0,some (.box 126 [.d (lst dsI x4),vI x5])),(103,some (.box 41 [vI (ZJ (1+y2.1)),.h 5001,vS ⟨#[]⟩,vI 0])),(5001,some (YY 72 4 Rng.ds q6))]))
    refine sr ?_
    refine jc0 hm2 [0,2,3,4] [0,102,103,5001] [] (fun _ hm2 hm3=>?_) (fun hm2=>?_)
    ·exact az3 hm hm1 hm2 hm3
    refine ss ?_
    refine Zg ?_
    refine Zm ?_
    refine Zy (id:=8) [⟨0,0,[3]⟩,⟨1,1,[26]⟩,⟨2,0,[0]⟩,⟨3,4,[28]⟩,⟨4,12,[29]⟩,⟨5,31,[27,30]⟩,⟨6,63,[3]⟩,⟨7,127,[31,32]⟩] mixed (by kernel_rfl) ?_
    refine bo hm2 fun y8 hm2=>?_
    refine ss ?_
    refine ZeP Rng.ds [y8.1] rfl rfl (by simp only [YB,Zq,List.cons_append,List.nil_append,List.append_nil]; exact rfl) rfl rfl rfl rfl (by first | exact .no rfl | exact .y rfl rfl rfl rfl) rfl rfl ?_
    refine bo hm2 fun l9 hm2=>?_
    exact ZAa [(0,0),(102,102),(103,103),(5001,131)] hm hm1 hm2
   exact ZbU hm hm1
  refine co hm1 (fun hm1=>?_) fun hm1=>?_
  ·exact az1 hm hm1
  refine bo hm1 fun y14 hm1=>?_
  refine ss ?_
  refine Zaq dsI [1,2,3,5,1024] rfl rfl (by simp only [YB,Zq,List.cons_append,List.nil_append,List.append_nil]; exact rfl) rfl rfl rfl rfl rfl rfl ?_
  exact az1 hm hm1
 exact YF hm⟩
def Qq (r2:Rng):Nat→List Int→Int→Int→Option (Ctl (ByteArray × ZC) (List Int × Int))
 | 0,_,_,_=>none
 | fuel+1,x3,x4,i5 =>
 Ze (
  sel (decide (i5<4)) (
   some (Ctl.nxt ())) (
   some (Ctl.ret (Ctl.nxt (x3,x4)))):Option (Ctl (Ctl (ByteArray × ZC) (List Int × Int)) Unit)) fun mu=>Yz mu fun (_:Unit) =>
 Ze (Xq (ZC.mk x3 x4)) fun y6 =>
 bnd (Xz r2 y6.1) fun y7 =>
 sel y7 (
  some (Ctl.ret (y6.1,y6.2))) (
  Qq r2 fuel y6.2.l y6.2.at_ (ZJ (i5+1)))
def Za8 (t1:ZC) (r2:Rng):Option (ByteArray × ZC) :=
 Ze (
  Qq r2 FU t1.l t1.at_ 0:Option (Ctl (ByteArray × ZC) (List Int × Int))) fun mu=>Yz mu fun (x8,x9) =>
 some (r2.lo.key,(ZC.mk x8 x9))
instance Zm5 {t1} {r2}:SpO (Za8 t1 r2) fun y=>Sp 108 [.p 0 0,.a (Rng.vs r2)] [(0,some (.box 126 [.d (lst dsI t1.l),vI t1.at_]))] (vS y.1) ([(0,some (.box 126 [.d (lst dsI y.2.l),vI y.2.at_]))]):=⟨fun hm=>by
 refine si Tryz.func108 Tryz.ntmps108 Tryz.results108 fun B w0 ρ0=>?_
 refine sr ?_
 refine sr ?_
 refine jc2 hm [3] [103] (fun x8 x9=>[]) (fun _ hm hm1=>?_) (fun x8 x9 hm=>?_) (B:=(fun x8 x9=>[(0,some (.box 126 [.d (lst dsI x8),vI x9]))]))
 ·refine Zm ?_
  refine lf3 hm1 [0,3] [103] (fun x3 x4 i5=>[(5,vI i5)]) (fun κ x3 x4 i5 hm1=>?_) (B:=(fun x3 x4 i5=>[(0,some (.box 126 [.d (lst dsI x3),vI x4]))]))
  refine sr ?_
  refine jc0 hm1 [0,3,5] [0,103] [] (fun _ hm1 hm2=>?_) (fun hm1=>?_)
  ·exact az2 hm hm1 hm2
  refine bo hm1 fun y6 hm1=>?_
  refine bp hm1 fun y7 hm1=>?_
  refine co hm1 (fun hm1=>?_) fun hm1=>?_
  ·exact ZcF hm hm1
  refine sx ?_
  refine sr ?_
  refine ZL (YZ rfl rfl rfl rfl) rfl rfl rfl ?_
  refine ss ?_
  exact eb1 hm hm1
 exact YF hm⟩
def YE:Rng :=
 (Rng.mk (Bnd.mk ⟨#[]⟩ false) (Bnd.mk ⟨#[]⟩ true))
instance Zvb:SpT (YE) fun y=>Sp 53 [] [] (.a (Rng.vs y)) []:=⟨fun hm=>by
 refine si Tryz.func53 Tryz.ntmps53 Tryz.results53 fun B w0 ρ0=>?_
 unfold YE at hm
 exact YF hm⟩
def Xa (key2:ByteArray):List Kv→List Kv→Option (List Kv)
 | [],out3 =>
 some out3
 | r4::xs5,out3 =>
 sel (!decide (r4.key=key2)) (
  Ze (app out3 ([r4]:List Kv)) fun l7 =>
  Xa key2 xs5 l7) (
  Xa key2 xs5 out3)
def Zbr (t1:List Kv) (key2:ByteArray):Option (List Kv) :=
 Ze (
  Xa key2 t1 []:Option (List Kv)) fun out8 =>
 some out8
instance ZnY {t1} {key2}:SpO (Zbr t1 key2) fun y=>Sp 200 [.d (lst Kv.ds t1),vS key2] [] (.d (lst Kv.ds y)) []:=⟨fun hm=>by
 refine si Tryz.func200 Tryz.ntmps200 Tryz.results200 fun B w0 ρ0=>?_
 refine sr ?_
 refine sr ?_
 refine sr ?_
 refine jo1 hm [] [] (fun out8=>[(5,.d (lst Kv.ds out8))]) (fun _ hm hm1=>?_) (fun out8 hm=>?_)
 ·refine Zm ?_
  refine ZbW (ZbY 5 5001 154 2 rfl rfl) ?_
  refine lr1 hm1 8 [1,8,9] [] (fun m6 out3=>[(5,.h 5001),(10,vI (m6:Int))]) (fun hlenm6 m6 out3 r4 hltm6 hxm6 hm1=>?_) (fun m6 out3 hm1=>?_) (B:=(fun m6 out3=>[(5001,some (YY 154 2 Kv.ds out3))]))
  ·refine co hm1 (fun hm1=>?_) fun hm1=>?_
   ·refine sr ?_
    refine Zaq Kv.ds [r4] rfl rfl (by simp only [YB,Zq,List.cons_append,List.nil_append,List.append_nil]; exact rfl) rfl rfl rfl rfl rfl rfl ?_
    refine bo hm1 fun l7 hm1=>?_
    exact Zh5 [(5001,121)] hm hm1
   exact eb1 hm hm1
  exact ZbU hm hm1
 exact YF hm⟩
def Qj (x2:Kv):List Kv→List Kv→Bool→Option (List Kv × Bool)
 | [],out4,done5 =>
 some (out4,done5)
 | r6::xs7,out4,done5 =>
 Ze (
  sel (!done5) (
   some (bl x2.key r6.key)) (
   some false):Option Bool) fun x9 =>
 sel x9 (
  Ze (app out4 ([x2]:List Kv)) fun l10 =>
  Ze (app l10 ([r6]:List Kv)) fun l11 =>
  Qj x2 xs7 l11 true) (
  Ze (app out4 ([r6]:List Kv)) fun l12 =>
  Qj x2 xs7 l12 done5)
def Zdg (t1:List Kv) (x2:Kv):Option (List Kv) :=
 Ze (Zbr t1 x2.key) fun y3 =>
 Ze (
  Qj x2 y3 [] false:Option (List Kv × Bool)) fun (out13,done14) =>
 sel (!done14) (
  Ze (app out13 ([x2]:List Kv)) fun l15 =>
  some l15) (
  some out13)
instance Zro {t1} {x2}:SpO (Zdg t1 x2) fun y=>Sp 215 [.d (lst Kv.ds t1),.a [vS x2.key,vS x2.val]] [] (.d (lst Kv.ds y)) []:=⟨fun hm=>by
 refine si Tryz.func215 Tryz.ntmps215 Tryz.results215 fun B w0 ρ0=>?_
 refine bo hm fun y3 hm=>?_
 refine ss ?_
 refine jo2 hm [3] [103] (fun out13 done14=>[(5,.h 5002),(6,vB done14)]) (fun _ hm hm1=>?_) (fun out13 done14 hm=>?_) (B:=(fun out13 done14=>[(5002,some (YY 154 2 Kv.ds out13))]))
 ·refine Zm ?_
  refine ZbW (ZbY 5 5001 154 2 rfl rfl) ?_
  refine lr2 hm1 12 [3,12,13] [103] (fun m8 out4 done5=>[(5,.h 5001),(6,vB done5),(14,vI (m8:Int))]) (fun hlenm8 m8 out4 done5 r6 hltm8 hxm8 hm1=>?_) (fun m8 out4 done5 hm1=>?_) (B:=(fun m8 out4 done5=>[(5001,some (YY 154 2 Kv.ds out4))]))
  ·refine sx ?_
   refine sr ?_
   refine ZL (Zc3 hxm8 rfl rfl rfl rfl) rfl rfl rfl ?_
   refine ss ?_
   refine Zg ?_
   refine Zg ?_
   refine jo1 hm1 [3,5,6,8,12,13,14] [103,108,5001] (fun x9=>[(26,vB x9)]) (fun _ hm1 hm2=>?_) (fun x9 hm1=>?_)
   ·exact az2 hm hm1 hm2
   refine co hm1 (fun hm1=>?_) fun hm1=>?_
   ·refine sr ?_
    refine Zaq Kv.ds [x2] rfl rfl (by simp only [YB,Zq,List.cons_append,List.nil_append,List.append_nil]; exact rfl) rfl rfl rfl rfl rfl rfl ?_
    refine bo hm1 fun l10 hm1=>?_
    refine sr ?_
    refine Zaq Kv.ds [r6] rfl rfl (by simp only [YB,Zq,List.cons_append,List.nil_append,List.append_nil]; exact rfl) rfl rfl rfl rfl rfl rfl ?_
    refine bo hm1 fun l11 hm1=>?_
    exact Zh5 [(103,103),(5001,134)] hm hm1
   refine sx ?_
   refine sr ?_
   refine Zaq Kv.ds [r6] rfl rfl (by simp only [YB,Zq,List.cons_append,List.nil_append,List.append_nil]; exact rfl) rfl rfl rfl rfl rfl rfl ?_
   refine bo hm1 fun l12 hm1=>?_
   exact Zh5 [(103,103),(5001,134)] hm hm1
  exact Zxw [(103,103),(5002,5001)] hm hm1
 refine co hm (fun hm=>?_) fun hm=>?_
 ·refine sr ?_
  refine Zaq Kv.ds [x2] rfl rfl (by simp only [YB,Zq,List.cons_append,List.nil_append,List.append_nil]; exact rfl) rfl rfl rfl rfl rfl rfl ?_
  exact az0 hm
 exact YF hm⟩
def XE (t1:List Kv):List Kv→Int→Option (Ctl Bool Unit)
 | [],i =>
 some (Ctl.nxt ())
 | r2::xs3,i =>
 bnd (YT r2.key) fun y5 =>
 sel (!y5) (
  some (Ctl.ret false)) (
  sel (decide (64<(r2.val.size:Int))) (
   some (Ctl.ret false)) (
   sel (decide (0<i)) (
    Ze (YD t1 (ZJ (i - 1))) fun e6 =>
    sel (!bl e6.key r2.key) (
     some (Ctl.ret false)) (
     XE t1 xs3 (i+1))) (
    XE t1 xs3 (i+1))))
def Y7 (t1:List Kv):Option Bool :=
 sel (decide (1024<(t1.length:Int))) (
  some false) (
  Ze (
   XE t1 t1 0:Option (Ctl Bool Unit)) fun mu=>Yz mu fun (_:Unit) =>
  some true)
instance ZqM {t1}:SpO (Y7 t1) fun y=>Sp 94 [.d (lst Kv.ds t1)] [] (vB y) []:=⟨fun hm=>by
 refine si Tryz.func94 Tryz.ntmps94 Tryz.results94 fun B w0 ρ0=>?_
 refine co hm (fun hm=>?_) fun hm=>?_
 ·exact YF hm
 refine sx ?_
 refine sr ?_
 refine jc0 hm [] [] [] (fun _ hm hm1=>?_) (fun hm=>?_)
 ·refine Zm ?_
  refine Zrq hm1 8 [0,8,9] [] (fun m4=>[(10,vI (m4:Int))]) (fun hlenm4 m4 r2 hltm4 hxm4 hm1=>?_) (fun m4 hm1=>?_)
  ·refine sx ?_
   refine sr ?_
   refine ZL (Zc3 hxm4 rfl rfl rfl rfl) rfl rfl rfl ?_
   refine ss ?_
   refine Zg ?_
   refine Zy (id:=6) [⟨0,0,[4]⟩,⟨1,1,[15]⟩,⟨2,3,[16]⟩,⟨3,7,[17]⟩,⟨4,15,[18]⟩,⟨5,31,[4,19]⟩,⟨6,63,[19,20]⟩,⟨7,127,[19,21]⟩,⟨8,255,[19,22]⟩,⟨9,511,[19,23]⟩,⟨10,1023,[24]⟩,⟨11,2047,[3,25]⟩,⟨12,4095,[25,26]⟩,⟨13,8191,[25,27]⟩,⟨14,16383,[0,28]⟩,⟨15,16383,[3,28]⟩,⟨16,49151,[28,30]⟩,⟨17,131071,[28,29,31]⟩,⟨18,262143,[28,32]⟩,⟨19,524287,[28,33]⟩,⟨20,16383,[4,28]⟩,⟨21,1064959,[28,35]⟩,⟨22,4194303,[28,34,36]⟩,⟨23,8388607,[25,28,37]⟩,⟨24,16777215,[25,38]⟩] mixed (by kernel_rfl) ?_
   refine bp hm1 fun y5 hm1=>?_
   refine co hm1 (fun hm1=>?_) fun hm1=>?_
   ·refine ss ?_
    refine Xn rfl ?_
    exact ZcF hm hm1
   refine co hm1 (fun hm1=>?_) fun hm1=>?_
   ·refine ss ?_
    refine Xn rfl ?_
    exact ZcF hm hm1
   refine co hm1 (fun hm1=>?_) fun hm1=>?_
   ·refine bo hm1 fun e6 hm1=>?_
    refine co hm1 (fun hm1=>?_) fun hm1=>?_
    ·exact ZcF hm hm1
    exact eb1 hm hm1
   refine ss ?_
   refine Yf rfl ?_
   exact eb1 hm hm1
  exact ZbU hm hm1
 exact YF hm⟩
def XJ (r2:Rng):List Kv→List Kv→Option (List Kv)
 | [],out3 =>
 some out3
 | r4::xs5,out3 =>
 bnd (Xz r2 r4.key) fun y7 =>
 sel y7 (
  Ze (app out3 ([r4]:List Kv)) fun l8 =>
  XJ r2 xs5 l8) (
  XJ r2 xs5 out3)
def YO (t1:List Kv) (r2:Rng):Option (List Kv) :=
 Ze (
  XJ r2 t1 []:Option (List Kv)) fun out9 =>
 some out9
instance ZqO {t1} {r2}:SpO (YO t1 r2) fun y=>Sp 52 [.d (lst Kv.ds t1),.a (Rng.vs r2)] [] (.d (lst Kv.ds y)) []:=⟨fun hm=>by
 refine si Tryz.func52 Tryz.ntmps52 Tryz.results52 fun B w0 ρ0=>?_
 refine sr ?_
 refine sr ?_
 refine sr ?_
 refine jo1 hm [] [] (fun out9=>[(5,.d (lst Kv.ds out9))]) (fun _ hm hm1=>?_) (fun out9 hm=>?_)
 ·refine Zm ?_
  refine ZbW (ZbY 5 5001 154 2 rfl rfl) ?_
  refine lr1 hm1 8 [3,8,9] [103] (fun m6 out3=>[(5,.h 5001),(10,vI (m6:Int))]) (fun hlenm6 m6 out3 r4 hltm6 hxm6 hm1=>?_) (fun m6 out3 hm1=>?_) (B:=(fun m6 out3=>[(5001,some (YY 154 2 Kv.ds out3))]))
  ·refine bp hm1 fun y7 hm1=>?_
   refine co hm1 (fun hm1=>?_) fun hm1=>?_
   ·refine sr ?_
    refine Zaq Kv.ds [r4] rfl rfl (by simp only [YB,Zq,List.cons_append,List.nil_append,List.append_nil]; exact rfl) rfl rfl rfl rfl rfl rfl ?_
    refine bo hm1 fun l8 hm1=>?_
    exact Zh5 [(103,103),(5001,121)] hm hm1
   exact eb1 hm hm1
  exact ZbU hm hm1
 exact YF hm⟩
def Q3 (a1:List Kv) (b2:List Kv):List Kv→Int→Option (Ctl Bool Unit)
 | [],i =>
 some (Ctl.nxt ())
 | r3::xs4,i =>
 Ze (YD a1 i) fun e6 =>
 Ze (YD b2 i) fun e7 =>
 sel (!(decide (e6.key=e7.key) && decide (e6.val=e7.val))) (
  some (Ctl.ret false)) (
  Q3 a1 b2 xs4 (i+1))
def Zb4 (a1:List Kv) (b2:List Kv):Option Bool :=
 sel (!decide ((a1.length:Int)=(b2.length:Int))) (
  some false) (
  Ze (
   Q3 a1 b2 a1 0:Option (Ctl Bool Unit)) fun mu=>Yz mu fun (_:Unit) =>
  some true)
instance Zq1 {a1} {b2}:SpO (Zb4 a1 b2) fun y=>Sp 95 [.d (lst Kv.ds a1),.d (lst Kv.ds b2)] [] (vB y) []:=⟨fun hm=>by
 refine si Tryz.func95 Tryz.ntmps95 Tryz.results95 fun B w0 ρ0=>?_
 refine co hm (fun hm=>?_) fun hm=>?_
 ·exact YF hm
 refine sx ?_
 refine sr ?_
 refine jc0 hm [] [] [] (fun _ hm hm1=>?_) (fun hm=>?_)
 ·refine Zm ?_
  refine Zrq hm1 0 [0,1,12] [] (fun m5=>[(13,vI (m5:Int))]) (fun hlenm5 m5 r3 hltm5 hxm5 hm1=>?_) (fun m5 hm1=>?_)
  ·refine sx ?_
   refine sr ?_
   refine Zg ?_
   refine Zy (id:=6) [⟨0,0,[0]⟩,⟨1,0,[5]⟩,⟨2,3,[16,17]⟩,⟨3,7,[18]⟩,⟨4,0,[1]⟩,⟨5,0,[5]⟩,⟨6,48,[20,21]⟩,⟨7,112,[22]⟩,⟨8,255,[19,23]⟩] mixed (by kernel_rfl) ?_
   refine ss ?_
   obtain ⟨e6,hy,hm1⟩:=ZH hm1
   refine Yp [] (Zjb (ys:=[dS e6.key,dS e6.val]) hy rfl rfl rfl rfl) rfl (by first | exact .no rfl | exact .y rfl rfl rfl rfl) rfl rfl ?_
   refine ss ?_
   obtain ⟨e7,hy,hm1⟩:=ZH hm1
   refine Yp [] (Zjb (ys:=[dS e7.key,dS e7.val]) hy rfl rfl rfl rfl) rfl (by first | exact .no rfl | exact .y rfl rfl rfl rfl) rfl rfl ?_
   refine co hm1 (fun hm1=>?_) fun hm1=>?_
   ·exact ZcF hm hm1
   exact eb1 hm hm1
  exact ZbU hm hm1
 exact YF hm⟩
def Zd9 (t1:List Kv) (row2:Kv):Option (List Kv × Int) :=
 Ze (
  Ze (Y7 t1) fun y3 =>
  sel (!y3) (
   some true) (
   Ze (Y7 ([row2]:List Kv)) fun y4 =>
   some (!y4)):Option Bool) fun x5 =>
 sel x5 (
  some ([],1)) (
  Ze (Zdg t1 row2) fun y6 =>
  sel (decide (1024<(y6.length:Int))) (
   some ([],16)) (
   some (y6,0)))
instance Zs4 {t1} {row2}:SpO (Zd9 t1 row2) fun y=>Sp 177 [.d (lst Kv.ds t1),.a [vS row2.key,vS row2.val]] [] (.t [.d (lst Kv.ds y.1),vI y.2]) []:=⟨fun hm=>by
 refine si Tryz.func177 Tryz.ntmps177 Tryz.results177 fun B w0 ρ0=>?_
 refine sr ?_
 refine Zg ?_
 refine Zg ?_
 refine jo1 hm [0,3] [103] (fun x5=>[(15,vB x5)]) (fun _ hm hm1=>?_) (fun x5 hm=>?_)
 ·refine bo hm1 fun y3 hm1=>?_
  refine co hm1 (fun hm1=>?_) fun hm1=>?_
  ·exact ZbU hm hm1
  refine ss ?_
  refine Zaq Kv.ds [row2] rfl rfl (by simp only [YB,Zq,List.cons_append,List.nil_append,List.append_nil]; exact rfl) rfl rfl rfl rfl rfl rfl ?_
  exact az1 hm hm1
 exact az0 hm⟩
def X6 (r2:Rng):Nat→List Int→Int→List Kv→Int→Option (List Kv × List Int × Int)
 | 0,_,_,_,_=>none
 | fuel+1,x6,x7,out8,i9 =>
 Ze (
  sel (decide (0<i9)) (
   some (Ctl.nxt ())) (
   some (Ctl.ret (out8,x6,x7))):Option (Ctl (List Kv × List Int × Int) Unit)) fun mu=>Yz mu fun (_:Unit) =>
 Ze (Za8 (ZC.mk x6 x7) r2) fun y10 =>
 Ze (Za7 y10.2) fun y11 =>
 Ze (Zd9 out8 (Kv.mk y10.1 y11.1)) fun y12 =>
 X6 r2 fuel y11.2.l y11.2.at_ y12.1 (ZJ (i9 - 1))
def Zak (t1:ZC) (r2:Rng) (n3:Int):Option (List Kv × ZC) :=
 bnd (ZU r2) fun y4 =>
 sel y4 (
  some ([],t1)) (
  Ze (Zt t1 (ZJ (n3+1))) fun y5 =>
  Ze (
   X6 r2 FU y5.2.l y5.2.at_ [] y5.1:Option (List Kv × List Int × Int)) fun (out13,x14,x15) =>
  some (out13,(ZC.mk x14 x15)))
instance Zls {t1} {r2} {n3}:SpO (Zak t1 r2 n3) fun y=>Sp 122 [.p 0 0,.a (Rng.vs r2),vI n3] [(0,some (.box 126 [.d (lst dsI t1.l),vI t1.at_]))] (.d (lst Kv.ds y.1)) ([(0,some (.box 126 [.d (lst dsI y.2.l),vI y.2.at_]))]):=⟨fun hm=>by
 refine si Tryz.func122 Tryz.ntmps122 Tryz.results122 fun B w0 ρ0=>?_
 refine bp hm fun y4 hm=>?_
 refine co hm (fun hm=>?_) fun hm=>?_
 ·exact YF hm
 refine bo hm fun y5 hm=>?_
 refine ss ?_
 refine jo3 hm [] [] (fun out13 x14 x15=>[(7,.d (lst Kv.ds out13))]) (fun _ hm hm1=>?_) (fun out13 x14 x15 hm=>?_) (B:=(fun out13 x14 x15=>[(0,some (.box 126 [.d (lst dsI x14),vI x15]))]))
 ·refine Zm ?_
  refine lf4 hm1 [0,4] [104] (fun x6 x7 out8 i9=>[(7,.d (lst Kv.ds out8)),(8,vI i9)]) (fun κ x6 x7 out8 i9 hm1=>?_) (B:=(fun x6 x7 out8 i9=>[(0,some (.box 126 [.d (lst dsI x6),vI x7]))]))
  refine sr ?_
  refine jc0 hm1 [0,4,7,8] [0,104] [] (fun _ hm1 hm2=>?_) (fun hm1=>?_)
  ·exact az2 hm hm1 hm2
  refine bo hm1 fun y10 hm1=>?_
  refine bo hm1 fun y11 hm1=>?_
  refine bo hm1 fun y12 hm1=>?_
  exact eb1 hm hm1
 exact YF hm⟩
def QY (t1:ZC) (n2:Int):Option (List Kv × ZC) :=
 bnd (YE) fun y3 =>
 Ze (Zak t1 y3 n2) fun y4 =>
 some (y4.1,y4.2)
instance ZnN {t1} {n2}:SpO (QY t1 n2) fun y=>Sp 85 [.p 0 0,vI n2] [(0,some (.box 126 [.d (lst dsI t1.l),vI t1.at_]))] (.d (lst Kv.ds y.1)) ([(0,some (.box 126 [.d (lst dsI y.2.l),vI y.2.at_]))]):=⟨fun hm=>by
 refine si Tryz.func85 Tryz.ntmps85 Tryz.results85 fun B w0 ρ0=>?_
 exact az0 hm⟩
end Go.Proofs.YtkcmgbbopedacaaGreatDoor
