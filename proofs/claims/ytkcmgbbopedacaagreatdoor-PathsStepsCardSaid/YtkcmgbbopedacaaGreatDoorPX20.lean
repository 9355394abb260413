/-
  Lemmas: Models and walks
-/
import Derived.Test.YtkcmgbbopedacaaGreatDoorPX18
import Derived.Test.YtkcmgbbopedacaaGreatDoorPX19
set_option linter.unusedSimpArgs false
set_option linter.unusedVariables false
namespace Go.Proofs.YtkcmgbbopedacaaGreatDoor
open Go.RowKit
set_option maxRecDepth 100000
set_option maxHeartbeats 4000000
attribute [local irreducible] WK WC WL Wk Rel OpD OpV WD WO sel bnd Zc app Yn lsl ZiR ssl ZgG ZfZ ZiQ ZhF Op.bytesLess
def Yu (k1:ByteArray):Bool :=
 decide ((k1.size:Int)≤64)
instance ZiO {k1}:SpT (Yu k1) fun y=>Sp 134 [vS k1] [] (vB y) []:=⟨fun hm=>by
 refine si Tryz.func134 Tryz.ntmps134 Tryz.results134 fun B w0 ρ0=>?_
 unfold Yu at hm
 exact Yw hm⟩
def Yf (b1:Bnd):Bool :=
 bnd (Yu b1.key) fun y2 =>
 sel y2 (
  sel (!b1.top) (
   true) (
   decide (b1.key=⟨#[]⟩))) (
  false)
instance ZhE {b1}:SpT (Yf b1) fun y=>Sp 70 [.a [vS b1.key,vB b1.top]] [] (vB y) []:=⟨fun hm=>by
 refine si Tryz.func70 Tryz.ntmps70 Tryz.results70 fun B w0 ρ0=>?_
 exact az0 hm⟩
def Zm (a1:Bnd) (b2:Bnd):Int :=
 bnd (
  sel a1.top (
   b2.top) (
   false):Bool) fun x3 =>
 sel x3 (
  0) (
  sel a1.top (
   1) (
   bnd (
    sel b2.top (
     true) (
     bl a1.key b2.key):Bool) fun x4 =>
   sel x4 (
    (-1)) (
    sel (bl b2.key a1.key) (
     1) (
     0))))
instance ZiV {a1} {b2}:SpT (Zm a1 b2) fun y=>Sp 68 [.a [vS a1.key,vB a1.top],.a [vS b2.key,vB b2.top]] [] (vI y) []:=⟨fun hm=>by
 refine si Tryz.func68 Tryz.ntmps68 Tryz.results68 fun B w0 ρ0=>?_
 refine sr ?_
 refine Zg ?_
 refine Zq ?_
 refine Zg ?_
 refine jp1 hm [2,3] [102,103] (fun x3=>[(5,vB x3)]) (fun _ hm hm1=>?_) (fun x3 hm=>?_)
 ·exact az1 hm hm1
 refine co hm (fun hm=>?_) fun hm=>?_
 ·exact Yw hm
 refine co hm (fun hm=>?_) fun hm=>?_
 ·exact Yw hm
 refine Zg ?_
 refine jp1 hm [2,3] [102,103] (fun x4=>[(15,vB x4)]) (fun _ hm hm1=>?_) (fun x4 hm=>?_)
 ·exact az1 hm hm1
 exact az0 hm⟩
def Zan (r1:Rng):Bool :=
 bnd (Yf r1.lo) fun y2 =>
 sel y2 (
  bnd (Yf r1.hi) fun y3 =>
  sel y3 (
   bnd (Zm r1.lo r1.hi) fun y4 =>
   decide (y4≤0)) (
   false)) (
  false)
instance Zll {r1}:SpT (Zan r1) fun y=>Sp 133 [.a (Rng.vs r1)] [] (vB y) []:=⟨fun hm=>by
 refine si Tryz.func133 Tryz.ntmps133 Tryz.results133 fun B w0 ρ0=>?_
 exact az0 hm⟩
def ZU (r1:Rng):Bool :=
 bnd (Zan r1) fun y2 =>
 sel (!y2) (
  true) (
  bnd (Zm r1.lo r1.hi) fun y3 =>
  decide (y3=0))
instance Zk6 {r1}:SpT (ZU r1) fun y=>Sp 69 [.a (Rng.vs r1)] [] (vB y) []:=⟨fun hm=>by
 refine si Tryz.func69 Tryz.ntmps69 Tryz.results69 fun B w0 ρ0=>?_
 exact az0 hm⟩
def XR (r1:Rng) (k2:ByteArray):Bool :=
 bnd (ZU r1) fun y3 =>
 sel (!y3) (
  bnd (Yu k2) fun y4 =>
  sel y4 (
   bnd (Zm r1.lo (Bnd.mk k2 false)) fun y5 =>
   sel (decide (y5≤0)) (
    bnd (Zm (Bnd.mk k2 false) r1.hi) fun y6 =>
    decide (y6<0)) (
    false)) (
   false)) (
  false)
instance ZiM {r1} {k2}:SpT (XR r1 k2) fun y=>Sp 213 [.a (Rng.vs r1),vS k2] [] (vB y) []:=⟨fun hm=>by
 refine si Tryz.func213 Tryz.ntmps213 Tryz.results213 fun B w0 ρ0=>?_
 exact az0 hm⟩
def Zao (r1:Kv):Bool :=
 bnd (Yu r1.key) fun y2 =>
 sel y2 (
  decide ((r1.val.size:Int)≤64)) (
  false)
instance Zli {r1}:SpT (Zao r1) fun y=>Sp 148 [.a [vS r1.key,vS r1.val]] [] (vB y) []:=⟨fun hm=>by
 refine si Tryz.func148 Tryz.ntmps148 Tryz.results148 fun B w0 ρ0=>?_
 exact az0 hm⟩
def Xm (t1:List Kv):List Kv→Int→Option (Ctl Bool Unit)
 | [],i =>
 some (Ctl.nxt ())
 | r2::xs3,i =>
 bnd (Zao r2) fun y5 =>
 sel (!y5) (
  some (Ctl.ret false)) (
  sel (decide (0<i)) (
   Zc (Yn t1 (Z6 (i - 1))) fun e6 =>
   sel (!bl e6.key r2.key) (
    some (Ctl.ret false)) (
    Xm t1 xs3 (i+1))) (
   Xm t1 xs3 (i+1)))
def ZbJ (t1:List Kv):Option Bool :=
 sel (decide (1024<(t1.length:Int))) (
  some false) (
  Zc (
   Xm t1 t1 0:Option (Ctl Bool Unit)) fun mu=>YB mu fun (_:Unit) =>
  some true)
instance Zoq {t1}:SpO (ZbJ t1) fun y=>Sp 91 [.d (lst Kv.ds t1)] [] (vB y) []:=⟨fun hm=>by
 refine si Tryz.func91 Tryz.ntmps91 Tryz.results91 fun B w0 ρ0=>?_
 refine co hm (fun hm=>?_) fun hm=>?_
 ·exact Yw hm
 refine sx ?_
 refine sr ?_
 refine jc0 hm [] [] [] (fun _ hm hm1=>?_) (fun hm=>?_)
 ·refine Zq ?_
  refine Zmi hm1 8 [0,8,9] [] (fun m4=>[(10,vI (m4:Int))]) (fun hlenm4 m4 r2 hltm4 hxm4 hm1=>?_) (fun m4 hm1=>?_)
  ·refine sx ?_
   refine sr ?_
   refine ZJ (Zdi hxm4 rfl rfl rfl rfl) rfl rfl rfl ?_
   refine ss ?_
   refine Zg ?_
   refine ZC (id:=6) [⟨0,0,[4]⟩,⟨1,1,[15]⟩,⟨2,3,[16]⟩,⟨3,7,[17]⟩,⟨4,15,[3,18]⟩,⟨5,31,[18,19]⟩,⟨6,63,[18,20]⟩,⟨7,127,[0,21]⟩,⟨8,127,[3,21]⟩,⟨9,383,[21,23]⟩,⟨10,1023,[21,22,24]⟩,⟨11,2047,[21,25]⟩,⟨12,4095,[21,26]⟩,⟨13,127,[4,21]⟩,⟨14,8319,[21,28]⟩,⟨15,32767,[21,27,29]⟩,⟨16,65535,[18,21,30]⟩,⟨17,131071,[18,31]⟩] mixed (by kernel_rfl) ?_
   refine bp hm1 fun y5 hm1=>?_
   refine co hm1 (fun hm1=>?_) fun hm1=>?_
   ·refine ss ?_
    refine Xi rfl ?_
    exact Zdt hm hm1
   refine co hm1 (fun hm1=>?_) fun hm1=>?_
   ·refine bo hm1 fun e6 hm1=>?_
    refine co hm1 (fun hm1=>?_) fun hm1=>?_
    ·exact Zdt hm hm1
    exact eb1 hm hm1
   refine ss ?_
   refine Yi rfl ?_
   exact eb1 hm hm1
  exact ZcD hm hm1
 exact Yw hm⟩
def Xp (r2:Rng):List Kv→List Kv→Option (List Kv)
 | [],out3 =>
 some out3
 | r4::xs5,out3 =>
 bnd (XR r2 r4.key) fun y7 =>
 sel y7 (
  Zc (app out3 ([r4]:List Kv)) fun l8 =>
  Xp r2 xs5 l8) (
  Xp r2 xs5 out3)
def ZaZ (t1:List Kv) (r2:Rng):Option (List Kv) :=
 Zc (
  Xp r2 t1 []:Option (List Kv)) fun out9 =>
 some out9
instance Zoa {t1} {r2}:SpO (ZaZ t1 r2) fun y=>Sp 172 [.d (lst Kv.ds t1),.a (Rng.vs r2)] [] (.d (lst Kv.ds y)) []:=⟨fun hm=>by
 refine si Tryz.func172 Tryz.ntmps172 Tryz.results172 fun B w0 ρ0=>?_
 refine sr ?_
 refine sr ?_
 refine sr ?_
 refine jo1 hm [] [] (fun out9=>[(5,.d (lst Kv.ds out9))]) (fun _ hm hm1=>?_) (fun out9 hm=>?_)
 ·refine Zq ?_
  refine ZbQ (ZbX 5 5001 154 2 rfl rfl) ?_
  refine lr1 hm1 8 [3,8,9] [103] (fun m6 out3=>[(5,.h 5001),(10,vI (m6:Int))]) (fun hlenm6 m6 out3 r4 hltm6 hxm6 hm1=>?_) (fun m6 out3 hm1=>?_) (B:=(fun m6 out3=>[(5001,some (YH 154 2 Kv.ds out3))]))
  ·refine bp hm1 fun y7 hm1=>?_
   refine co hm1 (fun hm1=>?_) fun hm1=>?_
   ·refine sr ?_
    refine XL Kv.ds [r4] rfl rfl (by simp only [Z8,Zn,List.cons_append,List.nil_append,List.append_nil]; exact rfl) rfl rfl rfl rfl rfl rfl ?_
    refine bo hm1 fun l8 hm1=>?_
    exact ZhJ [(103,103),(5001,121)] hm hm1
   exact eb1 hm hm1
  exact ZcD hm hm1
 exact Yw hm⟩
structure Zsz where
 Count:Int
 Numbers:Int
 Sum:Int
 Low:Int
 High:Int
 First:ByteArray
 Last:ByteArray
 deriving DecidableEq
def Zsz.ds (x:Zsz):List D:=[dI x.Count,dI x.Numbers,dI x.Sum,dI x.Low,dI x.High,dS x.First,dS x.Last]
instance : Len Zsz.ds 7:=⟨fun _=>rfl⟩
abbrev Zsz.vs (x:Zsz):List V:=[vI x.Count,vI x.Numbers,vI x.Sum,vI x.Low,vI x.High,vS x.First,vS x.Last]
structure Zlq where
 Count:Int
 Numbers:Int
 Sum:Int
 Low:Int
 High:Int
 First:ByteArray
 Last:ByteArray
 deriving DecidableEq
def Zlq.ds (x:Zlq):List D:=[dI x.Count,dI x.Numbers,dI x.Sum,dI x.Low,dI x.High,dS x.First,dS x.Last]
instance : Len Zlq.ds 7:=⟨fun _=>rfl⟩
abbrev Zlq.vs (x:Zlq):List V:=[vI x.Count,vI x.Numbers,vI x.Sum,vI x.Low,vI x.High,vS x.First,vS x.Last]
def ZaB (q1:Zj):Bool :=
 decide (q1.Kind=4)
instance ZoC {q1}:SpT (ZaB q1) fun y=>Sp 169 [.a (Zj.vs q1)] [] (vB y) []:=⟨fun hm=>by
 refine si Tryz.func169 Tryz.ntmps169 Tryz.results169 fun B w0 ρ0=>?_
 unfold ZaB at hm
 exact Yw hm⟩
def ZbU (kind1:Int):Bool :=
 sel (decide (kind1=3)) (
  true) (
  decide (kind1=4))
instance Zl7 {kind1}:SpT (ZbU kind1) fun y=>Sp 191 [vI kind1] [] (vB y) []:=⟨fun hm=>by
 refine si Tryz.func191 Tryz.ntmps191 Tryz.results191 fun B w0 ρ0=>?_
 exact az0 hm⟩
def Za9 (q1:Zj) (n2:Int):Bool :=
 bnd (ZbU q1.Kind) fun y3 =>
 sel y3 (
  decide (q1.Count≤n2)) (
  false)
instance Zmp {q1} {n2}:SpT (Za9 q1 n2) fun y=>Sp 208 [.a (Zj.vs q1),vI n2] [] (vB y) []:=⟨fun hm=>by
 refine si Tryz.func208 Tryz.ntmps208 Tryz.results208 fun B w0 ρ0=>?_
 exact az0 hm⟩
def Xh (l1:List Kv):Option (List Kv) :=
 Zc (app ([]:List Kv) l1) fun l2 =>
 some l2
instance ZhD {l1}:SpO (Xh l1) fun y=>Sp 92 [.d (lst Kv.ds l1)] [] (.d (lst Kv.ds y)) []:=⟨fun hm=>by
 refine si Tryz.func92 Tryz.ntmps92 Tryz.results92 fun B w0 ρ0=>?_
 exact az0 hm⟩
def Zap:List Rng→Ctl Int Unit
 | [] =>
 Ctl.nxt ()
 | r3::xs4 =>
 bnd (QY r3) fun y6 =>
 sel (!y6) (
  Ctl.ret 1) (
  Zap xs4)
def ZaU (q1:Zj):Int :=
 bnd (
  sel (decide (q1.Kind<1)) (
   true) (
   decide (4<q1.Kind)):Bool) fun x2 =>
 sel x2 (
  1) (
  sel (decide (64<(q1.Ranges.length:Int))) (
   3) (
   bnd (
    Zap q1.Ranges:Ctl Int Unit) fun mu=>Zqu mu fun (_:Unit) =>
   bnd (
    bnd (YA q1.Key) fun y7 =>
    sel (!y7) (
     true) (
     sel (decide (0<(q1.Ranges.length:Int))) (
      sel (!decide (q1.Kind=1)) (
       true) (
       sel (!decide (q1.Key=⟨#[]⟩)) (
        decide (q1.Kind=1)) (
        false))) (
      sel (!decide (q1.Key=⟨#[]⟩)) (
       decide (q1.Kind=1)) (
       false))):Bool) fun x8 =>
   sel x8 (
    1) (
    bnd (
     sel (decide (q1.Kind=3)) (
      true) (
      decide (q1.Kind=4)):Bool) fun counts9 =>
    sel counts9 (
     sel (decide (q1.Count<1)) (
      2) (
      sel (decide (1024<q1.Count)) (
       2) (
       sel (!counts9) (
        sel (!decide (q1.Count=0)) (
         2) (
         0)) (
        0)))) (
     sel (!counts9) (
      sel (!decide (q1.Count=0)) (
       2) (
       0)) (
      0)))))
instance Zod {q1}:SpT (ZaU q1) fun y=>Sp 78 [.a (Zj.vs q1)] [] (vI y) []:=⟨fun hm=>by
 refine si Tryz.func78 Tryz.ntmps78 Tryz.results78 fun B w0 ρ0=>?_
 refine sr ?_
 refine Zg ?_
 refine Zg ?_
 refine jp1 hm [1] [101] (fun x2=>[(13,vB x2)]) (fun _ hm hm1=>?_) (fun x2 hm=>?_)
 ·exact az1 hm hm1
 refine co hm (fun hm=>?_) fun hm=>?_
 ·exact Yw hm
 refine co hm (fun hm=>?_) fun hm=>?_
 ·exact Yw hm
 refine sx ?_
 refine sr ?_
 refine jd0 hm [1] [101] [] (fun _ hm hm1=>?_) (fun hm=>?_)
 ·refine Zq ?_
  refine lr0 hm1 19 [1,19,20] [101] (fun m5=>[(21,vI (m5:Int))]) (fun hlenm5 m5 r3 hltm5 hxm5 hm1=>?_) (fun m5 hm1=>?_)
  ·refine bp hm1 fun y6 hm1=>?_
   refine co hm1 (fun hm1=>?_) fun hm1=>?_
   ·exact Zdt hm hm1
   exact eb1 hm hm1
  exact ZcD hm hm1
 refine ss ?_
 refine Zg ?_
 refine Zg ?_
 refine jp1 hm [1] [101] (fun x8=>[(53,vB x8)]) (fun _ hm hm1=>?_) (fun x8 hm=>?_)
 ·exact az1 hm hm1
 refine co hm (fun hm=>?_) fun hm=>?_
 ·exact Yw hm
 refine sx ?_
 refine Zg ?_
 refine jp1 hm [1] [101] (fun counts9=>[(5,vB counts9)]) (fun _ hm hm1=>?_) (fun counts9 hm=>?_)
 ·exact az1 hm hm1
 refine co hm (fun hm=>?_) fun hm=>?_
 ·refine co hm (fun hm=>?_) fun hm=>?_
  ·refine ss ?_
   refine Xi rfl ?_
   exact Yw hm
  refine co hm (fun hm=>?_) fun hm=>?_
  ·refine ss ?_
   refine Xi rfl ?_
   exact Yw hm
  refine co hm (fun hm=>?_) fun hm=>?_
  ·exact az0 hm
  refine ss ?_
  refine Yi rfl ?_
  exact Yw hm
 refine co hm (fun hm=>?_) fun hm=>?_
 ·exact az0 hm
 refine ss ?_
 refine Yi rfl ?_
 exact Yw hm⟩
def QX (q1:Zj):Bool :=
 decide (q1.Kind=4)
instance ZoP {q1}:SpT (QX q1) fun y=>Sp 47 [.a (Zj.vs q1)] [] (vB y) []:=⟨fun hm=>by
 refine si Tryz.func47 Tryz.ntmps47 Tryz.results47 fun B w0 ρ0=>?_
 unfold QX at hm
 exact Yw hm⟩
def Zba (q1:Zj) (n2:Int):Bool :=
 sel (decide (q1.Kind=3)) (
  decide (q1.Count≤n2)) (
  sel (decide (q1.Kind=4)) (
   decide (q1.Count≤n2)) (
   false))
instance Zmq {q1} {n2}:SpT (Zba q1 n2) fun y=>Sp 161 [.a (Zj.vs q1),vI n2] [] (vB y) []:=⟨fun hm=>by
 refine si Tryz.func161 Tryz.ntmps161 Tryz.results161 fun B w0 ρ0=>?_
 exact az0 hm⟩
def ZaG (a1:Zj) (b2:Zj):List Rng→Int→Option (Ctl Bool Unit)
 | [],i =>
 some (Ctl.nxt ())
 | r4::xs5,i =>
 Zc (Yn a1.Ranges i) fun e7 =>
 Zc (Yn b2.Ranges i) fun e8 =>
 sel (!(decide (e7.lo.key=e8.lo.key) && decide (e7.lo.top=e8.lo.top) && decide (e7.hi.key=e8.hi.key) && decide (e7.hi.top=e8.hi.top))) (
  some (Ctl.ret false)) (
  ZaG a1 b2 xs5 (i+1))
def Zaz (a1:Zj) (b2:Zj):Option Bool :=
 Zc (
  sel (!decide (a1.Kind=b2.Kind)) (
   some true) (
   sel (!decide (a1.Key=b2.Key)) (
    some true) (
    sel (!decide (a1.Count=b2.Count)) (
     some true) (
     some (!decide ((a1.Ranges.length:Int)=(b2.Ranges.length:Int)))))):Option Bool) fun x3 =>
 sel x3 (
  some false) (
  Zc (
   ZaG a1 b2 a1.Ranges 0:Option (Ctl Bool Unit)) fun mu=>YB mu fun (_:Unit) =>
  some true)
instance ZoY {a1} {b2}:SpO (Zaz a1 b2) fun y=>Sp 143 [.a (Zj.vs a1),.a (Zj.vs b2)] [] (vB y) []:=⟨fun hm=>by
 refine si Tryz.func143 Tryz.ntmps143 Tryz.results143 fun B w0 ρ0=>?_
 refine sr ?_
 refine Zg ?_
 refine Zg ?_
 refine jo1 hm [2,3] [102,103] (fun x3=>[(33,vB x3)]) (fun _ hm hm1=>?_) (fun x3 hm=>?_)
 ·exact az1 hm hm1
 refine co hm (fun hm=>?_) fun hm=>?_
 ·exact Yw hm
 refine sx ?_
 refine sr ?_
 refine jc0 hm [] [] [] (fun _ hm hm1=>?_) (fun hm=>?_)
 ·refine Zq ?_
  refine Zmi hm1 35 [2,3,36] [102,103] (fun m6=>[(37,vI (m6:Int))]) (fun hlenm6 m6 r4 hltm6 hxm6 hm1=>?_) (fun m6 hm1=>?_)
  ·refine sx ?_
   refine sr ?_
   refine Zg ?_
   refine ZC (id:=6) [⟨0,0,[2]⟩,⟨1,1,[40]⟩,⟨2,0,[5]⟩,⟨3,7,[41,42]⟩,⟨4,15,[43]⟩,⟨5,0,[3]⟩,⟨6,32,[45]⟩,⟨7,0,[5]⟩,⟨8,224,[46,47]⟩,⟨9,480,[48]⟩,⟨10,1023,[44,49]⟩] mixed (by kernel_rfl) ?_
   refine ss ?_
   obtain ⟨e7,hy,hm1⟩:=ZK hm1
   refine Ye [] (ZhP (ys:=[dS e7.lo.key,dB e7.lo.top,dS e7.hi.key,dB e7.hi.top]) hy rfl rfl rfl rfl) rfl (by first | exact .no rfl | exact .y rfl rfl rfl rfl) rfl rfl ?_
   refine ss ?_
   obtain ⟨e8,hy,hm1⟩:=ZK hm1
   refine Ye [] (ZhP (ys:=[dS e8.lo.key,dB e8.lo.top,dS e8.hi.key,dB e8.hi.top]) hy rfl rfl rfl rfl) rfl (by first | exact .no rfl | exact .y rfl rfl rfl rfl) rfl rfl ?_
   refine co hm1 (fun hm1=>?_) fun hm1=>?_
   ·exact Zdt hm hm1
   exact eb1 hm hm1
  exact ZcD hm hm1
 exact Yw hm⟩
structure Zfl where
 Rows:List Kv
 Fold:Zlq
 deriving DecidableEq
def Zfl.ds (x:Zfl):List D:=[lst Kv.ds x.Rows,dI x.Fold.Count,dI x.Fold.Numbers,dI x.Fold.Sum,dI x.Fold.Low,dI x.Fold.High,dS x.Fold.First,dS x.Fold.Last]
instance : Len Zfl.ds 8:=⟨fun _=>rfl⟩
abbrev Zfl.vs (x:Zfl):List V:=[.d (lst Kv.ds x.Rows),vI x.Fold.Count,vI x.Fold.Numbers,vI x.Fold.Sum,vI x.Fold.Low,vI x.Fold.High,vS x.Fold.First,vS x.Fold.Last]
end Go.Proofs.YtkcmgbbopedacaaGreatDoor
