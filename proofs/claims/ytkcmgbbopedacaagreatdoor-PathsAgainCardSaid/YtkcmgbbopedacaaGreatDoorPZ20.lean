/-
  Lemmas: Models and walks
-/
import Derived.Test.YtkcmgbbopedacaaGreatDoorPZ18
import Derived.Test.YtkcmgbbopedacaaGreatDoorPZ19
set_option linter.unusedSimpArgs false
set_option linter.unusedVariables false
namespace Go.Proofs.YtkcmgbbopedacaaGreatDoor
open Go.RowKit
set_option maxRecDepth 100000
set_option maxHeartbeats 4000000
attribute [local irreducible] WK WC WL Wk Rel OpD OpV WD WO sel bnd Ze app YD lsl ZeM ssl ZhA Zhi Zi9 Zh4 Op.bytesLess
def YN (k1:ByteArray):Bool :=
 decide ((k1.size:Int)≤64)
instance Zkf {k1}:SpT (YN k1) fun y=>Sp 134 [vS k1] [] (vB y) []:=⟨fun hm=>by
 refine si Tryz.func134 Tryz.ntmps134 Tryz.results134 fun B w0 ρ0=>?_
 unfold YN at hm
 exact YF hm⟩
def Yr (b1:Bnd):Bool :=
 bnd (YN b1.key) fun y2 =>
 sel y2 (
  sel (!b1.top) (
   true) (
   decide (b1.key=⟨#[]⟩))) (
  false)
instance Zi5 {b1}:SpT (Yr b1) fun y=>Sp 70 [.a [vS b1.key,vB b1.top]] [] (vB y) []:=⟨fun hm=>by
 refine si Tryz.func70 Tryz.ntmps70 Tryz.results70 fun B w0 ρ0=>?_
 exact az0 hm⟩
def Zl (a1:Bnd) (b2:Bnd):Int :=
 bnd (
  sel a1.top (
   b2.top) (
   false):Bool) fun x3 =>
 sel x3 (
  0) (
  sel a1.top (
   1) (
   bnd (
    sel b2.top (
     true) (
     bl a1.key b2.key):Bool) fun x4 =>
   sel x4 (
    (-1)) (
    sel (bl b2.key a1.key) (
     1) (
     0))))
instance Zko {a1} {b2}:SpT (Zl a1 b2) fun y=>Sp 68 [.a [vS a1.key,vB a1.top],.a [vS b2.key,vB b2.top]] [] (vI y) []:=⟨fun hm=>by
 refine si Tryz.func68 Tryz.ntmps68 Tryz.results68 fun B w0 ρ0=>?_
 refine sr ?_
 refine Zg ?_
 refine Zm ?_
 refine Zg ?_
 refine jp1 hm [2,3] [102,103] (fun x3=>[(5,vB x3)]) (fun _ hm hm1=>?_) (fun x3 hm=>?_)
 ·exact az1 hm hm1
 refine co hm (fun hm=>?_) fun hm=>?_
 ·exact YF hm
 refine co hm (fun hm=>?_) fun hm=>?_
 ·exact YF hm
 refine Zg ?_
 refine jp1 hm [2,3] [102,103] (fun x4=>[(15,vB x4)]) (fun _ hm hm1=>?_) (fun x4 hm=>?_)
 ·exact az1 hm hm1
 exact az0 hm⟩
def Zba (r1:Rng):Bool :=
 bnd (Yr r1.lo) fun y2 =>
 sel y2 (
  bnd (Yr r1.hi) fun y3 =>
  sel y3 (
   bnd (Zl r1.lo r1.hi) fun y4 =>
   decide (y4≤0)) (
   false)) (
  false)
instance Zm4 {r1}:SpT (Zba r1) fun y=>Sp 133 [.a (Rng.vs r1)] [] (vB y) []:=⟨fun hm=>by
 refine si Tryz.func133 Tryz.ntmps133 Tryz.results133 fun B w0 ρ0=>?_
 exact az0 hm⟩
def ZV (r1:Rng):Bool :=
 bnd (Zba r1) fun y2 =>
 sel (!y2) (
  true) (
  bnd (Zl r1.lo r1.hi) fun y3 =>
  decide (y3=0))
instance Zm6 {r1}:SpT (ZV r1) fun y=>Sp 69 [.a (Rng.vs r1)] [] (vB y) []:=⟨fun hm=>by
 refine si Tryz.func69 Tryz.ntmps69 Tryz.results69 fun B w0 ρ0=>?_
 exact az0 hm⟩
def Qr (r1:Rng) (k2:ByteArray):Bool :=
 bnd (ZV r1) fun y3 =>
 sel (!y3) (
  bnd (YN k2) fun y4 =>
  sel y4 (
   bnd (Zl r1.lo (Bnd.mk k2 false)) fun y5 =>
   sel (decide (y5≤0)) (
    bnd (Zl (Bnd.mk k2 false) r1.hi) fun y6 =>
    decide (y6<0)) (
    false)) (
   false)) (
  false)
instance Zkg {r1} {k2}:SpT (Qr r1 k2) fun y=>Sp 213 [.a (Rng.vs r1),vS k2] [] (vB y) []:=⟨fun hm=>by
 refine si Tryz.func213 Tryz.ntmps213 Tryz.results213 fun B w0 ρ0=>?_
 exact az0 hm⟩
def Za3 (r1:Kv):Bool :=
 bnd (YN r1.key) fun y2 =>
 sel y2 (
  decide ((r1.val.size:Int)≤64)) (
  false)
instance ZmW {r1}:SpT (Za3 r1) fun y=>Sp 148 [.a [vS r1.key,vS r1.val]] [] (vB y) []:=⟨fun hm=>by
 refine si Tryz.func148 Tryz.ntmps148 Tryz.results148 fun B w0 ρ0=>?_
 exact az0 hm⟩
def XF (t1:List Kv):List Kv→Int→Option (Ctl Bool Unit)
 | [],i =>
 some (Ctl.nxt ())
 | r2::xs3,i =>
 bnd (Za3 r2) fun y5 =>
 sel (!y5) (
  some (Ctl.ret false)) (
  sel (decide (0<i)) (
   Ze (YD t1 (ZJ (i - 1))) fun e6 =>
   sel (!bl e6.key r2.key) (
    some (Ctl.ret false)) (
    XF t1 xs3 (i+1))) (
   XF t1 xs3 (i+1)))
def Zcr (t1:List Kv):Option Bool :=
 sel (decide (1024<(t1.length:Int))) (
  some false) (
  Ze (
   XF t1 t1 0:Option (Ctl Bool Unit)) fun mu=>Yz mu fun (_:Unit) =>
  some true)
instance ZqJ {t1}:SpO (Zcr t1) fun y=>Sp 91 [.d (lst Kv.ds t1)] [] (vB y) []:=⟨fun hm=>by
 refine si Tryz.func91 Tryz.ntmps91 Tryz.results91 fun B w0 ρ0=>?_
 refine co hm (fun hm=>?_) fun hm=>?_
 ·exact YF hm
 refine sx ?_
 refine sr ?_
 refine jc0 hm [] [] [] (fun _ hm hm1=>?_) (fun hm=>?_)
 ·refine Zm ?_
  refine Zrq hm1 8 [0,8,9] [] (fun m4=>[(10,vI (m4:Int))]) (fun hlenm4 m4 r2 hltm4 hxm4 hm1=>?_) (fun m4 hm1=>?_)
  ·refine sx ?_
   refine sr ?_
   refine ZL (Zc3 hxm4 rfl rfl rfl rfl) rfl rfl rfl ?_
   refine ss ?_
   refine Zg ?_
   refine Zy (id:=6) [⟨0,0,[4]⟩,⟨1,1,[15]⟩,⟨2,3,[16]⟩,⟨3,7,[17]⟩,⟨4,15,[3,18]⟩,⟨5,31,[18,19]⟩,⟨6,63,[18,20]⟩,⟨7,127,[0,21]⟩,⟨8,127,[3,21]⟩,⟨9,383,[21,23]⟩,⟨10,1023,[21,22,24]⟩,⟨11,2047,[21,25]⟩,⟨12,4095,[21,26]⟩,⟨13,127,[4,21]⟩,⟨14,8319,[21,28]⟩,⟨15,32767,[21,27,29]⟩,⟨16,65535,[18,21,30]⟩,⟨17,131071,[18,31]⟩] mixed (by kernel_rfl) ?_
   refine bp hm1 fun y5 hm1=>?_
   refine co hm1 (fun hm1=>?_) fun hm1=>?_
   ·refine ss ?_
    refine Xn rfl ?_
    exact ZcF hm hm1
   refine co hm1 (fun hm1=>?_) fun hm1=>?_
   ·refine bo hm1 fun e6 hm1=>?_
    refine co hm1 (fun hm1=>?_) fun hm1=>?_
    ·exact ZcF hm hm1
    exact eb1 hm hm1
   refine ss ?_
   refine Yf rfl ?_
   exact eb1 hm hm1
  exact ZbU hm hm1
 exact YF hm⟩
def XK (r2:Rng):List Kv→List Kv→Option (List Kv)
 | [],out3 =>
 some out3
 | r4::xs5,out3 =>
 bnd (Qr r2 r4.key) fun y7 =>
 sel y7 (
  Ze (app out3 ([r4]:List Kv)) fun l8 =>
  XK r2 xs5 l8) (
  XK r2 xs5 out3)
def ZaA (t1:List Kv) (r2:Rng):Option (List Kv) :=
 Ze (
  XK r2 t1 []:Option (List Kv)) fun out9 =>
 some out9
instance Zqz {t1} {r2}:SpO (ZaA t1 r2) fun y=>Sp 172 [.d (lst Kv.ds t1),.a (Rng.vs r2)] [] (.d (lst Kv.ds y)) []:=⟨fun hm=>by
 refine si Tryz.func172 Tryz.ntmps172 Tryz.results172 fun B w0 ρ0=>?_
 refine sr ?_
 refine sr ?_
 refine sr ?_
 refine jo1 hm [] [] (fun out9=>[(5,.d (lst Kv.ds out9))]) (fun _ hm hm1=>?_) (fun out9 hm=>?_)
 ·refine Zm ?_
  refine ZbW (ZbY 5 5001 154 2 rfl rfl) ?_
  refine lr1 hm1 8 [3,8,9] [103] (fun m6 out3=>[(5,.h 5001),(10,vI (m6:Int))]) (fun hlenm6 m6 out3 r4 hltm6 hxm6 hm1=>?_) (fun m6 out3 hm1=>?_) (B:=(fun m6 out3=>[(5001,some (YY 154 2 Kv.ds out3))]))
  ·refine bp hm1 fun y7 hm1=>?_
   refine co hm1 (fun hm1=>?_) fun hm1=>?_
   ·refine sr ?_
    refine Zaq Kv.ds [r4] rfl rfl (by simp only [YB,Zq,List.cons_append,List.nil_append,List.append_nil]; exact rfl) rfl rfl rfl rfl rfl rfl ?_
    refine bo hm1 fun l8 hm1=>?_
    exact Zh5 [(103,103),(5001,121)] hm hm1
   exact eb1 hm hm1
  exact ZbU hm hm1
 exact YF hm⟩
def Qz (digits5:ByteArray):Nat→Int→Nat→Option (Ctl (Int × Bool) Int)
 | 0,_,_=>none
 | fuel+1,n9,x10 =>
 sel (decide (x10<digits5.size)) (
  bnd (Utf8.decode digits5 x10) fun r11 =>
  Ze (
   sel (decide ((r11.1:Int)<48)) (
    some true) (
    some (decide (57<(r11.1:Int)))):Option Bool) fun x12 =>
  sel x12 (
   some (Ctl.ret (0,false))) (
   sel (decide (1000000000000<ZJ ((ZJ (n9 * 10))+(ZJ (IntKind.i32.wrap ((r11.1:Int) - 48)))))) (
    some (Ctl.ret (0,false))) (
    Qz digits5 fuel (ZJ ((ZJ (n9 * 10))+(ZJ (IntKind.i32.wrap ((r11.1:Int) - 48))))) (x10+r11.2)))) (
  some (Ctl.nxt n9))
def Zbz (value1:ByteArray):Option (Int × Bool) :=
 Ze (
  sel (decide (0<(value1.size:Int))) (
   Ze (ZeM value1 0) fun b2 =>
   some (decide (b2=45))) (
   some false):Option Bool) fun x3 =>
 Ze (
  sel x3 (
   Ze (ssl value1 1 (value1.size:Int)) fun s4 =>
   some (s4,true)) (
   some (value1,false)):Option (ByteArray × Bool)) fun (digits5,minus6) =>
 Ze (
  sel (decide (digits5=⟨#[]⟩)) (
   some true) (
   Ze (ZeM digits5 0) fun b7 =>
   sel (decide (b7=48)) (
    sel (decide (1<(digits5.size:Int))) (
     some true) (
     some minus6)) (
    some false)):Option Bool) fun x8 =>
 sel x8 (
  some (0,false)) (
  Ze (
   Qz digits5 FU 0 0:Option (Ctl (Int × Bool) Int)) fun mu=>Yz mu fun n13 =>
  sel minus6 (
   some (ZJ (-n13),true)) (
   some (n13,true)))
instance ZqA {value1}:SpO (Zbz value1) fun y=>Sp 246 [vS value1] [] (.t [vI y.1,vB y.2]) []:=⟨fun hm=>by
 refine si Tryz.func246 Tryz.ntmps246 Tryz.results246 fun B w0 ρ0=>?_
 refine sr ?_
 refine sr ?_
 refine Zg ?_
 refine Zg ?_
 refine jo1 hm [0,4,5] [] (fun x3=>[(17,vB x3)]) (fun _ hm hm1=>?_) (fun x3 hm=>?_)
 ·exact az1 hm hm1
 refine ss ?_
 refine jo2 hm [] [] (fun digits5 minus6=>[(4,vS digits5),(5,vB minus6)]) (fun _ hm hm1=>?_) (fun digits5 minus6 hm=>?_)
 ·exact az1 hm hm1
 refine ss ?_
 refine Zg ?_
 refine Zg ?_
 refine jo1 hm [4,5] [] (fun x8=>[(34,vB x8)]) (fun _ hm hm1=>?_) (fun x8 hm=>?_)
 ·exact az1 hm hm1
 refine co hm (fun hm=>?_) fun hm=>?_
 ·exact YF hm
 refine sx ?_
 refine sr ?_
 refine sr ?_
 refine Zlw (Zo1 (k:=136) rfl rfl rfl rfl (by kernel_rfl)) rfl rfl rfl rfl ?_
 refine ss ?_
 refine jc1 hm [5] [] (fun n13=>[(6,vI n13)]) (fun _ hm hm1=>?_) (fun n13 hm=>?_)
 ·refine Zm ?_
  refine lf2 hm1 [5,36] [] (fun n9 x10=>[(6,vI n9)]) (fun κ n9 x10 hm1=>?_) (B:=(fun n9 x10=>[(136,some (.ob (.stringIter digits5 x10)))]))
  refine sr ?_
  refine ZwH (p:=x10<digits5.size) (fun h=>?_) (fun h=>?_)
  ·replace hm1:=Zhq h hm1
   refine ss ?_
   obtain ⟨r11,hy,hm1⟩:=Zao hm1
   refine Zlw (lo:=0) (nn:=0) (ZmN rfl rfl rfl (of_decide_eq_true h) hy) rfl rfl rfl (QX _ _) ?_
   refine ss ?_
   refine Zg ?_
   refine Xn rfl ?_
   refine sx ?_
   refine sr ?_
   refine Zg ?_
   refine Zg ?_
   refine jo1 hm1 [5,6,8,36] [136] (fun x12=>[(45,vB x12)]) (fun _ hm1 hm2=>?_) (fun x12 hm1=>?_)
   ·exact az2 hm hm1 hm2
   refine co hm1 (fun hm1=>?_) fun hm1=>?_
   ·exact ZcF hm hm1
   refine sx ?_
   refine sr ?_
   refine ZL (Zne (k1:=.i32) (k2:=.i64) rfl rfl (by kernel_rfl) (by kernel_rfl) rfl) rfl rfl rfl ?_
   refine co hm1 (fun hm1=>?_) fun hm1=>?_
   ·exact ZcF hm hm1
   exact eb1 hm hm1
  replace hm1:=Zhn h hm1
  refine ZL (ZmP rfl rfl rfl (of_decide_eq_false h)) rfl rfl rfl ?_
  refine ss ?_
  refine Zg ?_
  refine Yf rfl ?_
  exact ZbU hm hm1
 exact az0 hm⟩
structure Zhj where
 Count:Int
 Numbers:Int
 Sum:Int
 Low:Int
 High:Int
 First:ByteArray
 Last:ByteArray
 deriving DecidableEq
def Zhj.ds (x:Zhj):List D:=[dI x.Count,dI x.Numbers,dI x.Sum,dI x.Low,dI x.High,dS x.First,dS x.Last]
instance : Len Zhj.ds 7:=⟨fun _=>rfl⟩
abbrev Zhj.vs (x:Zhj):List V:=[vI x.Count,vI x.Numbers,vI x.Sum,vI x.Low,vI x.High,vS x.First,vS x.Last]
def ZaW (s1:Zhj) (r2:Kv):Option Zhj :=
 Ze (
  sel (decide (s1.Count=0)) (
   some r2.key) (
   some s1.First):Option ByteArray) fun x3 =>
 Ze (Zbz r2.val) fun y4 =>
 sel (!y4.2) (
  some (Zhj.mk (ZJ (s1.Count+1)) s1.Numbers s1.Sum s1.Low s1.High x3 r2.key)) (
  Ze (
   sel (decide (s1.Numbers=0)) (
    some true) (
    some (decide (y4.1<s1.Low))):Option Bool) fun x5 =>
  Ze (
   sel x5 (
    some y4.1) (
    some s1.Low):Option Int) fun x6 =>
  Ze (
   sel (decide (s1.Numbers=0)) (
    some true) (
    some (decide (s1.High<y4.1))):Option Bool) fun x7 =>
  Ze (
   sel x7 (
    some y4.1) (
    some s1.High):Option Int) fun x8 =>
  some (Zhj.mk (ZJ (s1.Count+1)) (ZJ (s1.Numbers+1)) (ZJ (s1.Sum+y4.1)) x6 x8 x3 r2.key))
instance Zn8 {s1} {r2}:SpO (ZaW s1 r2) fun y=>Sp 241 [.p 0 0,.a [vS r2.key,vS r2.val]] [(0,some (.box 268 [vI s1.Count,vI s1.Numbers,vI s1.Sum,vI s1.Low,vI s1.High,vS s1.First,vS s1.Last]))] (.t []) ([(0,some (.box 268 [vI y.Count,vI y.Numbers,vI y.Sum,vI y.Low,vI y.High,vS y.First,vS y.Last]))]):=⟨fun hm=>by
 refine si Tryz.func241 Tryz.ntmps241 Tryz.results241 fun B w0 ρ0=>?_
 refine sr ?_
 refine sr ?_
 refine jo1 hm [0,3] [103] (fun x3=>[]) (fun _ hm hm1=>?_) (fun x3 hm=>?_) (B:=(fun x3=>[(0,some (.box 268 (Zhj.vs (Zhj.mk s1.Count s1.Numbers s1.Sum s1.Low s1.High x3 s1.Last))))]))
 ·exact az1 hm hm1
 refine bo hm fun y4 hm=>?_
 refine co hm (fun hm=>?_) fun hm=>?_
 ·exact YF hm
 refine sx ?_
 refine Zg ?_
 refine Zg ?_
 refine jo1 hm [0,4] [0] (fun x5=>[(48,vB x5)]) (fun _ hm hm1=>?_) (fun x5 hm=>?_)
 ·exact az1 hm hm1
 refine ss ?_
 refine jo1 hm [0,4] [] (fun x6=>[]) (fun _ hm hm1=>?_) (fun x6 hm=>?_) (B:=(fun x6=>[(0,some (.box 268 (Zhj.vs (Zhj.mk (ZJ (s1.Count+1)) s1.Numbers s1.Sum x6 s1.High x3 r2.key))))]))
 ·exact az1 hm hm1
 refine ss ?_
 refine Zg ?_
 refine Zg ?_
 refine jo1 hm [0,4] [0] (fun x7=>[(65,vB x7)]) (fun _ hm hm1=>?_) (fun x7 hm=>?_)
 ·exact az1 hm hm1
 refine ss ?_
 refine jo1 hm [0,4] [] (fun x8=>[]) (fun _ hm hm1=>?_) (fun x8 hm=>?_) (B:=(fun x8=>[(0,some (.box 268 (Zhj.vs (Zhj.mk (ZJ (s1.Count+1)) s1.Numbers s1.Sum x6 x8 x3 r2.key))))]))
 ·exact az1 hm hm1
 exact YF hm⟩
structure Y5 where
 Count:Int
 Numbers:Int
 Sum:Int
 Low:Int
 High:Int
 First:ByteArray
 Last:ByteArray
 deriving DecidableEq
def Y5.ds (x:Y5):List D:=[dI x.Count,dI x.Numbers,dI x.Sum,dI x.Low,dI x.High,dS x.First,dS x.Last]
instance : Len Y5.ds 7:=⟨fun _=>rfl⟩
abbrev Y5.vs (x:Y5):List V:=[vI x.Count,vI x.Numbers,vI x.Sum,vI x.Low,vI x.High,vS x.First,vS x.Last]
def Zde:List Kv→Int→Int→Int→Int→Int→ByteArray→ByteArray→Option (Int × Int × Int × Int × Int × ByteArray × ByteArray)
 | [],s2,s3,s4,s5,s6,s7,s8 =>
 some (s2,s3,s4,s5,s6,s7,s8)
 | r9::xs10,s2,s3,s4,s5,s6,s7,s8 =>
 Ze (ZaW (Zhj.mk s2 s3 s4 s5 s6 s7 s8) r9) fun y12 =>
 Zde xs10 y12.Count y12.Numbers y12.Sum y12.Low y12.High y12.First y12.Last
def Ze0 (rows1:List Kv):Option Y5 :=
 Ze (
  Zde rows1 0 0 0 0 0 ⟨#[]⟩ ⟨#[]⟩:Option (Int × Int × Int × Int × Int × ByteArray × ByteArray)) fun (s13,s14,s15,s16,s17,s18,s19) =>
 some (Y5.mk s13 s14 s15 s16 s17 s18 s19)
instance Zu9 {rows1}:SpO (Ze0 rows1) fun y=>Sp 229 [.d (lst Kv.ds rows1)] [] (.a (Y5.vs y)) []:=⟨fun hm=>by
 refine si Tryz.func229 Tryz.ntmps229 Tryz.results229 fun B w0 ρ0=>?_
 refine sr ?_
 refine sr ?_
 refine sr ?_
 refine jo7 hm [2,3] [102] (fun s13 s14 s15 s16 s17 s18 s19=>[]) (fun mu1 hm hm1=>?_) (fun s13 s14 s15 s16 s17 s18 s19 hm=>?_) (B:=(fun s13 s14 s15 s16 s17 s18 s19=>[(103,some (.box 268 (Zhj.vs (Zhj.mk s13 s14 s15 s16 s17 s18 s19))))]))
 ·refine Zm ?_
  refine lr7 hm1 6 [2,3,6,7] [102] (fun m11 s2 s3 s4 s5 s6 s7 s8=>[(8,vI (m11:Int))]) (fun hlenm11 m11 s2 s3 s4 s5 s6 s7 s8 r9 hltm11 hxm11 hm1=>?_) (fun m11 s2 s3 s4 s5 s6 s7 s8 hm1=>?_) (B:=(fun m11 s2 s3 s4 s5 s6 s7 s8=>[(103,some (.box 268 (Zhj.vs (Zhj.mk s2 s3 s4 s5 s6 s7 s8))))]))
  ·refine bo hm1 fun y12 hm1=>?_
   exact eb1 hm hm1
  exact ZbU hm hm1
 exact YF hm⟩
def Qe (s5:ByteArray):Nat→Int→Int→Option (Ctl (Int × Bool) Int)
 | 0,_,_=>none
 | fuel+1,n9,i10 =>
 Ze (
  sel (decide (i10<(s5.size:Int))) (
   some (Ctl.nxt ())) (
   some (Ctl.ret (Ctl.nxt n9))):Option (Ctl (Ctl (Int × Bool) Int) Unit)) fun mu=>Yz mu fun (_:Unit) =>
 Ze (
  Ze (ZeM s5 i10) fun b11 =>
  sel (decide (b11<48)) (
   some true) (
   Ze (ZeM s5 i10) fun b12 =>
   some (decide (57<b12))):Option Bool) fun x13 =>
 sel x13 (
  some (Ctl.ret (0,false))) (
  Ze (ZeM s5 i10) fun b14 =>
  Qe s5 fuel (ZJ ((ZJ (10 * n9))+(ZJ (IntKind.u8.wrap (b14 - 48))))) (ZJ (i10+1)))
def ZaR (value1:ByteArray):Option (Int × Bool) :=
 Ze (
  sel (decide (1<(value1.size:Int))) (
   Ze (ZeM value1 0) fun b2 =>
   some (decide (b2=45))) (
   some false):Option Bool) fun x3 =>
 Ze (
  sel x3 (
   Ze (ssl value1 1 (value1.size:Int)) fun s4 =>
   some (s4,true)) (
   some (value1,false)):Option (ByteArray × Bool)) fun (s5,neg6) =>
 Ze (
  sel (decide ((s5.size:Int)=0)) (
   some true) (
   sel (decide (13<(s5.size:Int))) (
    some true) (
    Ze (ZeM s5 0) fun b7 =>
    sel (decide (b7=48)) (
     sel (decide (1<(s5.size:Int))) (
      some true) (
      some neg6)) (
     some false))):Option Bool) fun x8 =>
 sel x8 (
  some (0,false)) (
  Ze (
   Qe s5 FU 0 0:Option (Ctl (Int × Bool) Int)) fun mu=>Yz mu fun n15 =>
  sel (decide (1000000000000<n15)) (
   some (0,false)) (
   sel neg6 (
    some (ZJ (-n15),true)) (
    some (n15,true))))
instance Zoa {value1}:SpO (ZaR value1) fun y=>Sp 206 [vS value1] [] (.t [vI y.1,vB y.2]) []:=⟨fun hm=>by
 refine si Tryz.func206 Tryz.ntmps206 Tryz.results206 fun B w0 ρ0=>?_
 refine sr ?_
 refine sr ?_
 refine Zg ?_
 refine Zg ?_
 refine jo1 hm [4,5] [] (fun x3=>[(16,vB x3)]) (fun _ hm hm1=>?_) (fun x3 hm=>?_)
 ·exact az1 hm hm1
 refine ss ?_
 refine jo2 hm [] [] (fun s5 neg6=>[(4,vS s5),(5,vB neg6)]) (fun _ hm hm1=>?_) (fun s5 neg6 hm=>?_)
 ·exact az1 hm hm1
 refine ss ?_
 refine Zg ?_
 refine Zg ?_
 refine jo1 hm [4,5] [] (fun x8=>[(39,vB x8)]) (fun _ hm hm1=>?_) (fun x8 hm=>?_)
 ·exact az1 hm hm1
 refine co hm (fun hm=>?_) fun hm=>?_
 ·exact YF hm
 refine sx ?_
 refine sr ?_
 refine sr ?_
 refine jc1 hm [5] [] (fun n15=>[(6,vI n15)]) (fun _ hm hm1=>?_) (fun n15 hm=>?_)
 ·refine Zm ?_
  refine lf2 hm1 [4,5] [] (fun n9 i10=>[(6,vI n9),(7,vI i10)]) (fun κ n9 i10 hm1=>?_)
  refine sr ?_
  refine jc0 hm1 [4,5,6,7] [] [] (fun _ hm1 hm2=>?_) (fun hm1=>?_)
  ·exact az2 hm hm1 hm2
  refine ss ?_
  refine Zg ?_
  refine Zm ?_
  refine Zg ?_
  refine Zg ?_
  refine jo1 hm1 [4,5,6,7] [] (fun x13=>[(55,vB x13)]) (fun _ hm1 hm2=>?_) (fun x13 hm1=>?_)
  ·exact az2 hm hm1 hm2
  refine co hm1 (fun hm1=>?_) fun hm1=>?_
  ·exact ZcF hm hm1
  refine bo hm1 fun b14 hm1=>?_
  refine ss ?_
  refine ZL (Zne (k1:=.u8) (k2:=.i64) rfl rfl (by kernel_rfl) (by kernel_rfl) rfl) rfl rfl rfl ?_
  refine ss ?_
  refine ZL (YZ rfl rfl rfl rfl) rfl rfl rfl ?_
  refine sr ?_
  refine ZL (YZ rfl rfl rfl rfl) rfl rfl rfl ?_
  refine ss ?_
  exact eb1 hm hm1
 exact az0 hm⟩
def ZcO (r1:Kv):Option Y5 :=
 Ze (ZaR r1.val) fun y2 =>
 sel y2.2 (
  some (Y5.mk 1 1 y2.1 y2.1 y2.1 r1.key r1.key)) (
  some (Y5.mk 1 0 0 0 0 r1.key r1.key))
instance ZsX {r1}:SpO (ZcO r1) fun y=>Sp 157 [.a [vS r1.key,vS r1.val]] [] (.a (Y5.vs y)) []:=⟨fun hm=>by
 refine si Tryz.func157 Tryz.ntmps157 Tryz.results157 fun B w0 ρ0=>?_
 exact az0 hm⟩
def Zb6 (a1:Y5) (b2:Y5):Y5 :=
 bnd (
  sel (decide (b2.Numbers=0)) (
   (a1.Low,a1.High)) (
   (min a1.Low b2.Low,max a1.High b2.High)):(Int × Int)) fun (f3,f4) =>
 bnd (
  sel (decide (a1.Numbers=0)) (
   (b2.Low,b2.High)) (
   (f3,f4)):(Int × Int)) fun (f5,f6) =>
 bnd (
  sel (decide (a1.Count=0)) (
   b2.First) (
   a1.First):ByteArray) fun f7 =>
 sel (decide (b2.Count=0)) (
  (Y5.mk (ZJ (a1.Count+b2.Count)) (ZJ (a1.Numbers+b2.Numbers)) (ZJ (a1.Sum+b2.Sum)) f5 f6 f7 a1.Last)) (
  (Y5.mk (ZJ (a1.Count+b2.Count)) (ZJ (a1.Numbers+b2.Numbers)) (ZJ (a1.Sum+b2.Sum)) f5 f6 f7 b2.Last))
instance Zq9 {a1} {b2}:SpT (Zb6 a1 b2) fun y=>Sp 156 [.a (Y5.vs a1),.a (Y5.vs b2)] [] (.a (Y5.vs y)) []:=⟨fun hm=>by
 refine si Tryz.func156 Tryz.ntmps156 Tryz.results156 fun B w0 ρ0=>?_
 refine sr ?_
 refine sr ?_
 refine ZL (YZ rfl rfl rfl rfl) rfl rfl rfl ?_
 refine ss ?_
 refine ZL (YZ rfl rfl rfl rfl) rfl rfl rfl ?_
 refine ss ?_
 refine ZL (YZ rfl rfl rfl rfl) rfl rfl rfl ?_
 refine sr ?_
 refine jp2 hm [2,3,4,5] [102,103,104] (fun f3 f4=>[]) (fun _ hm hm1=>?_) (fun f3 f4 hm=>?_) (B:=(fun f3 f4=>[(105,some (.box 78 (Y5.vs (Y5.mk (ZJ (a1.Count+b2.Count)) (ZJ (a1.Numbers+b2.Numbers)) (ZJ (a1.Sum+b2.Sum)) f3 f4 a1.First b2.Last))))]))
 ·refine co hm1 (fun hm1=>?_) fun hm1=>?_
  ·refine Zy (id:=3) [⟨0,0,[2]⟩,⟨1,1,[39]⟩,⟨2,0,[2]⟩,⟨3,4,[41]⟩,⟨4,3,[5]⟩,⟨5,19,[40,43]⟩,⟨6,63,[5]⟩,⟨7,127,[42,44]⟩] mixed (by kernel_rfl) ?_
   exact ZbU hm hm1
  exact ZbU hm hm1
 refine sr ?_
 refine jp2 hm [2,3,4,5] [102,103,104] (fun f5 f6=>[]) (fun _ hm hm1=>?_) (fun f5 f6 hm=>?_) (B:=(fun f5 f6=>[(105,some (.box 78 (Y5.vs (Y5.mk (ZJ (a1.Count+b2.Count)) (ZJ (a1.Numbers+b2.Numbers)) (ZJ (a1.Sum+b2.Sum)) f5 f6 a1.First b2.Last))))]))
 ·refine co hm1 (fun hm1=>?_) fun hm1=>?_
  ·refine Zy (id:=5) [⟨0,0,[3]⟩,⟨1,1,[48]⟩,⟨2,0,[3]⟩,⟨3,4,[50]⟩,⟨4,3,[5]⟩,⟨5,19,[49,52]⟩,⟨6,63,[5]⟩,⟨7,127,[51,53]⟩] mixed (by kernel_rfl) ?_
   exact ZbU hm hm1
  exact ZbU hm hm1
 refine sr ?_
 refine jp1 hm [2,3,4,5] [102,103,104] (fun f7=>[]) (fun _ hm hm1=>?_) (fun f7 hm=>?_) (B:=(fun f7=>[(105,some (.box 78 (Y5.vs (Y5.mk (ZJ (a1.Count+b2.Count)) (ZJ (a1.Numbers+b2.Numbers)) (ZJ (a1.Sum+b2.Sum)) f5 f6 f7 b2.Last))))]))
 ·exact az1 hm hm1
 exact az0 hm⟩
def Zck:List Kv→Int→Int→Int→Int→Int→ByteArray→ByteArray→Option (Int × Int × Int × Int × Int × ByteArray × ByteArray)
 | [],f2,f3,f4,f5,f6,f7,f8 =>
 some (f2,f3,f4,f5,f6,f7,f8)
 | r9::xs10,f2,f3,f4,f5,f6,f7,f8 =>
 Ze (ZcO r9) fun y12 =>
 bnd (Zb6 (Y5.mk f2 f3 f4 f5 f6 f7 f8) y12) fun y13 =>
 Zck xs10 y13.Count y13.Numbers y13.Sum y13.Low y13.High y13.First y13.Last
def ZaM (rows1:List Kv):Option Y5 :=
 Ze (
  Zck rows1 0 0 0 0 0 ⟨#[]⟩ ⟨#[]⟩:Option (Int × Int × Int × Int × Int × ByteArray × ByteArray)) fun (f14,f15,f16,f17,f18,f19,f20) =>
 some (Y5.mk f14 f15 f16 f17 f18 f19 f20)
instance ZtP {rows1}:SpO (ZaM rows1) fun y=>Sp 100 [.d (lst Kv.ds rows1)] [] (.a (Y5.vs y)) []:=⟨fun hm=>by
 refine si Tryz.func100 Tryz.ntmps100 Tryz.results100 fun B w0 ρ0=>?_
 refine sr ?_
 refine sr ?_
 refine sr ?_
 refine jo7 hm [2,3] [102] (fun f14 f15 f16 f17 f18 f19 f20=>[]) (fun mu1 hm hm1=>?_) (fun f14 f15 f16 f17 f18 f19 f20 hm=>?_) (B:=(fun f14 f15 f16 f17 f18 f19 f20=>[(103,some (.box 78 (Y5.vs (Y5.mk f14 f15 f16 f17 f18 f19 f20))))]))
 ·refine Zm ?_
  refine lr7 hm1 6 [2,3,6,7] [102] (fun m11 f2 f3 f4 f5 f6 f7 f8=>[(8,vI (m11:Int))]) (fun hlenm11 m11 f2 f3 f4 f5 f6 f7 f8 r9 hltm11 hxm11 hm1=>?_) (fun m11 f2 f3 f4 f5 f6 f7 f8 hm1=>?_) (B:=(fun m11 f2 f3 f4 f5 f6 f7 f8=>[(103,some (.box 78 (Y5.vs (Y5.mk f2 f3 f4 f5 f6 f7 f8))))]))
  ·refine sx ?_
   refine sr ?_
   refine ZL (Zc3 hxm11 rfl rfl rfl rfl) rfl rfl rfl ?_
   refine ss ?_
   refine Zy (id:=5) [⟨0,0,[3]⟩,⟨1,0,[5]⟩,⟨2,2,[13]⟩,⟨3,7,[12,14]⟩,⟨4,15,[3,15]⟩] mixed (by kernel_rfl) ?_
   refine bo hm1 fun y12 hm1=>?_
   refine bp hm1 fun y13 hm1=>?_
   exact eb1 hm hm1
  exact ZbU hm hm1
 exact YF hm⟩
def Qt (q1:Zf):Bool :=
 decide (q1.Kind=4)
instance ZqY {q1}:SpT (Qt q1) fun y=>Sp 169 [.a (Zf.vs q1)] [] (vB y) []:=⟨fun hm=>by
 refine si Tryz.func169 Tryz.ntmps169 Tryz.results169 fun B w0 ρ0=>?_
 unfold Qt at hm
 exact YF hm⟩
def ZcD (kind1:Int):Bool :=
 sel (decide (kind1=3)) (
  true) (
  decide (kind1=4))
instance ZnR {kind1}:SpT (ZcD kind1) fun y=>Sp 191 [vI kind1] [] (vB y) []:=⟨fun hm=>by
 refine si Tryz.func191 Tryz.ntmps191 Tryz.results191 fun B w0 ρ0=>?_
 exact az0 hm⟩
def ZaQ (q1:Zf) (n2:Int):Bool :=
 bnd (ZcD q1.Kind) fun y3 =>
 sel y3 (
  decide (q1.Count≤n2)) (
  false)
instance Zom {q1} {n2}:SpT (ZaQ q1 n2) fun y=>Sp 208 [.a (Zf.vs q1),vI n2] [] (vB y) []:=⟨fun hm=>by
 refine si Tryz.func208 Tryz.ntmps208 Tryz.results208 fun B w0 ρ0=>?_
 exact az0 hm⟩
def Z9 (l1:List Kv):Option (List Kv) :=
 Ze (app ([]:List Kv) l1) fun l2 =>
 some l2
instance Zi4 {l1}:SpO (Z9 l1) fun y=>Sp 92 [.d (lst Kv.ds l1)] [] (.d (lst Kv.ds y)) []:=⟨fun hm=>by
 refine si Tryz.func92 Tryz.ntmps92 Tryz.results92 fun B w0 ρ0=>?_
 exact az0 hm⟩
def Zdj (q1:Zf) (rows2:List Kv):Option (List Kv) :=
 sel (decide (q1.Kind=3)) (
  Ze (lsl rows2 0 (min (max q1.Count 0) (rows2.length:Int))) fun l3 =>
  Ze (Z9 l3) fun y4 =>
  some y4) (
  sel (decide (q1.Kind=4)) (
   Ze (lsl rows2 (ZJ ((rows2.length:Int) - (min (max q1.Count 0) (rows2.length:Int)))) (rows2.length:Int)) fun l5 =>
   Ze (Z9 l5) fun y6 =>
   some y6) (
   Ze (Z9 rows2) fun y7 =>
   some y7))
instance Zrj {q1} {rows2}:SpO (Zdj q1 rows2) fun y=>Sp 227 [.a (Zf.vs q1),.d (lst Kv.ds rows2)] [] (.d (lst Kv.ds y)) []:=⟨fun hm=>by
 refine si Tryz.func227 Tryz.ntmps227 Tryz.results227 fun B w0 ρ0=>?_
 exact az0 hm⟩
def Za5:List Rng→Ctl Int Unit
 | [] =>
 Ctl.nxt ()
 | r3::xs4 =>
 bnd (Zau r3) fun y6 =>
 sel (!y6) (
  Ctl.ret 1) (
  Za5 xs4)
def XT (q1:Zf):Int :=
 bnd (
  sel (decide (q1.Kind<1)) (
   true) (
   decide (4<q1.Kind)):Bool) fun x2 =>
 sel x2 (
  1) (
  sel (decide (64<(q1.Ranges.length:Int))) (
   3) (
   bnd (
    Za5 q1.Ranges:Ctl Int Unit) fun mu=>Zs5 mu fun (_:Unit) =>
   bnd (
    bnd (YT q1.Key) fun y7 =>
    sel (!y7) (
     true) (
     sel (decide (0<(q1.Ranges.length:Int))) (
      sel (!decide (q1.Kind=1)) (
       true) (
       sel (!decide (q1.Key=⟨#[]⟩)) (
        decide (q1.Kind=1)) (
        false))) (
      sel (!decide (q1.Key=⟨#[]⟩)) (
       decide (q1.Kind=1)) (
       false))):Bool) fun x8 =>
   sel x8 (
    1) (
    bnd (
     sel (decide (q1.Kind=3)) (
      true) (
      decide (q1.Kind=4)):Bool) fun counts9 =>
    sel counts9 (
     sel (decide (q1.Count<1)) (
      2) (
      sel (decide (1024<q1.Count)) (
       2) (
       sel (!counts9) (
        sel (!decide (q1.Count=0)) (
         2) (
         0)) (
        0)))) (
     sel (!counts9) (
      sel (!decide (q1.Count=0)) (
       2) (
       0)) (
      0)))))
instance ZqP {q1}:SpT (XT q1) fun y=>Sp 78 [.a (Zf.vs q1)] [] (vI y) []:=⟨fun hm=>by
 refine si Tryz.func78 Tryz.ntmps78 Tryz.results78 fun B w0 ρ0=>?_
 refine sr ?_
 refine Zg ?_
 refine Zg ?_
 refine jp1 hm [1] [101] (fun x2=>[(13,vB x2)]) (fun _ hm hm1=>?_) (fun x2 hm=>?_)
 ·exact az1 hm hm1
 refine co hm (fun hm=>?_) fun hm=>?_
 ·exact YF hm
 refine co hm (fun hm=>?_) fun hm=>?_
 ·exact YF hm
 refine sx ?_
 refine sr ?_
 refine jd0 hm [1] [101] [] (fun _ hm hm1=>?_) (fun hm=>?_)
 ·refine Zm ?_
  refine lr0 hm1 19 [1,19,20] [101] (fun m5=>[(21,vI (m5:Int))]) (fun hlenm5 m5 r3 hltm5 hxm5 hm1=>?_) (fun m5 hm1=>?_)
  ·refine bp hm1 fun y6 hm1=>?_
   refine co hm1 (fun hm1=>?_) fun hm1=>?_
   ·exact ZcF hm hm1
   exact eb1 hm hm1
  exact ZbU hm hm1
 refine ss ?_
 refine Zg ?_
 refine Zg ?_
 refine jp1 hm [1] [101] (fun x8=>[(53,vB x8)]) (fun _ hm hm1=>?_) (fun x8 hm=>?_)
 ·exact az1 hm hm1
 refine co hm (fun hm=>?_) fun hm=>?_
 ·exact YF hm
 refine sx ?_
 refine Zg ?_
 refine jp1 hm [1] [101] (fun counts9=>[(5,vB counts9)]) (fun _ hm hm1=>?_) (fun counts9 hm=>?_)
 ·exact az1 hm hm1
 refine co hm (fun hm=>?_) fun hm=>?_
 ·refine co hm (fun hm=>?_) fun hm=>?_
  ·refine ss ?_
   refine Xn rfl ?_
   exact YF hm
  refine co hm (fun hm=>?_) fun hm=>?_
  ·refine ss ?_
   refine Xn rfl ?_
   exact YF hm
  refine co hm (fun hm=>?_) fun hm=>?_
  ·exact az0 hm
  refine ss ?_
  refine Yf rfl ?_
  exact YF hm
 refine co hm (fun hm=>?_) fun hm=>?_
 ·exact az0 hm
 refine ss ?_
 refine Yf rfl ?_
 exact YF hm⟩
def X0 (q1:Zf):Bool :=
 decide (q1.Kind=4)
instance Zrb {q1}:SpT (X0 q1) fun y=>Sp 47 [.a (Zf.vs q1)] [] (vB y) []:=⟨fun hm=>by
 refine si Tryz.func47 Tryz.ntmps47 Tryz.results47 fun B w0 ρ0=>?_
 unfold X0 at hm
 exact YF hm⟩
def Zb2 (q1:Zf) (rows2:List Kv):Option (List Kv) :=
 sel (decide (q1.Kind=3)) (
  Ze (lsl rows2 0 (max 0 (min q1.Count (rows2.length:Int)))) fun l3 =>
  Ze (app ([]:List Kv) l3) fun l4 =>
  some l4) (
  sel (decide (q1.Kind=4)) (
   Ze (lsl rows2 (ZJ ((rows2.length:Int) - (max 0 (min q1.Count (rows2.length:Int))))) (rows2.length:Int)) fun l5 =>
   Ze (app ([]:List Kv) l5) fun l6 =>
   some l6) (
   Ze (app ([]:List Kv) rows2) fun l7 =>
   some l7))
instance Zrn {q1} {rows2}:SpO (Zb2 q1 rows2) fun y=>Sp 99 [.a (Zf.vs q1),.d (lst Kv.ds rows2)] [] (.d (lst Kv.ds y)) []:=⟨fun hm=>by
 refine si Tryz.func99 Tryz.ntmps99 Tryz.results99 fun B w0 ρ0=>?_
 exact az0 hm⟩
def ZaU (q1:Zf) (n2:Int):Bool :=
 sel (decide (q1.Kind=3)) (
  decide (q1.Count≤n2)) (
  sel (decide (q1.Kind=4)) (
   decide (q1.Count≤n2)) (
   false))
instance Zoe {q1} {n2}:SpT (ZaU q1 n2) fun y=>Sp 161 [.a (Zf.vs q1),vI n2] [] (vB y) []:=⟨fun hm=>by
 refine si Tryz.func161 Tryz.ntmps161 Tryz.results161 fun B w0 ρ0=>?_
 exact az0 hm⟩
structure Yq where
 Rows:List Kv
 Fold:Y5
 deriving DecidableEq
def Yq.ds (x:Yq):List D:=[lst Kv.ds x.Rows,dI x.Fold.Count,dI x.Fold.Numbers,dI x.Fold.Sum,dI x.Fold.Low,dI x.Fold.High,dS x.Fold.First,dS x.Fold.Last]
instance : Len Yq.ds 8:=⟨fun _=>rfl⟩
abbrev Yq.vs (x:Yq):List V:=[.d (lst Kv.ds x.Rows),vI x.Fold.Count,vI x.Fold.Numbers,vI x.Fold.Sum,vI x.Fold.Low,vI x.Fold.High,vS x.Fold.First,vS x.Fold.Last]
def XM (a1:Yq) (b2:Yq):Option Bool :=
 Ze (Zb4 a1.Rows b2.Rows) fun y3 =>
 sel y3 (
  some (decide (a1.Fold.Count=b2.Fold.Count) && decide (a1.Fold.Numbers=b2.Fold.Numbers) && decide (a1.Fold.Sum=b2.Fold.Sum) && decide (a1.Fold.Low=b2.Fold.Low) && decide (a1.Fold.High=b2.Fold.High) && decide (a1.Fold.First=b2.Fold.First) && decide (a1.Fold.Last=b2.Fold.Last))) (
  some false)
instance Zkp {a1} {b2}:SpO (XM a1 b2) fun y=>Sp 40 [.a (Yq.vs a1),.a (Yq.vs b2)] [] (vB y) []:=⟨fun hm=>by
 refine si Tryz.func40 Tryz.ntmps40 Tryz.results40 fun B w0 ρ0=>?_
 exact az0 hm⟩
end Go.Proofs.YtkcmgbbopedacaaGreatDoor
