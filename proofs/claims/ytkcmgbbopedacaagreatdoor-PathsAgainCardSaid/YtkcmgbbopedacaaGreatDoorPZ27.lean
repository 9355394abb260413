/-
  Lemmas: Models and walks
-/
import Derived.Test.YtkcmgbbopedacaaGreatDoorPZ18
import Derived.Test.YtkcmgbbopedacaaGreatDoorPZ23
set_option linter.unusedSimpArgs false
set_option linter.unusedVariables false
namespace Go.Proofs.YtkcmgbbopedacaaGreatDoor
open Go.RowKit
set_option maxRecDepth 100000
set_option maxHeartbeats 4000000
attribute [local irreducible] WK WC WL Wk Rel OpD OpV WD WO sel bnd Ze app YD lsl ZeM ssl ZhA Zhi Zi9 Zh4 Op.bytesLess
attribute [local irreducible] ZcE Yi union
def Zdp (n1:Int):Bool :=
 sel (decide (1≤n1)) (
  decide (n1≤1099511627776)) (
  false)
instance Zoi {n1}:SpT (Zdp n1) fun y=>Sp 205 [vI n1] [] (vB y) []:=⟨fun hm=>by
 refine si Tryz.func205 Tryz.ntmps205 Tryz.results205 fun B w0 ρ0=>?_
 exact az0 hm⟩
def ZcY (w1:ZaD):Bool :=
 bnd (YT w1.Key) fun y2 =>
 sel y2 (
  sel (decide ((w1.Value.size:Int)≤64)) (
   sel (!w1.Delete) (
    true) (
    decide (w1.Value=⟨#[]⟩))) (
   false)) (
  false)
instance Zkm {w1}:SpT (ZcY w1) fun y=>Sp 163 [.a (ZaD.vs w1)] [] (vB y) []:=⟨fun hm=>by
 refine si Tryz.func163 Tryz.ntmps163 Tryz.results163 fun B w0 ρ0=>?_
 exact az0 hm⟩
def Zdx (p1:ZcG):Option Bool :=
 bnd (Zdp p1.Serial) fun y2 =>
 sel y2 (
  bnd (Y6 p1.From) fun y3 =>
  sel y3 (
   bnd (Y6 p1.To) fun y4 =>
   sel y4 (
    sel (!decide (p1.From=p1.To)) (
     bnd (Qv p1.Stamp) fun y5 =>
     sel y5 (
      bnd (ZU p1.Range) fun y6 =>
      sel (!y6) (
       Ze (Y7 p1.Rows) fun y7 =>
       sel y7 (
        bnd (Xo p1.Rows p1.Range) fun y8 =>
        some y8) (
        some false)) (
       some false)) (
      some false)) (
     some false)) (
    some false)) (
   some false)) (
  some false)
instance Zlq {p1}:SpO (Zdx p1) fun y=>Sp 231 [.a (ZcG.vs p1)] [] (vB y) []:=⟨fun hm=>by
 refine si Tryz.func231 Tryz.ntmps231 Tryz.results231 fun B w0 ρ0=>?_
 exact az0 hm⟩
def Zcq (p1:ZcG) (r2:Rng):Option Bool :=
 sel (decide (p1.Serial=0)) (
  some true) (
  Ze (Zdx p1) fun y3 =>
  sel y3 (
   bnd (XH p1.Range r2) fun y4 =>
   bnd (ZU y4) fun y5 =>
   some y5) (
   some false))
instance ZqT {p1} {r2}:SpO (Zcq p1 r2) fun y=>Sp 203 [.a (ZcG.vs p1),.a (Rng.vs r2)] [] (vB y) []:=⟨fun hm=>by
 refine si Tryz.func203 Tryz.ntmps203 Tryz.results203 fun B w0 ρ0=>?_
 exact az0 hm⟩
def ZdZ (c1:ZcH):List ZaD→Option (Ctl Bool Unit)
 | [] =>
 some (Ctl.nxt ())
 | r13::xs14 =>
 bnd (ZcY r13) fun y16 =>
 sel (!y16) (
  some (Ctl.ret false)) (
  bnd (Xz c1.Range r13.Key) fun y17 =>
  sel (!y17) (
   some (Ctl.ret false)) (
   ZdZ c1 xs14))
def Zcl (c1:ZcH):Option Bool :=
 Ze (
  bnd (Zau c1.Range) fun y2 =>
  sel (!y2) (
   some true) (
   bnd (Qv c1.Stamp) fun y3 =>
   sel (!y3) (
    some true) (
    Ze (Y7 c1.Rows) fun y4 =>
    sel (!y4) (
     some true) (
     bnd (Xo c1.Rows c1.Range) fun y5 =>
     some (!y5)))):Option Bool) fun x6 =>
 sel x6 (
  some false) (
  Ze (
   sel (decide (64<(c1.Pending.length:Int))) (
    some true) (
    sel (decide (1024<ZJ ((c1.Rows.length:Int)+(c1.Pending.length:Int)))) (
     some true) (
     Ze (Zcq c1.Out c1.Range) fun y7 =>
     sel (!y7) (
      some true) (
      Ze (Zcq c1.In c1.Range) fun y8 =>
      some (!y8)))):Option Bool) fun x9 =>
  sel x9 (
   some false) (
   Ze (
    sel (!decide (c1.Out.Serial=0)) (
     sel (!decide (c1.In.Serial=0)) (
      bnd (XH c1.Out.Range c1.In.Range) fun y10 =>
      bnd (ZU y10) fun y11 =>
      some (!y11)) (
      some false)) (
     some false):Option Bool) fun x12 =>
   sel x12 (
    some false) (
    Ze (
     ZdZ c1 c1.Pending:Option (Ctl Bool Unit)) fun mu=>Yz mu fun (_:Unit) =>
    sel (decide (c1.Took=0)) (
     some (decide (c1.From=0))) (
     bnd (Zdp c1.Took) fun y18 =>
     sel y18 (
      bnd (Y6 c1.From) fun y19 =>
      some y19) (
      some false)))))
instance ZqH {c1}:SpO (Zcl c1) fun y=>Sp 154 [.a (ZcH.vs c1)] [] (vB y) []:=⟨fun hm=>by
 refine si Tryz.func154 Tryz.ntmps154 Tryz.results154 fun B w0 ρ0=>?_
 refine sr ?_
 refine Zg ?_
 refine Zg ?_
 refine jo1 hm [1] [101] (fun x6=>[(28,vB x6)]) (fun _ hm hm1=>?_) (fun x6 hm=>?_)
 ·exact az1 hm hm1
 refine co hm (fun hm=>?_) fun hm=>?_
 ·exact YF hm
 refine sx ?_
 refine Zg ?_
 refine Zg ?_
 refine jo1 hm [1] [101] (fun x9=>[(58,vB x9)]) (fun _ hm hm1=>?_) (fun x9 hm=>?_)
 ·exact az1 hm hm1
 refine co hm (fun hm=>?_) fun hm=>?_
 ·exact YF hm
 refine sx ?_
 refine Zg ?_
 refine Zg ?_
 refine jo1 hm [1] [101] (fun x12=>[(79,vB x12)]) (fun _ hm hm1=>?_) (fun x12 hm=>?_)
 ·exact az1 hm hm1
 refine co hm (fun hm=>?_) fun hm=>?_
 ·exact YF hm
 refine sx ?_
 refine sr ?_
 refine jc0 hm [1] [101] [] (fun _ hm hm1=>?_) (fun hm=>?_)
 ·refine Zm ?_
  refine lr0 hm1 81 [1,81,82] [101] (fun m15=>[(83,vI (m15:Int))]) (fun hlenm15 m15 r13 hltm15 hxm15 hm1=>?_) (fun m15 hm1=>?_)
  ·refine bp hm1 fun y16 hm1=>?_
   refine co hm1 (fun hm1=>?_) fun hm1=>?_
   ·refine ss ?_
    refine Xn rfl ?_
    exact ZcF hm hm1
   refine bp hm1 fun y17 hm1=>?_
   refine co hm1 (fun hm1=>?_) fun hm1=>?_
   ·exact ZcF hm hm1
   exact eb1 hm hm1
  exact ZbU hm hm1
 exact az0 hm⟩
def ZbT (r1:Rng) (s2:YU) (rows3:List Kv):Option (ZcH × Int) :=
 Ze (
  bnd (Zau r1) fun y4 =>
  sel (!y4) (
   some true) (
   bnd (Qv s2) fun y5 =>
   some (!y5)):Option Bool) fun x6 =>
 sel x6 (
  some ((ZcH.mk (Rng.mk (Bnd.mk ⟨#[]⟩ false) (Bnd.mk ⟨#[]⟩ false)) (YU.mk 0 0) [] [] (ZcG.mk 0 0 0 (YU.mk 0 0) (Rng.mk (Bnd.mk ⟨#[]⟩ false) (Bnd.mk ⟨#[]⟩ false)) []) (ZcG.mk 0 0 0 (YU.mk 0 0) (Rng.mk (Bnd.mk ⟨#[]⟩ false) (Bnd.mk ⟨#[]⟩ false)) []) 0 0),1)) (
  Ze (
   Ze (Y7 rows3) fun y7 =>
   sel (!y7) (
    some true) (
    bnd (Xo rows3 r1) fun y8 =>
    some (!y8)):Option Bool) fun x9 =>
  sel x9 (
   some ((ZcH.mk (Rng.mk (Bnd.mk ⟨#[]⟩ false) (Bnd.mk ⟨#[]⟩ false)) (YU.mk 0 0) [] [] (ZcG.mk 0 0 0 (YU.mk 0 0) (Rng.mk (Bnd.mk ⟨#[]⟩ false) (Bnd.mk ⟨#[]⟩ false)) []) (ZcG.mk 0 0 0 (YU.mk 0 0) (Rng.mk (Bnd.mk ⟨#[]⟩ false) (Bnd.mk ⟨#[]⟩ false)) []) 0 0),17)) (
   Ze (app ([]:List Kv) rows3) fun l10 =>
   some ((ZcH.mk r1 s2 l10 [] (ZcG.mk 0 0 0 (YU.mk 0 0) (Rng.mk (Bnd.mk ⟨#[]⟩ false) (Bnd.mk ⟨#[]⟩ false)) []) (ZcG.mk 0 0 0 (YU.mk 0 0) (Rng.mk (Bnd.mk ⟨#[]⟩ false) (Bnd.mk ⟨#[]⟩ false)) []) 0 0),0)))
instance ZsZ {r1} {s2} {rows3}:SpO (ZbT r1 s2 rows3) fun y=>Sp 97 [.a (Rng.vs r1),.a [vI s2.Epoch,vI s2.Version],.d (lst Kv.ds rows3)] [] (.t [.a (ZcH.vs y.1),vI y.2]) []:=⟨fun hm=>by
 refine si Tryz.func97 Tryz.ntmps97 Tryz.results97 fun B w0 ρ0=>?_
 refine sr ?_
 refine Zg ?_
 refine Zg ?_
 refine jo1 hm [2,3,4,6] [103,104,106] (fun x6=>[(15,vB x6)]) (fun _ hm hm1=>?_) (fun x6 hm=>?_)
 ·exact az1 hm hm1
 refine co hm (fun hm=>?_) fun hm=>?_
 ·exact YF hm
 refine sx ?_
 refine Zg ?_
 refine Zg ?_
 refine jo1 hm [2,3,4,6] [103,104,106] (fun x9=>[(25,vB x9)]) (fun _ hm hm1=>?_) (fun x9 hm=>?_)
 ·exact az1 hm hm1
 refine co hm (fun hm=>?_) fun hm=>?_
 ·exact YF hm
 refine sx ?_
 refine Zg ?_
 refine Zy (id:=5) [⟨0,0,[3]⟩,⟨1,0,[4]⟩,⟨2,0,[2]⟩,⟨3,4,[29]⟩,⟨4,15,[27,28,30]⟩,⟨5,31,[6,31]⟩,⟨6,63,[]⟩] mixed (by kernel_rfl) ?_
 exact az0 hm⟩
def Za0 (id2:Int):List Xb→Int→Ctl Int Unit
 | [],i =>
 Ctl.nxt ()
 | r3::xs4,i =>
 sel (decide (r3.ID=id2)) (
  Ctl.ret i) (
  Za0 id2 xs4 (i+1))
def Zcm (g1:Z8) (id2:Int):Int :=
 bnd (
  Za0 id2 g1.Members 0:Ctl Int Unit) fun mu=>Zs5 mu fun (_:Unit) =>
 (-1)
instance ZqG {g1} {id2}:SpT (Zcm g1 id2) fun y=>Sp 155 [.a (Z8.vs g1),vI id2] [] (vI y) []:=⟨fun hm=>by
 refine si Tryz.func155 Tryz.ntmps155 Tryz.results155 fun B w0 ρ0=>?_
 refine sr ?_
 refine sr ?_
 refine jd0 hm [] [] [] (fun _ hm hm1=>?_) (fun hm=>?_)
 ·refine Zm ?_
  refine Zrq hm1 8 [1,8,9] [] (fun m5=>[(10,vI (m5:Int))]) (fun hlenm5 m5 r3 hltm5 hxm5 hm1=>?_) (fun m5 hm1=>?_)
  ·refine co hm1 (fun hm1=>?_) fun hm1=>?_
   ·exact ZcF hm hm1
   exact eb1 hm hm1
  exact ZbU hm hm1
 exact YF hm⟩
def Zf4 (g1:Z8):Option (Xb × Bool) :=
 Ze (
  sel (decide ((g1.Members.length:Int)=0)) (
   some true) (
   Ze (YD g1.Members 0) fun e2 =>
   some (!e2.Up)):Option Bool) fun x3 =>
 sel x3 (
  some ((Xb.mk 0 false (ZcH.mk (Rng.mk (Bnd.mk ⟨#[]⟩ false) (Bnd.mk ⟨#[]⟩ false)) (YU.mk 0 0) [] [] (ZcG.mk 0 0 0 (YU.mk 0 0) (Rng.mk (Bnd.mk ⟨#[]⟩ false) (Bnd.mk ⟨#[]⟩ false)) []) (ZcG.mk 0 0 0 (YU.mk 0 0) (Rng.mk (Bnd.mk ⟨#[]⟩ false) (Bnd.mk ⟨#[]⟩ false)) []) 0 0)),false)) (
  Ze (YD g1.Members 0) fun e4 =>
  some (e4,true))
instance ZqS {g1}:SpO (Zf4 g1) fun y=>Sp 105 [.a (Z8.vs g1)] [] (.t [.a (Xb.vs y.1),vB y.2]) []:=⟨fun hm=>by
 refine si Tryz.func105 Tryz.ntmps105 Tryz.results105 fun B w0 ρ0=>?_
 refine sr ?_
 refine Zg ?_
 refine Zg ?_
 refine jo1 hm [1,2] [101,102] (fun x3=>[(15,vB x3)]) (fun _ hm hm1=>?_) (fun x3 hm=>?_)
 ·exact az1 hm hm1
 exact az0 hm⟩
def ZaV:List Int→Bool→Option Bool
 | [],bad7 =>
 some bad7
 | r8::xs9,bad7 =>
 sel bad7 (
  ZaV xs9 true) (
  bnd (Y6 r8) fun y11 =>
  ZaV xs9 (!y11))
def ZaT (number1:Int) (c3:ZcH):List Int→List Xb→Option (Ctl (Z8 × Int) (List Xb))
 | [],g13 =>
 some (Ctl.nxt g13)
 | r14::xs15,g13 =>
 bnd (Zcm (Z8.mk number1 true g13) r14) fun y17 =>
 sel (decide (0≤y17)) (
  some (Ctl.ret ((Z8.mk 0 false []),5))) (
  Ze (app g13 ([(Xb.mk r14 true c3)]:List Xb)) fun l18 =>
  ZaT number1 c3 xs15 l18)
def ZbS (number1:Int) (ids2:List Int) (c3:ZcH):Option (Z8 × Int) :=
 Ze (
  bnd (Y6 number1) fun y4 =>
  sel (!y4) (
   some true) (
   sel (decide ((ids2.length:Int)=0)) (
    some true) (
    Ze (Zcl c3) fun y5 =>
    some (!y5))):Option Bool) fun bad6 =>
 Ze (
  ZaV ids2 bad6:Option Bool) fun bad12 =>
 sel bad12 (
  some ((Z8.mk 0 false []),1)) (
  sel (decide (5<(ids2.length:Int))) (
   some ((Z8.mk 0 false []),3)) (
   Ze (
    ZaT number1 c3 ids2 []:Option (Ctl (Z8 × Int) (List Xb))) fun mu=>Yz mu fun g19 =>
   some ((Z8.mk number1 true g19),0)))
instance Zs0 {number1} {ids2} {c3}:SpO (ZbS number1 ids2 c3) fun y=>Sp 98 [vI number1,.d (lst dsI ids2),.a (ZcH.vs c3)] [] (.t [.a (Z8.vs y.1),vI y.2]) []:=⟨fun hm=>by
 refine si Tryz.func98 Tryz.ntmps98 Tryz.results98 fun B w0 ρ0=>?_
 refine sr ?_
 refine Zg ?_
 refine jo1 hm [0,1,5,6] [105,106] (fun bad6=>[(8,vB bad6)]) (fun _ hm hm1=>?_) (fun bad6 hm=>?_)
 ·exact az1 hm hm1
 refine sr ?_
 refine jo1 hm [0,1,5,6] [105,106] (fun bad12=>[(8,vB bad12)]) (fun _ hm hm1=>?_) (fun bad12 hm=>?_)
 ·refine Zm ?_
  refine lr1 hm1 27 [0,1,5,6,27,28] [105,106] (fun m10 bad7=>[(8,vB bad7),(29,vI (m10:Int))]) (fun hlenm10 m10 bad7 r8 hltm10 hxm10 hm1=>?_) (fun m10 bad7 hm1=>?_)
  ·refine sx ?_
   refine sr ?_
   refine ZL (Zc3 (ys:=[dI r8]) hxm10 rfl rfl rfl rfl) rfl rfl rfl ?_
   refine co hm1 (fun hm1=>?_) fun hm1=>?_
   ·exact eb1 hm hm1
   refine bp hm1 fun y11 hm1=>?_
   exact eb1 hm hm1
  exact ZbU hm hm1
 refine co hm (fun hm=>?_) fun hm=>?_
 ·exact YF hm
 refine co hm (fun hm=>?_) fun hm=>?_
 ·exact YF hm
 refine sx ?_
 refine sr ?_
 refine sr ?_
 refine jc1 hm [6,11] [106] (fun g19=>[]) (fun _ hm hm1=>?_) (fun g19 hm=>?_) (B:=(fun g19=>[(111,some (.box 95 (Z8.vs (Z8.mk number1 true g19))))]))
 ·refine Zm ?_
  refine ZbW (Zim 111 2 5001 107 32 rfl rfl rfl rfl) ?_
  refine lr1 hm1 48 [5,6,11,48,49] [105,106] (fun m16 g13=>[(50,vI (m16:Int))]) (fun hlenm16 m16 g13 r14 hltm16 hxm16 hm1=>?_) (fun m16 g13 hm1=>?_) (B:=(fun m16 g13=>[(111,some (.box 95 [vI number1,vB true,.h 5001])),(5001,some (YY 107 32 Xb.ds g13))]))
  ·refine sx ?_
   refine sr ?_
   refine ZL (Zc3 (ys:=[dI r14]) hxm16 rfl rfl rfl rfl) rfl rfl rfl ?_
   refine bp hm1 fun y17 hm1=>?_
   refine co hm1 (fun hm1=>?_) fun hm1=>?_
   ·exact ZcF hm hm1
   refine sx ?_
   refine sr ?_
   refine Zaq Xb.ds [(Xb.mk r14 true c3)] rfl rfl (by simp only [YB,Zq,List.cons_append,List.nil_append,List.append_nil]; exact rfl) rfl rfl rfl rfl rfl rfl ?_
   refine bo hm1 fun l18 hm1=>?_
   exact Zh5 [(105,105),(106,106),(111,111),(5001,165)] hm hm1
  exact ZbU hm hm1
 exact YF hm⟩
def ZeG (g1:Z8):Option (Zr × Int) :=
 Ze (Zf4 g1) fun y2 =>
 sel (!y2.2) (
  some ((Zr.mk 0 (Rng.mk (Bnd.mk ⟨#[]⟩ false) (Bnd.mk ⟨#[]⟩ false)) (YU.mk 0 0) []),14)) (
  sel (!g1.Open) (
   some ((Zr.mk 0 (Rng.mk (Bnd.mk ⟨#[]⟩ false) (Bnd.mk ⟨#[]⟩ false)) (YU.mk 0 0) []),7)) (
   some ((Zr.mk y2.1.ID y2.1.Copy.Range y2.1.Copy.Stamp y2.1.Copy.Rows),0)))
instance Zrc {g1}:SpO (ZeG g1) fun y=>Sp 96 [.a (Z8.vs g1)] [] (.t [.a (Zr.vs y.1),vI y.2]) []:=⟨fun hm=>by
 refine si Tryz.func96 Tryz.ntmps96 Tryz.results96 fun B w0 ρ0=>?_
 exact az0 hm⟩
def Z5 (y3:(List Kv × ZC)) (y4:Rng) (y5:(List Bnd × ZC)):Nat→List Int→Int→List Z8→ByteArray→Bool→Int→Option (List Z8 × List Int × Int)
 | 0,_,_,_,_,_,_=>none
 | fuel+1,x6,x7,out8,r9,r10,i11 =>
 Ze (
  sel (decide (i11≤(y5.1.length:Int))) (
   some (Ctl.nxt ())) (
   some (Ctl.ret (out8,x6,x7))):Option (Ctl (List Z8 × List Int × Int) Unit)) fun mu=>Yz mu fun (_:Unit) =>
 Ze (
  sel (decide (i11<(y5.1.length:Int))) (
   Ze (YD y5.1 i11) fun e12 =>
   bnd (Z4 e12) fun y13 =>
   sel y13 (
    Ze (YD y5.1 i11) fun e14 =>
    bnd (Zk e14 (Bnd.mk r9 r10)) fun y15 =>
    some (decide (0<y15))) (
    some false)) (
   some false):Option Bool) fun x16 =>
 sel x16 (
  Ze (YD y5.1 i11) fun e17 =>
  bnd (ZU (Rng.mk (Bnd.mk r9 r10) e17)) fun y18 =>
  sel y18 (
   Z5 y3 y4 y5 fuel x6 x7 out8 r9 r10 (ZJ (i11+1))) (
   Ze (Zt (ZC.mk x6 x7) 3) fun y19 =>
   Ze (Zt y19.2 2) fun y20 =>
   Ze (YO y3.1 (Rng.mk (Bnd.mk r9 r10) e17)) fun y21 =>
   Ze (ZbT (Rng.mk (Bnd.mk r9 r10) e17) (YU.mk y19.1 y20.1) y21) fun y22 =>
   Ze (Zt y20.2 3) fun y23 =>
   Ze (lsl ([ZJ (10 * (ZJ ((out8.length:Int)+1))),ZJ ((ZJ (10 * (ZJ ((out8.length:Int)+1))))+1),ZJ ((ZJ (10 * (ZJ ((out8.length:Int)+1))))+2)]:List Int) 0 (ZJ (1+y23.1))) fun l24 =>
   Ze (ZbS (ZJ ((out8.length:Int)+1)) l24 y22.1) fun y25 =>
   Ze (app out8 ([y25.1]:List Z8)) fun l26 =>
   Z5 y3 y4 y5 fuel y23.2.l y23.2.at_ l26 e17.key e17.top (ZJ (i11+1)))) (
  sel (decide (i11<(y5.1.length:Int))) (
   Z5 y3 y4 y5 fuel x6 x7 out8 r9 r10 (ZJ (i11+1))) (
   bnd (ZU (Rng.mk (Bnd.mk r9 r10) y4.hi)) fun y27 =>
   sel y27 (
    Z5 y3 y4 y5 fuel x6 x7 out8 r9 r10 (ZJ (i11+1))) (
    Ze (Zt (ZC.mk x6 x7) 3) fun y28 =>
    Ze (Zt y28.2 2) fun y29 =>
    Ze (YO y3.1 (Rng.mk (Bnd.mk r9 r10) y4.hi)) fun y30 =>
    Ze (ZbT (Rng.mk (Bnd.mk r9 r10) y4.hi) (YU.mk y28.1 y29.1) y30) fun y31 =>
    Ze (Zt y29.2 3) fun y32 =>
    Ze (lsl ([ZJ (10 * (ZJ ((out8.length:Int)+1))),ZJ ((ZJ (10 * (ZJ ((out8.length:Int)+1))))+1),ZJ ((ZJ (10 * (ZJ ((out8.length:Int)+1))))+2)]:List Int) 0 (ZJ (1+y32.1))) fun l33 =>
    Ze (ZbS (ZJ ((out8.length:Int)+1)) l33 y31.1) fun y34 =>
    Ze (app out8 ([y34.1]:List Z8)) fun l35 =>
    Z5 y3 y4 y5 fuel y32.2.l y32.2.at_ l35 y4.hi.key y4.hi.top (ZJ (i11+1)))))
def X3 (t1:ZC) (most2:Int):Option (List Z8 × ZC) :=
 Ze (QY t1 8) fun y3 =>
 bnd (YE) fun y4 =>
 Ze (Zab y3.2 (ZJ (most2 - 1))) fun y5 =>
 Ze (
  Z5 y3 y4 y5 FU y5.2.l y5.2.at_ [] y4.lo.key y4.lo.top 0:Option (List Z8 × List Int × Int)) fun (out36,x37,x38) =>
 some (out36,(ZC.mk x37 x38))
instance Zob {t1} {most2}:SpO (X3 t1 most2) fun y=>Sp 35 [.p 0 0,vI most2] [(0,some (.box 126 [.d (lst dsI t1.l),vI t1.at_]))] (.d (lst Z8.ds y.1)) ([(0,some (.box 126 [.d (lst dsI y.2.l),vI y.2.at_]))]):=⟨fun hm=>by
 refine si Tryz.func35 Tryz.ntmps35 Tryz.results35 fun B w0 ρ0=>?_
 refine bo hm fun y3 hm=>?_
 refine bp hm fun y4 hm=>?_
 refine bo hm fun y5 hm=>?_
 refine sr ?_
 refine jo3 hm [] [] (fun out36 x37 x38=>[(5,.d (lst Z8.ds out36))]) (fun _ hm hm1=>?_) (fun out36 x37 x38 hm=>?_) (B:=(fun out36 x37 x38=>[(0,some (.box 126 [.d (lst dsI x37),vI x38]))]))
 ·refine Zm ?_
  refine ZbW (ZbY 5 5001 95 3 rfl rfl) ?_
  refine lf6 hm1 [0,6,7,8] [] (fun x6 x7 out8 r9 r10 i11=>[(5,.h 5001),(9,vI i11)]) (fun κ x6 x7 out8 r9 r10 i11 hm1=>?_) (B:=(fun x6 x7 out8 r9 r10 i11=>[(0,some (.box 126 [.d (lst dsI x6),vI x7])),(107,some (.box 72 (Rng.vs (Rng.mk (Bnd.mk r9 r10) y4.hi)))),(5001,some (YY 95 3 Z8.ds out8))]))
  refine sr ?_
  refine jc0 hm1 [0,5,6,7,8,9] [0,107,5001] [] (fun _ hm1 hm2=>?_) (fun hm1=>?_)
  ·exact az2 hm hm1 hm2
  refine sr ?_
  refine Zg ?_
  refine Zg ?_
  refine jo1 hm1 [0,5,6,7,8,9,10] [0,107,110,5001] (fun x16=>[(50,vB x16)]) (fun _ hm1 hm2=>?_) (fun x16 hm1=>?_)
  ·refine Zy (id:=9) [⟨0,0,[9]⟩,⟨1,0,[8]⟩,⟨2,2,[31]⟩,⟨3,7,[30,32]⟩,⟨4,15,[33]⟩,⟨5,31,[8,34]⟩,⟨6,31,[9,34]⟩,⟨7,127,[34,35,36]⟩,⟨8,255,[34,37]⟩,⟨9,511,[34,38]⟩,⟨10,1023,[34,39]⟩,⟨11,2047,[40]⟩,⟨12,4095,[8,41]⟩,⟨13,4095,[9,41]⟩,⟨14,16383,[41,42,43]⟩,⟨15,32767,[41,44]⟩,⟨16,4095,[7,41]⟩,⟨17,69631,[41,46]⟩,⟨18,262143,[41,45,47]⟩,⟨19,524287,[41,48]⟩,⟨20,1048575,[41,49]⟩] mixed (by kernel_rfl) ?_
   exact az2 hm hm1 hm2
  refine co hm1 (fun hm1=>?_) fun hm1=>?_
  ·refine bo hm1 fun e17 hm1=>?_
   refine bp hm1 fun y18 hm1=>?_
   refine co hm1 (fun hm1=>?_) fun hm1=>?_
   ·refine XA ?_
    refine sr ?_
    refine ZL (YZ rfl rfl rfl rfl) rfl rfl rfl ?_
    refine ss ?_
    exact eb1 hm hm1
   refine sx ?_
   refine Zg ?_
   refine Zy (id:=13) [⟨0,0,[10]⟩,⟨1,0,[0]⟩,⟨3,0,[0]⟩,⟨6,0,[6]⟩,⟨7,0,[10]⟩,⟨13,0,[]⟩,⟨2,2,[64]⟩,⟨4,14,[66]⟩,⟨5,30,[65,67]⟩,⟨8,222,[69,70]⟩,⟨9,511,[63,68,71]⟩,⟨10,1023,[72]⟩,⟨11,2047,[62]⟩,⟨12,2047,[62]⟩,⟨14,12287,[11,73]⟩,⟨15,32767,[74]⟩] mixed (by kernel_rfl) ?_
   refine bo hm1 fun y19 hm1=>?_
   refine bo hm1 fun y20 hm1=>?_
   refine bo hm1 fun y21 hm1=>?_
   refine bo hm1 fun y22 hm1=>?_
   refine sr ?_
   refine ZL (YZ rfl rfl rfl rfl) rfl rfl rfl ?_
   refine ss ?_
   refine Zg ?_
   refine Zy (id:=15) [⟨0,0,[13]⟩,⟨1,0,[13]⟩,⟨2,2,[80]⟩,⟨3,0,[13]⟩,⟨4,8,[82]⟩,⟨5,24,[83]⟩,⟨6,0,[13]⟩,⟨7,64,[85]⟩,⟨8,192,[86]⟩,⟨9,510,[81,84,87]⟩,⟨10,0,[0]⟩,⟨14,0,[11]⟩,⟨19,0,[]⟩,⟨11,1024,[89]⟩,⟨12,3072,[90]⟩,⟨13,8190,[88,91]⟩,⟨15,32767,[79,92,93]⟩,⟨16,65535,[94]⟩,⟨17,131071,[78]⟩,⟨18,131071,[78]⟩,⟨20,786431,[14,95]⟩,⟨21,2097151,[96]⟩] mixed (by kernel_rfl) ?_
   refine ss ?_
   refine Yp [] (YZ rfl rfl rfl rfl) rfl (by first | exact .no rfl | exact .y rfl rfl rfl rfl) rfl rfl ?_
   refine ss ?_
   refine Yp [] (YZ rfl rfl rfl rfl) rfl (by first | exact .no rfl | exact .y rfl rfl rfl rfl) rfl rfl ?_
   refine ss ?_
   refine ZeP dsI [ZJ (10 * (ZJ ((out8.length:Int)+1))),ZJ ((ZJ (10 * (ZJ ((out8.length:Int)+1))))+1),ZJ ((ZJ (10 * (ZJ ((out8.length:Int)+1))))+2)] rfl rfl (by simp only [YB,Zq,List.cons_append,List.nil_append,List.append_nil]; exact rfl) rfl rfl rfl rfl (by first | exact .no rfl | exact .y rfl rfl rfl rfl) rfl rfl ?_
   refine bo hm1 fun y23 hm1=>?_
   refine bo hm1 fun l24 hm1=>?_
   refine bo hm1 fun y25 hm1=>?_
   refine sr ?_
   refine Zaq Z8.ds [y25.1] rfl rfl (by simp only [YB,Zq,List.cons_append,List.nil_append,List.append_nil]; exact rfl) rfl rfl rfl rfl rfl rfl ?_
   refine bo hm1 fun l26 hm1=>?_
   refine sr ?_
   refine sr ?_
   refine ZL (YZ rfl rfl rfl rfl) rfl rfl rfl ?_
   refine ss ?_
   exact Zh5 [(0,0),(107,107),(5001,200)] hm hm1
  refine co hm1 (fun hm1=>?_) fun hm1=>?_
  ·refine XA ?_
   refine sr ?_
   refine ZL (YZ rfl rfl rfl rfl) rfl rfl rfl ?_
   refine ss ?_
   exact eb1 hm hm1
  refine bp hm1 fun y27 hm1=>?_
  refine co hm1 (fun hm1=>?_) fun hm1=>?_
  ·refine XA ?_
   refine sr ?_
   refine ZL (YZ rfl rfl rfl rfl) rfl rfl rfl ?_
   refine ss ?_
   exact eb1 hm hm1
  refine sx ?_
  refine Zg ?_
  refine Zy (id:=13) [⟨0,0,[10]⟩,⟨1,0,[0]⟩,⟨3,0,[0]⟩,⟨6,0,[6]⟩,⟨7,0,[10]⟩,⟨13,0,[]⟩,⟨2,2,[64]⟩,⟨4,14,[66]⟩,⟨5,30,[65,67]⟩,⟨8,222,[69,70]⟩,⟨9,511,[63,68,71]⟩,⟨10,1023,[72]⟩,⟨11,2047,[62]⟩,⟨12,2047,[62]⟩,⟨14,12287,[11,73]⟩,⟨15,32767,[74]⟩] mixed (by kernel_rfl) ?_
  refine bo hm1 fun y28 hm1=>?_
  refine bo hm1 fun y29 hm1=>?_
  refine bo hm1 fun y30 hm1=>?_
  refine bo hm1 fun y31 hm1=>?_
  refine sr ?_
  refine ZL (YZ rfl rfl rfl rfl) rfl rfl rfl ?_
  refine ss ?_
  refine Zg ?_
  refine Zy (id:=15) [⟨0,0,[13]⟩,⟨1,0,[13]⟩,⟨2,2,[80]⟩,⟨3,0,[13]⟩,⟨4,8,[82]⟩,⟨5,24,[83]⟩,⟨6,0,[13]⟩,⟨7,64,[85]⟩,⟨8,192,[86]⟩,⟨9,510,[81,84,87]⟩,⟨10,0,[0]⟩,⟨14,0,[11]⟩,⟨19,0,[]⟩,⟨11,1024,[89]⟩,⟨12,3072,[90]⟩,⟨13,8190,[88,91]⟩,⟨15,32767,[79,92,93]⟩,⟨16,65535,[94]⟩,⟨17,131071,[78]⟩,⟨18,131071,[78]⟩,⟨20,786431,[14,95]⟩,⟨21,2097151,[96]⟩] mixed (by kernel_rfl) ?_
  refine ss ?_
  refine Yp [] (YZ rfl rfl rfl rfl) rfl (by first | exact .no rfl | exact .y rfl rfl rfl rfl) rfl rfl ?_
  refine ss ?_
  refine Yp [] (YZ rfl rfl rfl rfl) rfl (by first | exact .no rfl | exact .y rfl rfl rfl rfl) rfl rfl ?_
  refine ss ?_
  refine ZeP dsI [ZJ (10 * (ZJ ((out8.length:Int)+1))),ZJ ((ZJ (10 * (ZJ ((out8.length:Int)+1))))+1),ZJ ((ZJ (10 * (ZJ ((out8.length:Int)+1))))+2)] rfl rfl (by simp only [YB,Zq,List.cons_append,List.nil_append,List.append_nil]; exact rfl) rfl rfl rfl rfl (by first | exact .no rfl | exact .y rfl rfl rfl rfl) rfl rfl ?_
  refine bo hm1 fun y32 hm1=>?_
  refine bo hm1 fun l33 hm1=>?_
  refine bo hm1 fun y34 hm1=>?_
  refine sr ?_
  refine Zaq Z8.ds [y34.1] rfl rfl (by simp only [YB,Zq,List.cons_append,List.nil_append,List.append_nil]; exact rfl) rfl rfl rfl rfl rfl rfl ?_
  refine bo hm1 fun l35 hm1=>?_
  refine sr ?_
  refine sr ?_
  refine ZL (YZ rfl rfl rfl rfl) rfl rfl rfl ?_
  refine ss ?_
  exact Zh5 [(0,0),(107,107),(5001,200)] hm hm1
 exact YF hm⟩
def QI:List Z8→List Zr→Option (List Zr)
 | [],out2 =>
 some out2
 | r3::xs4,out2 =>
 Ze (ZeG r3) fun y6 =>
 sel (decide (y6.2=0)) (
  Ze (app out2 ([y6.1]:List Zr)) fun l7 =>
  QI xs4 l7) (
  QI xs4 out2)
def Zbd (l1:List Z8):Option (List Zr) :=
 Ze (
  QI l1 []:Option (List Zr)) fun out8 =>
 some out8
instance Zs1 {l1}:SpO (Zbd l1) fun y=>Sp 34 [.d (lst Z8.ds l1)] [] (.d (lst Zr.ds y)) []:=⟨fun hm=>by
 refine si Tryz.func34 Tryz.ntmps34 Tryz.results34 fun B w0 ρ0=>?_
 refine sr ?_
 refine sr ?_
 refine sr ?_
 refine jo1 hm [] [] (fun out8=>[(3,.d (lst Zr.ds out8))]) (fun _ hm hm1=>?_) (fun out8 hm=>?_)
 ·refine Zm ?_
  refine ZbW (ZbY 3 5001 76 8 rfl rfl) ?_
  refine lr1 hm1 8 [8,9] [] (fun m5 out2=>[(3,.h 5001),(10,vI (m5:Int))]) (fun hlenm5 m5 out2 r3 hltm5 hxm5 hm1=>?_) (fun m5 out2 hm1=>?_) (B:=(fun m5 out2=>[(5001,some (YY 76 8 Zr.ds out2))]))
  ·refine bo hm1 fun y6 hm1=>?_
   refine co hm1 (fun hm1=>?_) fun hm1=>?_
   ·refine sr ?_
    refine Zaq Zr.ds [y6.1] rfl rfl (by simp only [YB,Zq,List.cons_append,List.nil_append,List.append_nil]; exact rfl) rfl rfl rfl rfl rfl rfl ?_
    refine bo hm1 fun l7 hm1=>?_
    exact Zh5 [(5001,124)] hm hm1
   exact eb1 hm hm1
  exact ZbU hm hm1
 exact YF hm⟩
def Zx (want3:Rng) (down4:Bool):List Zr→List Int→Int→Option (Ctl (Zr × ZC) (List Int × Int))
 | [],x5,x6 =>
 some (Ctl.nxt (x5,x6))
 | r7::xs8,x5,x6 =>
 sel (!down4) (
  bnd (Zk r7.Interval.lo want3.lo) fun y10 =>
  sel (decide (y10≤0)) (
   bnd (Zk want3.lo r7.Interval.hi) fun y11 =>
   sel (decide (y11<0)) (
    Ze (ZF (ZC.mk x5 x6) 25) fun y12 =>
    sel (!y12.1) (
     some (Ctl.ret (r7,y12.2))) (
     Zx want3 down4 xs8 y12.2.l y12.2.at_)) (
    sel down4 (
     bnd (Zk r7.Interval.lo want3.hi) fun y13 =>
     sel (decide (y13<0)) (
      bnd (Zk want3.hi r7.Interval.hi) fun y14 =>
      sel (decide (y14≤0)) (
       Ze (ZF (ZC.mk x5 x6) 25) fun y15 =>
       sel (!y15.1) (
        some (Ctl.ret (r7,y15.2))) (
        Zx want3 down4 xs8 y15.2.l y15.2.at_)) (
       Zx want3 down4 xs8 x5 x6)) (
      Zx want3 down4 xs8 x5 x6)) (
     Zx want3 down4 xs8 x5 x6))) (
   sel down4 (
    bnd (Zk r7.Interval.lo want3.hi) fun y16 =>
    sel (decide (y16<0)) (
     bnd (Zk want3.hi r7.Interval.hi) fun y17 =>
     sel (decide (y17≤0)) (
      Ze (ZF (ZC.mk x5 x6) 25) fun y18 =>
      sel (!y18.1) (
       some (Ctl.ret (r7,y18.2))) (
       Zx want3 down4 xs8 y18.2.l y18.2.at_)) (
      Zx want3 down4 xs8 x5 x6)) (
     Zx want3 down4 xs8 x5 x6)) (
    Zx want3 down4 xs8 x5 x6))) (
  sel down4 (
   bnd (Zk r7.Interval.lo want3.hi) fun y19 =>
   sel (decide (y19<0)) (
    bnd (Zk want3.hi r7.Interval.hi) fun y20 =>
    sel (decide (y20≤0)) (
     Ze (ZF (ZC.mk x5 x6) 25) fun y21 =>
     sel (!y21.1) (
      some (Ctl.ret (r7,y21.2))) (
      Zx want3 down4 xs8 y21.2.l y21.2.at_)) (
     Zx want3 down4 xs8 x5 x6)) (
    Zx want3 down4 xs8 x5 x6)) (
   Zx want3 down4 xs8 x5 x6))
def ZaZ (t1:ZC) (l2:List Zr) (want3:Rng) (down4:Bool):Option (Zr × ZC) :=
 sel (decide ((l2.length:Int)=0)) (
  some ((Zr.mk 0 (Rng.mk (Bnd.mk ⟨#[]⟩ false) (Bnd.mk ⟨#[]⟩ false)) (YU.mk 0 0) []),t1)) (
  Ze (
   Zx want3 down4 l2 t1.l t1.at_:Option (Ctl (Zr × ZC) (List Int × Int))) fun mu=>Yz mu fun (x22,x23) =>
  Ze (Zt (ZC.mk x22 x23) (l2.length:Int)) fun y24 =>
  Ze (YD l2 y24.1) fun e25 =>
  some (e25,y24.2))
instance ZmT {t1} {l2} {want3} {down4}:SpO (ZaZ t1 l2 want3 down4) fun y=>Sp 46 [.p 0 0,.d (lst Zr.ds l2),.a (Rng.vs want3),vB down4] [(0,some (.box 126 [.d (lst dsI t1.l),vI t1.at_]))] (.a (Zr.vs y.1)) ([(0,some (.box 126 [.d (lst dsI y.2.l),vI y.2.at_]))]):=⟨fun hm=>by
 refine si Tryz.func46 Tryz.ntmps46 Tryz.results46 fun B w0 ρ0=>?_
 refine co hm (fun hm=>?_) fun hm=>?_
 ·exact YF hm
 refine sx ?_
 refine sr ?_
 refine jc2 hm [0,1,8] [108] (fun x22 x23=>[]) (fun _ hm hm1=>?_) (fun x22 x23 hm=>?_) (B:=(fun x22 x23=>[(0,some (.box 126 [.d (lst dsI x22),vI x23]))]))
 ·refine Zm ?_
  refine lr2 hm1 15 [0,1,3,6,8,15,16] [106,108] (fun m9 x5 x6=>[(17,vI (m9:Int))]) (fun hlenm9 m9 x5 x6 r7 hltm9 hxm9 hm1=>?_) (fun m9 x5 x6 hm1=>?_) (B:=(fun m9 x5 x6=>[(0,some (.box 126 [.d (lst dsI x5),vI x6]))]))
  ·refine co hm1 (fun hm1=>?_) fun hm1=>?_
   ·refine bp hm1 fun y10 hm1=>?_
    refine co hm1 (fun hm1=>?_) fun hm1=>?_
    ·refine bp hm1 fun y11 hm1=>?_
     refine co hm1 (fun hm1=>?_) fun hm1=>?_
     ·refine ss ?_
      refine Xn rfl ?_
      refine bo hm1 fun y12 hm1=>?_
      refine co hm1 (fun hm1=>?_) fun hm1=>?_
      ·exact ZcF hm hm1
      exact eb1 hm hm1
     refine co hm1 (fun hm1=>?_) fun hm1=>?_
     ·refine bp hm1 fun y13 hm1=>?_
      refine co hm1 (fun hm1=>?_) fun hm1=>?_
      ·refine bp hm1 fun y14 hm1=>?_
       refine co hm1 (fun hm1=>?_) fun hm1=>?_
       ·refine bo hm1 fun y15 hm1=>?_
        refine co hm1 (fun hm1=>?_) fun hm1=>?_
        ·exact ZcF hm hm1
        exact eb1 hm hm1
       exact eb1 hm hm1
      refine ss ?_
      refine Yf rfl ?_
      exact eb1 hm hm1
     refine ss ?_
     refine Yf rfl ?_
     exact eb1 hm hm1
    refine co hm1 (fun hm1=>?_) fun hm1=>?_
    ·refine bp hm1 fun y16 hm1=>?_
     refine co hm1 (fun hm1=>?_) fun hm1=>?_
     ·refine bp hm1 fun y17 hm1=>?_
      refine co hm1 (fun hm1=>?_) fun hm1=>?_
      ·refine bo hm1 fun y18 hm1=>?_
       refine co hm1 (fun hm1=>?_) fun hm1=>?_
       ·exact ZcF hm hm1
       exact eb1 hm hm1
      exact eb1 hm hm1
     refine ss ?_
     refine Yf rfl ?_
     exact eb1 hm hm1
    refine ss ?_
    refine Yf rfl ?_
    exact eb1 hm hm1
   refine co hm1 (fun hm1=>?_) fun hm1=>?_
   ·refine bp hm1 fun y19 hm1=>?_
    refine co hm1 (fun hm1=>?_) fun hm1=>?_
    ·refine bp hm1 fun y20 hm1=>?_
     refine co hm1 (fun hm1=>?_) fun hm1=>?_
     ·refine bo hm1 fun y21 hm1=>?_
      refine co hm1 (fun hm1=>?_) fun hm1=>?_
      ·exact ZcF hm hm1
      exact eb1 hm hm1
     exact eb1 hm hm1
    refine ss ?_
    refine Yf rfl ?_
    exact eb1 hm hm1
   refine ss ?_
   refine Yf rfl ?_
   exact eb1 hm hm1
  exact ZbU hm hm1
 exact az0 hm⟩
def ZcC (t1:ZC):(Bool × ZC) :=
 (decide (t1.at_<(t1.l.length:Int)),t1)
instance ZnM {t1}:SpT (ZcC t1) fun y=>Sp 54 [.p 0 0] [(0,some (.box 126 [.d (lst dsI t1.l),vI t1.at_]))] (vB y.1) ([(0,some (.box 126 [.d (lst dsI y.2.l),vI y.2.at_]))]):=⟨fun hm=>by
 refine si Tryz.func54 Tryz.ntmps54 Tryz.results54 fun B w0 ρ0=>?_
 unfold ZcC at hm
 refine sr ?_
 refine Zg ?_
 refine Zy (id:=1) [⟨0,0,[0]⟩,⟨1,1,[3]⟩,⟨2,3,[4]⟩,⟨3,7,[5]⟩,⟨4,0,[0]⟩,⟨5,16,[7]⟩,⟨6,48,[8]⟩,⟨7,112,[9]⟩,⟨8,240,[10]⟩,⟨9,511,[6,11]⟩,⟨10,1023,[12]⟩] mixed (by kernel_rfl) ?_
 exact YF hm⟩
end Go.Proofs.YtkcmgbbopedacaaGreatDoor
