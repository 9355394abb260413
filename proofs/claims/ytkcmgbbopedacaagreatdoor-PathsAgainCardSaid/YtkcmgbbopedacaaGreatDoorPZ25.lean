/-
  Lemmas: Models and walks
-/
import Derived.Test.YtkcmgbbopedacaaGreatDoorPZ18
import Derived.Test.YtkcmgbbopedacaaGreatDoorPZ23
import Derived.Test.YtkcmgbbopedacaaGreatDoorPZ21
set_option linter.unusedSimpArgs false
set_option linter.unusedVariables false
namespace Go.Proofs.YtkcmgbbopedacaaGreatDoor
open Go.RowKit
set_option maxRecDepth 100000
set_option maxHeartbeats 4000000
attribute [local irreducible] WK WC WL Wk Rel OpD OpV WD WO sel bnd Ze app YD lsl ZeM ssl ZhA Zhi Zi9 Zh4 Op.bytesLess
attribute [local irreducible] ZcE Yi union
def ZbN (a1:Rng) (r2:Rng):Bool :=
 bnd (Zk r2.lo a1.lo) fun y3 =>
 sel (decide (y3≤0)) (
  bnd (Zk a1.hi r2.hi) fun y4 =>
  sel (decide (y4≤0)) (
   bnd (ZU r2) fun y5 =>
   !y5) (
   false)) (
  false)
instance Zn6 {a1} {r2}:SpT (ZbN a1 r2) fun y=>Sp 160 [.a (Rng.vs a1),.a (Rng.vs r2)] [] (vB y) []:=⟨fun hm=>by
 refine si Tryz.func160 Tryz.ntmps160 Tryz.results160 fun B w0 ρ0=>?_
 exact az0 hm⟩
def Q0:List Zi→List Kv→Option (List Kv)
 | [],out2 =>
 some out2
 | r3::xs4,out2 =>
 Ze (app out2 r3.View.Rows) fun l6 =>
 Q0 xs4 l6
def Qu (l1:List Zi):Option (List Kv) :=
 Ze (
  Q0 l1 []:Option (List Kv)) fun out7 =>
 some out7
instance Zrd {l1}:SpO (Qu l1) fun y=>Sp 104 [.d (lst Zi.ds l1)] [] (.d (lst Kv.ds y)) []:=⟨fun hm=>by
 refine si Tryz.func104 Tryz.ntmps104 Tryz.results104 fun B w0 ρ0=>?_
 refine sr ?_
 refine sr ?_
 refine sr ?_
 refine jo1 hm [] [] (fun out7=>[(3,.d (lst Kv.ds out7))]) (fun _ hm hm1=>?_) (fun out7 hm=>?_)
 ·refine Zm ?_
  refine ZbW (ZbY 3 5001 154 2 rfl rfl) ?_
  refine lr1 hm1 6 [6,7] [] (fun m5 out2=>[(3,.h 5001),(8,vI (m5:Int))]) (fun hlenm5 m5 out2 r3 hltm5 hxm5 hm1=>?_) (fun m5 out2 hm1=>?_) (B:=(fun m5 out2=>[(5001,some (YY 154 2 Kv.ds out2))]))
  ·refine bo hm1 fun l6 hm1=>?_
   exact Zh5 [(5001,116)] hm hm1
  exact ZbU hm hm1
 exact YF hm⟩
def Zb7 (w1:Zc):Option Bool :=
 sel (decide ((w1.Todo.length:Int)=0)) (
  some true) (
  Ze (Qu w1.Visits) fun y2 =>
  bnd (ZaU w1.Query (y2.length:Int)) fun y3 =>
  some y3)
instance Zq4 {w1}:SpO (Zb7 w1) fun y=>Sp 214 [.a (Zc.vs w1)] [] (vB y) []:=⟨fun hm=>by
 refine si Tryz.func214 Tryz.ntmps214 Tryz.results214 fun B w0 ρ0=>?_
 refine sr ?_
 refine Zg ?_
 refine Zy (id:=1) [⟨0,0,[1]⟩,⟨1,1,[3]⟩,⟨2,3,[4]⟩,⟨3,7,[5]⟩,⟨4,15,[6]⟩,⟨5,31,[1,7]⟩,⟨6,63,[7,8]⟩,⟨7,31,[1,7]⟩,⟨8,159,[7,10]⟩,⟨9,415,[7,11]⟩,⟨10,927,[7,12]⟩,⟨11,2047,[7,9,13]⟩,⟨12,4095,[7,14]⟩,⟨13,8191,[15]⟩] mixed (by kernel_rfl) ?_
 exact az0 hm⟩
def Zb3 (w1:Zc):Option (Rng × Bool) :=
 Ze (Zb7 w1) fun y2 =>
 sel y2 (
  some ((Rng.mk (Bnd.mk ⟨#[]⟩ false) (Bnd.mk ⟨#[]⟩ false)),false)) (
  bnd (X0 w1.Query) fun y3 =>
  sel y3 (
   Ze (YD w1.Todo (ZJ ((w1.Todo.length:Int) - 1))) fun e4 =>
   some (e4,true)) (
   Ze (YD w1.Todo 0) fun e5 =>
   some (e5,true)))
instance Zrf {w1}:SpO (Zb3 w1) fun y=>Sp 174 [.a (Zc.vs w1)] [] (.t [.a (Rng.vs y.1),vB y.2]) []:=⟨fun hm=>by
 refine si Tryz.func174 Tryz.ntmps174 Tryz.results174 fun B w0 ρ0=>?_
 exact az0 hm⟩
def Qg (v1:Zr):Option Bool :=
 bnd (Y6 v1.Owner) fun y2 =>
 sel y2 (
  bnd (ZU v1.Interval) fun y3 =>
  sel (!y3) (
   bnd (Qv v1.Stamp) fun y4 =>
   sel y4 (
    Ze (Y7 v1.Rows) fun y5 =>
    sel y5 (
     bnd (Xo v1.Rows v1.Interval) fun y6 =>
     some y6) (
     some false)) (
    some false)) (
   some false)) (
  some false)
instance Zlv {v1}:SpO (Qg v1) fun y=>Sp 159 [.a (Zr.vs v1)] [] (vB y) []:=⟨fun hm=>by
 refine si Tryz.func159 Tryz.ntmps159 Tryz.results159 fun B w0 ρ0=>?_
 exact az0 hm⟩
def Zdm (w1:Zc) (v2:Zr):Option (Zc × Int) :=
 Ze (Zb3 w1) fun y3 =>
 sel (!y3.2) (
  some ((Zc.mk (Zf.mk 0 [] ⟨#[]⟩ 0) [] []),7)) (
  Ze (Qg v2) fun y4 =>
  sel (!y4) (
   some ((Zc.mk (Zf.mk 0 [] ⟨#[]⟩ 0) [] []),1)) (
   bnd (X0 w1.Query) fun y5 =>
   Ze (
    sel (!y5) (
     bnd (Zk v2.Interval.lo y3.1.lo) fun y6 =>
     sel (decide (0<y6)) (
      some true) (
      bnd (Zk v2.Interval.hi y3.1.lo) fun y7 =>
      sel (decide (y7≤0)) (
       some true) (
       sel y5 (
        bnd (Zk v2.Interval.hi y3.1.hi) fun y8 =>
        sel (decide (y8<0)) (
         some true) (
         bnd (Zk v2.Interval.lo y3.1.hi) fun y9 =>
         some (decide (0≤y9)))) (
        some false)))) (
     sel y5 (
      bnd (Zk v2.Interval.hi y3.1.hi) fun y10 =>
      sel (decide (y10<0)) (
       some true) (
       bnd (Zk v2.Interval.lo y3.1.hi) fun y11 =>
       some (decide (0≤y11)))) (
      some false)):Option Bool) fun x12 =>
   sel x12 (
    some ((Zc.mk (Zf.mk 0 [] ⟨#[]⟩ 0) [] []),12)) (
    bnd (XH v2.Interval y3.1) fun y13 =>
    Ze (YO v2.Rows y13) fun y14 =>
    sel y5 (
     Ze (app ([(Zi.mk (Zr.mk v2.Owner v2.Interval v2.Stamp y14) y13)]:List Zi) w1.Visits) fun l15 =>
     Ze (lsl w1.Todo 0 (ZJ ((w1.Todo.length:Int) - 1))) fun l16 =>
     Ze (app ([]:List Rng) l16) fun l17 =>
     bnd (ZU (Rng.mk y3.1.lo y13.lo)) fun y18 =>
     sel (!y18) (
      Ze (app l17 ([(Rng.mk y3.1.lo y13.lo)]:List Rng)) fun l19 =>
      some ((Zc.mk w1.Query l19 l15),0)) (
      some ((Zc.mk w1.Query l17 l15),0))) (
     Ze (app ([]:List Zi) w1.Visits) fun l20 =>
     Ze (app l20 ([(Zi.mk (Zr.mk v2.Owner v2.Interval v2.Stamp y14) y13)]:List Zi)) fun l21 =>
     bnd (ZU (Rng.mk y13.hi y3.1.hi)) fun y22 =>
     Ze (
      sel (!y22) (
       Ze (app ([]:List Rng) ([(Rng.mk y13.hi y3.1.hi)]:List Rng)) fun l23 =>
       some l23) (
       some []):Option (List Rng)) fun rest24 =>
     Ze (lsl w1.Todo 1 (w1.Todo.length:Int)) fun l25 =>
     Ze (app rest24 l25) fun l26 =>
     some ((Zc.mk w1.Query l26 l21),0)))))
instance Zq0 {w1} {v2}:SpO (Zdm w1 v2) fun y=>Sp 175 [.a (Zc.vs w1),.a (Zr.vs v2)] [] (.t [.a (Zc.vs y.1),vI y.2]) []:=⟨fun hm=>by
 refine si Tryz.func175 Tryz.ntmps175 Tryz.results175 fun B w0 ρ0=>?_
 refine bo hm fun y3 hm=>?_
 refine co hm (fun hm=>?_) fun hm=>?_
 ·exact YF hm
 refine bo hm fun y4 hm=>?_
 refine co hm (fun hm=>?_) fun hm=>?_
 ·exact YF hm
 refine bp hm fun y5 hm=>?_
 refine sr ?_
 refine Zg ?_
 refine Zg ?_
 refine jo1 hm [2,3,4,6,8,9] [102,103,104,106,109] (fun x12=>[(66,vB x12)]) (fun _ hm hm1=>?_) (fun x12 hm=>?_)
 ·exact az1 hm hm1
 refine co hm (fun hm=>?_) fun hm=>?_
 ·exact YF hm
 refine bp hm fun y13 hm=>?_
 refine bo hm fun y14 hm=>?_
 refine co hm (fun hm=>?_) fun hm=>?_
 ·refine sr ?_
  refine Zlw (Zwo (k:=181) Zi.ds [(Zi.mk (Zr.mk v2.Owner v2.Interval v2.Stamp y14) y13)] rfl rfl rfl rfl (by simp only [YB,Zq,List.cons_append,List.nil_append,List.append_nil]; exact rfl) rfl rfl) rfl rfl rfl rfl ?_
  refine bo hm fun l15 hm=>?_
  refine bo hm fun l16 hm=>?_
  refine bo hm fun l17 hm=>?_
  refine bp hm fun y18 hm=>?_
  refine co hm (fun hm=>?_) fun hm=>?_
  ·refine sr ?_
   refine Zaq Rng.ds [(Rng.mk y3.1.lo y13.lo)] rfl rfl (by simp only [YB,Zq,List.cons_append,List.nil_append,List.append_nil]; exact rfl) rfl rfl rfl rfl rfl rfl ?_
   exact az0 hm
  exact YF hm
 refine Zg ?_
 refine Zy (id:=20) [⟨0,0,[2]⟩,⟨1,1,[105]⟩,⟨2,3,[106]⟩,⟨3,0,[11]⟩,⟨4,8,[108]⟩,⟨5,31,[107,109]⟩,⟨6,63,[2]⟩,⟨7,127,[110,111]⟩] mixed (by kernel_rfl) ?_
 refine bo hm fun l20 hm=>?_
 refine ss ?_
 refine ZeP Zi.ds [(Zi.mk (Zr.mk v2.Owner v2.Interval v2.Stamp y14) y13)] rfl rfl (by simp only [YB,Zq,List.cons_append,List.nil_append,List.append_nil]; exact rfl) rfl rfl rfl rfl (by first | exact .no rfl | exact .y rfl rfl rfl rfl) rfl rfl ?_
 refine bo hm fun l21 hm=>?_
 refine bp hm fun y22 hm=>?_
 refine ss ?_
 refine jo1 hm [2,4] [102,104,210] (fun rest24=>[(12,.h 5001)]) (fun _ hm hm1=>?_) (fun rest24 hm=>?_) (B:=(fun rest24=>[(5001,some (YY 72 4 Rng.ds rest24))]))
 ·refine co hm1 (fun hm1=>?_) fun hm1=>?_
  ·refine sr ?_
   refine Zaq Rng.ds [(Rng.mk y13.hi y3.1.hi)] rfl rfl (by simp only [YB,Zq,List.cons_append,List.nil_append,List.append_nil]; exact rfl) rfl rfl rfl rfl rfl rfl ?_
   refine bo hm1 fun l23 hm1=>?_
   exact Zxw [(102,102),(104,104),(210,210),(5001,221)] hm hm1
  refine sx ?_
  cases hm1
  refine WK.of_wk (ZbY 12 5001 72 4 rfl rfl) ?_
  exact Zey [(102,102),(104,104),(210,210),(5001,5001)] ⟨_,rfl,rfl⟩
 exact az0 hm⟩
theorem Zqq {w:World} {n:Nat} (a0 b0:Int) (a1 b1:Int):(Op.equalIn (n+2) 74 (.agg #[.int .i64 a0,.int .i64 a1]) (.agg #[.int .i64 b0,.int .i64 b1])).run Tryz.prog w=.ok (decide (a0=b0) && decide (a1=b1)) w:=by
 rw [show n + 2 = (n + 1) + 1 from rfl, run_equalIn_struct (P := Tryz.prog) w (n + 1) 74 _ _ (by kernel_rfl) (by kernel_rfl), show (Tryz.prog.fieldsOf 74).toList = [⟨"Epoch", 3, 0, false, "", "", 0⟩, ⟨"Version", 3, 1, false, "", "", 8⟩] from by kernel_rfl]
 simp [Op.eqFields,part,Result.andThen,Zjj,ZeQ,ZbG (T:=3) (inferInstance:Ty Tryz.prog 3 _ _),XX (T:=3) (inferInstance:Ty Tryz.prog 3 _ _),run_equalIn_int (P:=Tryz.prog) _ _ 3 .i64 .i64 _ _ (by kernel_rfl)]
 all_goals ((repeat' split) <;> simp_all)
instance ZAU (a0 b0:Int) (a1 b1:Int):Eqs Tryz.prog 74 [.int .i64 a0,.int .i64 a1] [.int .i64 b0,.int .i64 b1] (decide (a0=b0) && decide (a1=b1)):=⟨by kernel_rfl,fun w=>Zqq (n:=9998) a0 b0 a1 b1⟩
def Zai (a1:Zi) (b2:Zi):Option Bool :=
 sel (decide (a1.View.Owner=b2.View.Owner)) (
  sel (decide (a1.View.Stamp.Epoch=b2.View.Stamp.Epoch) && decide (a1.View.Stamp.Version=b2.View.Stamp.Version)) (
   bnd (ZQ a1.View.Interval b2.View.Interval) fun y3 =>
   sel y3 (
    bnd (ZQ a1.Part b2.Part) fun y4 =>
    sel y4 (
     Ze (Zb4 a1.View.Rows b2.View.Rows) fun y5 =>
     some y5) (
     some false)) (
    some false)) (
   some false)) (
  some false)
instance Zln {a1} {b2}:SpO (Zai a1 b2) fun y=>Sp 162 [.a (Zi.vs a1),.a (Zi.vs b2)] [] (vB y) []:=⟨fun hm=>by
 refine si Tryz.func162 Tryz.ntmps162 Tryz.results162 fun B w0 ρ0=>?_
 exact az0 hm⟩
def Y4 (a1:List Zi) (b2:List Zi):List Zi→Int→Option (Ctl Bool Unit)
 | [],i =>
 some (Ctl.nxt ())
 | r3::xs4,i =>
 Ze (YD a1 i) fun e6 =>
 Ze (YD b2 i) fun e7 =>
 Ze (Zai e6 e7) fun y8 =>
 sel (!y8) (
  some (Ctl.ret false)) (
  Y4 a1 b2 xs4 (i+1))
def QS (a1:List Zi) (b2:List Zi):Option Bool :=
 sel (!decide ((a1.length:Int)=(b2.length:Int))) (
  some false) (
  Ze (
   Y4 a1 b2 a1 0:Option (Ctl Bool Unit)) fun mu=>Yz mu fun (_:Unit) =>
  some true)
instance Zkj {a1} {b2}:SpO (QS a1 b2) fun y=>Sp 103 [.d (lst Zi.ds a1),.d (lst Zi.ds b2)] [] (vB y) []:=⟨fun hm=>by
 refine si Tryz.func103 Tryz.ntmps103 Tryz.results103 fun B w0 ρ0=>?_
 refine co hm (fun hm=>?_) fun hm=>?_
 ·exact YF hm
 refine sx ?_
 refine sr ?_
 refine jc0 hm [] [] [] (fun _ hm hm1=>?_) (fun hm=>?_)
 ·refine Zm ?_
  refine Zrq hm1 0 [0,1,12] [] (fun m5=>[(13,vI (m5:Int))]) (fun hlenm5 m5 r3 hltm5 hxm5 hm1=>?_) (fun m5 hm1=>?_)
  ·refine sx ?_
   refine sr ?_
   refine Zg ?_
   refine Zy (id:=6) [⟨0,0,[0]⟩,⟨1,0,[5]⟩,⟨2,3,[16,17]⟩,⟨3,7,[18]⟩,⟨4,0,[1]⟩,⟨5,0,[5]⟩,⟨6,48,[20,21]⟩,⟨7,112,[22]⟩,⟨8,255,[19,23]⟩,⟨9,511,[24]⟩] mixed (by kernel_rfl) ?_
   refine bo hm1 fun e6 hm1=>?_
   refine bo hm1 fun e7 hm1=>?_
   refine bo hm1 fun y8 hm1=>?_
   refine co hm1 (fun hm1=>?_) fun hm1=>?_
   ·exact ZcF hm hm1
   exact eb1 hm hm1
  exact ZbU hm hm1
 exact YF hm⟩
def YX (r8:ByteArray) (r9:Bool):List Bnd→ByteArray→Bool→Option (ByteArray × Bool)
 | [],x11,x12 =>
 some (x11,x12)
 | r13::xs14,x11,x12 =>
 bnd (Z4 r13) fun y16 =>
 sel y16 (
  bnd (Zk r13 (Bnd.mk r8 r9)) fun y17 =>
  sel (decide (0<y17)) (
   bnd (Zk r13 (Bnd.mk x11 x12)) fun y18 =>
   sel (decide (y18<0)) (
    YX r8 r9 xs14 r13.key r13.top) (
    YX r8 r9 xs14 x11 x12)) (
   YX r8 r9 xs14 x11 x12)) (
  YX r8 r9 xs14 x11 x12)
def YV (cuts2:List Bnd) (r4:Rng):Nat→List Rng→ByteArray→Bool→Option (List Rng)
 | 0,_,_,_=>none
 | fuel+1,out7,r8,r9 =>
 bnd (ZU (Rng.mk (Bnd.mk r8 r9) r4.hi)) fun y10 =>
 Ze (
  sel (!y10) (
   some (Ctl.nxt ())) (
   some (Ctl.ret out7)):Option (Ctl (List Rng) Unit)) fun mu=>Yz mu fun (_:Unit) =>
 Ze (
  Ze (
   YX r8 r9 cuts2 r4.hi.key r4.hi.top:Option (ByteArray × Bool)) fun (x19,x20) =>
  Ze (app out7 ([(Rng.mk (Bnd.mk r8 r9) (Bnd.mk x19 x20))]:List Rng)) fun l21 =>
  some (l21,x19,x20):Option (List Rng × ByteArray × Bool)) fun (out22,r23,r24) =>
 YV cuts2 r4 fuel out22 r23 r24
def QE (cuts2:List Bnd):List Rng→List Rng→Option (List Rng)
 | [],out3 =>
 some out3
 | r4::xs5,out3 =>
 Ze (
  Ze (
   YV cuts2 r4 FU out3 r4.lo.key r4.lo.top:Option (List Rng)) fun out25 =>
  some out25:Option (List Rng)) fun out26 =>
 QE cuts2 xs5 out26
def ZaB (l1:List Rng) (cuts2:List Bnd):Option (List Rng) :=
 Ze (
  QE cuts2 l1 []:Option (List Rng)) fun out27 =>
 some out27
instance ZqI {l1} {cuts2}:SpO (ZaB l1 cuts2) fun y=>Sp 18 [.d (lst Rng.ds l1),.d (lst Bnd.ds cuts2)] [] (.d (lst Rng.ds y)) []:=⟨fun hm=>by
 refine si Tryz.func18 Tryz.ntmps18 Tryz.results18 fun B w0 ρ0=>?_
 refine sr ?_
 refine sr ?_
 refine sr ?_
 refine jo1 hm [] [] (fun out27=>[(5,.d (lst Rng.ds out27))]) (fun _ hm hm1=>?_) (fun out27 hm=>?_)
 ·refine Zm ?_
  refine ZbW (ZbY 5 5001 72 4 rfl rfl) ?_
  refine lr1 hm1 11 [1,11,12] [] (fun m6 out3=>[(5,.h 5001),(13,vI (m6:Int))]) (fun hlenm6 m6 out3 r4 hltm6 hxm6 hm1=>?_) (fun m6 out3 hm1=>?_) (B:=(fun m6 out3=>[(5001,some (YY 72 4 Rng.ds out3))]))
  ·refine sx ?_
   refine Zg ?_
   refine jo1 hm1 [1,11,12,13] [] (fun out26=>[(5,.h 5005)]) (fun _ hm1 hm2=>?_) (fun out26 hm1=>?_) (B:=(fun out26=>[(5005,some (YY 72 4 Rng.ds out26))]))
   ·refine sr ?_
    refine ZL (Zc3 hxm6 rfl rfl rfl rfl) rfl rfl rfl ?_
    refine ss ?_
    refine jo1 hm2 [1,11,12,13] [] (fun out25=>[(5,.h 5004)]) (fun _ hm2 hm3=>?_) (fun out25 hm2=>?_) (B:=(fun out25=>[(5004,some (YY 72 4 Rng.ds out25))]))
    ·refine Zm ?_
     refine lf3 hm3 [1,7,11,12,13] [] (fun out7 r8 r9=>[(5,.h 5002)]) (fun κ out7 r8 r9 hm3=>?_) (B:=(fun out7 r8 r9=>[(107,some (.box 72 (Rng.vs (Rng.mk (Bnd.mk r8 r9) r4.hi)))),(5002,some (YY 72 4 Rng.ds out7))])) (f:=[(107,107),(5002,5001)])
     refine bp hm3 fun y10 hm3=>?_
     refine ss ?_
     refine jc0 hm3 [1,5,7,11,12,13] [107,5002] [] (fun _ hm3 hm4=>?_) (fun hm3=>?_)
     ·refine co hm4 (fun hm4=>?_) fun hm4=>?_
      ·exact Zze hm hm1 hm2 hm3 hm4
      exact Zzo [(5004,5002)] hm hm1 hm2 hm3 hm4
     refine ss ?_
     refine jo3 hm3 [1,7,11,12,13] [] (fun out22 r23 r24=>[(5,.h 5003)]) (fun _ hm3 hm4=>?_) (fun out22 r23 r24 hm3=>?_) (B:=(fun out22 r23 r24=>[(107,some (.box 72 (Rng.vs (Rng.mk (Bnd.mk r23 r24) r4.hi)))),(5003,some (YY 72 4 Rng.ds out22))]))
     ·refine sr ?_
      refine sr ?_
      refine jo2 hm4 [1,5,7,8,11,12,13] [107,5002] (fun x19 x20=>[]) (fun _ hm4 hm5=>?_) (fun x19 x20 hm4=>?_) (B:=(fun x19 x20=>[(108,some (.box 72 [vS r8,vB r9,vS x19,vB x20]))]))
      ·refine Zm ?_
       refine lr2 hm5 21 [1,5,7,8,11,12,13,21,22] [107,5002] (fun m15 x11 x12=>[(23,vI (m15:Int))]) (fun hlenm15 m15 x11 x12 r13 hltm15 hxm15 hm5=>?_) (fun m15 x11 x12 hm5=>?_) (B:=(fun m15 x11 x12=>[(108,some (.box 72 [vS r8,vB r9,vS x11,vB x12]))]))
       ·refine bp hm5 fun y16 hm5=>?_
        refine co hm5 (fun hm5=>?_) fun hm5=>?_
        ·refine bp hm5 fun y17 hm5=>?_
         refine co hm5 (fun hm5=>?_) fun hm5=>?_
         ·refine bp hm5 fun y18 hm5=>?_
          refine co hm5 (fun hm5=>?_) fun hm5=>?_
          ·refine sr ?_
           refine sr ?_
           refine ZL (ZeO hltm15 hlenm15 rfl rfl rfl) rfl rfl rfl ?_
           refine ss ?_
           exact Zbk [(107,107),(108,108),(5002,5002)] ⟨m15+1,_,_,rfl,hltm15,hm5,rfl⟩ (by omega)
          refine sx ?_
          refine sr ?_
          refine ZL (ZeO hltm15 hlenm15 rfl rfl rfl) rfl rfl rfl ?_
          refine ss ?_
          exact Zbk [(107,107),(108,108),(5002,5002)] ⟨m15+1,_,_,rfl,hltm15,hm5,rfl⟩ (by omega)
         refine ss ?_
         refine Yf rfl ?_
         refine sx ?_
         refine sr ?_
         refine ZL (ZeO hltm15 hlenm15 rfl rfl rfl) rfl rfl rfl ?_
         refine ss ?_
         exact Zbk [(107,107),(108,108),(5002,5002)] ⟨m15+1,_,_,rfl,hltm15,hm5,rfl⟩ (by omega)
        refine ss ?_
        refine Yf rfl ?_
        refine sx ?_
        refine sr ?_
        refine ZL (ZeO hltm15 hlenm15 rfl rfl rfl) rfl rfl rfl ?_
        refine ss ?_
        exact Zbk [(107,107),(108,108),(5002,5002)] ⟨m15+1,_,_,rfl,hltm15,hm5,rfl⟩ (by omega)
       refine XA ?_
       refine ss ?_
       cases hm5
       exact Zey [(107,107),(108,108),(5002,5002)] ⟨_,_,rfl,rfl⟩
      refine sr ?_
      refine Zaq Rng.ds [(Rng.mk (Bnd.mk r8 r9) (Bnd.mk x19 x20))] rfl rfl (by simp only [YB,Zq,List.cons_append,List.nil_append,List.append_nil]; exact rfl) rfl rfl rfl rfl rfl rfl ?_
      refine bo hm4 fun l21 hm4=>?_
      exact Zz4 [(107,107),(5003,149)] hm hm1 hm2 hm3 hm4
     exact Zzm [(107,107),(5002,5003)] hm hm1 hm2 hm3
    exact Zvi [(5005,5004)] hm hm1 hm2
   exact Zh5 [(5001,5005)] hm hm1
  exact ZbU hm hm1
 exact YF hm⟩
end Go.Proofs.YtkcmgbbopedacaaGreatDoor
