/-
  Lemmas: Models and walks
-/
import Derived.Test.YtkcmgbbopedacaaGreatDoorPX18
import Derived.Test.YtkcmgbbopedacaaGreatDoorPX24
import Derived.Test.YtkcmgbbopedacaaGreatDoorPX25
import Derived.Test.YtkcmgbbopedacaaGreatDoorPX31
set_option linter.unusedSimpArgs false
set_option linter.unusedVariables false
namespace Go.Proofs.YtkcmgbbopedacaaGreatDoor
open Go.RowKit
set_option maxRecDepth 100000
set_option maxHeartbeats 4000000
attribute [local irreducible] WK WC WL Wk Rel OpD OpV WD WO sel bnd Zc app Yn lsl ZiR ssl ZgG ZfZ ZiQ ZhF Op.bytesLess
attribute [local irreducible] Zcb YC union mlk Zsn Zsx Zso cpy Zc6
def ZZ (l1:List Bnd):Option (List Bnd) :=
 Zc (app ([]:List Bnd) l1) fun l2 =>
 some l2
instance Zge {l1}:SpO (ZZ l1) fun y=>Sp 65 [.d (lst Bnd.ds l1)] [] (.d (lst Bnd.ds y)) []:=⟨fun hm=>by
 refine si Tryz.func65 Tryz.ntmps65 Tryz.results65 fun B w0 ρ0=>?_
 exact az0 hm⟩
theorem Zby {l1:List Bnd} {y:List Bnd} (hm:ZZ l1=some y):Spec Tryz.prog 65 [.d (lst Bnd.ds l1)] [] fun u h=>u=.h 1∧h=[(1,some (YH 32 2 Bnd.ds y))]:=by
 refine si Tryz.func65 Tryz.ntmps65 Tryz.results65 fun B w0 ρ0=>?_
 refine bo hm fun l2 hm=>?_
 exact Zoy [(1,104)] hm
def Zdf (i1:Int) (j2:Int) (c3:List Bnd):Option Bool :=
 Zc (Yn c3 i1) fun e4 =>
 Zc (Yn c3 j2) fun e5 =>
 bnd (Zm e4 e5) fun y6 =>
 some (decide (y6<0))
theorem Zes {i1:Int} {j2:Int} {c3:List Bnd} {y:Bool} (hm:Zdf i1 j2 c3=some y):Spec Tryz.prog 67 [vI i1,vI j2,.q [lst Bnd.ds c3]] [] fun u h=>u=vB y∧h=[]:=by
 refine si Tryz.func67 Tryz.ntmps67 Tryz.results67 fun B w0 ρ0=>?_
 refine sr ?_
 refine Zg ?_
 refine ZC (id:=1) [⟨0,0,[2]⟩,⟨1,0,[0]⟩,⟨2,3,[6,7]⟩,⟨3,7,[8]⟩,⟨4,0,[2]⟩,⟨5,0,[1]⟩,⟨6,48,[10,11]⟩,⟨7,112,[12]⟩,⟨8,255,[9,13]⟩,⟨9,511,[14]⟩,⟨10,1023,[15]⟩] mixed (by kernel_rfl) ?_
 exact az0 hm
def Xo (l4:List Bnd) (r6:Rng):Nat→List Rng→ByteArray→Bool→Int→Option (List Rng × ByteArray × Bool)
 | 0,_,_,_,_=>none
 | fuel+1,out10,r11,r12,x13 =>
 Zc (
  sel (decide (x13<(l4.length:Int))) (
   some (Ctl.nxt ())) (
   some (Ctl.ret (out10,r11,r12))):Option (Ctl (List Rng × ByteArray × Bool) Unit)) fun mu=>YB mu fun (_:Unit) =>
 Zc (Yn l4 x13) fun e14 =>
 Zc (
  bnd (Yf e14) fun y15 =>
  sel y15 (
   bnd (Zm e14 (Bnd.mk r11 r12)) fun y16 =>
   sel (decide (0<y16)) (
    bnd (Zm e14 r6.hi) fun y17 =>
    some (decide (y17<0))) (
    some false)) (
   some false):Option Bool) fun x18 =>
 sel x18 (
  Zc (app out10 ([(Rng.mk (Bnd.mk r11 r12) e14)]:List Rng)) fun l19 =>
  Xo l4 r6 fuel l19 e14.key e14.top (Z6 (x13+1))) (
  Xo l4 r6 fuel out10 r11 r12 (Z6 (x13+1)))
def X3 (l4:List Bnd):List Rng→List Rng→Option (List Rng)
 | [],out5 =>
 some out5
 | r6::xs7,out5 =>
 Zc (
  bnd (ZU r6) fun y9 =>
  Zc (
   sel y9 (
    some (Ctl.ret out5)) (
    some (Ctl.nxt ())):Option (Ctl (List Rng) Unit)) fun mu=>YB mu fun (_:Unit) =>
  Zc (
   Xo l4 r6 FU out5 r6.lo.key r6.lo.top 0:Option (List Rng × ByteArray × Bool)) fun (out20,r21,r22) =>
  Zc (app out20 ([(Rng.mk (Bnd.mk r21 r22) r6.hi)]:List Rng)) fun l23 =>
  some l23:Option (List Rng)) fun out24 =>
 X3 l4 xs7 out24
def ZbM (l1:List Rng) (cuts2:List Bnd):Option (List Rng) :=
 Zc (ZZ cuts2) fun y3 =>
 Zc (Zc6 (fun e4 e5=>bnd (Zm e4 e5) fun y6=>decide (y6<0)) y3) fun l4 =>
 Zc (
  X3 l4 l1 []:Option (List Rng)) fun out25 =>
 some out25
instance Zoi {l1} {cuts2}:SpO (ZbM l1 cuts2) fun y=>Sp 17 [.d (lst Rng.ds l1),.d (lst Bnd.ds cuts2)] [] (.d (lst Rng.ds y)) []:=⟨fun hm=>by
 refine si Tryz.func17 Tryz.ntmps17 Tryz.results17 fun B w0 ρ0=>?_
 refine sr ?_
 refine sr ?_
 obtain ⟨y3,hy,hm⟩:=ZK hm
 refine ZeC (u':=.h 201101) (h':=[(201101,some (YH 32 2 Bnd.ds y3))]) (Zby (hm:=hy)) 201100 rfl rfl rfl (by repeat (first | exact Vws.nil | apply Vws.cons | exact Vw.nil | exact Vw.d _ | exact Vw.q _ | apply Vw.a)) rfl (by (try simp only [Zec,Option.map_some,Blk.ren,ZbA]); rfl) rfl rfl rfl rfl ?_
 refine sr ?_
 refine ZJ (Zr1 rfl rfl Tryz.underlying24 rfl) rfl rfl rfl ?_
 refine ss ?_
 refine ZJ (ZtG rfl rfl) rfl rfl rfl ?_
 refine ss ?_
 obtain ⟨l4,hy,hm⟩:=ZK hm
 refine Zt7 (fv:=(fun (x:Bnd)=>[.string x.key,.bool x.top])) (kb:=103) hy Zvn (fun _=>rfl) (fun _=>rfl) (by simp [Value.oneCell']) (fun ys i j a b ha hb=>Zes (hm:=by simp only [Zdf,ZqZ ha,ZqZ hb,Za,Zr])) rfl rfl rfl rfl rfl rfl rfl rfl rfl ?_
 refine sr ?_
 refine sr ?_
 refine jo1 hm [] [] (fun out25=>[(5,.d (lst Rng.ds out25))]) (fun _ hm hm1=>?_) (fun out25 hm=>?_)
 ·refine Zq ?_
  refine ZbQ (ZbX 5 5001 72 4 rfl rfl) ?_
  refine lr1 hm1 16 [3,16,17] [103,201101] (fun m8 out5=>[(5,.h 5001),(18,vI (m8:Int))]) (fun hlenm8 m8 out5 r6 hltm8 hxm8 hm1=>?_) (fun m8 out5 hm1=>?_) (B:=(fun m8 out5=>[(5001,some (YH 72 4 Rng.ds out5))]))
  ·refine sx ?_
   refine Zg ?_
   refine jo1 hm1 [3,16,17,18] [103,201101] (fun out24=>[(5,.h 5004)]) (fun _ hm1 hm2=>?_) (fun out24 hm1=>?_) (B:=(fun out24=>[(5004,some (YH 72 4 Rng.ds out24))]))
   ·refine bp hm2 fun y9 hm2=>?_
    refine ss ?_
    refine jc0 hm2 [3,5,7,16,17,18] [103,107,5001,201101] [] (fun _ hm2 hm3=>?_) (fun hm2=>?_)
    ·refine co hm3 (fun hm3=>?_) fun hm3=>?_
     ·exact ZwP [(103,103),(5004,5001),(201101,201101)] hm hm1 hm2 hm3
     exact Zss hm hm1 hm2 hm3
    refine sr ?_
    refine jo3 hm2 [3,7,16,17,18] [103,201101] (fun out20 r21 r22=>[(5,.h 5003)]) (fun _ hm2 hm3=>?_) (fun out20 r21 r22 hm2=>?_) (B:=(fun out20 r21 r22=>[(107,some (.box 72 (Rng.vs (Rng.mk (Bnd.mk r21 r22) r6.hi)))),(5003,some (YH 72 4 Rng.ds out20))]))
    ·refine Zq ?_
     refine lf4 hm3 [3,7,16,17,18,24,25] [103,201101] (fun out10 r11 r12 x13=>[(5,.h 5002),(26,vI x13)]) (fun κ out10 r11 r12 x13 hm3=>?_) (B:=(fun out10 r11 r12 x13=>[(107,some (.box 72 (Rng.vs (Rng.mk (Bnd.mk r11 r12) r6.hi)))),(5002,some (YH 72 4 Rng.ds out10))])) (f:=[(103,103),(107,107),(5002,5001),(201101,201101)])
     refine sr ?_
     refine Zg ?_
     refine jc0 hm3 [3,5,7,16,17,18,24,25,26] [103,107,5002,201101] [] (fun _ hm3 hm4=>?_) (fun hm3=>?_)
     ·refine co hm4 (fun hm4=>?_) fun hm4=>?_
      ·exact Zv9 hm hm1 hm2 hm3 hm4
      exact ZvV [(103,103),(107,107),(5003,5002),(201101,201101)] hm hm1 hm2 hm3 hm4
     refine bo' hm3 fun e14 hge14 hm3=>?_
     refine ss ?_
     refine ZJ (ZhL (k:=201101) (f:=Bnd.ds) (zz:=2) (u:=.a [vS e14.key,vB e14.top]) (off:=0) hge14 rfl rfl rfl (by exact inferInstance) rfl rfl) rfl rfl rfl ?_
     refine ss ?_
     refine Zg ?_
     refine jo1 hm3 [3,5,7,9,16,17,18,24,25,26] [103,107,109,5002,201101] (fun x18=>[(45,vB x18)]) (fun _ hm3 hm4=>?_) (fun x18 hm3=>?_)
     ·exact az4 hm hm1 hm2 hm3 hm4
     refine co hm3 (fun hm3=>?_) fun hm3=>?_
     ·refine sr ?_
      refine XL Rng.ds [(Rng.mk (Bnd.mk r11 r12) e14)] rfl rfl (by simp only [Z8,Zn,List.cons_append,List.nil_append,List.append_nil]; exact rfl) rfl rfl rfl rfl rfl rfl ?_
      refine bo hm3 fun l19 hm3=>?_
      refine sr ?_
      refine sr ?_
      refine ZJ (YJ rfl rfl rfl rfl) rfl rfl rfl ?_
      refine ss ?_
      exact Zwc [(103,103),(107,107),(5002,152),(201101,201101)] hm hm1 hm2 hm3
     refine sx ?_
     refine sr ?_
     refine ZJ (YJ rfl rfl rfl rfl) rfl rfl rfl ?_
     refine ss ?_
     exact eb3 hm hm1 hm2 hm3
    refine sr ?_
    refine XL Rng.ds [(Rng.mk (Bnd.mk r21 r22) r6.hi)] rfl rfl (by simp only [Z8,Zn,List.cons_append,List.nil_append,List.append_nil]; exact rfl) rfl rfl rfl rfl rfl rfl ?_
    refine bo hm2 fun l23 hm2=>?_
    exact Zui [(103,103),(5004,159),(201101,201101)] hm hm1 hm2
   exact ZhJ [(103,103),(5001,5004),(201101,201101)] hm hm1
  exact ZcD hm hm1
 exact Yw hm⟩
def Yj (r8:Rng):List Bnd→Int→Option Int
 | [],zone11 =>
 some zone11
 | r12::xs13,zone11 =>
 bnd (Zm r12 r8.lo) fun y15 =>
 sel (decide (y15≤0)) (
  Yj r8 xs13 (Z6 (zone11+1))) (
  Yj r8 xs13 zone11)
def Yt (cuts2:List Bnd):List Rng→List (List Rng)→Int→Option (List (List Rng))
 | [],out6,last7 =>
 some out6
 | r8::xs9,out6,last7 =>
 Zc (
  Zc (
   Yj r8 cuts2 0:Option Int) fun zone16 =>
  Zc (
   sel (!decide (zone16=last7)) (
    Zc (app out6 ([[]]:List (List Rng))) fun l17 =>
    some (l17,zone16)) (
    some (out6,last7)):Option (List (List Rng) × Int)) fun (out18,last19) =>
  Zc (Yn out18 (Z6 ((out18.length:Int) - 1))) fun e20 =>
  Zc (app e20 ([r8]:List Rng)) fun l21 =>
  Zc (Yn out18 (Z6 ((out18.length:Int) - 1))) fun e22 =>
  bnd (l21) fun e23 =>
  bnd (out18.set (Int.toNat (Z6 ((out18.length:Int) - 1))) e23) fun l24 =>
  some (l24,last19):Option (List (List Rng) × Int)) fun (out25,last26) =>
 Yt cuts2 xs9 out25 last26
def XX (q1:Zj) (cuts2:List Bnd):Option (List (List Rng)) :=
 Zc (Y9 q1) fun y3 =>
 Zc (
  sel (!decide (q1.Kind=1)) (
   some (!decide (q1.Kind=2))) (
   some false):Option Bool) fun x4 =>
 sel x4 (
  sel (decide ((y3.length:Int)=0)) (
   some []) (
   some ([y3]:List (List Rng)))) (
  Zc (ZbM y3 cuts2) fun y5 =>
  Zc (
   Yt cuts2 y5 [] (-1):Option (List (List Rng))) fun out27 =>
  some out27)
instance Zow {q1} {cuts2}:SpO (XX q1 cuts2) fun y=>Sp 137 [.a (Zj.vs q1),.d (lst Bnd.ds cuts2)] [] (.d (lst (dsL Rng.ds) y)) []:=⟨fun hm=>by
 refine si Tryz.func137 Tryz.ntmps137 Tryz.results137 fun B w0 ρ0=>?_
 refine sr ?_
 refine sr ?_
 obtain ⟨y3,hy,hm⟩:=ZK hm
 refine Zi6 (Zcz (hm:=hy)) ?_
 refine ss ?_
 refine Zg ?_
 refine Zg ?_
 obtain ⟨mu1,hm1,hm⟩:=ZK hm
 refine YP (fun st=>∃ (x4:Bool),x4=mu1∧st=⟨[(1,.d (lst Bnd.ds cuts2)),(5,.d (lst Rng.ds y3)),(22,vB x4)],[]⟩) ?_ ?_
 ·refine co hm1 (fun hm1=>?_) fun hm1=>?_
  ·refine ss ?_
   cases hm1
   exact XD [] ⟨_,rfl,rfl⟩
  refine ss ?_
  cases hm1
  exact XD [] ⟨_,rfl,rfl⟩
 rintro _ ⟨x4,rfl,rfl⟩
 refine co hm (fun hm=>?_) fun hm=>?_
 ·refine co hm (fun hm=>?_) fun hm=>?_
  ·refine sr ?_
   refine sx ?_
   cases hm
   exact Zi0
  refine sx ?_
  refine sr ?_
  refine XL (dsL Rng.ds) [y3] rfl rfl (by simp only [Z8,Zn,List.cons_append,List.nil_append,List.append_nil]; exact rfl) rfl rfl rfl rfl rfl rfl ?_
  refine sx ?_
  cases hm
  exact Zi0
 refine bo hm fun y5 hm=>?_
 refine ss ?_
 obtain ⟨mu1,hm1,hm⟩:=ZK hm
 refine YP (fun st=>∃ (out27:List (List Rng)),out27=mu1∧st=⟨[(6,.hx 5007)],[(5007,some (.hd)),(5008,some (axT 5007 23 1 72 4 (fun (x:List Rng)=>([]:List D)) (fun (x:List Rng)=>x) Rng.ds (fun (x:List Rng)=>([]:List D)) out27 none))]⟩) ?_ ?_
 ·refine Zq ?_
  refine ZbQ (Zr3 6 5001 23 1 72 4 rfl rfl) ?_
  refine ZeE 30 rfl (fun hlenm10=>?_)
  refine ZdR (fun κ st=>∃ (m10:Nat) (out6:List (List Rng)) (last7:Int),κ=y5.length - m10∧m10≤y5.length∧Yt cuts2 (y5.drop m10) out6 last7=some mu1∧st=⟨[(1,.d (lst Bnd.ds cuts2)),(6,.hx 5001),(7,vI last7),(30,.d (lst Rng.ds y5)),(31,vI (y5.length:Int)),(32,vI (m10:Int))],[(5001,some (.hd)),(5002,some (axT 5001 23 1 72 4 (fun (x:List Rng)=>([]:List D)) (fun (x:List Rng)=>x) Rng.ds (fun (x:List Rng)=>([]:List D)) out6 none))]⟩) [(5001,5001),(5002,5002)] ⟨0,_,_,rfl,Nat.zero_le _,hm1,rfl⟩ ?_
  rintro κ _ ⟨m10,out6,last7,rfl,hlem10,hm1,rfl⟩
  rcases Nat.lt_or_ge m10 y5.length with hltm10 | hgem10
  ·obtain ⟨r8,hxm10,hdr⟩:=Zdx hltm10
   rw [hdr,Yt.eq_2] at hm1
   refine sr ?_
   refine Zg ?_
   refine Q6 (Zqw hltm10) rfl ?_
   refine sx ?_
   refine Zg ?_
   obtain ⟨mu2,hm2,hm1⟩:=ZK hm1
   refine YP (fun st=>∃ (out25:List (List Rng)) (last26:Int),mu2=(out25,last26)∧st=⟨[(1,.d (lst Bnd.ds cuts2)),(6,.hx 5005),(7,vI last26),(30,.d (lst Rng.ds y5)),(31,vI (y5.length:Int)),(32,vI (m10:Int))],[(5005,some (.hd)),(5006,some (axT 5005 23 1 72 4 (fun (x:List Rng)=>([]:List D)) (fun (x:List Rng)=>x) Rng.ds (fun (x:List Rng)=>([]:List D)) out25 none))]⟩) ?_ ?_
   ·refine sr ?_
    refine ZJ (Zdi hxm10 rfl rfl rfl rfl) rfl rfl rfl ?_
    refine sr ?_
    refine sr ?_
    obtain ⟨mu3,hm3,hm2⟩:=ZK hm2
    refine YP (fun st=>∃ (zone16:Int),zone16=mu3∧st=⟨[(1,.d (lst Bnd.ds cuts2)),(6,.hx 5001),(7,vI last7),(9,.p 109 0),(10,vI zone16),(30,.d (lst Rng.ds y5)),(31,vI (y5.length:Int)),(32,vI (m10:Int))],[(109,some (.box 72 (Rng.vs r8))),(5001,some (.hd)),(5002,some (axT 5001 23 1 72 4 (fun (x:List Rng)=>([]:List D)) (fun (x:List Rng)=>x) Rng.ds (fun (x:List Rng)=>([]:List D)) out6 none))]⟩) ?_ ?_
    ·refine Zq ?_
     refine ZeE 36 rfl (fun hlenm14=>?_)
     refine ZdR (fun κ st=>∃ (m14:Nat) (zone11:Int),κ=cuts2.length - m14∧m14≤cuts2.length∧Yj r8 (cuts2.drop m14) zone11=some mu3∧st=⟨[(1,.d (lst Bnd.ds cuts2)),(6,.hx 5001),(7,vI last7),(9,.p 109 0),(10,vI zone11),(30,.d (lst Rng.ds y5)),(31,vI (y5.length:Int)),(32,vI (m10:Int)),(36,.d (lst Bnd.ds cuts2)),(37,vI (cuts2.length:Int)),(38,vI (m14:Int))],[(109,some (.box 72 (Rng.vs r8))),(5001,some (.hd)),(5002,some (axT 5001 23 1 72 4 (fun (x:List Rng)=>([]:List D)) (fun (x:List Rng)=>x) Rng.ds (fun (x:List Rng)=>([]:List D)) out6 none))]⟩) [(109,109),(5001,5001),(5002,5002)] ⟨0,_,rfl,Nat.zero_le _,hm3,rfl⟩ ?_
     rintro κ _ ⟨m14,zone11,rfl,hlem14,hm3,rfl⟩
     rcases Nat.lt_or_ge m14 cuts2.length with hltm14 | hgem14
     ·obtain ⟨r12,hxm14,hdr⟩:=Zdx hltm14
      rw [hdr,Yj.eq_2] at hm3
      refine sr ?_
      refine Zg ?_
      refine Q6 (Zqw hltm14) rfl ?_
      refine bp hm3 fun y15 hm3=>?_
      refine co hm3 (fun hm3=>?_) fun hm3=>?_
      ·refine sr ?_
       refine ZJ (YJ rfl rfl rfl rfl) rfl rfl rfl ?_
       refine sr ?_
       refine ZJ (ZeW hltm14 hlenm14 rfl rfl rfl) rfl rfl rfl ?_
       refine ss ?_
       exact ZbY [(109,109),(5001,5001),(5002,5002)] ⟨m14+1,_,rfl,hltm14,hm3,rfl⟩ (by omega)
      refine sx ?_
      refine sr ?_
      refine ZJ (ZeW hltm14 hlenm14 rfl rfl rfl) rfl rfl rfl ?_
      refine ss ?_
      exact ZbY [(109,109),(5001,5001),(5002,5002)] ⟨m14+1,_,rfl,hltm14,hm3,rfl⟩ (by omega)
     ·rw [ZeA hgem14,Yj.eq_1] at hm3
      refine sr ?_
      refine Zg ?_
      refine Q7 (Zqv hgem14) rfl ?_
      refine XM ?_
      refine ss ?_
      cases hm3
      exact XD [(109,109),(5001,5001),(5002,5002)] ⟨_,rfl,rfl⟩
    rintro _ ⟨zone16,rfl,rfl⟩
    refine sr ?_
    obtain ⟨mu3,hm3,hm2⟩:=ZK hm2
    refine YP (fun st=>∃ (out18:List (List Rng)) (last19:Int),mu3=(out18,last19)∧st=⟨[(1,.d (lst Bnd.ds cuts2)),(6,.hx 5003),(7,vI last19),(9,.p 109 0),(30,.d (lst Rng.ds y5)),(31,vI (y5.length:Int)),(32,vI (m10:Int))],[(109,some (.box 72 (Rng.vs r8))),(5003,some (.hd)),(5004,some (axT 5003 23 1 72 4 (fun (x:List Rng)=>([]:List D)) (fun (x:List Rng)=>x) Rng.ds (fun (x:List Rng)=>([]:List D)) out18 none))]⟩) ?_ ?_
    ·refine co hm3 (fun hm3=>?_) fun hm3=>?_
     ·refine sr ?_
      refine Zut (ZuO 154 rfl rfl rfl rfl) rfl rfl rfl rfl rfl ?_
      refine ss ?_
      obtain ⟨l17,hy,hm3⟩:=ZK hm3
      refine Zut (Zm1 (k2:=5002) 420550 [] hy rfl rfl rfl rfl rfl rfl rfl rfl rfl rfl) rfl rfl rfl rfl rfl ?_
      refine ss ?_
      cases hm3
      exact XD [(109,109),(5003,420550),(5004,420551)] ⟨_,_,rfl,rfl⟩
     refine sx ?_
     cases hm3
     exact XD [(109,109),(5003,5001),(5004,5002)] ⟨_,_,rfl,rfl⟩
    rintro _ ⟨out18,last19,rfl,rfl⟩
    refine ss ?_
    obtain ⟨e20,hy,hm2⟩:=ZK hm2
    have hge20:=hy
    refine ss ?_
    refine ZbQ (ZnE 5004 440200 hge20 rfl rfl) ?_
    refine ZC (id:=20) [⟨0,0,[6]⟩,⟨1,0,[6]⟩,⟨2,2,[58]⟩,⟨3,6,[59]⟩,⟨4,0,[6]⟩,⟨5,0,[6]⟩,⟨6,32,[62]⟩,⟨7,96,[63]⟩,⟨8,240,[61,64]⟩,⟨9,496,[65]⟩,⟨10,0,[9]⟩,⟨11,1024,[67]⟩,⟨12,4080,[66,68]⟩,⟨13,8191,[57,60]⟩,⟨14,16383,[69,70]⟩] mixed (by kernel_rfl) ?_
    refine ss ?_
    refine Ye [440201] (ZmO (k2:=440201) rfl rfl rfl) rfl (by first | exact .no rfl | exact .y rfl rfl rfl rfl) rfl rfl ?_
    refine ss ?_
    refine Ye [440201] (ZmO (k2:=440201) rfl rfl rfl) rfl (by first | exact .no rfl | exact .y rfl rfl rfl rfl) rfl rfl ?_
    refine ss ?_
    refine Ye [440201] (Zrm (k2:=440201) hge20 rfl rfl rfl rfl) rfl (by first | exact .no rfl | exact .y rfl rfl rfl rfl) rfl rfl ?_
    refine ss ?_
    refine Ye [440201,440200] (ZtQ (k2:=440201) (q:=440200) (off:=0) hge20 rfl rfl rfl rfl rfl (by exact inferInstance)) rfl (by first | exact .no rfl | exact .y rfl rfl rfl rfl) rfl rfl ?_
    refine ss ?_
    refine Zdv Rng.ds [r8] rfl rfl (by simp only [Z8,Zn,List.cons_append,List.nil_append,List.append_nil]; exact rfl) rfl rfl rfl rfl (by first | exact .no rfl | exact .y rfl rfl rfl rfl) rfl rfl ?_
    refine bo hm2 fun l21 hm2=>?_
    refine ss ?_
    obtain ⟨e22,hy,hm2⟩:=ZK hm2
    have hge22:=hy
    refine Ye [440201] (Zrm (k2:=440201) hy rfl rfl rfl rfl) rfl (by first | exact .no rfl | exact .y rfl rfl rfl rfl) rfl rfl ?_
    refine ss ?_
    obtain ⟨e23,hy,hm2⟩:=Qs hm2
    have hxe23:=hy
    refine ss ?_
    obtain ⟨l24,hy,hm2⟩:=Qs hm2
    refine ss ?_
    refine ZsY [440201,169] [440201,169,410040,410041] (ZsR (k2:=440201) (q:=169) (off:=0) 410040 hge22 hy rfl rfl rfl rfl rfl rfl (by exact inferInstance) (by first | (rw [← hxe23]) | rfl) (by first | (rw [← hxe23]) | rfl) (by first | (rw [← hxe23]) | rfl)) rfl (by first | exact .no rfl | exact .y rfl rfl rfl rfl) rfl rfl rfl rfl ?_
    have hge23:=Qg hge22 e23
    rw [hy] at hge23
    refine ss ?_
    cases hm2
    exact XD [(5005,5003),(5006,410041)] ⟨_,_,rfl,rfl⟩
   rintro _ ⟨out25,last26,rfl,rfl⟩
   refine sr ?_
   refine ZJ (ZeW hltm10 hlenm10 rfl rfl rfl) rfl rfl rfl ?_
   refine ss ?_
   exact ZbY [(5001,5005),(5002,5006)] ⟨m10+1,_,_,rfl,hltm10,hm1,rfl⟩ (by omega)
  ·rw [ZeA hgem10,Yt.eq_1] at hm1
   refine sr ?_
   refine Zg ?_
   refine Q7 (Zqv hgem10) rfl ?_
   refine XM ?_
   refine ss ?_
   cases hm1
   exact XD [(5007,5001),(5008,5002)] ⟨_,rfl,rfl⟩
 rintro _ ⟨out27,rfl,rfl⟩
 refine sr ?_
 refine sx ?_
 cases hm
 exact ZpH [] ⟨rfl,rfl⟩⟩
def Yl (cuts2:List Bnd):List Bnd→Int→Option (Ctl (List Zf × Int) Unit)
 | [],i =>
 some (Ctl.nxt ())
 | r4::xs5,i =>
 bnd (Yf r4) fun y7 =>
 sel (!y7) (
  some (Ctl.ret ([],1))) (
  sel (decide (0<i)) (
   Zc (Yn cuts2 (Z6 (i - 1))) fun e8 =>
   bnd (Zm r4 e8) fun y9 =>
   sel (decide (y9≤0)) (
    some (Ctl.ret ([],8))) (
    Yl cuts2 xs5 (i+1))) (
   Yl cuts2 xs5 (i+1)))
def Ya (q1:Zj):List (List Rng)→List Zf→Option (Ctl (List Zf × Int) (List Zf))
 | [],out11 =>
 some (Ctl.nxt out11)
 | r12::xs13,out11 =>
 Zc (QZ q1 r12) fun y15 =>
 sel (!decide (y15.2=0)) (
  some (Ctl.ret ([],y15.2))) (
  Zc (app out11 ([y15.1]:List Zf)) fun l16 =>
  Ya q1 xs13 l16)
def Yz (q1:Zj) (cuts2:List Bnd):Option (List Zf × Int) :=
 Zc (Xw q1) fun y3 =>
 sel (!decide (y3=0)) (
  some ([],y3)) (
  sel (decide (64<(cuts2.length:Int))) (
   some ([],3)) (
   Zc (
    Yl cuts2 cuts2 0:Option (Ctl (List Zf × Int) Unit)) fun mu=>YB mu fun (_:Unit) =>
   Zc (XX q1 cuts2) fun y10 =>
   Zc (
    Ya q1 y10 []:Option (Ctl (List Zf × Int) (List Zf))) fun mu=>YB mu fun out17 =>
   some (out17,0)))
instance Zme {q1} {cuts2}:SpO (Yz q1 cuts2) fun y=>Sp 75 [.a (Zj.vs q1),.d (lst Bnd.ds cuts2)] [] (.t [.d (lst Zf.ds y.1),vI y.2]) []:=⟨fun hm=>by
 refine si Tryz.func75 Tryz.ntmps75 Tryz.results75 fun B w0 ρ0=>?_
 refine sr ?_
 refine sr ?_
 obtain ⟨y3,hy,hm⟩:=ZK hm
 refine Zi6 (ZcT (hm:=hy)) ?_
 refine co hm (fun hm=>?_) fun hm=>?_
 ·exact Yw hm
 refine co hm (fun hm=>?_) fun hm=>?_
 ·exact Yw hm
 refine sx ?_
 refine sr ?_
 refine jc0 hm [1,2] [102] [] (fun _ hm hm1=>?_) (fun hm=>?_)
 ·refine Zq ?_
  refine Zmi hm1 22 [1,2,22,23] [102] (fun m6=>[(24,vI (m6:Int))]) (fun hlenm6 m6 r4 hltm6 hxm6 hm1=>?_) (fun m6 hm1=>?_)
  ·refine bp hm1 fun y7 hm1=>?_
   refine co hm1 (fun hm1=>?_) fun hm1=>?_
   ·exact Zdt hm hm1
   refine sx ?_
   refine Zg ?_
   refine ZC (id:=11) [⟨0,0,[7]⟩,⟨1,1,[32]⟩,⟨2,3,[33]⟩,⟨3,7,[8,34]⟩,⟨4,7,[1,34]⟩,⟨5,7,[7,34]⟩,⟨6,39,[34,37]⟩,⟨7,119,[34,36,38]⟩,⟨8,247,[34,39]⟩,⟨9,511,[34,35,40]⟩,⟨10,1023,[34,41]⟩,⟨11,2047,[34,42]⟩] mixed (by kernel_rfl) ?_
   refine co hm1 (fun hm1=>?_) fun hm1=>?_
   ·refine bo hm1 fun e8 hm1=>?_
    refine bp hm1 fun y9 hm1=>?_
    refine co hm1 (fun hm1=>?_) fun hm1=>?_
    ·exact Zdt hm hm1
    exact eb1 hm hm1
   refine ss ?_
   refine Yi rfl ?_
   exact eb1 hm hm1
  exact ZcD hm hm1
 refine bo hm fun y10 hm=>?_
 refine ss ?_
 refine jc1 hm [] [] (fun out17=>[(9,.d (lst Zf.ds out17))]) (fun _ hm hm1=>?_) (fun out17 hm=>?_)
 ·refine Zq ?_
  refine ZbQ (ZbX 9 5001 124 6 rfl rfl) ?_
  refine lr1 hm1 47 [2,47,48] [102] (fun m14 out11=>[(9,.h 5001),(49,vI (m14:Int))]) (fun hlenm14 m14 out11 r12 hltm14 hxm14 hm1=>?_) (fun m14 out11 hm1=>?_) (B:=(fun m14 out11=>[(5001,some (YH 124 6 Zf.ds out11))]))
  ·refine bo hm1 fun y15 hm1=>?_
   refine co hm1 (fun hm1=>?_) fun hm1=>?_
   ·exact Zdt hm hm1
   refine sx ?_
   refine sr ?_
   refine XL Zf.ds [y15.1] rfl rfl (by simp only [Z8,Zn,List.cons_append,List.nil_append,List.append_nil]; exact rfl) rfl rfl rfl rfl rfl rfl ?_
   refine bo hm1 fun l16 hm1=>?_
   exact ZhJ [(102,102),(5001,165)] hm hm1
  exact ZcD hm hm1
 exact Yw hm⟩
def Xb (l1:List Zf):Option (List Zf) :=
 Zc (app ([]:List Zf) l1) fun l2 =>
 some l2
instance ZgD {l1}:SpO (Xb l1) fun y=>Sp 140 [.d (lst Zf.ds l1)] [] (.d (lst Zf.ds y)) []:=⟨fun hm=>by
 refine si Tryz.func140 Tryz.ntmps140 Tryz.results140 fun B w0 ρ0=>?_
 exact az0 hm⟩
theorem QJ {l1:List Zf} {y:List Zf} (hm:Xb l1=some y):Spec Tryz.prog 140 [.d (lst Zf.ds l1)] [] fun u h=>u=.h 1∧h=[(1,some (YH 124 6 Zf.ds y))]:=by
 refine si Tryz.func140 Tryz.ntmps140 Tryz.results140 fun B w0 ρ0=>?_
 refine bo hm fun l2 hm=>?_
 exact Zoy [(1,104)] hm
def Qb (y2:List Zf):Nat→List Zf→Int→Option (List Zf)
 | 0,_,_=>none
 | fuel+1,l3,x4 =>
 Zc (
  sel (decide (x4<(y2.length:Int))) (
   some (Ctl.nxt ())) (
   some (Ctl.ret l3)):Option (Ctl (List Zf) Unit)) fun mu=>YB mu fun (_:Unit) =>
 Zc (Yn l3 x4) fun e5 =>
 Zc (Zav e5) fun y6 =>
 Zc (Yn l3 x4) fun e7 =>
 bnd (y6) fun e9 =>
 bnd (l3.set (Int.toNat x4) e9) fun l8 =>
 Qb y2 fuel l8 (Z6 (x4+1))
def Xy (l1:List Zf):Option (List Zf) :=
 Zc (Xb l1) fun y2 =>
 Zc (
  Qb y2 FU y2 0:Option (List Zf)) fun l10 =>
 some l10
instance Zoe {l1}:SpO (Xy l1) fun y=>Sp 77 [.d (lst Zf.ds l1)] [] (.d (lst Zf.ds y)) []:=⟨fun hm=>by
 refine si Tryz.func77 Tryz.ntmps77 Tryz.results77 fun B w0 ρ0=>?_
 refine sr ?_
 refine sr ?_
 obtain ⟨y2,hy,hm⟩:=ZK hm
 refine ZeC (u':=.h 200501) (h':=[(200501,some (YH 124 6 Zf.ds y2))]) (QJ (hm:=hy)) 200500 rfl rfl rfl (by repeat (first | exact Vws.nil | apply Vws.cons | exact Vw.nil | exact Vw.d _ | exact Vw.q _ | apply Vw.a)) rfl (by (try simp only [Zec,Option.map_some,Blk.ren,ZbA]); rfl) rfl rfl rfl rfl ?_
 refine sr ?_
 refine jo1 hm [] [] (fun l10=>[(0,.d (lst Zf.ds l10))]) (fun _ hm hm1=>?_) (fun l10 hm=>?_)
 ·refine Zq ?_
  refine lf2 hm1 [7] [] (fun l3 x4=>[(0,.h 5001),(8,vI x4)]) (fun κ l3 x4 hm1=>?_) (B:=(fun l3 x4=>[(5001,some (YH 124 6 Zf.ds l3))])) (f:=[(5001,200501)])
  refine sr ?_
  refine Zg ?_
  refine jc0 hm1 [0,7,8] [5001] [] (fun _ hm1 hm2=>?_) (fun hm1=>?_)
  ·exact az2 hm hm1 hm2
  refine bo' hm1 fun e5 hge5 hm1=>?_
  refine ss ?_
  refine ZJ (ZhL (k:=5001) (f:=Zf.ds) (zz:=6) (u:=.a (Zf.vs e5)) (off:=0) hge5 rfl rfl rfl (by exact inferInstance) rfl rfl) rfl rfl rfl ?_
  refine bo hm1 fun y6 hm1=>?_
  refine bo' hm1 fun e7 hge7 hm1=>?_
  refine ss ?_
  obtain ⟨e9,hy,hm1⟩:=Qs hm1
  have hxe9:=hy
  refine ss ?_
  obtain ⟨l8,hy,hm1⟩:=Qs hm1
  refine Zoz (lo:=0) (nn:=0) (ZhQ (k:=5001) (f:=Zf.ds) (zz:=6) (off:=0) hge7 hy rfl rfl rfl rfl (by exact inferInstance) rfl (by rw [← hxe9]; rfl)) rfl rfl (Q5 _ _) ?_
  have hge9:=Qg hge7 e9
  rw [hy] at hge9
  refine sr ?_
  refine ZJ (YJ rfl rfl rfl rfl) rfl rfl rfl ?_
  refine ss ?_
  exact eb1 hm hm1
 exact Yw hm⟩
structure Ze where
 Query:Zj
 Cuts:List Bnd
 First:List Zf
 Second:List Zf
 Turned:Bool
 deriving DecidableEq
def Ze.ds (x:Ze):List D:=[dI x.Query.Kind,lst Rng.ds x.Query.Ranges,dS x.Query.Key,dI x.Query.Count,lst Bnd.ds x.Cuts,lst Zf.ds x.First,lst Zf.ds x.Second,dB x.Turned]
instance : Len Ze.ds 8:=⟨fun _=>rfl⟩
abbrev Ze.vs (x:Ze):List V:=[vI x.Query.Kind,.d (lst Rng.ds x.Query.Ranges),vS x.Query.Key,vI x.Query.Count,.d (lst Bnd.ds x.Cuts),.d (lst Zf.ds x.First),.d (lst Zf.ds x.Second),vB x.Turned]
def ZbI (q1:Zj) (cuts2:List Bnd):Option (Ze × Int) :=
 Zc (Yz q1 cuts2) fun y3 =>
 sel (!decide (y3.2=0)) (
  some ((Ze.mk (Zj.mk 0 [] ⟨#[]⟩ 0) [] [] [] false),y3.2)) (
  Zc (Xx q1) fun y4 =>
  Zc (ZZ cuts2) fun y5 =>
  Zc (Xy y3.1) fun y6 =>
  some ((Ze.mk y4 y5 y3.1 y6 false),0))
instance Zom {q1} {cuts2}:SpO (ZbI q1 cuts2) fun y=>Sp 23 [.a (Zj.vs q1),.d (lst Bnd.ds cuts2)] [] (.t [.a (Ze.vs y.1),vI y.2]) []:=⟨fun hm=>by
 refine si Tryz.func23 Tryz.ntmps23 Tryz.results23 fun B w0 ρ0=>?_
 exact az0 hm⟩
def Qj (a1:ByteArray) (b2:ByteArray):Rng :=
 (Rng.mk (Bnd.mk a1 false) (Bnd.mk b2 false))
instance Zmo {a1} {b2}:SpT (Qj a1 b2) fun y=>Sp 59 [vS a1,vS b2] [] (.a (Rng.vs y)) []:=⟨fun hm=>by
 refine si Tryz.func59 Tryz.ntmps59 Tryz.results59 fun B w0 ρ0=>?_
 unfold Qj at hm
 exact Yw hm⟩
def ZaX:Option Bool :=
 bnd (Qj ⟨#[97]⟩ ⟨#[109]⟩) fun y1 =>
 Zc (ZbI (Zj.mk 1 ([y1]:List Rng) ⟨#[]⟩ 0) ([(Bnd.mk ⟨#[102]⟩ false),(Bnd.mk ⟨#[122]⟩ false)]:List Bnd)) fun y2 =>
 sel (decide (y2.2=0)) (
  sel (decide ((y2.1.First.length:Int)=2)) (
   Zc (Yn y2.1.First 0) fun e3 =>
   sel (decide ((e3.Todo.length:Int)=1)) (
    Zc (Yn y2.1.First 0) fun e4 =>
    Zc (Yn e4.Todo 0) fun e5 =>
    bnd (Qj ⟨#[97]⟩ ⟨#[102]⟩) fun y6 =>
    sel (decide (e5.lo.key=y6.lo.key) && decide (e5.lo.top=y6.lo.top) && decide (e5.hi.key=y6.hi.key) && decide (e5.hi.top=y6.hi.top)) (
     Zc (Yn y2.1.First 1) fun e7 =>
     Zc (Yn e7.Todo 0) fun e8 =>
     bnd (Qj ⟨#[102]⟩ ⟨#[109]⟩) fun y9 =>
     some (decide (e8.lo.key=y9.lo.key) && decide (e8.lo.top=y9.lo.top) && decide (e8.hi.key=y9.hi.key) && decide (e8.hi.top=y9.hi.top))) (
     some false)) (
    some false)) (
   some false)) (
  some false)
instance Zop:SpO (ZaX) fun y=>Sp 10 [] [] (vB y) []:=⟨fun hm=>by
 refine si Tryz.func10 Tryz.ntmps10 Tryz.results10 fun B w0 ρ0=>?_
 refine bp hm fun y1 hm=>?_
 refine ss ?_
 refine XL Rng.ds [y1] rfl rfl (by simp only [Z8,Zn,List.cons_append,List.nil_append,List.append_nil]; exact rfl) rfl rfl rfl rfl rfl rfl ?_
 refine ss ?_
 refine XL Bnd.ds [(Bnd.mk ⟨#[102]⟩ false),(Bnd.mk ⟨#[122]⟩ false)] rfl rfl (by simp only [Z8,Zn,List.cons_append,List.nil_append,List.append_nil]; exact rfl) rfl rfl rfl rfl rfl rfl ?_
 refine bo hm fun y2 hm=>?_
 refine ss ?_
 refine Zg ?_
 refine ZC (id:=2) [⟨0,0,[2]⟩,⟨1,1,[13]⟩,⟨2,3,[14]⟩,⟨3,7,[1,15]⟩,⟨4,15,[15,16]⟩,⟨5,31,[15,17]⟩,⟨6,63,[15,18]⟩,⟨7,127,[15,19]⟩,⟨8,255,[20]⟩,⟨9,511,[1,21]⟩,⟨10,1023,[21,22]⟩,⟨11,2047,[21,23]⟩,⟨12,4095,[21,24]⟩,⟨13,8191,[21,25]⟩,⟨14,16383,[21,26]⟩,⟨15,32767,[21,27]⟩,⟨16,65535,[21,28]⟩,⟨17,131071,[29]⟩,⟨18,262143,[1,30]⟩,⟨19,524287,[30,31]⟩,⟨20,1048575,[30,32]⟩,⟨21,2097151,[30,33]⟩,⟨22,4194303,[30,34]⟩,⟨23,8388607,[30,35]⟩,⟨24,16777215,[30,36]⟩,⟨25,262143,[30]⟩,⟨26,67108863,[30,37,38]⟩,⟨27,134217727,[30,39]⟩,⟨28,268435455,[40]⟩,⟨29,536870911,[1,41]⟩,⟨30,1073741823,[41,42]⟩,⟨31,2147483647,[41,43]⟩,⟨32,4294967295,[41,44]⟩,⟨33,8589934591,[41,45]⟩,⟨34,17179869183,[41,46]⟩,⟨35,34359738367,[41,47]⟩,⟨36,536870911,[41]⟩,⟨37,137438953471,[41,48,49]⟩,⟨38,274877906943,[41,50]⟩,⟨39,549755813887,[51]⟩] mixed (by kernel_rfl) ?_
 refine co hm (fun hm=>?_) fun hm=>?_
 ·refine co hm (fun hm=>?_) fun hm=>?_
  ·refine bo hm fun e3 hm=>?_
   refine co hm (fun hm=>?_) fun hm=>?_
   ·refine bo hm fun e4 hm=>?_
    refine ss ?_
    obtain ⟨e5,hy,hm⟩:=ZK hm
    refine Ye [] (ZhP (ys:=[dS e5.lo.key,dB e5.lo.top,dS e5.hi.key,dB e5.hi.top]) hy rfl rfl rfl rfl) rfl (by first | exact .no rfl | exact .y rfl rfl rfl rfl) rfl rfl ?_
    refine bp hm fun y6 hm=>?_
    refine co hm (fun hm=>?_) fun hm=>?_
    ·refine bo hm fun e7 hm=>?_
     refine ss ?_
     obtain ⟨e8,hy,hm⟩:=ZK hm
     refine Ye [] (ZhP (ys:=[dS e8.lo.key,dB e8.lo.top,dS e8.hi.key,dB e8.hi.top]) hy rfl rfl rfl rfl) rfl (by first | exact .no rfl | exact .y rfl rfl rfl rfl) rfl rfl ?_
     exact az0 hm
    exact Yw hm
   exact Yw hm
  exact Yw hm
 exact Yw hm⟩
end Go.Proofs.YtkcmgbbopedacaaGreatDoor
