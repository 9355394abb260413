/-
  Lemmas: Models and walks
-/
import Derived.Test.YtkcmgbbopedacaaGreatDoorPY18
import Derived.Test.YtkcmgbbopedacaaGreatDoorPY24
import Derived.Test.YtkcmgbbopedacaaGreatDoorPY25
import Derived.Test.YtkcmgbbopedacaaGreatDoorPY31
set_option linter.unusedSimpArgs false
set_option linter.unusedVariables false
namespace Go.Proofs.YtkcmgbbopedacaaGreatDoor
open Go.RowKit
set_option maxRecDepth 100000
set_option maxHeartbeats 4000000
attribute [local irreducible] WK WC WL Wk Rel OpD OpV WD WO sel bnd Ze app Yx lsl Zex ssl Zhj Zg2 ZiR ZhL Op.bytesLess
attribute [local irreducible] Zcv Yg union mlk Zts ZuN Ztq cpy ZcT
def Z7 (l1:List Bnd):Option (List Bnd) :=
 Ze (app ([]:List Bnd) l1) fun l2 =>
 some l2
instance Zhg {l1}:SpO (Z7 l1) fun y=>Sp 65 [.d (lst Bnd.ds l1)] [] (.d (lst Bnd.ds y)) []:=⟨fun hm=>by
 refine si Tryz.func65 Tryz.ntmps65 Tryz.results65 fun B w0 ρ0=>?_
 exact az0 hm⟩
theorem Zb5 {l1:List Bnd} {y:List Bnd} (hm:Z7 l1=some y):Spec Tryz.prog 65 [.d (lst Bnd.ds l1)] [] fun u h=>u=.h 1∧h=[(1,some (YR 32 2 Bnd.ds y))]:=by
 refine si Tryz.func65 Tryz.ntmps65 Tryz.results65 fun B w0 ρ0=>?_
 refine bo hm fun l2 hm=>?_
 exact Zqx [(1,104)] hm
def Zeb (i1:Int) (j2:Int) (c3:List Bnd):Option Bool :=
 Ze (Yx c3 i1) fun e4 =>
 Ze (Yx c3 j2) fun e5 =>
 bnd (Zj e4 e5) fun y6 =>
 some (decide (y6<0))
theorem Zfz {i1:Int} {j2:Int} {c3:List Bnd} {y:Bool} (hm:Zeb i1 j2 c3=some y):Spec Tryz.prog 67 [vI i1,vI j2,.q [lst Bnd.ds c3]] [] fun u h=>u=vB y∧h=[]:=by
 refine si Tryz.func67 Tryz.ntmps67 Tryz.results67 fun B w0 ρ0=>?_
 refine sr ?_
 refine Zh ?_
 refine Zx (id:=1) [⟨0,0,[2]⟩,⟨1,0,[0]⟩,⟨2,3,[6,7]⟩,⟨3,7,[8]⟩,⟨4,0,[2]⟩,⟨5,0,[1]⟩,⟨6,48,[10,11]⟩,⟨7,112,[12]⟩,⟨8,255,[9,13]⟩,⟨9,511,[14]⟩,⟨10,1023,[15]⟩] mixed (by kernel_rfl) ?_
 exact az0 hm
def XC (l4:List Bnd) (r6:Rng):Nat→List Rng→ByteArray→Bool→Int→Option (List Rng × ByteArray × Bool)
 | 0,_,_,_,_=>none
 | fuel+1,out10,r11,r12,x13 =>
 Ze (
  sel (decide (x13<(l4.length:Int))) (
   some (Ctl.nxt ())) (
   some (Ctl.ret (out10,r11,r12))):Option (Ctl (List Rng × ByteArray × Bool) Unit)) fun mu=>Yv mu fun (_:Unit) =>
 Ze (Yx l4 x13) fun e14 =>
 Ze (
  bnd (Yn e14) fun y15 =>
  sel y15 (
   bnd (Zj e14 (Bnd.mk r11 r12)) fun y16 =>
   sel (decide (0<y16)) (
    bnd (Zj e14 r6.hi) fun y17 =>
    some (decide (y17<0))) (
    some false)) (
   some false):Option Bool) fun x18 =>
 sel x18 (
  Ze (app out10 ([(Rng.mk (Bnd.mk r11 r12) e14)]:List Rng)) fun l19 =>
  XC l4 r6 fuel l19 e14.key e14.top (ZH (x13+1))) (
  XC l4 r6 fuel out10 r11 r12 (ZH (x13+1)))
def Qq (l4:List Bnd):List Rng→List Rng→Option (List Rng)
 | [],out5 =>
 some out5
 | r6::xs7,out5 =>
 Ze (
  bnd (ZR r6) fun y9 =>
  Ze (
   sel y9 (
    some (Ctl.ret out5)) (
    some (Ctl.nxt ())):Option (Ctl (List Rng) Unit)) fun mu=>Yv mu fun (_:Unit) =>
  Ze (
   XC l4 r6 FU out5 r6.lo.key r6.lo.top 0:Option (List Rng × ByteArray × Bool)) fun (out20,r21,r22) =>
  Ze (app out20 ([(Rng.mk (Bnd.mk r21 r22) r6.hi)]:List Rng)) fun l23 =>
  some l23:Option (List Rng)) fun out24 =>
 Qq l4 xs7 out24
def Zce (l1:List Rng) (cuts2:List Bnd):Option (List Rng) :=
 Ze (Z7 cuts2) fun y3 =>
 Ze (ZcT (fun e4 e5=>bnd (Zj e4 e5) fun y6=>decide (y6<0)) y3) fun l4 =>
 Ze (
  Qq l4 l1 []:Option (List Rng)) fun out25 =>
 some out25
instance Zqb {l1} {cuts2}:SpO (Zce l1 cuts2) fun y=>Sp 17 [.d (lst Rng.ds l1),.d (lst Bnd.ds cuts2)] [] (.d (lst Rng.ds y)) []:=⟨fun hm=>by
 refine si Tryz.func17 Tryz.ntmps17 Tryz.results17 fun B w0 ρ0=>?_
 refine sr ?_
 refine sr ?_
 obtain ⟨y3,hy,hm⟩:=ZF hm
 refine ZfF (u':=.h 201101) (h':=[(201101,some (YR 32 2 Bnd.ds y3))]) (Zb5 (hm:=hy)) 201100 rfl rfl rfl (by repeat (first | exact Vws.nil | apply Vws.cons | exact Vw.nil | exact Vw.d _ | exact Vw.q _ | apply Vw.a)) rfl (by (try simp only [Zfd,Option.map_some,Blk.ren,Zb7]); rfl) rfl rfl rfl rfl ?_
 refine sr ?_
 refine ZK (ZtT rfl rfl Tryz.underlying24 rfl) rfl rfl rfl ?_
 refine ss ?_
 refine ZK (ZwQ rfl rfl) rfl rfl rfl ?_
 refine ss ?_
 obtain ⟨l4,hy,hm⟩:=ZF hm
 refine Zv3 (fv:=(fun (x:Bnd)=>[.string x.key,.bool x.top])) (kb:=103) hy ZxU (fun _=>rfl) (fun _=>rfl) (by simp [Value.oneCell']) (fun ys i j a b ha hb=>Zfz (hm:=by simp only [Zeb,ZsP ha,ZsP hb,Za,Zm])) rfl rfl rfl rfl rfl rfl rfl rfl rfl ?_
 refine sr ?_
 refine sr ?_
 refine jo1 hm [] [] (fun out25=>[(5,.d (lst Rng.ds out25))]) (fun _ hm hm1=>?_) (fun out25 hm=>?_)
 ·refine Zl ?_
  refine ZbM (ZbP 5 5001 72 4 rfl rfl) ?_
  refine lr1 hm1 16 [3,16,17] [103,201101] (fun m8 out5=>[(5,.h 5001),(18,vI (m8:Int))]) (fun hlenm8 m8 out5 r6 hltm8 hxm8 hm1=>?_) (fun m8 out5 hm1=>?_) (B:=(fun m8 out5=>[(5001,some (YR 72 4 Rng.ds out5))]))
  ·refine sx ?_
   refine Zh ?_
   refine jo1 hm1 [3,16,17,18] [103,201101] (fun out24=>[(5,.h 5004)]) (fun _ hm1 hm2=>?_) (fun out24 hm1=>?_) (B:=(fun out24=>[(5004,some (YR 72 4 Rng.ds out24))]))
   ·refine bp hm2 fun y9 hm2=>?_
    refine ss ?_
    refine jc0 hm2 [3,5,7,16,17,18] [103,107,5001,201101] [] (fun _ hm2 hm3=>?_) (fun hm2=>?_)
    ·refine co hm3 (fun hm3=>?_) fun hm3=>?_
     ·exact ZzD [(103,103),(5004,5001),(201101,201101)] hm hm1 hm2 hm3
     exact ZuS hm hm1 hm2 hm3
    refine sr ?_
    refine jo3 hm2 [3,7,16,17,18] [103,201101] (fun out20 r21 r22=>[(5,.h 5003)]) (fun _ hm2 hm3=>?_) (fun out20 r21 r22 hm2=>?_) (B:=(fun out20 r21 r22=>[(107,some (.box 72 (Rng.vs (Rng.mk (Bnd.mk r21 r22) r6.hi)))),(5003,some (YR 72 4 Rng.ds out20))]))
    ·refine Zl ?_
     refine lf4 hm3 [3,7,16,17,18,24,25] [103,201101] (fun out10 r11 r12 x13=>[(5,.h 5002),(26,vI x13)]) (fun κ out10 r11 r12 x13 hm3=>?_) (B:=(fun out10 r11 r12 x13=>[(107,some (.box 72 (Rng.vs (Rng.mk (Bnd.mk r11 r12) r6.hi)))),(5002,some (YR 72 4 Rng.ds out10))])) (f:=[(103,103),(107,107),(5002,5001),(201101,201101)])
     refine sr ?_
     refine Zh ?_
     refine jc0 hm3 [3,5,7,16,17,18,24,25,26] [103,107,5002,201101] [] (fun _ hm3 hm4=>?_) (fun hm3=>?_)
     ·refine co hm4 (fun hm4=>?_) fun hm4=>?_
      ·exact ZyQ hm hm1 hm2 hm3 hm4
      exact ZyK [(103,103),(107,107),(5003,5002),(201101,201101)] hm hm1 hm2 hm3 hm4
     refine bo' hm3 fun e14 hge14 hm3=>?_
     refine ss ?_
     refine ZK (Zkg (k:=201101) (f:=Bnd.ds) (zz:=2) (u:=.a [vS e14.key,vB e14.top]) (off:=0) hge14 rfl rfl rfl (by exact inferInstance) rfl rfl) rfl rfl rfl ?_
     refine ss ?_
     refine Zh ?_
     refine jo1 hm3 [3,5,7,9,16,17,18,24,25,26] [103,107,109,5002,201101] (fun x18=>[(45,vB x18)]) (fun _ hm3 hm4=>?_) (fun x18 hm3=>?_)
     ·exact az4 hm hm1 hm2 hm3 hm4
     refine co hm3 (fun hm3=>?_) fun hm3=>?_
     ·refine sr ?_
      refine Zag Rng.ds [(Rng.mk (Bnd.mk r11 r12) e14)] rfl rfl (by simp only [Yp,Zp,List.cons_append,List.nil_append,List.append_nil]; exact rfl) rfl rfl rfl rfl rfl rfl ?_
      refine bo hm3 fun l19 hm3=>?_
      refine sr ?_
      refine sr ?_
      refine ZK (Y0 rfl rfl rfl rfl) rfl rfl rfl ?_
      refine ss ?_
      exact ZyM [(103,103),(107,107),(5002,152),(201101,201101)] hm hm1 hm2 hm3
     refine sx ?_
     refine sr ?_
     refine ZK (Y0 rfl rfl rfl rfl) rfl rfl rfl ?_
     refine ss ?_
     exact eb3 hm hm1 hm2 hm3
    refine sr ?_
    refine Zag Rng.ds [(Rng.mk (Bnd.mk r21 r22) r6.hi)] rfl rfl (by simp only [Yp,Zp,List.cons_append,List.nil_append,List.append_nil]; exact rfl) rfl rfl rfl rfl rfl rfl ?_
    refine bo hm2 fun l23 hm2=>?_
    exact Zw3 [(103,103),(5004,159),(201101,201101)] hm hm1 hm2
   exact ZhK [(103,103),(5001,5004),(201101,201101)] hm hm1
  exact ZbL hm hm1
 exact YF hm⟩
def Yt (r8:Rng):List Bnd→Int→Option Int
 | [],zone11 =>
 some zone11
 | r12::xs13,zone11 =>
 bnd (Zj r12 r8.lo) fun y15 =>
 sel (decide (y15≤0)) (
  Yt r8 xs13 (ZH (zone11+1))) (
  Yt r8 xs13 zone11)
def YB (cuts2:List Bnd):List Rng→List (List Rng)→Int→Option (List (List Rng))
 | [],out6,last7 =>
 some out6
 | r8::xs9,out6,last7 =>
 Ze (
  Ze (
   Yt r8 cuts2 0:Option Int) fun zone16 =>
  Ze (
   sel (!decide (zone16=last7)) (
    Ze (app out6 ([[]]:List (List Rng))) fun l17 =>
    some (l17,zone16)) (
    some (out6,last7)):Option (List (List Rng) × Int)) fun (out18,last19) =>
  Ze (Yx out18 (ZH ((out18.length:Int) - 1))) fun e20 =>
  Ze (app e20 ([r8]:List Rng)) fun l21 =>
  Ze (Yx out18 (ZH ((out18.length:Int) - 1))) fun e22 =>
  bnd (l21) fun e23 =>
  bnd (out18.set (Int.toNat (ZH ((out18.length:Int) - 1))) e23) fun l24 =>
  some (l24,last19):Option (List (List Rng) × Int)) fun (out25,last26) =>
 YB cuts2 xs9 out25 last26
def Qo (q1:Zg) (cuts2:List Bnd):Option (List (List Rng)) :=
 Ze (YA q1) fun y3 =>
 Ze (
  sel (!decide (q1.Kind=1)) (
   some (!decide (q1.Kind=2))) (
   some false):Option Bool) fun x4 =>
 sel x4 (
  sel (decide ((y3.length:Int)=0)) (
   some []) (
   some ([y3]:List (List Rng)))) (
  Ze (Zce y3 cuts2) fun y5 =>
  Ze (
   YB cuts2 y5 [] (-1):Option (List (List Rng))) fun out27 =>
  some out27)
instance Zqp {q1} {cuts2}:SpO (Qo q1 cuts2) fun y=>Sp 137 [.a (Zg.vs q1),.d (lst Bnd.ds cuts2)] [] (.d (lst (dsL Rng.ds) y)) []:=⟨fun hm=>by
 refine si Tryz.func137 Tryz.ntmps137 Tryz.results137 fun B w0 ρ0=>?_
 refine sr ?_
 refine sr ?_
 obtain ⟨y3,hy,hm⟩:=ZF hm
 refine Zg3 (Zby (hm:=hy)) ?_
 refine ss ?_
 refine Zh ?_
 refine Zh ?_
 obtain ⟨mu1,hm1,hm⟩:=ZF hm
 refine YN (fun st=>∃ (x4:Bool),x4=mu1∧st=⟨[(1,.d (lst Bnd.ds cuts2)),(5,.d (lst Rng.ds y3)),(22,vB x4)],[]⟩) ?_ ?_
 ·refine co hm1 (fun hm1=>?_) fun hm1=>?_
  ·refine ss ?_
   cases hm1
   exact XP [] ⟨_,rfl,rfl⟩
  refine ss ?_
  cases hm1
  exact XP [] ⟨_,rfl,rfl⟩
 rintro _ ⟨x4,rfl,rfl⟩
 refine co hm (fun hm=>?_) fun hm=>?_
 ·refine co hm (fun hm=>?_) fun hm=>?_
  ·refine sr ?_
   refine sx ?_
   cases hm
   exact Zka
  refine sx ?_
  refine sr ?_
  refine Zag (dsL Rng.ds) [y3] rfl rfl (by simp only [Yp,Zp,List.cons_append,List.nil_append,List.append_nil]; exact rfl) rfl rfl rfl rfl rfl rfl ?_
  refine sx ?_
  cases hm
  exact Zka
 refine bo hm fun y5 hm=>?_
 refine ss ?_
 obtain ⟨mu1,hm1,hm⟩:=ZF hm
 refine YN (fun st=>∃ (out27:List (List Rng)),out27=mu1∧st=⟨[(6,.hx 5007)],[(5007,some (.hd)),(5008,some (axT 5007 23 1 72 4 (fun (x:List Rng)=>([]:List D)) (fun (x:List Rng)=>x) Rng.ds (fun (x:List Rng)=>([]:List D)) out27 none))]⟩) ?_ ?_
 ·refine Zl ?_
  refine ZbM (Zt5 6 5001 23 1 72 4 rfl rfl) ?_
  refine Zdv 30 rfl (fun hlenm10=>?_)
  refine ZeU (fun κ st=>∃ (m10:Nat) (out6:List (List Rng)) (last7:Int),κ=y5.length - m10∧m10≤y5.length∧YB cuts2 (y5.drop m10) out6 last7=some mu1∧st=⟨[(1,.d (lst Bnd.ds cuts2)),(6,.hx 5001),(7,vI last7),(30,.d (lst Rng.ds y5)),(31,vI (y5.length:Int)),(32,vI (m10:Int))],[(5001,some (.hd)),(5002,some (axT 5001 23 1 72 4 (fun (x:List Rng)=>([]:List D)) (fun (x:List Rng)=>x) Rng.ds (fun (x:List Rng)=>([]:List D)) out6 none))]⟩) [(5001,5001),(5002,5002)] ⟨0,_,_,rfl,Nat.zero_le _,hm1,rfl⟩ ?_
  rintro κ _ ⟨m10,out6,last7,rfl,hlem10,hm1,rfl⟩
  rcases Nat.lt_or_ge m10 y5.length with hltm10 | hgem10
  ·obtain ⟨r8,hxm10,hdr⟩:=Zdl hltm10
   rw [hdr,YB.eq_2] at hm1
   refine sr ?_
   refine Zh ?_
   refine Xv (Zn5 hltm10) rfl ?_
   refine sx ?_
   refine Zh ?_
   obtain ⟨mu2,hm2,hm1⟩:=ZF hm1
   refine YN (fun st=>∃ (out25:List (List Rng)) (last26:Int),mu2=(out25,last26)∧st=⟨[(1,.d (lst Bnd.ds cuts2)),(6,.hx 5005),(7,vI last26),(30,.d (lst Rng.ds y5)),(31,vI (y5.length:Int)),(32,vI (m10:Int))],[(5005,some (.hd)),(5006,some (axT 5005 23 1 72 4 (fun (x:List Rng)=>([]:List D)) (fun (x:List Rng)=>x) Rng.ds (fun (x:List Rng)=>([]:List D)) out25 none))]⟩) ?_ ?_
   ·refine sr ?_
    refine ZK (ZcS hxm10 rfl rfl rfl rfl) rfl rfl rfl ?_
    refine sr ?_
    refine sr ?_
    obtain ⟨mu3,hm3,hm2⟩:=ZF hm2
    refine YN (fun st=>∃ (zone16:Int),zone16=mu3∧st=⟨[(1,.d (lst Bnd.ds cuts2)),(6,.hx 5001),(7,vI last7),(9,.p 109 0),(10,vI zone16),(30,.d (lst Rng.ds y5)),(31,vI (y5.length:Int)),(32,vI (m10:Int))],[(109,some (.box 72 (Rng.vs r8))),(5001,some (.hd)),(5002,some (axT 5001 23 1 72 4 (fun (x:List Rng)=>([]:List D)) (fun (x:List Rng)=>x) Rng.ds (fun (x:List Rng)=>([]:List D)) out6 none))]⟩) ?_ ?_
    ·refine Zl ?_
     refine Zdv 36 rfl (fun hlenm14=>?_)
     refine ZeU (fun κ st=>∃ (m14:Nat) (zone11:Int),κ=cuts2.length - m14∧m14≤cuts2.length∧Yt r8 (cuts2.drop m14) zone11=some mu3∧st=⟨[(1,.d (lst Bnd.ds cuts2)),(6,.hx 5001),(7,vI last7),(9,.p 109 0),(10,vI zone11),(30,.d (lst Rng.ds y5)),(31,vI (y5.length:Int)),(32,vI (m10:Int)),(36,.d (lst Bnd.ds cuts2)),(37,vI (cuts2.length:Int)),(38,vI (m14:Int))],[(109,some (.box 72 (Rng.vs r8))),(5001,some (.hd)),(5002,some (axT 5001 23 1 72 4 (fun (x:List Rng)=>([]:List D)) (fun (x:List Rng)=>x) Rng.ds (fun (x:List Rng)=>([]:List D)) out6 none))]⟩) [(109,109),(5001,5001),(5002,5002)] ⟨0,_,rfl,Nat.zero_le _,hm3,rfl⟩ ?_
     rintro κ _ ⟨m14,zone11,rfl,hlem14,hm3,rfl⟩
     rcases Nat.lt_or_ge m14 cuts2.length with hltm14 | hgem14
     ·obtain ⟨r12,hxm14,hdr⟩:=Zdl hltm14
      rw [hdr,Yt.eq_2] at hm3
      refine sr ?_
      refine Zh ?_
      refine Xv (Zn5 hltm14) rfl ?_
      refine bp hm3 fun y15 hm3=>?_
      refine co hm3 (fun hm3=>?_) fun hm3=>?_
      ·refine sr ?_
       refine ZK (Y0 rfl rfl rfl rfl) rfl rfl rfl ?_
       refine sr ?_
       refine ZK (ZeA hltm14 hlenm14 rfl rfl rfl) rfl rfl rfl ?_
       refine ss ?_
       exact ZcA [(109,109),(5001,5001),(5002,5002)] ⟨m14+1,_,rfl,hltm14,hm3,rfl⟩ (by omega)
      refine sx ?_
      refine sr ?_
      refine ZK (ZeA hltm14 hlenm14 rfl rfl rfl) rfl rfl rfl ?_
      refine ss ?_
      exact ZcA [(109,109),(5001,5001),(5002,5002)] ⟨m14+1,_,rfl,hltm14,hm3,rfl⟩ (by omega)
     ·rw [Zdw hgem14,Yt.eq_1] at hm3
      refine sr ?_
      refine Zh ?_
      refine Xu (Zn6 hgem14) rfl ?_
      refine XM ?_
      refine ss ?_
      cases hm3
      exact XP [(109,109),(5001,5001),(5002,5002)] ⟨_,rfl,rfl⟩
    rintro _ ⟨zone16,rfl,rfl⟩
    refine sr ?_
    obtain ⟨mu3,hm3,hm2⟩:=ZF hm2
    refine YN (fun st=>∃ (out18:List (List Rng)) (last19:Int),mu3=(out18,last19)∧st=⟨[(1,.d (lst Bnd.ds cuts2)),(6,.hx 5003),(7,vI last19),(9,.p 109 0),(30,.d (lst Rng.ds y5)),(31,vI (y5.length:Int)),(32,vI (m10:Int))],[(109,some (.box 72 (Rng.vs r8))),(5003,some (.hd)),(5004,some (axT 5003 23 1 72 4 (fun (x:List Rng)=>([]:List D)) (fun (x:List Rng)=>x) Rng.ds (fun (x:List Rng)=>([]:List D)) out18 none))]⟩) ?_ ?_
    ·refine co hm3 (fun hm3=>?_) fun hm3=>?_
     ·refine sr ?_
      refine Zw6 (Zxp 154 rfl rfl rfl rfl) rfl rfl rfl rfl rfl ?_
      refine ss ?_
      obtain ⟨l17,hy,hm3⟩:=ZF hm3
      refine Zw6 (ZoF (k2:=5002) 420550 [] hy rfl rfl rfl rfl rfl rfl rfl rfl rfl rfl) rfl rfl rfl rfl rfl ?_
      refine ss ?_
      cases hm3
      exact XP [(109,109),(5003,420550),(5004,420551)] ⟨_,_,rfl,rfl⟩
     refine sx ?_
     cases hm3
     exact XP [(109,109),(5003,5001),(5004,5002)] ⟨_,_,rfl,rfl⟩
    rintro _ ⟨out18,last19,rfl,rfl⟩
    refine ss ?_
    obtain ⟨e20,hy,hm2⟩:=ZF hm2
    have hge20:=hy
    refine ss ?_
    refine ZbM (ZpJ 5004 440200 hge20 rfl rfl) ?_
    refine Zx (id:=20) [⟨0,0,[6]⟩,⟨1,0,[6]⟩,⟨2,2,[58]⟩,⟨3,6,[59]⟩,⟨4,0,[6]⟩,⟨5,0,[6]⟩,⟨6,32,[62]⟩,⟨7,96,[63]⟩,⟨8,240,[61,64]⟩,⟨9,496,[65]⟩,⟨10,0,[9]⟩,⟨11,1024,[67]⟩,⟨12,4080,[66,68]⟩,⟨13,8191,[57,60]⟩,⟨14,16383,[69,70]⟩] mixed (by kernel_rfl) ?_
    refine ss ?_
    refine Ym [440201] (Zox (k2:=440201) rfl rfl rfl) rfl (by first | exact .no rfl | exact .y rfl rfl rfl rfl) rfl rfl ?_
    refine ss ?_
    refine Ym [440201] (Zox (k2:=440201) rfl rfl rfl) rfl (by first | exact .no rfl | exact .y rfl rfl rfl rfl) rfl rfl ?_
    refine ss ?_
    refine Ym [440201] (ZtH (k2:=440201) hge20 rfl rfl rfl rfl) rfl (by first | exact .no rfl | exact .y rfl rfl rfl rfl) rfl rfl ?_
    refine ss ?_
    refine Ym [440201,440200] (Zv5 (k2:=440201) (q:=440200) (off:=0) hge20 rfl rfl rfl rfl rfl (by exact inferInstance)) rfl (by first | exact .no rfl | exact .y rfl rfl rfl rfl) rfl rfl ?_
    refine ss ?_
    refine Zey Rng.ds [r8] rfl rfl (by simp only [Yp,Zp,List.cons_append,List.nil_append,List.append_nil]; exact rfl) rfl rfl rfl rfl (by first | exact .no rfl | exact .y rfl rfl rfl rfl) rfl rfl ?_
    refine bo hm2 fun l21 hm2=>?_
    refine ss ?_
    obtain ⟨e22,hy,hm2⟩:=ZF hm2
    have hge22:=hy
    refine Ym [440201] (ZtH (k2:=440201) hy rfl rfl rfl rfl) rfl (by first | exact .no rfl | exact .y rfl rfl rfl rfl) rfl rfl ?_
    refine ss ?_
    obtain ⟨e23,hy,hm2⟩:=Zaf hm2
    have hxe23:=hy
    refine ss ?_
    obtain ⟨l24,hy,hm2⟩:=Zaf hm2
    refine ss ?_
    refine Zu2 [440201,169] [440201,169,410040,410041] (ZvF (k2:=440201) (q:=169) (off:=0) 410040 hge22 hy rfl rfl rfl rfl rfl rfl (by exact inferInstance) (by first | (rw [← hxe23]) | rfl) (by first | (rw [← hxe23]) | rfl) (by first | (rw [← hxe23]) | rfl)) rfl (by first | exact .no rfl | exact .y rfl rfl rfl rfl) rfl rfl rfl rfl ?_
    have hge23:=Zay hge22 e23
    rw [hy] at hge23
    refine ss ?_
    cases hm2
    exact XP [(5005,5003),(5006,410041)] ⟨_,_,rfl,rfl⟩
   rintro _ ⟨out25,last26,rfl,rfl⟩
   refine sr ?_
   refine ZK (ZeA hltm10 hlenm10 rfl rfl rfl) rfl rfl rfl ?_
   refine ss ?_
   exact ZcA [(5001,5005),(5002,5006)] ⟨m10+1,_,_,rfl,hltm10,hm1,rfl⟩ (by omega)
  ·rw [Zdw hgem10,YB.eq_1] at hm1
   refine sr ?_
   refine Zh ?_
   refine Xu (Zn6 hgem10) rfl ?_
   refine XM ?_
   refine ss ?_
   cases hm1
   exact XP [(5007,5001),(5008,5002)] ⟨_,rfl,rfl⟩
 rintro _ ⟨out27,rfl,rfl⟩
 refine sr ?_
 refine sx ?_
 cases hm
 exact Zsq [] ⟨rfl,rfl⟩⟩
def Yw (cuts2:List Bnd):List Bnd→Int→Option (Ctl (List Zc × Int) Unit)
 | [],i =>
 some (Ctl.nxt ())
 | r4::xs5,i =>
 bnd (Yn r4) fun y7 =>
 sel (!y7) (
  some (Ctl.ret ([],1))) (
  sel (decide (0<i)) (
   Ze (Yx cuts2 (ZH (i - 1))) fun e8 =>
   bnd (Zj r4 e8) fun y9 =>
   sel (decide (y9≤0)) (
    some (Ctl.ret ([],8))) (
    Yw cuts2 xs5 (i+1))) (
   Yw cuts2 xs5 (i+1)))
def Yh (q1:Zg):List (List Rng)→List Zc→Option (Ctl (List Zc × Int) (List Zc))
 | [],out11 =>
 some (Ctl.nxt out11)
 | r12::xs13,out11 =>
 Ze (Zal q1 r12) fun y15 =>
 sel (!decide (y15.2=0)) (
  some (Ctl.ret ([],y15.2))) (
  Ze (app out11 ([y15.1]:List Zc)) fun l16 =>
  Yh q1 xs13 l16)
def X4 (q1:Zg) (cuts2:List Bnd):Option (List Zc × Int) :=
 Ze (Y3 q1) fun y3 =>
 sel (!decide (y3=0)) (
  some ([],y3)) (
  sel (decide (64<(cuts2.length:Int))) (
   some ([],3)) (
   Ze (
    Yw cuts2 cuts2 0:Option (Ctl (List Zc × Int) Unit)) fun mu=>Yv mu fun (_:Unit) =>
   Ze (Qo q1 cuts2) fun y10 =>
   Ze (
    Yh q1 y10 []:Option (Ctl (List Zc × Int) (List Zc))) fun mu=>Yv mu fun out17 =>
   some (out17,0)))
instance Znr {q1} {cuts2}:SpO (X4 q1 cuts2) fun y=>Sp 75 [.a (Zg.vs q1),.d (lst Bnd.ds cuts2)] [] (.t [.d (lst Zc.ds y.1),vI y.2]) []:=⟨fun hm=>by
 refine si Tryz.func75 Tryz.ntmps75 Tryz.results75 fun B w0 ρ0=>?_
 refine sr ?_
 refine sr ?_
 obtain ⟨y3,hy,hm⟩:=ZF hm
 refine Zg3 (Zb2 (hm:=hy)) ?_
 refine co hm (fun hm=>?_) fun hm=>?_
 ·exact YF hm
 refine co hm (fun hm=>?_) fun hm=>?_
 ·exact YF hm
 refine sx ?_
 refine sr ?_
 refine jc0 hm [1,2] [102] [] (fun _ hm hm1=>?_) (fun hm=>?_)
 ·refine Zl ?_
  refine Zq3 hm1 22 [1,2,22,23] [102] (fun m6=>[(24,vI (m6:Int))]) (fun hlenm6 m6 r4 hltm6 hxm6 hm1=>?_) (fun m6 hm1=>?_)
  ·refine bp hm1 fun y7 hm1=>?_
   refine co hm1 (fun hm1=>?_) fun hm1=>?_
   ·exact Zcw hm hm1
   refine sx ?_
   refine Zh ?_
   refine Zx (id:=11) [⟨0,0,[7]⟩,⟨1,1,[32]⟩,⟨2,3,[33]⟩,⟨3,7,[8,34]⟩,⟨4,7,[1,34]⟩,⟨5,7,[7,34]⟩,⟨6,39,[34,37]⟩,⟨7,119,[34,36,38]⟩,⟨8,247,[34,39]⟩,⟨9,511,[34,35,40]⟩,⟨10,1023,[34,41]⟩,⟨11,2047,[34,42]⟩] mixed (by kernel_rfl) ?_
   refine co hm1 (fun hm1=>?_) fun hm1=>?_
   ·refine bo hm1 fun e8 hm1=>?_
    refine bp hm1 fun y9 hm1=>?_
    refine co hm1 (fun hm1=>?_) fun hm1=>?_
    ·exact Zcw hm hm1
    exact eb1 hm hm1
   refine ss ?_
   refine YX rfl ?_
   exact eb1 hm hm1
  exact ZbL hm hm1
 refine bo hm fun y10 hm=>?_
 refine ss ?_
 refine jc1 hm [] [] (fun out17=>[(9,.d (lst Zc.ds out17))]) (fun _ hm hm1=>?_) (fun out17 hm=>?_)
 ·refine Zl ?_
  refine ZbM (ZbP 9 5001 124 6 rfl rfl) ?_
  refine lr1 hm1 47 [2,47,48] [102] (fun m14 out11=>[(9,.h 5001),(49,vI (m14:Int))]) (fun hlenm14 m14 out11 r12 hltm14 hxm14 hm1=>?_) (fun m14 out11 hm1=>?_) (B:=(fun m14 out11=>[(5001,some (YR 124 6 Zc.ds out11))]))
  ·refine bo hm1 fun y15 hm1=>?_
   refine co hm1 (fun hm1=>?_) fun hm1=>?_
   ·exact Zcw hm hm1
   refine sx ?_
   refine sr ?_
   refine Zag Zc.ds [y15.1] rfl rfl (by simp only [Yp,Zp,List.cons_append,List.nil_append,List.append_nil]; exact rfl) rfl rfl rfl rfl rfl rfl ?_
   refine bo hm1 fun l16 hm1=>?_
   exact ZhK [(102,102),(5001,165)] hm hm1
  exact ZbL hm hm1
 exact YF hm⟩
def Xn (l1:List Zc):Option (List Zc) :=
 Ze (app ([]:List Zc) l1) fun l2 =>
 some l2
instance ZhJ {l1}:SpO (Xn l1) fun y=>Sp 140 [.d (lst Zc.ds l1)] [] (.d (lst Zc.ds y)) []:=⟨fun hm=>by
 refine si Tryz.func140 Tryz.ntmps140 Tryz.results140 fun B w0 ρ0=>?_
 exact az0 hm⟩
theorem QY {l1:List Zc} {y:List Zc} (hm:Xn l1=some y):Spec Tryz.prog 140 [.d (lst Zc.ds l1)] [] fun u h=>u=.h 1∧h=[(1,some (YR 124 6 Zc.ds y))]:=by
 refine si Tryz.func140 Tryz.ntmps140 Tryz.results140 fun B w0 ρ0=>?_
 refine bo hm fun l2 hm=>?_
 exact Zqx [(1,104)] hm
def Qr (y2:List Zc):Nat→List Zc→Int→Option (List Zc)
 | 0,_,_=>none
 | fuel+1,l3,x4 =>
 Ze (
  sel (decide (x4<(y2.length:Int))) (
   some (Ctl.nxt ())) (
   some (Ctl.ret l3)):Option (Ctl (List Zc) Unit)) fun mu=>Yv mu fun (_:Unit) =>
 Ze (Yx l3 x4) fun e5 =>
 Ze (ZaZ e5) fun y6 =>
 Ze (Yx l3 x4) fun e7 =>
 bnd (y6) fun e9 =>
 bnd (l3.set (Int.toNat x4) e9) fun l8 =>
 Qr y2 fuel l8 (ZH (x4+1))
def XJ (l1:List Zc):Option (List Zc) :=
 Ze (Xn l1) fun y2 =>
 Ze (
  Qr y2 FU y2 0:Option (List Zc)) fun l10 =>
 some l10
instance Zqm {l1}:SpO (XJ l1) fun y=>Sp 77 [.d (lst Zc.ds l1)] [] (.d (lst Zc.ds y)) []:=⟨fun hm=>by
 refine si Tryz.func77 Tryz.ntmps77 Tryz.results77 fun B w0 ρ0=>?_
 refine sr ?_
 refine sr ?_
 obtain ⟨y2,hy,hm⟩:=ZF hm
 refine ZfF (u':=.h 200501) (h':=[(200501,some (YR 124 6 Zc.ds y2))]) (QY (hm:=hy)) 200500 rfl rfl rfl (by repeat (first | exact Vws.nil | apply Vws.cons | exact Vw.nil | exact Vw.d _ | exact Vw.q _ | apply Vw.a)) rfl (by (try simp only [Zfd,Option.map_some,Blk.ren,Zb7]); rfl) rfl rfl rfl rfl ?_
 refine sr ?_
 refine jo1 hm [] [] (fun l10=>[(0,.d (lst Zc.ds l10))]) (fun _ hm hm1=>?_) (fun l10 hm=>?_)
 ·refine Zl ?_
  refine lf2 hm1 [7] [] (fun l3 x4=>[(0,.h 5001),(8,vI x4)]) (fun κ l3 x4 hm1=>?_) (B:=(fun l3 x4=>[(5001,some (YR 124 6 Zc.ds l3))])) (f:=[(5001,200501)])
  refine sr ?_
  refine Zh ?_
  refine jc0 hm1 [0,7,8] [5001] [] (fun _ hm1 hm2=>?_) (fun hm1=>?_)
  ·exact az2 hm hm1 hm2
  refine bo' hm1 fun e5 hge5 hm1=>?_
  refine ss ?_
  refine ZK (Zkg (k:=5001) (f:=Zc.ds) (zz:=6) (u:=.a (Zc.vs e5)) (off:=0) hge5 rfl rfl rfl (by exact inferInstance) rfl rfl) rfl rfl rfl ?_
  refine bo hm1 fun y6 hm1=>?_
  refine bo' hm1 fun e7 hge7 hm1=>?_
  refine ss ?_
  obtain ⟨e9,hy,hm1⟩:=Zaf hm1
  have hxe9:=hy
  refine ss ?_
  obtain ⟨l8,hy,hm1⟩:=Zaf hm1
  refine Zqw (lo:=0) (nn:=0) (ZiW (k:=5001) (f:=Zc.ds) (zz:=6) (off:=0) hge7 hy rfl rfl rfl rfl (by exact inferInstance) rfl (by rw [← hxe9]; rfl)) rfl rfl (QJ _ _) ?_
  have hge9:=Zay hge7 e9
  rw [hy] at hge9
  refine sr ?_
  refine ZK (Y0 rfl rfl rfl rfl) rfl rfl rfl ?_
  refine ss ?_
  exact eb1 hm hm1
 exact YF hm⟩
structure Zk where
 Query:Zg
 Cuts:List Bnd
 First:List Zc
 Second:List Zc
 Turned:Bool
 deriving DecidableEq
def Zk.ds (x:Zk):List D:=[dI x.Query.Kind,lst Rng.ds x.Query.Ranges,dS x.Query.Key,dI x.Query.Count,lst Bnd.ds x.Cuts,lst Zc.ds x.First,lst Zc.ds x.Second,dB x.Turned]
instance : Len Zk.ds 8:=⟨fun _=>rfl⟩
abbrev Zk.vs (x:Zk):List V:=[vI x.Query.Kind,.d (lst Rng.ds x.Query.Ranges),vS x.Query.Key,vI x.Query.Count,.d (lst Bnd.ds x.Cuts),.d (lst Zc.ds x.First),.d (lst Zc.ds x.Second),vB x.Turned]
def Zar (q1:Zg) (cuts2:List Bnd):Option (Zk × Int) :=
 Ze (X4 q1 cuts2) fun y3 =>
 sel (!decide (y3.2=0)) (
  some ((Zk.mk (Zg.mk 0 [] ⟨#[]⟩ 0) [] [] [] false),y3.2)) (
  Ze (XK q1) fun y4 =>
  Ze (Z7 cuts2) fun y5 =>
  Ze (XJ y3.1) fun y6 =>
  some ((Zk.mk y4 y5 y3.1 y6 false),0))
instance Zqv {q1} {cuts2}:SpO (Zar q1 cuts2) fun y=>Sp 23 [.a (Zg.vs q1),.d (lst Bnd.ds cuts2)] [] (.t [.a (Zk.vs y.1),vI y.2]) []:=⟨fun hm=>by
 refine si Tryz.func23 Tryz.ntmps23 Tryz.results23 fun B w0 ρ0=>?_
 exact az0 hm⟩
def Qz (a1:ByteArray) (b2:ByteArray):Rng :=
 (Rng.mk (Bnd.mk a1 false) (Bnd.mk b2 false))
instance ZnU {a1} {b2}:SpT (Qz a1 b2) fun y=>Sp 59 [vS a1,vS b2] [] (.a (Rng.vs y)) []:=⟨fun hm=>by
 refine si Tryz.func59 Tryz.ntmps59 Tryz.results59 fun B w0 ρ0=>?_
 unfold Qz at hm
 exact YF hm⟩
def Zbq:Option Bool :=
 bnd (Qz ⟨#[97]⟩ ⟨#[109]⟩) fun y1 =>
 Ze (Zar (Zg.mk 1 ([y1]:List Rng) ⟨#[]⟩ 0) ([(Bnd.mk ⟨#[102]⟩ false),(Bnd.mk ⟨#[122]⟩ false)]:List Bnd)) fun y2 =>
 sel (decide (y2.2=0)) (
  sel (decide ((y2.1.First.length:Int)=2)) (
   Ze (Yx y2.1.First 0) fun e3 =>
   sel (decide ((e3.Todo.length:Int)=1)) (
    Ze (Yx y2.1.First 0) fun e4 =>
    Ze (Yx e4.Todo 0) fun e5 =>
    bnd (Qz ⟨#[97]⟩ ⟨#[102]⟩) fun y6 =>
    sel (decide (e5.lo.key=y6.lo.key) && decide (e5.lo.top=y6.lo.top) && decide (e5.hi.key=y6.hi.key) && decide (e5.hi.top=y6.hi.top)) (
     Ze (Yx y2.1.First 1) fun e7 =>
     Ze (Yx e7.Todo 0) fun e8 =>
     bnd (Qz ⟨#[102]⟩ ⟨#[109]⟩) fun y9 =>
     some (decide (e8.lo.key=y9.lo.key) && decide (e8.lo.top=y9.lo.top) && decide (e8.hi.key=y9.hi.key) && decide (e8.hi.top=y9.hi.top))) (
     some false)) (
    some false)) (
   some false)) (
  some false)
instance Zqf:SpO (Zbq) fun y=>Sp 10 [] [] (vB y) []:=⟨fun hm=>by
 refine si Tryz.func10 Tryz.ntmps10 Tryz.results10 fun B w0 ρ0=>?_
 refine bp hm fun y1 hm=>?_
 refine ss ?_
 refine Zag Rng.ds [y1] rfl rfl (by simp only [Yp,Zp,List.cons_append,List.nil_append,List.append_nil]; exact rfl) rfl rfl rfl rfl rfl rfl ?_
 refine ss ?_
 refine Zag Bnd.ds [(Bnd.mk ⟨#[102]⟩ false),(Bnd.mk ⟨#[122]⟩ false)] rfl rfl (by simp only [Yp,Zp,List.cons_append,List.nil_append,List.append_nil]; exact rfl) rfl rfl rfl rfl rfl rfl ?_
 refine bo hm fun y2 hm=>?_
 refine ss ?_
 refine Zh ?_
 refine Zx (id:=2) [⟨0,0,[2]⟩,⟨1,1,[13]⟩,⟨2,3,[14]⟩,⟨3,7,[1,15]⟩,⟨4,15,[15,16]⟩,⟨5,31,[15,17]⟩,⟨6,63,[15,18]⟩,⟨7,127,[15,19]⟩,⟨8,255,[20]⟩,⟨9,511,[1,21]⟩,⟨10,1023,[21,22]⟩,⟨11,2047,[21,23]⟩,⟨12,4095,[21,24]⟩,⟨13,8191,[21,25]⟩,⟨14,16383,[21,26]⟩,⟨15,32767,[21,27]⟩,⟨16,65535,[21,28]⟩,⟨17,131071,[29]⟩,⟨18,262143,[1,30]⟩,⟨19,524287,[30,31]⟩,⟨20,1048575,[30,32]⟩,⟨21,2097151,[30,33]⟩,⟨22,4194303,[30,34]⟩,⟨23,8388607,[30,35]⟩,⟨24,16777215,[30,36]⟩,⟨25,262143,[30]⟩,⟨26,67108863,[30,37,38]⟩,⟨27,134217727,[30,39]⟩,⟨28,268435455,[40]⟩,⟨29,536870911,[1,41]⟩,⟨30,1073741823,[41,42]⟩,⟨31,2147483647,[41,43]⟩,⟨32,4294967295,[41,44]⟩,⟨33,8589934591,[41,45]⟩,⟨34,17179869183,[41,46]⟩,⟨35,34359738367,[41,47]⟩,⟨36,536870911,[41]⟩,⟨37,137438953471,[41,48,49]⟩,⟨38,274877906943,[41,50]⟩,⟨39,549755813887,[51]⟩] mixed (by kernel_rfl) ?_
 refine co hm (fun hm=>?_) fun hm=>?_
 ·refine co hm (fun hm=>?_) fun hm=>?_
  ·refine bo hm fun e3 hm=>?_
   refine co hm (fun hm=>?_) fun hm=>?_
   ·refine bo hm fun e4 hm=>?_
    refine ss ?_
    obtain ⟨e5,hy,hm⟩:=ZF hm
    refine Ym [] (ZiU (ys:=[dS e5.lo.key,dB e5.lo.top,dS e5.hi.key,dB e5.hi.top]) hy rfl rfl rfl rfl) rfl (by first | exact .no rfl | exact .y rfl rfl rfl rfl) rfl rfl ?_
    refine bp hm fun y6 hm=>?_
    refine co hm (fun hm=>?_) fun hm=>?_
    ·refine bo hm fun e7 hm=>?_
     refine ss ?_
     obtain ⟨e8,hy,hm⟩:=ZF hm
     refine Ym [] (ZiU (ys:=[dS e8.lo.key,dB e8.lo.top,dS e8.hi.key,dB e8.hi.top]) hy rfl rfl rfl rfl) rfl (by first | exact .no rfl | exact .y rfl rfl rfl rfl) rfl rfl ?_
     exact az0 hm
    exact YF hm
   exact YF hm
  exact YF hm
 exact YF hm⟩
end Go.Proofs.YtkcmgbbopedacaaGreatDoor
