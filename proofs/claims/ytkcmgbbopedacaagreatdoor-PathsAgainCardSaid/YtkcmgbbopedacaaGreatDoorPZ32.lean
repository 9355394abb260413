/-
  Lemmas: Models and walks
-/
import Derived.Test.YtkcmgbbopedacaaGreatDoorPZ18
import Derived.Test.YtkcmgbbopedacaaGreatDoorPZ24
import Derived.Test.YtkcmgbbopedacaaGreatDoorPZ25
import Derived.Test.YtkcmgbbopedacaaGreatDoorPZ31
set_option linter.unusedSimpArgs false
set_option linter.unusedVariables false
namespace Go.Proofs.YtkcmgbbopedacaaGreatDoor
open Go.RowKit
set_option maxRecDepth 100000
set_option maxHeartbeats 4000000
attribute [local irreducible] WK WC WL Wk Rel OpD OpV WD WO sel bnd Ze app YD lsl ZeM ssl ZhA Zhi Zi9 Zh4 Op.bytesLess
attribute [local irreducible] ZcE Yi union mlk ZtS Zve ZtT cpy Zc2
def Ya (l1:List Bnd):Option (List Bnd) :=
 Ze (app ([]:List Bnd) l1) fun l2 =>
 some l2
instance Zhx {l1}:SpO (Ya l1) fun y=>Sp 65 [.d (lst Bnd.ds l1)] [] (.d (lst Bnd.ds y)) []:=⟨fun hm=>by
 refine si Tryz.func65 Tryz.ntmps65 Tryz.results65 fun B w0 ρ0=>?_
 exact az0 hm⟩
theorem Zce {l1:List Bnd} {y:List Bnd} (hm:Ya l1=some y):Spec Tryz.prog 65 [.d (lst Bnd.ds l1)] [] fun u h=>u=.h 1∧h=[(1,some (YY 32 2 Bnd.ds y))]:=by
 refine si Tryz.func65 Tryz.ntmps65 Tryz.results65 fun B w0 ρ0=>?_
 refine bo hm fun l2 hm=>?_
 exact ZqV [(1,104)] hm
def Zep (i1:Int) (j2:Int) (c3:List Bnd):Option Bool :=
 Ze (YD c3 i1) fun e4 =>
 Ze (YD c3 j2) fun e5 =>
 bnd (Zl e4 e5) fun y6 =>
 some (decide (y6<0))
theorem ZfS {i1:Int} {j2:Int} {c3:List Bnd} {y:Bool} (hm:Zep i1 j2 c3=some y):Spec Tryz.prog 67 [vI i1,vI j2,.q [lst Bnd.ds c3]] [] fun u h=>u=vB y∧h=[]:=by
 refine si Tryz.func67 Tryz.ntmps67 Tryz.results67 fun B w0 ρ0=>?_
 refine sr ?_
 refine Zg ?_
 refine Zy (id:=1) [⟨0,0,[2]⟩,⟨1,0,[0]⟩,⟨2,3,[6,7]⟩,⟨3,7,[8]⟩,⟨4,0,[2]⟩,⟨5,0,[1]⟩,⟨6,48,[10,11]⟩,⟨7,112,[12]⟩,⟨8,255,[9,13]⟩,⟨9,511,[14]⟩,⟨10,1023,[15]⟩] mixed (by kernel_rfl) ?_
 exact az0 hm
def XG (l4:List Bnd) (r6:Rng):Nat→List Rng→ByteArray→Bool→Int→Option (List Rng × ByteArray × Bool)
 | 0,_,_,_,_=>none
 | fuel+1,out10,r11,r12,x13 =>
 Ze (
  sel (decide (x13<(l4.length:Int))) (
   some (Ctl.nxt ())) (
   some (Ctl.ret (out10,r11,r12))):Option (Ctl (List Rng × ByteArray × Bool) Unit)) fun mu=>Yz mu fun (_:Unit) =>
 Ze (YD l4 x13) fun e14 =>
 Ze (
  bnd (Yr e14) fun y15 =>
  sel y15 (
   bnd (Zl e14 (Bnd.mk r11 r12)) fun y16 =>
   sel (decide (0<y16)) (
    bnd (Zl e14 r6.hi) fun y17 =>
    some (decide (y17<0))) (
    some false)) (
   some false):Option Bool) fun x18 =>
 sel x18 (
  Ze (app out10 ([(Rng.mk (Bnd.mk r11 r12) e14)]:List Rng)) fun l19 =>
  XG l4 r6 fuel l19 e14.key e14.top (ZJ (x13+1))) (
  XG l4 r6 fuel out10 r11 r12 (ZJ (x13+1)))
def QC (l4:List Bnd):List Rng→List Rng→Option (List Rng)
 | [],out5 =>
 some out5
 | r6::xs7,out5 =>
 Ze (
  bnd (ZV r6) fun y9 =>
  Ze (
   sel y9 (
    some (Ctl.ret out5)) (
    some (Ctl.nxt ())):Option (Ctl (List Rng) Unit)) fun mu=>Yz mu fun (_:Unit) =>
  Ze (
   XG l4 r6 FU out5 r6.lo.key r6.lo.top 0:Option (List Rng × ByteArray × Bool)) fun (out20,r21,r22) =>
  Ze (app out20 ([(Rng.mk (Bnd.mk r21 r22) r6.hi)]:List Rng)) fun l23 =>
  some l23:Option (List Rng)) fun out24 =>
 QC l4 xs7 out24
def Zco (l1:List Rng) (cuts2:List Bnd):Option (List Rng) :=
 Ze (Ya cuts2) fun y3 =>
 Ze (Zc2 (fun e4 e5=>bnd (Zl e4 e5) fun y6=>decide (y6<0)) y3) fun l4 =>
 Ze (
  QC l4 l1 []:Option (List Rng)) fun out25 =>
 some out25
instance ZqF {l1} {cuts2}:SpO (Zco l1 cuts2) fun y=>Sp 17 [.d (lst Rng.ds l1),.d (lst Bnd.ds cuts2)] [] (.d (lst Rng.ds y)) []:=⟨fun hm=>by
 refine si Tryz.func17 Tryz.ntmps17 Tryz.results17 fun B w0 ρ0=>?_
 refine sr ?_
 refine sr ?_
 obtain ⟨y3,hy,hm⟩:=ZH hm
 refine ZfY (u':=.h 201101) (h':=[(201101,some (YY 32 2 Bnd.ds y3))]) (Zce (hm:=hy)) 201100 rfl rfl rfl (by repeat (first | exact Vws.nil | apply Vws.cons | exact Vw.nil | exact Vw.d _ | exact Vw.q _ | apply Vw.a)) rfl (by (try simp only [Zfw,Option.map_some,Blk.ren,Zcf]); rfl) rfl rfl rfl rfl ?_
 refine sr ?_
 refine ZL (ZuQ rfl rfl Tryz.underlying24 rfl) rfl rfl rfl ?_
 refine ss ?_
 refine ZL (ZwI rfl rfl) rfl rfl rfl ?_
 refine ss ?_
 obtain ⟨l4,hy,hm⟩:=ZH hm
 refine Zxb (fv:=(fun (x:Bnd)=>[.string x.key,.bool x.top])) (kb:=103) hy Zym (fun _=>rfl) (fun _=>rfl) (by simp [Value.oneCell']) (fun ys i j a b ha hb=>ZfS (hm:=by simp only [Zep,ZtG ha,ZtG hb,Za,Zn])) rfl rfl rfl rfl rfl rfl rfl rfl rfl ?_
 refine sr ?_
 refine sr ?_
 refine jo1 hm [] [] (fun out25=>[(5,.d (lst Rng.ds out25))]) (fun _ hm hm1=>?_) (fun out25 hm=>?_)
 ·refine Zm ?_
  refine ZbW (ZbY 5 5001 72 4 rfl rfl) ?_
  refine lr1 hm1 16 [3,16,17] [103,201101] (fun m8 out5=>[(5,.h 5001),(18,vI (m8:Int))]) (fun hlenm8 m8 out5 r6 hltm8 hxm8 hm1=>?_) (fun m8 out5 hm1=>?_) (B:=(fun m8 out5=>[(5001,some (YY 72 4 Rng.ds out5))]))
  ·refine sx ?_
   refine Zg ?_
   refine jo1 hm1 [3,16,17,18] [103,201101] (fun out24=>[(5,.h 5004)]) (fun _ hm1 hm2=>?_) (fun out24 hm1=>?_) (B:=(fun out24=>[(5004,some (YY 72 4 Rng.ds out24))]))
   ·refine bp hm2 fun y9 hm2=>?_
    refine ss ?_
    refine jc0 hm2 [3,5,7,16,17,18] [103,107,5001,201101] [] (fun _ hm2 hm3=>?_) (fun hm2=>?_)
    ·refine co hm3 (fun hm3=>?_) fun hm3=>?_
     ·exact Zz7 [(103,103),(5004,5001),(201101,201101)] hm hm1 hm2 hm3
     exact Zvl hm hm1 hm2 hm3
    refine sr ?_
    refine jo3 hm2 [3,7,16,17,18] [103,201101] (fun out20 r21 r22=>[(5,.h 5003)]) (fun _ hm2 hm3=>?_) (fun out20 r21 r22 hm2=>?_) (B:=(fun out20 r21 r22=>[(107,some (.box 72 (Rng.vs (Rng.mk (Bnd.mk r21 r22) r6.hi)))),(5003,some (YY 72 4 Rng.ds out20))]))
    ·refine Zm ?_
     refine lf4 hm3 [3,7,16,17,18,24,25] [103,201101] (fun out10 r11 r12 x13=>[(5,.h 5002),(26,vI x13)]) (fun κ out10 r11 r12 x13 hm3=>?_) (B:=(fun out10 r11 r12 x13=>[(107,some (.box 72 (Rng.vs (Rng.mk (Bnd.mk r11 r12) r6.hi)))),(5002,some (YY 72 4 Rng.ds out10))])) (f:=[(103,103),(107,107),(5002,5001),(201101,201101)])
     refine sr ?_
     refine Zg ?_
     refine jc0 hm3 [3,5,7,16,17,18,24,25,26] [103,107,5002,201101] [] (fun _ hm3 hm4=>?_) (fun hm3=>?_)
     ·refine co hm4 (fun hm4=>?_) fun hm4=>?_
      ·exact Zze hm hm1 hm2 hm3 hm4
      exact Zzo [(103,103),(107,107),(5003,5002),(201101,201101)] hm hm1 hm2 hm3 hm4
     refine bo' hm3 fun e14 hge14 hm3=>?_
     refine ss ?_
     refine ZL (Zkz (k:=201101) (f:=Bnd.ds) (zz:=2) (u:=.a [vS e14.key,vB e14.top]) (off:=0) hge14 rfl rfl rfl (by exact inferInstance) rfl rfl) rfl rfl rfl ?_
     refine ss ?_
     refine Zg ?_
     refine jo1 hm3 [3,5,7,9,16,17,18,24,25,26] [103,107,109,5002,201101] (fun x18=>[(45,vB x18)]) (fun _ hm3 hm4=>?_) (fun x18 hm3=>?_)
     ·exact az4 hm hm1 hm2 hm3 hm4
     refine co hm3 (fun hm3=>?_) fun hm3=>?_
     ·refine sr ?_
      refine Zaq Rng.ds [(Rng.mk (Bnd.mk r11 r12) e14)] rfl rfl (by simp only [YB,Zq,List.cons_append,List.nil_append,List.append_nil]; exact rfl) rfl rfl rfl rfl rfl rfl ?_
      refine bo hm3 fun l19 hm3=>?_
      refine sr ?_
      refine sr ?_
      refine ZL (YZ rfl rfl rfl rfl) rfl rfl rfl ?_
      refine ss ?_
      exact Zzm [(103,103),(107,107),(5002,152),(201101,201101)] hm hm1 hm2 hm3
     refine sx ?_
     refine sr ?_
     refine ZL (YZ rfl rfl rfl rfl) rfl rfl rfl ?_
     refine ss ?_
     exact eb3 hm hm1 hm2 hm3
    refine sr ?_
    refine Zaq Rng.ds [(Rng.mk (Bnd.mk r21 r22) r6.hi)] rfl rfl (by simp only [YB,Zq,List.cons_append,List.nil_append,List.append_nil]; exact rfl) rfl rfl rfl rfl rfl rfl ?_
    refine bo hm2 fun l23 hm2=>?_
    exact Zvi [(103,103),(5004,159),(201101,201101)] hm hm1 hm2
   exact Zh5 [(103,103),(5001,5004),(201101,201101)] hm hm1
  exact ZbU hm hm1
 exact YF hm⟩
def Yw (r8:Rng):List Bnd→Int→Option Int
 | [],zone11 =>
 some zone11
 | r12::xs13,zone11 =>
 bnd (Zl r12 r8.lo) fun y15 =>
 sel (decide (y15≤0)) (
  Yw r8 xs13 (ZJ (zone11+1))) (
  Yw r8 xs13 zone11)
def YL (cuts2:List Bnd):List Rng→List (List Rng)→Int→Option (List (List Rng))
 | [],out6,last7 =>
 some out6
 | r8::xs9,out6,last7 =>
 Ze (
  Ze (
   Yw r8 cuts2 0:Option Int) fun zone16 =>
  Ze (
   sel (!decide (zone16=last7)) (
    Ze (app out6 ([[]]:List (List Rng))) fun l17 =>
    some (l17,zone16)) (
    some (out6,last7)):Option (List (List Rng) × Int)) fun (out18,last19) =>
  Ze (YD out18 (ZJ ((out18.length:Int) - 1))) fun e20 =>
  Ze (app e20 ([r8]:List Rng)) fun l21 =>
  Ze (YD out18 (ZJ ((out18.length:Int) - 1))) fun e22 =>
  bnd (l21) fun e23 =>
  bnd (out18.set (Int.toNat (ZJ ((out18.length:Int) - 1))) e23) fun l24 =>
  some (l24,last19):Option (List (List Rng) × Int)) fun (out25,last26) =>
 YL cuts2 xs9 out25 last26
def Qx (q1:Zf) (cuts2:List Bnd):Option (List (List Rng)) :=
 Ze (YK q1) fun y3 =>
 Ze (
  sel (!decide (q1.Kind=1)) (
   some (!decide (q1.Kind=2))) (
   some false):Option Bool) fun x4 =>
 sel x4 (
  sel (decide ((y3.length:Int)=0)) (
   some []) (
   some ([y3]:List (List Rng)))) (
  Ze (Zco y3 cuts2) fun y5 =>
  Ze (
   YL cuts2 y5 [] (-1):Option (List (List Rng))) fun out27 =>
  some out27)
instance ZqL {q1} {cuts2}:SpO (Qx q1 cuts2) fun y=>Sp 137 [.a (Zf.vs q1),.d (lst Bnd.ds cuts2)] [] (.d (lst (dsL Rng.ds) y)) []:=⟨fun hm=>by
 refine si Tryz.func137 Tryz.ntmps137 Tryz.results137 fun B w0 ρ0=>?_
 refine sr ?_
 refine sr ?_
 obtain ⟨y3,hy,hm⟩:=ZH hm
 refine Zhp (ZbI (hm:=hy)) ?_
 refine ss ?_
 refine Zg ?_
 refine Zg ?_
 obtain ⟨mu1,hm1,hm⟩:=ZH hm
 refine YQ (fun st=>∃ (x4:Bool),x4=mu1∧st=⟨[(1,.d (lst Bnd.ds cuts2)),(5,.d (lst Rng.ds y3)),(22,vB x4)],[]⟩) ?_ ?_
 ·refine co hm1 (fun hm1=>?_) fun hm1=>?_
  ·refine ss ?_
   cases hm1
   exact XZ [] ⟨_,rfl,rfl⟩
  refine ss ?_
  cases hm1
  exact XZ [] ⟨_,rfl,rfl⟩
 rintro _ ⟨x4,rfl,rfl⟩
 refine co hm (fun hm=>?_) fun hm=>?_
 ·refine co hm (fun hm=>?_) fun hm=>?_
  ·refine sr ?_
   refine sx ?_
   cases hm
   exact Zkr
  refine sx ?_
  refine sr ?_
  refine Zaq (dsL Rng.ds) [y3] rfl rfl (by simp only [YB,Zq,List.cons_append,List.nil_append,List.append_nil]; exact rfl) rfl rfl rfl rfl rfl rfl ?_
  refine sx ?_
  cases hm
  exact Zkr
 refine bo hm fun y5 hm=>?_
 refine ss ?_
 obtain ⟨mu1,hm1,hm⟩:=ZH hm
 refine YQ (fun st=>∃ (out27:List (List Rng)),out27=mu1∧st=⟨[(6,.hx 5007)],[(5007,some (.hd)),(5008,some (axT 5007 23 1 72 4 (fun (x:List Rng)=>([]:List D)) (fun (x:List Rng)=>x) Rng.ds (fun (x:List Rng)=>([]:List D)) out27 none))]⟩) ?_ ?_
 ·refine Zm ?_
  refine ZbW (ZuV 6 5001 23 1 72 4 rfl rfl) ?_
  refine ZdE 30 rfl (fun hlenm10=>?_)
  refine Ze6 (fun κ st=>∃ (m10:Nat) (out6:List (List Rng)) (last7:Int),κ=y5.length - m10∧m10≤y5.length∧YL cuts2 (y5.drop m10) out6 last7=some mu1∧st=⟨[(1,.d (lst Bnd.ds cuts2)),(6,.hx 5001),(7,vI last7),(30,.d (lst Rng.ds y5)),(31,vI (y5.length:Int)),(32,vI (m10:Int))],[(5001,some (.hd)),(5002,some (axT 5001 23 1 72 4 (fun (x:List Rng)=>([]:List D)) (fun (x:List Rng)=>x) Rng.ds (fun (x:List Rng)=>([]:List D)) out6 none))]⟩) [(5001,5001),(5002,5002)] ⟨0,_,_,rfl,Nat.zero_le _,hm1,rfl⟩ ?_
  rintro κ _ ⟨m10,out6,last7,rfl,hlem10,hm1,rfl⟩
  rcases Nat.lt_or_ge m10 y5.length with hltm10 | hgem10
  ·obtain ⟨r8,hxm10,hdr⟩:=Zdw hltm10
   rw [hdr,YL.eq_2] at hm1
   refine sr ?_
   refine Zg ?_
   refine XB (Zos hltm10) rfl ?_
   refine sx ?_
   refine Zg ?_
   obtain ⟨mu2,hm2,hm1⟩:=ZH hm1
   refine YQ (fun st=>∃ (out25:List (List Rng)) (last26:Int),mu2=(out25,last26)∧st=⟨[(1,.d (lst Bnd.ds cuts2)),(6,.hx 5005),(7,vI last26),(30,.d (lst Rng.ds y5)),(31,vI (y5.length:Int)),(32,vI (m10:Int))],[(5005,some (.hd)),(5006,some (axT 5005 23 1 72 4 (fun (x:List Rng)=>([]:List D)) (fun (x:List Rng)=>x) Rng.ds (fun (x:List Rng)=>([]:List D)) out25 none))]⟩) ?_ ?_
   ·refine sr ?_
    refine ZL (Zc3 hxm10 rfl rfl rfl rfl) rfl rfl rfl ?_
    refine sr ?_
    refine sr ?_
    obtain ⟨mu3,hm3,hm2⟩:=ZH hm2
    refine YQ (fun st=>∃ (zone16:Int),zone16=mu3∧st=⟨[(1,.d (lst Bnd.ds cuts2)),(6,.hx 5001),(7,vI last7),(9,.p 109 0),(10,vI zone16),(30,.d (lst Rng.ds y5)),(31,vI (y5.length:Int)),(32,vI (m10:Int))],[(109,some (.box 72 (Rng.vs r8))),(5001,some (.hd)),(5002,some (axT 5001 23 1 72 4 (fun (x:List Rng)=>([]:List D)) (fun (x:List Rng)=>x) Rng.ds (fun (x:List Rng)=>([]:List D)) out6 none))]⟩) ?_ ?_
    ·refine Zm ?_
     refine ZdE 36 rfl (fun hlenm14=>?_)
     refine Ze6 (fun κ st=>∃ (m14:Nat) (zone11:Int),κ=cuts2.length - m14∧m14≤cuts2.length∧Yw r8 (cuts2.drop m14) zone11=some mu3∧st=⟨[(1,.d (lst Bnd.ds cuts2)),(6,.hx 5001),(7,vI last7),(9,.p 109 0),(10,vI zone11),(30,.d (lst Rng.ds y5)),(31,vI (y5.length:Int)),(32,vI (m10:Int)),(36,.d (lst Bnd.ds cuts2)),(37,vI (cuts2.length:Int)),(38,vI (m14:Int))],[(109,some (.box 72 (Rng.vs r8))),(5001,some (.hd)),(5002,some (axT 5001 23 1 72 4 (fun (x:List Rng)=>([]:List D)) (fun (x:List Rng)=>x) Rng.ds (fun (x:List Rng)=>([]:List D)) out6 none))]⟩) [(109,109),(5001,5001),(5002,5002)] ⟨0,_,rfl,Nat.zero_le _,hm3,rfl⟩ ?_
     rintro κ _ ⟨m14,zone11,rfl,hlem14,hm3,rfl⟩
     rcases Nat.lt_or_ge m14 cuts2.length with hltm14 | hgem14
     ·obtain ⟨r12,hxm14,hdr⟩:=Zdw hltm14
      rw [hdr,Yw.eq_2] at hm3
      refine sr ?_
      refine Zg ?_
      refine XB (Zos hltm14) rfl ?_
      refine bp hm3 fun y15 hm3=>?_
      refine co hm3 (fun hm3=>?_) fun hm3=>?_
      ·refine sr ?_
       refine ZL (YZ rfl rfl rfl rfl) rfl rfl rfl ?_
       refine sr ?_
       refine ZL (ZeO hltm14 hlenm14 rfl rfl rfl) rfl rfl rfl ?_
       refine ss ?_
       exact ZcK [(109,109),(5001,5001),(5002,5002)] ⟨m14+1,_,rfl,hltm14,hm3,rfl⟩ (by omega)
      refine sx ?_
      refine sr ?_
      refine ZL (ZeO hltm14 hlenm14 rfl rfl rfl) rfl rfl rfl ?_
      refine ss ?_
      exact ZcK [(109,109),(5001,5001),(5002,5002)] ⟨m14+1,_,rfl,hltm14,hm3,rfl⟩ (by omega)
     ·rw [ZdG hgem14,Yw.eq_1] at hm3
      refine sr ?_
      refine Zg ?_
      refine XD (Zor hgem14) rfl ?_
      refine XA ?_
      refine ss ?_
      cases hm3
      exact XZ [(109,109),(5001,5001),(5002,5002)] ⟨_,rfl,rfl⟩
    rintro _ ⟨zone16,rfl,rfl⟩
    refine sr ?_
    obtain ⟨mu3,hm3,hm2⟩:=ZH hm2
    refine YQ (fun st=>∃ (out18:List (List Rng)) (last19:Int),mu3=(out18,last19)∧st=⟨[(1,.d (lst Bnd.ds cuts2)),(6,.hx 5003),(7,vI last19),(9,.p 109 0),(30,.d (lst Rng.ds y5)),(31,vI (y5.length:Int)),(32,vI (m10:Int))],[(109,some (.box 72 (Rng.vs r8))),(5003,some (.hd)),(5004,some (axT 5003 23 1 72 4 (fun (x:List Rng)=>([]:List D)) (fun (x:List Rng)=>x) Rng.ds (fun (x:List Rng)=>([]:List D)) out18 none))]⟩) ?_ ?_
    ·refine co hm3 (fun hm3=>?_) fun hm3=>?_
     ·refine sr ?_
      refine Zxo (ZxT 154 rfl rfl rfl rfl) rfl rfl rfl rfl rfl ?_
      refine ss ?_
      obtain ⟨l17,hy,hm3⟩:=ZH hm3
      refine Zxo (Zpj (k2:=5002) 420550 [] hy rfl rfl rfl rfl rfl rfl rfl rfl rfl rfl) rfl rfl rfl rfl rfl ?_
      refine ss ?_
      cases hm3
      exact XZ [(109,109),(5003,420550),(5004,420551)] ⟨_,_,rfl,rfl⟩
     refine sx ?_
     cases hm3
     exact XZ [(109,109),(5003,5001),(5004,5002)] ⟨_,_,rfl,rfl⟩
    rintro _ ⟨out18,last19,rfl,rfl⟩
    refine ss ?_
    obtain ⟨e20,hy,hm2⟩:=ZH hm2
    have hge20:=hy
    refine ss ?_
    refine ZbW (Zp5 5004 440200 hge20 rfl rfl) ?_
    refine Zy (id:=20) [⟨0,0,[6]⟩,⟨1,0,[6]⟩,⟨2,2,[58]⟩,⟨3,6,[59]⟩,⟨4,0,[6]⟩,⟨5,0,[6]⟩,⟨6,32,[62]⟩,⟨7,96,[63]⟩,⟨8,240,[61,64]⟩,⟨9,496,[65]⟩,⟨10,0,[9]⟩,⟨11,1024,[67]⟩,⟨12,4080,[66,68]⟩,⟨13,8191,[57,60]⟩,⟨14,16383,[69,70]⟩] mixed (by kernel_rfl) ?_
    refine ss ?_
    refine Yp [440201] (ZoB (k2:=440201) rfl rfl rfl) rfl (by first | exact .no rfl | exact .y rfl rfl rfl rfl) rfl rfl ?_
    refine ss ?_
    refine Yp [440201] (ZoB (k2:=440201) rfl rfl rfl) rfl (by first | exact .no rfl | exact .y rfl rfl rfl rfl) rfl rfl ?_
    refine ss ?_
    refine Yp [440201] (Zua (k2:=440201) hge20 rfl rfl rfl rfl) rfl (by first | exact .no rfl | exact .y rfl rfl rfl rfl) rfl rfl ?_
    refine ss ?_
    refine Yp [440201,440200] (Zxa (k2:=440201) (q:=440200) (off:=0) hge20 rfl rfl rfl rfl rfl (by exact inferInstance)) rfl (by first | exact .no rfl | exact .y rfl rfl rfl rfl) rfl rfl ?_
    refine ss ?_
    refine ZeP Rng.ds [r8] rfl rfl (by simp only [YB,Zq,List.cons_append,List.nil_append,List.append_nil]; exact rfl) rfl rfl rfl rfl (by first | exact .no rfl | exact .y rfl rfl rfl rfl) rfl rfl ?_
    refine bo hm2 fun l21 hm2=>?_
    refine ss ?_
    obtain ⟨e22,hy,hm2⟩:=ZH hm2
    have hge22:=hy
    refine Yp [440201] (Zua (k2:=440201) hy rfl rfl rfl rfl) rfl (by first | exact .no rfl | exact .y rfl rfl rfl rfl) rfl rfl ?_
    refine ss ?_
    obtain ⟨e23,hy,hm2⟩:=Zao hm2
    have hxe23:=hy
    refine ss ?_
    obtain ⟨l24,hy,hm2⟩:=Zao hm2
    refine ss ?_
    refine Zv3 [440201,169] [440201,169,410040,410041] (Zwa (k2:=440201) (q:=169) (off:=0) 410040 hge22 hy rfl rfl rfl rfl rfl rfl (by exact inferInstance) (by first | (rw [← hxe23]) | rfl) (by first | (rw [← hxe23]) | rfl) (by first | (rw [← hxe23]) | rfl)) rfl (by first | exact .no rfl | exact .y rfl rfl rfl rfl) rfl rfl rfl rfl ?_
    have hge23:=ZaI hge22 e23
    rw [hy] at hge23
    refine ss ?_
    cases hm2
    exact XZ [(5005,5003),(5006,410041)] ⟨_,_,rfl,rfl⟩
   rintro _ ⟨out25,last26,rfl,rfl⟩
   refine sr ?_
   refine ZL (ZeO hltm10 hlenm10 rfl rfl rfl) rfl rfl rfl ?_
   refine ss ?_
   exact ZcK [(5001,5005),(5002,5006)] ⟨m10+1,_,_,rfl,hltm10,hm1,rfl⟩ (by omega)
  ·rw [ZdG hgem10,YL.eq_1] at hm1
   refine sr ?_
   refine Zg ?_
   refine XD (Zor hgem10) rfl ?_
   refine XA ?_
   refine ss ?_
   cases hm1
   exact XZ [(5007,5001),(5008,5002)] ⟨_,rfl,rfl⟩
 rintro _ ⟨out27,rfl,rfl⟩
 refine sr ?_
 refine sx ?_
 cases hm
 exact Zr3 [] ⟨rfl,rfl⟩⟩
def YC (cuts2:List Bnd):List Bnd→Int→Option (Ctl (List Zc × Int) Unit)
 | [],i =>
 some (Ctl.nxt ())
 | r4::xs5,i =>
 bnd (Yr r4) fun y7 =>
 sel (!y7) (
  some (Ctl.ret ([],1))) (
  sel (decide (0<i)) (
   Ze (YD cuts2 (ZJ (i - 1))) fun e8 =>
   bnd (Zl r4 e8) fun y9 =>
   sel (decide (y9≤0)) (
    some (Ctl.ret ([],8))) (
    YC cuts2 xs5 (i+1))) (
   YC cuts2 xs5 (i+1)))
def Yk (q1:Zf):List (List Rng)→List Zc→Option (Ctl (List Zc × Int) (List Zc))
 | [],out11 =>
 some (Ctl.nxt out11)
 | r12::xs13,out11 =>
 Ze (Zat q1 r12) fun y15 =>
 sel (!decide (y15.2=0)) (
  some (Ctl.ret ([],y15.2))) (
  Ze (app out11 ([y15.1]:List Zc)) fun l16 =>
  Yk q1 xs13 l16)
def Yv (q1:Zf) (cuts2:List Bnd):Option (List Zc × Int) :=
 Ze (Y8 q1) fun y3 =>
 sel (!decide (y3=0)) (
  some ([],y3)) (
  sel (decide (64<(cuts2.length:Int))) (
   some ([],3)) (
   Ze (
    YC cuts2 cuts2 0:Option (Ctl (List Zc × Int) Unit)) fun mu=>Yz mu fun (_:Unit) =>
   Ze (Qx q1 cuts2) fun y10 =>
   Ze (
    Yk q1 y10 []:Option (Ctl (List Zc × Int) (List Zc))) fun mu=>Yz mu fun out17 =>
   some (out17,0)))
instance ZnX {q1} {cuts2}:SpO (Yv q1 cuts2) fun y=>Sp 75 [.a (Zf.vs q1),.d (lst Bnd.ds cuts2)] [] (.t [.d (lst Zc.ds y.1),vI y.2]) []:=⟨fun hm=>by
 refine si Tryz.func75 Tryz.ntmps75 Tryz.results75 fun B w0 ρ0=>?_
 refine sr ?_
 refine sr ?_
 obtain ⟨y3,hy,hm⟩:=ZH hm
 refine Zhp (Zb8 (hm:=hy)) ?_
 refine co hm (fun hm=>?_) fun hm=>?_
 ·exact YF hm
 refine co hm (fun hm=>?_) fun hm=>?_
 ·exact YF hm
 refine sx ?_
 refine sr ?_
 refine jc0 hm [1,2] [102] [] (fun _ hm hm1=>?_) (fun hm=>?_)
 ·refine Zm ?_
  refine Zrq hm1 22 [1,2,22,23] [102] (fun m6=>[(24,vI (m6:Int))]) (fun hlenm6 m6 r4 hltm6 hxm6 hm1=>?_) (fun m6 hm1=>?_)
  ·refine bp hm1 fun y7 hm1=>?_
   refine co hm1 (fun hm1=>?_) fun hm1=>?_
   ·exact ZcF hm hm1
   refine sx ?_
   refine Zg ?_
   refine Zy (id:=11) [⟨0,0,[7]⟩,⟨1,1,[32]⟩,⟨2,3,[33]⟩,⟨3,7,[8,34]⟩,⟨4,7,[1,34]⟩,⟨5,7,[7,34]⟩,⟨6,39,[34,37]⟩,⟨7,119,[34,36,38]⟩,⟨8,247,[34,39]⟩,⟨9,511,[34,35,40]⟩,⟨10,1023,[34,41]⟩,⟨11,2047,[34,42]⟩] mixed (by kernel_rfl) ?_
   refine co hm1 (fun hm1=>?_) fun hm1=>?_
   ·refine bo hm1 fun e8 hm1=>?_
    refine bp hm1 fun y9 hm1=>?_
    refine co hm1 (fun hm1=>?_) fun hm1=>?_
    ·exact ZcF hm hm1
    exact eb1 hm hm1
   refine ss ?_
   refine Yf rfl ?_
   exact eb1 hm hm1
  exact ZbU hm hm1
 refine bo hm fun y10 hm=>?_
 refine ss ?_
 refine jc1 hm [] [] (fun out17=>[(9,.d (lst Zc.ds out17))]) (fun _ hm hm1=>?_) (fun out17 hm=>?_)
 ·refine Zm ?_
  refine ZbW (ZbY 9 5001 124 6 rfl rfl) ?_
  refine lr1 hm1 47 [2,47,48] [102] (fun m14 out11=>[(9,.h 5001),(49,vI (m14:Int))]) (fun hlenm14 m14 out11 r12 hltm14 hxm14 hm1=>?_) (fun m14 out11 hm1=>?_) (B:=(fun m14 out11=>[(5001,some (YY 124 6 Zc.ds out11))]))
  ·refine bo hm1 fun y15 hm1=>?_
   refine co hm1 (fun hm1=>?_) fun hm1=>?_
   ·exact ZcF hm hm1
   refine sx ?_
   refine sr ?_
   refine Zaq Zc.ds [y15.1] rfl rfl (by simp only [YB,Zq,List.cons_append,List.nil_append,List.append_nil]; exact rfl) rfl rfl rfl rfl rfl rfl ?_
   refine bo hm1 fun l16 hm1=>?_
   exact Zh5 [(102,102),(5001,165)] hm hm1
  exact ZbU hm hm1
 exact YF hm⟩
def Xv (l1:List Zc):Option (List Zc) :=
 Ze (app ([]:List Zc) l1) fun l2 =>
 some l2
instance Zh2 {l1}:SpO (Xv l1) fun y=>Sp 140 [.d (lst Zc.ds l1)] [] (.d (lst Zc.ds y)) []:=⟨fun hm=>by
 refine si Tryz.func140 Tryz.ntmps140 Tryz.results140 fun B w0 ρ0=>?_
 exact az0 hm⟩
theorem Zac {l1:List Zc} {y:List Zc} (hm:Xv l1=some y):Spec Tryz.prog 140 [.d (lst Zc.ds l1)] [] fun u h=>u=.h 1∧h=[(1,some (YY 124 6 Zc.ds y))]:=by
 refine si Tryz.func140 Tryz.ntmps140 Tryz.results140 fun B w0 ρ0=>?_
 refine bo hm fun l2 hm=>?_
 exact ZqV [(1,104)] hm
def QB (y2:List Zc):Nat→List Zc→Int→Option (List Zc)
 | 0,_,_=>none
 | fuel+1,l3,x4 =>
 Ze (
  sel (decide (x4<(y2.length:Int))) (
   some (Ctl.nxt ())) (
   some (Ctl.ret l3)):Option (Ctl (List Zc) Unit)) fun mu=>Yz mu fun (_:Unit) =>
 Ze (YD l3 x4) fun e5 =>
 Ze (Zbe e5) fun y6 =>
 Ze (YD l3 x4) fun e7 =>
 bnd (y6) fun e9 =>
 bnd (l3.set (Int.toNat x4) e9) fun l8 =>
 QB y2 fuel l8 (ZJ (x4+1))
def XR (l1:List Zc):Option (List Zc) :=
 Ze (Xv l1) fun y2 =>
 Ze (
  QB y2 FU y2 0:Option (List Zc)) fun l10 =>
 some l10
instance Zqw {l1}:SpO (XR l1) fun y=>Sp 77 [.d (lst Zc.ds l1)] [] (.d (lst Zc.ds y)) []:=⟨fun hm=>by
 refine si Tryz.func77 Tryz.ntmps77 Tryz.results77 fun B w0 ρ0=>?_
 refine sr ?_
 refine sr ?_
 obtain ⟨y2,hy,hm⟩:=ZH hm
 refine ZfY (u':=.h 200501) (h':=[(200501,some (YY 124 6 Zc.ds y2))]) (Zac (hm:=hy)) 200500 rfl rfl rfl (by repeat (first | exact Vws.nil | apply Vws.cons | exact Vw.nil | exact Vw.d _ | exact Vw.q _ | apply Vw.a)) rfl (by (try simp only [Zfw,Option.map_some,Blk.ren,Zcf]); rfl) rfl rfl rfl rfl ?_
 refine sr ?_
 refine jo1 hm [] [] (fun l10=>[(0,.d (lst Zc.ds l10))]) (fun _ hm hm1=>?_) (fun l10 hm=>?_)
 ·refine Zm ?_
  refine lf2 hm1 [7] [] (fun l3 x4=>[(0,.h 5001),(8,vI x4)]) (fun κ l3 x4 hm1=>?_) (B:=(fun l3 x4=>[(5001,some (YY 124 6 Zc.ds l3))])) (f:=[(5001,200501)])
  refine sr ?_
  refine Zg ?_
  refine jc0 hm1 [0,7,8] [5001] [] (fun _ hm1 hm2=>?_) (fun hm1=>?_)
  ·exact az2 hm hm1 hm2
  refine bo' hm1 fun e5 hge5 hm1=>?_
  refine ss ?_
  refine ZL (Zkz (k:=5001) (f:=Zc.ds) (zz:=6) (u:=.a (Zc.vs e5)) (off:=0) hge5 rfl rfl rfl (by exact inferInstance) rfl rfl) rfl rfl rfl ?_
  refine bo hm1 fun y6 hm1=>?_
  refine bo' hm1 fun e7 hge7 hm1=>?_
  refine ss ?_
  obtain ⟨e9,hy,hm1⟩:=Zao hm1
  have hxe9:=hy
  refine ss ?_
  obtain ⟨l8,hy,hm1⟩:=Zao hm1
  refine ZqW (lo:=0) (nn:=0) (Zje (k:=5001) (f:=Zc.ds) (zz:=6) (off:=0) hge7 hy rfl rfl rfl rfl (by exact inferInstance) rfl (by rw [← hxe9]; rfl)) rfl rfl (QX _ _) ?_
  have hge9:=ZaI hge7 e9
  rw [hy] at hge9
  refine sr ?_
  refine ZL (YZ rfl rfl rfl rfl) rfl rfl rfl ?_
  refine ss ?_
  exact eb1 hm hm1
 exact YF hm⟩
structure Zh where
 Query:Zf
 Cuts:List Bnd
 First:List Zc
 Second:List Zc
 Turned:Bool
 deriving DecidableEq
def Zh.ds (x:Zh):List D:=[dI x.Query.Kind,lst Rng.ds x.Query.Ranges,dS x.Query.Key,dI x.Query.Count,lst Bnd.ds x.Cuts,lst Zc.ds x.First,lst Zc.ds x.Second,dB x.Turned]
instance : Len Zh.ds 8:=⟨fun _=>rfl⟩
abbrev Zh.vs (x:Zh):List V:=[vI x.Query.Kind,.d (lst Rng.ds x.Query.Ranges),vS x.Query.Key,vI x.Query.Count,.d (lst Bnd.ds x.Cuts),.d (lst Zc.ds x.First),.d (lst Zc.ds x.Second),vB x.Turned]
def ZaC (q1:Zf) (cuts2:List Bnd):Option (Zh × Int) :=
 Ze (Yv q1 cuts2) fun y3 =>
 sel (!decide (y3.2=0)) (
  some ((Zh.mk (Zf.mk 0 [] ⟨#[]⟩ 0) [] [] [] false),y3.2)) (
  Ze (XU q1) fun y4 =>
  Ze (Ya cuts2) fun y5 =>
  Ze (XR y3.1) fun y6 =>
  some ((Zh.mk y4 y5 y3.1 y6 false),0))
instance ZqR {q1} {cuts2}:SpO (ZaC q1 cuts2) fun y=>Sp 23 [.a (Zf.vs q1),.d (lst Bnd.ds cuts2)] [] (.t [.a (Zh.vs y.1),vI y.2]) []:=⟨fun hm=>by
 refine si Tryz.func23 Tryz.ntmps23 Tryz.results23 fun B w0 ρ0=>?_
 exact az0 hm⟩
def QJ (a1:ByteArray) (b2:ByteArray):Rng :=
 (Rng.mk (Bnd.mk a1 false) (Bnd.mk b2 false))
instance Zod {a1} {b2}:SpT (QJ a1 b2) fun y=>Sp 59 [vS a1,vS b2] [] (.a (Rng.vs y)) []:=⟨fun hm=>by
 refine si Tryz.func59 Tryz.ntmps59 Tryz.results59 fun B w0 ρ0=>?_
 unfold QJ at hm
 exact YF hm⟩
def XV:Option Bool :=
 bnd (QJ ⟨#[97]⟩ ⟨#[109]⟩) fun y1 =>
 Ze (ZaC (Zf.mk 1 ([y1]:List Rng) ⟨#[]⟩ 0) ([(Bnd.mk ⟨#[102]⟩ false),(Bnd.mk ⟨#[122]⟩ false)]:List Bnd)) fun y2 =>
 sel (decide (y2.2=0)) (
  sel (decide ((y2.1.First.length:Int)=2)) (
   Ze (YD y2.1.First 0) fun e3 =>
   sel (decide ((e3.Todo.length:Int)=1)) (
    Ze (YD y2.1.First 0) fun e4 =>
    Ze (YD e4.Todo 0) fun e5 =>
    bnd (QJ ⟨#[97]⟩ ⟨#[102]⟩) fun y6 =>
    sel (decide (e5.lo.key=y6.lo.key) && decide (e5.lo.top=y6.lo.top) && decide (e5.hi.key=y6.hi.key) && decide (e5.hi.top=y6.hi.top)) (
     Ze (YD y2.1.First 1) fun e7 =>
     Ze (YD e7.Todo 0) fun e8 =>
     bnd (QJ ⟨#[102]⟩ ⟨#[109]⟩) fun y9 =>
     some (decide (e8.lo.key=y9.lo.key) && decide (e8.lo.top=y9.lo.top) && decide (e8.hi.key=y9.hi.key) && decide (e8.hi.top=y9.hi.top))) (
     some false)) (
    some false)) (
   some false)) (
  some false)
instance ZqC:SpO (XV) fun y=>Sp 10 [] [] (vB y) []:=⟨fun hm=>by
 refine si Tryz.func10 Tryz.ntmps10 Tryz.results10 fun B w0 ρ0=>?_
 refine bp hm fun y1 hm=>?_
 refine ss ?_
 refine Zaq Rng.ds [y1] rfl rfl (by simp only [YB,Zq,List.cons_append,List.nil_append,List.append_nil]; exact rfl) rfl rfl rfl rfl rfl rfl ?_
 refine ss ?_
 refine Zaq Bnd.ds [(Bnd.mk ⟨#[102]⟩ false),(Bnd.mk ⟨#[122]⟩ false)] rfl rfl (by simp only [YB,Zq,List.cons_append,List.nil_append,List.append_nil]; exact rfl) rfl rfl rfl rfl rfl rfl ?_
 refine bo hm fun y2 hm=>?_
 refine ss ?_
 refine Zg ?_
 refine Zy (id:=2) [⟨0,0,[2]⟩,⟨1,1,[13]⟩,⟨2,3,[14]⟩,⟨3,7,[1,15]⟩,⟨4,15,[15,16]⟩,⟨5,31,[15,17]⟩,⟨6,63,[15,18]⟩,⟨7,127,[15,19]⟩,⟨8,255,[20]⟩,⟨9,511,[1,21]⟩,⟨10,1023,[21,22]⟩,⟨11,2047,[21,23]⟩,⟨12,4095,[21,24]⟩,⟨13,8191,[21,25]⟩,⟨14,16383,[21,26]⟩,⟨15,32767,[21,27]⟩,⟨16,65535,[21,28]⟩,⟨17,131071,[29]⟩,⟨18,262143,[1,30]⟩,⟨19,524287,[30,31]⟩,⟨20,1048575,[30,32]⟩,⟨21,2097151,[30,33]⟩,⟨22,4194303,[30,34]⟩,⟨23,8388607,[30,35]⟩,⟨24,16777215,[30,36]⟩,⟨25,262143,[30]⟩,⟨26,67108863,[30,37,38]⟩,⟨27,134217727,[30,39]⟩,⟨28,268435455,[40]⟩,⟨29,536870911,[1,41]⟩,⟨30,1073741823,[41,42]⟩,⟨31,2147483647,[41,43]⟩,⟨32,4294967295,[41,44]⟩,⟨33,8589934591,[41,45]⟩,⟨34,17179869183,[41,46]⟩,⟨35,34359738367,[41,47]⟩,⟨36,536870911,[41]⟩,⟨37,137438953471,[41,48,49]⟩,⟨38,274877906943,[41,50]⟩,⟨39,549755813887,[51]⟩] mixed (by kernel_rfl) ?_
 refine co hm (fun hm=>?_) fun hm=>?_
 ·refine co hm (fun hm=>?_) fun hm=>?_
  ·refine bo hm fun e3 hm=>?_
   refine co hm (fun hm=>?_) fun hm=>?_
   ·refine bo hm fun e4 hm=>?_
    refine ss ?_
    obtain ⟨e5,hy,hm⟩:=ZH hm
    refine Yp [] (Zjb (ys:=[dS e5.lo.key,dB e5.lo.top,dS e5.hi.key,dB e5.hi.top]) hy rfl rfl rfl rfl) rfl (by first | exact .no rfl | exact .y rfl rfl rfl rfl) rfl rfl ?_
    refine bp hm fun y6 hm=>?_
    refine co hm (fun hm=>?_) fun hm=>?_
    ·refine bo hm fun e7 hm=>?_
     refine ss ?_
     obtain ⟨e8,hy,hm⟩:=ZH hm
     refine Yp [] (Zjb (ys:=[dS e8.lo.key,dB e8.lo.top,dS e8.hi.key,dB e8.hi.top]) hy rfl rfl rfl rfl) rfl (by first | exact .no rfl | exact .y rfl rfl rfl rfl) rfl rfl ?_
     exact az0 hm
    exact YF hm
   exact YF hm
  exact YF hm
 exact YF hm⟩
end Go.Proofs.YtkcmgbbopedacaaGreatDoor
