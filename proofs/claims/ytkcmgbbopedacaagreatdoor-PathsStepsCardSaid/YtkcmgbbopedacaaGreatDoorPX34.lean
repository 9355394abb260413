/-
  Lemmas: Models and walks
-/
import Derived.Test.YtkcmgbbopedacaaGreatDoorPX18
import Derived.Test.YtkcmgbbopedacaaGreatDoorPX32
import Derived.Test.YtkcmgbbopedacaaGreatDoorPX31
import Derived.Laws.BytesString
set_option linter.unusedSimpArgs false
set_option linter.unusedVariables false
namespace Go.Proofs.YtkcmgbbopedacaaGreatDoor
open Go.RowKit
set_option maxRecDepth 100000
set_option maxHeartbeats 4000000
attribute [local irreducible] WK WC WL Wk Rel OpD OpV WD WO sel bnd Zc app Yn lsl ZiR ssl ZgG ZfZ ZiQ ZhF Op.bytesLess
attribute [local irreducible] Zcb YC union mlk Zsn Zsx Zso cpy Zc6
def Yy (b1:Bnd):List Bnd→Int→Int
 | [],n3 =>
 n3
 | r4::xs5,n3 =>
 bnd (Zi r4 b1) fun y7 =>
 sel (decide (y7≤0)) (
  Yy b1 xs5 (Z6 (n3+1))) (
  Yy b1 xs5 n3)
def Xd (b1:Bnd) (cuts2:List Bnd):Int :=
 bnd (
  Yy b1 cuts2 0:Int) fun n8 =>
 n8
instance ZoU {b1} {cuts2}:SpT (Xd b1 cuts2) fun y=>Sp 80 [.a [vS b1.key,vB b1.top],.d (lst Bnd.ds cuts2)] [] (vI y) []:=⟨fun hm=>by
 refine si Tryz.func80 Tryz.ntmps80 Tryz.results80 fun B w0 ρ0=>?_
 refine sr ?_
 refine sr ?_
 refine sr ?_
 refine jp1 hm [] [] (fun n8=>[(5,vI n8)]) (fun _ hm hm1=>?_) (fun n8 hm=>?_)
 ·refine Zq ?_
  refine lr1 hm1 8 [2,8,9] [102] (fun m6 n3=>[(5,vI n3),(10,vI (m6:Int))]) (fun hlenm6 m6 n3 r4 hltm6 hxm6 hm1=>?_) (fun m6 n3 hm1=>?_)
  ·refine bp hm1 fun y7 hm1=>?_
   refine co hm1 (fun hm1=>?_) fun hm1=>?_
   ·refine sr ?_
    refine ZJ (YJ rfl rfl rfl rfl) rfl rfl rfl ?_
    exact eb1 hm hm1
   exact eb1 hm hm1
  exact ZcD hm hm1
 exact Yw hm⟩
def ZH (cuts2:List Bnd):List Bnd→Int→Option (Ctl (Ze × Int) Unit)
 | [],i =>
 some (Ctl.nxt ())
 | r4::xs5,i =>
 bnd (ZV r4) fun y7 =>
 sel (!y7) (
  some (Ctl.ret ((Ze.mk (Zj.mk 0 [] ⟨#[]⟩ 0) [] [] [] false),1))) (
  sel (decide (0<i)) (
   Zc (Yn cuts2 (Z6 (i - 1))) fun e8 =>
   bnd (Zi r4 e8) fun y9 =>
   sel (decide (y9≤0)) (
    some (Ctl.ret ((Ze.mk (Zj.mk 0 [] ⟨#[]⟩ 0) [] [] [] false),8))) (
    ZH cuts2 xs5 (i+1))) (
   ZH cuts2 xs5 (i+1)))
def ZI (q1:Zj) (use12:List Bnd):List Rng→List Zf→Int→Option (List Zf)
 | [],p15,last16 =>
 some p15
 | r17::xs18,p15,last16 =>
 bnd (Xd r17.lo use12) fun y20 =>
 Zc (
  sel (!decide (y20=last16)) (
   Zc (app p15 ([(Zf.mk q1 [] ([]:List Zk))]:List Zf)) fun l21 =>
   some (l21,y20)) (
   some (p15,last16)):Option (List Zf × Int)) fun (p22,last23) =>
 Zc (Yn p22 (Z6 ((p22.length:Int) - 1))) fun e24 =>
 Zc (app e24.Todo ([r17]:List Rng)) fun l25 =>
 bnd ((Zf.mk e24.Query l25 e24.Visits)) fun e26 =>
 bnd (p22.set (Int.toNat (Z6 ((p22.length:Int) - 1))) e26) fun l27 =>
 ZI q1 use12 xs18 l27 last23
def Xu (q1:Zj) (cuts2:List Bnd):Option (Ze × Int) :=
 bnd (ZaU q1) fun y3 =>
 sel (!decide (y3=0)) (
  some ((Ze.mk (Zj.mk 0 [] ⟨#[]⟩ 0) [] [] [] false),y3)) (
  sel (decide (64<(cuts2.length:Int))) (
   some ((Ze.mk (Zj.mk 0 [] ⟨#[]⟩ 0) [] [] [] false),3)) (
   Zc (
    ZH cuts2 cuts2 0:Option (Ctl (Ze × Int) Unit)) fun mu=>YB mu fun (_:Unit) =>
   Zc (app ([]:List Bnd) cuts2) fun l10 =>
   Zc (
    sel (decide (q1.Kind=3)) (
     some true) (
     some (decide (q1.Kind=4))):Option Bool) fun x11 =>
   Zc (
    sel x11 (
     some []) (
     some cuts2):Option (List Bnd)) fun use12 =>
   Zc (Zbc q1) fun y13 =>
   Zc (Q8 y13 use12) fun y14 =>
   Zc (
    ZI q1 use12 y14 [] (-1):Option (List Zf)) fun p28 =>
   Zc (app ([]:List Zf) p28) fun l29 =>
   some ((Ze.mk q1 l10 p28 l29 false),0)))
instance ZiX {q1} {cuts2}:SpO (Xu q1 cuts2) fun y=>Sp 24 [.a (Zj.vs q1),.d (lst Bnd.ds cuts2)] [] (.t [.a (Ze.vs y.1),vI y.2]) []:=⟨fun hm=>by
 refine si Tryz.func24 Tryz.ntmps24 Tryz.results24 fun B w0 ρ0=>?_
 refine bp hm fun y3 hm=>?_
 refine co hm (fun hm=>?_) fun hm=>?_
 ·refine sr ?_
  refine sx ?_
  cases hm
  exact Zi0
 refine co hm (fun hm=>?_) fun hm=>?_
 ·refine sr ?_
  refine sx ?_
  cases hm
  exact Zi0
 refine sx ?_
 refine sr ?_
 obtain ⟨mu1,hm1,hm⟩:=ZK hm
 refine YP (fun st=>mu1=Ctl.nxt ()∧st=⟨[(1,.d (lst Bnd.ds cuts2)),(2,.p 102 0),(4,.p 104 0)],[(102,some (.box 41 (Zj.vs q1))),(104,some (.box 48 [vI 0,.d (.c (.slice none 0 0)),vS ⟨#[]⟩,vI 0,.d (.c (.slice none 0 0)),.d (.c (.slice none 0 0)),.d (.c (.slice none 0 0)),vB false]))]⟩) ?_ ?_
 ·refine Zq ?_
  refine ZeE 26 rfl (fun hlenm6=>?_)
  refine ZdR (fun κ st=>∃ (m6:Nat),κ=cuts2.length - m6∧m6≤cuts2.length∧ZH cuts2 (cuts2.drop m6) (m6:Int)=some mu1∧st=⟨[(1,.d (lst Bnd.ds cuts2)),(2,.p 102 0),(4,.p 104 0),(26,.d (lst Bnd.ds cuts2)),(27,vI (cuts2.length:Int)),(28,vI (m6:Int))],[(102,some (.box 41 (Zj.vs q1))),(104,some (.box 48 [vI 0,.d (.c (.slice none 0 0)),vS ⟨#[]⟩,vI 0,.d (.c (.slice none 0 0)),.d (.c (.slice none 0 0)),.d (.c (.slice none 0 0)),vB false]))]⟩) [(102,102),(104,104)] ⟨0,rfl,Nat.zero_le _,hm1,rfl⟩ ?_
  rintro κ _ ⟨m6,rfl,hlem6,hm1,rfl⟩
  rcases Nat.lt_or_ge m6 cuts2.length with hltm6 | hgem6
  ·obtain ⟨r4,hxm6,hdr⟩:=Zdx hltm6
   rw [hdr,ZH.eq_2] at hm1
   refine sr ?_
   refine Zg ?_
   refine Q6 (Zqw hltm6) rfl ?_
   refine bp hm1 fun y7 hm1=>?_
   refine co hm1 (fun hm1=>?_) fun hm1=>?_
   ·refine sr ?_
    refine sx ?_
    cases hm1
    replace hm:=Ym hm
    cases hm
    exact Zi0
   refine sx ?_
   refine Zg ?_
   refine ZC (id:=11) [⟨0,0,[7]⟩,⟨1,1,[37]⟩,⟨2,3,[38]⟩,⟨3,7,[8,39]⟩,⟨4,7,[1,39]⟩,⟨5,7,[7,39]⟩,⟨6,39,[39,42]⟩,⟨7,119,[39,41,43]⟩,⟨8,247,[39,44]⟩,⟨9,511,[39,40,45]⟩,⟨10,1023,[39,46]⟩,⟨11,2047,[39,47]⟩] mixed (by kernel_rfl) ?_
   refine co hm1 (fun hm1=>?_) fun hm1=>?_
   ·refine bo hm1 fun e8 hm1=>?_
    refine bp hm1 fun y9 hm1=>?_
    refine co hm1 (fun hm1=>?_) fun hm1=>?_
    ·refine sr ?_
     refine sx ?_
     cases hm1
     replace hm:=Ym hm
     cases hm
     exact Zi0
    refine sx ?_
    refine sr ?_
    refine ZJ (ZeW hltm6 hlenm6 rfl rfl rfl) rfl rfl rfl ?_
    refine ss ?_
    exact ZbY [(102,102),(104,104)] ⟨m6+1,rfl,hltm6,hm1,rfl⟩ (by omega)
   refine ss ?_
   refine Yi rfl ?_
   refine sx ?_
   refine sr ?_
   refine ZJ (ZeW hltm6 hlenm6 rfl rfl rfl) rfl rfl rfl ?_
   refine ss ?_
   exact ZbY [(102,102),(104,104)] ⟨m6+1,rfl,hltm6,hm1,rfl⟩ (by omega)
  ·rw [ZeA hgem6,ZH.eq_1] at hm1
   refine sr ?_
   refine Zg ?_
   refine Q7 (Zqv hgem6) rfl ?_
   refine XM ?_
   refine ss ?_
   cases hm1
   exact XD [(102,102),(104,104)] ⟨rfl,rfl⟩
 rintro _ ⟨rfl,rfl⟩
 replace hm:=Znf hm
 refine ss ?_
 refine Zg ?_
 refine ZC (id:=14) [⟨0,0,[2]⟩,⟨1,0,[1]⟩,⟨2,2,[52]⟩,⟨3,7,[51,53]⟩,⟨4,0,[]⟩,⟨5,31,[9,54]⟩] mixed (by kernel_rfl) ?_
 refine bo hm fun l10 hm=>?_
 refine sr ?_
 refine Zg ?_
 refine Zg ?_
 obtain ⟨mu1,hm1,hm⟩:=ZK hm
 refine YP (fun st=>∃ (x11:Bool),x11=mu1∧st=⟨[(2,.p 102 0),(4,.p 104 0),(9,.p 109 0),(10,.d (lst Bnd.ds cuts2)),(63,vB x11)],[(102,some (.box 41 (Zj.vs q1))),(104,some (.box 48 [vI 0,.d (.c (.slice none 0 0)),vS ⟨#[]⟩,vI 0,.d (.c (.slice none 0 0)),.d (.c (.slice none 0 0)),.d (.c (.slice none 0 0)),vB false])),(109,some (.box 48 [vI q1.Kind,.d (lst Rng.ds q1.Ranges),vS q1.Key,vI q1.Count,.h 153,.d (.c (.slice none 0 0)),.d (.c (.slice none 0 0)),vB false])),(153,some (YH 32 2 Bnd.ds l10))]⟩) ?_ ?_
 ·refine co hm1 (fun hm1=>?_) fun hm1=>?_
  ·refine ss ?_
   cases hm1
   exact XD [(102,102),(104,104),(109,109),(153,153)] ⟨_,rfl,rfl⟩
  refine ss ?_
  cases hm1
  exact XD [(102,102),(104,104),(109,109),(153,153)] ⟨_,rfl,rfl⟩
 rintro _ ⟨x11,rfl,rfl⟩
 refine ss ?_
 obtain ⟨mu1,hm1,hm⟩:=ZK hm
 refine YP (fun st=>∃ (use12:List Bnd),use12=mu1∧st=⟨[(2,.p 102 0),(4,.p 104 0),(9,.p 109 0),(10,.d (lst Bnd.ds use12))],[(102,some (.box 41 (Zj.vs q1))),(104,some (.box 48 [vI 0,.d (.c (.slice none 0 0)),vS ⟨#[]⟩,vI 0,.d (.c (.slice none 0 0)),.d (.c (.slice none 0 0)),.d (.c (.slice none 0 0)),vB false])),(109,some (.box 48 [vI q1.Kind,.d (lst Rng.ds q1.Ranges),vS q1.Key,vI q1.Count,.h 153,.d (.c (.slice none 0 0)),.d (.c (.slice none 0 0)),vB false])),(153,some (YH 32 2 Bnd.ds l10))]⟩) ?_ ?_
 ·refine co hm1 (fun hm1=>?_) fun hm1=>?_
  ·refine sr ?_
   cases hm1
   exact XD [(102,102),(104,104),(109,109),(153,153)] ⟨_,rfl,rfl⟩
  refine sx ?_
  cases hm1
  exact XD [(102,102),(104,104),(109,109),(153,153)] ⟨_,rfl,rfl⟩
 rintro _ ⟨use12,rfl,rfl⟩
 refine sr ?_
 refine sr ?_
 obtain ⟨y13,hy,hm⟩:=ZK hm
 refine Zi6 (Ze0 (hm:=hy)) ?_
 refine bo hm fun y14 hm=>?_
 refine ss ?_
 obtain ⟨mu1,hm1,hm⟩:=ZK hm
 refine YP (fun st=>∃ (p28:List Zf),p28=mu1∧st=⟨[(4,.p 104 0),(9,.p 109 0)],[(104,some (.box 48 [vI 0,.d (.c (.slice none 0 0)),vS ⟨#[]⟩,vI 0,.d (.c (.slice none 0 0)),.d (.c (.slice none 0 0)),.d (.c (.slice none 0 0)),vB false])),(109,some (.box 48 [vI q1.Kind,.d (lst Rng.ds q1.Ranges),vS q1.Key,vI q1.Count,.h 153,.hx 5005,.d (.c (.slice none 0 0)),vB false])),(153,some (YH 32 2 Bnd.ds l10)),(5005,some (.hd)),(5006,some (axT 5005 124 6 72 4 (fun (x:Zf)=>([dI x.Query.Kind,lst Rng.ds x.Query.Ranges,dS x.Query.Key,dI x.Query.Count]:List D)) (fun (x:Zf)=>x.Todo) Rng.ds (fun (x:Zf)=>([lst Zk.ds x.Visits]:List D)) p28 none))]⟩) ?_ ?_
 ·refine Zq ?_
  refine ZbQ (ZpK 109 5 5001 124 6 72 4 rfl rfl rfl rfl) ?_
  refine ZeE 67 rfl (fun hlenm19=>?_)
  refine ZdR (fun κ st=>∃ (m19:Nat) (p15:List Zf) (last16:Int),κ=y14.length - m19∧m19≤y14.length∧ZI q1 use12 (y14.drop m19) p15 last16=some mu1∧st=⟨[(2,.p 102 0),(4,.p 104 0),(9,.p 109 0),(10,.d (lst Bnd.ds use12)),(11,vI last16),(67,.d (lst Rng.ds y14)),(68,vI (y14.length:Int)),(69,vI (m19:Int))],[(102,some (.box 41 (Zj.vs q1))),(104,some (.box 48 [vI 0,.d (.c (.slice none 0 0)),vS ⟨#[]⟩,vI 0,.d (.c (.slice none 0 0)),.d (.c (.slice none 0 0)),.d (.c (.slice none 0 0)),vB false])),(109,some (.box 48 [vI q1.Kind,.d (lst Rng.ds q1.Ranges),vS q1.Key,vI q1.Count,.h 153,.hx 5001,.d (.c (.slice none 0 0)),vB false])),(153,some (YH 32 2 Bnd.ds l10)),(5001,some (.hd)),(5002,some (axT 5001 124 6 72 4 (fun (x:Zf)=>([dI x.Query.Kind,lst Rng.ds x.Query.Ranges,dS x.Query.Key,dI x.Query.Count]:List D)) (fun (x:Zf)=>x.Todo) Rng.ds (fun (x:Zf)=>([lst Zk.ds x.Visits]:List D)) p15 none))]⟩) [(102,102),(104,104),(109,109),(153,153),(5001,5001),(5002,5002)] ⟨0,_,_,rfl,Nat.zero_le _,hm1,rfl⟩ ?_
  rintro κ _ ⟨m19,p15,last16,rfl,hlem19,hm1,rfl⟩
  rcases Nat.lt_or_ge m19 y14.length with hltm19 | hgem19
  ·obtain ⟨r17,hxm19,hdr⟩:=Zdx hltm19
   rw [hdr,ZI.eq_2] at hm1
   refine sr ?_
   refine Zg ?_
   refine Q6 (Zqw hltm19) rfl ?_
   refine bp hm1 fun y20 hm1=>?_
   refine sr ?_
   obtain ⟨mu2,hm2,hm1⟩:=ZK hm1
   refine YP (fun st=>∃ (p22:List Zf) (last23:Int),mu2=(p22,last23)∧st=⟨[(2,.p 102 0),(4,.p 104 0),(9,.p 109 0),(10,.d (lst Bnd.ds use12)),(11,vI last23),(13,.p 113 0),(67,.d (lst Rng.ds y14)),(68,vI (y14.length:Int)),(69,vI (m19:Int))],[(102,some (.box 41 (Zj.vs q1))),(104,some (.box 48 [vI 0,.d (.c (.slice none 0 0)),vS ⟨#[]⟩,vI 0,.d (.c (.slice none 0 0)),.d (.c (.slice none 0 0)),.d (.c (.slice none 0 0)),vB false])),(109,some (.box 48 [vI q1.Kind,.d (lst Rng.ds q1.Ranges),vS q1.Key,vI q1.Count,.h 153,.hx 5003,.d (.c (.slice none 0 0)),vB false])),(113,some (.box 72 (Rng.vs r17))),(153,some (YH 32 2 Bnd.ds l10)),(5003,some (.hd)),(5004,some (axT 5003 124 6 72 4 (fun (x:Zf)=>([dI x.Query.Kind,lst Rng.ds x.Query.Ranges,dS x.Query.Key,dI x.Query.Count]:List D)) (fun (x:Zf)=>x.Todo) Rng.ds (fun (x:Zf)=>([lst Zk.ds x.Visits]:List D)) p22 none))]⟩) ?_ ?_
   ·refine co hm2 (fun hm2=>?_) fun hm2=>?_
    ·refine sr ?_
     refine Zr9 [(102,102),(104,104),(109,109),(113,113),(153,153),(5001,5001),(5002,5002)] ⟨[(2,.p 102 0),(4,.p 104 0),(9,.p 109 0),(10,.d (lst Bnd.ds use12)),(13,.p 113 0),(14,vI y20),(67,.d (lst Rng.ds y14)),(68,vI (y14.length:Int)),(69,vI (m19:Int)),(81,.hx 5001),(83,.a [vI q1.Kind,.d (lst Rng.ds q1.Ranges),vS q1.Key,vI q1.Count,.d (.c (.slice none 0 0)),.d (lst Zk.ds ([]:List Zk))])],[(102,some (.box 41 (Zj.vs q1))),(104,some (.box 48 [vI 0,.d (.c (.slice none 0 0)),vS ⟨#[]⟩,vI 0,.d (.c (.slice none 0 0)),.d (.c (.slice none 0 0)),.d (.c (.slice none 0 0)),vB false])),(109,some (.box 48 [vI q1.Kind,.d (lst Rng.ds q1.Ranges),vS q1.Key,vI q1.Count,.h 153,.hx 5001,.d (.c (.slice none 0 0)),vB false])),(113,some (.box 72 (Rng.vs r17))),(153,some (YH 32 2 Bnd.ds l10)),(5001,some (.hd)),(5002,some (axT 5001 124 6 72 4 (fun (x:Zf)=>([dI x.Query.Kind,lst Rng.ds x.Query.Ranges,dS x.Query.Key,dI x.Query.Count]:List D)) (fun (x:Zf)=>x.Todo) Rng.ds (fun (x:Zf)=>([lst Zk.ds x.Visits]:List D)) p15 none))]⟩ ?_
     refine ss ?_
     refine Zut (ZuO 184 rfl rfl rfl rfl) rfl rfl rfl rfl rfl ?_
     refine ss ?_
     obtain ⟨l21,hy,hm2⟩:=ZK hm2
     refine Zut (Zm1 (k2:=5002) 420850 (Zf.mk q1 [] ([]:List Zk)) hy rfl rfl rfl rfl rfl rfl rfl rfl rfl rfl) rfl rfl rfl rfl rfl ?_
     refine sr ?_
     cases hm2
     exact XD [(102,102),(104,104),(109,109),(113,113),(153,153),(5003,420850),(5004,420851)] ⟨_,_,rfl,rfl⟩
    refine sx ?_
    cases hm2
    exact XD [(102,102),(104,104),(109,109),(113,113),(153,153),(5003,5001),(5004,5002)] ⟨_,_,rfl,rfl⟩
   rintro _ ⟨p22,last23,rfl,rfl⟩
   refine sr ?_
   refine ZJ (ZmO (k2:=5004) rfl rfl rfl) rfl rfl rfl ?_
   refine ss ?_
   obtain ⟨e24,hy,hm1⟩:=ZK hm1
   have hge24:=hy
   refine ZJ (Zrm (k2:=5004) hy rfl rfl rfl rfl) rfl rfl rfl ?_
   refine ss ?_
   refine ZC (id:=27) [⟨0,0,[15]⟩,⟨1,0,[15]⟩,⟨2,2,[96]⟩,⟨3,6,[97]⟩,⟨4,14,[98]⟩,⟨5,0,[13]⟩,⟨6,32,[100]⟩,⟨7,126,[99,101]⟩,⟨8,255,[95]⟩,⟨9,511,[103]⟩,⟨10,1023,[102,104]⟩] mixed (by kernel_rfl) ?_
   refine ss ?_
   refine Ye [] (Zm5 rfl rfl) rfl (by first | exact .no rfl | exact .y rfl rfl rfl rfl) rfl rfl ?_
   refine ss ?_
   refine Ye [] (Ztm rfl rfl) rfl (by first | exact .no rfl | exact .y rfl rfl rfl rfl) rfl rfl ?_
   refine ss ?_
   refine ZwR [5004] [5004,400990,400991] (ZtS (k2:=5004) 400990 hge24 rfl rfl rfl rfl (by exact inferInstance)) rfl (by first | exact .no rfl | exact .y rfl rfl rfl rfl) rfl rfl rfl rfl rfl ?_
   refine ss ?_
   refine Zdv Rng.ds [r17] rfl rfl (by simp only [Z8,Zn,List.cons_append,List.nil_append,List.append_nil]; exact rfl) rfl rfl rfl rfl (by first | exact .no rfl | exact .y rfl rfl rfl rfl) rfl rfl ?_
   refine bo hm1 fun l25 hm1=>?_
   refine ss ?_
   refine Ye [] (Zm5 rfl rfl) rfl (by first | exact .no rfl | exact .y rfl rfl rfl rfl) rfl rfl ?_
   refine ss ?_
   refine Ye [] (Ztm rfl rfl) rfl (by first | exact .no rfl | exact .y rfl rfl rfl rfl) rfl rfl ?_
   refine ss ?_
   obtain ⟨e26,hy,hm1⟩:=Qs hm1
   have hxe26:=hy
   refine ss ?_
   obtain ⟨l27,hy,hm1⟩:=Qs hm1
   refine ss ?_
   refine ZsY [400991,202] [400991,202,410050,410051] (ZsR (k2:=400991) (q:=202) 410050 hge24 hy rfl rfl rfl rfl rfl rfl (by exact inferInstance) (by first | (rw [← hxe26]) | rfl) (by first | (rw [← hxe26]) | rfl) (by first | (rw [← hxe26]) | rfl)) rfl (by first | exact .no rfl | exact .y rfl rfl rfl rfl) rfl rfl rfl rfl ?_
   have hge26:=Qg hge24 e26
   rw [hy] at hge26
   refine sr ?_
   refine ZJ (ZeW hltm19 hlenm19 rfl rfl rfl) rfl rfl rfl ?_
   refine ss ?_
   exact ZbY [(102,102),(104,104),(109,109),(153,153),(5001,5003),(5002,410051)] ⟨m19+1,_,_,rfl,hltm19,hm1,rfl⟩ (by omega)
  ·rw [ZeA hgem19,ZI.eq_1] at hm1
   refine sr ?_
   refine Zg ?_
   refine Q7 (Zqv hgem19) rfl ?_
   refine XM ?_
   refine ss ?_
   cases hm1
   exact XD [(104,104),(109,109),(153,153),(5005,5001),(5006,5002)] ⟨_,rfl,rfl⟩
 rintro _ ⟨p28,rfl,rfl⟩
 refine ss ?_
 refine Zg ?_
 refine Zsb [(104,104),(109,109),(153,153)] ⟨[(4,.p 104 0),(9,.p 109 0)],[(104,some (.box 48 [vI 0,.d (.c (.slice none 0 0)),vS ⟨#[]⟩,vI 0,.d (.c (.slice none 0 0)),.d (.c (.slice none 0 0)),.d (.c (.slice none 0 0)),vB false])),(109,some (.box 48 [vI q1.Kind,.d (lst Rng.ds q1.Ranges),vS q1.Key,vI q1.Count,.h 153,.d (lst Zf.ds p28),.d (.c (.slice none 0 0)),vB false])),(153,some (YH 32 2 Bnd.ds l10))]⟩ ?_
 refine bo hm fun l29 hm=>?_
 refine sr ?_
 refine sx ?_
 cases hm
 exact Zi0⟩
def YS (a1:Ze) (b2:Ze):List Bnd→Int→Option (Ctl Bool Unit)
 | [],i =>
 some (Ctl.nxt ())
 | r5::xs6,i =>
 Zc (Yn a1.Cuts i) fun e8 =>
 Zc (Yn b2.Cuts i) fun e9 =>
 bnd (Zi e8 e9) fun y10 =>
 sel (!decide (y10=0)) (
  some (Ctl.ret false)) (
  YS a1 b2 xs6 (i+1))
def YU (a1:Ze) (b2:Ze):List Zf→Int→Option (Ctl Bool Unit)
 | [],i =>
 some (Ctl.nxt ())
 | r11::xs12,i =>
 Zc (Yn a1.First i) fun e14 =>
 Zc (Yn b2.First i) fun e15 =>
 Zc (X4 e14 e15) fun y16 =>
 sel (!y16) (
  some (Ctl.ret false)) (
  YU a1 b2 xs12 (i+1))
def YT (a1:Ze) (b2:Ze):List Zf→Int→Option (Ctl Bool Unit)
 | [],i =>
 some (Ctl.nxt ())
 | r17::xs18,i =>
 Zc (Yn a1.Second i) fun e20 =>
 Zc (Yn b2.Second i) fun e21 =>
 Zc (X4 e20 e21) fun y22 =>
 sel (!y22) (
  some (Ctl.ret false)) (
  YT a1 b2 xs18 (i+1))
def QP (a1:Ze) (b2:Ze):Option Bool :=
 Zc (
  Zc (Zaz a1.Query b2.Query) fun y3 =>
  sel (!y3) (
   some true) (
   sel (!(a1.Turned == b2.Turned)) (
    some true) (
    sel (!decide ((a1.Cuts.length:Int)=(b2.Cuts.length:Int))) (
     some true) (
     sel (!decide ((a1.First.length:Int)=(b2.First.length:Int))) (
      some true) (
      some (!decide ((a1.Second.length:Int)=(b2.Second.length:Int))))))):Option Bool) fun x4 =>
 sel x4 (
  some false) (
  Zc (
   YS a1 b2 a1.Cuts 0:Option (Ctl Bool Unit)) fun mu=>YB mu fun (_:Unit) =>
  Zc (
   YU a1 b2 a1.First 0:Option (Ctl Bool Unit)) fun mu=>YB mu fun (_:Unit) =>
  Zc (
   YT a1 b2 a1.Second 0:Option (Ctl Bool Unit)) fun mu=>YB mu fun (_:Unit) =>
  some true)
instance ZjU {a1} {b2}:SpO (QP a1 b2) fun y=>Sp 81 [.a (Ze.vs a1),.a (Ze.vs b2)] [] (vB y) []:=⟨fun hm=>by
 refine si Tryz.func81 Tryz.ntmps81 Tryz.results81 fun B w0 ρ0=>?_
 refine sr ?_
 refine Zg ?_
 refine Zg ?_
 refine jo1 hm [2,3] [102,103] (fun x4=>[(47,vB x4)]) (fun _ hm hm1=>?_) (fun x4 hm=>?_)
 ·exact az1 hm hm1
 refine co hm (fun hm=>?_) fun hm=>?_
 ·exact Yw hm
 refine sx ?_
 refine sr ?_
 refine jc0 hm [2,3] [102,103] [] (fun _ hm hm1=>?_) (fun hm=>?_)
 ·refine Zq ?_
  refine Zmi hm1 49 [2,3,50] [102,103] (fun m7=>[(51,vI (m7:Int))]) (fun hlenm7 m7 r5 hltm7 hxm7 hm1=>?_) (fun m7 hm1=>?_)
  ·refine sx ?_
   refine sr ?_
   refine Zg ?_
   refine ZC (id:=6) [⟨0,0,[2]⟩,⟨1,1,[54]⟩,⟨2,0,[5]⟩,⟨3,7,[55,56]⟩,⟨4,15,[57]⟩,⟨5,0,[3]⟩,⟨6,32,[59]⟩,⟨7,0,[5]⟩,⟨8,224,[60,61]⟩,⟨9,480,[62]⟩,⟨10,1023,[58,63]⟩,⟨11,2047,[64]⟩] mixed (by kernel_rfl) ?_
   refine bo hm1 fun e8 hm1=>?_
   refine bo hm1 fun e9 hm1=>?_
   refine bp hm1 fun y10 hm1=>?_
   refine co hm1 (fun hm1=>?_) fun hm1=>?_
   ·exact Zdt hm hm1
   exact eb1 hm hm1
  exact ZcD hm hm1
 refine sr ?_
 refine jc0 hm [2,3] [102,103] [] (fun _ hm hm1=>?_) (fun hm=>?_)
 ·refine Zq ?_
  refine Zmi hm1 68 [2,3,69] [102,103] (fun m13=>[(70,vI (m13:Int))]) (fun hlenm13 m13 r11 hltm13 hxm13 hm1=>?_) (fun m13 hm1=>?_)
  ·refine sx ?_
   refine sr ?_
   refine Zg ?_
   refine ZC (id:=12) [⟨0,0,[2]⟩,⟨1,1,[73]⟩,⟨2,0,[6]⟩,⟨3,7,[74,75]⟩,⟨4,15,[76]⟩,⟨5,0,[3]⟩,⟨6,32,[78]⟩,⟨7,0,[6]⟩,⟨8,224,[79,80]⟩,⟨9,480,[81]⟩,⟨10,1023,[77,82]⟩,⟨11,2047,[83]⟩] mixed (by kernel_rfl) ?_
   refine bo hm1 fun e14 hm1=>?_
   refine bo hm1 fun e15 hm1=>?_
   refine bo hm1 fun y16 hm1=>?_
   refine co hm1 (fun hm1=>?_) fun hm1=>?_
   ·exact Zdt hm hm1
   exact eb1 hm hm1
  exact ZcD hm hm1
 refine sr ?_
 refine jc0 hm [] [] [] (fun _ hm hm1=>?_) (fun hm=>?_)
 ·refine Zq ?_
  refine Zmi hm1 87 [2,3,88] [102,103] (fun m19=>[(89,vI (m19:Int))]) (fun hlenm19 m19 r17 hltm19 hxm19 hm1=>?_) (fun m19 hm1=>?_)
  ·refine sx ?_
   refine sr ?_
   refine Zg ?_
   refine ZC (id:=18) [⟨0,0,[2]⟩,⟨1,1,[92]⟩,⟨2,0,[7]⟩,⟨3,7,[93,94]⟩,⟨4,15,[95]⟩,⟨5,0,[3]⟩,⟨6,32,[97]⟩,⟨7,0,[7]⟩,⟨8,224,[98,99]⟩,⟨9,480,[100]⟩,⟨10,1023,[96,101]⟩,⟨11,2047,[102]⟩] mixed (by kernel_rfl) ?_
   refine bo hm1 fun e20 hm1=>?_
   refine bo hm1 fun e21 hm1=>?_
   refine bo hm1 fun y22 hm1=>?_
   refine co hm1 (fun hm1=>?_) fun hm1=>?_
   ·exact Zdt hm hm1
   exact eb1 hm hm1
  exact ZcD hm hm1
 exact Yw hm⟩
def Zay (a1:Ze) (e2:Int) (b3:Ze) (f4:Int):Option Bool :=
 sel (decide (e2=f4)) (
  Zc (QP a1 b3) fun y5 =>
  some y5) (
  some false)
instance ZoE {a1} {e2} {b3} {f4}:SpO (Zay a1 e2 b3 f4) fun y=>Sp 25 [.a (Ze.vs a1),vI e2,.a (Ze.vs b3),vI f4] [] (vB y) []:=⟨fun hm=>by
 refine si Tryz.func25 Tryz.ntmps25 Tryz.results25 fun B w0 ρ0=>?_
 exact az0 hm⟩
end Go.Proofs.YtkcmgbbopedacaaGreatDoor
