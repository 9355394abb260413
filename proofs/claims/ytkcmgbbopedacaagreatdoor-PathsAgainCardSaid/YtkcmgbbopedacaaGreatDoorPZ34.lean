/-
  Lemmas: Models and walks
-/
import Derived.Test.YtkcmgbbopedacaaGreatDoorPZ18
import Derived.Test.YtkcmgbbopedacaaGreatDoorPZ32
import Derived.Test.YtkcmgbbopedacaaGreatDoorPZ31
import Derived.Laws.BytesString
set_option linter.unusedSimpArgs false
set_option linter.unusedVariables false
namespace Go.Proofs.YtkcmgbbopedacaaGreatDoor
open Go.RowKit
set_option maxRecDepth 100000
set_option maxHeartbeats 4000000
attribute [local irreducible] WK WC WL Wk Rel OpD OpV WD WO sel bnd Ze app YD lsl ZeM ssl ZhA Zhi Zi9 Zh4 Op.bytesLess
attribute [local irreducible] ZcE Yi union mlk ZtS Zve ZtT cpy Zc2
def YS (b1:Bnd):List Bnd→Int→Int
 | [],n3 =>
 n3
 | r4::xs5,n3 =>
 bnd (Zk r4 b1) fun y7 =>
 sel (decide (y7≤0)) (
  YS b1 xs5 (ZJ (n3+1))) (
  YS b1 xs5 n3)
def Xy (b1:Bnd) (cuts2:List Bnd):Int :=
 bnd (
  YS b1 cuts2 0:Int) fun n8 =>
 n8
instance Zre {b1} {cuts2}:SpT (Xy b1 cuts2) fun y=>Sp 80 [.a [vS b1.key,vB b1.top],.d (lst Bnd.ds cuts2)] [] (vI y) []:=⟨fun hm=>by
 refine si Tryz.func80 Tryz.ntmps80 Tryz.results80 fun B w0 ρ0=>?_
 refine sr ?_
 refine sr ?_
 refine sr ?_
 refine jp1 hm [] [] (fun n8=>[(5,vI n8)]) (fun _ hm hm1=>?_) (fun n8 hm=>?_)
 ·refine Zm ?_
  refine lr1 hm1 8 [2,8,9] [102] (fun m6 n3=>[(5,vI n3),(10,vI (m6:Int))]) (fun hlenm6 m6 n3 r4 hltm6 hxm6 hm1=>?_) (fun m6 n3 hm1=>?_)
  ·refine bp hm1 fun y7 hm1=>?_
   refine co hm1 (fun hm1=>?_) fun hm1=>?_
   ·refine sr ?_
    refine ZL (YZ rfl rfl rfl rfl) rfl rfl rfl ?_
    exact eb1 hm hm1
   exact eb1 hm hm1
  exact ZbU hm hm1
 exact YF hm⟩
def ZO (cuts2:List Bnd):List Bnd→Int→Option (Ctl (Zh × Int) Unit)
 | [],i =>
 some (Ctl.nxt ())
 | r4::xs5,i =>
 bnd (Z4 r4) fun y7 =>
 sel (!y7) (
  some (Ctl.ret ((Zh.mk (Zf.mk 0 [] ⟨#[]⟩ 0) [] [] [] false),1))) (
  sel (decide (0<i)) (
   Ze (YD cuts2 (ZJ (i - 1))) fun e8 =>
   bnd (Zk r4 e8) fun y9 =>
   sel (decide (y9≤0)) (
    some (Ctl.ret ((Zh.mk (Zf.mk 0 [] ⟨#[]⟩ 0) [] [] [] false),8))) (
    ZO cuts2 xs5 (i+1))) (
   ZO cuts2 xs5 (i+1)))
def ZP (q1:Zf) (use12:List Bnd):List Rng→List Zc→Int→Option (List Zc)
 | [],p15,last16 =>
 some p15
 | r17::xs18,p15,last16 =>
 bnd (Xy r17.lo use12) fun y20 =>
 Ze (
  sel (!decide (y20=last16)) (
   Ze (app p15 ([(Zc.mk q1 [] ([]:List Zi))]:List Zc)) fun l21 =>
   some (l21,y20)) (
   some (p15,last16)):Option (List Zc × Int)) fun (p22,last23) =>
 Ze (YD p22 (ZJ ((p22.length:Int) - 1))) fun e24 =>
 Ze (app e24.Todo ([r17]:List Rng)) fun l25 =>
 bnd ((Zc.mk e24.Query l25 e24.Visits)) fun e26 =>
 bnd (p22.set (Int.toNat (ZJ ((p22.length:Int) - 1))) e26) fun l27 =>
 ZP q1 use12 xs18 l27 last23
def QR (q1:Zf) (cuts2:List Bnd):Option (Zh × Int) :=
 bnd (XT q1) fun y3 =>
 sel (!decide (y3=0)) (
  some ((Zh.mk (Zf.mk 0 [] ⟨#[]⟩ 0) [] [] [] false),y3)) (
  sel (decide (64<(cuts2.length:Int))) (
   some ((Zh.mk (Zf.mk 0 [] ⟨#[]⟩ 0) [] [] [] false),3)) (
   Ze (
    ZO cuts2 cuts2 0:Option (Ctl (Zh × Int) Unit)) fun mu=>Yz mu fun (_:Unit) =>
   Ze (app ([]:List Bnd) cuts2) fun l10 =>
   Ze (
    sel (decide (q1.Kind=3)) (
     some true) (
     some (decide (q1.Kind=4))):Option Bool) fun x11 =>
   Ze (
    sel x11 (
     some []) (
     some cuts2):Option (List Bnd)) fun use12 =>
   Ze (Xp q1) fun y13 =>
   Ze (ZaB y13 use12) fun y14 =>
   Ze (
    ZP q1 use12 y14 [] (-1):Option (List Zc)) fun p28 =>
   Ze (app ([]:List Zc) p28) fun l29 =>
   some ((Zh.mk q1 l10 p28 l29 false),0)))
instance Zkl {q1} {cuts2}:SpO (QR q1 cuts2) fun y=>Sp 24 [.a (Zf.vs q1),.d (lst Bnd.ds cuts2)] [] (.t [.a (Zh.vs y.1),vI y.2]) []:=⟨fun hm=>by
 refine si Tryz.func24 Tryz.ntmps24 Tryz.results24 fun B w0 ρ0=>?_
 refine bp hm fun y3 hm=>?_
 refine co hm (fun hm=>?_) fun hm=>?_
 ·refine sr ?_
  refine sx ?_
  cases hm
  exact Zkr
 refine co hm (fun hm=>?_) fun hm=>?_
 ·refine sr ?_
  refine sx ?_
  cases hm
  exact Zkr
 refine sx ?_
 refine sr ?_
 obtain ⟨mu1,hm1,hm⟩:=ZH hm
 refine YQ (fun st=>mu1=Ctl.nxt ()∧st=⟨[(1,.d (lst Bnd.ds cuts2)),(2,.p 102 0),(4,.p 104 0)],[(102,some (.box 41 (Zf.vs q1))),(104,some (.box 48 [vI 0,.d (.c (.slice none 0 0)),vS ⟨#[]⟩,vI 0,.d (.c (.slice none 0 0)),.d (.c (.slice none 0 0)),.d (.c (.slice none 0 0)),vB false]))]⟩) ?_ ?_
 ·refine Zm ?_
  refine ZdE 26 rfl (fun hlenm6=>?_)
  refine Ze6 (fun κ st=>∃ (m6:Nat),κ=cuts2.length - m6∧m6≤cuts2.length∧ZO cuts2 (cuts2.drop m6) (m6:Int)=some mu1∧st=⟨[(1,.d (lst Bnd.ds cuts2)),(2,.p 102 0),(4,.p 104 0),(26,.d (lst Bnd.ds cuts2)),(27,vI (cuts2.length:Int)),(28,vI (m6:Int))],[(102,some (.box 41 (Zf.vs q1))),(104,some (.box 48 [vI 0,.d (.c (.slice none 0 0)),vS ⟨#[]⟩,vI 0,.d (.c (.slice none 0 0)),.d (.c (.slice none 0 0)),.d (.c (.slice none 0 0)),vB false]))]⟩) [(102,102),(104,104)] ⟨0,rfl,Nat.zero_le _,hm1,rfl⟩ ?_
  rintro κ _ ⟨m6,rfl,hlem6,hm1,rfl⟩
  rcases Nat.lt_or_ge m6 cuts2.length with hltm6 | hgem6
  ·obtain ⟨r4,hxm6,hdr⟩:=Zdw hltm6
   rw [hdr,ZO.eq_2] at hm1
   refine sr ?_
   refine Zg ?_
   refine XB (Zos hltm6) rfl ?_
   refine bp hm1 fun y7 hm1=>?_
   refine co hm1 (fun hm1=>?_) fun hm1=>?_
   ·refine sr ?_
    refine sx ?_
    cases hm1
    replace hm:=YI hm
    cases hm
    exact Zkr
   refine sx ?_
   refine Zg ?_
   refine Zy (id:=11) [⟨0,0,[7]⟩,⟨1,1,[37]⟩,⟨2,3,[38]⟩,⟨3,7,[8,39]⟩,⟨4,7,[1,39]⟩,⟨5,7,[7,39]⟩,⟨6,39,[39,42]⟩,⟨7,119,[39,41,43]⟩,⟨8,247,[39,44]⟩,⟨9,511,[39,40,45]⟩,⟨10,1023,[39,46]⟩,⟨11,2047,[39,47]⟩] mixed (by kernel_rfl) ?_
   refine co hm1 (fun hm1=>?_) fun hm1=>?_
   ·refine bo hm1 fun e8 hm1=>?_
    refine bp hm1 fun y9 hm1=>?_
    refine co hm1 (fun hm1=>?_) fun hm1=>?_
    ·refine sr ?_
     refine sx ?_
     cases hm1
     replace hm:=YI hm
     cases hm
     exact Zkr
    refine sx ?_
    refine sr ?_
    refine ZL (ZeO hltm6 hlenm6 rfl rfl rfl) rfl rfl rfl ?_
    refine ss ?_
    exact ZcK [(102,102),(104,104)] ⟨m6+1,rfl,hltm6,hm1,rfl⟩ (by omega)
   refine ss ?_
   refine Yf rfl ?_
   refine sx ?_
   refine sr ?_
   refine ZL (ZeO hltm6 hlenm6 rfl rfl rfl) rfl rfl rfl ?_
   refine ss ?_
   exact ZcK [(102,102),(104,104)] ⟨m6+1,rfl,hltm6,hm1,rfl⟩ (by omega)
  ·rw [ZdG hgem6,ZO.eq_1] at hm1
   refine sr ?_
   refine Zg ?_
   refine XD (Zor hgem6) rfl ?_
   refine XA ?_
   refine ss ?_
   cases hm1
   exact XZ [(102,102),(104,104)] ⟨rfl,rfl⟩
 rintro _ ⟨rfl,rfl⟩
 replace hm:=Zub hm
 refine ss ?_
 refine Zg ?_
 refine Zy (id:=14) [⟨0,0,[2]⟩,⟨1,0,[1]⟩,⟨2,2,[52]⟩,⟨3,7,[51,53]⟩,⟨4,0,[]⟩,⟨5,31,[9,54]⟩] mixed (by kernel_rfl) ?_
 refine bo hm fun l10 hm=>?_
 refine sr ?_
 refine Zg ?_
 refine Zg ?_
 obtain ⟨mu1,hm1,hm⟩:=ZH hm
 refine YQ (fun st=>∃ (x11:Bool),x11=mu1∧st=⟨[(2,.p 102 0),(4,.p 104 0),(9,.p 109 0),(10,.d (lst Bnd.ds cuts2)),(63,vB x11)],[(102,some (.box 41 (Zf.vs q1))),(104,some (.box 48 [vI 0,.d (.c (.slice none 0 0)),vS ⟨#[]⟩,vI 0,.d (.c (.slice none 0 0)),.d (.c (.slice none 0 0)),.d (.c (.slice none 0 0)),vB false])),(109,some (.box 48 [vI q1.Kind,.d (lst Rng.ds q1.Ranges),vS q1.Key,vI q1.Count,.h 153,.d (.c (.slice none 0 0)),.d (.c (.slice none 0 0)),vB false])),(153,some (YY 32 2 Bnd.ds l10))]⟩) ?_ ?_
 ·refine co hm1 (fun hm1=>?_) fun hm1=>?_
  ·refine ss ?_
   cases hm1
   exact XZ [(102,102),(104,104),(109,109),(153,153)] ⟨_,rfl,rfl⟩
  refine ss ?_
  cases hm1
  exact XZ [(102,102),(104,104),(109,109),(153,153)] ⟨_,rfl,rfl⟩
 rintro _ ⟨x11,rfl,rfl⟩
 refine ss ?_
 obtain ⟨mu1,hm1,hm⟩:=ZH hm
 refine YQ (fun st=>∃ (use12:List Bnd),use12=mu1∧st=⟨[(2,.p 102 0),(4,.p 104 0),(9,.p 109 0),(10,.d (lst Bnd.ds use12))],[(102,some (.box 41 (Zf.vs q1))),(104,some (.box 48 [vI 0,.d (.c (.slice none 0 0)),vS ⟨#[]⟩,vI 0,.d (.c (.slice none 0 0)),.d (.c (.slice none 0 0)),.d (.c (.slice none 0 0)),vB false])),(109,some (.box 48 [vI q1.Kind,.d (lst Rng.ds q1.Ranges),vS q1.Key,vI q1.Count,.h 153,.d (.c (.slice none 0 0)),.d (.c (.slice none 0 0)),vB false])),(153,some (YY 32 2 Bnd.ds l10))]⟩) ?_ ?_
 ·refine co hm1 (fun hm1=>?_) fun hm1=>?_
  ·refine sr ?_
   cases hm1
   exact XZ [(102,102),(104,104),(109,109),(153,153)] ⟨_,rfl,rfl⟩
  refine sx ?_
  cases hm1
  exact XZ [(102,102),(104,104),(109,109),(153,153)] ⟨_,rfl,rfl⟩
 rintro _ ⟨use12,rfl,rfl⟩
 refine sr ?_
 refine sr ?_
 obtain ⟨y13,hy,hm⟩:=ZH hm
 refine Zhp (ZbJ (hm:=hy)) ?_
 refine bo hm fun y14 hm=>?_
 refine ss ?_
 obtain ⟨mu1,hm1,hm⟩:=ZH hm
 refine YQ (fun st=>∃ (p28:List Zc),p28=mu1∧st=⟨[(4,.p 104 0),(9,.p 109 0)],[(104,some (.box 48 [vI 0,.d (.c (.slice none 0 0)),vS ⟨#[]⟩,vI 0,.d (.c (.slice none 0 0)),.d (.c (.slice none 0 0)),.d (.c (.slice none 0 0)),vB false])),(109,some (.box 48 [vI q1.Kind,.d (lst Rng.ds q1.Ranges),vS q1.Key,vI q1.Count,.h 153,.hx 5005,.d (.c (.slice none 0 0)),vB false])),(153,some (YY 32 2 Bnd.ds l10)),(5005,some (.hd)),(5006,some (axT 5005 124 6 72 4 (fun (x:Zc)=>([dI x.Query.Kind,lst Rng.ds x.Query.Ranges,dS x.Query.Key,dI x.Query.Count]:List D)) (fun (x:Zc)=>x.Todo) Rng.ds (fun (x:Zc)=>([lst Zi.ds x.Visits]:List D)) p28 none))]⟩) ?_ ?_
 ·refine Zm ?_
  refine ZbW (Zst 109 5 5001 124 6 72 4 rfl rfl rfl rfl) ?_
  refine ZdE 67 rfl (fun hlenm19=>?_)
  refine Ze6 (fun κ st=>∃ (m19:Nat) (p15:List Zc) (last16:Int),κ=y14.length - m19∧m19≤y14.length∧ZP q1 use12 (y14.drop m19) p15 last16=some mu1∧st=⟨[(2,.p 102 0),(4,.p 104 0),(9,.p 109 0),(10,.d (lst Bnd.ds use12)),(11,vI last16),(67,.d (lst Rng.ds y14)),(68,vI (y14.length:Int)),(69,vI (m19:Int))],[(102,some (.box 41 (Zf.vs q1))),(104,some (.box 48 [vI 0,.d (.c (.slice none 0 0)),vS ⟨#[]⟩,vI 0,.d (.c (.slice none 0 0)),.d (.c (.slice none 0 0)),.d (.c (.slice none 0 0)),vB false])),(109,some (.box 48 [vI q1.Kind,.d (lst Rng.ds q1.Ranges),vS q1.Key,vI q1.Count,.h 153,.hx 5001,.d (.c (.slice none 0 0)),vB false])),(153,some (YY 32 2 Bnd.ds l10)),(5001,some (.hd)),(5002,some (axT 5001 124 6 72 4 (fun (x:Zc)=>([dI x.Query.Kind,lst Rng.ds x.Query.Ranges,dS x.Query.Key,dI x.Query.Count]:List D)) (fun (x:Zc)=>x.Todo) Rng.ds (fun (x:Zc)=>([lst Zi.ds x.Visits]:List D)) p15 none))]⟩) [(102,102),(104,104),(109,109),(153,153),(5001,5001),(5002,5002)] ⟨0,_,_,rfl,Nat.zero_le _,hm1,rfl⟩ ?_
  rintro κ _ ⟨m19,p15,last16,rfl,hlem19,hm1,rfl⟩
  rcases Nat.lt_or_ge m19 y14.length with hltm19 | hgem19
  ·obtain ⟨r17,hxm19,hdr⟩:=Zdw hltm19
   rw [hdr,ZP.eq_2] at hm1
   refine sr ?_
   refine Zg ?_
   refine XB (Zos hltm19) rfl ?_
   refine bp hm1 fun y20 hm1=>?_
   refine sr ?_
   obtain ⟨mu2,hm2,hm1⟩:=ZH hm1
   refine YQ (fun st=>∃ (p22:List Zc) (last23:Int),mu2=(p22,last23)∧st=⟨[(2,.p 102 0),(4,.p 104 0),(9,.p 109 0),(10,.d (lst Bnd.ds use12)),(11,vI last23),(13,.p 113 0),(67,.d (lst Rng.ds y14)),(68,vI (y14.length:Int)),(69,vI (m19:Int))],[(102,some (.box 41 (Zf.vs q1))),(104,some (.box 48 [vI 0,.d (.c (.slice none 0 0)),vS ⟨#[]⟩,vI 0,.d (.c (.slice none 0 0)),.d (.c (.slice none 0 0)),.d (.c (.slice none 0 0)),vB false])),(109,some (.box 48 [vI q1.Kind,.d (lst Rng.ds q1.Ranges),vS q1.Key,vI q1.Count,.h 153,.hx 5003,.d (.c (.slice none 0 0)),vB false])),(113,some (.box 72 (Rng.vs r17))),(153,some (YY 32 2 Bnd.ds l10)),(5003,some (.hd)),(5004,some (axT 5003 124 6 72 4 (fun (x:Zc)=>([dI x.Query.Kind,lst Rng.ds x.Query.Ranges,dS x.Query.Key,dI x.Query.Count]:List D)) (fun (x:Zc)=>x.Todo) Rng.ds (fun (x:Zc)=>([lst Zi.ds x.Visits]:List D)) p22 none))]⟩) ?_ ?_
   ·refine co hm2 (fun hm2=>?_) fun hm2=>?_
    ·refine sr ?_
     refine ZuM [(102,102),(104,104),(109,109),(113,113),(153,153),(5001,5001),(5002,5002)] ⟨[(2,.p 102 0),(4,.p 104 0),(9,.p 109 0),(10,.d (lst Bnd.ds use12)),(13,.p 113 0),(14,vI y20),(67,.d (lst Rng.ds y14)),(68,vI (y14.length:Int)),(69,vI (m19:Int)),(81,.hx 5001),(83,.a [vI q1.Kind,.d (lst Rng.ds q1.Ranges),vS q1.Key,vI q1.Count,.d (.c (.slice none 0 0)),.d (lst Zi.ds ([]:List Zi))])],[(102,some (.box 41 (Zf.vs q1))),(104,some (.box 48 [vI 0,.d (.c (.slice none 0 0)),vS ⟨#[]⟩,vI 0,.d (.c (.slice none 0 0)),.d (.c (.slice none 0 0)),.d (.c (.slice none 0 0)),vB false])),(109,some (.box 48 [vI q1.Kind,.d (lst Rng.ds q1.Ranges),vS q1.Key,vI q1.Count,.h 153,.hx 5001,.d (.c (.slice none 0 0)),vB false])),(113,some (.box 72 (Rng.vs r17))),(153,some (YY 32 2 Bnd.ds l10)),(5001,some (.hd)),(5002,some (axT 5001 124 6 72 4 (fun (x:Zc)=>([dI x.Query.Kind,lst Rng.ds x.Query.Ranges,dS x.Query.Key,dI x.Query.Count]:List D)) (fun (x:Zc)=>x.Todo) Rng.ds (fun (x:Zc)=>([lst Zi.ds x.Visits]:List D)) p15 none))]⟩ ?_
     refine ss ?_
     refine Zxo (ZxT 184 rfl rfl rfl rfl) rfl rfl rfl rfl rfl ?_
     refine ss ?_
     obtain ⟨l21,hy,hm2⟩:=ZH hm2
     refine Zxo (Zpj (k2:=5002) 420850 (Zc.mk q1 [] ([]:List Zi)) hy rfl rfl rfl rfl rfl rfl rfl rfl rfl rfl) rfl rfl rfl rfl rfl ?_
     refine sr ?_
     cases hm2
     exact XZ [(102,102),(104,104),(109,109),(113,113),(153,153),(5003,420850),(5004,420851)] ⟨_,_,rfl,rfl⟩
    refine sx ?_
    cases hm2
    exact XZ [(102,102),(104,104),(109,109),(113,113),(153,153),(5003,5001),(5004,5002)] ⟨_,_,rfl,rfl⟩
   rintro _ ⟨p22,last23,rfl,rfl⟩
   refine sr ?_
   refine ZL (ZoB (k2:=5004) rfl rfl rfl) rfl rfl rfl ?_
   refine ss ?_
   obtain ⟨e24,hy,hm1⟩:=ZH hm1
   have hge24:=hy
   refine ZL (Zua (k2:=5004) hy rfl rfl rfl rfl) rfl rfl rfl ?_
   refine ss ?_
   refine Zy (id:=27) [⟨0,0,[15]⟩,⟨1,0,[15]⟩,⟨2,2,[96]⟩,⟨3,6,[97]⟩,⟨4,14,[98]⟩,⟨5,0,[13]⟩,⟨6,32,[100]⟩,⟨7,126,[99,101]⟩,⟨8,255,[95]⟩,⟨9,511,[103]⟩,⟨10,1023,[102,104]⟩] mixed (by kernel_rfl) ?_
   refine ss ?_
   refine Yp [] (Zpp rfl rfl) rfl (by first | exact .no rfl | exact .y rfl rfl rfl rfl) rfl rfl ?_
   refine ss ?_
   refine Yp [] (ZvN rfl rfl) rfl (by first | exact .no rfl | exact .y rfl rfl rfl rfl) rfl rfl ?_
   refine ss ?_
   refine Zz6 [5004] [5004,400990,400991] (Zw9 (k2:=5004) 400990 hge24 rfl rfl rfl rfl (by exact inferInstance)) rfl (by first | exact .no rfl | exact .y rfl rfl rfl rfl) rfl rfl rfl rfl rfl ?_
   refine ss ?_
   refine ZeP Rng.ds [r17] rfl rfl (by simp only [YB,Zq,List.cons_append,List.nil_append,List.append_nil]; exact rfl) rfl rfl rfl rfl (by first | exact .no rfl | exact .y rfl rfl rfl rfl) rfl rfl ?_
   refine bo hm1 fun l25 hm1=>?_
   refine ss ?_
   refine Yp [] (Zpp rfl rfl) rfl (by first | exact .no rfl | exact .y rfl rfl rfl rfl) rfl rfl ?_
   refine ss ?_
   refine Yp [] (ZvN rfl rfl) rfl (by first | exact .no rfl | exact .y rfl rfl rfl rfl) rfl rfl ?_
   refine ss ?_
   obtain ⟨e26,hy,hm1⟩:=Zao hm1
   have hxe26:=hy
   refine ss ?_
   obtain ⟨l27,hy,hm1⟩:=Zao hm1
   refine ss ?_
   refine Zv3 [400991,202] [400991,202,410050,410051] (Zwa (k2:=400991) (q:=202) 410050 hge24 hy rfl rfl rfl rfl rfl rfl (by exact inferInstance) (by first | (rw [← hxe26]) | rfl) (by first | (rw [← hxe26]) | rfl) (by first | (rw [← hxe26]) | rfl)) rfl (by first | exact .no rfl | exact .y rfl rfl rfl rfl) rfl rfl rfl rfl ?_
   have hge26:=ZaI hge24 e26
   rw [hy] at hge26
   refine sr ?_
   refine ZL (ZeO hltm19 hlenm19 rfl rfl rfl) rfl rfl rfl ?_
   refine ss ?_
   exact ZcK [(102,102),(104,104),(109,109),(153,153),(5001,5003),(5002,410051)] ⟨m19+1,_,_,rfl,hltm19,hm1,rfl⟩ (by omega)
  ·rw [ZdG hgem19,ZP.eq_1] at hm1
   refine sr ?_
   refine Zg ?_
   refine XD (Zor hgem19) rfl ?_
   refine XA ?_
   refine ss ?_
   cases hm1
   exact XZ [(104,104),(109,109),(153,153),(5005,5001),(5006,5002)] ⟨_,rfl,rfl⟩
 rintro _ ⟨p28,rfl,rfl⟩
 refine ss ?_
 refine Zg ?_
 refine ZuZ [(104,104),(109,109),(153,153)] ⟨[(4,.p 104 0),(9,.p 109 0)],[(104,some (.box 48 [vI 0,.d (.c (.slice none 0 0)),vS ⟨#[]⟩,vI 0,.d (.c (.slice none 0 0)),.d (.c (.slice none 0 0)),.d (.c (.slice none 0 0)),vB false])),(109,some (.box 48 [vI q1.Kind,.d (lst Rng.ds q1.Ranges),vS q1.Key,vI q1.Count,.h 153,.d (lst Zc.ds p28),.d (.c (.slice none 0 0)),vB false])),(153,some (YY 32 2 Bnd.ds l10))]⟩ ?_
 refine bo hm fun l29 hm=>?_
 refine sr ?_
 refine sx ?_
 cases hm
 exact Zkr⟩
end Go.Proofs.YtkcmgbbopedacaaGreatDoor
