/-
  Lemmas: The steps of a walk through a region that draws its order ('
-/
import Derived.Test.YtkcmgbbopedacaaGreatDoorPZ9
import Derived.Test.YtkcmgbbopedacaaGreatDoorPZ5
import Derived.Test.YtkcmgbbopedacaaGreatDoorPZ1
import Derived.Test.YtkcmgbbopedacaaGreatDoorPZ4
import Derived.Test.YtkcmgbbopedacaaGreatDoorPZ2
set_option linter.unusedSimpArgs false
set_option linter.unusedVariables false
namespace Go.Proofs.YtkcmgbbopedacaaGreatDoor
open Go.RowKit
attribute [local simp] Sem.run_bind Sem.run_pure Result.andThen_ok
theorem Zjj {P:Program} {w:World} {c:Bool} {b:Sem Bool}:(if c=false then (pure false:Sem Bool) else b).run P w=if c=false then .ok false w else b.run P w:=by split <;> simp
theorem Zjq {w:World} {n:Nat} (a0 b0:ByteArray) (a1 b1:Bool):(Op.equalIn (n+2) 32 (.agg #[.string a0,.bool a1]) (.agg #[.string b0,.bool b1])).run Tryz.prog w=.ok (decide (a0=b0) && decide (a1=b1)) w:=by
 rw [show n + 2 = (n + 1) + 1 from rfl, run_equalIn_struct (P := Tryz.prog) w (n + 1) 32 _ _ (by kernel_rfl) (by kernel_rfl), show (Tryz.prog.fieldsOf 32).toList = [⟨"Key", 9, 0, false, "", "", 0⟩, ⟨"Top", 4, 1, false, "", "", 16⟩] from by kernel_rfl]
 simp [Op.eqFields,part,Result.andThen,Zjj,ZeQ,ZbG (T:=9) (inferInstance:Ty Tryz.prog 9 _ _),XX (T:=9) (inferInstance:Ty Tryz.prog 9 _ _),run_equalIn_string (P:=Tryz.prog) _ _ 9 _ _ (by kernel_rfl),ZbG (T:=4) (inferInstance:Ty Tryz.prog 4 _ _),XX (T:=4) (inferInstance:Ty Tryz.prog 4 _ _),run_equalIn_bool' (P:=Tryz.prog) _ _ 4 _ _ (by kernel_rfl)]
 all_goals ((repeat' split) <;> simp_all)
instance ZA1 (a0 b0:ByteArray) (a1 b1:Bool):Eqs Tryz.prog 32 [.string a0,.bool a1] [.string b0,.bool b1] (decide (a0=b0) && decide (a1=b1)):=⟨by kernel_rfl,fun w=>Zjq (n:=9998) a0 b0 a1 b1⟩
theorem ZpO {w:World} {n:Nat} (a0 b0:ByteArray) (a1 b1:Bool) (a2 b2:ByteArray) (a3 b3:Bool):(Op.equalIn (n+3) 72 (.agg #[.string a0,.bool a1,.string a2,.bool a3]) (.agg #[.string b0,.bool b1,.string b2,.bool b3])).run Tryz.prog w=.ok (decide (a0=b0) && decide (a1=b1) && decide (a2=b2) && decide (a3=b3)) w:=by
 rw [show n + 3 = (n + 2) + 1 from rfl, run_equalIn_struct (P := Tryz.prog) w (n + 2) 72 _ _ (by kernel_rfl) (by kernel_rfl), show (Tryz.prog.fieldsOf 72).toList = [⟨"Lo", 32, 0, false, "", "", 0⟩, ⟨"Hi", 32, 2, false, "", "", 24⟩] from by kernel_rfl]
 simp [Op.eqFields,part,Result.andThen,Zjj,ZeQ,ZbG (T:=32) (inferInstance:Ty Tryz.prog 32 _ _),XX (T:=32) (inferInstance:Ty Tryz.prog 32 _ _),Zjq]
 all_goals ((repeat' split) <;> simp_all)
instance ZAZ (a0 b0:ByteArray) (a1 b1:Bool) (a2 b2:ByteArray) (a3 b3:Bool):Eqs Tryz.prog 72 [.string a0,.bool a1,.string a2,.bool a3] [.string b0,.bool b1,.string b2,.bool b3] (decide (a0=b0) && decide (a1=b1) && decide (a2=b2) && decide (a3=b3)):=⟨by kernel_rfl,fun w=>ZpO (n:=9997) a0 b0 a1 b1 a2 b2 a3 b3⟩
theorem Znl {w:World} {n:Nat} (a0 b0:ByteArray) (a1 b1:ByteArray):(Op.equalIn (n+2) 154 (.agg #[.string a0,.string a1]) (.agg #[.string b0,.string b1])).run Tryz.prog w=.ok (decide (a0=b0) && decide (a1=b1)) w:=by
 rw [show n + 2 = (n + 1) + 1 from rfl, run_equalIn_struct (P := Tryz.prog) w (n + 1) 154 _ _ (by kernel_rfl) (by kernel_rfl), show (Tryz.prog.fieldsOf 154).toList = [⟨"Key", 9, 0, false, "", "", 0⟩, ⟨"Value", 9, 1, false, "", "", 16⟩] from by kernel_rfl]
 simp [Op.eqFields,part,Result.andThen,Zjj,ZeQ,ZbG (T:=9) (inferInstance:Ty Tryz.prog 9 _ _),XX (T:=9) (inferInstance:Ty Tryz.prog 9 _ _),run_equalIn_string (P:=Tryz.prog) _ _ 9 _ _ (by kernel_rfl)]
 all_goals ((repeat' split) <;> simp_all)
instance ZzX (a0 b0:ByteArray) (a1 b1:ByteArray):Eqs Tryz.prog 154 [.string a0,.string a1] [.string b0,.string b1] (decide (a0=b0) && decide (a1=b1)):=⟨by kernel_rfl,fun w=>Znl (n:=9998) a0 b0 a1 b1⟩
theorem ZpS {w:World} {n:Nat} (a0 b0:Int) (a1 b1:Int) (a2 b2:Int) (a3 b3:Int) (a4 b4:Int) (a5 b5:ByteArray) (a6 b6:ByteArray):(Op.equalIn (n+2) 78 (.agg #[.int .i64 a0,.int .i64 a1,.int .i64 a2,.int .i64 a3,.int .i64 a4,.string a5,.string a6]) (.agg #[.int .i64 b0,.int .i64 b1,.int .i64 b2,.int .i64 b3,.int .i64 b4,.string b5,.string b6])).run Tryz.prog w=.ok (decide (a0=b0) && decide (a1=b1) && decide (a2=b2) && decide (a3=b3) && decide (a4=b4) && decide (a5=b5) && decide (a6=b6)) w:=by
 rw [show n + 2 = (n + 1) + 1 from rfl, run_equalIn_struct (P := Tryz.prog) w (n + 1) 78 _ _ (by kernel_rfl) (by kernel_rfl), show (Tryz.prog.fieldsOf 78).toList = [⟨"Count", 3, 0, false, "", "", 0⟩, ⟨"Numbers", 3, 1, false, "", "", 8⟩, ⟨"Sum", 2, 2, false, "", "", 16⟩, ⟨"Low", 2, 3, false, "", "", 24⟩, ⟨"High", 2, 4, false, "", "", 32⟩, ⟨"First", 9, 5, false, "", "", 40⟩, ⟨"Last", 9, 6, false, "", "", 56⟩] from by kernel_rfl]
 simp [Op.eqFields,part,Result.andThen,Zjj,ZeQ,ZbG (T:=3) (inferInstance:Ty Tryz.prog 3 _ _),XX (T:=3) (inferInstance:Ty Tryz.prog 3 _ _),run_equalIn_int (P:=Tryz.prog) _ _ 3 .i64 .i64 _ _ (by kernel_rfl),ZbG (T:=2) (inferInstance:Ty Tryz.prog 2 _ _),XX (T:=2) (inferInstance:Ty Tryz.prog 2 _ _),run_equalIn_int (P:=Tryz.prog) _ _ 2 .i64 .i64 _ _ (by kernel_rfl),ZbG (T:=9) (inferInstance:Ty Tryz.prog 9 _ _),XX (T:=9) (inferInstance:Ty Tryz.prog 9 _ _),run_equalIn_string (P:=Tryz.prog) _ _ 9 _ _ (by kernel_rfl)]
 all_goals ((repeat' split) <;> simp_all)
instance ZAd (a0 b0:Int) (a1 b1:Int) (a2 b2:Int) (a3 b3:Int) (a4 b4:Int) (a5 b5:ByteArray) (a6 b6:ByteArray):Eqs Tryz.prog 78 [.int .i64 a0,.int .i64 a1,.int .i64 a2,.int .i64 a3,.int .i64 a4,.string a5,.string a6] [.int .i64 b0,.int .i64 b1,.int .i64 b2,.int .i64 b3,.int .i64 b4,.string b5,.string b6] (decide (a0=b0) && decide (a1=b1) && decide (a2=b2) && decide (a3=b3) && decide (a4=b4) && decide (a5=b5) && decide (a6=b6)):=⟨by kernel_rfl,fun w=>ZpS (n:=9998) a0 b0 a1 b1 a2 b2 a3 b3 a4 b4 a5 b5 a6 b6⟩
end Go.Proofs.YtkcmgbbopedacaaGreatDoor
namespace Go.Proofs.YtkcmgbbopedacaaGreatDoor
open Go.RowKit
abbrev rows (l:List Kv):D:=lst Kv.ds l
def ZhB (r:Kv):Bool:=vk r.key && decide (r.val.size≤64)
def ZqX (l:List Kv) (j:Nat):Bool:=match l[j]? with
 | none=>true
 | some r=>ZhB r && (j == 0 || match l[j - 1]? with
  | some p=>bl p.key r.key
  | none=>true)
def Yu (l:List Kv):Bool:=decide (l.length≤1024) && (List.range l.length).all (ZqX l)
theorem ZkR {l:List Kv} {m:Nat} (h:m<l.length):ZqX l m=(ZhB l[m] && (m == 0 || bl (l[m - 1]'(by omega)).key l[m].key)):=by
 simp [ZqX,List.getElem?_eq_getElem h,List.getElem?_eq_getElem (show m - 1<l.length by omega)]
theorem Zsd {l:List Kv} (h0:l.length≤1024) (h:∀ j,j<l.length→ZqX l j=true):Yu l=true:=by
 simp only [Yu,Bool.and_eq_true,decide_eq_true_eq]
 exact ⟨h0,List.all_eq_true.2 fun j hj=>h j (List.mem_range.1 hj)⟩
attribute [local irreducible] WK WC WL Wk Rel OpD OpV WD WO Op.bytesLess cmp vk vb vld emp contains
end Go.Proofs.YtkcmgbbopedacaaGreatDoor
namespace Go.Proofs.YtkcmgbbopedacaaGreatDoor
open Go.RowKit
def ZcE (k:Int) (l:List Rng) (key:ByteArray) (c:Int):Int :=
 if k<1∨4<k then 1 else if 64<l.length then 3 else if l.all vld=false then 1 else if vk key=false∨(0<l.length∧k≠1)∨(key≠⟨#[]⟩∧k=1) then 1
 else if ((k=3∨k=4)∧(c<1∨1024<c))∨(¬ (k=3∨k=4)∧c≠0) then 2 else 0
def qtk (k c:Int) (r:List Kv):List Kv:=if k=3 then r.take (max 0 (min c r.length)).toNat else if k=4 then r.drop (r.length - (max 0 (min c r.length)).toNat) else r
abbrev vQ (k:Int) (l:List Rng) (key:ByteArray) (c:Int):V:=.a [vI k,.d (lst Rng.ds l),vS key,vI c]
attribute [local irreducible] WK WC WL Wk Rel OpD OpV WD WO Op.bytesLess cmp vk vb vld emp contains
instance Zxk (k:Int):Ct Tryz.prog 191 [vI k] True (vB (decide (k=3) || decide (k=4))):=⟨fun _=>by
 refine Spec.intro Tryz.func191 rfl rfl Tryz.ntmps191 Tryz.results191 rfl fun B w0 ρ0=>?_; simp only [slots,List.map_nil,List.map_cons,Nat.reduceAdd]
 (repeat' (first | refine sw ?_ | (refine swt ?_; intro x τ hx) | (refine sp ?_ ?_ <;> (intro h; (first | (have h2:(_:Bool)=_:=h; clear h2; subst h) | skip); (try simp only [decide_eq_true_eq,decide_eq_false_iff_not,Bool.not_eq_true',Bool.not_eq_false',Kv.eta,Bnd.eta,Rng.eta,Xx] at h); (first | (have h2:(_:Bool)=_:=h; clear h2; subst h) | skip))) | fail))
 all_goals (first | refine Xl rfl (by first | exact trivial | exact Zv rfl rfl (by exact inferInstance) trivial) rfl (by first | exact Vw.fmp rfl rfl rfl | exact Vw.nil | exact Vw.d _ | (repeat (first | exact Vws.nil | apply Vws.cons | exact Vw.nil | exact Vw.d _ | apply Vw.a | apply Vw.t | exact Vw.fh rfl rfl (Zj _) | exact Vw.fh rfl rfl Vws.nil)); done) ?_ | refine Yn rfl (by first | exact trivial | exact Zv rfl rfl (by exact inferInstance) trivial) rfl (by first | exact Vw.fmp rfl rfl rfl | exact Vw.nil | exact Vw.d _ | (repeat (first | exact Vws.nil | apply Vws.cons | exact Vw.nil | exact Vw.d _ | apply Vw.a | apply Vw.t | exact Vw.fh rfl rfl (Zj _) | exact Vw.fh rfl rfl Vws.nil)); done) ?_)
 all_goals (refine ⟨?_,rfl⟩; simp_all)⟩
end Go.Proofs.YtkcmgbbopedacaaGreatDoor
namespace Go.Proofs.YtkcmgbbopedacaaGreatDoor
open Go.RowKit
attribute [local irreducible] tpb
theorem Znm {r:Rng} (h:emp r=false):vld r=true:=by
 simp only [emp,Bool.or_eq_false_iff,Bool.not_eq_false'] at h; exact h.1
abbrev Zt2 (k:Int) (l:List Rng) (key:ByteArray) (c:Int):Prop:=ZcE k l key c=0∧l.length≤4∧0≤c∧c≤1024∧key.size≤64
theorem ZuR {l:List Rng} (h:∀ r ∈ l,emp r=false) (hl:l.length≤4):Zt2 1 l ⟨#[]⟩ 0:=by
 refine ⟨?_,hl,by omega,by omega,by decide⟩
 have h1:l.all vld=true:=List.all_eq_true.2 fun r hr=>Znm (h r hr)
 have h2:vk ⟨#[]⟩=true:=by kernel_rfl
 have h3:¬ 64<l.length:=by omega
 simp [ZcE,h1,h2,h3]
theorem ZuP {key:ByteArray} (h:key.size≤64):Zt2 2 [] key 0:=by
 have h2:vk key=true:=by simpa [vk] using h
 exact ⟨by simp [ZcE,h2],by simp,by omega,by omega,h⟩
theorem Zu0 {k c:Int} {key:ByteArray} (hk:k=3∨k=4) (h:key.size≤64) (hc:c ∈ [(1:Int),2,3,5,1024]):Zt2 k [] key c:=by
 have h2:vk key=true:=by simpa [vk] using h
 simp only [List.mem_cons,List.not_mem_nil,or_false] at hc
 refine ⟨?_,by simp,by omega,by omega,h⟩
 rcases hk with rfl | rfl <;> rcases hc with rfl | rfl | rfl | rfl | rfl <;> simp [ZcE,h2]
attribute [local irreducible] WK WC WL Wk Rel OpD OpV WD WO Op.bytesLess cmp vk vb vld emp contains
structure Qa where
 k:Int
 l:List Rng
 key:ByteArray
 c:Int
section
variable {Γ:Cx} {k:Zcc} {sl:List (Nat × V)} {hp:Hp} {o:Oper} {ops:Array Oper} {d kt:Nat} {uc:List V} {x:Operand} {xs:Array Operand} {ats:Array TypeId} {rest:List Oper}
end
end Go.Proofs.YtkcmgbbopedacaaGreatDoor
namespace Go.Proofs.YtkcmgbbopedacaaGreatDoor
open Go.RowKit
def Rng.vals (r:Rng):List Value:=[.string r.lo.key,.bool r.lo.top,.string r.hi.key,.bool r.hi.top]
def ZI (l:List Rng):List Value:=l.flatMap Rng.vals
theorem Y9 (r:Rng) (l:List Rng):ZI (r::l)=r.vals++ZI l:=rfl
theorem ZfZ (a b:List Rng):ZI (a++b)=ZI a++ZI b:=by simp [ZI]
theorem ZR:∀ l:List Rng,(ZI l).length=4 * l.length
 | []=>rfl
 | r::l=>by rw [Y9,List.length_append,ZR l]; simp [Rng.vals]; omega
theorem Ze7:∀ (l:List Rng) (k:Nat) (r:Rng),l[k]?=some r→∀ j u,r.vals[j]?=some u→(ZI l)[k * 4+j]?=some u
 | [],k,r,h=>by simp at h
 | r0::l,0,r,h=>by
  intro j u hj
  obtain rfl:r0=r:=by simpa using h
  have:j<4:=by have:=(List.getElem?_eq_some_iff.1 hj).1; simpa [Rng.vals] using this
  rw [Y9,Nat.zero_mul,Nat.zero_add,List.getElem?_append_left (by simp [Rng.vals]; omega)]; exact hj
 | r0::l,k+1,r,h=>by
  intro j u hj
  have:=Ze7 l k r (by simpa using h) j u hj
  rw [Y9,List.getElem?_append_right (by simp [Rng.vals]; omega)]
  rw [show (k+1) * 4+j - (Rng.vals r0).length=k * 4+j by simp [Rng.vals]; omega]
  exact this
structure RS (w:World) (v:Value) (l:List Rng):Prop where
 ex:∃ (p:Option Addr) (c:Nat),v=.slice p l.length c∧l.length≤c∧l.length≤1000000 ∧
  (l≠[]→∃ b o:Nat,p=some ⟨b,o,none⟩∧b<w.heap.size∧∀ j u,(ZI l)[j]?=some u→w.cell? ⟨b,o+j,none⟩=some u)
theorem RS.kp {w w':World} {v:Value} {l:List Rng} {X:List Nat} (h:RS w v l) (hk:Kp X w w') (hx:∀ p n c,v=.slice (some p) n c→p.block ∉ X):RS w' v l:=by
 obtain ⟨p,c,rfl,h1,h2,h3⟩:=h.ex
 refine ⟨p,c,rfl,h1,h2,fun hn=>?_⟩
 obtain ⟨b,o,rfl,hb,hc⟩:=h3 hn
 exact ⟨b,o,rfl,Nat.lt_of_lt_of_le hb hk.size,fun j u hj=>by rw [hk.cell (p:=⟨b,o+j,none⟩) hb (hx ⟨b,o,none⟩ _ _ rfl)]; exact hc j u hj⟩
theorem RS.kp0 {w w':World} {v:Value} {l:List Rng} (h:RS w v l) (hk:Kp [] w w'):RS w' v l:=h.kp hk fun _ _ _ _=>by simp
theorem RS.at {w:World} {p:Option Addr} {n c:Nat} {l:List Rng} (h:RS w (.slice p n c) l) {k:Nat} {r:Rng} (hk:l[k]?=some r) :
   ∃ b o:Nat,p=some ⟨b,o,none⟩∧b<w.heap.size∧w.cell? ⟨b,o+k * 4,none⟩=some (.string r.lo.key)∧w.cell? ⟨b,o+k * 4+1,none⟩=some (.bool r.lo.top) ∧
    w.cell? ⟨b,o+k * 4+2,none⟩=some (.string r.hi.key)∧w.cell? ⟨b,o+k * 4+3,none⟩=some (.bool r.hi.top):=by
 obtain ⟨p',c',e,h1,h2,h3⟩:=h.ex
 simp only [Value.slice.injEq] at e
 obtain ⟨rfl,rfl,rfl⟩:=e
 obtain ⟨b,o,rfl,hb,hc⟩:=h3 (by intro e; subst e; simp at hk)
 have g:=Ze7 l k r hk
 exact ⟨b,o,rfl,hb,hc _ _ (g 0 _ rfl),by have:=hc _ _ (g 1 _ rfl); rwa [← Nat.add_assoc] at this,by have:=hc _ _ (g 2 _ rfl); rwa [← Nat.add_assoc] at this,by have:=hc _ _ (g 3 _ rfl); rwa [← Nat.add_assoc] at this⟩
end Go.Proofs.YtkcmgbbopedacaaGreatDoor
namespace Go.Proofs.YtkcmgbbopedacaaGreatDoor
open Go.RowKit
theorem Rd.at {w0:World} {p:Option Addr} {n c k:Nat} {l:List Rng} {r:Rng} (h:Rd w0 4 (.slice p n c) n (ZI l)) (hk:l[k]?=some r) :
   ∃ b o:Nat,p=some ⟨b,o,none⟩∧b<w0.heap.size∧∀ j u,r.vals[j]?=some u→w0.cell? ⟨b,o+k * 4+j,none⟩=some u:=by
 obtain ⟨p',c',e,h1,h2⟩:=h.ex
 simp only [Value.slice.injEq] at e
 obtain ⟨rfl,-,rfl⟩:=e
 have hl:=h.len
 rw [ZR] at hl
 have hkl:=(List.getElem?_eq_some_iff.1 hk).1
 rcases h2 with rfl | ⟨b,o,rfl,hb,hc⟩
 ·omega
 ·exact ⟨b,o,rfl,hb,fun j u hj=>by rw [Nat.add_assoc]; exact hc _ _ (Ze7 l k r hk j u hj)⟩
theorem Rw.at {w0 w:World} {X:Fr} {R:List Win} {S:List OB} {p:Option Addr} {n c k:Nat} {l:List Rng} {r:Rng} (h:Rw w0 X 4 (.slice p n c) n (ZI l)) (hk:l[k]?=some r) (hR:Rep w0 X R S w) :
   ∃ b o:Nat,p=some ⟨b,o,none⟩∧Rep w0 X (⟨b,o+k * 4,[.string r.lo.key,.bool r.lo.top,.string r.hi.key,.bool r.hi.top]⟩::R) S w:=by
 obtain ⟨p',c',e,h1,h2⟩:=h.ex
 simp only [Value.slice.injEq] at e
 obtain ⟨rfl,-,rfl⟩:=e
 have hl:=h.len
 rw [ZR] at hl
 have hkl:=(List.getElem?_eq_some_iff.1 hk).1
 rcases h2 with rfl | ⟨b,o,rfl,hb,hx,hc⟩
 ·omega
 ·exact ⟨b,o,rfl,hR.addwin b (o+k * 4) r.vals hb hx fun j u hj=>by rw [Nat.add_assoc]; exact hc _ _ (Ze7 l k r hk j u hj)⟩
theorem Rw.length {w0:World} {X:Fr} {v:Value} {n:Nat} {l:List Rng} (h:Rw w0 X 4 v n (ZI l)):l.length=n:=by have:=h.len; rw [ZR] at this; omega
end Go.Proofs.YtkcmgbbopedacaaGreatDoor
namespace Go.Proofs.YtkcmgbbopedacaaGreatDoor
open Go.RowKit
def ZbH (im:List Nat) (k:Nat):List Nat→Option Nat→Option Nat
 | [],_=>none
 | i::r,q=>if i == k then q else ZbH im k r (if im.contains i then some i else q)
def Zxv (ops:Array Oper) (n:Nat) (ci im:List Nat) (k:Nat):Bool :=
 match ops[k]? with
 | none=>false
 | some o =>
  (o.after.all fun e=>!Region.binds .any e || decide (ci.idxOf e.on<ci.idxOf k)) &&
  ((List.range n).all fun j=>match ops[j]? with
    | none=>true
    | some oj=>match oj.dst with
     | none=>true
     | some d=>(j == k || o.dst != some d) && (!(o.looksAt ops).contains d || o.after.any fun e=>Region.binds .any e && e.on == j)) &&
  (match ZbH im k ci none with
   | none=>true
   | some q=>o.after.any fun e=>Region.binds .any e && (e.on == q || (!im.contains e.on && ZbH im e.on ci none == some q)))
def Zzc (ops:Array Oper) (n:Nat) (ci im:List Nat):Bool :=
 Region.noSelect ops && decide (n<ops.size) && Region.sinkB .any ops n && Region.chainB .any ops n &&
 Region.seqB .any ops (ops.size - n) n ((Array.range ops.size).map fun i=>decide (i<n)) &&
 ((List.range n).all fun k=>ci.contains k) && (ci.all fun k=>decide (k<n)) && decide ci.Nodup &&
 (List.range n).all fun k=>Zxv ops n ci im k
section
variable {P:Program} {w0:World} {X:Fr} {R:List Win}
def IUp (P:Program) (w0:World) (X:Fr) (R:List Win) (S:List OB) (next:Value→List OB→Prop) (w:World):Result Next→Prop
 | .ok (.value v) w'=>∃ N,Rep w0 X R (N++S) w'∧next v (N++S)
 | .ok (.enter f args) w'=>w'=w∧Calls P f args w (fun e w''=>∃ v N,e=.returned v∧Rep w0 X R (N++S) w''∧next v (N++S))
 | _=>False
def RSt (P:Program) (w0:World) (X:Fr) (R:List Win) (o:Oper) (a:Act) (S:List OB) (next:Act→Prop):Prop:=∃ v,(∀ w,Rep w0 X R S w→(execOp a.eval o).run P w=.ok (.value v) w)∧next (a.put o.dst v)
def ISt (P:Program) (w0:World) (X:Fr) (R:List Win) (o:Oper) (a:Act) (S:List OB) (next:Act→List OB→Prop):Prop:=∀ w,Rep w0 X R S w→IUp P w0 X R S (fun v S'=>next (a.put o.dst v) S') w ((execOp a.eval o).run P w)
def DC (P:Program) (L:Array Oper) (w0:World) (X:Fr) (R:List Win) (im:List Nat) (Qf:Act→List OB→Prop):List Nat→Act→List OB→Prop
 | [],a,S=>Qf a S
 | i::r,a,S=>∃ o,L[i]?=some o∧if Region.wanted o (yielded L a.tmps) then (if im.contains i then ISt P w0 X R o a S (DC P L w0 X R im Qf r) else RSt P w0 X R o a S fun a'=>DC P L w0 X R im Qf r a' S) else DC P L w0 X R im Qf r (a.put o.dst undef) S
def RG (P:Program) (L:Array Oper) (w0:World) (X:Fr) (R:List Win) (S:List OB) (A:Act) (o:Oper) (v:Value):Prop :=
 (Region.wanted o (yielded L A.tmps)=true∧∀ w,Rep w0 X R S w→(execOp A.eval o).run P w=.ok (.value v) w)∨(Region.wanted o (yielded L A.tmps)=false∧v=undef)
theorem RG.of_same {L:Array Oper} {S S':List OB} {A A':Act} {o:Oper} {v:Value} (h:RG P L w0 X R S A o v) (hag:Zek L o A' A) (hs:∀ cs bb,o.op≠.select cs bb) (hS:S.Sublist S'):RG P L w0 X R S' A' o v:=by
 unfold RG at *
 rw [hag.wanted,hag.exec hs]
 rcases h with ⟨h1,h2⟩ | h
 ·exact .inl ⟨h1,fun w hR=>h2 w (hR.sub hS)⟩
 ·exact .inr h
structure Zrt (P:Program) (l:List Oper) (n:Nat) (ci im:List Nat) (w0:World) (X:Fr) (R:List Win) (Qf:Act→List OB→Prop) (pre rest:List Nat) (A:Act) (S:List OB) (listed:Array Bool) (b:Act) (w:World):Prop where
 hi:HeadInv .any l.toArray n listed
 eq:ci=pre++rest
 hd:∀ i r,rest=i::r→im.contains i=true
 dc:DC P l.toArray w0 X R im Qf rest A S
 done:∀ k,k<n→listed.getD k false=true→k ∈ pre
 imp:∀ k ∈ pre,im.contains k=true→listed.getD k false=true
 size:b.tmps.size=A.tmps.size
 defers:b.defers=A.defers
 rep:Rep w0 X R S w
 un:∀ t,(∀ (k:Nat) (o:Oper),k<n→l[k]?=some o→o.dst≠some t)→b.tmps[t]?=A.tmps[t]?
 got:∀ (k:Nat) (o:Oper),k ∈ pre→l[k]?=some o→listed.getD k false=true→∀ d,o.dst=some d→b.tmps[d]?=A.tmps[d]?
 rd:∀ (k:Nat) (o:Oper),k ∈ pre→l[k]?=some o→im.contains k=false→∃ v,RG P l.toArray w0 X R S A o v∧∀ d,o.dst=some d→A.tmps[d]?=if d<A.tmps.size then some v else none
structure OkF (l:List Oper) (n:Nat) (ci im:List Nat):Prop where
 ns:Region.noSelect l.toArray=true
 mem:∀ k,k<n→k ∈ ci
 lt:∀ k ∈ ci,k<n
 nd:ci.Nodup
 ok:∀ k,k<n→Zxv l.toArray n ci im k=true
theorem Zbx {ops:Array Oper} {n k:Nat} {ci im:List Nat} (h:Zxv ops n ci im k=true):∃ o,ops[k]?=some o ∧
   (∀ e ∈ o.after,Region.binds .any e=true→ci.idxOf e.on<ci.idxOf k) ∧
   (∀ j oj,j<n→ops[j]?=some oj→∀ d,oj.dst=some d→(j≠k→o.dst≠some d)∧(d ∈ o.looksAt ops→∃ e ∈ o.after,Region.binds .any e=true∧e.on=j)) ∧
   (∀ q,ZbH im k ci none=some q→∃ e ∈ o.after,Region.binds .any e=true∧(e.on=q∨(im.contains e.on=false∧ZbH im e.on ci none=some q))):=by
 unfold Zxv at h
 cases ho:ops[k]? with
 | none=>simp [ho] at h
 | some o =>
  simp only [ho,Bool.and_eq_true] at h
  obtain ⟨⟨h1,h2⟩,h3⟩:=h
  refine ⟨o,rfl,fun e he hb=>?_,fun j oj hj hoj d hd=>?_,fun q hq=>?_⟩
  ·have:=Array.all_eq_true_iff_forall_mem.1 h1 e he
   simpa [hb] using this
  ·have:=List.all_eq_true.1 h2 j (List.mem_range.2 hj)
   simp only [hoj,hd,Bool.and_eq_true,Bool.or_eq_true,beq_iff_eq,bne_iff_ne,Bool.not_eq_true'] at this
   refine ⟨fun hne=>this.1.resolve_left hne,fun hm=>?_⟩
   rcases this.2 with h | h
   ·simp [hm] at h
   ·obtain ⟨e,he,hb⟩:=Array.any_eq_true'.1 h
    simp only [Bool.and_eq_true,beq_iff_eq] at hb
    exact ⟨e,he,hb.1,hb.2⟩
  ·simp only [hq] at h3
   obtain ⟨e,he,hb⟩:=Array.any_eq_true'.1 h3
   simp only [Bool.and_eq_true,Bool.or_eq_true,beq_iff_eq,Bool.not_eq_true'] at hb
   exact ⟨e,he,hb.1,hb.2⟩
theorem Zqr {l:List Oper} {n:Nat} {ci im:List Nat} (hk:OkF l n ci im) {listed:Array Bool} (hi:HeadInv .any l.toArray n listed) :
   ∀ (p k:Nat),ci.idxOf k=p→k<n→(∀ o,l[k]?=some o→∀ e ∈ o.after,Region.binds .any e=true→listed.getD e.on false=true)→∀ q,ZbH im k ci none=some q→listed.getD q false=true:=by
 intro p
 induction p using Nat.strongRecOn with
 | _ p ih =>
  intro k hp hkn hdep q hq
  obtain ⟨o,ho,h1,h2,h3⟩:=Zbx (hk.ok k hkn)
  obtain ⟨e,he,hb,hor⟩:=h3 q hq
  have hl:=hdep o (by simpa using ho) e he hb
  rcases hor with rfl | ⟨-,hq'⟩
  ·exact hl
  ·have hlt:=h1 e he hb
   have hen:e.on<n:=by
    have:e.on ∈ ci:=by
     apply Classical.byContradiction
     intro hno
     have h5:ci.idxOf e.on=ci.length:=List.idxOf_eq_length hno
     have h6:=List.idxOf_lt_length_of_mem (hk.mem k hkn)
     omega
    exact hk.lt _ this
   refine ih (ci.idxOf e.on) (by omega) e.on rfl hen (fun o' ho' e' he' hb'=>?_) q hq'
   exact hi.closed e.on o' (by simpa using ho') hl e' he' hb'
theorem Zll {im:List Nat} {k:Nat}:∀ (ci:List Nat) (q0:Option Nat),k ∈ ci→∀ (pre rest:List Nat),ci=pre++rest→k ∉ pre→(∀ i r,rest=i::r→im.contains i=true)→(∀ i r,rest=i::r→k≠i)→∃ q,ZbH im k ci q0=some q∧q ∈ rest:=by
 intro ci
 induction ci with
 | nil=>intro _ h; cases h
 | cons x ci ih =>
  intro q0 hk pre rest he hkp hh hne
  cases pre with
  | nil =>
   simp only [List.nil_append] at he
   subst he
   have hx:=hne x ci rfl
   have hkc:k ∈ ci:=by rcases List.mem_cons.1 hk with rfl | h; exact absurd rfl hx; exact h
   have hx':(x == k)=false:=by simpa using fun e=>hx (Eq.symm e)
   have him:=hh x ci rfl
   rw [ZbH,hx',him]
   simp only [Bool.false_eq_true,if_false,if_true]
   -- from here on: some maker of the rest
   have gen:∀ (c:List Nat) (q:Nat),k ∈ c→∃ q',ZbH im k c (some q)=some q'∧(q'=q∨q' ∈ c):=by
    intro c
    induction c with
    | nil=>intro q h; cases h
    | cons y c ihc =>
     intro q h
     by_cases hyk:y=k
     ·subst hyk; exact ⟨q,by simp [ZbH],.inl rfl⟩
     ·have hkc':k ∈ c:=by rcases List.mem_cons.1 h with rfl | h; exact absurd rfl hyk; exact h
      have hy':(y == k)=false:=by simpa using hyk
      rw [ZbH,hy']
      simp only [Bool.false_eq_true,if_false]
      by_cases hy:im.contains y=true
      ·rw [if_pos hy]
       obtain ⟨q',h1,h2⟩:=ihc y hkc'
       exact ⟨q',h1,by rcases h2 with rfl | h2; exact .inr List.mem_cons_self; exact .inr (List.mem_cons_of_mem _ h2)⟩
      ·rw [if_neg hy]
       obtain ⟨q',h1,h2⟩:=ihc q hkc'
       exact ⟨q',h1,by rcases h2 with rfl | h2; exact .inl rfl; exact .inr (List.mem_cons_of_mem _ h2)⟩
   obtain ⟨q',h1,h2⟩:=gen ci x hkc
   exact ⟨q',h1,by rcases h2 with rfl | h2; exact List.mem_cons_self; exact List.mem_cons_of_mem _ h2⟩
  | cons y pre =>
   simp only [List.cons_append,List.cons.injEq] at he
   obtain ⟨rfl,rfl⟩:=he
   have hx:x≠k:=fun e=>hkp (e ▸ List.mem_cons_self)
   have hx':(x == k)=false:=by simpa using hx
   rw [ZbH,hx']
   simp only [Bool.false_eq_true,if_false]
   exact ih _ (by rcases List.mem_cons.1 hk with rfl | h; exact absurd rfl hx; exact h) pre rest rfl (fun h=>hkp (List.mem_cons_of_mem _ h)) hh hne
theorem seg {l:List Oper} {n:Nat} {ci im:List Nat} {Qf:Act→List OB→Prop} (hk:OkF l n ci im) {S:List OB} :
   ∀ (r pre:List Nat) (A:Act),ci=pre++r→DC P l.toArray w0 X R im Qf r A S →
    (∀ (k:Nat) (o:Oper),k ∈ pre→l[k]?=some o→im.contains k=false→∃ v,RG P l.toArray w0 X R S A o v∧∀ d,o.dst=some d→A.tmps[d]?=if d<A.tmps.size then some v else none) →
    ∃ sg rest A',r=sg++rest∧(∀ k ∈ sg,im.contains k=false)∧(∀ i q,rest=i::q→im.contains i=true)∧DC P l.toArray w0 X R im Qf rest A' S∧A'.tmps.size=A.tmps.size∧A'.defers=A.defers ∧
     (∀ t,(∀ (k:Nat) (o:Oper),k ∈ sg→l[k]?=some o→o.dst≠some t)→A'.tmps[t]?=A.tmps[t]?) ∧
     (∀ (k:Nat) (o:Oper),k ∈ pre++sg→l[k]?=some o→im.contains k=false→∃ v,RG P l.toArray w0 X R S A' o v∧∀ d,o.dst=some d→A'.tmps[d]?=if d<A'.tmps.size then some v else none)
 | [],pre,A,_,hd,hr=>⟨[],[],A,rfl,by simp,by simp,hd,rfl,rfl,fun _ _=>rfl,by simpa using hr⟩
 | i::r,pre,A,he,hd,hr=>by
  by_cases him:im.contains i=true
  ·exact ⟨[],i::r,A,rfl,by simp,by intro j q hj; simp only [List.cons.injEq] at hj; obtain ⟨rfl,-⟩:=hj; exact him,hd,rfl,rfl,fun _ _=>rfl,by simpa using hr⟩
  ·have himf:im.contains i=false:=by simpa using him
   obtain ⟨o,ho,hd⟩:=hd
   have hin:i<n:=hk.lt i (by rw [he]; simp)
   obtain ⟨o',ho',h1,h2,-⟩:=Zbx (hk.ok i hin)
   obtain rfl:o=o':=Option.some.inj (ho.symm.trans ho')
   have hsel:∀ cs bb,o.op≠.select cs bb:=fun cs bb=>Region.noSelect_spec hk.ns i o cs bb ho
   have hself:∀ d,o.dst=some d→d ∉ o.looksAt l.toArray:=fun d hd' hm=>by
    obtain ⟨e,he',hb,hon⟩:=(h2 i o hin ho d hd').2 hm
    have:=h1 e he' hb; rw [hon] at this; omega
   have hst:∃ v,RG P l.toArray w0 X R S A o v∧DC P l.toArray w0 X R im Qf r (A.put o.dst v) S:=by
    by_cases hw:Region.wanted o (yielded l.toArray A.tmps)=true
    ·rw [if_pos hw,if_neg him] at hd
     obtain ⟨v,hv,hn⟩:=hd
     exact ⟨v,.inl ⟨hw,hv⟩,hn⟩
    ·rw [if_neg hw] at hd
     exact ⟨undef,.inr ⟨by simpa using hw,rfl⟩,hd⟩
   obtain ⟨v,hg,hn⟩:=hst
   have hipre:i ∉ pre:=by
    have:=hk.nd; rw [he] at this
    exact fun hm=>(List.nodup_append.1 this).2.2 i hm i List.mem_cons_self rfl
   -- what earlier readers look at is not written here
   have keep:∀ (k:Nat) (ok:Oper),k ∈ pre→l[k]?=some ok→(∀ d,o.dst=some d→d ∉ ok.looksAt l.toArray)∧(∀ d,ok.dst=some d→o.dst≠some d):=by
    intro k ok hkp hok
    have hkn:k<n:=hk.lt k (by rw [he]; simp [hkp])
    obtain ⟨ok',hok',g1,g2,-⟩:=Zbx (hk.ok k hkn)
    obtain rfl:ok=ok':=Option.some.inj ((by simpa using hok:l.toArray[k]?=some ok).symm.trans hok')
    refine ⟨fun d hd' hm=>?_,fun d hd' e=>?_⟩
    ·obtain ⟨e,he',hb,hon⟩:=(g2 i o hin ho d hd').2 hm
     have:=g1 e he' hb; rw [hon] at this
     -- i comes ahead of k, but k stands in pre
     have hk1:ci.idxOf k<pre.length:=by rw [he,List.idxOf_append,if_pos hkp]; exact List.idxOf_lt_length_of_mem hkp
     have hi1:pre.length≤ci.idxOf i:=by rw [he,List.idxOf_append,if_neg hipre]; omega
     omega
    ·exact (g2 i o hin ho d e).1 (fun e2=>hipre (e2 ▸ hkp)) hd'
   have hag:∀ (ok:Oper),(∀ d,o.dst=some d→d ∉ ok.looksAt l.toArray)→Zek l.toArray ok (A.put o.dst v) A:=fun ok hok t ht=>Zz A o.dst v t fun e=>hok t e ht
   obtain ⟨sg,rest,A',rfl,e1,e2,e3,e4,e5,e6,e7⟩:=seg hk r (pre++[i]) (A.put o.dst v) (by simp [he]) hn (fun k ok hkp hok hki=>by
    rcases List.mem_append.1 hkp with hkp | hkp
    ·obtain ⟨u,hu,hud⟩:=hr k ok hkp hok hki
     have hkk:=keep k ok hkp hok
     exact ⟨u,hu.of_same (hag ok hkk.1) (fun cs bb=>Region.noSelect_spec hk.ns k ok cs bb (by simpa using hok)) (List.Sublist.refl _),fun d hd'=>by
      rw [Zz A o.dst v d (hkk.2 d hd'),XY]; exact hud d hd'⟩
    ·obtain rfl:k=i:=by simpa using hkp
     obtain rfl:o=ok:=Option.some.inj ((by simpa using ho:l[k]?=some o).symm.trans hok)
     exact ⟨v,hg.of_same (hag o hself) hsel (List.Sublist.refl _),fun d hd'=>by rw [hd',Zbl,Act.put]; simp⟩)
   refine ⟨i::sg,rest,A',rfl,fun k hkm=>?_,e2,e3,by rw [e4,XY],by rw [e5,put_defers],fun t ht=>?_,fun k ok hkm=>?_⟩
   ·rcases List.mem_cons.1 hkm with rfl | hkm
    ·exact himf
    ·exact e1 k hkm
   ·rw [e6 t fun k ok hkm=>ht k ok (List.mem_cons_of_mem _ hkm)]
    exact Zz A o.dst v t (ht i o List.mem_cons_self (by simpa using ho))
   ·exact e7 k ok (by simpa using hkm)
section
variable {l:List Oper} {n:Nat} {ci im:List Nat} {Qf:Act→List OB→Prop} {Q:Exit→Act→World→Prop} {pre rest:List Nat} {A:Act} {S:List OB} {listed:Array Bool} {b:Act} {w:World}
theorem Zrt.agrees (hk:OkF l n ci im) (inv:Zrt P l n ci im w0 X R Qf pre rest A S listed b w) {i:Nat} {o:Oper} (hin:i<n) (ho:l[i]?=some o) (hdep:∀ e ∈ o.after,Region.binds .any e=true→listed.getD e.on false=true):Zek l.toArray o b A:=by
 intro t ht
 obtain ⟨o',ho',h1,h2,-⟩:=Zbx (hk.ok i hin)
 obtain rfl:o=o':=Option.some.inj ((by simpa using ho:l.toArray[i]?=some o).symm.trans ho')
 by_cases hex:∃ (k:Nat) (o':Oper),k<n∧l[k]?=some o'∧o'.dst=some t
 ·obtain ⟨k,o',hkn,hko,hkd⟩:=hex
  obtain ⟨e,he,hb,hon⟩:=(h2 k o' hkn (by simpa using hko) t hkd).2 ht
  have hl:=hdep e he hb
  rw [hon] at hl
  exact inv.got k o' (inv.done k hkn hl) hko hl t hkd
 ·exact inv.un t fun k o' hkn hko hkd=>hex ⟨k,o',hkn,hko,hkd⟩
theorem Zrt.step (hk:OkF l n ci im) (inv:Zrt P l n ci im w0 X R Qf pre rest A S listed b w) {i:Nat} (hi:i ∈ Region.ready .any l.toArray listed) (hin:i<n) :
   wpOp P l.toArray Q i (fun b' w'=>∃ pre rest A S,Zrt P l n ci im w0 X R Qf pre rest A S (listed.setIfInBounds i true) b' w') b w:=by
 obtain ⟨hun,o,ho,hdep⟩:=mem_ready.1 hi
 have ho':l[i]?=some o:=by simpa using ho
 have hag:=inv.agrees hk hin ho' hdep
 have hsel:∀ cs bb,o.op≠.select cs bb:=fun cs bb=>Region.noSelect_spec hk.ns i o cs bb ho
 have hil:i<listed.size:=by rw [inv.hi.size]; exact (Array.getElem?_eq_some_iff.1 ho).1
 have hself:(listed.setIfInBounds i true).getD i false=true:=by simp [Array.getD,hil]
 obtain ⟨o2,ho2,h1,h2,-⟩:=Zbx (hk.ok i hin)
 obtain rfl:o=o2:=Option.some.inj (ho.symm.trans ho2)
 have hne:∀ (k:Nat) (ok:Oper),k<n→l[k]?=some ok→k≠i→∀ d,ok.dst=some d→o.dst≠some d:=fun k ok hkn hok hki d hd=>(h2 k ok hkn (by simpa using hok) d hd).1 hki
 by_cases hip:i ∈ pre
 ·-- a reader of what has been passed
  have himf:im.contains i=false:=by
   cases e:im.contains i with
   | false=>rfl
   | true=>have:=inv.imp i hip e; rw [getD_both hun] at this; cases this
  obtain ⟨v,hg,hA⟩:=inv.rd i o hip ho' himf
  have hg':=hg.of_same hag hsel (List.Sublist.refl _)
  have fin:∃ pre rest A S,Zrt P l n ci im w0 X R Qf pre rest A S (listed.setIfInBounds i true) (b.put o.dst v) w:=by
   refine ⟨pre,rest,A,S,inv.hi.set hi hin,inv.eq,inv.hd,inv.dc,fun k hkn hkl=>?_,fun k hkp hki=>getD_set_true (inv.imp k hkp hki),by rw [XY]; exact inv.size,by rw [put_defers]; exact inv.defers,inv.rep,fun t ht=>?_,fun k ok hkp hok hkl d hd=>?_,inv.rd⟩
   ·by_cases hki:k=i
    ·subst hki; exact hip
    ·exact inv.done k hkn (ZY hkl (Ne.symm hki))
   ·rw [Zz b o.dst v t (ht i o hin ho')]; exact inv.un t ht
   ·by_cases hki:k=i
    ·subst hki
     obtain rfl:ok=o:=Option.some.inj (hok.symm.trans ho')
     rw [hd,Zbl,hA d hd,inv.size]
    ·rw [Zz b o.dst v d (hne k ok (hk.lt k (by rw [inv.eq]; simp [hkp])) hok hki d hd)]
     exact inv.got k ok hkp hok (ZY hkl (Ne.symm hki)) d hd
  unfold wpOp
  simp only [ho]
  rcases hg' with ⟨hw,hv⟩ | ⟨hw,rfl⟩
  ·simp only [hw,if_true]
   refine .inl ?_
   unfold Oper.wp
   rw [hv w inv.rep]
   exact fin
  ·simp only [hw,Bool.false_eq_true,if_false]
   exact fin
 ·-- the next maker
  have hirest:i ∈ rest:=by
   have:=hk.mem i hin; rw [inv.eq] at this
   exact (List.mem_append.1 this).resolve_left hip
  obtain ⟨i0,r,hr⟩:∃ i0 r,rest=i0::r:=by cases rest with | nil=>cases hirest | cons x y=>exact ⟨x,y,rfl⟩
  subst hr
  have hi0:i=i0:=by
   apply Classical.byContradiction
   intro hne0
   obtain ⟨q,hq,hqr⟩:=Zll ci none (hk.mem i hin) pre (i0::r) inv.eq hip inv.hd (fun j s hj=>by simp only [List.cons.injEq] at hj; rw [← hj.1]; exact hne0)
   have hql:=Zqr hk inv.hi _ i rfl hin (fun o' hoo e he hb=>by obtain rfl:o'=o:=Option.some.inj (hoo.symm.trans ho'); exact hdep e he hb) q hq
   have hqp:=inv.done q (hk.lt q (by rw [inv.eq]; exact List.mem_append_right _ hqr)) hql
   have:=hk.nd; rw [inv.eq] at this
   exact (List.nodup_append.1 this).2.2 q hqp q hqr rfl
  subst hi0
  have him:=inv.hd i r rfl
  obtain ⟨o3,ho3,hd⟩:=inv.dc
  obtain rfl:o=o3:=Option.some.inj (ho.symm.trans ho3)
  -- behind it
  have later:∀ (v:Value) (N:List OB) (w':World),Rep w0 X R (N++S) w'→DC P l.toArray w0 X R im Qf r (A.put o.dst v) (N++S)→∃ pre rest A S,Zrt P l n ci im w0 X R Qf pre rest A S (listed.setIfInBounds i true) (b.put o.dst v) w':=by
   intro v N w' hR hD
   have hci:ci=(pre++[i])++r:=by rw [inv.eq]; simp
   have keep:∀ (k:Nat) (ok:Oper),k ∈ pre→l[k]?=some ok→(∀ d,o.dst=some d→d ∉ ok.looksAt l.toArray)∧(∀ d,ok.dst=some d→o.dst≠some d):=by
    intro k ok hkp hok
    have hkn:k<n:=hk.lt k (by rw [inv.eq]; simp [hkp])
    obtain ⟨ok',hok',g1,g2,-⟩:=Zbx (hk.ok k hkn)
    obtain rfl:ok=ok':=Option.some.inj ((by simpa using hok:l.toArray[k]?=some ok).symm.trans hok')
    refine ⟨fun d hd' hm=>?_,fun d hd' e=>?_⟩
    ·obtain ⟨e,he',hb,hon⟩:=(g2 i o hin ho d hd').2 hm
     have:=g1 e he' hb; rw [hon] at this
     have hk1:ci.idxOf k<pre.length:=by rw [inv.eq,List.idxOf_append,if_pos hkp]; exact List.idxOf_lt_length_of_mem hkp
     have hi1:pre.length≤ci.idxOf i:=by rw [inv.eq,List.idxOf_append,if_neg hip]; omega
     omega
    ·exact (g2 i o hin ho d e).1 (fun e2=>hip (e2 ▸ hkp)) hd'
   obtain ⟨sg,rest,A',rfl,e1,e2,e3,e4,e5,e6,e7⟩:=seg (Qf:=Qf) hk r (pre++[i]) (A.put o.dst v) hci hD (fun k ok hkp hok hki=>by
    rcases List.mem_append.1 hkp with hkp | hkp
    ·obtain ⟨u,hu,hud⟩:=inv.rd k ok hkp hok hki
     have hkk:=keep k ok hkp hok
     exact ⟨u,hu.of_same (fun t ht=>Zz A o.dst v t fun e=>hkk.1 t e ht) (fun cs bb=>Region.noSelect_spec hk.ns k ok cs bb (by simpa using hok)) (List.sublist_append_right _ _),fun d hd'=>by
      rw [Zz A o.dst v d (hkk.2 d hd'),XY]; exact hud d hd'⟩
    ·obtain rfl:k=i:=by simpa using hkp
     rw [him] at hki; cases hki)
   have hnd:=hk.nd
   have hsgn:∀ k ∈ sg,k<n:=fun k hkm=>hk.lt k (by rw [hci]; simp [hkm])
   have hsgd:∀ k ∈ sg,listed.getD k false=true→False:=fun k hkm hl=>by
    have h5:=inv.done k (hsgn k hkm) hl
    rw [hci] at hnd
    exact (List.nodup_append.1 hnd).2.2 k (by simp [h5]) k (by simp [hkm]) rfl
   have hisg:i ∉ sg:=fun hm=>by
    rw [hci] at hnd
    exact (List.nodup_append.1 hnd).2.2 i (by simp) i (by simp [hm]) rfl
   refine ⟨pre++[i]++sg,rest,A',N++S,inv.hi.set hi hin,by rw [hci]; simp,e2,e3,fun k hkn hkl=>?_,fun k hkp hki=>?_,by rw [XY,e4,XY]; exact inv.size,by rw [put_defers,e5,put_defers]; exact inv.defers,hR,fun t ht=>?_,fun k ok hkp hok hkl d hd'=>?_,e7⟩
   ·by_cases hki:k=i
    ·subst hki; simp
    ·have:=inv.done k hkn (ZY hkl (Ne.symm hki)); simp [this]
   ·rcases List.mem_append.1 hkp with hkp | hkp
    ·rcases List.mem_append.1 hkp with hkp | hkp
     ·exact getD_set_true (inv.imp k hkp hki)
     ·obtain rfl:k=i:=by simpa using hkp
      exact hself
    ·rw [e1 k hkp] at hki; cases hki
   ·rw [Zz b o.dst v t (ht i o hin ho'),e6 t (fun k ok hkm hok=>ht k ok (hsgn k hkm) hok),Zz A o.dst v t (ht i o hin ho')]
    exact inv.un t ht
   ·have hkn:k<n:=hk.lt k (by rw [hci]; rcases List.mem_append.1 hkp with h5 | h5; exact List.mem_append_left _ h5; simp [h5])
    have hnsg:k ∉ sg:=fun hm=>by
     by_cases hki:k=i
     ·subst hki; exact hisg hm
     ·exact hsgd k hm (ZY hkl (Ne.symm hki))
    rw [e6 d (fun k2 ok2 hkm2 hok2 e=>by
     obtain ⟨ok',hok',g1,g2,-⟩:=Zbx (hk.ok k2 (hsgn k2 hkm2))
     obtain rfl:ok2=ok':=Option.some.inj ((by simpa using hok2:l.toArray[k2]?=some ok2).symm.trans hok')
     exact (g2 k ok hkn (by simpa using hok) d hd').1 (fun e2=>hnsg (e2 ▸ hkm2)) e)]
    by_cases hki:k=i
    ·subst hki
     obtain rfl:ok=o:=Option.some.inj (hok.symm.trans ho')
     rw [hd',Zbl,Zbl,inv.size]
    ·have hkp':k ∈ pre:=by
       rcases List.mem_append.1 hkp with hkp | hkp
       ·rcases List.mem_append.1 hkp with hkp | hkp
        ·exact hkp
        ·exact absurd (by simpa using hkp) hki
       ·exact absurd hkp hnsg
     rw [Zz b o.dst v d (hne k ok hkn hok hki d hd'),Zz A o.dst v d (hne k ok hkn hok hki d hd')]
     exact inv.got k ok hkp' hok (ZY hkl (Ne.symm hki)) d hd'
  unfold wpOp
  simp only [ho]
  rw [hag.wanted]
  by_cases hw:Region.wanted o (yielded l.toArray A.tmps)=true
  ·rw [if_pos hw,if_pos him] at hd
   simp only [hw,if_true]
   refine .inl ?_
   have h5:=hd w inv.rep
   unfold Oper.wp
   rw [hag.exec hsel]
   generalize (execOp A.eval o).run P w=res at h5 ⊢
   cases res with
   | ok nx w' =>
    cases nx <;> simp only [IUp] at h5 <;> simp only [Oper.upon]
    case value v=>obtain ⟨N,h6,h7⟩:=h5; exact later v N w' h6 h7
    case enter f args =>
     obtain ⟨rfl,hc⟩:=h5
     exact hc.mono fun e w'' ⟨v,N,he,h6,h7⟩=>by subst he; exact later v N w'' h6 h7
   | halt x w'=>simp only [IUp] at h5
  ·rw [if_neg hw] at hd
   simp only [hw,Bool.false_eq_true,if_false]
   exact later undef [] w inv.rep hd
theorem Zo6 (hn:n<l.toArray.size) (hs:Region.sinkB .any l.toArray n=true) (hc:Region.chainB .any l.toArray n=true)
   (hq:Region.seqB .any l.toArray (l.toArray.size - n) n ((Array.range l.toArray.size).map fun i=>decide (i<n))=true) (hk:OkF l n ci im)
   (hQ:∀ A S w,Qf A S→Rep w0 X R S w→wpList P l.toArray Q (l.drop n) A w) :
   ∀ (m:Nat) (listed:Array Bool) (b:Act) (w:World),leftOf n listed=m→(∃ pre rest A S,Zrt P l n ci im w0 X R Qf pre rest A S listed b w)→wpAny P .any l.toArray Q (m+(l.toArray.size - n)) listed b w
 | 0,listed,b,w,hm,⟨pre,rest,A,S,inv⟩=>by
  have hall:=Zg9 hm
  have e:=Zqe inv.hi hm
  subst e
  have hrest:rest=[]:=by
   cases rest with
   | nil=>rfl
   | cons i r =>
    have hin:i<n:=hk.lt i (by rw [inv.eq]; simp)
    have h5:=inv.done i hin (hall i hin)
    have:=hk.nd; rw [inv.eq] at this
    exact absurd rfl ((List.nodup_append.1 this).2.2 i h5 i List.mem_cons_self)
  subst hrest
  have hb:b=A:=ZuK inv.size inv.defers fun t=>by
   by_cases hex:∃ (k:Nat) (o':Oper),k<n∧l[k]?=some o'∧o'.dst=some t
   ·obtain ⟨k,o',hkn,hko,hkd⟩:=hex
    exact inv.got k o' (inv.done k hkn (hall k hkn)) hko (hall k hkn) t hkd
   ·exact inv.un t fun k o' hkn hko hkd=>hex ⟨k,o',hkn,hko,hkd⟩
  subst hb
  have hdl:(l.drop n).length=l.toArray.size - n:=by simp
  have:=wpAny_of_seq (md:=.any) (Q':=Q) (l.drop n) n _ b w (fun j=>by simp [List.getElem?_drop]) (by rw [hdl]; exact hq) (hQ b S w inv.dc inv.rep)
  rw [hdl] at this
  rw [Nat.zero_add]
  exact this
 | m+1,listed,b,w,hm,⟨pre,rest,A,S,inv⟩=>by
  -- some operation of the head is ready: the first of the order ci that is not done
  have hex:∃ k,k<n∧listed.getD k false=false:=by
   obtain ⟨k,hkn,hkf,-⟩:=Zny (n:=n) (listed:=listed) (by omega)
   exact ⟨k,hkn,hkf⟩
  obtain ⟨k,hkn,hkf,hkr⟩:∃ k,k<n∧listed.getD k false=false∧k ∈ Region.ready .any l.toArray listed:=by
   obtain ⟨k,hkn,hkf⟩:=hex
   generalize hp:ci.idxOf k=p
   induction p using Nat.strongRecOn generalizing k with
   | _ p ih =>
    obtain ⟨o,ho,h1,-,-⟩:=Zbx (hk.ok k hkn)
    by_cases hall:∀ e ∈ o.after,Region.binds .any e=true→listed.getD e.on false=true
    ·exact ⟨k,hkn,hkf,mem_ready.2 ⟨getD_in (by rw [inv.hi.size]; omega) hkf,o,ho,hall⟩⟩
    ·have:∃ e,e ∈ o.after∧Region.binds .any e=true∧listed.getD e.on false=false:=by
       apply Classical.byContradiction
       intro hno
       apply hall
       intro e he hb
       cases e':listed.getD e.on false with
       | true=>rfl
       | false=>exact absurd ⟨e,he,hb,e'⟩ hno
     obtain ⟨e,he,hb,hef⟩:=this
     have hlt:=h1 e he hb
     have hen:e.on<n:=by
      have:e.on ∈ ci:=by
       apply Classical.byContradiction
       intro hno
       have h5:ci.idxOf e.on=ci.length:=List.idxOf_eq_length hno
       have h6:=List.idxOf_lt_length_of_mem (hk.mem k hkn)
       omega
      exact hk.lt _ this
     exact ih (ci.idxOf e.on) (by omega) e.on hen hef rfl
  have hksz:k<listed.size:=by rw [inv.hi.size]; omega
  rw [show m+1+(l.toArray.size - n)=(m+(l.toArray.size - n))+1 by omega]
  refine ⟨fun h0=>(by rw [h0] at hkr; cases hkr),fun i hi=>?_⟩
  have hin:i<n:=by
   rcases Nat.lt_or_ge i n with h | h
   ·exact h
   ·exact absurd hi (tail_waits hs hc hn inv.hi _ k rfl hkn (getD_in hksz hkf) i h)
  have hun:=(mem_ready.1 hi).1
  refine wpOp_mono (fun b' w' inv'=>Zo6 hn hs hc hq hk hQ m _ b' w' ?_ inv') (inv.step hk hi hin)
  have:=Znh (n:=n) hin (by rw [inv.hi.size]; omega) (getD_both hun)
  omega
theorem YJ {id:Nat} {a:Act} (n:Nat) (ci im:List Nat) (hR:Rep w0 X R S w) (hm:P.follows .mixedOrders=true) (hchk:Zzc l.toArray n ci im=true)
   (h:DC P l.toArray w0 X R im (fun A S=>∀ w,Rep w0 X R S w→wpList P l.toArray Q (l.drop n) A w) ci a S):(Code.region id l.toArray true).wp P Q a w:=by
 simp only [Zzc,Bool.and_eq_true,decide_eq_true_eq] at hchk
 obtain ⟨⟨⟨⟨⟨⟨⟨⟨hns,hn⟩,hs⟩,hc⟩,hq⟩,h1⟩,h2⟩,h3⟩,h4⟩:=hchk
 have hk:OkF l n ci im:=⟨hns,fun k hkn=>by simpa using List.all_eq_true.1 h1 k (List.mem_range.2 hkn),fun k hkm=>by simpa using List.all_eq_true.1 h2 k hkm,h3,fun k hkn=>List.all_eq_true.1 h4 k (List.mem_range.2 hkn)⟩
 refine wp_region_any hm ?_
 obtain ⟨sg,rest,A',e0,e1,e2,e3,e4,e5,e6,e7⟩:=seg hk ci [] a rfl h (fun k o hkm=>by cases hkm)
 have hsgn:∀ k ∈ sg,k<n:=fun k hkm=>hk.lt k (by rw [e0]; simp [hkm])
 have inv0:Zrt P l n ci im w0 X R (fun A S=>∀ w,Rep w0 X R S w→wpList P l.toArray Q (l.drop n) A w) sg rest A' S (Array.replicate l.toArray.size false) a { w with drawn:=w.drawn+1 } :=
  ⟨⟨by simp,fun j oj _ hl=>(by rw [getD_replicate_false] at hl; cases hl),fun t _ ht=>getD_in (by simpa using ht) (getD_replicate_false _ _)⟩,
    e0,e2,e3,fun k _ hl=>(by rw [getD_replicate_false] at hl; cases hl),fun k hkm hki=>(by rw [e1 k hkm] at hki; cases hki),e4.symm,e5.symm,hR.kp0 ((Kp.refl _ _).drew),fun t ht=>(e6 t fun k o hkm hok=>ht k o (hsgn k hkm) hok).symm,
    fun k o _ _ hl=>(by rw [getD_replicate_false] at hl; cases hl),by simpa using e7⟩
 have hleft:leftOf n (Array.replicate l.toArray.size false)=n:=by
  unfold leftOf
  rw [List.filter_eq_self.2 (fun k _=>by rw [getD_replicate_false]; rfl),List.length_range]
 have:=Zo6 hn hs hc hq hk (fun A S w hA hR=>hA w hR) n _ a _ hleft ⟨sg,rest,A',S,inv0⟩
 rw [show n+(l.toArray.size - n)=l.toArray.size by omega] at this
 exact this
end
end
attribute [irreducible] DC
end Go.Proofs.YtkcmgbbopedacaaGreatDoor
namespace Go.Proofs.YtkcmgbbopedacaaGreatDoor
open Go.RowKit
attribute [local semireducible] DC
def nth:List Oper→Nat→Option Oper
 | [],_=>none
 | x::_,0=>some x
 | _::l,n+1=>nth l n
theorem ZgI {o:Oper}:∀ {l:List Oper} {i:Nat},nth l i=some o→l.toArray[i]?=some o
 | x::l,0,h=>by simpa [nth] using h
 | x::l,i+1,h=>by have:=ZgI (l:=l) (i:=i) (by simpa [nth] using h); simpa using this
section
variable {P:Program} {l:List Oper} {w0:World} {X:Fr} {R:List Win} {im:List Nat} {Qf:Act→List OB→Prop} {i:Nat} {r:List Nat} {a a':Act} {S:List OB} {o:Oper}
theorem Zcg (h:Qf a S):DC P l.toArray w0 X R im Qf [] a S:=h
theorem Zup (ho:nth l i=some o) (hw:Region.wanted o (yielded l.toArray a.tmps)=false) (ha:a.put o.dst undef=a') (h:DC P l.toArray w0 X R im Qf r a' S):DC P l.toArray w0 X R im Qf (i::r) a S :=
 ⟨o,ZgI ho,by rw [hw]; subst ha; exact h⟩
theorem ZfA {v:Value} (ho:nth l i=some o) (hi:im.contains i=false) (hw:Region.wanted o (yielded l.toArray a.tmps)=true) (hv:∀ w,Rep w0 X R S w→(execOp a.eval o).run P w=.ok (.value v) w) (ha:a.put o.dst v=a') (h:DC P l.toArray w0 X R im Qf r a' S) :
 DC P l.toArray w0 X R im Qf (i::r) a S:=⟨o,ZgI ho,by rw [hw,if_pos rfl,hi]; subst ha; exact ⟨v,hv,h⟩⟩
theorem ZgE {v:Value} (ho:nth l i=some o) (hi:im.contains i=false) (hw:Region.wanted o (yielded l.toArray a.tmps)=true) (hv:∀ w,(execOp a.eval o).run P w=.ok (.value v) w) (ha:a.put o.dst v=a') (h:DC P l.toArray w0 X R im Qf r a' S) :
 DC P l.toArray w0 X R im Qf (i::r) a S:=ZfA ho hi hw (fun w _=>hv w) ha h
theorem Zsg {v:Value} (ho:nth l i=some o) (hi:im.contains i=false) (hw:Region.wanted o (yielded l.toArray a.tmps)=true) (hv:∀ w,Facts w R S→(execOp a.eval o).run P w=.ok (.value v) w) (ha:a.put o.dst v=a') (h:DC P l.toArray w0 X R im Qf r a' S) :
 DC P l.toArray w0 X R im Qf (i::r) a S:=ZfA ho hi hw (fun w hR=>hv w hR.facts) ha h
theorem ZuH {x:Operand} (ho:nth l i=some o) (hi:im.contains i=false) (hw:Region.wanted o (yielded l.toArray a.tmps)=true) (hop:o.op=.move x) (ha:a.put o.dst (a.eval x)=a') (h:DC P l.toArray w0 X R im Qf r a' S) :
 DC P l.toArray w0 X R im Qf (i::r) a S:=ZgE ho hi hw (fun w=>by unfold execOp; rw [hop]; rfl) ha h
theorem ZpN {x:Operand} (ho:nth l i=some o) (hi:im.contains i=false) (hw:Region.wanted o (yielded l.toArray a.tmps)=true) (hop:o.op=.assign x) (ha:a.put o.dst (a.eval x)=a') (h:DC P l.toArray w0 X R im Qf r a' S) :
 DC P l.toArray w0 X R im Qf (i::r) a S:=ZgE ho hi hw (fun w=>by unfold execOp; rw [hop]; rfl) ha h
theorem Zx8 {x:Operand} {T T':TypeId} {b off n:Nat} {c:List Value} {ag:Bool} (ho:nth l i=some o) (hi:im.contains i=false) (hw:Region.wanted o (yielded l.toArray a.tmps)=true) (hop:o.op=.load T x) (hx:a.eval x=.pointer (some ⟨b,off,none⟩)) (hA:At S b T' c) (hT:Ty P T n ag)
   (hl:(decide (off+n≤c.length) && (ag || n == 1))=true) (ha:a.put o.dst (ldV ag n off c)=a') (h:DC P l.toArray w0 X R im Qf r a' S):DC P l.toArray w0 X R im Qf (i::r) a S:=by
 simp only [Bool.and_eq_true,decide_eq_true_eq,Bool.or_eq_true,beq_iff_eq] at hl
 refine ZfA ho hi hw (fun w hR=>?_) ha h
 have hr:=Zlz (w:=w) hT (hR.cells hA.mem) hl.1 (fun e=>hl.2.resolve_left (by simp [e]))
 unfold execOp
 rw [hop]
 simp only [hx,Instr.loadAt,Instr.sureAddr,Sem.run_bind,Sem.run_pure,Result.andThen_ok,hr]
theorem Zur {f:FuncId} {args:Array Value} (ho:nth l i=some o) (hi:im.contains i=true) (hw:Region.wanted o (yielded l.toArray a.tmps)=true) (hr:∀ w,(execOp a.eval o).run P w=.ok (.enter f args) w)
   (h:∀ w,Rep w0 X R S w→Calls P f args w fun e w'=>∃ v N,e=.returned v∧Rep w0 X R (N++S) w'∧∃ a',a.put o.dst v=a'∧DC P l.toArray w0 X R im Qf r a' (N++S)):DC P l.toArray w0 X R im Qf (i::r) a S :=
 ⟨o,ZgI ho,by
  rw [hw,if_pos rfl,hi,if_pos rfl]
  intro w hR
  rw [hr w]
  exact ⟨rfl,(h w hR).mono fun e w' ⟨v,N,he,hN,a',ha,hd⟩=>⟨v,N,he,hN,by subst ha; exact hd⟩⟩⟩
theorem Zsr {f:FuncId} {args:Array Value} (ho:nth l i=some o) (hi:im.contains i=true) (hw:Region.wanted o (yielded l.toArray a.tmps)=true) (hr:∀ w,(execOp a.eval o).run P w=.ok (.enter f args) w)
   (h:∀ w,Rep w0 X R S w→Calls P f args w fun e w'=>∃ v,e=.returned v∧Kp [] w w'∧∃ a',a.put o.dst v=a'∧DC P l.toArray w0 X R im Qf r a' S):DC P l.toArray w0 X R im Qf (i::r) a S :=
 Zur ho hi hw hr fun w hR=>(h w hR).mono fun _ _ ⟨v,he,hk,a',ha,hd⟩=>⟨v,[],he,hR.kp0 hk,a',ha,hd⟩
theorem Zk3 (ho:nth l i=some o) (hi:im.contains i=true) (hw:Region.wanted o (yielded l.toArray a.tmps)=true)
   (h:∀ w,Rep w0 X R S w→∃ v N w',(execOp a.eval o).run P w=.ok (.value v) w'∧Rep w0 X R (N++S) w'∧∃ a',a.put o.dst v=a'∧DC P l.toArray w0 X R im Qf r a' (N++S)):DC P l.toArray w0 X R im Qf (i::r) a S :=
 ⟨o,ZgI ho,by
  rw [hw,if_pos rfl,hi,if_pos rfl]
  intro w hR
  obtain ⟨v,N,w',h1,h2,a',h3,h4⟩:=h w hR
  rw [h1]
  exact ⟨N,h2,by subst h3; exact h4⟩⟩
theorem Zw7 {x:Operand} {T:TypeId} {d:Tmp} {vs:List Value} (ho:nth l i=some o) (hi:im.contains i=true) (hw:Region.wanted o (yielded l.toArray a.tmps)=true) (hop:o.op=.box T x) (hd:o.dst=some d) (hv:(a.eval x).cells=vs.toArray)
   (h:∀ B,∃ a',a.put (some d) (.pointer (some ⟨B,0,none⟩))=a'∧DC P l.toArray w0 X R im Qf r a' (⟨B,T,vs⟩::S)):DC P l.toArray w0 X R im Qf (i::r) a S :=
 Zk3 ho hi hw fun w hR=>by
  obtain ⟨a',h1,h2⟩:=h w.heap.size
  refine ⟨_,[⟨w.heap.size,T,vs⟩],_,?_,by simpa using hR.alloc T vs.toArray,a',by rw [hd]; exact h1,h2⟩
  unfold execOp; rw [hop]
  simp [Instr.box,newVar,newRow,newObj,hv,Sem.run]
theorem ZsF {T:TypeId} {d:Tmp} {vs:List Value} (ho:nth l i=some o) (hi:im.contains i=true) (hw:Region.wanted o (yielded l.toArray a.tmps)=true) (hop:o.op=.alloc T) (hd:o.dst=some d) (hz:Zu P T vs)
   (h:∀ B,∃ a',a.put (some d) (.pointer (some ⟨B,0,none⟩))=a'∧DC P l.toArray w0 X R im Qf r a' (⟨B,T,vs⟩::S)):DC P l.toArray w0 X R im Qf (i::r) a S :=
 Zk3 ho hi hw fun w hR=>by
  obtain ⟨a',h1,h2⟩:=h w.heap.size
  exact ⟨_,[⟨w.heap.size,T,vs⟩],_,ZmF hz hop _ _,by simpa using hR.alloc T vs.toArray,a',by rw [hd]; exact h1,h2⟩
theorem Zya {t E:TypeId} {z bytes len:Nat} {parts:Array (Nat × Operand)} {d:Tmp} {vs:List Value} (ho:nth l i=some o) (hi:im.contains i=true) (hw:Region.wanted o (yielded l.toArray a.tmps)=true) (hop:o.op=.buildSlice t len parts) (hd:o.dst=some d) (hS:Sl P t E z bytes)
   (hp:(Zho z 0 (parts.toList.map fun p=>(p.1,a.eval p.2)) && (parts.size == len) && decide (parts.size * z≤16777216))=true) (hl:flat (parts.toList.map fun p=>(p.1,a.eval p.2))=vs)
   (h:∀ B,∃ a',a.put (some d) (.slice (some ⟨B,0,none⟩) len len)=a'∧DC P l.toArray w0 X R im Qf r a' (⟨B,E,vs⟩::S)):DC P l.toArray w0 X R im Qf (i::r) a S :=
 Zk3 ho hi hw fun w hR=>by
  simp only [Bool.and_eq_true,beq_iff_eq,decide_eq_true_eq] at hp
  obtain ⟨⟨hp,rfl⟩,hs⟩:=hp
  have hr:=ZoJ (P:=P) (w:=w) hS (parts.map fun p=>(p.1,a.eval p.2)) (by simpa using hp) (by simpa using hs)
  simp only [Array.size_map] at hr
  have hl':flat (parts.map fun p=>(p.1,a.eval p.2)).toList=vs:=by rw [← hl]; simp
  rw [hl'] at hr
  obtain ⟨a',h1,h2⟩:=h w.heap.size
  refine ⟨_,[⟨w.heap.size,E,vs⟩],_,?_,by simpa using hR.alloc E vs.toArray,a',by rw [hd]; exact h1,h2⟩
  unfold execOp; rw [hop]
  simp only [Sem.run_bind,Sem.run_pure,Result.andThen_ok,hr]
end
end Go.Proofs.YtkcmgbbopedacaaGreatDoor
