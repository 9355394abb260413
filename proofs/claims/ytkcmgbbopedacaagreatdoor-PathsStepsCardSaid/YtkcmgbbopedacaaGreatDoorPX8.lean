/-
  Lemmas: What the program's structs hold, as deep values.
-/
import Derived.Test.YtkcmgbbopedacaaGreatDoorPX7
import Derived.MapKept
import Derived.Test.YtkcmgbbopedacaaGreatDoorChecked
import Derived.Test.YtkcmgbbopedacaaGreatDoorPX1
import Derived.Deep.DeepCutAuto
import Derived.Test.YtkcmgbbopedacaaGreatDoorPX2
import Derived.Test.YtkcmgbbopedacaaGreatDoorPX4
set_option linter.unusedSimpArgs false
set_option linter.unusedVariables false
namespace Go.Proofs.YtkcmgbbopedacaaGreatDoor
open Go.RowKit
def Zln (z:Value) (i:Int):List (Value × Value)→Value
 | []=>z
 | (.int .i64 a,v)::r=>if i=a then v else Zln z i r
 | (_,_)::r=>Zln z i r
def Zf1:List (Value × Value)→Bool
 | []=>true
 | (.int .i64 _,v)::r=>v.oneCell' && Zf1 r
 | (_,_)::_=>false
theorem Zih (z:Value) (i:Int):∀ (l:List MapEntry) (n:Nat),Zf1 (l.map fun e=>(e.key,e.val))=true →
   ∃ r,Instr.findNow (.int .i64) (.int .i64 i) l n=some r∧(match r with | some (_,v)=>v | none=>z)=Zln z i (l.map fun e=>(e.key,e.val))
 | [],n,_=>⟨none,rfl,rfl⟩
 | ⟨kk,v,bn⟩::r,n,h=>by
  cases kk with
  | int k a =>
   cases k <;> first | (simp [Zf1] at h; done) | skip
   simp only [List.map_cons,Zf1,Bool.and_eq_true] at h
   obtain ⟨r',g1,g2⟩:=Zih z i r (n+1) h.2
   simp only [Instr.findNow,Instr.sameNow,List.map_cons,Zln,if_true]
   by_cases hi:i=a
   ·subst hi
    simp
   ·have:(i == a)=false:=by simpa using hi
    rw [this,if_neg hi]
    exact ⟨r',g1,g2⟩
  | _=>simp [Zf1] at h
theorem Zkn {z:Value} {i:Int} (hz:z.oneCell'=true):∀ {es:List (Value × Value)},Zf1 es=true→(Zln z i es).oneCell'=true
 | [],_=>hz
 | (kk,v)::r,h=>by
  cases kk with
  | int k a =>
   cases k <;> first | (simp [Zf1] at h; done) | skip
   simp only [Zf1,Bool.and_eq_true] at h
   simp only [Zln]
   split
   ·exact h.1
   ·exact Zkn hz h.2
  | _=>simp [Zf1] at h
section
variable {P:Program} {o:Oper} {H:Hp} {sl:List (Nat × V)} {x y:Operand} {t K E T U:TypeId} {i:Int} {es:List (Value × Value)} {z v:Value}
class Mp (P:Program) (T:TypeId) (K E:outParam TypeId):Prop where
 out:P.underlying T=some (.map K E)
theorem Zn3 {w:World} (h:(P.info? E).bind (·.zero)=some z):(zeroValue E).run P w=.ok z w:=by
 cases hi:P.info? E with
 | none=>simp [hi] at h
 | some i=>simp [hi] at h; simp [zeroValue,typeInfo,program,Sem.run,hi,h]
def Zm2:Option TypeDesc→Bool
 | some (.func _ _ _)=>true
 | _=>false
theorem Zlu {t:Option TypeDesc} (h:Zm2 t=true):∃ a b c,t=some (.func a b c):=by
 cases t with
 | none=>cases h
 | some d=>cases d <;> first | exact ⟨_,_,_,rfl⟩ | cases h
theorem ZkM (hop:o.op=.lookup t x y false) (hx:ev sl x=some (.d (.m es))) (hy:ev sl y=some (vI i)) (hM:Mp P t K E) (hK:P.underlying K=some (.int .i64)) (hz0:(P.info? E).bind (·.zero)=some z) (h1:z.oneCell'=true) (hk:Zf1 es=true) :
   OpD P o H sl 0 0 (.d (.c (Zln z i es))) []:=.read fun B a w ρ hs _=>by
 have ht:=hM.out
 have hz:=fun w=>Zn3 (w:=w) hz0
 refine ⟨Zln z i es,?_,.d (.c (Zkn h1 hk))⟩
 have hx':=Zp hs hx
 have hy':=Za7 (Zp hs hy)
 unfold execOp; rw [hop]
 simp only [hy']
 revert hx'
 generalize a.eval x=vx
 intro hx'
 cases hx' with
 | d hd =>
  cases hd with
  | @m b clock _ em g1 g2 g3 =>
   subst g3
   obtain ⟨r,e1,e2⟩:=Zih z i em.toList 0 hk
   have f1:=MapKept.run_findKey (P:=P) (w:=w) hK e1
   have f2:=MapKept.run_checkKey (P:=P) (w:=w) (k:=.int .i64 i) hK rfl em.isEmpty 9999
   simp only [Nat.reduceAdd] at f2
   have f3:(Instr.lookup t (.map (some b)) (.int .i64 i) false).run P w=.ok (Zln z i (em.toList.map fun e=>(e.key,e.val))) w:=by
    unfold Instr.lookup
    simp only [Sem.run_bind,run_underlying ht,Result.andThen,MapKept.run_getObj_map g2,Sem.run_pure,f2,f1]
    rw [← e2]
    cases r with
    | none=>simp [hz,Result.andThen]
    | some q=>obtain ⟨j,v⟩:=q; simp [Result.andThen]
   simp [Result.andThen,f3]
def ZhU:Value→Bool
 | .nilFunc=>true
 | _=>false
def Zst:Value→Bool
 | .nilFunc=>true
 | .func _ _ _=>true
 | _=>false
theorem Zrt {w:World} {a b:Array TypeId} {c:Bool} (hT:P.underlying T=some (.func a b c)) {v:Value} (hv:Zst v=true) (d:Nat):(Op.equalIn (d+1) T v .nilFunc).run P w=.ok (ZhU v) w:=by
 cases v <;> first | (simp [Zst] at hv; done) | simp [ZhU,Op.equalIn,run_underlying hT,Result.andThen]
theorem Zpo (hop:o.op=.binOp .eql T x y U) (hx:ev sl x=some (.d (.c v))) (hy:ev sl y=some (.d (.c .nilFunc))) (hT0:Zm2 (P.underlying T)=true) (hv:Zst v=true) :
   OpD P o H sl 0 0 (vB (ZhU v)) []:=by
 obtain ⟨a,b,c,hT⟩:=Zlu hT0
 exact ZbP hop hx hy (fun w=>by
  have:=Zrt (P:=P) (w:=w) hT hv 9999
  simp only [Nat.reduceAdd] at this
  simp only [binOp,Op.equal,Op.maxDepth,Sem.run_bind,this,Result.andThen_ok,Sem.run_pure]) (by cases v <;> first | (simp [Zst] at hv; done) | rfl) rfl
end
end Go.Proofs.YtkcmgbbopedacaaGreatDoor
namespace Go.Proofs.YtkcmgbbopedacaaGreatDoor
open Go.RowKit
attribute [local simp] Sem.run_bind Sem.run_pure Result.andThen_ok
section
variable {P:Program} {o:Oper} {H:Hp} {sl:List (Nat × V)} {x y z:Operand} {T K E:TypeId} {k d:Nat} {s:ByteArray}
theorem run_newObj {w:World} (ob:Obj):(newObj ob).run P w=.ok w.heap.size (w.alloc ob):=rfl
def ZgP:Obj→Bool
 | .cells _ _ _=>false
 | _=>true
theorem Zer {w:World} {r:Nat} {ob:Obj} (h:w.heap[r]?=some ob) (hn:ZgP ob=true):(getObj r).run P w=.ok ob w:=by
 cases ob <;> first | (simp [ZgP] at hn; done) | simp [getObj,Sem.run,h]
theorem Zgv {w:World} {r:Nat} {ob:Obj} (o':Obj) (h:w.heap[r]?=some ob) (hn:ZgP ob=true):(setObj r o').run P w=.ok () { w with heap:=w.heap.setIfInBounds r o' }:=by
 cases ob <;> first | (simp [ZgP] at hn; done) | simp [setObj,Sem.run,h]
theorem Zsa (hop:o.op=.range T x) (hd:o.dst=some d) (hk:d+100=k) (hx:ev sl x=some (vS s)) (ht:P.underlying T=some .string):OpD P o H sl k 1 (.p k 0) [(k,some (.ob (.stringIter s 0)))]:=fun B a w ρ hs hr hfr=>by
 have hx':=Za7 (Zp hs hx)
 have hkk:=hfr k (Nat.le_refl _) (by omega)
 refine ⟨_,.pointer (some ⟨w.heap.size,0,none⟩),w.alloc (.stringIter s 0),upd ρ k (.box w.heap.size),?_,.inl rfl,Step.new1 hkk (fun _ h=>h) (.inl rfl) fun ok' ρ' _ _ h=>h,.p (YG _ _ _)⟩
 unfold execOp; rw [hop]
 simp [Instr.range,hx',run_underlying ht,run_newObj]
theorem Zh5 (w:World) (b j:Nat) (o':Obj) (h:j≠b):({ w with heap:=w.heap.setIfInBounds b o' }:World).heap[j]?=w.heap[j]?:=by
 simp only; rw [Array.getElem?_setIfInBounds_ne (Ne.symm h)]
theorem set_self (w:World) (b:Nat) (o' ob:Obj) (h:w.heap[b]?=some ob):({ w with heap:=w.heap.setIfInBounds b o' }:World).heap[b]?=some o':=by
 have hlt:=(Array.getElem?_eq_some_iff.1 h).1
 simp [hlt]
theorem ZpJ {pos c wd:Nat} (hop:o.op=.next x true) (hx:ev sl x=some (.p k 0)) (hH:look H k=some (some (.ob (.stringIter s pos)))) (h:pos<s.size) (hc:Utf8.decode s pos=(c,wd)):OpD P o H sl 0 0 (.t [vB true,vI pos,.d (.c (.int .i32 c))]) [(k,some (.ob (.stringIter s (pos+wd))))]:=fun B a w ρ hs hr _=>by
 obtain ⟨l,g1,g2⟩:=hr.rel _ _ hH
 have hx':=Zp hs hx
 cases l with
 | tr _ _=>exact g2.elim
 | arr v=>exact g2.elim
 | box b =>
  have g2:w.heap[b]?=some (.stringIter s pos):=g2
  have e:a.eval x=.pointer (some ⟨b,0,none⟩):=by
   generalize a.eval x=vx at hx'
   cases hx' with
   | p hp=>rw [g1] at hp; simp only [Option.some.injEq,Loc.box.injEq] at hp; rw [hp]
  refine ⟨_,.tuple #[.bool true,.int .i64 pos,.int .i32 c],{ w with heap:=w.heap.setIfInBounds b (.stringIter s (pos+wd)) },ρ,?_,.inl rfl,Step.set1 g1 hH rfl (by simp) rfl rfl rfl (fun j hj=>Zh5 w b j _ hj) fun ok' _=>set_self w b _ _ g2,.t (.cons (.d (.c rfl)) (.cons (.d (.c rfl)) (.cons (.d (.c rfl)) .nil)))⟩
  unfold execOp; rw [hop]
  simp [Instr.next,e,Zer g2 rfl,h,hc,Zgv _ g2 rfl,goInt]
theorem ZpT {pos:Nat} (hop:o.op=.next x true) (hx:ev sl x=some (.p k 0)) (hH:look H k=some (some (.ob (.stringIter s pos)))) (h:¬ pos<s.size):OpD P o H sl 0 0 (.t [vB false]) []:=.read fun B a w ρ hs hr=>by
 obtain ⟨l,g1,g2⟩:=hr.rel _ _ hH
 have hx':=Zp hs hx
 cases l with
 | tr _ _=>exact g2.elim
 | arr v=>exact g2.elim
 | box b =>
  have g2:w.heap[b]?=some (.stringIter s pos):=g2
  have e:a.eval x=.pointer (some ⟨b,0,none⟩):=by
   generalize a.eval x=vx at hx'
   cases hx' with
   | p hp=>rw [g1] at hp; simp only [Option.some.injEq,Loc.box.injEq] at hp; rw [hp]
  refine ⟨.tuple #[.bool false],?_,.t (.cons (.d (.c rfl)) .nil)⟩
  unfold execOp; rw [hop]
  simp [Instr.next,e,Zer g2 rfl,h]
theorem Zr0 (hop:o.op=.makeMap T none) (hd:o.dst=some d) (hk:d+100=k):OpD P o H sl k 1 (.mp k) [(k,some (.ob (.map #[] 0)))]:=fun B a w ρ hs hr hfr=>by
 have hkk:=hfr k (Nat.le_refl _) (by omega)
 refine ⟨_,.map (some w.heap.size),w.alloc (.map #[] 0),upd ρ k (.box w.heap.size),?_,.inl rfl,Step.new1 hkk (fun _ h=>h) (.inl rfl) fun ok' ρ' _ _ h=>h,.mp (YG _ _ _)⟩
 unfold execOp; rw [hop]
 simp [Instr.makeMap,run_newObj]
theorem ZpS {em:Array MapEntry} {clock:Nat} {i:Int} {v:Value} (hop:o.op=.insert T x y z) (hx:ev sl x=some (.mp k)) (hy:ev sl y=some (vI i)) (hz:ev sl z=some (.d (.c v))) (hH:look H k=some (some (.ob (.map em clock)))) (hM:Mp P T K E) (hK:P.underlying K=some (.int .i64))
   (hf:Instr.findNow (.int .i64) (.int .i64 i) em.toList 0=some none):OpD P o H sl 0 0 .un [(k,some (.ob (.map (em.push ⟨.int .i64 i,v,clock⟩) (clock+1))))]:=fun B a w ρ hs hr _=>by
 obtain ⟨l,g1,g2⟩:=hr.rel _ _ hH
 have hx':=Zp hs hx
 have hy':=Za7 (Zp hs hy)
 have hz':=Za7 (Zp hs hz)
 cases l with
 | tr _ _=>exact g2.elim
 | arr v=>exact g2.elim
 | box b =>
  have g2:w.heap[b]?=some (.map em clock):=g2
  have e:a.eval x=.map (some b):=by
   generalize a.eval x=vx at hx'
   cases hx' with
   | mp hp=>rw [g1] at hp; simp only [Option.some.injEq,Loc.box.injEq] at hp; rw [hp]
  have ht:=hM.out
  have f1:=MapKept.run_findKey (P:=P) (w:=w) hK hf
  have f2:=MapKept.run_checkKey (P:=P) (w:=w) (k:=.int .i64 i) hK rfl false 9999
  simp only [Nat.reduceAdd] at f2
  refine ⟨.skip,undef,{ w with heap:=w.heap.setIfInBounds b (.map (em.push ⟨.int .i64 i,v,clock⟩) (clock+1)) },ρ,?_,.inr ⟨rfl,rfl⟩,Step.set1 g1 hH rfl (by simp) rfl rfl rfl (fun j hj=>Zh5 w b j _ hj) fun ok' _=>set_self w b _ _ g2,.un⟩
  unfold execOp; rw [hop]
  simp [Instr.mapUpdate,e,hy',hz',run_underlying ht,Zer g2 rfl,Zgv _ g2 rfl,f1,f2]
end
end Go.Proofs.YtkcmgbbopedacaaGreatDoor
namespace Go.Proofs.YtkcmgbbopedacaaGreatDoor
open Go.RowKit
theorem mixed:Tryz.prog.follows .mixedOrders=true:=by kernel_rfl
end Go.Proofs.YtkcmgbbopedacaaGreatDoor
namespace Go.Proofs.YtkcmgbbopedacaaGreatDoor
open Go.RowKit
instance ty2:Ty Tryz.prog 2 1 false:=⟨by kernel_rfl,by kernel_rfl⟩
instance zo2:Yb Tryz.prog 2 [.int .i64 0]:=⟨by unfold Zu; kernel_rfl⟩
instance ty3:Ty Tryz.prog 3 1 false:=⟨by kernel_rfl,by kernel_rfl⟩
instance zo3:Yb Tryz.prog 3 [.int .i64 0]:=⟨by unfold Zu; kernel_rfl⟩
instance ty4:Ty Tryz.prog 4 1 false:=⟨by kernel_rfl,by kernel_rfl⟩
instance zo4:Yb Tryz.prog 4 [.bool false]:=⟨by unfold Zu; kernel_rfl⟩
instance ty5:Ty Tryz.prog 5 1 false:=⟨by kernel_rfl,by kernel_rfl⟩
instance zo5:Yb Tryz.prog 5 [.int .u8 0]:=⟨by unfold Zu; kernel_rfl⟩
instance ty9:Ty Tryz.prog 9 1 false:=⟨by kernel_rfl,by kernel_rfl⟩
instance zo9:Yb Tryz.prog 9 [.string ⟨#[]⟩]:=⟨by unfold Zu; kernel_rfl⟩
instance Zzo:Ty Tryz.prog 12 1 false:=⟨by kernel_rfl,by kernel_rfl⟩
instance Zy2:Yb Tryz.prog 12 [.int .u64 0]:=⟨by unfold Zu; kernel_rfl⟩
instance Zx4:Ty Tryz.prog 20 1 false:=⟨by kernel_rfl,by kernel_rfl⟩
instance Zyy:Yb Tryz.prog 20 [.nilIface]:=⟨by unfold Zu; kernel_rfl⟩
instance Zzv:Ty Tryz.prog 21 1 false:=⟨by kernel_rfl,by kernel_rfl⟩
instance Zx8:Yb Tryz.prog 21 [.int .i32 0]:=⟨by unfold Zu; kernel_rfl⟩
instance Zx3:Ty Tryz.prog 22 1 false:=⟨by kernel_rfl,by kernel_rfl⟩
instance ZyQ:Yb Tryz.prog 22 [.slice none 0 0]:=⟨by unfold Zu; kernel_rfl⟩
instance Zy5:Ty Tryz.prog 23 1 false:=⟨by kernel_rfl,by kernel_rfl⟩
instance Zzb:Yb Tryz.prog 23 [.slice none 0 0]:=⟨by unfold Zu; kernel_rfl⟩
instance ZyW:Ty Tryz.prog 24 1 false:=⟨by kernel_rfl,by kernel_rfl⟩
instance ZyF:Yb Tryz.prog 24 [.slice none 0 0]:=⟨by unfold Zu; kernel_rfl⟩
instance Zyi:Ty Tryz.prog 26 1 false:=⟨by kernel_rfl,by kernel_rfl⟩
instance Zx9:Yb Tryz.prog 26 [.pointer none]:=⟨by unfold Zu; kernel_rfl⟩
instance ZyT:Ty Tryz.prog 32 2 true:=⟨by kernel_rfl,by kernel_rfl⟩
instance ZyJ:Yb Tryz.prog 32 [.string ⟨#[]⟩,.bool false]:=⟨by unfold Zu; kernel_rfl⟩
instance Zzh:Ty Tryz.prog 34 1 false:=⟨by kernel_rfl,by kernel_rfl⟩
instance Zzf:Yb Tryz.prog 34 [.slice none 0 0]:=⟨by unfold Zu; kernel_rfl⟩
instance ZyS:Ty Tryz.prog 35 1 false:=⟨by kernel_rfl,by kernel_rfl⟩
instance ZyR:Yb Tryz.prog 35 [.slice none 0 0]:=⟨by unfold Zu; kernel_rfl⟩
instance Zyc:Ty Tryz.prog 41 4 true:=⟨by kernel_rfl,by kernel_rfl⟩
instance ZyV:Yb Tryz.prog 41 [.int .i64 0,.slice none 0 0,.string ⟨#[]⟩,.int .i64 0]:=⟨by unfold Zu; kernel_rfl⟩
instance Zzt:Ty Tryz.prog 43 1 false:=⟨by kernel_rfl,by kernel_rfl⟩
instance Zyr:Yb Tryz.prog 43 [.slice none 0 0]:=⟨by unfold Zu; kernel_rfl⟩
instance Zy7:Ty Tryz.prog 45 1 false:=⟨by kernel_rfl,by kernel_rfl⟩
instance Zy6:Yb Tryz.prog 45 [.slice none 0 0]:=⟨by unfold Zu; kernel_rfl⟩
instance Zyt:Ty Tryz.prog 46 1 false:=⟨by kernel_rfl,by kernel_rfl⟩
instance Zyq:Yb Tryz.prog 46 [.slice none 0 0]:=⟨by unfold Zu; kernel_rfl⟩
instance Zyg:Ty Tryz.prog 48 8 true:=⟨by kernel_rfl,by kernel_rfl⟩
instance Zzk:Yb Tryz.prog 48 [.int .i64 0,.slice none 0 0,.string ⟨#[]⟩,.int .i64 0,.slice none 0 0,.slice none 0 0,.slice none 0 0,.bool false]:=⟨by unfold Zu; kernel_rfl⟩
instance ZyL:Ty Tryz.prog 49 1 false:=⟨by kernel_rfl,by kernel_rfl⟩
instance Zyx:Yb Tryz.prog 49 [.int .i64 0]:=⟨by unfold Zu; kernel_rfl⟩
instance ZyY:Ty Tryz.prog 54 1 false:=⟨by kernel_rfl,by kernel_rfl⟩
instance Zzq:Yb Tryz.prog 54 [.slice none 0 0]:=⟨by unfold Zu; kernel_rfl⟩
instance Zzs:Ty Tryz.prog 55 1 false:=⟨by kernel_rfl,by kernel_rfl⟩
instance Zye:Yb Tryz.prog 55 [.slice none 0 0]:=⟨by unfold Zu; kernel_rfl⟩
instance Zys:Ty Tryz.prog 60 1 false:=⟨by kernel_rfl,by kernel_rfl⟩
instance ZyZ:Yb Tryz.prog 60 [.slice none 0 0]:=⟨by unfold Zu; kernel_rfl⟩
instance Zy8:Ty Tryz.prog 62 1 false:=⟨by kernel_rfl,by kernel_rfl⟩
instance ZyE:Yb Tryz.prog 62 [.slice none 0 0]:=⟨by unfold Zu; kernel_rfl⟩
instance Zy9:Ty Tryz.prog 67 1 false:=⟨by kernel_rfl,by kernel_rfl⟩
instance Zzc:Yb Tryz.prog 67 [.slice none 0 0]:=⟨by unfold Zu; kernel_rfl⟩
instance Zyw:Ty Tryz.prog 69 1 false:=⟨by kernel_rfl,by kernel_rfl⟩
instance Zzp:Yb Tryz.prog 69 [.slice none 0 0]:=⟨by unfold Zu; kernel_rfl⟩
instance Zx7:Ty Tryz.prog 72 4 true:=⟨by kernel_rfl,by kernel_rfl⟩
instance Zx6:Yb Tryz.prog 72 [.string ⟨#[]⟩,.bool false,.string ⟨#[]⟩,.bool false]:=⟨by unfold Zu; kernel_rfl⟩
instance Zzi:Ty Tryz.prog 74 2 true:=⟨by kernel_rfl,by kernel_rfl⟩
instance ZyH:Yb Tryz.prog 74 [.int .i64 0,.int .i64 0]:=⟨by unfold Zu; kernel_rfl⟩
instance ZyO:Ty Tryz.prog 76 8 true:=⟨by kernel_rfl,by kernel_rfl⟩
instance Zzu:Yb Tryz.prog 76 [.int .i64 0,.string ⟨#[]⟩,.bool false,.string ⟨#[]⟩,.bool false,.int .i64 0,.int .i64 0,.slice none 0 0]:=⟨by unfold Zu; kernel_rfl⟩
instance Zza:Ty Tryz.prog 78 7 true:=⟨by kernel_rfl,by kernel_rfl⟩
instance ZyU:Yb Tryz.prog 78 [.int .i64 0,.int .i64 0,.int .i64 0,.int .i64 0,.int .i64 0,.string ⟨#[]⟩,.string ⟨#[]⟩]:=⟨by unfold Zu; kernel_rfl⟩
instance ZyG:Ty Tryz.prog 80 8 true:=⟨by kernel_rfl,by kernel_rfl⟩
instance ZyP:Yb Tryz.prog 80 [.slice none 0 0,.int .i64 0,.int .i64 0,.int .i64 0,.int .i64 0,.int .i64 0,.string ⟨#[]⟩,.string ⟨#[]⟩]:=⟨by unfold Zu; kernel_rfl⟩
instance Zyp:Ty Tryz.prog 85 1 false:=⟨by kernel_rfl,by kernel_rfl⟩
instance ZyC:Yb Tryz.prog 85 [.slice none 0 0]:=⟨by unfold Zu; kernel_rfl⟩
instance Zy1:Ty Tryz.prog 87 6 true:=⟨by kernel_rfl,by kernel_rfl⟩
instance Zyn:Yb Tryz.prog 87 [.int .i64 0,.slice none 0 0,.string ⟨#[]⟩,.int .i64 0,.slice none 0 0,.slice none 0 0]:=⟨by unfold Zu; kernel_rfl⟩
instance Zzr:Ty Tryz.prog 93 1 false:=⟨by kernel_rfl,by kernel_rfl⟩
instance Zyh:Yb Tryz.prog 93 [.slice none 0 0]:=⟨by unfold Zu; kernel_rfl⟩
instance Zyf:Ty Tryz.prog 95 3 true:=⟨by kernel_rfl,by kernel_rfl⟩
instance Zze:Yb Tryz.prog 95 [.int .i64 0,.bool false,.slice none 0 0]:=⟨by unfold Zu; kernel_rfl⟩
instance Zyl:Ty Tryz.prog 99 3 true:=⟨by kernel_rfl,by kernel_rfl⟩
instance Zy4:Yb Tryz.prog 99 [.string ⟨#[]⟩,.string ⟨#[]⟩,.bool false]:=⟨by unfold Zu; kernel_rfl⟩
instance Zxy:Ty Tryz.prog 101 1 false:=⟨by kernel_rfl,by kernel_rfl⟩
instance ZxQ:Yb Tryz.prog 101 [.slice none 0 0]:=⟨by unfold Zu; kernel_rfl⟩
instance Zw9:Ty Tryz.prog 103 10 true:=⟨by kernel_rfl,by kernel_rfl⟩
instance ZxS:Yb Tryz.prog 103 [.int .i64 0,.int .i64 0,.int .i64 0,.int .i64 0,.int .i64 0,.string ⟨#[]⟩,.bool false,.string ⟨#[]⟩,.bool false,.slice none 0 0]:=⟨by unfold Zu; kernel_rfl⟩
instance ZxK:Ty Tryz.prog 105 30 true:=⟨by kernel_rfl,by kernel_rfl⟩
instance Zxf:Yb Tryz.prog 105 [.string ⟨#[]⟩,.bool false,.string ⟨#[]⟩,.bool false,.int .i64 0,.int .i64 0,.slice none 0 0,.slice none 0 0,.int .i64 0,.int .i64 0,.int .i64 0,.int .i64 0,.int .i64 0,.string ⟨#[]⟩,.bool false,.string ⟨#[]⟩,.bool false,.slice none 0 0,.int .i64 0,.int .i64 0,.int .i64 0,.int .i64 0,.int .i64 0,.string ⟨#[]⟩,.bool false,.string ⟨#[]⟩,.bool false,.slice none 0 0,.int .i64 0,.int .i64 0]:=⟨by unfold Zu; kernel_rfl⟩
instance Zxk:Ty Tryz.prog 107 32 true:=⟨by kernel_rfl,by kernel_rfl⟩
instance ZxE:Yb Tryz.prog 107 [.int .i64 0,.bool false,.string ⟨#[]⟩,.bool false,.string ⟨#[]⟩,.bool false,.int .i64 0,.int .i64 0,.slice none 0 0,.slice none 0 0,.int .i64 0,.int .i64 0,.int .i64 0,.int .i64 0,.int .i64 0,.string ⟨#[]⟩,.bool false,.string ⟨#[]⟩,.bool false,.slice none 0 0,.int .i64 0,.int .i64 0,.int .i64 0,.int .i64 0,.int .i64 0,.string ⟨#[]⟩,.bool false,.string ⟨#[]⟩,.bool false,.slice none 0 0,.int .i64 0,.int .i64 0]:=⟨by unfold Zu; kernel_rfl⟩
instance ZxD:Ty Tryz.prog 124 6 true:=⟨by kernel_rfl,by kernel_rfl⟩
instance ZwZ:Yb Tryz.prog 124 [.int .i64 0,.slice none 0 0,.string ⟨#[]⟩,.int .i64 0,.slice none 0 0,.slice none 0 0]:=⟨by unfold Zu; kernel_rfl⟩
instance ZxO:Ty Tryz.prog 126 2 true:=⟨by kernel_rfl,by kernel_rfl⟩
instance Zxi:Yb Tryz.prog 126 [.slice none 0 0,.int .i64 0]:=⟨by unfold Zu; kernel_rfl⟩
instance Zx1:Ty Tryz.prog 144 1 false:=⟨by kernel_rfl,by kernel_rfl⟩
instance Zx0:Yb Tryz.prog 144 [.pointer none]:=⟨by unfold Zu; kernel_rfl⟩
instance Zxg:Ty Tryz.prog 147 12 true:=⟨by kernel_rfl,by kernel_rfl⟩
instance ZxI:Yb Tryz.prog 147 [.int .i64 0,.slice none 0 0,.string ⟨#[]⟩,.string ⟨#[]⟩,.bool false,.int .i64 0,.int .i64 0,.slice none 0 0,.string ⟨#[]⟩,.int .i64 0,.slice none 0 0,.slice none 0 0]:=⟨by unfold Zu; kernel_rfl⟩
instance ZxG:Ty Tryz.prog 149 12 true:=⟨by kernel_rfl,by kernel_rfl⟩
instance ZxT:Yb Tryz.prog 149 [.int .i64 0,.string ⟨#[]⟩,.bool false,.string ⟨#[]⟩,.bool false,.int .i64 0,.int .i64 0,.slice none 0 0,.string ⟨#[]⟩,.bool false,.string ⟨#[]⟩,.bool false]:=⟨by unfold Zu; kernel_rfl⟩
instance ZxX:Ty Tryz.prog 154 2 true:=⟨by kernel_rfl,by kernel_rfl⟩
instance ZxU:Yb Tryz.prog 154 [.string ⟨#[]⟩,.string ⟨#[]⟩]:=⟨by unfold Zu; kernel_rfl⟩
instance ZxB:Ty Tryz.prog 161 1 false:=⟨by kernel_rfl,by kernel_rfl⟩
instance ZxP:Yb Tryz.prog 161 [.pointer none]:=⟨by unfold Zu; kernel_rfl⟩
instance Zw5:Ty Tryz.prog 195 6 true:=⟨by kernel_rfl,by kernel_rfl⟩
instance Zxj:Yb Tryz.prog 195 [.string ⟨#[]⟩,.string ⟨#[]⟩,.string ⟨#[]⟩,.string ⟨#[]⟩,.string ⟨#[]⟩,.string ⟨#[]⟩]:=⟨by unfold Zu; kernel_rfl⟩
instance Zxn:Ty Tryz.prog 205 2 true:=⟨by kernel_rfl,by kernel_rfl⟩
instance Zxl:Yb Tryz.prog 205 [.nilFunc,.nilFunc]:=⟨by unfold Zu; kernel_rfl⟩
instance Zxs:Ty Tryz.prog 214 1 false:=⟨by kernel_rfl,by kernel_rfl⟩
instance Zw7:Yb Tryz.prog 214 [.pointer none]:=⟨by unfold Zu; kernel_rfl⟩
instance ZxW:Ty Tryz.prog 215 1 false:=⟨by kernel_rfl,by kernel_rfl⟩
instance ZwX:Yb Tryz.prog 215 [.map none]:=⟨by unfold Zu; kernel_rfl⟩
instance Zw4:Ty Tryz.prog 216 1 false:=⟨by kernel_rfl,by kernel_rfl⟩
instance ZwV:Yb Tryz.prog 216 [.map none]:=⟨by unfold Zu; kernel_rfl⟩
instance Zxh:Ty Tryz.prog 217 1 false:=⟨by kernel_rfl,by kernel_rfl⟩
instance Zw0:Yb Tryz.prog 217 [.map none]:=⟨by unfold Zu; kernel_rfl⟩
instance ZxY:Ty Tryz.prog 219 5 true:=⟨by kernel_rfl,by kernel_rfl⟩
instance ZxL:Yb Tryz.prog 219 [.slice none 0 0,.slice none 0 0,.map none,.map none,.map none]:=⟨by unfold Zu; kernel_rfl⟩
instance Zw2:Ty Tryz.prog 248 1 false:=⟨by kernel_rfl,by kernel_rfl⟩
instance Zxp:Yb Tryz.prog 248 [.map none]:=⟨by unfold Zu; kernel_rfl⟩
instance Zxd:Ty Tryz.prog 260 1 false:=⟨by kernel_rfl,by kernel_rfl⟩
instance ZwY:Yb Tryz.prog 260 [.int .u64 0]:=⟨by unfold Zu; kernel_rfl⟩
instance Zw6:Ty Tryz.prog 262 1 false:=⟨by kernel_rfl,by kernel_rfl⟩
instance Zxm:Yb Tryz.prog 262 [.slice none 0 0]:=⟨by unfold Zu; kernel_rfl⟩
instance ZxZ:Ty Tryz.prog 282 1 false:=⟨by kernel_rfl,by kernel_rfl⟩
instance Zw3:Yb Tryz.prog 282 [.int .u32 0]:=⟨by unfold Zu; kernel_rfl⟩
instance ZxR:Ty Tryz.prog 284 1 false:=⟨by kernel_rfl,by kernel_rfl⟩
instance ZxN:Yb Tryz.prog 284 [.int .u64 0]:=⟨by unfold Zu; kernel_rfl⟩
instance Zxe:Ty Tryz.prog 289 1 false:=⟨by kernel_rfl,by kernel_rfl⟩
instance ZwU:Yb Tryz.prog 289 [.pointer none]:=⟨by unfold Zu; kernel_rfl⟩
instance Zzg:Sl Tryz.prog 22 3 1 8:=Sl.mk' (by kernel_rfl) (by kernel_rfl)
instance Zzm:Sl Tryz.prog 23 72 4 48:=Sl.mk' (by kernel_rfl) (by kernel_rfl)
instance ZyD:Sl Tryz.prog 24 32 2 24:=Sl.mk' (by kernel_rfl) (by kernel_rfl)
instance Zym:Sl Tryz.prog 34 23 1 24:=Sl.mk' (by kernel_rfl) (by kernel_rfl)
instance Zyd:Sl Tryz.prog 35 24 1 24:=Sl.mk' (by kernel_rfl) (by kernel_rfl)
instance Zy3:Sl Tryz.prog 43 5 1 1:=Sl.mk' (by kernel_rfl) (by kernel_rfl)
instance ZyI:Sl Tryz.prog 45 41 4 56:=Sl.mk' (by kernel_rfl) (by kernel_rfl)
instance Zyv:Sl Tryz.prog 46 124 6 104:=Sl.mk' (by kernel_rfl) (by kernel_rfl)
instance ZyN:Sl Tryz.prog 54 147 12 184:=Sl.mk' (by kernel_rfl) (by kernel_rfl)
instance Zyo:Sl Tryz.prog 55 154 2 32:=Sl.mk' (by kernel_rfl) (by kernel_rfl)
instance Zyu:Sl Tryz.prog 60 55 1 24:=Sl.mk' (by kernel_rfl) (by kernel_rfl)
instance Zx5:Sl Tryz.prog 62 54 1 24:=Sl.mk' (by kernel_rfl) (by kernel_rfl)
instance Zzl:Sl Tryz.prog 67 76 8 96:=Sl.mk' (by kernel_rfl) (by kernel_rfl)
instance Zyz:Sl Tryz.prog 69 95 3 40:=Sl.mk' (by kernel_rfl) (by kernel_rfl)
instance Zyj:Sl Tryz.prog 85 149 12 144:=Sl.mk' (by kernel_rfl) (by kernel_rfl)
instance ZyB:Sl Tryz.prog 93 107 32 368:=Sl.mk' (by kernel_rfl) (by kernel_rfl)
instance Zxq:Sl Tryz.prog 101 99 3 40:=Sl.mk' (by kernel_rfl) (by kernel_rfl)
instance Zxz:Sl Tryz.prog 262 85 1 24:=Sl.mk' (by kernel_rfl) (by kernel_rfl)
end Go.Proofs.YtkcmgbbopedacaaGreatDoor
namespace Go.Proofs.YtkcmgbbopedacaaGreatDoor
open Go.RowKit
instance Zxc:Ab Tryz.prog 195 [(0,1),(1,1),(2,1),(3,1),(4,1),(5,1)] [.string ⟨#[]⟩,.string ⟨#[]⟩,.string ⟨#[]⟩,.string ⟨#[]⟩,.string ⟨#[]⟩,.string ⟨#[]⟩]:=⟨⟨6,9,1,by kernel_rfl,by kernel_rfl,by kernel_rfl⟩,by unfold Zu; kernel_rfl⟩
instance Zxb:Ar Tryz.prog 195 6 9:=⟨by kernel_rfl⟩
instance Zxu:Mp Tryz.prog 215 3 3:=⟨by kernel_rfl⟩
instance ZxV:Mp Tryz.prog 216 3 41:=⟨by kernel_rfl⟩
instance ZxM:Mp Tryz.prog 217 3 4:=⟨by kernel_rfl⟩
instance ZwW:Mp Tryz.prog 248 3 142:=⟨by kernel_rfl⟩
instance Zwq:Fo Tryz.prog 32 0 0:=⟨by kernel_rfl⟩
instance Zwh:Fo Tryz.prog 32 1 1:=⟨by kernel_rfl⟩
instance Zyb:Bd Tryz.prog 32 [(0,1),(1,1)] [.string ⟨#[]⟩,.bool false]:=⟨by kernel_rfl,by unfold Zu; kernel_rfl⟩
instance ZwI:Fo Tryz.prog 41 0 0:=⟨by kernel_rfl⟩
instance Zwi:Fo Tryz.prog 41 1 1:=⟨by kernel_rfl⟩
instance Zwy:Fo Tryz.prog 41 2 2:=⟨by kernel_rfl⟩
instance Zwv:Fo Tryz.prog 41 3 3:=⟨by kernel_rfl⟩
instance Zx2:Bd Tryz.prog 41 [(0,1),(1,1),(2,1),(3,1)] [.int .i64 0,.slice none 0 0,.string ⟨#[]⟩,.int .i64 0]:=⟨by kernel_rfl,by unfold Zu; kernel_rfl⟩
instance ZwH:Fo Tryz.prog 48 0 0:=⟨by kernel_rfl⟩
instance Zwm:Fo Tryz.prog 48 1 4:=⟨by kernel_rfl⟩
instance Zwr:Fo Tryz.prog 48 2 5:=⟨by kernel_rfl⟩
instance Zwu:Fo Tryz.prog 48 3 6:=⟨by kernel_rfl⟩
instance Zwj:Fo Tryz.prog 48 4 7:=⟨by kernel_rfl⟩
instance Zzd:Bd Tryz.prog 48 [(0,4),(4,1),(5,1),(6,1),(7,1)] [.int .i64 0,.slice none 0 0,.string ⟨#[]⟩,.int .i64 0,.slice none 0 0,.slice none 0 0,.slice none 0 0,.bool false]:=⟨by kernel_rfl,by unfold Zu; kernel_rfl⟩
instance ZwA:Fo Tryz.prog 72 0 0:=⟨by kernel_rfl⟩
instance ZwF:Fo Tryz.prog 72 1 2:=⟨by kernel_rfl⟩
instance Zzn:Bd Tryz.prog 72 [(0,2),(2,2)] [.string ⟨#[]⟩,.bool false,.string ⟨#[]⟩,.bool false]:=⟨by kernel_rfl,by unfold Zu; kernel_rfl⟩
instance Zwk:Fo Tryz.prog 74 0 0:=⟨by kernel_rfl⟩
instance Zws:Fo Tryz.prog 74 1 1:=⟨by kernel_rfl⟩
instance ZyA:Bd Tryz.prog 74 [(0,1),(1,1)] [.int .i64 0,.int .i64 0]:=⟨by kernel_rfl,by unfold Zu; kernel_rfl⟩
instance Zww:Fo Tryz.prog 76 0 0:=⟨by kernel_rfl⟩
instance ZwG:Fo Tryz.prog 76 1 1:=⟨by kernel_rfl⟩
instance Zwn:Fo Tryz.prog 76 2 5:=⟨by kernel_rfl⟩
instance ZwC:Fo Tryz.prog 76 3 7:=⟨by kernel_rfl⟩
instance ZyM:Bd Tryz.prog 76 [(0,1),(1,4),(5,2),(7,1)] [.int .i64 0,.string ⟨#[]⟩,.bool false,.string ⟨#[]⟩,.bool false,.int .i64 0,.int .i64 0,.slice none 0 0]:=⟨by kernel_rfl,by unfold Zu; kernel_rfl⟩
instance Zyk:Bd Tryz.prog 78 [(0,1),(1,1),(2,1),(3,1),(4,1),(5,1),(6,1)] [.int .i64 0,.int .i64 0,.int .i64 0,.int .i64 0,.int .i64 0,.string ⟨#[]⟩,.string ⟨#[]⟩]:=⟨by kernel_rfl,by unfold Zu; kernel_rfl⟩
instance Zzj:Bd Tryz.prog 80 [(0,1),(1,7)] [.slice none 0 0,.int .i64 0,.int .i64 0,.int .i64 0,.int .i64 0,.int .i64 0,.string ⟨#[]⟩,.string ⟨#[]⟩]:=⟨by kernel_rfl,by unfold Zu; kernel_rfl⟩
instance Zwz:Fo Tryz.prog 87 0 0:=⟨by kernel_rfl⟩
instance Zwp:Fo Tryz.prog 87 1 4:=⟨by kernel_rfl⟩
instance Zwt:Fo Tryz.prog 87 2 5:=⟨by kernel_rfl⟩
instance ZyK:Bd Tryz.prog 87 [(0,4),(4,1),(5,1)] [.int .i64 0,.slice none 0 0,.string ⟨#[]⟩,.int .i64 0,.slice none 0 0,.slice none 0 0]:=⟨by kernel_rfl,by unfold Zu; kernel_rfl⟩
instance ZwE:Fo Tryz.prog 95 1 1:=⟨by kernel_rfl⟩
instance Zwx:Fo Tryz.prog 95 2 2:=⟨by kernel_rfl⟩
instance Zya:Bd Tryz.prog 95 [(0,1),(1,1),(2,1)] [.int .i64 0,.bool false,.slice none 0 0]:=⟨by kernel_rfl,by unfold Zu; kernel_rfl⟩
instance Zwl:Fo Tryz.prog 99 0 0:=⟨by kernel_rfl⟩
instance Zwo:Fo Tryz.prog 99 1 1:=⟨by kernel_rfl⟩
instance ZwB:Fo Tryz.prog 99 2 2:=⟨by kernel_rfl⟩
instance ZyX:Bd Tryz.prog 99 [(0,1),(1,1),(2,1)] [.string ⟨#[]⟩,.string ⟨#[]⟩,.bool false]:=⟨by kernel_rfl,by unfold Zu; kernel_rfl⟩
instance Zvw:Fo Tryz.prog 103 0 0:=⟨by kernel_rfl⟩
instance ZvS:Fo Tryz.prog 103 1 1:=⟨by kernel_rfl⟩
instance ZvN:Fo Tryz.prog 103 2 2:=⟨by kernel_rfl⟩
instance ZvJ:Fo Tryz.prog 103 3 3:=⟨by kernel_rfl⟩
instance ZvU:Fo Tryz.prog 103 4 5:=⟨by kernel_rfl⟩
instance ZvO:Fo Tryz.prog 103 5 9:=⟨by kernel_rfl⟩
instance Zw8:Bd Tryz.prog 103 [(0,1),(1,1),(2,1),(3,2),(5,4),(9,1)] [.int .i64 0,.int .i64 0,.int .i64 0,.int .i64 0,.int .i64 0,.string ⟨#[]⟩,.bool false,.string ⟨#[]⟩,.bool false,.slice none 0 0]:=⟨by kernel_rfl,by unfold Zu; kernel_rfl⟩
instance ZvI:Fo Tryz.prog 105 0 0:=⟨by kernel_rfl⟩
instance ZvF:Fo Tryz.prog 105 1 4:=⟨by kernel_rfl⟩
instance Zvz:Fo Tryz.prog 105 2 6:=⟨by kernel_rfl⟩
instance Zvv:Fo Tryz.prog 105 3 7:=⟨by kernel_rfl⟩
instance ZvH:Fo Tryz.prog 105 4 8:=⟨by kernel_rfl⟩
instance ZvB:Fo Tryz.prog 105 5 18:=⟨by kernel_rfl⟩
instance ZvA:Fo Tryz.prog 105 6 28:=⟨by kernel_rfl⟩
instance Zvx:Fo Tryz.prog 105 7 29:=⟨by kernel_rfl⟩
instance ZxJ:Bd Tryz.prog 105 [(0,4),(4,2),(6,1),(7,1),(8,10),(18,10),(28,1),(29,1)] [.string ⟨#[]⟩,.bool false,.string ⟨#[]⟩,.bool false,.int .i64 0,.int .i64 0,.slice none 0 0,.slice none 0 0,.int .i64 0,.int .i64 0,.int .i64 0,.int .i64 0,.int .i64 0,.string ⟨#[]⟩,.bool false,.string ⟨#[]⟩,.bool false,.slice none 0 0,.int .i64 0,.int .i64 0,.int .i64 0,.int .i64 0,.int .i64 0,.string ⟨#[]⟩,.bool false,.string ⟨#[]⟩,.bool false,.slice none 0 0,.int .i64 0,.int .i64 0]:=⟨by kernel_rfl,by unfold Zu; kernel_rfl⟩
instance ZvM:Fo Tryz.prog 107 0 0:=⟨by kernel_rfl⟩
instance ZvR:Fo Tryz.prog 107 1 1:=⟨by kernel_rfl⟩
instance ZvK:Fo Tryz.prog 107 2 2:=⟨by kernel_rfl⟩
instance Zxw:Bd Tryz.prog 107 [(0,1),(1,1),(2,30)] [.int .i64 0,.bool false,.string ⟨#[]⟩,.bool false,.string ⟨#[]⟩,.bool false,.int .i64 0,.int .i64 0,.slice none 0 0,.slice none 0 0,.int .i64 0,.int .i64 0,.int .i64 0,.int .i64 0,.int .i64 0,.string ⟨#[]⟩,.bool false,.string ⟨#[]⟩,.bool false,.slice none 0 0,.int .i64 0,.int .i64 0,.int .i64 0,.int .i64 0,.int .i64 0,.string ⟨#[]⟩,.bool false,.string ⟨#[]⟩,.bool false,.slice none 0 0,.int .i64 0,.int .i64 0]:=⟨by kernel_rfl,by unfold Zu; kernel_rfl⟩
instance ZvL:Fo Tryz.prog 124 0 0:=⟨by kernel_rfl⟩
instance ZvE:Fo Tryz.prog 124 1 4:=⟨by kernel_rfl⟩
instance ZvG:Fo Tryz.prog 124 2 5:=⟨by kernel_rfl⟩
instance Zxo:Bd Tryz.prog 124 [(0,4),(4,1),(5,1)] [.int .i64 0,.slice none 0 0,.string ⟨#[]⟩,.int .i64 0,.slice none 0 0,.slice none 0 0]:=⟨by kernel_rfl,by unfold Zu; kernel_rfl⟩
instance ZvD:Fo Tryz.prog 126 0 0:=⟨by kernel_rfl⟩
instance ZvT:Fo Tryz.prog 126 1 1:=⟨by kernel_rfl⟩
instance Zxx:Bd Tryz.prog 126 [(0,1),(1,1)] [.slice none 0 0,.int .i64 0]:=⟨by kernel_rfl,by unfold Zu; kernel_rfl⟩
instance Zw1:Bd Tryz.prog 147 [(0,1),(1,1),(2,1),(3,1),(4,1),(5,1),(6,6)] [.int .i64 0,.slice none 0 0,.string ⟨#[]⟩,.string ⟨#[]⟩,.bool false,.int .i64 0,.int .i64 0,.slice none 0 0,.string ⟨#[]⟩,.int .i64 0,.slice none 0 0,.slice none 0 0]:=⟨by kernel_rfl,by unfold Zu; kernel_rfl⟩
instance Zvy:Fo Tryz.prog 149 0 0:=⟨by kernel_rfl⟩
instance ZvC:Fo Tryz.prog 149 1 8:=⟨by kernel_rfl⟩
instance ZxH:Bd Tryz.prog 149 [(0,8),(8,4)] [.int .i64 0,.string ⟨#[]⟩,.bool false,.string ⟨#[]⟩,.bool false,.int .i64 0,.int .i64 0,.slice none 0 0,.string ⟨#[]⟩,.bool false,.string ⟨#[]⟩,.bool false]:=⟨by kernel_rfl,by unfold Zu; kernel_rfl⟩
instance ZvQ:Fo Tryz.prog 154 0 0:=⟨by kernel_rfl⟩
instance ZvP:Fo Tryz.prog 154 1 1:=⟨by kernel_rfl⟩
instance Zxr:Bd Tryz.prog 154 [(0,1),(1,1)] [.string ⟨#[]⟩,.string ⟨#[]⟩]:=⟨by kernel_rfl,by unfold Zu; kernel_rfl⟩
instance ZxF:Bd Tryz.prog 219 [(0,1),(1,1),(2,1),(3,1),(4,1)] [.slice none 0 0,.slice none 0 0,.map none,.map none,.map none]:=⟨by kernel_rfl,by unfold Zu; kernel_rfl⟩
end Go.Proofs.YtkcmgbbopedacaaGreatDoor
namespace Go.Proofs.YtkcmgbbopedacaaGreatDoor
open Go.RowKit
theorem ba_eq {a b:ByteArray} (h:a.toList=b.toList):a=b:=by
 rw [ByteArray.toList_eq,ByteArray.toList_eq] at h
 apply ByteArray.ext
 exact Array.ext' h
theorem lt_irrefl (a:Bnd):a.lt a=false:=by simp [Bnd.lt,Yv]
theorem lt_trans {a b c:Bnd} (h:a.lt b=true) (k:b.lt c=true):a.lt c=true:=by
 simp only [Bnd.lt,Bool.and_eq_true,Bool.or_eq_true,Bool.not_eq_true'] at *
 obtain ⟨h1,h2⟩:=h
 obtain ⟨k1,k2⟩:=k
 refine ⟨h1,?_⟩
 rcases h2 with h2 | h2
 ·rw [k1] at h2; cases h2
 ·rcases k2 with k2 | k2
  ·exact Or.inl k2
  ·exact Or.inr (Yr h2 k2)
theorem ZdF {a b:Bnd} (ha:vb a=true) (hb:vb b=true) (h:a.lt b=false) (k:b.lt a=false):a=b:=by
 obtain ⟨ak,at'⟩:=a
 obtain ⟨bk,bt⟩:=b
 simp only [vb,Bool.and_eq_true,Bool.or_eq_true,Bool.not_eq_true'] at ha hb
 simp only [Bnd.lt,Bool.and_eq_false_iff,Bool.not_eq_false',Bool.or_eq_false_iff] at h k
 cases at' <;> cases bt <;> simp at h k ha hb
 ·have:=YD h k; rw [ba_eq this]
 ·rw [ba_eq (ha.2.trans hb.2.symm)]
theorem Zat (r:Rng):emp r=false↔vb r.lo=true∧vb r.hi=true∧r.lo.lt r.hi=true:=by
 simp only [emp,vld,Bool.or_eq_false_iff,Bool.not_eq_false',Bool.and_eq_true,decide_eq_true_eq,beq_eq_false_iff_ne]
 have h1:=Zbh r.lo r.hi; have h2:=Zng r.lo r.hi
 constructor
 ·rintro ⟨⟨⟨a,b⟩,c⟩,d⟩; exact ⟨a,b,h1.1 (by omega)⟩
 ·rintro ⟨a,b,c⟩; have:=h1.2 c; exact ⟨⟨⟨a,b⟩,by omega⟩,by omega⟩
theorem Zel (a b:Bnd):greater a b=if a.lt b then b else a:=by
 unfold greater; have:=Za4 b a
 by_cases h:a.lt b=true
 ·rw [if_pos (this.2 h),if_pos h]
 ·rw [if_neg (fun e=>h (this.1 e)),if_neg h]
theorem ZlU {a b:Bnd} (ha:vb a=true) (hb:vb b=true):vb (greater a b)=true:=by rw [Zel]; split <;> assumption
theorem Zu2 {a b c:Bnd} (ha:vb a=true) (hb:vb b=true) (h:a.lt b=false) (k:a.lt c=true):b.lt c=true:=by grind [ZdF,lt_trans]
theorem Zo6 {a b c:Bnd} (hb:vb b=true) (hc:vb c=true) (h:a.lt b=true) (k:c.lt b=false):a.lt c=true:=by grind [ZdF,lt_trans]
end Go.Proofs.YtkcmgbbopedacaaGreatDoor
namespace Go.Proofs.YtkcmgbbopedacaaGreatDoor
open Go.RowKit
def upl:List UInt8→Option (List UInt8)
 | []=>none
 | x::r=>match upl r with
  | some r'=>some (x::r')
  | none=>if x=255 then none else some [x+1]
theorem Zje:∀ q:List UInt8,upl (q++[255])=upl q
 | []=>rfl
 | x::r=>by rw [List.cons_append,upl,upl,Zje r]
theorem ZkC (q:List UInt8) {x:UInt8} (hx:x≠255):upl (q++[x])=some (q++[x+1]):=by
 induction q with
 | nil=>simp [upl,hx]
 | cons y r ih=>rw [List.cons_append,upl,ih]; rfl
def upb (p:ByteArray):Bnd:=match upl p.toList with
 | some u=>⟨⟨u.toArray⟩,false⟩
 | none=>⟨⟨#[]⟩,true⟩
def pfx (p:ByteArray):Rng:=if vk p then ⟨⟨p,false⟩,upb p⟩ else zr
theorem ZcZ (p:ByteArray):p.toList.length=p.size:=by rw [ByteArray.toList_eq]; exact Array.length_toList
end Go.Proofs.YtkcmgbbopedacaaGreatDoor
namespace Go.Proofs.YtkcmgbbopedacaaGreatDoor
open Go.RowKit
class Len {α:Type} (f:α→List D) (z:outParam Nat):Prop where
 len:∀ a,(f a).length=z
def Rng.ds (r:Rng):List D:=[dS r.lo.key,dB r.lo.top,dS r.hi.key,dB r.hi.top]
instance : Len Rng.ds 4:=⟨fun _=>rfl⟩
structure Kv where
 key:ByteArray
 val:ByteArray
 deriving DecidableEq
theorem Kv.eta (r:Kv):Kv.mk r.key r.val=r:=rfl
theorem Bnd.eta (r:Bnd):Bnd.mk r.key r.top=r:=rfl
theorem Rng.eta (r:Rng):Rng.mk r.lo r.hi=r:=rfl
theorem Xc (m:Nat):((m:Int) - 1).toNat=m - 1:=by omega
def Kv.ds (r:Kv):List D:=[dS r.key,dS r.val]
instance : Len Kv.ds 2:=⟨fun _=>rfl⟩
def dsI (z:Int):List D:=[dI z]
instance : Len dsI 1:=⟨fun _=>rfl⟩
abbrev ZuR (l:List Int):D:=lst dsI l
structure Fd where
 count:Int
 nums:Int
 sum:Int
 low:Int
 high:Int
 first:ByteArray
 last:ByteArray
structure Qy where
 kind:Int
 rs:List Rng
 key:ByteArray
 count:Int
theorem ZqH {α:Type} {p:α→Bool} {l:List α} {m:Nat} (h:∀ j (h:j<l.length),j<m→p l[j]=true) (hm:l.length≤m):l.all p=true:=by
 rw [List.all_eq_true]
 intro x hx
 obtain ⟨j,hj,rfl⟩:=List.mem_iff_getElem.1 hx
 exact h j hj (by omega)
theorem Znd {α:Type} {p:α→Bool} {l:List α} {m:Nat} (hm:m<l.length) (h:(!p l[m])=true):l.all p=false:=by
 rw [List.all_eq_false]
 exact ⟨l[m],List.getElem_mem hm,by simpa using h⟩
end Go.Proofs.YtkcmgbbopedacaaGreatDoor
