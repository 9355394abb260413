/-
  Lemmas: What the program's structs hold, as deep values.
-/
import Derived.Test.YtkcmgbbopedacaaGreatDoorPZ7
import Derived.MapKept
import Derived.Test.YtkcmgbbopedacaaGreatDoorChecked
import Derived.Test.YtkcmgbbopedacaaGreatDoorPZ1
import Derived.Deep.DeepCutAuto
import Derived.Test.YtkcmgbbopedacaaGreatDoorPZ2
import Derived.Test.YtkcmgbbopedacaaGreatDoorPZ4
set_option linter.unusedSimpArgs false
set_option linter.unusedVariables false
namespace Go.Proofs.YtkcmgbbopedacaaGreatDoor
open Go.RowKit
def Zna (z:Value) (i:Int):List (Value × Value)→Value
 | []=>z
 | (.int .i64 a,v)::r=>if i=a then v else Zna z i r
 | (_,_)::r=>Zna z i r
def Zhk:List (Value × Value)→Bool
 | []=>true
 | (.int .i64 _,v)::r=>v.oneCell' && Zhk r
 | (_,_)::_=>false
theorem ZjX (z:Value) (i:Int):∀ (l:List MapEntry) (n:Nat),Zhk (l.map fun e=>(e.key,e.val))=true →
   ∃ r,Instr.findNow (.int .i64) (.int .i64 i) l n=some r∧(match r with | some (_,v)=>v | none=>z)=Zna z i (l.map fun e=>(e.key,e.val))
 | [],n,_=>⟨none,rfl,rfl⟩
 | ⟨kk,v,bn⟩::r,n,h=>by
  cases kk with
  | int k a =>
   cases k <;> first | (simp [Zhk] at h; done) | skip
   simp only [List.map_cons,Zhk,Bool.and_eq_true] at h
   obtain ⟨r',g1,g2⟩:=ZjX z i r (n+1) h.2
   simp only [Instr.findNow,Instr.sameNow,List.map_cons,Zna,if_true]
   by_cases hi:i=a
   ·subst hi
    simp
   ·have:(i == a)=false:=by simpa using hi
    rw [this,if_neg hi]
    exact ⟨r',g1,g2⟩
  | _=>simp [Zhk] at h
theorem Zms {z:Value} {i:Int} (hz:z.oneCell'=true):∀ {es:List (Value × Value)},Zhk es=true→(Zna z i es).oneCell'=true
 | [],_=>hz
 | (kk,v)::r,h=>by
  cases kk with
  | int k a =>
   cases k <;> first | (simp [Zhk] at h; done) | skip
   simp only [Zhk,Bool.and_eq_true] at h
   simp only [Zna]
   split
   ·exact h.1
   ·exact Zms hz h.2
  | _=>simp [Zhk] at h
section
variable {P:Program} {o:Oper} {H:Hp} {sl:List (Nat × V)} {x y:Operand} {t K E T U:TypeId} {i:Int} {es:List (Value × Value)} {z v:Value}
class Mp (P:Program) (T:TypeId) (K E:outParam TypeId):Prop where
 out:P.underlying T=some (.map K E)
theorem ZpQ {w:World} (h:(P.info? E).bind (·.zero)=some z):(zeroValue E).run P w=.ok z w:=by
 cases hi:P.info? E with
 | none=>simp [hi] at h
 | some i=>simp [hi] at h; simp [zeroValue,typeInfo,program,Sem.run,hi,h]
def Zo4:Option TypeDesc→Bool
 | some (.func _ _ _)=>true
 | _=>false
theorem Znv {t:Option TypeDesc} (h:Zo4 t=true):∃ a b c,t=some (.func a b c):=by
 cases t with
 | none=>cases h
 | some d=>cases d <;> first | exact ⟨_,_,_,rfl⟩ | cases h
theorem Zl1 (hop:o.op=.lookup t x y false) (hx:ev sl x=some (.d (.m es))) (hy:ev sl y=some (vI i)) (hM:Mp P t K E) (hK:P.underlying K=some (.int .i64)) (hz0:(P.info? E).bind (·.zero)=some z) (h1:z.oneCell'=true) (hk:Zhk es=true) :
   OpD P o H sl 0 0 (.d (.c (Zna z i es))) []:=.read fun B a w ρ hs _=>by
 have ht:=hM.out
 have hz:=fun w=>ZpQ (w:=w) hz0
 refine ⟨Zna z i es,?_,.d (.c (Zms h1 hk))⟩
 have hx':=Zp hs hx
 have hy':=ZbM (Zp hs hy)
 unfold execOp; rw [hop]
 simp only [hy']
 revert hx'
 generalize a.eval x=vx
 intro hx'
 cases hx' with
 | d hd =>
  cases hd with
  | @m b clock _ em g1 g2 g3 =>
   subst g3
   obtain ⟨r,e1,e2⟩:=ZjX z i em.toList 0 hk
   have f1:=MapKept.run_findKey (P:=P) (w:=w) hK e1
   have f2:=MapKept.run_checkKey (P:=P) (w:=w) (k:=.int .i64 i) hK rfl em.isEmpty 9999
   simp only [Nat.reduceAdd] at f2
   have f3:(Instr.lookup t (.map (some b)) (.int .i64 i) false).run P w=.ok (Zna z i (em.toList.map fun e=>(e.key,e.val))) w:=by
    unfold Instr.lookup
    simp only [Sem.run_bind,run_underlying ht,Result.andThen,MapKept.run_getObj_map g2,Sem.run_pure,f2,f1]
    rw [← e2]
    cases r with
    | none=>simp [hz,Result.andThen]
    | some q=>obtain ⟨j,v⟩:=q; simp [Result.andThen]
   simp [Result.andThen,f3]
def Zjg:Value→Bool
 | .nilFunc=>true
 | _=>false
def Zvm:Value→Bool
 | .nilFunc=>true
 | .func _ _ _=>true
 | _=>false
theorem Zuc {w:World} {a b:Array TypeId} {c:Bool} (hT:P.underlying T=some (.func a b c)) {v:Value} (hv:Zvm v=true) (d:Nat):(Op.equalIn (d+1) T v .nilFunc).run P w=.ok (Zjg v) w:=by
 cases v <;> first | (simp [Zvm] at hv; done) | simp [Zjg,Op.equalIn,run_underlying hT,Result.andThen]
theorem ZrC (hop:o.op=.binOp .eql T x y U) (hx:ev sl x=some (.d (.c v))) (hy:ev sl y=some (.d (.c .nilFunc))) (hT0:Zo4 (P.underlying T)=true) (hv:Zvm v=true) :
   OpD P o H sl 0 0 (vB (Zjg v)) []:=by
 obtain ⟨a,b,c,hT⟩:=Znv hT0
 exact Zcv hop hx hy (fun w=>by
  have:=Zuc (P:=P) (w:=w) hT hv 9999
  simp only [Nat.reduceAdd] at this
  simp only [binOp,Op.equal,Op.maxDepth,Sem.run_bind,this,Result.andThen_ok,Sem.run_pure]) (by cases v <;> first | (simp [Zvm] at hv; done) | rfl) rfl
end
end Go.Proofs.YtkcmgbbopedacaaGreatDoor
namespace Go.Proofs.YtkcmgbbopedacaaGreatDoor
open Go.RowKit
attribute [local simp] Sem.run_bind Sem.run_pure Result.andThen_ok
section
variable {P:Program} {o:Oper} {H:Hp} {sl:List (Nat × V)} {x y z:Operand} {T K E:TypeId} {k d:Nat} {s:ByteArray}
theorem run_newObj {w:World} (ob:Obj):(newObj ob).run P w=.ok w.heap.size (w.alloc ob):=rfl
def Zib:Obj→Bool
 | .cells _ _ _=>false
 | _=>true
theorem ZfF {w:World} {r:Nat} {ob:Obj} (h:w.heap[r]?=some ob) (hn:Zib ob=true):(getObj r).run P w=.ok ob w:=by
 cases ob <;> first | (simp [Zib] at hn; done) | simp [getObj,Sem.run,h]
theorem ZhI {w:World} {r:Nat} {ob:Obj} (o':Obj) (h:w.heap[r]?=some ob) (hn:Zib ob=true):(setObj r o').run P w=.ok () { w with heap:=w.heap.setIfInBounds r o' }:=by
 cases ob <;> first | (simp [Zib] at hn; done) | simp [setObj,Sem.run,h]
theorem Zo1 (hop:o.op=.range T x) (hd:o.dst=some d) (hk:d+100=k) (hx:ev sl x=some (vS s)) (ht:P.underlying T=some .string):OpD P o H sl k 1 (.p k 0) [(k,some (.ob (.stringIter s 0)))]:=fun B a w ρ hs hr hfr=>by
 have hx':=ZbM (Zp hs hx)
 have hkk:=hfr k (Nat.le_refl _) (by omega)
 refine ⟨_,.pointer (some ⟨w.heap.size,0,none⟩),w.alloc (.stringIter s 0),upd ρ k (.box w.heap.size),?_,.inl rfl,Step.new1 hkk (fun _ h=>h) (.inl rfl) fun ok' ρ' _ _ h=>h,.p (Y0 _ _ _)⟩
 unfold execOp; rw [hop]
 simp [Instr.range,hx',run_underlying ht,run_newObj]
theorem ZjZ (w:World) (b j:Nat) (o':Obj) (h:j≠b):({ w with heap:=w.heap.setIfInBounds b o' }:World).heap[j]?=w.heap[j]?:=by
 simp only; rw [Array.getElem?_setIfInBounds_ne (Ne.symm h)]
theorem set_self (w:World) (b:Nat) (o' ob:Obj) (h:w.heap[b]?=some ob):({ w with heap:=w.heap.setIfInBounds b o' }:World).heap[b]?=some o':=by
 have hlt:=(Array.getElem?_eq_some_iff.1 h).1
 simp [hlt]
theorem ZmN {pos c wd:Nat} (hop:o.op=.next x true) (hx:ev sl x=some (.p k 0)) (hH:look H k=some (some (.ob (.stringIter s pos)))) (h:pos<s.size) (hc:Utf8.decode s pos=(c,wd)):OpD P o H sl 0 0 (.t [vB true,vI pos,.d (.c (.int .i32 c))]) [(k,some (.ob (.stringIter s (pos+wd))))]:=fun B a w ρ hs hr _=>by
 obtain ⟨l,g1,g2⟩:=hr.rel _ _ hH
 have hx':=Zp hs hx
 cases l with
 | tr _ _=>exact g2.elim
 | arr v=>exact g2.elim
 | box b =>
  have g2:w.heap[b]?=some (.stringIter s pos):=g2
  have e:a.eval x=.pointer (some ⟨b,0,none⟩):=by
   generalize a.eval x=vx at hx'
   cases hx' with
   | p hp=>rw [g1] at hp; simp only [Option.some.injEq,Loc.box.injEq] at hp; rw [hp]
  refine ⟨_,.tuple #[.bool true,.int .i64 pos,.int .i32 c],{ w with heap:=w.heap.setIfInBounds b (.stringIter s (pos+wd)) },ρ,?_,.inl rfl,Step.set1 g1 hH rfl (by simp) rfl rfl rfl (fun j hj=>ZjZ w b j _ hj) fun ok' _=>set_self w b _ _ g2,.t (.cons (.d (.c rfl)) (.cons (.d (.c rfl)) (.cons (.d (.c rfl)) .nil)))⟩
  unfold execOp; rw [hop]
  simp [Instr.next,e,ZfF g2 rfl,h,hc,ZhI _ g2 rfl,goInt]
theorem ZmP {pos:Nat} (hop:o.op=.next x true) (hx:ev sl x=some (.p k 0)) (hH:look H k=some (some (.ob (.stringIter s pos)))) (h:¬ pos<s.size):OpD P o H sl 0 0 (.t [vB false]) []:=.read fun B a w ρ hs hr=>by
 obtain ⟨l,g1,g2⟩:=hr.rel _ _ hH
 have hx':=Zp hs hx
 cases l with
 | tr _ _=>exact g2.elim
 | arr v=>exact g2.elim
 | box b =>
  have g2:w.heap[b]?=some (.stringIter s pos):=g2
  have e:a.eval x=.pointer (some ⟨b,0,none⟩):=by
   generalize a.eval x=vx at hx'
   cases hx' with
   | p hp=>rw [g1] at hp; simp only [Option.some.injEq,Loc.box.injEq] at hp; rw [hp]
  refine ⟨.tuple #[.bool false],?_,.t (.cons (.d (.c rfl)) .nil)⟩
  unfold execOp; rw [hop]
  simp [Instr.next,e,ZfF g2 rfl,h]
theorem Zum (hop:o.op=.makeMap T none) (hd:o.dst=some d) (hk:d+100=k):OpD P o H sl k 1 (.mp k) [(k,some (.ob (.map #[] 0)))]:=fun B a w ρ hs hr hfr=>by
 have hkk:=hfr k (Nat.le_refl _) (by omega)
 refine ⟨_,.map (some w.heap.size),w.alloc (.map #[] 0),upd ρ k (.box w.heap.size),?_,.inl rfl,Step.new1 hkk (fun _ h=>h) (.inl rfl) fun ok' ρ' _ _ h=>h,.mp (Y0 _ _ _)⟩
 unfold execOp; rw [hop]
 simp [Instr.makeMap,run_newObj]
theorem Zr6 {em:Array MapEntry} {clock:Nat} {i:Int} {v:Value} (hop:o.op=.insert T x y z) (hx:ev sl x=some (.mp k)) (hy:ev sl y=some (vI i)) (hz:ev sl z=some (.d (.c v))) (hH:look H k=some (some (.ob (.map em clock)))) (hM:Mp P T K E) (hK:P.underlying K=some (.int .i64))
   (hf:Instr.findNow (.int .i64) (.int .i64 i) em.toList 0=some none):OpD P o H sl 0 0 .un [(k,some (.ob (.map (em.push ⟨.int .i64 i,v,clock⟩) (clock+1))))]:=fun B a w ρ hs hr _=>by
 obtain ⟨l,g1,g2⟩:=hr.rel _ _ hH
 have hx':=Zp hs hx
 have hy':=ZbM (Zp hs hy)
 have hz':=ZbM (Zp hs hz)
 cases l with
 | tr _ _=>exact g2.elim
 | arr v=>exact g2.elim
 | box b =>
  have g2:w.heap[b]?=some (.map em clock):=g2
  have e:a.eval x=.map (some b):=by
   generalize a.eval x=vx at hx'
   cases hx' with
   | mp hp=>rw [g1] at hp; simp only [Option.some.injEq,Loc.box.injEq] at hp; rw [hp]
  have ht:=hM.out
  have f1:=MapKept.run_findKey (P:=P) (w:=w) hK hf
  have f2:=MapKept.run_checkKey (P:=P) (w:=w) (k:=.int .i64 i) hK rfl false 9999
  simp only [Nat.reduceAdd] at f2
  refine ⟨.skip,undef,{ w with heap:=w.heap.setIfInBounds b (.map (em.push ⟨.int .i64 i,v,clock⟩) (clock+1)) },ρ,?_,.inr ⟨rfl,rfl⟩,Step.set1 g1 hH rfl (by simp) rfl rfl rfl (fun j hj=>ZjZ w b j _ hj) fun ok' _=>set_self w b _ _ g2,.un⟩
  unfold execOp; rw [hop]
  simp [Instr.mapUpdate,e,hy',hz',run_underlying ht,ZfF g2 rfl,ZhI _ g2 rfl,f1,f2]
end
theorem ZwU {s:ByteArray} {i c wd:Nat} (h:Utf8.decode s i=(c,wd)) (hc:c<128):c=(s.get! i).toNat∧wd=1:=by
 unfold Utf8.decode at h
 simp only [Nat.add_zero,Utf8.runeError] at h
 repeat' split at h
 all_goals (simp only [Prod.mk.injEq] at h; obtain ⟨rfl,rfl⟩:=h; first | exact ⟨rfl,rfl⟩ | omega | (simp_all; omega))
end Go.Proofs.YtkcmgbbopedacaaGreatDoor
namespace Go.Proofs.YtkcmgbbopedacaaGreatDoor
open Go.RowKit
theorem mixed:Tryz.prog.follows .mixedOrders=true:=by kernel_rfl
end Go.Proofs.YtkcmgbbopedacaaGreatDoor
namespace Go.Proofs.YtkcmgbbopedacaaGreatDoor
open Go.RowKit
instance ty2:Ty Tryz.prog 2 1 false:=⟨by kernel_rfl,by kernel_rfl⟩
instance zo2:Yh Tryz.prog 2 [.int .i64 0]:=⟨by unfold Zu; kernel_rfl⟩
instance ty3:Ty Tryz.prog 3 1 false:=⟨by kernel_rfl,by kernel_rfl⟩
instance zo3:Yh Tryz.prog 3 [.int .i64 0]:=⟨by unfold Zu; kernel_rfl⟩
instance ty4:Ty Tryz.prog 4 1 false:=⟨by kernel_rfl,by kernel_rfl⟩
instance zo4:Yh Tryz.prog 4 [.bool false]:=⟨by unfold Zu; kernel_rfl⟩
instance ty5:Ty Tryz.prog 5 1 false:=⟨by kernel_rfl,by kernel_rfl⟩
instance zo5:Yh Tryz.prog 5 [.int .u8 0]:=⟨by unfold Zu; kernel_rfl⟩
instance ty9:Ty Tryz.prog 9 1 false:=⟨by kernel_rfl,by kernel_rfl⟩
instance zo9:Yh Tryz.prog 9 [.string ⟨#[]⟩]:=⟨by unfold Zu; kernel_rfl⟩
instance ZBU:Ty Tryz.prog 12 1 false:=⟨by kernel_rfl,by kernel_rfl⟩
instance ZB0:Yh Tryz.prog 12 [.int .u64 0]:=⟨by unfold Zu; kernel_rfl⟩
instance ZCb:Ty Tryz.prog 20 1 false:=⟨by kernel_rfl,by kernel_rfl⟩
instance ZCj:Yh Tryz.prog 20 [.nilIface]:=⟨by unfold Zu; kernel_rfl⟩
instance ZCg:Ty Tryz.prog 21 1 false:=⟨by kernel_rfl,by kernel_rfl⟩
instance ZBV:Yh Tryz.prog 21 [.int .i32 0]:=⟨by unfold Zu; kernel_rfl⟩
instance ZBT:Ty Tryz.prog 22 1 false:=⟨by kernel_rfl,by kernel_rfl⟩
instance ZBE:Yh Tryz.prog 22 [.slice none 0 0]:=⟨by unfold Zu; kernel_rfl⟩
instance ZBv:Ty Tryz.prog 23 1 false:=⟨by kernel_rfl,by kernel_rfl⟩
instance ZCs:Yh Tryz.prog 23 [.slice none 0 0]:=⟨by unfold Zu; kernel_rfl⟩
instance ZCl:Ty Tryz.prog 24 1 false:=⟨by kernel_rfl,by kernel_rfl⟩
instance ZB4:Yh Tryz.prog 24 [.slice none 0 0]:=⟨by unfold Zu; kernel_rfl⟩
instance ZB5:Ty Tryz.prog 26 1 false:=⟨by kernel_rfl,by kernel_rfl⟩
instance ZCw:Yh Tryz.prog 26 [.pointer none]:=⟨by unfold Zu; kernel_rfl⟩
instance ZCv:Ty Tryz.prog 32 2 true:=⟨by kernel_rfl,by kernel_rfl⟩
instance ZBK:Yh Tryz.prog 32 [.string ⟨#[]⟩,.bool false]:=⟨by unfold Zu; kernel_rfl⟩
instance ZBY:Ty Tryz.prog 34 1 false:=⟨by kernel_rfl,by kernel_rfl⟩
instance ZCx:Yh Tryz.prog 34 [.slice none 0 0]:=⟨by unfold Zu; kernel_rfl⟩
instance ZCd:Ty Tryz.prog 35 1 false:=⟨by kernel_rfl,by kernel_rfl⟩
instance ZB7:Yh Tryz.prog 35 [.slice none 0 0]:=⟨by unfold Zu; kernel_rfl⟩
instance ZCP:Ty Tryz.prog 41 4 true:=⟨by kernel_rfl,by kernel_rfl⟩
instance ZCc:Yh Tryz.prog 41 [.int .i64 0,.slice none 0 0,.string ⟨#[]⟩,.int .i64 0]:=⟨by unfold Zu; kernel_rfl⟩
instance ZBM:Ty Tryz.prog 43 1 false:=⟨by kernel_rfl,by kernel_rfl⟩
instance ZBu:Yh Tryz.prog 43 [.slice none 0 0]:=⟨by unfold Zu; kernel_rfl⟩
instance ZBt:Ty Tryz.prog 45 1 false:=⟨by kernel_rfl,by kernel_rfl⟩
instance ZBP:Yh Tryz.prog 45 [.slice none 0 0]:=⟨by unfold Zu; kernel_rfl⟩
instance ZCE:Ty Tryz.prog 46 1 false:=⟨by kernel_rfl,by kernel_rfl⟩
instance ZBz:Yh Tryz.prog 46 [.slice none 0 0]:=⟨by unfold Zu; kernel_rfl⟩
instance ZBG:Ty Tryz.prog 48 8 true:=⟨by kernel_rfl,by kernel_rfl⟩
instance ZBW:Yh Tryz.prog 48 [.int .i64 0,.slice none 0 0,.string ⟨#[]⟩,.int .i64 0,.slice none 0 0,.slice none 0 0,.slice none 0 0,.bool false]:=⟨by unfold Zu; kernel_rfl⟩
instance ZCa:Ty Tryz.prog 49 1 false:=⟨by kernel_rfl,by kernel_rfl⟩
instance ZB2:Yh Tryz.prog 49 [.int .i64 0]:=⟨by unfold Zu; kernel_rfl⟩
instance ZBJ:Ty Tryz.prog 54 1 false:=⟨by kernel_rfl,by kernel_rfl⟩
instance ZCL:Yh Tryz.prog 54 [.slice none 0 0]:=⟨by unfold Zu; kernel_rfl⟩
instance ZCF:Ty Tryz.prog 55 1 false:=⟨by kernel_rfl,by kernel_rfl⟩
instance ZCt:Yh Tryz.prog 55 [.slice none 0 0]:=⟨by unfold Zu; kernel_rfl⟩
instance ZBZ:Ty Tryz.prog 60 1 false:=⟨by kernel_rfl,by kernel_rfl⟩
instance ZCR:Yh Tryz.prog 60 [.slice none 0 0]:=⟨by unfold Zu; kernel_rfl⟩
instance ZCe:Ty Tryz.prog 62 1 false:=⟨by kernel_rfl,by kernel_rfl⟩
instance ZCO:Yh Tryz.prog 62 [.slice none 0 0]:=⟨by unfold Zu; kernel_rfl⟩
instance ZBw:Ty Tryz.prog 67 1 false:=⟨by kernel_rfl,by kernel_rfl⟩
instance ZBA:Yh Tryz.prog 67 [.slice none 0 0]:=⟨by unfold Zu; kernel_rfl⟩
instance ZCh:Ty Tryz.prog 69 1 false:=⟨by kernel_rfl,by kernel_rfl⟩
instance ZCo:Yh Tryz.prog 69 [.slice none 0 0]:=⟨by unfold Zu; kernel_rfl⟩
instance ZCz:Ty Tryz.prog 72 4 true:=⟨by kernel_rfl,by kernel_rfl⟩
instance ZCG:Yh Tryz.prog 72 [.string ⟨#[]⟩,.bool false,.string ⟨#[]⟩,.bool false]:=⟨by unfold Zu; kernel_rfl⟩
instance ZCJ:Ty Tryz.prog 74 2 true:=⟨by kernel_rfl,by kernel_rfl⟩
instance ZBH:Yh Tryz.prog 74 [.int .i64 0,.int .i64 0]:=⟨by unfold Zu; kernel_rfl⟩
instance ZCH:Ty Tryz.prog 76 8 true:=⟨by kernel_rfl,by kernel_rfl⟩
instance ZB8:Yh Tryz.prog 76 [.int .i64 0,.string ⟨#[]⟩,.bool false,.string ⟨#[]⟩,.bool false,.int .i64 0,.int .i64 0,.slice none 0 0]:=⟨by unfold Zu; kernel_rfl⟩
instance ZCk:Ty Tryz.prog 78 7 true:=⟨by kernel_rfl,by kernel_rfl⟩
instance ZCi:Yh Tryz.prog 78 [.int .i64 0,.int .i64 0,.int .i64 0,.int .i64 0,.int .i64 0,.string ⟨#[]⟩,.string ⟨#[]⟩]:=⟨by unfold Zu; kernel_rfl⟩
instance ZBs:Ty Tryz.prog 80 8 true:=⟨by kernel_rfl,by kernel_rfl⟩
instance ZBN:Yh Tryz.prog 80 [.slice none 0 0,.int .i64 0,.int .i64 0,.int .i64 0,.int .i64 0,.int .i64 0,.string ⟨#[]⟩,.string ⟨#[]⟩]:=⟨by unfold Zu; kernel_rfl⟩
instance ZBx:Ty Tryz.prog 85 1 false:=⟨by kernel_rfl,by kernel_rfl⟩
instance ZBQ:Yh Tryz.prog 85 [.slice none 0 0]:=⟨by unfold Zu; kernel_rfl⟩
instance ZCy:Ty Tryz.prog 87 6 true:=⟨by kernel_rfl,by kernel_rfl⟩
instance ZCA:Yh Tryz.prog 87 [.int .i64 0,.slice none 0 0,.string ⟨#[]⟩,.int .i64 0,.slice none 0 0,.slice none 0 0]:=⟨by unfold Zu; kernel_rfl⟩
instance ZCr:Ty Tryz.prog 93 1 false:=⟨by kernel_rfl,by kernel_rfl⟩
instance ZCu:Yh Tryz.prog 93 [.slice none 0 0]:=⟨by unfold Zu; kernel_rfl⟩
instance ZCM:Ty Tryz.prog 95 3 true:=⟨by kernel_rfl,by kernel_rfl⟩
instance ZCS:Yh Tryz.prog 95 [.int .i64 0,.bool false,.slice none 0 0]:=⟨by unfold Zu; kernel_rfl⟩
instance ZCK:Ty Tryz.prog 99 3 true:=⟨by kernel_rfl,by kernel_rfl⟩
instance ZCn:Yh Tryz.prog 99 [.string ⟨#[]⟩,.string ⟨#[]⟩,.bool false]:=⟨by unfold Zu; kernel_rfl⟩
instance ZAY:Ty Tryz.prog 101 1 false:=⟨by kernel_rfl,by kernel_rfl⟩
instance ZAz:Yh Tryz.prog 101 [.slice none 0 0]:=⟨by unfold Zu; kernel_rfl⟩
instance ZAv:Ty Tryz.prog 103 10 true:=⟨by kernel_rfl,by kernel_rfl⟩
instance ZAp:Yh Tryz.prog 103 [.int .i64 0,.int .i64 0,.int .i64 0,.int .i64 0,.int .i64 0,.string ⟨#[]⟩,.bool false,.string ⟨#[]⟩,.bool false,.slice none 0 0]:=⟨by unfold Zu; kernel_rfl⟩
instance ZAI:Ty Tryz.prog 105 30 true:=⟨by kernel_rfl,by kernel_rfl⟩
instance ZBi:Yh Tryz.prog 105 [.string ⟨#[]⟩,.bool false,.string ⟨#[]⟩,.bool false,.int .i64 0,.int .i64 0,.slice none 0 0,.slice none 0 0,.int .i64 0,.int .i64 0,.int .i64 0,.int .i64 0,.int .i64 0,.string ⟨#[]⟩,.bool false,.string ⟨#[]⟩,.bool false,.slice none 0 0,.int .i64 0,.int .i64 0,.int .i64 0,.int .i64 0,.int .i64 0,.string ⟨#[]⟩,.bool false,.string ⟨#[]⟩,.bool false,.slice none 0 0,.int .i64 0,.int .i64 0]:=⟨by unfold Zu; kernel_rfl⟩
instance ZAs:Ty Tryz.prog 107 32 true:=⟨by kernel_rfl,by kernel_rfl⟩
instance ZA9:Yh Tryz.prog 107 [.int .i64 0,.bool false,.string ⟨#[]⟩,.bool false,.string ⟨#[]⟩,.bool false,.int .i64 0,.int .i64 0,.slice none 0 0,.slice none 0 0,.int .i64 0,.int .i64 0,.int .i64 0,.int .i64 0,.int .i64 0,.string ⟨#[]⟩,.bool false,.string ⟨#[]⟩,.bool false,.slice none 0 0,.int .i64 0,.int .i64 0,.int .i64 0,.int .i64 0,.int .i64 0,.string ⟨#[]⟩,.bool false,.string ⟨#[]⟩,.bool false,.slice none 0 0,.int .i64 0,.int .i64 0]:=⟨by unfold Zu; kernel_rfl⟩
instance ZAB:Ty Tryz.prog 124 6 true:=⟨by kernel_rfl,by kernel_rfl⟩
instance ZAo:Yh Tryz.prog 124 [.int .i64 0,.slice none 0 0,.string ⟨#[]⟩,.int .i64 0,.slice none 0 0,.slice none 0 0]:=⟨by unfold Zu; kernel_rfl⟩
instance ZAi:Ty Tryz.prog 126 2 true:=⟨by kernel_rfl,by kernel_rfl⟩
instance ZAK:Yh Tryz.prog 126 [.slice none 0 0,.int .i64 0]:=⟨by unfold Zu; kernel_rfl⟩
instance ZBg:Ty Tryz.prog 144 1 false:=⟨by kernel_rfl,by kernel_rfl⟩
instance ZAH:Yh Tryz.prog 144 [.pointer none]:=⟨by unfold Zu; kernel_rfl⟩
instance ZAA:Ty Tryz.prog 147 12 true:=⟨by kernel_rfl,by kernel_rfl⟩
instance ZAj:Yh Tryz.prog 147 [.int .i64 0,.slice none 0 0,.string ⟨#[]⟩,.string ⟨#[]⟩,.bool false,.int .i64 0,.int .i64 0,.slice none 0 0,.string ⟨#[]⟩,.int .i64 0,.slice none 0 0,.slice none 0 0]:=⟨by unfold Zu; kernel_rfl⟩
instance ZAx:Ty Tryz.prog 149 12 true:=⟨by kernel_rfl,by kernel_rfl⟩
instance ZAO:Yh Tryz.prog 149 [.int .i64 0,.string ⟨#[]⟩,.bool false,.string ⟨#[]⟩,.bool false,.int .i64 0,.int .i64 0,.slice none 0 0,.string ⟨#[]⟩,.bool false,.string ⟨#[]⟩,.bool false]:=⟨by unfold Zu; kernel_rfl⟩
instance ZAq:Ty Tryz.prog 154 2 true:=⟨by kernel_rfl,by kernel_rfl⟩
instance ZAm:Yh Tryz.prog 154 [.string ⟨#[]⟩,.string ⟨#[]⟩]:=⟨by unfold Zu; kernel_rfl⟩
instance ZAW:Ty Tryz.prog 161 1 false:=⟨by kernel_rfl,by kernel_rfl⟩
instance ZAk:Yh Tryz.prog 161 [.pointer none]:=⟨by unfold Zu; kernel_rfl⟩
instance ZAE:Ty Tryz.prog 195 6 true:=⟨by kernel_rfl,by kernel_rfl⟩
instance ZAb:Yh Tryz.prog 195 [.string ⟨#[]⟩,.string ⟨#[]⟩,.string ⟨#[]⟩,.string ⟨#[]⟩,.string ⟨#[]⟩,.string ⟨#[]⟩]:=⟨by unfold Zu; kernel_rfl⟩
instance ZAl:Ty Tryz.prog 205 2 true:=⟨by kernel_rfl,by kernel_rfl⟩
instance ZAD:Yh Tryz.prog 205 [.nilFunc,.nilFunc]:=⟨by unfold Zu; kernel_rfl⟩
instance ZBn:Ty Tryz.prog 214 1 false:=⟨by kernel_rfl,by kernel_rfl⟩
instance ZBm:Yh Tryz.prog 214 [.pointer none]:=⟨by unfold Zu; kernel_rfl⟩
instance ZBd:Ty Tryz.prog 215 1 false:=⟨by kernel_rfl,by kernel_rfl⟩
instance ZA2:Yh Tryz.prog 215 [.map none]:=⟨by unfold Zu; kernel_rfl⟩
instance ZAc:Ty Tryz.prog 216 1 false:=⟨by kernel_rfl,by kernel_rfl⟩
instance ZA4:Yh Tryz.prog 216 [.map none]:=⟨by unfold Zu; kernel_rfl⟩
instance ZBe:Ty Tryz.prog 217 1 false:=⟨by kernel_rfl,by kernel_rfl⟩
instance ZAP:Yh Tryz.prog 217 [.map none]:=⟨by unfold Zu; kernel_rfl⟩
instance ZAr:Ty Tryz.prog 219 5 true:=⟨by kernel_rfl,by kernel_rfl⟩
instance ZBb:Yh Tryz.prog 219 [.slice none 0 0,.slice none 0 0,.map none,.map none,.map none]:=⟨by unfold Zu; kernel_rfl⟩
instance ZA5:Ty Tryz.prog 248 1 false:=⟨by kernel_rfl,by kernel_rfl⟩
instance ZAM:Yh Tryz.prog 248 [.map none]:=⟨by unfold Zu; kernel_rfl⟩
instance ZAF:Ty Tryz.prog 260 1 false:=⟨by kernel_rfl,by kernel_rfl⟩
instance ZAh:Yh Tryz.prog 260 [.int .u64 0]:=⟨by unfold Zu; kernel_rfl⟩
instance ZA3:Ty Tryz.prog 262 1 false:=⟨by kernel_rfl,by kernel_rfl⟩
instance ZAR:Yh Tryz.prog 262 [.slice none 0 0]:=⟨by unfold Zu; kernel_rfl⟩
instance ZAf:Ty Tryz.prog 268 7 true:=⟨by kernel_rfl,by kernel_rfl⟩
instance ZA7:Yh Tryz.prog 268 [.int .i64 0,.int .i64 0,.int .i64 0,.int .i64 0,.int .i64 0,.string ⟨#[]⟩,.string ⟨#[]⟩]:=⟨by unfold Zu; kernel_rfl⟩
instance ZAN:Ty Tryz.prog 273 1 false:=⟨by kernel_rfl,by kernel_rfl⟩
instance ZAJ:Yh Tryz.prog 273 [.pointer none]:=⟨by unfold Zu; kernel_rfl⟩
instance ZAg:Ty Tryz.prog 282 1 false:=⟨by kernel_rfl,by kernel_rfl⟩
instance ZAe:Yh Tryz.prog 282 [.int .u32 0]:=⟨by unfold Zu; kernel_rfl⟩
instance ZAX:Ty Tryz.prog 284 1 false:=⟨by kernel_rfl,by kernel_rfl⟩
instance ZBc:Yh Tryz.prog 284 [.int .u64 0]:=⟨by unfold Zu; kernel_rfl⟩
instance ZAS:Ty Tryz.prog 289 1 false:=⟨by kernel_rfl,by kernel_rfl⟩
instance ZBf:Yh Tryz.prog 289 [.pointer none]:=⟨by unfold Zu; kernel_rfl⟩
instance ZBS:Sl Tryz.prog 22 3 1 8:=Sl.mk' (by kernel_rfl) (by kernel_rfl)
instance ZBq:Sl Tryz.prog 23 72 4 48:=Sl.mk' (by kernel_rfl) (by kernel_rfl)
instance ZCB:Sl Tryz.prog 24 32 2 24:=Sl.mk' (by kernel_rfl) (by kernel_rfl)
instance ZCI:Sl Tryz.prog 34 23 1 24:=Sl.mk' (by kernel_rfl) (by kernel_rfl)
instance ZCQ:Sl Tryz.prog 35 24 1 24:=Sl.mk' (by kernel_rfl) (by kernel_rfl)
instance ZBp:Sl Tryz.prog 43 5 1 1:=Sl.mk' (by kernel_rfl) (by kernel_rfl)
instance ZCC:Sl Tryz.prog 45 41 4 56:=Sl.mk' (by kernel_rfl) (by kernel_rfl)
instance ZB1:Sl Tryz.prog 46 124 6 104:=Sl.mk' (by kernel_rfl) (by kernel_rfl)
instance ZBC:Sl Tryz.prog 54 147 12 184:=Sl.mk' (by kernel_rfl) (by kernel_rfl)
instance ZBO:Sl Tryz.prog 55 154 2 32:=Sl.mk' (by kernel_rfl) (by kernel_rfl)
instance ZB6:Sl Tryz.prog 60 55 1 24:=Sl.mk' (by kernel_rfl) (by kernel_rfl)
instance ZCD:Sl Tryz.prog 62 54 1 24:=Sl.mk' (by kernel_rfl) (by kernel_rfl)
instance ZBX:Sl Tryz.prog 67 76 8 96:=Sl.mk' (by kernel_rfl) (by kernel_rfl)
instance ZBD:Sl Tryz.prog 69 95 3 40:=Sl.mk' (by kernel_rfl) (by kernel_rfl)
instance ZBy:Sl Tryz.prog 85 149 12 144:=Sl.mk' (by kernel_rfl) (by kernel_rfl)
instance ZBF:Sl Tryz.prog 93 107 32 368:=Sl.mk' (by kernel_rfl) (by kernel_rfl)
instance ZBa:Sl Tryz.prog 101 99 3 40:=Sl.mk' (by kernel_rfl) (by kernel_rfl)
instance ZAL:Sl Tryz.prog 262 85 1 24:=Sl.mk' (by kernel_rfl) (by kernel_rfl)
end Go.Proofs.YtkcmgbbopedacaaGreatDoor
namespace Go.Proofs.YtkcmgbbopedacaaGreatDoor
open Go.RowKit
instance ZBh:Ab Tryz.prog 195 [(0,1),(1,1),(2,1),(3,1),(4,1),(5,1)] [.string ⟨#[]⟩,.string ⟨#[]⟩,.string ⟨#[]⟩,.string ⟨#[]⟩,.string ⟨#[]⟩,.string ⟨#[]⟩]:=⟨⟨6,9,1,by kernel_rfl,by kernel_rfl,by kernel_rfl⟩,by unfold Zu; kernel_rfl⟩
instance ZAw:Ar Tryz.prog 195 6 9:=⟨by kernel_rfl⟩
instance ZAQ:Mp Tryz.prog 215 3 3:=⟨by kernel_rfl⟩
instance ZAu:Mp Tryz.prog 216 3 41:=⟨by kernel_rfl⟩
instance ZAy:Mp Tryz.prog 217 3 4:=⟨by kernel_rfl⟩
instance ZA6:Mp Tryz.prog 248 3 142:=⟨by kernel_rfl⟩
instance ZzE:Fo Tryz.prog 32 0 0:=⟨by kernel_rfl⟩
instance Zz0:Fo Tryz.prog 32 1 1:=⟨by kernel_rfl⟩
instance ZCf:Bd Tryz.prog 32 [(0,1),(1,1)] [.string ⟨#[]⟩,.bool false]:=⟨by kernel_rfl,by unfold Zu; kernel_rfl⟩
instance ZzD:Fo Tryz.prog 41 0 0:=⟨by kernel_rfl⟩
instance ZzW:Fo Tryz.prog 41 1 1:=⟨by kernel_rfl⟩
instance ZzS:Fo Tryz.prog 41 2 2:=⟨by kernel_rfl⟩
instance Zzz:Fo Tryz.prog 41 3 3:=⟨by kernel_rfl⟩
instance ZB9:Bd Tryz.prog 41 [(0,1),(1,1),(2,1),(3,1)] [.int .i64 0,.slice none 0 0,.string ⟨#[]⟩,.int .i64 0]:=⟨by kernel_rfl,by unfold Zu; kernel_rfl⟩
instance Zzs:Fo Tryz.prog 48 0 0:=⟨by kernel_rfl⟩
instance ZzC:Fo Tryz.prog 48 1 4:=⟨by kernel_rfl⟩
instance Zzr:Fo Tryz.prog 48 2 5:=⟨by kernel_rfl⟩
instance ZzP:Fo Tryz.prog 48 3 6:=⟨by kernel_rfl⟩
instance ZzM:Fo Tryz.prog 48 4 7:=⟨by kernel_rfl⟩
instance ZCN:Bd Tryz.prog 48 [(0,4),(4,1),(5,1),(6,1),(7,1)] [.int .i64 0,.slice none 0 0,.string ⟨#[]⟩,.int .i64 0,.slice none 0 0,.slice none 0 0,.slice none 0 0,.bool false]:=⟨by kernel_rfl,by unfold Zu; kernel_rfl⟩
instance ZzO:Fo Tryz.prog 72 0 0:=⟨by kernel_rfl⟩
instance ZzL:Fo Tryz.prog 72 1 2:=⟨by kernel_rfl⟩
instance ZBr:Bd Tryz.prog 72 [(0,2),(2,2)] [.string ⟨#[]⟩,.bool false,.string ⟨#[]⟩,.bool false]:=⟨by kernel_rfl,by unfold Zu; kernel_rfl⟩
instance Zzy:Fo Tryz.prog 74 0 0:=⟨by kernel_rfl⟩
instance ZzH:Fo Tryz.prog 74 1 1:=⟨by kernel_rfl⟩
instance ZCm:Bd Tryz.prog 74 [(0,1),(1,1)] [.int .i64 0,.int .i64 0]:=⟨by kernel_rfl,by unfold Zu; kernel_rfl⟩
instance ZzZ:Fo Tryz.prog 76 0 0:=⟨by kernel_rfl⟩
instance ZzK:Fo Tryz.prog 76 1 1:=⟨by kernel_rfl⟩
instance Zzw:Fo Tryz.prog 76 2 5:=⟨by kernel_rfl⟩
instance Zz1:Fo Tryz.prog 76 3 7:=⟨by kernel_rfl⟩
instance ZBL:Bd Tryz.prog 76 [(0,1),(1,4),(5,2),(7,1)] [.int .i64 0,.string ⟨#[]⟩,.bool false,.string ⟨#[]⟩,.bool false,.int .i64 0,.int .i64 0,.slice none 0 0]:=⟨by kernel_rfl,by unfold Zu; kernel_rfl⟩
instance ZzQ:Fo Tryz.prog 78 0 0:=⟨by kernel_rfl⟩
instance ZzA:Fo Tryz.prog 78 1 1:=⟨by kernel_rfl⟩
instance ZzG:Fo Tryz.prog 78 2 2:=⟨by kernel_rfl⟩
instance ZzR:Fo Tryz.prog 78 3 3:=⟨by kernel_rfl⟩
instance ZzV:Fo Tryz.prog 78 4 4:=⟨by kernel_rfl⟩
instance Zzu:Fo Tryz.prog 78 5 5:=⟨by kernel_rfl⟩
instance Zzt:Fo Tryz.prog 78 6 6:=⟨by kernel_rfl⟩
instance ZBB:Bd Tryz.prog 78 [(0,1),(1,1),(2,1),(3,1),(4,1),(5,1),(6,1)] [.int .i64 0,.int .i64 0,.int .i64 0,.int .i64 0,.int .i64 0,.string ⟨#[]⟩,.string ⟨#[]⟩]:=⟨by kernel_rfl,by unfold Zu; kernel_rfl⟩
instance ZzU:Fo Tryz.prog 80 0 0:=⟨by kernel_rfl⟩
instance ZzB:Fo Tryz.prog 80 1 1:=⟨by kernel_rfl⟩
instance ZBI:Bd Tryz.prog 80 [(0,1),(1,7)] [.slice none 0 0,.int .i64 0,.int .i64 0,.int .i64 0,.int .i64 0,.int .i64 0,.string ⟨#[]⟩,.string ⟨#[]⟩]:=⟨by kernel_rfl,by unfold Zu; kernel_rfl⟩
instance ZzT:Fo Tryz.prog 87 0 0:=⟨by kernel_rfl⟩
instance ZzI:Fo Tryz.prog 87 1 4:=⟨by kernel_rfl⟩
instance ZzN:Fo Tryz.prog 87 2 5:=⟨by kernel_rfl⟩
instance ZCp:Bd Tryz.prog 87 [(0,4),(4,1),(5,1)] [.int .i64 0,.slice none 0 0,.string ⟨#[]⟩,.int .i64 0,.slice none 0 0,.slice none 0 0]:=⟨by kernel_rfl,by unfold Zu; kernel_rfl⟩
instance ZzJ:Fo Tryz.prog 95 1 1:=⟨by kernel_rfl⟩
instance Zzx:Fo Tryz.prog 95 2 2:=⟨by kernel_rfl⟩
instance ZBR:Bd Tryz.prog 95 [(0,1),(1,1),(2,1)] [.int .i64 0,.bool false,.slice none 0 0]:=⟨by kernel_rfl,by unfold Zu; kernel_rfl⟩
instance Zzv:Fo Tryz.prog 99 0 0:=⟨by kernel_rfl⟩
instance ZzF:Fo Tryz.prog 99 1 1:=⟨by kernel_rfl⟩
instance ZzY:Fo Tryz.prog 99 2 2:=⟨by kernel_rfl⟩
instance ZCq:Bd Tryz.prog 99 [(0,1),(1,1),(2,1)] [.string ⟨#[]⟩,.string ⟨#[]⟩,.bool false]:=⟨by kernel_rfl,by unfold Zu; kernel_rfl⟩
instance ZyZ:Fo Tryz.prog 103 0 0:=⟨by kernel_rfl⟩
instance ZyW:Fo Tryz.prog 103 1 1:=⟨by kernel_rfl⟩
instance Zy0:Fo Tryz.prog 103 2 2:=⟨by kernel_rfl⟩
instance ZyI:Fo Tryz.prog 103 3 3:=⟨by kernel_rfl⟩
instance ZyK:Fo Tryz.prog 103 4 5:=⟨by kernel_rfl⟩
instance ZyM:Fo Tryz.prog 103 5 9:=⟨by kernel_rfl⟩
instance ZAC:Bd Tryz.prog 103 [(0,1),(1,1),(2,1),(3,2),(5,4),(9,1)] [.int .i64 0,.int .i64 0,.int .i64 0,.int .i64 0,.int .i64 0,.string ⟨#[]⟩,.bool false,.string ⟨#[]⟩,.bool false,.slice none 0 0]:=⟨by kernel_rfl,by unfold Zu; kernel_rfl⟩
instance ZyN:Fo Tryz.prog 105 0 0:=⟨by kernel_rfl⟩
instance ZyF:Fo Tryz.prog 105 1 4:=⟨by kernel_rfl⟩
instance ZyX:Fo Tryz.prog 105 2 6:=⟨by kernel_rfl⟩
instance ZyV:Fo Tryz.prog 105 3 7:=⟨by kernel_rfl⟩
instance Zy3:Fo Tryz.prog 105 4 8:=⟨by kernel_rfl⟩
instance ZyU:Fo Tryz.prog 105 5 18:=⟨by kernel_rfl⟩
instance ZyO:Fo Tryz.prog 105 6 28:=⟨by kernel_rfl⟩
instance ZyA:Fo Tryz.prog 105 7 29:=⟨by kernel_rfl⟩
instance ZBo:Bd Tryz.prog 105 [(0,4),(4,2),(6,1),(7,1),(8,10),(18,10),(28,1),(29,1)] [.string ⟨#[]⟩,.bool false,.string ⟨#[]⟩,.bool false,.int .i64 0,.int .i64 0,.slice none 0 0,.slice none 0 0,.int .i64 0,.int .i64 0,.int .i64 0,.int .i64 0,.int .i64 0,.string ⟨#[]⟩,.bool false,.string ⟨#[]⟩,.bool false,.slice none 0 0,.int .i64 0,.int .i64 0,.int .i64 0,.int .i64 0,.int .i64 0,.string ⟨#[]⟩,.bool false,.string ⟨#[]⟩,.bool false,.slice none 0 0,.int .i64 0,.int .i64 0]:=⟨by kernel_rfl,by unfold Zu; kernel_rfl⟩
instance Zyz:Fo Tryz.prog 107 0 0:=⟨by kernel_rfl⟩
instance Zy2:Fo Tryz.prog 107 1 1:=⟨by kernel_rfl⟩
instance ZyS:Fo Tryz.prog 107 2 2:=⟨by kernel_rfl⟩
instance ZBl:Bd Tryz.prog 107 [(0,1),(1,1),(2,30)] [.int .i64 0,.bool false,.string ⟨#[]⟩,.bool false,.string ⟨#[]⟩,.bool false,.int .i64 0,.int .i64 0,.slice none 0 0,.slice none 0 0,.int .i64 0,.int .i64 0,.int .i64 0,.int .i64 0,.int .i64 0,.string ⟨#[]⟩,.bool false,.string ⟨#[]⟩,.bool false,.slice none 0 0,.int .i64 0,.int .i64 0,.int .i64 0,.int .i64 0,.int .i64 0,.string ⟨#[]⟩,.bool false,.string ⟨#[]⟩,.bool false,.slice none 0 0,.int .i64 0,.int .i64 0]:=⟨by kernel_rfl,by unfold Zu; kernel_rfl⟩
instance Zy5:Fo Tryz.prog 124 0 0:=⟨by kernel_rfl⟩
instance ZyL:Fo Tryz.prog 124 1 4:=⟨by kernel_rfl⟩
instance ZyD:Fo Tryz.prog 124 2 5:=⟨by kernel_rfl⟩
instance ZBj:Bd Tryz.prog 124 [(0,4),(4,1),(5,1)] [.int .i64 0,.slice none 0 0,.string ⟨#[]⟩,.int .i64 0,.slice none 0 0,.slice none 0 0]:=⟨by kernel_rfl,by unfold Zu; kernel_rfl⟩
instance ZyY:Fo Tryz.prog 126 0 0:=⟨by kernel_rfl⟩
instance ZyR:Fo Tryz.prog 126 1 1:=⟨by kernel_rfl⟩
instance ZAV:Bd Tryz.prog 126 [(0,1),(1,1)] [.slice none 0 0,.int .i64 0]:=⟨by kernel_rfl,by unfold Zu; kernel_rfl⟩
instance ZA8:Bd Tryz.prog 147 [(0,1),(1,1),(2,1),(3,1),(4,1),(5,1),(6,6)] [.int .i64 0,.slice none 0 0,.string ⟨#[]⟩,.string ⟨#[]⟩,.bool false,.int .i64 0,.int .i64 0,.slice none 0 0,.string ⟨#[]⟩,.int .i64 0,.slice none 0 0,.slice none 0 0]:=⟨by kernel_rfl,by unfold Zu; kernel_rfl⟩
instance Zy4:Fo Tryz.prog 149 0 0:=⟨by kernel_rfl⟩
instance ZyQ:Fo Tryz.prog 149 1 8:=⟨by kernel_rfl⟩
instance ZAn:Bd Tryz.prog 149 [(0,8),(8,4)] [.int .i64 0,.string ⟨#[]⟩,.bool false,.string ⟨#[]⟩,.bool false,.int .i64 0,.int .i64 0,.slice none 0 0,.string ⟨#[]⟩,.bool false,.string ⟨#[]⟩,.bool false]:=⟨by kernel_rfl,by unfold Zu; kernel_rfl⟩
instance ZyT:Fo Tryz.prog 154 0 0:=⟨by kernel_rfl⟩
instance ZyB:Fo Tryz.prog 154 1 1:=⟨by kernel_rfl⟩
instance ZBk:Bd Tryz.prog 154 [(0,1),(1,1)] [.string ⟨#[]⟩,.string ⟨#[]⟩]:=⟨by kernel_rfl,by unfold Zu; kernel_rfl⟩
instance ZA0:Bd Tryz.prog 219 [(0,1),(1,1),(2,1),(3,1),(4,1)] [.slice none 0 0,.slice none 0 0,.map none,.map none,.map none]:=⟨by kernel_rfl,by unfold Zu; kernel_rfl⟩
instance Zy1:Fo Tryz.prog 268 0 0:=⟨by kernel_rfl⟩
instance ZyH:Fo Tryz.prog 268 1 1:=⟨by kernel_rfl⟩
instance ZyP:Fo Tryz.prog 268 2 2:=⟨by kernel_rfl⟩
instance ZyJ:Fo Tryz.prog 268 3 3:=⟨by kernel_rfl⟩
instance ZyE:Fo Tryz.prog 268 4 4:=⟨by kernel_rfl⟩
instance ZyG:Fo Tryz.prog 268 5 5:=⟨by kernel_rfl⟩
instance ZyC:Fo Tryz.prog 268 6 6:=⟨by kernel_rfl⟩
instance ZAt:Bd Tryz.prog 268 [(0,1),(1,1),(2,1),(3,1),(4,1),(5,1),(6,1)] [.int .i64 0,.int .i64 0,.int .i64 0,.int .i64 0,.int .i64 0,.string ⟨#[]⟩,.string ⟨#[]⟩]:=⟨by kernel_rfl,by unfold Zu; kernel_rfl⟩
end Go.Proofs.YtkcmgbbopedacaaGreatDoor
namespace Go.Proofs.YtkcmgbbopedacaaGreatDoor
open Go.RowKit
theorem ba_eq {a b:ByteArray} (h:a.toList=b.toList):a=b:=by
 rw [ByteArray.toList_eq,ByteArray.toList_eq] at h
 apply ByteArray.ext
 exact Array.ext' h
theorem lt_irrefl (a:Bnd):a.lt a=false:=by simp [Bnd.lt,YA]
theorem lt_trans {a b c:Bnd} (h:a.lt b=true) (k:b.lt c=true):a.lt c=true:=by
 simp only [Bnd.lt,Bool.and_eq_true,Bool.or_eq_true,Bool.not_eq_true'] at *
 obtain ⟨h1,h2⟩:=h
 obtain ⟨k1,k2⟩:=k
 refine ⟨h1,?_⟩
 rcases h2 with h2 | h2
 ·rw [k1] at h2; cases h2
 ·rcases k2 with k2 | k2
  ·exact Or.inl k2
  ·exact Or.inr (Yx h2 k2)
theorem QH {a b:Bnd} (ha:vb a=true) (hb:vb b=true) (h:a.lt b=false) (k:b.lt a=false):a=b:=by
 obtain ⟨ak,at'⟩:=a
 obtain ⟨bk,bt⟩:=b
 simp only [vb,Bool.and_eq_true,Bool.or_eq_true,Bool.not_eq_true'] at ha hb
 simp only [Bnd.lt,Bool.and_eq_false_iff,Bool.not_eq_false',Bool.or_eq_false_iff] at h k
 cases at' <;> cases bt <;> simp at h k ha hb
 ·have:=YW h k; rw [ba_eq this]
 ·rw [ba_eq (ha.2.trans hb.2.symm)]
theorem ZE (r:Rng):emp r=false↔vb r.lo=true∧vb r.hi=true∧r.lo.lt r.hi=true:=by
 simp only [emp,vld,Bool.or_eq_false_iff,Bool.not_eq_false',Bool.and_eq_true,decide_eq_true_eq,beq_eq_false_iff_ne]
 have h1:=XW r.lo r.hi; have h2:=Zet r.lo r.hi
 constructor
 ·rintro ⟨⟨⟨a,b⟩,c⟩,d⟩; exact ⟨a,b,h1.1 (by omega)⟩
 ·rintro ⟨a,b,c⟩; have:=h1.2 c; exact ⟨⟨⟨a,b⟩,by omega⟩,by omega⟩
theorem Qh (a b:Bnd):greater a b=if a.lt b then b else a:=by
 unfold greater; have:=Xw b a
 by_cases h:a.lt b=true
 ·rw [if_pos (this.2 h),if_pos h]
 ·rw [if_neg (fun e=>h (this.1 e)),if_neg h]
theorem Zby (a b:Bnd):lesser a b=if b.lt a then b else a:=by
 unfold lesser; have:=XW b a
 by_cases h:b.lt a=true
 ·rw [if_pos (this.2 h),if_pos h]
 ·rw [if_neg (fun e=>h (this.1 e)),if_neg h]
theorem Zd8 {a b:Bnd} (ha:vb a=true) (hb:vb b=true):vb (greater a b)=true:=by rw [Qh]; split <;> assumption
theorem ZgW {a b:Bnd} (ha:vb a=true) (hb:vb b=true):vb (lesser a b)=true:=by rw [Zby]; split <;> assumption
theorem Zku {a b c:Bnd} (ha:vb a=true) (hb:vb b=true) (h:a.lt b=false) (k:a.lt c=true):b.lt c=true:=by grind [QH,lt_trans]
theorem Zee {a b c:Bnd} (hb:vb b=true) (hc:vb c=true) (h:a.lt b=true) (k:c.lt b=false):a.lt c=true:=by grind [QH,lt_trans]
theorem ZfU:emp zr=true:=by kernel_rfl
theorem Zei {x y:Bnd} (hx:vb x=true) (hy:vb y=true):emp ⟨x,y⟩=!x.lt y:=by
 cases h:x.lt y
 ·cases e:emp ⟨x,y⟩ with
  | true=>rfl
  | false=>have:=((ZE _).1 e).2.2; rw [h] at this; cases this
 ·exact (ZE _).2 ⟨hx,hy,h⟩
theorem Zc6 {a b:Rng} (ha:emp a=false) (hb:emp b=false):Yt a b=if (greater a.lo b.lo).lt (lesser a.hi b.hi) then ⟨greater a.lo b.lo,lesser a.hi b.hi⟩ else zr:=by
 have ha':=(ZE a).1 ha
 have hb':=(ZE b).1 hb
 rw [Yt,ha,hb,Zei (Zd8 ha'.1 hb'.1) (ZgW ha'.2.1 hb'.2.1)]
 cases (greater a.lo b.lo).lt (lesser a.hi b.hi) <;> rfl
theorem ZiI {a b:Rng} (h:emp a=true):Yt a b=zr:=by simp [Yt,h]
theorem Zme {a b:Rng} (h:emp b=true):Yt a b=zr:=by simp [Yt,h]
end Go.Proofs.YtkcmgbbopedacaaGreatDoor
namespace Go.Proofs.YtkcmgbbopedacaaGreatDoor
open Go.RowKit
def upl:List UInt8→Option (List UInt8)
 | []=>none
 | x::r=>match upl r with
  | some r'=>some (x::r')
  | none=>if x=255 then none else some [x+1]
theorem ZkP:∀ q:List UInt8,upl (q++[255])=upl q
 | []=>rfl
 | x::r=>by rw [List.cons_append,upl,upl,ZkP r]
theorem ZlU (q:List UInt8) {x:UInt8} (hx:x≠255):upl (q++[x])=some (q++[x+1]):=by
 induction q with
 | nil=>simp [upl,hx]
 | cons y r ih=>rw [List.cons_append,upl,ih]; rfl
def upb (p:ByteArray):Bnd:=match upl p.toList with
 | some u=>⟨⟨u.toArray⟩,false⟩
 | none=>⟨⟨#[]⟩,true⟩
def pfx (p:ByteArray):Rng:=if vk p then ⟨⟨p,false⟩,upb p⟩ else zr
theorem Zec (p:ByteArray):p.toList.length=p.size:=by rw [ByteArray.toList_eq]; exact Array.length_toList
end Go.Proofs.YtkcmgbbopedacaaGreatDoor
namespace Go.Proofs.YtkcmgbbopedacaaGreatDoor
open Go.RowKit
class Len {α:Type} (f:α→List D) (z:outParam Nat):Prop where
 len:∀ a,(f a).length=z
def Rng.ds (r:Rng):List D:=[dS r.lo.key,dB r.lo.top,dS r.hi.key,dB r.hi.top]
instance : Len Rng.ds 4:=⟨fun _=>rfl⟩
structure Kv where
 key:ByteArray
 val:ByteArray
 deriving DecidableEq
theorem Kv.eta (r:Kv):Kv.mk r.key r.val=r:=rfl
theorem Bnd.eta (r:Bnd):Bnd.mk r.key r.top=r:=rfl
theorem Rng.eta (r:Rng):Rng.mk r.lo r.hi=r:=rfl
theorem Xx (m:Nat):((m:Int) - 1).toNat=m - 1:=by omega
def Kv.ds (r:Kv):List D:=[dS r.key,dS r.val]
instance : Len Kv.ds 2:=⟨fun _=>rfl⟩
def dsI (z:Int):List D:=[dI z]
instance : Len dsI 1:=⟨fun _=>rfl⟩
abbrev ZxW (l:List Int):D:=lst dsI l
structure Fd where
 count:Int
 nums:Int
 sum:Int
 low:Int
 high:Int
 first:ByteArray
 last:ByteArray
structure Qy where
 kind:Int
 rs:List Rng
 key:ByteArray
 count:Int
theorem ZtN {α:Type} {p:α→Bool} {l:List α} {m:Nat} (h:∀ j (h:j<l.length),j<m→p l[j]=true) (hm:l.length≤m):l.all p=true:=by
 rw [List.all_eq_true]
 intro x hx
 obtain ⟨j,hj,rfl⟩:=List.mem_iff_getElem.1 hx
 exact h j hj (by omega)
theorem Zpt {α:Type} {p:α→Bool} {l:List α} {m:Nat} (hm:m<l.length) (h:(!p l[m])=true):l.all p=false:=by
 rw [List.all_eq_false]
 exact ⟨l[m],List.getElem_mem hm,by simpa using h⟩
end Go.Proofs.YtkcmgbbopedacaaGreatDoor
