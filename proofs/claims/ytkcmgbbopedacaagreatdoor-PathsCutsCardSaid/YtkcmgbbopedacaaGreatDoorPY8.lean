/-
  Lemmas: What the program's structs hold, as deep values.
-/
import Derived.Test.YtkcmgbbopedacaaGreatDoorPY7
import Derived.MapKept
import Derived.Test.YtkcmgbbopedacaaGreatDoorChecked
import Derived.Test.YtkcmgbbopedacaaGreatDoorPY1
import Derived.Deep.DeepCutAuto
import Derived.Test.YtkcmgbbopedacaaGreatDoorPY2
import Derived.Test.YtkcmgbbopedacaaGreatDoorPY4
set_option linter.unusedSimpArgs false
set_option linter.unusedVariables false
namespace Go.Proofs.YtkcmgbbopedacaaGreatDoor
open Go.RowKit
def ZmP (z:Value) (i:Int):List (Value × Value)→Value
 | []=>z
 | (.int .i64 a,v)::r=>if i=a then v else ZmP z i r
 | (_,_)::r=>ZmP z i r
def Zg5:List (Value × Value)→Bool
 | []=>true
 | (.int .i64 _,v)::r=>v.oneCell' && Zg5 r
 | (_,_)::_=>false
theorem Zjj (z:Value) (i:Int):∀ (l:List MapEntry) (n:Nat),Zg5 (l.map fun e=>(e.key,e.val))=true →
   ∃ r,Instr.findNow (.int .i64) (.int .i64 i) l n=some r∧(match r with | some (_,v)=>v | none=>z)=ZmP z i (l.map fun e=>(e.key,e.val))
 | [],n,_=>⟨none,rfl,rfl⟩
 | ⟨kk,v,bn⟩::r,n,h=>by
  cases kk with
  | int k a =>
   cases k <;> first | (simp [Zg5] at h; done) | skip
   simp only [List.map_cons,Zg5,Bool.and_eq_true] at h
   obtain ⟨r',g1,g2⟩:=Zjj z i r (n+1) h.2
   simp only [Instr.findNow,Instr.sameNow,List.map_cons,ZmP,if_true]
   by_cases hi:i=a
   ·subst hi
    simp
   ·have:(i == a)=false:=by simpa using hi
    rw [this,if_neg hi]
    exact ⟨r',g1,g2⟩
  | _=>simp [Zg5] at h
theorem Zl9 {z:Value} {i:Int} (hz:z.oneCell'=true):∀ {es:List (Value × Value)},Zg5 es=true→(ZmP z i es).oneCell'=true
 | [],_=>hz
 | (kk,v)::r,h=>by
  cases kk with
  | int k a =>
   cases k <;> first | (simp [Zg5] at h; done) | skip
   simp only [Zg5,Bool.and_eq_true] at h
   simp only [ZmP]
   split
   ·exact h.1
   ·exact Zl9 hz h.2
  | _=>simp [Zg5] at h
section
variable {P:Program} {o:Oper} {H:Hp} {sl:List (Nat × V)} {x y:Operand} {t K E T U:TypeId} {i:Int} {es:List (Value × Value)} {z v:Value}
class Mp (P:Program) (T:TypeId) (K E:outParam TypeId):Prop where
 out:P.underlying T=some (.map K E)
theorem Zps {w:World} (h:(P.info? E).bind (·.zero)=some z):(zeroValue E).run P w=.ok z w:=by
 cases hi:P.info? E with
 | none=>simp [hi] at h
 | some i=>simp [hi] at h; simp [zeroValue,typeInfo,program,Sem.run,hi,h]
def Zpf:Option TypeDesc→Bool
 | some (.func _ _ _)=>true
 | _=>false
theorem Zm6 {t:Option TypeDesc} (h:Zpf t=true):∃ a b c,t=some (.func a b c):=by
 cases t with
 | none=>cases h
 | some d=>cases d <;> first | exact ⟨_,_,_,rfl⟩ | cases h
theorem Zlw (hop:o.op=.lookup t x y false) (hx:ev sl x=some (.d (.m es))) (hy:ev sl y=some (vI i)) (hM:Mp P t K E) (hK:P.underlying K=some (.int .i64)) (hz0:(P.info? E).bind (·.zero)=some z) (h1:z.oneCell'=true) (hk:Zg5 es=true) :
   OpD P o H sl 0 0 (.d (.c (ZmP z i es))) []:=.read fun B a w ρ hs _=>by
 have ht:=hM.out
 have hz:=fun w=>Zps (w:=w) hz0
 refine ⟨ZmP z i es,?_,.d (.c (Zl9 h1 hk))⟩
 have hx':=Zq hs hx
 have hy':=ZbB (Zq hs hy)
 unfold execOp; rw [hop]
 simp only [hy']
 revert hx'
 generalize a.eval x=vx
 intro hx'
 cases hx' with
 | d hd =>
  cases hd with
  | @m b clock _ em g1 g2 g3 =>
   subst g3
   obtain ⟨r,e1,e2⟩:=Zjj z i em.toList 0 hk
   have f1:=MapKept.run_findKey (P:=P) (w:=w) hK e1
   have f2:=MapKept.run_checkKey (P:=P) (w:=w) (k:=.int .i64 i) hK rfl em.isEmpty 9999
   simp only [Nat.reduceAdd] at f2
   have f3:(Instr.lookup t (.map (some b)) (.int .i64 i) false).run P w=.ok (ZmP z i (em.toList.map fun e=>(e.key,e.val))) w:=by
    unfold Instr.lookup
    simp only [Sem.run_bind,run_underlying ht,Result.andThen,MapKept.run_getObj_map g2,Sem.run_pure,f2,f1]
    rw [← e2]
    cases r with
    | none=>simp [hz,Result.andThen]
    | some q=>obtain ⟨j,v⟩:=q; simp [Result.andThen]
   simp [Result.andThen,f3]
def ZiZ:Value→Bool
 | .nilFunc=>true
 | _=>false
def ZuW:Value→Bool
 | .nilFunc=>true
 | .func _ _ _=>true
 | _=>false
theorem ZtM {w:World} {a b:Array TypeId} {c:Bool} (hT:P.underlying T=some (.func a b c)) {v:Value} (hv:ZuW v=true) (d:Nat):(Op.equalIn (d+1) T v .nilFunc).run P w=.ok (ZiZ v) w:=by
 cases v <;> first | (simp [ZuW] at hv; done) | simp [ZiZ,Op.equalIn,run_underlying hT,Result.andThen]
theorem Zrq (hop:o.op=.binOp .eql T x y U) (hx:ev sl x=some (.d (.c v))) (hy:ev sl y=some (.d (.c .nilFunc))) (hT0:Zpf (P.underlying T)=true) (hv:ZuW v=true) :
   OpD P o H sl 0 0 (vB (ZiZ v)) []:=by
 obtain ⟨a,b,c,hT⟩:=Zm6 hT0
 exact Zcn hop hx hy (fun w=>by
  have:=ZtM (P:=P) (w:=w) hT hv 9999
  simp only [Nat.reduceAdd] at this
  simp only [binOp,Op.equal,Op.maxDepth,Sem.run_bind,this,Result.andThen_ok,Sem.run_pure]) (by cases v <;> first | (simp [ZuW] at hv; done) | rfl) rfl
end
end Go.Proofs.YtkcmgbbopedacaaGreatDoor
namespace Go.Proofs.YtkcmgbbopedacaaGreatDoor
open Go.RowKit
attribute [local simp] Sem.run_bind Sem.run_pure Result.andThen_ok
section
variable {P:Program} {o:Oper} {H:Hp} {sl:List (Nat × V)} {x y z:Operand} {T K E:TypeId} {k d:Nat} {s:ByteArray}
theorem run_newObj {w:World} (ob:Obj):(newObj ob).run P w=.ok w.heap.size (w.alloc ob):=rfl
def Zh2:Obj→Bool
 | .cells _ _ _=>false
 | _=>true
theorem Zfq {w:World} {r:Nat} {ob:Obj} (h:w.heap[r]?=some ob) (hn:Zh2 ob=true):(getObj r).run P w=.ok ob w:=by
 cases ob <;> first | (simp [Zh2] at hn; done) | simp [getObj,Sem.run,h]
theorem Zhp {w:World} {r:Nat} {ob:Obj} (o':Obj) (h:w.heap[r]?=some ob) (hn:Zh2 ob=true):(setObj r o').run P w=.ok () { w with heap:=w.heap.setIfInBounds r o' }:=by
 cases ob <;> first | (simp [Zh2] at hn; done) | simp [setObj,Sem.run,h]
theorem Zpe (hop:o.op=.range T x) (hd:o.dst=some d) (hk:d+100=k) (hx:ev sl x=some (vS s)) (ht:P.underlying T=some .string):OpD P o H sl k 1 (.p k 0) [(k,some (.ob (.stringIter s 0)))]:=fun B a w ρ hs hr hfr=>by
 have hx':=ZbB (Zq hs hx)
 have hkk:=hfr k (Nat.le_refl _) (by omega)
 refine ⟨_,.pointer (some ⟨w.heap.size,0,none⟩),w.alloc (.stringIter s 0),upd ρ k (.box w.heap.size),?_,.inl rfl,Step.new1 hkk (fun _ h=>h) (.inl rfl) fun ok' ρ' _ _ h=>h,.p (YT _ _ _)⟩
 unfold execOp; rw [hop]
 simp [Instr.range,hx',run_underlying ht,run_newObj]
theorem Zjz (w:World) (b j:Nat) (o':Obj) (h:j≠b):({ w with heap:=w.heap.setIfInBounds b o' }:World).heap[j]?=w.heap[j]?:=by
 simp only; rw [Array.getElem?_setIfInBounds_ne (Ne.symm h)]
theorem set_self (w:World) (b:Nat) (o' ob:Obj) (h:w.heap[b]?=some ob):({ w with heap:=w.heap.setIfInBounds b o' }:World).heap[b]?=some o':=by
 have hlt:=(Array.getElem?_eq_some_iff.1 h).1
 simp [hlt]
theorem Zmp {pos c wd:Nat} (hop:o.op=.next x true) (hx:ev sl x=some (.p k 0)) (hH:look H k=some (some (.ob (.stringIter s pos)))) (h:pos<s.size) (hc:Utf8.decode s pos=(c,wd)):OpD P o H sl 0 0 (.t [vB true,vI pos,.d (.c (.int .i32 c))]) [(k,some (.ob (.stringIter s (pos+wd))))]:=fun B a w ρ hs hr _=>by
 obtain ⟨l,g1,g2⟩:=hr.rel _ _ hH
 have hx':=Zq hs hx
 cases l with
 | tr _ _=>exact g2.elim
 | arr v=>exact g2.elim
 | box b =>
  have g2:w.heap[b]?=some (.stringIter s pos):=g2
  have e:a.eval x=.pointer (some ⟨b,0,none⟩):=by
   generalize a.eval x=vx at hx'
   cases hx' with
   | p hp=>rw [g1] at hp; simp only [Option.some.injEq,Loc.box.injEq] at hp; rw [hp]
  refine ⟨_,.tuple #[.bool true,.int .i64 pos,.int .i32 c],{ w with heap:=w.heap.setIfInBounds b (.stringIter s (pos+wd)) },ρ,?_,.inl rfl,Step.set1 g1 hH rfl (by simp) rfl rfl rfl (fun j hj=>Zjz w b j _ hj) fun ok' _=>set_self w b _ _ g2,.t (.cons (.d (.c rfl)) (.cons (.d (.c rfl)) (.cons (.d (.c rfl)) .nil)))⟩
  unfold execOp; rw [hop]
  simp [Instr.next,e,Zfq g2 rfl,h,hc,Zhp _ g2 rfl,goInt]
theorem Zl4 {pos:Nat} (hop:o.op=.next x true) (hx:ev sl x=some (.p k 0)) (hH:look H k=some (some (.ob (.stringIter s pos)))) (h:¬ pos<s.size):OpD P o H sl 0 0 (.t [vB false]) []:=.read fun B a w ρ hs hr=>by
 obtain ⟨l,g1,g2⟩:=hr.rel _ _ hH
 have hx':=Zq hs hx
 cases l with
 | tr _ _=>exact g2.elim
 | arr v=>exact g2.elim
 | box b =>
  have g2:w.heap[b]?=some (.stringIter s pos):=g2
  have e:a.eval x=.pointer (some ⟨b,0,none⟩):=by
   generalize a.eval x=vx at hx'
   cases hx' with
   | p hp=>rw [g1] at hp; simp only [Option.some.injEq,Loc.box.injEq] at hp; rw [hp]
  refine ⟨.tuple #[.bool false],?_,.t (.cons (.d (.c rfl)) .nil)⟩
  unfold execOp; rw [hop]
  simp [Instr.next,e,Zfq g2 rfl,h]
theorem Zun (hop:o.op=.makeMap T none) (hd:o.dst=some d) (hk:d+100=k):OpD P o H sl k 1 (.mp k) [(k,some (.ob (.map #[] 0)))]:=fun B a w ρ hs hr hfr=>by
 have hkk:=hfr k (Nat.le_refl _) (by omega)
 refine ⟨_,.map (some w.heap.size),w.alloc (.map #[] 0),upd ρ k (.box w.heap.size),?_,.inl rfl,Step.new1 hkk (fun _ h=>h) (.inl rfl) fun ok' ρ' _ _ h=>h,.mp (YT _ _ _)⟩
 unfold execOp; rw [hop]
 simp [Instr.makeMap,run_newObj]
theorem ZrT {em:Array MapEntry} {clock:Nat} {i:Int} {v:Value} (hop:o.op=.insert T x y z) (hx:ev sl x=some (.mp k)) (hy:ev sl y=some (vI i)) (hz:ev sl z=some (.d (.c v))) (hH:look H k=some (some (.ob (.map em clock)))) (hM:Mp P T K E) (hK:P.underlying K=some (.int .i64))
   (hf:Instr.findNow (.int .i64) (.int .i64 i) em.toList 0=some none):OpD P o H sl 0 0 .un [(k,some (.ob (.map (em.push ⟨.int .i64 i,v,clock⟩) (clock+1))))]:=fun B a w ρ hs hr _=>by
 obtain ⟨l,g1,g2⟩:=hr.rel _ _ hH
 have hx':=Zq hs hx
 have hy':=ZbB (Zq hs hy)
 have hz':=ZbB (Zq hs hz)
 cases l with
 | tr _ _=>exact g2.elim
 | arr v=>exact g2.elim
 | box b =>
  have g2:w.heap[b]?=some (.map em clock):=g2
  have e:a.eval x=.map (some b):=by
   generalize a.eval x=vx at hx'
   cases hx' with
   | mp hp=>rw [g1] at hp; simp only [Option.some.injEq,Loc.box.injEq] at hp; rw [hp]
  have ht:=hM.out
  have f1:=MapKept.run_findKey (P:=P) (w:=w) hK hf
  have f2:=MapKept.run_checkKey (P:=P) (w:=w) (k:=.int .i64 i) hK rfl false 9999
  simp only [Nat.reduceAdd] at f2
  refine ⟨.skip,undef,{ w with heap:=w.heap.setIfInBounds b (.map (em.push ⟨.int .i64 i,v,clock⟩) (clock+1)) },ρ,?_,.inr ⟨rfl,rfl⟩,Step.set1 g1 hH rfl (by simp) rfl rfl rfl (fun j hj=>Zjz w b j _ hj) fun ok' _=>set_self w b _ _ g2,.un⟩
  unfold execOp; rw [hop]
  simp [Instr.mapUpdate,e,hy',hz',run_underlying ht,Zfq g2 rfl,Zhp _ g2 rfl,f1,f2]
end
theorem ZwF {s:ByteArray} {i c wd:Nat} (h:Utf8.decode s i=(c,wd)) (hc:c<128):c=(s.get! i).toNat∧wd=1:=by
 unfold Utf8.decode at h
 simp only [Nat.add_zero,Utf8.runeError] at h
 repeat' split at h
 all_goals (simp only [Prod.mk.injEq] at h; obtain ⟨rfl,rfl⟩:=h; first | exact ⟨rfl,rfl⟩ | omega | (simp_all; omega))
end Go.Proofs.YtkcmgbbopedacaaGreatDoor
namespace Go.Proofs.YtkcmgbbopedacaaGreatDoor
open Go.RowKit
theorem mixed:Tryz.prog.follows .mixedOrders=true:=by kernel_rfl
end Go.Proofs.YtkcmgbbopedacaaGreatDoor
namespace Go.Proofs.YtkcmgbbopedacaaGreatDoor
open Go.RowKit
instance ty2:Ty Tryz.prog 2 1 false:=⟨by kernel_rfl,by kernel_rfl⟩
instance zo2:Yd Tryz.prog 2 [.int .i64 0]:=⟨by unfold Zr; kernel_rfl⟩
instance ty3:Ty Tryz.prog 3 1 false:=⟨by kernel_rfl,by kernel_rfl⟩
instance zo3:Yd Tryz.prog 3 [.int .i64 0]:=⟨by unfold Zr; kernel_rfl⟩
instance ty4:Ty Tryz.prog 4 1 false:=⟨by kernel_rfl,by kernel_rfl⟩
instance zo4:Yd Tryz.prog 4 [.bool false]:=⟨by unfold Zr; kernel_rfl⟩
instance ty5:Ty Tryz.prog 5 1 false:=⟨by kernel_rfl,by kernel_rfl⟩
instance zo5:Yd Tryz.prog 5 [.int .u8 0]:=⟨by unfold Zr; kernel_rfl⟩
instance ty9:Ty Tryz.prog 9 1 false:=⟨by kernel_rfl,by kernel_rfl⟩
instance zo9:Yd Tryz.prog 9 [.string ⟨#[]⟩]:=⟨by unfold Zr; kernel_rfl⟩
instance ZCq:Ty Tryz.prog 12 1 false:=⟨by kernel_rfl,by kernel_rfl⟩
instance ZBB:Yd Tryz.prog 12 [.int .u64 0]:=⟨by unfold Zr; kernel_rfl⟩
instance ZBO:Ty Tryz.prog 20 1 false:=⟨by kernel_rfl,by kernel_rfl⟩
instance ZBG:Yd Tryz.prog 20 [.nilIface]:=⟨by unfold Zr; kernel_rfl⟩
instance ZA1:Ty Tryz.prog 21 1 false:=⟨by kernel_rfl,by kernel_rfl⟩
instance ZCb:Yd Tryz.prog 21 [.int .i32 0]:=⟨by unfold Zr; kernel_rfl⟩
instance ZCk:Ty Tryz.prog 22 1 false:=⟨by kernel_rfl,by kernel_rfl⟩
instance ZBi:Yd Tryz.prog 22 [.slice none 0 0]:=⟨by unfold Zr; kernel_rfl⟩
instance ZBZ:Ty Tryz.prog 23 1 false:=⟨by kernel_rfl,by kernel_rfl⟩
instance ZBX:Yd Tryz.prog 23 [.slice none 0 0]:=⟨by unfold Zr; kernel_rfl⟩
instance ZA9:Ty Tryz.prog 24 1 false:=⟨by kernel_rfl,by kernel_rfl⟩
instance ZBq:Yd Tryz.prog 24 [.slice none 0 0]:=⟨by unfold Zr; kernel_rfl⟩
instance ZBI:Ty Tryz.prog 26 1 false:=⟨by kernel_rfl,by kernel_rfl⟩
instance ZBL:Yd Tryz.prog 26 [.pointer none]:=⟨by unfold Zr; kernel_rfl⟩
instance ZA4:Ty Tryz.prog 32 2 true:=⟨by kernel_rfl,by kernel_rfl⟩
instance ZBj:Yd Tryz.prog 32 [.string ⟨#[]⟩,.bool false]:=⟨by unfold Zr; kernel_rfl⟩
instance ZCa:Ty Tryz.prog 34 1 false:=⟨by kernel_rfl,by kernel_rfl⟩
instance ZBV:Yd Tryz.prog 34 [.slice none 0 0]:=⟨by unfold Zr; kernel_rfl⟩
instance ZBt:Ty Tryz.prog 35 1 false:=⟨by kernel_rfl,by kernel_rfl⟩
instance ZB0:Yd Tryz.prog 35 [.slice none 0 0]:=⟨by unfold Zr; kernel_rfl⟩
instance ZCf:Ty Tryz.prog 41 4 true:=⟨by kernel_rfl,by kernel_rfl⟩
instance ZBP:Yd Tryz.prog 41 [.int .i64 0,.slice none 0 0,.string ⟨#[]⟩,.int .i64 0]:=⟨by unfold Zr; kernel_rfl⟩
instance ZCd:Ty Tryz.prog 43 1 false:=⟨by kernel_rfl,by kernel_rfl⟩
instance ZB5:Yd Tryz.prog 43 [.slice none 0 0]:=⟨by unfold Zr; kernel_rfl⟩
instance ZCg:Ty Tryz.prog 45 1 false:=⟨by kernel_rfl,by kernel_rfl⟩
instance ZA8:Yd Tryz.prog 45 [.slice none 0 0]:=⟨by unfold Zr; kernel_rfl⟩
instance ZBm:Ty Tryz.prog 46 1 false:=⟨by kernel_rfl,by kernel_rfl⟩
instance ZBr:Yd Tryz.prog 46 [.slice none 0 0]:=⟨by unfold Zr; kernel_rfl⟩
instance ZBu:Ty Tryz.prog 48 8 true:=⟨by kernel_rfl,by kernel_rfl⟩
instance ZBs:Yd Tryz.prog 48 [.int .i64 0,.slice none 0 0,.string ⟨#[]⟩,.int .i64 0,.slice none 0 0,.slice none 0 0,.slice none 0 0,.bool false]:=⟨by unfold Zr; kernel_rfl⟩
instance ZB4:Ty Tryz.prog 49 1 false:=⟨by kernel_rfl,by kernel_rfl⟩
instance ZB7:Yd Tryz.prog 49 [.int .i64 0]:=⟨by unfold Zr; kernel_rfl⟩
instance ZBT:Ty Tryz.prog 54 1 false:=⟨by kernel_rfl,by kernel_rfl⟩
instance ZCr:Yd Tryz.prog 54 [.slice none 0 0]:=⟨by unfold Zr; kernel_rfl⟩
instance ZBp:Ty Tryz.prog 55 1 false:=⟨by kernel_rfl,by kernel_rfl⟩
instance ZCt:Yd Tryz.prog 55 [.slice none 0 0]:=⟨by unfold Zr; kernel_rfl⟩
instance ZB8:Ty Tryz.prog 60 1 false:=⟨by kernel_rfl,by kernel_rfl⟩
instance ZBW:Yd Tryz.prog 60 [.slice none 0 0]:=⟨by unfold Zr; kernel_rfl⟩
instance ZCi:Ty Tryz.prog 62 1 false:=⟨by kernel_rfl,by kernel_rfl⟩
instance ZB6:Yd Tryz.prog 62 [.slice none 0 0]:=⟨by unfold Zr; kernel_rfl⟩
instance ZBo:Ty Tryz.prog 67 1 false:=⟨by kernel_rfl,by kernel_rfl⟩
instance ZBF:Yd Tryz.prog 67 [.slice none 0 0]:=⟨by unfold Zr; kernel_rfl⟩
instance ZCh:Ty Tryz.prog 69 1 false:=⟨by kernel_rfl,by kernel_rfl⟩
instance ZBD:Yd Tryz.prog 69 [.slice none 0 0]:=⟨by unfold Zr; kernel_rfl⟩
instance ZCe:Ty Tryz.prog 72 4 true:=⟨by kernel_rfl,by kernel_rfl⟩
instance ZBH:Yd Tryz.prog 72 [.string ⟨#[]⟩,.bool false,.string ⟨#[]⟩,.bool false]:=⟨by unfold Zr; kernel_rfl⟩
instance ZBk:Ty Tryz.prog 74 2 true:=⟨by kernel_rfl,by kernel_rfl⟩
instance ZBl:Yd Tryz.prog 74 [.int .i64 0,.int .i64 0]:=⟨by unfold Zr; kernel_rfl⟩
instance ZBN:Ty Tryz.prog 76 8 true:=⟨by kernel_rfl,by kernel_rfl⟩
instance ZA5:Yd Tryz.prog 76 [.int .i64 0,.string ⟨#[]⟩,.bool false,.string ⟨#[]⟩,.bool false,.int .i64 0,.int .i64 0,.slice none 0 0]:=⟨by unfold Zr; kernel_rfl⟩
instance ZBM:Ty Tryz.prog 78 7 true:=⟨by kernel_rfl,by kernel_rfl⟩
instance ZCp:Yd Tryz.prog 78 [.int .i64 0,.int .i64 0,.int .i64 0,.int .i64 0,.int .i64 0,.string ⟨#[]⟩,.string ⟨#[]⟩]:=⟨by unfold Zr; kernel_rfl⟩
instance ZBS:Ty Tryz.prog 80 8 true:=⟨by kernel_rfl,by kernel_rfl⟩
instance ZBw:Yd Tryz.prog 80 [.slice none 0 0,.int .i64 0,.int .i64 0,.int .i64 0,.int .i64 0,.int .i64 0,.string ⟨#[]⟩,.string ⟨#[]⟩]:=⟨by unfold Zr; kernel_rfl⟩
instance ZB9:Ty Tryz.prog 85 1 false:=⟨by kernel_rfl,by kernel_rfl⟩
instance ZB3:Yd Tryz.prog 85 [.slice none 0 0]:=⟨by unfold Zr; kernel_rfl⟩
instance ZBC:Ty Tryz.prog 87 6 true:=⟨by kernel_rfl,by kernel_rfl⟩
instance ZB2:Yd Tryz.prog 87 [.int .i64 0,.slice none 0 0,.string ⟨#[]⟩,.int .i64 0,.slice none 0 0,.slice none 0 0]:=⟨by unfold Zr; kernel_rfl⟩
instance ZBK:Ty Tryz.prog 93 1 false:=⟨by kernel_rfl,by kernel_rfl⟩
instance ZBe:Yd Tryz.prog 93 [.slice none 0 0]:=⟨by unfold Zr; kernel_rfl⟩
instance ZBn:Ty Tryz.prog 95 3 true:=⟨by kernel_rfl,by kernel_rfl⟩
instance ZCu:Yd Tryz.prog 95 [.int .i64 0,.bool false,.slice none 0 0]:=⟨by unfold Zr; kernel_rfl⟩
instance ZBf:Ty Tryz.prog 99 3 true:=⟨by kernel_rfl,by kernel_rfl⟩
instance ZBa:Yd Tryz.prog 99 [.string ⟨#[]⟩,.string ⟨#[]⟩,.bool false]:=⟨by unfold Zr; kernel_rfl⟩
instance ZAs:Ty Tryz.prog 101 1 false:=⟨by kernel_rfl,by kernel_rfl⟩
instance ZAf:Yd Tryz.prog 101 [.slice none 0 0]:=⟨by unfold Zr; kernel_rfl⟩
instance Zz5:Ty Tryz.prog 103 10 true:=⟨by kernel_rfl,by kernel_rfl⟩
instance ZAL:Yd Tryz.prog 103 [.int .i64 0,.int .i64 0,.int .i64 0,.int .i64 0,.int .i64 0,.string ⟨#[]⟩,.bool false,.string ⟨#[]⟩,.bool false,.slice none 0 0]:=⟨by unfold Zr; kernel_rfl⟩
instance ZAC:Ty Tryz.prog 105 30 true:=⟨by kernel_rfl,by kernel_rfl⟩
instance ZAS:Yd Tryz.prog 105 [.string ⟨#[]⟩,.bool false,.string ⟨#[]⟩,.bool false,.int .i64 0,.int .i64 0,.slice none 0 0,.slice none 0 0,.int .i64 0,.int .i64 0,.int .i64 0,.int .i64 0,.int .i64 0,.string ⟨#[]⟩,.bool false,.string ⟨#[]⟩,.bool false,.slice none 0 0,.int .i64 0,.int .i64 0,.int .i64 0,.int .i64 0,.int .i64 0,.string ⟨#[]⟩,.bool false,.string ⟨#[]⟩,.bool false,.slice none 0 0,.int .i64 0,.int .i64 0]:=⟨by unfold Zr; kernel_rfl⟩
instance ZAE:Ty Tryz.prog 107 32 true:=⟨by kernel_rfl,by kernel_rfl⟩
instance ZAz:Yd Tryz.prog 107 [.int .i64 0,.bool false,.string ⟨#[]⟩,.bool false,.string ⟨#[]⟩,.bool false,.int .i64 0,.int .i64 0,.slice none 0 0,.slice none 0 0,.int .i64 0,.int .i64 0,.int .i64 0,.int .i64 0,.int .i64 0,.string ⟨#[]⟩,.bool false,.string ⟨#[]⟩,.bool false,.slice none 0 0,.int .i64 0,.int .i64 0,.int .i64 0,.int .i64 0,.int .i64 0,.string ⟨#[]⟩,.bool false,.string ⟨#[]⟩,.bool false,.slice none 0 0,.int .i64 0,.int .i64 0]:=⟨by unfold Zr; kernel_rfl⟩
instance ZzW:Ty Tryz.prog 124 6 true:=⟨by kernel_rfl,by kernel_rfl⟩
instance ZAJ:Yd Tryz.prog 124 [.int .i64 0,.slice none 0 0,.string ⟨#[]⟩,.int .i64 0,.slice none 0 0,.slice none 0 0]:=⟨by unfold Zr; kernel_rfl⟩
instance Zz9:Ty Tryz.prog 126 2 true:=⟨by kernel_rfl,by kernel_rfl⟩
instance ZAh:Yd Tryz.prog 126 [.slice none 0 0,.int .i64 0]:=⟨by unfold Zr; kernel_rfl⟩
instance ZzO:Ty Tryz.prog 144 1 false:=⟨by kernel_rfl,by kernel_rfl⟩
instance Zz6:Yd Tryz.prog 144 [.pointer none]:=⟨by unfold Zr; kernel_rfl⟩
instance ZAv:Ty Tryz.prog 147 12 true:=⟨by kernel_rfl,by kernel_rfl⟩
instance ZAN:Yd Tryz.prog 147 [.int .i64 0,.slice none 0 0,.string ⟨#[]⟩,.string ⟨#[]⟩,.bool false,.int .i64 0,.int .i64 0,.slice none 0 0,.string ⟨#[]⟩,.int .i64 0,.slice none 0 0,.slice none 0 0]:=⟨by unfold Zr; kernel_rfl⟩
instance ZzN:Ty Tryz.prog 149 12 true:=⟨by kernel_rfl,by kernel_rfl⟩
instance ZAd:Yd Tryz.prog 149 [.int .i64 0,.string ⟨#[]⟩,.bool false,.string ⟨#[]⟩,.bool false,.int .i64 0,.int .i64 0,.slice none 0 0,.string ⟨#[]⟩,.bool false,.string ⟨#[]⟩,.bool false]:=⟨by unfold Zr; kernel_rfl⟩
instance ZzP:Ty Tryz.prog 154 2 true:=⟨by kernel_rfl,by kernel_rfl⟩
instance ZAT:Yd Tryz.prog 154 [.string ⟨#[]⟩,.string ⟨#[]⟩]:=⟨by unfold Zr; kernel_rfl⟩
instance ZA0:Ty Tryz.prog 161 1 false:=⟨by kernel_rfl,by kernel_rfl⟩
instance ZzS:Yd Tryz.prog 161 [.pointer none]:=⟨by unfold Zr; kernel_rfl⟩
instance ZzQ:Ty Tryz.prog 195 6 true:=⟨by kernel_rfl,by kernel_rfl⟩
instance ZAw:Yd Tryz.prog 195 [.string ⟨#[]⟩,.string ⟨#[]⟩,.string ⟨#[]⟩,.string ⟨#[]⟩,.string ⟨#[]⟩,.string ⟨#[]⟩]:=⟨by unfold Zr; kernel_rfl⟩
instance ZAj:Ty Tryz.prog 205 2 true:=⟨by kernel_rfl,by kernel_rfl⟩
instance Zz4:Yd Tryz.prog 205 [.nilFunc,.nilFunc]:=⟨by unfold Zr; kernel_rfl⟩
instance ZAR:Ty Tryz.prog 214 1 false:=⟨by kernel_rfl,by kernel_rfl⟩
instance ZAQ:Yd Tryz.prog 214 [.pointer none]:=⟨by unfold Zr; kernel_rfl⟩
instance ZAW:Ty Tryz.prog 215 1 false:=⟨by kernel_rfl,by kernel_rfl⟩
instance ZAM:Yd Tryz.prog 215 [.map none]:=⟨by unfold Zr; kernel_rfl⟩
instance ZAH:Ty Tryz.prog 216 1 false:=⟨by kernel_rfl,by kernel_rfl⟩
instance Zz0:Yd Tryz.prog 216 [.map none]:=⟨by unfold Zr; kernel_rfl⟩
instance ZAO:Ty Tryz.prog 217 1 false:=⟨by kernel_rfl,by kernel_rfl⟩
instance ZzY:Yd Tryz.prog 217 [.map none]:=⟨by unfold Zr; kernel_rfl⟩
instance ZAA:Ty Tryz.prog 219 5 true:=⟨by kernel_rfl,by kernel_rfl⟩
instance ZAn:Yd Tryz.prog 219 [.slice none 0 0,.slice none 0 0,.map none,.map none,.map none]:=⟨by unfold Zr; kernel_rfl⟩
instance ZAb:Ty Tryz.prog 248 1 false:=⟨by kernel_rfl,by kernel_rfl⟩
instance ZAt:Yd Tryz.prog 248 [.map none]:=⟨by unfold Zr; kernel_rfl⟩
instance ZzX:Ty Tryz.prog 260 1 false:=⟨by kernel_rfl,by kernel_rfl⟩
instance Zz2:Yd Tryz.prog 260 [.int .u64 0]:=⟨by unfold Zr; kernel_rfl⟩
instance ZzU:Ty Tryz.prog 262 1 false:=⟨by kernel_rfl,by kernel_rfl⟩
instance ZAU:Yd Tryz.prog 262 [.slice none 0 0]:=⟨by unfold Zr; kernel_rfl⟩
instance ZAY:Ty Tryz.prog 268 7 true:=⟨by kernel_rfl,by kernel_rfl⟩
instance ZAc:Yd Tryz.prog 268 [.int .i64 0,.int .i64 0,.int .i64 0,.int .i64 0,.int .i64 0,.string ⟨#[]⟩,.string ⟨#[]⟩]:=⟨by unfold Zr; kernel_rfl⟩
instance ZAm:Ty Tryz.prog 273 1 false:=⟨by kernel_rfl,by kernel_rfl⟩
instance Zz7:Yd Tryz.prog 273 [.pointer none]:=⟨by unfold Zr; kernel_rfl⟩
instance ZAu:Ty Tryz.prog 282 1 false:=⟨by kernel_rfl,by kernel_rfl⟩
instance ZAB:Yd Tryz.prog 282 [.int .u32 0]:=⟨by unfold Zr; kernel_rfl⟩
instance ZAV:Ty Tryz.prog 284 1 false:=⟨by kernel_rfl,by kernel_rfl⟩
instance ZAq:Yd Tryz.prog 284 [.int .u64 0]:=⟨by unfold Zr; kernel_rfl⟩
instance Zz1:Ty Tryz.prog 289 1 false:=⟨by kernel_rfl,by kernel_rfl⟩
instance ZAx:Yd Tryz.prog 289 [.pointer none]:=⟨by unfold Zr; kernel_rfl⟩
instance ZCc:Sl Tryz.prog 22 3 1 8:=Sl.mk' (by kernel_rfl) (by kernel_rfl)
instance ZBQ:Sl Tryz.prog 23 72 4 48:=Sl.mk' (by kernel_rfl) (by kernel_rfl)
instance ZA7:Sl Tryz.prog 24 32 2 24:=Sl.mk' (by kernel_rfl) (by kernel_rfl)
instance ZBd:Sl Tryz.prog 34 23 1 24:=Sl.mk' (by kernel_rfl) (by kernel_rfl)
instance ZCs:Sl Tryz.prog 35 24 1 24:=Sl.mk' (by kernel_rfl) (by kernel_rfl)
instance ZBy:Sl Tryz.prog 43 5 1 1:=Sl.mk' (by kernel_rfl) (by kernel_rfl)
instance ZBg:Sl Tryz.prog 45 41 4 56:=Sl.mk' (by kernel_rfl) (by kernel_rfl)
instance ZCl:Sl Tryz.prog 46 124 6 104:=Sl.mk' (by kernel_rfl) (by kernel_rfl)
instance ZCj:Sl Tryz.prog 54 147 12 184:=Sl.mk' (by kernel_rfl) (by kernel_rfl)
instance ZBh:Sl Tryz.prog 55 154 2 32:=Sl.mk' (by kernel_rfl) (by kernel_rfl)
instance ZBA:Sl Tryz.prog 60 55 1 24:=Sl.mk' (by kernel_rfl) (by kernel_rfl)
instance ZA2:Sl Tryz.prog 62 54 1 24:=Sl.mk' (by kernel_rfl) (by kernel_rfl)
instance ZBY:Sl Tryz.prog 67 76 8 96:=Sl.mk' (by kernel_rfl) (by kernel_rfl)
instance ZBv:Sl Tryz.prog 69 95 3 40:=Sl.mk' (by kernel_rfl) (by kernel_rfl)
instance ZBx:Sl Tryz.prog 85 149 12 144:=Sl.mk' (by kernel_rfl) (by kernel_rfl)
instance ZBU:Sl Tryz.prog 93 107 32 368:=Sl.mk' (by kernel_rfl) (by kernel_rfl)
instance Zz8:Sl Tryz.prog 101 99 3 40:=Sl.mk' (by kernel_rfl) (by kernel_rfl)
instance ZAK:Sl Tryz.prog 262 85 1 24:=Sl.mk' (by kernel_rfl) (by kernel_rfl)
end Go.Proofs.YtkcmgbbopedacaaGreatDoor
namespace Go.Proofs.YtkcmgbbopedacaaGreatDoor
open Go.RowKit
instance Zz3:Ab Tryz.prog 195 [(0,1),(1,1),(2,1),(3,1),(4,1),(5,1)] [.string ⟨#[]⟩,.string ⟨#[]⟩,.string ⟨#[]⟩,.string ⟨#[]⟩,.string ⟨#[]⟩,.string ⟨#[]⟩]:=⟨⟨6,9,1,by kernel_rfl,by kernel_rfl,by kernel_rfl⟩,by unfold Zr; kernel_rfl⟩
instance ZAD:Ar Tryz.prog 195 6 9:=⟨by kernel_rfl⟩
instance ZAk:Mp Tryz.prog 215 3 3:=⟨by kernel_rfl⟩
instance ZzV:Mp Tryz.prog 216 3 41:=⟨by kernel_rfl⟩
instance ZAo:Mp Tryz.prog 217 3 4:=⟨by kernel_rfl⟩
instance ZAI:Mp Tryz.prog 248 3 142:=⟨by kernel_rfl⟩
instance Zzo:Fo Tryz.prog 32 0 0:=⟨by kernel_rfl⟩
instance Zzg:Fo Tryz.prog 32 1 1:=⟨by kernel_rfl⟩
instance ZCn:Bd Tryz.prog 32 [(0,1),(1,1)] [.string ⟨#[]⟩,.bool false]:=⟨by kernel_rfl,by unfold Zr; kernel_rfl⟩
instance Zzi:Fo Tryz.prog 41 0 0:=⟨by kernel_rfl⟩
instance Zzs:Fo Tryz.prog 41 1 1:=⟨by kernel_rfl⟩
instance Zzl:Fo Tryz.prog 41 2 2:=⟨by kernel_rfl⟩
instance Zzr:Fo Tryz.prog 41 3 3:=⟨by kernel_rfl⟩
instance ZBE:Bd Tryz.prog 41 [(0,1),(1,1),(2,1),(3,1)] [.int .i64 0,.slice none 0 0,.string ⟨#[]⟩,.int .i64 0]:=⟨by kernel_rfl,by unfold Zr; kernel_rfl⟩
instance Zy7:Fo Tryz.prog 48 0 0:=⟨by kernel_rfl⟩
instance Zzd:Fo Tryz.prog 48 1 4:=⟨by kernel_rfl⟩
instance Zy9:Fo Tryz.prog 48 2 5:=⟨by kernel_rfl⟩
instance Zy3:Fo Tryz.prog 48 3 6:=⟨by kernel_rfl⟩
instance Zy8:Fo Tryz.prog 48 4 7:=⟨by kernel_rfl⟩
instance ZA6:Bd Tryz.prog 48 [(0,4),(4,1),(5,1),(6,1),(7,1)] [.int .i64 0,.slice none 0 0,.string ⟨#[]⟩,.int .i64 0,.slice none 0 0,.slice none 0 0,.slice none 0 0,.bool false]:=⟨by kernel_rfl,by unfold Zr; kernel_rfl⟩
instance Zy2:Fo Tryz.prog 72 0 0:=⟨by kernel_rfl⟩
instance Zzm:Fo Tryz.prog 72 1 2:=⟨by kernel_rfl⟩
instance ZCm:Bd Tryz.prog 72 [(0,2),(2,2)] [.string ⟨#[]⟩,.bool false,.string ⟨#[]⟩,.bool false]:=⟨by kernel_rfl,by unfold Zr; kernel_rfl⟩
instance Zzu:Fo Tryz.prog 74 0 0:=⟨by kernel_rfl⟩
instance Zzk:Fo Tryz.prog 74 1 1:=⟨by kernel_rfl⟩
instance ZB1:Bd Tryz.prog 74 [(0,1),(1,1)] [.int .i64 0,.int .i64 0]:=⟨by kernel_rfl,by unfold Zr; kernel_rfl⟩
instance Zzb:Fo Tryz.prog 76 0 0:=⟨by kernel_rfl⟩
instance Zy6:Fo Tryz.prog 76 1 1:=⟨by kernel_rfl⟩
instance ZzB:Fo Tryz.prog 76 2 5:=⟨by kernel_rfl⟩
instance Zzv:Fo Tryz.prog 76 3 7:=⟨by kernel_rfl⟩
instance ZCo:Bd Tryz.prog 76 [(0,1),(1,4),(5,2),(7,1)] [.int .i64 0,.string ⟨#[]⟩,.bool false,.string ⟨#[]⟩,.bool false,.int .i64 0,.int .i64 0,.slice none 0 0]:=⟨by kernel_rfl,by unfold Zr; kernel_rfl⟩
instance ZzA:Fo Tryz.prog 78 0 0:=⟨by kernel_rfl⟩
instance Zy5:Fo Tryz.prog 78 1 1:=⟨by kernel_rfl⟩
instance Zy4:Fo Tryz.prog 78 2 2:=⟨by kernel_rfl⟩
instance Zzf:Fo Tryz.prog 78 3 3:=⟨by kernel_rfl⟩
instance ZzC:Fo Tryz.prog 78 4 4:=⟨by kernel_rfl⟩
instance Zza:Fo Tryz.prog 78 5 5:=⟨by kernel_rfl⟩
instance Zzp:Fo Tryz.prog 78 6 6:=⟨by kernel_rfl⟩
instance ZA3:Bd Tryz.prog 78 [(0,1),(1,1),(2,1),(3,1),(4,1),(5,1),(6,1)] [.int .i64 0,.int .i64 0,.int .i64 0,.int .i64 0,.int .i64 0,.string ⟨#[]⟩,.string ⟨#[]⟩]:=⟨by kernel_rfl,by unfold Zr; kernel_rfl⟩
instance Zzt:Fo Tryz.prog 80 0 0:=⟨by kernel_rfl⟩
instance Zzn:Fo Tryz.prog 80 1 1:=⟨by kernel_rfl⟩
instance ZBz:Bd Tryz.prog 80 [(0,1),(1,7)] [.slice none 0 0,.int .i64 0,.int .i64 0,.int .i64 0,.int .i64 0,.int .i64 0,.string ⟨#[]⟩,.string ⟨#[]⟩]:=⟨by kernel_rfl,by unfold Zr; kernel_rfl⟩
instance Zzy:Fo Tryz.prog 87 0 0:=⟨by kernel_rfl⟩
instance Zze:Fo Tryz.prog 87 1 4:=⟨by kernel_rfl⟩
instance Zzz:Fo Tryz.prog 87 2 5:=⟨by kernel_rfl⟩
instance ZBb:Bd Tryz.prog 87 [(0,4),(4,1),(5,1)] [.int .i64 0,.slice none 0 0,.string ⟨#[]⟩,.int .i64 0,.slice none 0 0,.slice none 0 0]:=⟨by kernel_rfl,by unfold Zr; kernel_rfl⟩
instance Zzh:Fo Tryz.prog 95 1 1:=⟨by kernel_rfl⟩
instance Zzj:Fo Tryz.prog 95 2 2:=⟨by kernel_rfl⟩
instance ZBJ:Bd Tryz.prog 95 [(0,1),(1,1),(2,1)] [.int .i64 0,.bool false,.slice none 0 0]:=⟨by kernel_rfl,by unfold Zr; kernel_rfl⟩
instance Zzw:Fo Tryz.prog 99 0 0:=⟨by kernel_rfl⟩
instance Zzx:Fo Tryz.prog 99 1 1:=⟨by kernel_rfl⟩
instance Zzc:Fo Tryz.prog 99 2 2:=⟨by kernel_rfl⟩
instance ZBR:Bd Tryz.prog 99 [(0,1),(1,1),(2,1)] [.string ⟨#[]⟩,.string ⟨#[]⟩,.bool false]:=⟨by kernel_rfl,by unfold Zr; kernel_rfl⟩
instance Zyl:Fo Tryz.prog 103 0 0:=⟨by kernel_rfl⟩
instance Zyf:Fo Tryz.prog 103 1 1:=⟨by kernel_rfl⟩
instance ZyC:Fo Tryz.prog 103 2 2:=⟨by kernel_rfl⟩
instance Zyi:Fo Tryz.prog 103 3 3:=⟨by kernel_rfl⟩
instance Zye:Fo Tryz.prog 103 4 5:=⟨by kernel_rfl⟩
instance Zyj:Fo Tryz.prog 103 5 9:=⟨by kernel_rfl⟩
instance ZAe:Bd Tryz.prog 103 [(0,1),(1,1),(2,1),(3,2),(5,4),(9,1)] [.int .i64 0,.int .i64 0,.int .i64 0,.int .i64 0,.int .i64 0,.string ⟨#[]⟩,.bool false,.string ⟨#[]⟩,.bool false,.slice none 0 0]:=⟨by kernel_rfl,by unfold Zr; kernel_rfl⟩
instance Zyv:Fo Tryz.prog 105 0 0:=⟨by kernel_rfl⟩
instance Zya:Fo Tryz.prog 105 1 4:=⟨by kernel_rfl⟩
instance Zyb:Fo Tryz.prog 105 2 6:=⟨by kernel_rfl⟩
instance Zyr:Fo Tryz.prog 105 3 7:=⟨by kernel_rfl⟩
instance Zyp:Fo Tryz.prog 105 4 8:=⟨by kernel_rfl⟩
instance ZyA:Fo Tryz.prog 105 5 18:=⟨by kernel_rfl⟩
instance ZyF:Fo Tryz.prog 105 6 28:=⟨by kernel_rfl⟩
instance Zyg:Fo Tryz.prog 105 7 29:=⟨by kernel_rfl⟩
instance ZAy:Bd Tryz.prog 105 [(0,4),(4,2),(6,1),(7,1),(8,10),(18,10),(28,1),(29,1)] [.string ⟨#[]⟩,.bool false,.string ⟨#[]⟩,.bool false,.int .i64 0,.int .i64 0,.slice none 0 0,.slice none 0 0,.int .i64 0,.int .i64 0,.int .i64 0,.int .i64 0,.int .i64 0,.string ⟨#[]⟩,.bool false,.string ⟨#[]⟩,.bool false,.slice none 0 0,.int .i64 0,.int .i64 0,.int .i64 0,.int .i64 0,.int .i64 0,.string ⟨#[]⟩,.bool false,.string ⟨#[]⟩,.bool false,.slice none 0 0,.int .i64 0,.int .i64 0]:=⟨by kernel_rfl,by unfold Zr; kernel_rfl⟩
instance ZyE:Fo Tryz.prog 107 0 0:=⟨by kernel_rfl⟩
instance Zyz:Fo Tryz.prog 107 1 1:=⟨by kernel_rfl⟩
instance Zys:Fo Tryz.prog 107 2 2:=⟨by kernel_rfl⟩
instance ZAF:Bd Tryz.prog 107 [(0,1),(1,1),(2,30)] [.int .i64 0,.bool false,.string ⟨#[]⟩,.bool false,.string ⟨#[]⟩,.bool false,.int .i64 0,.int .i64 0,.slice none 0 0,.slice none 0 0,.int .i64 0,.int .i64 0,.int .i64 0,.int .i64 0,.int .i64 0,.string ⟨#[]⟩,.bool false,.string ⟨#[]⟩,.bool false,.slice none 0 0,.int .i64 0,.int .i64 0,.int .i64 0,.int .i64 0,.int .i64 0,.string ⟨#[]⟩,.bool false,.string ⟨#[]⟩,.bool false,.slice none 0 0,.int .i64 0,.int .i64 0]:=⟨by kernel_rfl,by unfold Zr; kernel_rfl⟩
instance Zyq:Fo Tryz.prog 124 0 0:=⟨by kernel_rfl⟩
instance Zyn:Fo Tryz.prog 124 1 4:=⟨by kernel_rfl⟩
instance Zyc:Fo Tryz.prog 124 2 5:=⟨by kernel_rfl⟩
instance ZzR:Bd Tryz.prog 124 [(0,4),(4,1),(5,1)] [.int .i64 0,.slice none 0 0,.string ⟨#[]⟩,.int .i64 0,.slice none 0 0,.slice none 0 0]:=⟨by kernel_rfl,by unfold Zr; kernel_rfl⟩
instance Zyk:Fo Tryz.prog 126 0 0:=⟨by kernel_rfl⟩
instance Zyy:Fo Tryz.prog 126 1 1:=⟨by kernel_rfl⟩
instance ZAa:Bd Tryz.prog 126 [(0,1),(1,1)] [.slice none 0 0,.int .i64 0]:=⟨by kernel_rfl,by unfold Zr; kernel_rfl⟩
instance ZAp:Bd Tryz.prog 147 [(0,1),(1,1),(2,1),(3,1),(4,1),(5,1),(6,6)] [.int .i64 0,.slice none 0 0,.string ⟨#[]⟩,.string ⟨#[]⟩,.bool false,.int .i64 0,.int .i64 0,.slice none 0 0,.string ⟨#[]⟩,.int .i64 0,.slice none 0 0,.slice none 0 0]:=⟨by kernel_rfl,by unfold Zr; kernel_rfl⟩
instance Zyo:Fo Tryz.prog 149 0 0:=⟨by kernel_rfl⟩
instance ZyB:Fo Tryz.prog 149 1 8:=⟨by kernel_rfl⟩
instance ZAl:Bd Tryz.prog 149 [(0,8),(8,4)] [.int .i64 0,.string ⟨#[]⟩,.bool false,.string ⟨#[]⟩,.bool false,.int .i64 0,.int .i64 0,.slice none 0 0,.string ⟨#[]⟩,.bool false,.string ⟨#[]⟩,.bool false]:=⟨by kernel_rfl,by unfold Zr; kernel_rfl⟩
instance Zyx:Fo Tryz.prog 154 0 0:=⟨by kernel_rfl⟩
instance Zyh:Fo Tryz.prog 154 1 1:=⟨by kernel_rfl⟩
instance ZzZ:Bd Tryz.prog 154 [(0,1),(1,1)] [.string ⟨#[]⟩,.string ⟨#[]⟩]:=⟨by kernel_rfl,by unfold Zr; kernel_rfl⟩
instance ZAX:Bd Tryz.prog 219 [(0,1),(1,1),(2,1),(3,1),(4,1)] [.slice none 0 0,.slice none 0 0,.map none,.map none,.map none]:=⟨by kernel_rfl,by unfold Zr; kernel_rfl⟩
instance Zyd:Fo Tryz.prog 268 0 0:=⟨by kernel_rfl⟩
instance ZyD:Fo Tryz.prog 268 1 1:=⟨by kernel_rfl⟩
instance Zx9:Fo Tryz.prog 268 2 2:=⟨by kernel_rfl⟩
instance Zyw:Fo Tryz.prog 268 3 3:=⟨by kernel_rfl⟩
instance Zym:Fo Tryz.prog 268 4 4:=⟨by kernel_rfl⟩
instance Zyu:Fo Tryz.prog 268 5 5:=⟨by kernel_rfl⟩
instance Zyt:Fo Tryz.prog 268 6 6:=⟨by kernel_rfl⟩
instance ZAr:Bd Tryz.prog 268 [(0,1),(1,1),(2,1),(3,1),(4,1),(5,1),(6,1)] [.int .i64 0,.int .i64 0,.int .i64 0,.int .i64 0,.int .i64 0,.string ⟨#[]⟩,.string ⟨#[]⟩]:=⟨by kernel_rfl,by unfold Zr; kernel_rfl⟩
end Go.Proofs.YtkcmgbbopedacaaGreatDoor
namespace Go.Proofs.YtkcmgbbopedacaaGreatDoor
open Go.RowKit
theorem ba_eq {a b:ByteArray} (h:a.toList=b.toList):a=b:=by
 rw [ByteArray.toList_eq,ByteArray.toList_eq] at h
 apply ByteArray.ext
 exact Array.ext' h
theorem lt_irrefl (a:Bnd):a.lt a=false:=by simp [Bnd.lt,Yu]
theorem lt_trans {a b c:Bnd} (h:a.lt b=true) (k:b.lt c=true):a.lt c=true:=by
 simp only [Bnd.lt,Bool.and_eq_true,Bool.or_eq_true,Bool.not_eq_true'] at *
 obtain ⟨h1,h2⟩:=h
 obtain ⟨k1,k2⟩:=k
 refine ⟨h1,?_⟩
 rcases h2 with h2 | h2
 ·rw [k1] at h2; cases h2
 ·rcases k2 with k2 | k2
  ·exact Or.inl k2
  ·exact Or.inr (Yr h2 k2)
theorem Qx {a b:Bnd} (ha:vb a=true) (hb:vb b=true) (h:a.lt b=false) (k:b.lt a=false):a=b:=by
 obtain ⟨ak,at'⟩:=a
 obtain ⟨bk,bt⟩:=b
 simp only [vb,Bool.and_eq_true,Bool.or_eq_true,Bool.not_eq_true'] at ha hb
 simp only [Bnd.lt,Bool.and_eq_false_iff,Bool.not_eq_false',Bool.or_eq_false_iff] at h k
 cases at' <;> cases bt <;> simp at h k ha hb
 ·have:=YQ h k; rw [ba_eq this]
 ·rw [ba_eq (ha.2.trans hb.2.symm)]
theorem ZB (r:Rng):emp r=false↔vb r.lo=true∧vb r.hi=true∧r.lo.lt r.hi=true:=by
 simp only [emp,vld,Bool.or_eq_false_iff,Bool.not_eq_false',Bool.and_eq_true,decide_eq_true_eq,beq_eq_false_iff_ne]
 have h1:=X9 r.lo r.hi; have h2:=Zej r.lo r.hi
 constructor
 ·rintro ⟨⟨⟨a,b⟩,c⟩,d⟩; exact ⟨a,b,h1.1 (by omega)⟩
 ·rintro ⟨a,b,c⟩; have:=h1.2 c; exact ⟨⟨⟨a,b⟩,by omega⟩,by omega⟩
theorem X0 (a b:Bnd):greater a b=if a.lt b then b else a:=by
 unfold greater; have:=Xt b a
 by_cases h:a.lt b=true
 ·rw [if_pos (this.2 h),if_pos h]
 ·rw [if_neg (fun e=>h (this.1 e)),if_neg h]
theorem Zbf (a b:Bnd):lesser a b=if b.lt a then b else a:=by
 unfold lesser; have:=X9 b a
 by_cases h:b.lt a=true
 ·rw [if_pos (this.2 h),if_pos h]
 ·rw [if_neg (fun e=>h (this.1 e)),if_neg h]
theorem ZdZ {a b:Bnd} (ha:vb a=true) (hb:vb b=true):vb (greater a b)=true:=by rw [X0]; split <;> assumption
theorem Zgw {a b:Bnd} (ha:vb a=true) (hb:vb b=true):vb (lesser a b)=true:=by rw [Zbf]; split <;> assumption
theorem Zkf {a b c:Bnd} (ha:vb a=true) (hb:vb b=true) (h:a.lt b=false) (k:a.lt c=true):b.lt c=true:=by grind [Qx,lt_trans]
theorem Zd2 {a b c:Bnd} (hb:vb b=true) (hc:vb c=true) (h:a.lt b=true) (k:c.lt b=false):a.lt c=true:=by grind [Qx,lt_trans]
theorem ZfC:emp zr=true:=by kernel_rfl
theorem Zd4 {x y:Bnd} (hx:vb x=true) (hy:vb y=true):emp ⟨x,y⟩=!x.lt y:=by
 cases h:x.lt y
 ·cases e:emp ⟨x,y⟩ with
  | true=>rfl
  | false=>have:=((ZB _).1 e).2.2; rw [h] at this; cases this
 ·exact (ZB _).2 ⟨hx,hy,h⟩
theorem ZcY {a b:Rng} (ha:emp a=false) (hb:emp b=false):Yo a b=if (greater a.lo b.lo).lt (lesser a.hi b.hi) then ⟨greater a.lo b.lo,lesser a.hi b.hi⟩ else zr:=by
 have ha':=(ZB a).1 ha
 have hb':=(ZB b).1 hb
 rw [Yo,ha,hb,Zd4 (ZdZ ha'.1 hb'.1) (Zgw ha'.2.1 hb'.2.1)]
 cases (greater a.lo b.lo).lt (lesser a.hi b.hi) <;> rfl
theorem Zit {a b:Rng} (h:emp a=true):Yo a b=zr:=by simp [Yo,h]
theorem Zmc {a b:Rng} (h:emp b=true):Yo a b=zr:=by simp [Yo,h]
end Go.Proofs.YtkcmgbbopedacaaGreatDoor
namespace Go.Proofs.YtkcmgbbopedacaaGreatDoor
open Go.RowKit
def upl:List UInt8→Option (List UInt8)
 | []=>none
 | x::r=>match upl r with
  | some r'=>some (x::r')
  | none=>if x=255 then none else some [x+1]
theorem Zkw:∀ q:List UInt8,upl (q++[255])=upl q
 | []=>rfl
 | x::r=>by rw [List.cons_append,upl,upl,Zkw r]
theorem ZlW (q:List UInt8) {x:UInt8} (hx:x≠255):upl (q++[x])=some (q++[x+1]):=by
 induction q with
 | nil=>simp [upl,hx]
 | cons y r ih=>rw [List.cons_append,upl,ih]; rfl
def upb (p:ByteArray):Bnd:=match upl p.toList with
 | some u=>⟨⟨u.toArray⟩,false⟩
 | none=>⟨⟨#[]⟩,true⟩
def pfx (p:ByteArray):Rng:=if vk p then ⟨⟨p,false⟩,upb p⟩ else zr
theorem ZdX (p:ByteArray):p.toList.length=p.size:=by rw [ByteArray.toList_eq]; exact Array.length_toList
end Go.Proofs.YtkcmgbbopedacaaGreatDoor
namespace Go.Proofs.YtkcmgbbopedacaaGreatDoor
open Go.RowKit
class Len {α:Type} (f:α→List D) (z:outParam Nat):Prop where
 len:∀ a,(f a).length=z
def Rng.ds (r:Rng):List D:=[dS r.lo.key,dB r.lo.top,dS r.hi.key,dB r.hi.top]
instance : Len Rng.ds 4:=⟨fun _=>rfl⟩
structure Kv where
 key:ByteArray
 val:ByteArray
 deriving DecidableEq
theorem Kv.eta (r:Kv):Kv.mk r.key r.val=r:=rfl
theorem Bnd.eta (r:Bnd):Bnd.mk r.key r.top=r:=rfl
theorem Rng.eta (r:Rng):Rng.mk r.lo r.hi=r:=rfl
theorem Xo (m:Nat):((m:Int) - 1).toNat=m - 1:=by omega
def Kv.ds (r:Kv):List D:=[dS r.key,dS r.val]
instance : Len Kv.ds 2:=⟨fun _=>rfl⟩
def dsI (z:Int):List D:=[dI z]
instance : Len dsI 1:=⟨fun _=>rfl⟩
abbrev Zxr (l:List Int):D:=lst dsI l
structure Fd where
 count:Int
 nums:Int
 sum:Int
 low:Int
 high:Int
 first:ByteArray
 last:ByteArray
structure Qy where
 kind:Int
 rs:List Rng
 key:ByteArray
 count:Int
theorem Ztf {α:Type} {p:α→Bool} {l:List α} {m:Nat} (h:∀ j (h:j<l.length),j<m→p l[j]=true) (hm:l.length≤m):l.all p=true:=by
 rw [List.all_eq_true]
 intro x hx
 obtain ⟨j,hj,rfl⟩:=List.mem_iff_getElem.1 hx
 exact h j hj (by omega)
theorem ZoV {α:Type} {p:α→Bool} {l:List α} {m:Nat} (hm:m<l.length) (h:(!p l[m])=true):l.all p=false:=by
 rw [List.all_eq_false]
 exact ⟨l[m],List.getElem_mem hm,by simpa using h⟩
end Go.Proofs.YtkcmgbbopedacaaGreatDoor
