/-
  Lemmas: Walks over states
-/
import Derived.Test.YtkcmgbbopedacaaGreatDoorPZ2
set_option linter.unusedSimpArgs false
set_option linter.unusedVariables false
namespace Go.Proofs.YtkcmgbbopedacaaGreatDoor
open Go.RowKit
attribute [local simp] Sem.run_bind Sem.run_pure Result.andThen_ok
def ZmK (P:Program) (s:TypeId) (f:Nat):Option Nat :=
 match P.underlying s with
 | some (.struct fs)=>(fs[f]?).bind fun fd=>(P.info? fd.type).bind fun i=>if i.size=0 then none else some fd.offset
 | _=>none
class Fo (P:Program) (s:TypeId) (f:Nat) (off:outParam Nat):Prop where
 out:ZmK P s f=some off
def ZjI (P:Program) (s:TypeId) (f:Nat):Option (Nat × Nat × Bool) :=
 match P.underlying s with
 | some (.struct fs)=>(fs[f]?).bind fun fd=>(P.info? fd.type).bind fun i=>((P.underlying fd.type).map (fun | .struct _ | .array _ _=>true | _=>false)).map fun ag=>(fd.offset,i.size,ag)
 | _=>none
class Fp (P:Program) (s:TypeId) (f:Nat) (off n:outParam Nat) (ag:outParam Bool):Prop where
 out:ZjI P s f=some (off,n,ag)
def places (P:Program) (s:TypeId):Option (List (Nat × Nat)) :=
 match P.underlying s with
 | some (.struct fs)=>fs.toList.mapM fun fd=>(P.info? fd.type).map fun i=>(fd.offset,i.size)
 | _=>none
class Bd (P:Program) (s:TypeId) (pl:outParam (List (Nat × Nat))) (z:outParam (List Value)):Prop where
 pl:places P s=some pl
 z:Zu P s z
class Ar (P:Program) (T:TypeId) (len E:outParam Nat):Prop where
 out:P.underlying T=some (.array len E)
def stV:Nat→List V→List V→List V
 | _,[],c=>c
 | 0,v::vs,_::c=>v::stV 0 vs c
 | _,_::_,[]=>[]
 | o+1,v::vs,x::c=>x::stV o (v::vs) c
theorem ZgC {w:World} {ok:Nat→Prop} {ρ:Lc}:∀ (o:Nat) {xs cs:List V} {vs us:List Value},RVs w ok ρ xs vs→RVs w ok ρ cs us→RVs w ok ρ (stV o xs cs) (stL o vs us)
 | _,[],_,_,_,.nil,h=>by simpa [stV,stL] using h
 | 0,_::_,[],_,_,.cons _ _,.nil=>by simpa [stV,stL] using RVs.nil
 | 0,_::_,_::_,_,_,.cons h1 h2,.cons _ h4=>by simpa [stV,stL] using RVs.cons h1 (ZgC 0 h2 h4)
 | o+1,_::_,[],_,_,.cons _ _,.nil=>by simpa [stV,stL] using RVs.nil
 | o+1,_::_,_::_,_,_,.cons h1 h2,.cons h3 h4=>by simpa [stV,stL] using RVs.cons h3 (ZgC o (.cons h1 h2) h4)
theorem ZgH:∀ (o:Nat) {vs us:List Value},vs.all Value.oneCell'=true→us.all Value.oneCell'=true→(stL o vs us).all Value.oneCell'=true
 | _,[],_,_,h=>by simpa [stL] using h
 | 0,_::_,[],_,_=>by simp [stL]
 | 0,v::vs,u::us,h1,h2=>by
  simp only [List.all_cons,Bool.and_eq_true] at h1 h2
  simp only [stL,List.all_cons,h1.1,ZgH 0 h1.2 h2.2,Bool.and_self]
 | o+1,_::_,[],_,_=>by simp [stL]
 | o+1,v::vs,u::us,h1,h2=>by
  simp only [List.all_cons,Bool.and_eq_true] at h2
  simp only [stL,List.all_cons,h2.1,ZgH o h1 h2.2,Bool.and_self]
def ldC (ag:Bool) (n o:Nat) (c:List V):Option V:=bif ag then some (.a ((c.drop o).take n)) else c[o]?
def ldE (ag:Bool) (n o:Nat) (c:List D):Option V:=bif ag then some (.a (((c.drop o).take n).map .d)) else (c[o]?).map .d
def QF (pl:List (Nat × Nat)):List V→List (Nat × V)→Option (List V)
 | cells,[]=>some cells
 | cells,(i,u)::r=>match pl[i]? with
  | some (off,n)=>bif (Zq u).length == n && Nat.ble (off+n) cells.length && (Zq u).all cellV then QF pl (stV off (Zq u) cells) r else none
  | none=>none
def evs (sl:List (Nat × V)):List (Nat × Operand)→Option (List (Nat × V))
 | []=>some []
 | (i,x)::r=>match ev sl x,evs sl r with
  | some u,some l=>some ((i,u)::l)
  | _,_=>none
def YB (z:Nat):Nat→List (Nat × V)→Option (List V)
 | _,[]=>some []
 | k,(i,u)::r=>bif i == k && (Zq u).length == z && (Zq u).all cellV then (YB z (k+1) r).map (Zq u++·) else none
section
variable {P:Program} {w:World} {ok:Nat→Prop} {ρ:Lc}
theorem Zew {T:TypeId} {n b off:Nat} {ag:Bool} {c:List Value} (hT:Ty P T n ag) (hc:∀ j v,c[j]?=some v→w.cell? ⟨b,off+j,none⟩=some v) (hl:c.length=n) (h1:ag=false→n=1) :
   (loadVar T ⟨b,off,none⟩).run P w=.ok (bif ag then .agg c.toArray else c.getD 0 undef) w:=by
 unfold loadVar
 rw [Sem.run_bind,ZbG hT]
 cases ag with
 | true =>
  have:=run_loadCells_list (P:=P) w ⟨b,off,none⟩ c fun j v hv=>by rw [addr_add]; exact hc j v hv
  rw [hl] at this
  simp [XX hT,this]
 | false =>
  have hn:=h1 rfl
  cases c with
  | nil=>simp at hl; omega
  | cons v r =>
   have:=hc 0 v rfl
   simp only [Nat.add_zero] at this
   simp [load,Sem.run,this]
theorem ZpB {T:TypeId} {n o:Nat} {ag:Bool} {u:V} {c:List V} {vs:List Value} (hT:Ty P T n ag) (h:RVs w ok ρ c vs) {b:Nat} (hc:∀ j v,vs[j]?=some v→w.cell? ⟨b,j,none⟩=some v) (hu:ldC ag n o c=some u)
   (hl:(Nat.ble (o+n) c.length && (ag || n == 1))=true):∃ v,(loadVar T ⟨b,o,none⟩).run P w=.ok v w∧RV w ok ρ u v:=by
 simp only [Bool.and_eq_true,Bool.or_eq_true,beq_iff_eq,Nat.ble_eq] at hl
 have hlen:=h.length
 have hr:=Zew (P:=P) (w:=w) (off:=o) (b:=b) (c:=(vs.drop o).take n) hT (fun j v hv=>by
  rw [List.getElem?_take] at hv
  split at hv
  ·exact hc _ _ (by simpa using hv)
  ·cases hv) (by simp; omega) (fun e=>hl.2.resolve_left (by simp [e]))
 refine ⟨_,hr,?_⟩
 have h2:=(h.drop o).take n
 unfold ldC at hu
 cases ag with
 | true=>obtain rfl:=Option.some.inj hu; exact .a h2
 | false =>
  obtain rfl:n=1:=hl.2.resolve_left (by simp)
  simp only [cond_false] at hu
  obtain ⟨v,h3,h4⟩:=h.get hu
  have:((vs.drop o).take 1).getD 0 undef=v:=by simp [List.getD,List.getElem?_take,h3]
  simp only [cond_false,this]
  exact h4
theorem Zut {T:TypeId} {n o:Nat} {ag:Bool} {u:V} {c:List D} {vs:List Value} (hT:Ty P T n ag) (h:RDs w ok c vs) {b o0:Nat} (hc:∀ j v,vs[j]?=some v→w.cell? ⟨b,o0+j,none⟩=some v) (hu:ldE ag n o c=some u)
   (hl:(Nat.ble (o+n) c.length && (ag || n == 1))=true):∃ v,(loadVar T ⟨b,o0+o,none⟩).run P w=.ok v w∧RV w ok ρ u v:=by
 simp only [Bool.and_eq_true,Bool.or_eq_true,beq_iff_eq,Nat.ble_eq] at hl
 have hlen:=h.length
 have hr:=Zew (P:=P) (w:=w) (off:=o0+o) (b:=b) (c:=(vs.drop o).take n) hT (fun j v hv=>by
  rw [List.getElem?_take] at hv
  split at hv
  ·rw [Nat.add_assoc]; exact hc _ _ (by simpa using hv)
  ·cases hv) (by simp; omega) (fun e=>hl.2.resolve_left (by simp [e]))
 refine ⟨_,hr,?_⟩
 have h2:=(h.drop o).take n
 unfold ldE at hu
 cases ag with
 | true=>obtain rfl:=Option.some.inj hu; exact .a h2.toV
 | false =>
  obtain rfl:n=1:=hl.2.resolve_left (by simp)
  simp only [cond_false] at hu
  cases hx:c[o]? with
  | none=>rw [hx] at hu; cases hu
  | some x =>
   rw [hx] at hu
   obtain rfl:=Option.some.inj hu
   obtain ⟨v,h3,h4⟩:=h.get hx
   have:((vs.drop o).take 1).getD 0 undef=v:=by simp [List.getD,List.getElem?_take,h3]
   simp only [cond_false,this]
   exact .d h4
end
section
variable {P:Program} {o:Oper} {H:Hp} {sl:List (Nat × V)}  {u ux uy:V} {h:Hp} {x y z:Operand} {T T' U E:TypeId} {n k off bytes:Nat} {ag:Bool} {cs cs':List V}
theorem Zw1 {T:TypeId} {z:List Value} (hz:Zu P T z) {o:Oper} (ho:o.op=.alloc T) (ρ:Operand→Value) (w:World):(execOp ρ o).run P w=.ok (.value (.pointer (some ⟨w.heap.size,0,none⟩))) (w.alloc (.cells z.toArray T)):=ZmF hz ho ρ w
theorem ZuF (k:Nat) {zs:List Value} (hop:o.op=.alloc T) (hz:Zu P T zs) (h1:zs.all Value.oneCell'=true) (hcs:zs.map (fun v=>V.d (.c v))=cs):OpD P o H sl k 1 (.p k 0) [(k,some (.box T cs))]:=fun B a w ρ _ _ hk=>by
 subst hcs
 have hk:=hk k (Nat.le_refl _) (by omega)
 refine ⟨_,_,_,upd ρ k (.box w.heap.size),Zw1 hz hop _ w,.inl rfl,Step.new1 hk (fun _ h=>h) (.inl rfl) fun ok' ρ' _ _ hn=>⟨zs,hn,h1,Zot fun v hv=>List.all_eq_true.1 h1 v hv⟩,.p (Y0 _ _ _)⟩
theorem Zyl (k:Nat) (hop:o.op=.box T x) (hx:ev sl x=some u) (hc:(Zq u).all cellV=true) (hcs:Zq u=cs):OpD P o H sl k 1 (.p k 0) [(k,some (.box T cs))]:=fun B a w ρ hs _ hk=>by
 subst hcs
 have hk:=hk k (Nat.le_refl _) (by omega)
 obtain ⟨h1,h2⟩:=(Zp hs hx).cells hc
 refine ⟨.value (.pointer (some ⟨w.heap.size,0,none⟩)),_,w.alloc (.cells (a.eval x).cells T),upd ρ k (.box w.heap.size),?_,.inl rfl,Step.new1 hk (fun _ h=>h) (.inl rfl) fun ok' ρ' hst he hn=>⟨(a.eval x).cells.toList,by simpa using hn,h2,h1.mono hst he⟩,.p (Y0 _ _ _)⟩
 unfold execOp; rw [hop]
 simp only [Instr.box,newVar,newRow,newObj,Sem.run_bind,Sem.run,Sem.run_pure,Result.andThen_ok]
 rfl
theorem ZgL {w:World} {b:Nat} {us:List Value} {T:TypeId} (h:w.heap[b]?=some (.cells us.toArray T (0,0))) (j:Nat) (v:Value) (hv:us[j]?=some v):w.cell? ⟨b,j,none⟩=some v:=by
 simp [World.cell?,h,hv]
theorem o_load (hop:o.op=.load T x) (hx:ev sl x=some (.p k off)) (hH:look H k=some (some (.box T' cs))) (hT:Ty P T n ag) (hl:(Nat.ble (off+n) cs.length && (ag || n == 1))=true) (hu:ldC ag n off cs=some u):OpD P o H sl 0 0 u []:=.read fun B a w ρ hs hr=>by
 obtain ⟨l,h1,h2⟩:=hr.rel _ _ hH
 have hx':=Zp hs hx
 generalize a.eval x=vx at hx'
 cases l with
 | tr _ _=>exact h2.elim
 | arr v=>exact h2.elim
 | box b =>
  obtain ⟨us,h3,h4,h5⟩:=h2
  obtain ⟨v,h6,h7⟩:=ZpB (P:=P) hT h5 (ZgL h3) hu hl
  refine ⟨v,?_,h7⟩
  unfold execOp; rw [hop]
  have e:a.eval x=.pointer (some ⟨b,off,none⟩):=by
   have hx':=Zp hs hx
   generalize a.eval x=vx at hx'
   cases hx' with
   | p hp=>rw [h1] at hp; simp only [Option.some.injEq,Loc.box.injEq] at hp; rw [hp]
  simp [e,Instr.loadAt,Instr.sureAddr,h6]
theorem Zie {z m:Nat} (hop:o.op=.load T x) (hx:ev sl x=some (.e k off)) (hH:look H k=some (some (.arr E z m cs))) (hT:Ty P T n ag) (hl:(Nat.ble (off+n) cs.length && (ag || n == 1))=true) (hu:ldC ag n off cs=some u):OpD P o H sl 0 0 u []:=.read fun B a w ρ hs hr=>by
 obtain ⟨l,h1,h2⟩:=hr.rel _ _ hH
 cases l with
 | tr _ _=>exact h2.elim
 | box v=>exact h2.elim
 | arr v =>
  have hx':=Zp hs hx
  rcases h2 with ⟨-,-,rfl⟩ | ⟨g,cap,us,sp,rfl,h3,h4,h5,h6,h7,h8,h9⟩
  ·simp only [List.length_nil,Bool.and_eq_true,Nat.ble_eq,Bool.or_eq_true,beq_iff_eq] at hl
   obtain rfl:n=0:=by omega
   obtain rfl:off=0:=by omega
   obtain rfl:ag=true:=hl.2.resolve_right (by simp)
   have hz:(loadVar T ⟨0,0,none⟩).run P w=.ok (.agg #[]) w:=by
    have:=Zew (P:=P) (w:=w) (b:=0) (off:=0) (c:=[]) hT (by simp) rfl (by simp)
    simpa using this
   simp only [ldC,List.drop_nil,List.take_nil,cond_true,Option.some.injEq] at hu
   subst hu
   refine ⟨.agg #[],?_,.a .nil⟩
   unfold execOp; rw [hop]
   generalize e:a.eval x=vx at hx'
   cases hx' with
   | e hp =>
    rename_i g0 n0 c0
    have hz2:(loadVar T ⟨g0,0,none⟩).run P w=.ok (.agg #[]) w:=by
     have:=Zew (P:=P) (w:=w) (b:=g0) (off:=0) (c:=[]) hT (by simp) rfl (by simp)
     simpa using this
    simp [e,Instr.loadAt,Instr.sureAddr,hz2]
  ·obtain ⟨v,h10,h11⟩:=ZpB (P:=P) hT h9 (b:=g) (fun j v hv=>by rw [World.cell?,h5]; simp [List.getElem?_append_left (List.getElem?_eq_some_iff.1 hv).1,hv]) hu hl
   refine ⟨v,?_,h11⟩
   unfold execOp; rw [hop]
   generalize e:a.eval x=vx at hx'
   cases hx' with
   | e hp =>
    rw [h1] at hp
    simp only [Option.some.injEq,Loc.arr.injEq,Value.slice.injEq,Addr.mk.injEq,and_true] at hp
    obtain ⟨rfl,-,-⟩:=hp
    simp [e,Instr.loadAt,Instr.sureAddr,h10]
theorem Zif {xs:List D} (hop:o.op=.load T x) (hx:ev sl x=some (.q xs)) (hT:Ty P T n ag) (hl:(Nat.ble n xs.length && (ag || n == 1))=true) (hu:ldE ag n 0 xs=some u):OpD P o H sl 0 0 u []:=.read fun B a w ρ hs hr=>by
 have hx':=Zp hs hx
 unfold execOp; rw [hop]
 generalize e:a.eval x=vx at hx'
 cases hx' with
 | q h1 h2 h3 =>
  rename_i b o0 vs
  obtain ⟨v,h10,h11⟩:=Zut (P:=P) (ρ:=ρ) (o:=0) hT h2 h3 hu (by simpa using hl)
  rw [Nat.add_zero] at h10
  exact ⟨v,by simp [e,Instr.loadAt,Instr.sureAddr,h10],h11⟩
theorem ZkT {w:World} {b off:Nat} {T':TypeId} {c vs:List Value} {v:Value} (hT:Ty P T n ag) (hb:w.heap[b]?=some (.cells c.toArray T' (0,0))) (hv:v.cells=vs.toArray) (hl:off+n≤c.length) (hn:vs.length=n) (h1:vs.all Value.oneCell'=true) :
   (storeVar T ⟨b,off,none⟩ v).run P w=.ok () (w.setRow b (stL off vs c).toArray):=by
 have hs:=run_storeCells_at P b off T' vs 0 c.toArray w hb (by simp; omega) (List.all_eq_true.1 h1)
 simp only [Nat.add_zero] at hs
 unfold storeVar
 rw [Sem.run_bind,XX hT]
 simp only [Result.andThen_ok,hv,List.size_toArray,hn,ne_eq,not_true,if_false]
 rw [Zax _ _ _ (by omega)]
 simpa using hs
theorem Zk4 (hop:o.op=.store T x y) (hx:ev sl x=some (.p k off)) (hy:ev sl y=some u) (hH:look H k=some (some (.box T' cs))) (hT:Ty P T n ag) (hl:(Nat.ble (off+n) cs.length && (Zq u).length == n && (Zq u).all cellV)=true) (hc:stV off (Zq u) cs=cs') :
   OpD P o H sl 0 0 .un [(k,some (.box T' cs'))]:=fun B a w ρ hs hr _=>by
 subst hc
 simp only [Bool.and_eq_true,Nat.ble_eq,beq_iff_eq] at hl
 obtain ⟨⟨hl1,hl2⟩,hl3⟩:=hl
 obtain ⟨l,h1,h2⟩:=hr.rel _ _ hH
 cases l with
 | tr _ _=>exact h2.elim
 | arr v=>exact h2.elim
 | box b =>
  obtain ⟨us,h3,h4,h5⟩:=h2
  obtain ⟨h6,h7⟩:=(Zp hs hy).cells hl3
  have hst:=ZkT (P:=P) (n:=n) (off:=off) (vs:=(a.eval y).cells.toList) (v:=a.eval y) hT h3 (by simp) (by rw [h5.length]; exact hl1) (by rw [h6.length]; exact hl2) h7
  refine ⟨.skip,undef,w.setRow b (stL off (a.eval y).cells.toList us).toArray,ρ,?_,.inr ⟨rfl,rfl⟩,Step.set1 h1 hH rfl (by simp) rfl rfl rfl (fun j hj=>setRow_other w b j _ hj) fun ok' hs'=>⟨_,setRow_heap w b _ _ _ _ h3,ZgH off h7 h4,(ZgC off h6 h5).mono hs' (fun _ _ h=>h)⟩,.un⟩
  unfold execOp; rw [hop]
  have e:a.eval x=.pointer (some ⟨b,off,none⟩):=by
   have hx':=Zp hs hx
   generalize a.eval x=vx at hx'
   cases hx' with
   | p hp=>rw [h1] at hp; simp only [Option.some.injEq,Loc.box.injEq] at hp; rw [hp]
  simp [e,Instr.storeAt,Instr.sureAddr,hst]
theorem ZlO {off b o0:Nat} {w:World} (hf:Fo P T n off):(Instr.fieldAt T (.pointer (some ⟨b,o0,none⟩)) n).run P w=.ok (.pointer (some ⟨b,o0+off,none⟩)) w:=by
 have h1:=hf.out
 unfold ZmK at h1
 cases hu:P.underlying T with
 | none=>simp [hu] at h1
 | some d =>
  cases d <;> first | (simp [hu] at h1; done) | skip
  rename_i fs
  simp only [hu] at h1
  cases hfd:fs[n]? with
  | none=>simp [hfd] at h1
  | some fd =>
   cases hi:P.info? fd.type with
   | none=>simp [hfd,hi] at h1
   | some i =>
    by_cases hz:i.size=0
    ·simp [hfd,hi,hz] at h1
    ·simp [hfd,hi,hz] at h1
     simp [Instr.fieldAt,run_underlying hu,hfd,Instr.sureAddr,fieldPlace,sizeOf,typeInfo,hi,hz,addr_add,h1]
theorem Zxp [hf:Fo P T n off] {o0:Nat} (hop:o.op=.fieldAddr T x n) (hx:ev sl x=some (.p k o0)):OpD P o H sl 0 0 (.p k (o0+off)) []:=.read fun B a w ρ hs _=>by
 have hx':=Zp hs hx
 unfold execOp; rw [hop]
 generalize e:a.eval x=vx at hx'
 cases hx' with
 | p hp=>exact ⟨_,by simp [e,ZlO hf],.p hp⟩
theorem ZrG [hf:Fo P T n off] {o0:Nat} (hop:o.op=.fieldAddr T x n) (hx:ev sl x=some (.e k o0)):OpD P o H sl 0 0 (.e k (o0+off)) []:=.read fun B a w ρ hs _=>by
 have hx':=Zp hs hx
 unfold execOp; rw [hop]
 generalize e:a.eval x=vx at hx'
 cases hx' with
 | e hp=>exact ⟨_,by simp [e,ZlO hf],.e hp⟩
theorem ZrT [hf:Fo P T n off] {xs ys:List D} (hop:o.op=.fieldAddr T x n) (hx:ev sl x=some (.q xs)) (hy:xs.drop off=ys):OpD P o H sl 0 0 (.q ys) []:=.read fun B a w ρ hs _=>by
 subst hy
 have hx':=Zp hs hx
 unfold execOp; rw [hop]
 generalize e:a.eval x=vx at hx'
 cases hx' with
 | q h1 h2 h3 =>
  refine ⟨_,by simp [e,ZlO hf]; rfl,.q h1 (h2.drop off) fun j v hv=>?_⟩
  rw [Nat.add_assoc]; exact h3 _ _ (by simpa using hv)
theorem ZoF {t E:TypeId} {z bytes len cap m:Nat} {ad:Addr} {i:Int} {w:World} (hS:Sl P t E z bytes) (hm:i=(m:Int)) (hl:m<len):(Instr.indexAt t (.slice (some ad) len cap) (.int .i64 i)).run P w=.ok (.pointer (some (ad.add (m * z)))) w:=by
 obtain ⟨inf,zv,hi,hz,rfl,rfl,hzs⟩:=hS.el
 subst hm
 have hu:(underlying t).run P w=.ok (.slice E) w:=run_underlying hS.un w
 have h1:(0:Int)≤(m:Int)∧(m:Int)<(len:Int):=by omega
 simp [Instr.indexAt,asIntOf,hu,h1,sizeOf,typeInfo,hi,hl]
theorem Zyg {t E:TypeId} {z bytes len m:Nat} {i:Int} {xs ys:List D} [hS:Sl P t E z bytes] (hop:o.op=.indexAddr t x y) (hx:ev sl x=some (.d (.l len xs))) (hy:ev sl y=some (vI i)) (hm:i=(m:Int)) (hl:m<len) (hz:∀ j d,ys[j]?=some d→xs[m * z+j]?=some d):OpD P o H sl 0 0 (.q ys) []:=.read fun B a w ρ hs _=>by
 have hx':=Zp hs hx
 have hy':=ZbM (Zp hs hy)
 unfold execOp; rw [hop]
 generalize e:a.eval x=vx at hx'
 cases hx' with
 | d hx' =>
  cases hx' with
  | nil=>omega
  | l h1 _ h2 h3 h4 =>
   obtain ⟨us,h5,h6⟩:=h3.pre (m * z) hz
   refine ⟨_,by simp [e,hy',ZoF hS hm hl,addr_add]; rfl,.q h2 h5 fun j v hv=>?_⟩
   rw [Nat.add_assoc]; exact h4 _ _ (h6 _ _ hv)
theorem Zyd {t E E':TypeId} {z bytes len m:Nat} {i:Int} [hS:Sl P t E z bytes] (hop:o.op=.indexAddr t x y) (hx:ev sl x=some (.h k)) (hy:ev sl y=some (vI i)) (hH:look H k=some (some (.arr E' z len cs))) (hm:i=(m:Int)) (hl:m<len):OpD P o H sl 0 0 (.e k (m * z)) []:=.read fun B a w ρ hs hr=>by
 obtain ⟨l,g1,g2⟩:=hr.rel _ _ hH
 have hx':=Zp hs hx
 have hy':=ZbM (Zp hs hy)
 unfold execOp; rw [hop]
 generalize e:a.eval x=vx at hx'
 cases hx' with
 | h hp =>
  rw [g1] at hp
  obtain rfl:=Option.some.inj hp
  rcases g2 with ⟨h1,rfl,rfl⟩ | ⟨g,cap,us,sp,h1,-⟩
  ·omega
  ·cases h1
   exact ⟨_,by simp [e,hy',ZoF hS hm hl,addr_add],.e g1⟩
theorem Zid {t:TypeId} {s:ByteArray} (hop:o.op=.call { callee:=.builtin .len,args:=#[x],argTypes:=#[t] }) (hx:ev sl x=some (vS s)) (ht:P.underlying t=some .string):OpD P o H sl 0 0 (vI s.size) []:=.read fun B a w ρ hs _=>by
 have hx':=ZbM (Zp hs hx)
 refine ⟨_,?_,.d (.c rfl)⟩
 unfold execOp; rw [hop]
 simp [resolve,invoke,builtin,Builtin.len_,hx',run_underlying ht,goInt]
theorem Zev {t E:TypeId} {z bytes len cap:Nat} {p:Option Addr} {w:World} (hS:Sl P t E z bytes):(Builtin.len_ #[t] T #[.slice p len cap]).run P w=.ok (.int .i64 len) w:=by
 simp [Builtin.len_,run_underlying hS.un,goInt]
theorem Zip {t E:TypeId} {z bytes len:Nat} {xs:List D} [hS:Sl P t E z bytes] (hop:o.op=.call { callee:=.builtin .len,args:=#[x],argTypes:=#[t] }) (hx:ev sl x=some (.d (.l len xs))):OpD P o H sl 0 0 (vI len) []:=.read fun B a w ρ hs _=>by
 have hx':=Zp hs hx
 refine ⟨_,?_,.d (.c rfl)⟩
 unfold execOp; rw [hop]
 generalize e:a.eval x=vx at hx'
 cases hx' with
 | d hx'=>cases hx' <;> simp [resolve,invoke,builtin,e,Zev hS]
theorem Zir {t E:TypeId} {z bytes:Nat} [hS:Sl P t E z bytes] (hop:o.op=.call { callee:=.builtin .len,args:=#[x],argTypes:=#[t] }) (hx:ev sl x=some (.d (.c (.slice none 0 0)))):OpD P o H sl 0 0 (vI 0) []:=.read fun B a w ρ hs _=>by
 have hx':=ZbM (Zp hs hx)
 refine ⟨_,?_,.d (.c rfl)⟩
 unfold execOp; rw [hop]
 simp [resolve,invoke,builtin,hx',Zev hS]
theorem Zk1 {t E E':TypeId} {z z' bytes len:Nat} [hS:Sl P t E z bytes] (hop:o.op=.call { callee:=.builtin .len,args:=#[x],argTypes:=#[t] }) (hx:ev sl x=some (.h k)) (hH:look H k=some (some (.arr E' z' len cs))):OpD P o H sl 0 0 (vI len) []:=.read fun B a w ρ hs hr=>by
 obtain ⟨l,g1,g2⟩:=hr.rel _ _ hH
 have hx':=Zp hs hx
 refine ⟨_,?_,.d (.c rfl)⟩
 unfold execOp; rw [hop]
 generalize e:a.eval x=vx at hx'
 cases hx' with
 | h hp =>
  rw [g1] at hp
  obtain rfl:=Option.some.inj hp
  rcases g2 with ⟨h1,rfl,rfl⟩ | ⟨g,cap,us,sp,h1,-⟩
  ·cases h1; simp [resolve,invoke,builtin,e,Zev hS]
  ·cases h1; simp [resolve,invoke,builtin,e,Zev hS]
theorem Zia {t E:TypeId} {z z' bytes len o1:Nat} [hS:Sl P t E z bytes] (hop:o.op=.call { callee:=.builtin .len,args:=#[x],argTypes:=#[t] }) (hx:ev sl x=some (.s k o1 len z')):OpD P o H sl 0 0 (vI len) []:=.read fun B a w ρ hs hr=>by
 have hx':=Zp hs hx
 refine ⟨_,?_,.d (.c rfl)⟩
 unfold execOp; rw [hop]
 generalize e:a.eval x=vx at hx'
 cases hx' <;> simp [resolve,invoke,builtin,e,Zev hS]
theorem Zio [hf:Fp P T n off k ag] {xs:List V} (hop:o.op=.field T x n) (hx:ev sl x=some (.a xs)) (hl:(Nat.ble (off+k) xs.length && (ag || k == 1))=true) (hu:ldC ag k off xs=some u):OpD P o H sl 0 0 u []:=.read fun B a w ρ hs _=>by
 obtain ⟨vs,e,h2⟩:=Zrr (Zp hs hx)
 simp only [Bool.and_eq_true,Nat.ble_eq,Bool.or_eq_true,beq_iff_eq] at hl
 have h1:=hf.out
 unfold ZjI at h1
 have hlen:=h2.length
 unfold execOp; rw [hop]
 cases hu':P.underlying T with
 | none=>simp [hu'] at h1
 | some d =>
  cases d <;> first | (simp [hu'] at h1; done) | skip
  rename_i fs
  simp only [hu'] at h1
  cases hfd:fs[n]? with
  | none=>simp [hfd] at h1
  | some fd =>
   cases hi:P.info? fd.type with
   | none=>simp [hfd,hi] at h1
   | some i =>
    cases hag:P.underlying fd.type with
    | none=>simp [hfd,hi,hag] at h1
    | some dd =>
     simp only [hfd,hi,hag,Option.bind_some,Option.map_some,Option.some.injEq,Prod.mk.injEq] at h1
     obtain ⟨rfl,rfl,hag2⟩:=h1
     have hisag:(isAgg fd.type).run P w=.ok ag w:=by
      unfold isAgg
      rw [Sem.run_bind,run_underlying hag w]
      cases dd <;> simp_all
     cases ag with
     | true =>
      simp only [ldC,cond_true,Option.some.injEq] at hu
      subst hu
      refine ⟨.agg (((vs.drop fd.offset).take i.size).toArray),?_,.a ((h2.drop _).take _)⟩
      simp [Instr.field,run_underlying hu',hfd,e,asAgg,part,hisag,sizeOf,typeInfo,hi]
     | false =>
      simp only [ldC,cond_false] at hu
      obtain ⟨v,h3,h4⟩:=h2.get hu
      refine ⟨v,?_,h4⟩
      simp [Instr.field,run_underlying hu',hfd,e,asAgg,part,hisag,h3]
theorem Zfd {xs:List V} (hop:o.op=.extract x n) (hx:ev sl x=some (.t xs)) (hu:xs[n]?=some u):OpD P o H sl 0 0 u []:=.read fun B a w ρ hs _=>by
 obtain ⟨vs,e,h2⟩:=Zxq (Zp hs hx)
 obtain ⟨v,h3,h4⟩:=h2.get hu
 refine ⟨v,?_,h4⟩
 unfold execOp; rw [hop]
 simp [e,Instr.extract,h3]
theorem Zrz {b:Bool} (hop:o.op=.unOp .not T x) (hx:ev sl x=some (vB b)):OpD P o H sl 0 0 (vB (!b)) []:=.read fun B a w ρ hs _=>by
 have hx':=ZbM (Zp hs hx)
 refine ⟨_,?_,.d (.c rfl)⟩
 unfold execOp; rw [hop]
 simp [hx',Op.unary]
end
end Go.Proofs.YtkcmgbbopedacaaGreatDoor
namespace Go.Proofs.YtkcmgbbopedacaaGreatDoor
open Go.RowKit
inductive Zcc where
 | fn (post:St→Prop)
 | seq (y:Code) (k:Zcc)
 | block (id:Nat) (k:Zcc)
 | loop (I:Nat→St→Prop) (n:Nat) (k:Zcc)
 | cut (I:St→Prop) (k:Zcc)
def Wk (Γ:Cx) (st st':St):Prop:=∀ a w,Rel Γ st a w→Rel Γ st' a w
theorem Wk.refl (Γ:Cx) (st:St):Wk Γ st st:=fun _ _ h=>h
theorem Wk.trans {Γ:Cx} {a b c:St} (h:Wk Γ a b) (k:Wk Γ b c):Wk Γ a c:=fun x w hr=>k x w (h x w hr)
def WK (Γ:Cx):Zcc→Exit→St→Prop
 | .fn post,.ret,st=>∃ st',Wk Γ st st'∧post st'
 | .fn post,.normal,st=>∃ st',Wk Γ st st'∧post st'
 | .fn _,_,_=>False
 | .seq y k,.normal,st=>∀ a w,Rel Γ st a w→y.wp Γ.P (fun e a w=>∃ st,WK Γ k e st∧Rel Γ st a w) a w
 | .seq _ k,e,st=>WK Γ k e st
 | .block id k,.exit id',st=>if id'=id then WK Γ k .normal st else WK Γ k (.exit id') st
 | .block _ k,e,st=>WK Γ k e st
 | .loop I n _,.normal,st=>∃ m st',Wk Γ st st'∧m<n∧I m st'
 | .loop _ _ k,e,st=>WK Γ k e st
 | .cut I _,.normal,st=>∃ st',Wk Γ st st'∧I st'
 | .cut _ k,e,st=>WK Γ k e st
def QQ (Γ:Cx) (k:Zcc) (e:Exit) (a:Act) (w:World):Prop:=∃ st,WK Γ k e st∧Rel Γ st a w
def WC (Γ:Cx) (c:Code) (k:Zcc) (st:St):Prop:=∀ a w,Rel Γ st a w→c.wp Γ.P (QQ Γ k) a w
def WL (Γ:Cx) (ops:Array Oper) (rest:List Oper) (k:Zcc) (st:St):Prop:=∀ a w,Rel Γ st a w→wpList Γ.P ops (QQ Γ k) rest a w
theorem wp_loop' {P:Program} {Q:Exit→Act→World→Prop} {a:Act} {w:World} {c:Code} (I:Nat→Act→World→Prop) {n:Nat} (h₀:I n a w)
   (round:∀ n a w,I n a w→c.wp P (Exit.then (fun a' w'=>∃ m,m<n∧I m a' w') Q) a w):(Code.loop c).wp P Q a w:=by
 intro b k cs
 have key:∀ n a w,I n a w →
    ∃ e a' w',Q e a' w'∧Arrives P (lone (b.at a (.code c::.inLoop c::k)) cs w) b k cs e a' w':=by
  intro n
  induction n using Nat.strongRecOn with
  | _ n ih =>
   intro a w hI
   obtain ⟨e,a₁,w₁,hq,harr⟩:=round n a w hI b (.inLoop c::k) cs
   cases e with
   | normal =>
    obtain ⟨m,hlt,hI₁⟩:=hq
    obtain ⟨e₂,a₂,w₂,hq₂,harr₂⟩:=ih m hlt a₁ w₁ hI₁
    exact ⟨e₂,a₂,w₂,hq₂,.of_steps (Steps.trans harr (.one step_inLoop)) harr₂⟩
   | exit id=>exact ⟨_,a₁,w₁,hq,.pass (x:=.inLoop c) rfl (fun _ _=>.inl (by simp)) harr⟩
   | goto l=>exact ⟨_,a₁,w₁,hq,.pass (x:=.inLoop c) rfl (fun _ _=>.inl (by simp)) harr⟩
   | ret=>exact ⟨_,a₁,w₁,hq,.pass (x:=.inLoop c) rfl (fun _ _=>.inl (by simp)) harr⟩
   | panic ch=>exact ⟨_,a₁,w₁,hq,.pass (x:=.inLoop c) rfl (fun _ _=>.inl (by simp)) harr⟩
   | outgrown=>exact ⟨_,a₁,w₁,hq,.pass (x:=.inLoop c) rfl (fun _ _=>.inl (by simp)) harr⟩
 obtain ⟨e,a',w',hq,harr⟩:=key n a w h₀
 exact ⟨e,a',w',hq,.of_steps (.one step_loop) harr⟩
section
variable {Γ:Cx} {k:Zcc} {st:St} {x y:Code} {c:Operand} {b:Bool} {id:Nat}
theorem Zg (h:WC Γ x (.seq y k) st):WC Γ (.seq x y) k st:=fun a w hr=>wp_seq (wp_mono (h a w hr) (by
 rintro e a w ⟨st,hk,hr⟩
 cases e <;> first | exact hk a w hr | exact ⟨st,hk,hr⟩))
theorem Zc4 (h:WK Γ k .normal st):WC Γ .skip k st:=fun _ _ hr=>wp_skip ⟨st,h,hr⟩
theorem ZeR (h:WK Γ k .ret st):WC Γ .ret k st:=fun _ _ hr=>wp_ret ⟨st,h,hr⟩
theorem XA (h:WK Γ k (.exit id) st):WC Γ (.exit id) k st:=fun _ _ hr=>wp_exit ⟨st,h,hr⟩
theorem Zm (h:WC Γ x (.block id k) st):WC Γ (.block id x) k st:=fun a w hr=>wp_block (wp_mono (h a w hr) (by
 rintro e a w ⟨st,hk,hr⟩
 cases e with
 | exit id' =>
  simp only [WK] at hk
  simp only [Exit.inBlock]
  split
  ·rename_i e; rw [if_pos e] at hk; exact ⟨st,hk,hr⟩
  ·rename_i e; rw [if_neg e] at hk; exact ⟨st,hk,hr⟩
 | _=>exact ⟨st,hk,hr⟩))
theorem ZuG {B:Nat→Prop} {sl:List (Nat × V)} {ρ:Lc} {a:Act} {w:World} (hs:SR B sl ρ a w) (hc:ev sl c=some (vB b)):a.eval c=.bool b:=ZbM (Zp hs hc)
theorem Zez (hc:ev st.sl c=some (vB b)) (ht:b=true→WC Γ x k st) (hf:b=false→WC Γ y k st):WC Γ (.cond c x y) k st:=fun a w hr=>by
 obtain ⟨ρ,hp⟩:=hr
 exact wp_cond_split (ZuG hp.sr hc) (fun e=>ht e a w ⟨ρ,hp⟩) (fun e=>hf e a w ⟨ρ,hp⟩)
theorem Xn (hc:ev st.sl c=some (vB true)) (h:WC Γ x k st):WC Γ (.cond c x y) k st:=Zez hc (fun _=>h) (fun e=>by cases e)
theorem Yf (hc:ev st.sl c=some (vB false)) (h:WC Γ y k st):WC Γ (.cond c x y) k st:=Zez hc (fun e=>by cases e) (fun _=>h)
theorem Zp2 {p:Prop} [Decidable p] (hc:ev st.sl c=some (vB (decide p))) (ht:p→WC Γ x k st) (hf:¬ p→WC Γ y k st):WC Γ (.cond c x y) k st:=Zez hc (fun e=>ht (by simpa using e)) (fun e=>hf (by simpa using e))
theorem ZaE (I:Nat→St→Prop) (n:Nat) (st':St) (hw:Wk Γ st st') (h0:I n st') (hr:∀ n st,I n st→WC Γ x (.loop I n k) st):WC Γ (.loop x) k st:=fun a w hrel =>
 wp_loop' (fun n a w=>∃ st,I n st∧Rel Γ st a w) ⟨st',h0,hw a w hrel⟩ fun n a w ⟨st,hI,hrel⟩=>wp_mono (hr n st hI a w hrel) (by
  rintro e a w ⟨st,hk,hr⟩
  cases e with
  | normal =>
   obtain ⟨m,st',h1,h2,h3⟩:=hk
   exact ⟨m,h2,st',h3,h1 a w hr⟩
  | _=>exact ⟨st,hk,hr⟩)
theorem ZaN {l:List Oper} (h:WL Γ l.toArray l k st):WC Γ (.region id l.toArray false) k st:=fun a w hr=>wp_region_lit (h a w hr)
theorem ZbW {st':St} (hw:Wk Γ st st') (h:WC Γ x k st'):WC Γ x k st:=fun a w hr=>h a w (hw a w hr)
theorem ZpF {post:St→Prop} {st':St} (hw:Wk Γ st st') (h:post st'):WK Γ (.fn post) .ret st:=⟨st',hw,h⟩
theorem ZkU {post:St→Prop} {st':St} (hw:Wk Γ st st') (h:post st'):WK Γ (.fn post) .normal st:=⟨st',hw,h⟩
theorem ZtA (h:WC Γ y k st):WK Γ (.seq y k) .normal st:=h
theorem Zl3 (h:WK Γ k .ret st):WK Γ (.seq y k) .ret st:=h
theorem Zl6 (h:WK Γ k (.exit id) st):WK Γ (.seq y k) (.exit id) st:=h
theorem ZhT (h:WK Γ k .normal st):WK Γ (.block id k) .normal st:=h
theorem ZhS (h:WK Γ k .ret st):WK Γ (.block id k) .ret st:=h
theorem ZhP (h:WK Γ k .normal st):WK Γ (.block id k) (.exit id) st:=by simp only [WK,if_true]; exact h
theorem ZhK {id':Nat} (he:Nat.beq id' id=false) (h:WK Γ k (.exit id') st):WK Γ (.block id k) (.exit id') st:=by
 simp only [WK]
 rw [if_neg (fun e=>by subst e; simp at he)]; exact h
theorem ZjW {I:Nat→St→Prop} {n:Nat} (h:WK Γ k .ret st):WK Γ (.loop I n k) .ret st:=h
theorem ZjA {I:Nat→St→Prop} {n:Nat} (h:WK Γ k (.exit id) st):WK Γ (.loop I n k) (.exit id) st:=h
theorem Zbs {I:Nat→St→Prop} {n:Nat} (m:Nat) {st':St} (hw:Wk Γ st st') (hm:m<n) (h:I m st'):WK Γ (.loop I n k) .normal st:=⟨m,st',hw,hm,h⟩
theorem Zgv {I:St→Prop} {st':St} (hw:Wk Γ st st') (h:I st'):WK Γ (.cut I k) .normal st:=⟨st',hw,h⟩
theorem ZmJ {I:St→Prop} (h:WK Γ k .ret st):WK Γ (.cut I k) .ret st:=h
theorem ZlS {I:St→Prop} (h:WK Γ k (.exit id) st):WK Γ (.cut I k) (.exit id) st:=h
end
section
variable {Γ:Cx} {k:Zcc} {sl:List (Nat × V)} {hp:Hp} {st:St} {o:Oper} {rest:List Oper} {ops:Array Oper} {lo nn:Nat} {u:V} {h:Hp}
theorem Ztm (hk:WK Γ k .normal st):WL Γ ops [] k st:=fun _ _ hr=>wpList_nil ⟨st,hk,hr⟩
theorem ZfT.up {Γ:Cx} {st:St} {ρ:Lc} {a:Act} {w:World} (hr:ZfT Γ st ρ a w):∀ b,w.heap.size≤b→Γ.B b:=fun b hb=>hr.bup b (Nat.le_trans hr.kp.size hb)
theorem ZhM {P:Program} {Q:Exit→Act→World→Prop} {a:Act} {w:World} (hw:Region.wanted o (yielded ops a.tmps)=true) (hop:o.wp P a w (wpList P ops Q rest) Q):wpList P ops Q (o::rest) a w:=by
 unfold wpList; rw [if_pos hw]; exact .inl hop
theorem Oper.wp_mono' {P:Program} {a:Act} {w:World} {K K':Act→World→Prop} {Q Q':Exit→Act→World→Prop} (h:o.wp P a w K Q) (hk:∀ a w,K a w→K' a w) (hq:∀ e a w,Q e a w→Q' e a w):o.wp P a w K' Q':=by
 unfold Oper.wp at *
 revert h
 generalize (execOp a.eval o).run P w=r
 intro h
 cases r with
 | ok n w' =>
  cases n <;> first | exact hk _ _ h | exact h.elim | skip
  ·exact Calls.mono h fun e w' he=>by
    cases e with
    | returned v=>exact hk _ _ he
    | panicked c=>exact hq _ _ _ he
    | outgrown=>obtain ⟨a,w,h⟩:=he; exact ⟨a,w,hq _ _ _ h⟩
  ·exact Rows.mono h fun v w' he=>hk _ _ he
 | halt x w'=>cases x <;> first | exact hq _ _ _ h | exact h.elim
theorem Zdv {a b:Nat} (h:Nat.blt a b=true):a<b:=by
 have:=Nat.le_of_ble_eq_true h; omega
def ZZ:Hp→Nat→Nat→Bool
 | [],_,_=>true
 | (k,_)::r,lo,nn=>(Nat.blt k lo || Nat.ble (lo+nn) k) && ZZ r lo nn
theorem Zav:∀ {h:Hp} {lo nn:Nat},ZZ h lo nn=true→∀ {k:Nat},lo≤k→k<lo+nn→look h k=none
 | [],_,_,_,_,_,_=>rfl
 | (j,b)::r,lo,nn,h,k,h1,h2=>by
  simp only [ZZ,Bool.and_eq_true,Bool.or_eq_true] at h
  rw [Zo,if_neg (by
   rintro rfl
   rcases h.1 with h3 | h3
   ·have:=Zdv h3; omega
   ·have:=Nat.le_of_ble_eq_true h3; omega)]
  exact Zav h.2 h1 h2
theorem QX:∀ (h:Hp) (lo:Nat),ZZ h lo 0=true
 | [],_=>rfl
 | (k,b)::r,lo=>by simp only [ZZ,QX r,Bool.and_true,Nat.add_zero]; simp [Nat.blt]; omega
theorem Zc7 {Γ:Cx} {st:St} {ρ:Lc} {a:Act} {w:World} (hr:ZfT Γ st ρ a w) {lo nn:Nat} (hf:ZZ st.hp lo nn=true):∀ k,lo≤k→k<lo+nn→ρ k=none:=fun k h1 h2=>by
 cases e:ρ k with
 | none=>rfl
 | some l=>exact absurd (Zav hf h1 h2) (hr.dom k l e)
theorem ZtW {ψ:V→Hp→Prop} {d:Tmp} (hm:OpV Γ.P o hp sl lo nn ψ) (hg:o.guard=none) (hd:o.dst=some d) (hdl:Nat.blt d Γ.nt=true) (hf:ZZ hp lo nn=true)
   (hk:∀ u h,ψ u h→WL Γ ops rest k ⟨(d,u)::sl,h++hp⟩):WL Γ ops (o::rest) k ⟨sl,hp⟩:=fun a w ⟨ρ,hr⟩=>by
 refine ZhM (by simp [Region.wanted,hg]) (Oper.wp_mono' (hm Γ.B a w ρ hr.up hr.defers hr.sr hr.hr (Zc7 hr hf)) ?_ fun _ _ _ h=>h.elim)
 rintro a' w' ⟨v,u,h,ρ',rfl,hψ,hs,hv⟩
 have:=hr.step (d:=some d) (fun _ _ h=>h) hs hv (fun t e=>by cases e; exact Zdv hdl)
 rw [hd]
 exact hk u h hψ _ _ ⟨ρ',this⟩
theorem ZxA {d:Tmp} (hm:OpD Γ.P o hp sl lo nn u h) (hg:o.guard=none) (hd:o.dst=some d) (hdl:Nat.blt d Γ.nt=true) (hf:ZZ hp lo nn=true) (hk:WL Γ ops rest k ⟨(d,u)::sl,h++hp⟩):WL Γ ops (o::rest) k ⟨sl,hp⟩ :=
 ZtW hm.v hg hd hdl hf (by rintro _ _ ⟨rfl,rfl⟩; exact hk)
theorem ZL {d:Tmp} (hm:OpD Γ.P o hp sl 0 0 u []) (hg:o.guard=none) (hd:o.dst=some d) (hdl:Nat.blt d Γ.nt=true) (hk:WL Γ ops rest k ⟨(d,u)::sl,hp⟩):WL Γ ops (o::rest) k ⟨sl,hp⟩ :=
 ZxA hm hg hd hdl (QX _ _) hk
theorem Zlw {d:Tmp} {e:Nat × Option Blk} (hm:OpD Γ.P o hp sl lo nn u [e]) (hg:o.guard=none) (hd:o.dst=some d) (hdl:Nat.blt d Γ.nt=true) (hf:ZZ hp lo nn=true) (hk:WL Γ ops rest k ⟨(d,u)::sl,e::hp⟩):WL Γ ops (o::rest) k ⟨sl,hp⟩:=ZxA hm hg hd hdl hf hk
theorem Zy9 {d:Tmp} {e e':Nat × Option Blk} (hm:OpD Γ.P o hp sl lo nn u [e,e']) (hg:o.guard=none) (hd:o.dst=some d) (hdl:Nat.blt d Γ.nt=true) (hf:ZZ hp lo nn=true) (hk:WL Γ ops rest k ⟨(d,u)::sl,e::e'::hp⟩):WL Γ ops (o::rest) k ⟨sl,hp⟩:=ZxA hm hg hd hdl hf hk
theorem ZqW {e:Nat × Option Blk} (hm:OpD Γ.P o hp sl lo nn u [e]) (hg:o.guard=none) (hd:o.dst=none) (hf:ZZ hp lo nn=true) (hk:WL Γ ops rest k ⟨sl,e::hp⟩):WL Γ ops (o::rest) k ⟨sl,hp⟩:=fun a w ⟨ρ,hr⟩=>by
 refine ZhM (by simp [Region.wanted,hg]) (Oper.wp_mono' (hm.v Γ.B a w ρ hr.up hr.defers hr.sr hr.hr (Zc7 hr hf)) ?_ fun _ _ _ h=>h.elim)
 rintro a' w' ⟨v,u,h,ρ',rfl,⟨rfl,rfl⟩,hs,hv⟩
 have:=hr.step (d:=none) (fun _ _ h=>h) hs hv (fun t e=>by cases e)
 rw [hd]
 exact hk _ _ ⟨ρ',this⟩
theorem yields {B:Nat→Prop} {j t:Nat} {oj:Oper} {b:Bool} {sl:List (Nat × V)} {ρ:Lc} {a:Act} {w:World} (hs:SR B sl ρ a w) (hj:ops[j]?=some oj) (ht:oj.dst=some t) (hb:look sl t=some (vB b)):yielded ops a.tmps j=some b:=by
 obtain ⟨v,h1,h2⟩:=hs t _ hb
 have:=ZbM h2
 subst this
 simp [yielded,hj,ht,h1]
theorem ZvS {d:Option Tmp} {op:Op} {ty:TypeId} {pos:String} {af:Array Edge} {j t:Nat} {oj:Oper} {b:Bool} (hj:ops[j]?=some oj) (ht:oj.dst=some t) (hb:look sl t=some (vB b)) (h:WL Γ ops (⟨d,op,ty,pos,af,none⟩::rest) k ⟨sl,hp⟩):WL Γ ops (⟨d,op,ty,pos,af,some (j,b)⟩::rest) k ⟨sl,hp⟩:=fun a w ⟨ρ,hr⟩=>by
 have h1:=h a w ⟨ρ,hr⟩
 unfold wpList at h1 ⊢
 rw [if_pos (by simp [Region.wanted])] at h1
 rw [if_pos (by simp [Region.wanted,yields hr.sr hj ht hb])]
 exact h1
theorem Zr7 (t:Nat) {b:Bool} (hb:look sl t=some (vB b)) (ht:b=true→WL Γ ops rest k ⟨(t,vB true)::sl,hp⟩) (hf:b=false→WL Γ ops rest k ⟨(t,vB false)::sl,hp⟩):WL Γ ops rest k ⟨sl,hp⟩:=fun a w ⟨ρ,hr⟩=>by
 have key:ZfT Γ ⟨(t,vB b)::sl,hp⟩ ρ a w:=by
  refine ⟨hr.defers,hr.size,hr.kp,hr.ext0,hr.own,hr.dom,hr.dom0,hr.bup,hr.hr,fun t' u hu=>?_⟩
  simp only [Zo] at hu
  split at hu
  ·obtain rfl:t=t':=by assumption
   obtain rfl:=Option.some.inj hu
   exact hr.sr t _ hb
  ·exact hr.sr t' u hu
 cases b
 ·exact hf rfl a w ⟨ρ,key⟩
 ·exact ht rfl a w ⟨ρ,key⟩
theorem Zx0 {st':St} (hw:Wk Γ st st') (h:WL Γ ops rest k st'):WL Γ ops rest k st:=fun a w hr=>h a w (hw a w hr)
end
end Go.Proofs.YtkcmgbbopedacaaGreatDoor
