/-
  Lemmas: The steps of a walk through a region by a plan ('DT').
-/
import Derived.Test.YtkcmgbbopedacaaGreatDoorPZ10
set_option linter.unusedSimpArgs false
set_option linter.unusedVariables false
namespace Go.Proofs.YtkcmgbbopedacaaGreatDoor
open Go.RowKit
section
variable {P:Program} {w:World}
theorem Rd.head {z k c n:Nat} {p:Option Addr} {xs:List Value} (h:Rd w z (.slice p k c) k xs) (hn:n≤k) (c':Nat) (hc:n≤c'):Rd w z (.slice p n c') n (xs.take (n * z)):=by
 have hl:=h.len
 have hle:n * z≤k * z:=Nat.mul_le_mul_right _ hn
 refine ⟨by rw [List.length_take]; omega,p,c',rfl,hc,?_⟩
 obtain ⟨p',c2,e,h1,h2⟩:=h.ex
 simp only [Value.slice.injEq,true_and] at e
 obtain ⟨rfl,rfl⟩:=e
 rcases h2 with h2 | ⟨b,o,rfl,hb,hx⟩
 ·exact .inl (by omega)
 ·refine .inr ⟨b,o,rfl,hb,fun j u hj=>hx j u ?_⟩
  rw [List.getElem?_take] at hj
  split at hj
  ·exact hj
  ·cases hj
theorem Rd.tail {z k c n:Nat} {b o:Nat} {xs:List Value} (h:Rd w z (.slice (some ⟨b,o,none⟩) k c) k xs) (m:Nat) (hn:n+m=k) (c':Nat) (hc:m≤c'):Rd w z (.slice (some ⟨b,o+n * z,none⟩) m c') m (xs.drop (n * z)):=by
 have hl:=h.len
 subst hn
 rw [Nat.add_mul] at hl
 refine ⟨by rw [List.length_drop]; omega,_,c',rfl,hc,?_⟩
 obtain ⟨p',c2,e,h1,h2⟩:=h.ex
 simp only [Value.slice.injEq,true_and] at e
 obtain ⟨rfl,rfl⟩:=e
 rcases h2 with h2 | ⟨b',o',e,hb,hx⟩
 ·exact .inl (by omega)
 ·simp only [Option.some.injEq,Addr.mk.injEq,and_true] at e
  obtain ⟨rfl,rfl⟩:=e
  refine .inr ⟨b,_,rfl,hb,fun j u hj=>?_⟩
  rw [List.getElem?_drop] at hj
  have:=hx _ _ hj
  rwa [← Nat.add_assoc] at this
theorem Zfa:∀ l:List Rng,(ZI l).all Value.oneCell'=true
 | []=>rfl
 | r::l=>by rw [Y9,List.all_append,Zfa l]; rfl
theorem ZcN (l:List Rng):∀ n,(ZI l).take (n * 4)=ZI (l.take n):=by
 induction l with
 | nil=>intro n; simp [ZI]
 | cons r l ih =>
  intro n
  cases n with
  | zero=>simp [ZI]
  | succ n =>
   rw [Y9,List.take_succ_cons,Y9,← ih n,List.take_append,List.take_of_length_le (by simp [Rng.vals]; omega)]
   congr 2
   simp [Rng.vals]; omega
theorem ZhW (l:List Rng):∀ n,(ZI l).drop (n * 4)=ZI (l.drop n):=by
 induction l with
 | nil=>intro n; simp [ZI]
 | cons r l ih =>
  intro n
  cases n with
  | zero=>simp
  | succ n =>
   rw [Y9,List.drop_succ_cons,← ih n,List.drop_append,List.drop_of_length_le (by simp [Rng.vals]; omega),List.nil_append]
   congr 1
   simp [Rng.vals]; omega
theorem To.mid {pre post:List OB} {b:Nat} {T:TypeId} {c c':List Value}:To (pre++([⟨b,T,c⟩]++post)) b T c c' (pre++([⟨b,T,c'⟩]++post)):=To.skip .here
theorem ZhX {o:Nat} {vs c:List Value} (h:o+vs.length≤c.length):(stL o vs c).length=c.length:=by
 rw [Zax _ _ _ h]; simp; omega
theorem ZuT {o:Nat} {vs c d:List Value} (h:o+vs.length≤c.length):stL o vs (c++d)=stL o vs c++d:=by
 rw [Zax _ _ _ (by simp; omega),Zax _ _ _ h,List.take_append_of_le_length (by omega),List.drop_append_of_le_length (by omega)]
 simp
theorem ZbA {ops:Array Oper} {Q:Exit→Act→World→Prop} {a:Act} {rest:List Oper} {o:Oper} {w0:World} {X:Fr} {R:List Win} {S sl pre post:List OB} {T E:TypeId} {z n m off g cap:Nat} {ag:Bool} {x y:Operand} {xs vs:List Value}
   (hR:Rep w0 X R S w) (hop:o.op=.store T x y) (hd:o.dst=none) (hg:o.guard=none) (hO:OS sl E z (.slice (some ⟨g,0,none⟩) n cap) n xs) (hC:Ctx S sl pre post) (hx:a.eval x=.pointer (some ⟨g,off,none⟩)) (hv:(a.eval y).cells=vs.toArray) (hT:Ty P T m ag)
   (hl:off+m≤xs.length) (h1:(vs.length == m && vs.all Value.oneCell')=true)
   (h:∀ sl' w',OS sl' E z (.slice (some ⟨g,0,none⟩) n cap) n (stL off vs xs)→Rep w0 X R (pre++(sl'++post)) w'→wpList P ops Q rest a w'):wpList P ops Q (o::rest) a w:=by
 simp only [Bool.and_eq_true,beq_iff_eq] at h1
 rcases hO.2 with ⟨-,e,-⟩ | ⟨g',cap',sp,rfl,e,h2,h3,h4⟩
 ·simp at e
 ·simp only [Value.slice.injEq,Option.some.injEq,Addr.mk.injEq,and_true,true_and] at e
  obtain ⟨rfl,rfl⟩:=e
  have e:=hC.eq
  subst e
  have hst:stL off vs (xs++sp)=stL off vs xs++sp:=ZuT (by omega)
  have hr:=Ztj (P:=P) hT hR hv hst To.mid (by rw [List.length_append]; omega) h1.1 h1.2
  have hR':=hR.store (c':=stL off vs xs++sp) To.mid
  refine BigFrame.wpList_want (by simp [Region.wanted,hg]) fun K hK=>?_
  unfold Oper.wp execOp
  rw [hop]
  simp only [hx,Instr.storeAt,Instr.sureAddr,Sem.run_bind,Sem.run_pure,Result.andThen_ok,hr]
  simp only [Oper.upon,hd,Act.put]
  refine hK _ _ (h _ _ ⟨?_,.inr ⟨g,cap,sp,rfl,rfl,h2,h3,?_⟩⟩ hR')
  ·rw [ZhX (by omega)]; exact hO.1
  ·rw [List.length_append,ZhX (by omega),← List.length_append]; exact h4
theorem Zcj (x:Value) (o:Nat) (vs c:List Value) (h:o+vs.length≤c.length):stL (o+1) vs (x::c)=x::stL o vs c:=by
 rw [Zax _ _ _ (by simp; omega),Zax _ _ _ h]
 simp [show o+1+vs.length=o+vs.length+1 by omega]
theorem Zfg (x:Rng):∀ (l:List Rng) (n:Nat),n<l.length→stL (n * 4) x.vals (ZI l)=ZI (l.set n x)
 | r::l,0,_=>by
  rw [Zax _ _ _ (by simp [ZR,Rng.vals]; omega)]; simp [Y9,Rng.vals]
 | r::l,n+1,h=>by
  have hn:n<l.length:=by simpa using h
  have ih:=Zfg x l n hn
  have hl:n * 4+x.vals.length≤(ZI l).length:=by rw [ZR]; simp [Rng.vals]; omega
  rw [List.set_cons_succ,Y9,Y9,← ih]
  simp only [Rng.vals,List.cons_append,List.nil_append,show (n+1) * 4=n * 4+1+1+1+1 by omega] at hl ⊢
  rw [Zcj _ _ _ _ (by simp at hl ⊢; omega),Zcj _ _ _ _ (by simp at hl ⊢; omega),Zcj _ _ _ _ (by simp at hl ⊢; omega),Zcj _ _ _ _ hl]
theorem ZdQ (b:Bnd):∀ (l:List Rng) (n:Nat) (r:Rng),l[n]?=some r→stL (n * 4+2) [.string b.key,.bool b.top] (ZI l)=ZI (l.set n ⟨r.lo,b⟩)
 | r0::l,0,r,h=>by
  obtain rfl:r0=r:=by simpa using h
  rw [Zax _ _ _ (by simp [ZR]; omega)]; simp [Y9,Rng.vals]
 | r0::l,n+1,r,h=>by
  have ih:=ZdQ b l n r (by simpa using h)
  have hn:n<l.length:=(List.getElem?_eq_some_iff.1 (by simpa using h:l[n]?=some r)).1
  have hl:n * 4+2+2≤(ZI l).length:=by rw [ZR]; omega
  rw [List.set_cons_succ,Y9,Y9,← ih]
  simp only [Rng.vals,List.cons_append,List.nil_append,show (n+1) * 4+2=n * 4+2+1+1+1+1 by omega]
  rw [Zcj _ _ _ _ (by simp; omega),Zcj _ _ _ _ (by simp; omega),Zcj _ _ _ _ (by simp; omega),Zcj _ _ _ _ (by simpa using hl)]
end
end Go.Proofs.YtkcmgbbopedacaaGreatDoor
namespace Go.Proofs.YtkcmgbbopedacaaGreatDoor
open Go.RowKit
section
variable {α:Type} {enc:α→List Value} {z:Nat}
def fl (enc:α→List Value) (l:List α):List Value:=l.flatMap enc
theorem ZkS (x:α) (l:List α):fl enc (x::l)=enc x++fl enc l:=rfl
theorem ZdO (hz:∀ x,(enc x).length=z):∀ l:List α,(fl enc l).length=l.length * z
 | []=>by simp [fl]
 | x::l=>by rw [ZkS,List.length_append,ZdO hz l,hz,List.length_cons,Nat.add_mul]; omega
theorem Zph (hz:∀ x,(enc x).length=z):∀ (l:List α) (n:Nat),(fl enc l).drop (n * z)=fl enc (l.drop n)
 | [],n=>by simp [fl]
 | x::l,0=>by simp
 | x::l,n+1=>by
  rw [ZkS,List.drop_succ_cons,← Zph hz l n,List.drop_append,hz,List.drop_eq_nil_of_le (by rw [hz,Nat.add_mul]; omega),List.nil_append]
  congr 1; rw [Nat.add_mul]; omega
theorem ZkI (hz:∀ x,(enc x).length=z) {l:List α} {k:Nat} {r:α} (h:l[k]?=some r) (i m:Nat) (him:i+m≤z):((fl enc l).drop (k * z+i)).take m=((enc r).drop i).take m:=by
 obtain ⟨h1,h2⟩:=List.getElem?_eq_some_iff.1 h
 rw [← List.drop_drop,Zph hz,List.drop_eq_getElem_cons h1,h2,ZkS,List.drop_append_of_le_length (by rw [hz]; omega),List.take_append_of_le_length (by rw [List.length_drop,hz]; omega)]
theorem ZoX (hz:∀ x,(enc x).length=z) {l:List α} {k:Nat} {r:α} (h:l[k]?=some r):((fl enc l).drop (k * z)).take z=enc r:=by
 have:=ZkI hz h 0 z (by omega)
 rw [Nat.add_zero,List.drop_zero,List.take_of_length_le (Nat.le_of_eq (hz r))] at this; exact this
theorem Zty (hz:∀ x,(enc x).length=z) {l:List α} {k:Nat} {r:α} (h:l[k]?=some r) {j:Nat} {u:Value} (hj:(enc r)[j]?=some u):(fl enc l)[k * z+j]?=some u:=by
 have hjz:j<z:=by rw [← hz r]; exact (List.getElem?_eq_some_iff.1 hj).1
 have h1:=ZoX hz h
 rw [← h1,List.getElem?_take_of_lt hjz,List.getElem?_drop] at hj; exact hj
theorem Rw.elem (hz:∀ x,(enc x).length=z) {w0 w:World} {X:Fr} {R:List Win} {S:List OB} {p:Option Addr} {n c k:Nat} {l:List α} {r:α} (h:Rw w0 X z (.slice p n c) n (fl enc l)) (hz0:0<z) (hk:l[k]?=some r) (hR:Rep w0 X R S w) :
   ∃ b o:Nat,p=some ⟨b,o,none⟩∧Rep w0 X (⟨b,o+k * z,enc r⟩::R) S w:=by
 obtain ⟨p',c',e,h1,h2⟩:=h.ex
 simp only [Value.slice.injEq] at e
 obtain ⟨rfl,-,rfl⟩:=e
 have hl:=h.len
 rw [ZdO hz] at hl
 have hkl:=(List.getElem?_eq_some_iff.1 hk).1
 have hln:l.length=n:=Nat.eq_of_mul_eq_mul_right hz0 hl
 rcases h2 with rfl | ⟨b,o,rfl,hb,hx,hc⟩
 ·omega
 ·exact ⟨b,o,rfl,hR.addwin b (o+k * z) (enc r) hb hx fun j u hj=>by rw [Nat.add_assoc]; exact hc _ _ (Zty hz hk hj)⟩
theorem Rw.count (hz:∀ x,(enc x).length=z) (hz0:0<z) {w0:World} {X:Fr} {v:Value} {n:Nat} {l:List α} (h:Rw w0 X z v n (fl enc l)):l.length=n:=by
 have:=h.len; rw [ZdO hz] at this; exact Nat.eq_of_mul_eq_mul_right hz0 this
theorem Rd.count (hz:∀ x,(enc x).length=z) (hz0:0<z) {w0:World} {v:Value} {n:Nat} {l:List α} (h:Rd w0 z v n (fl enc l)):l.length=n:=by
 have:=h.len; rw [ZdO hz] at this; exact Nat.eq_of_mul_eq_mul_right hz0 this
end
theorem rvz (r:Rng):r.vals.length=4:=rfl
theorem ZsD (l:List Rng):ZI l=fl Rng.vals l:=rfl
theorem OS.head {sl:List OB} {E:TypeId} {z n i cap:Nat} {p:Option Addr} {xs:List Value} (h:OS sl E z (.slice p n cap) n xs) (hi:i≤n):OS sl E z (.slice p i cap) i (xs.take (i * z)):=by
 have hl:=h.1
 have hm:=Nat.mul_le_mul_right z hi
 refine ⟨by rw [List.length_take]; omega,?_⟩
 rcases h.2 with ⟨h1,h2,h3⟩ | ⟨g,cap',sp,h1,h2,h3,h4,h5⟩
 ·simp only [Value.slice.injEq] at h2
  obtain ⟨rfl,h2,rfl⟩:=h2
  subst h3
  obtain rfl:i=0:=by omega
  exact .inl ⟨h1,rfl,rfl⟩
 ·simp only [Value.slice.injEq] at h2
  obtain ⟨rfl,h2,rfl⟩:=h2
  refine .inr ⟨g,cap,xs.drop (i * z)++sp,by rw [h1,← List.append_assoc,List.take_append_drop],rfl,by omega,h4,by rw [← List.append_assoc,List.take_append_drop]; exact h5⟩
def ldW (ag:Bool) (vs:List Value):Value:=if ag then .agg vs.toArray else vs.headD undef
section
variable {P:Program} {w:World}
theorem ZjT {w0:World} {X:Fr} {R:List Win} {S sl pre post:List OB} {T E:TypeId} {z n m off g cap:Nat} {ag:Bool} {xs vs:List Value} (hR:Rep w0 X R S w) (hO:OS sl E z (.slice (some ⟨g,0,none⟩) n cap) n xs) (hC:Ctx S sl pre post)
   (hT:Ty P T m ag) (hag:(ag || m == 1)=true) (hl:off+m≤xs.length) (hv:(xs.drop off).take m=vs):(loadVar T ⟨g,off,none⟩).run P w=.ok (ldW ag vs) w:=by
 rcases hO.2 with ⟨-,e,-⟩ | ⟨g',cap',sp,rfl,e,h2,h3,h4⟩
 ·simp at e
 ·simp only [Value.slice.injEq,Option.some.injEq,Addr.mk.injEq,and_true,true_and] at e
  obtain ⟨rfl,rfl⟩:=e
  have hm:(⟨g,E,xs++sp⟩:OB) ∈ S:=(ZdJ hC).subset List.mem_cons_self
  simp only [Bool.or_eq_true,beq_iff_eq] at hag
  have hr':=Zlz (w:=w) hT (hR.cells hm) (off:=off) (by simp only [List.length_append]; omega) (fun e=>hag.resolve_left (by simp [e]))
  rw [hr']
  have hv':((xs++sp).drop off).take m=vs:=by
   rw [List.drop_append_of_le_length (by omega),List.take_append_of_le_length (by rw [List.length_drop]; omega)]; exact hv
  congr 1
  cases ag with
  | true=>simp only [ldV,ldW,if_true,hv']
  | false =>
   obtain rfl:m=1:=hag.resolve_left (by simp)
   simp only [ldV,ldW,Bool.false_eq_true,if_false,← hv']
   rw [List.headD_eq_head?_getD,List.head?_take,if_neg (by omega),List.head?_drop,List.getD_eq_getElem?_getD]
theorem Zf5 {ops:Array Oper} {Q:Exit→Act→World→Prop} {a a':Act} {rest:List Oper} {o:Oper} {w0:World} {X:Fr} {R:List Win} {S sl pre post:List OB} {T E:TypeId} {z n m off g cap:Nat} {ag:Bool} {x:Operand} {xs vs:List Value}
   (hR:Rep w0 X R S w) (hop:o.op=.load T x) (hg:o.guard=none) (hO:OS sl E z (.slice (some ⟨g,0,none⟩) n cap) n xs) (hC:Ctx S sl pre post) (hx:a.eval x=.pointer (some ⟨g,off,none⟩)) (hT:Ty P T m ag) (hag:(ag || m == 1)=true)
   (hl:off+m≤xs.length) (hv:(xs.drop off).take m=vs) (ha:a.put o.dst (ldW ag vs)=a') (h:wpList P ops Q rest a' w):wpList P ops Q (o::rest) a w:=by
 have hr:=ZjT hR hO hC hT hag hl hv
 refine BigFrame.wpList_want (by simp [Region.wanted,hg]) fun K hK=>?_
 unfold Oper.wp execOp
 rw [hop]
 simp only [hx,Instr.loadAt,Instr.sureAddr,Sem.run_bind,Sem.run_pure,Result.andThen_ok,hr,Oper.upon]
 subst ha
 exact hK _ _ h
theorem Zbv {L:List Oper} {w0:World} {X:Fr} {R:List Win} {im:List Nat} {Qf:Act→List OB→Prop} {i:Nat} {rr:List Nat} {a a':Act} {S sl pre post:List OB} {o:Oper} {T E:TypeId} {x:Operand} {z n m off g cap:Nat} {ag:Bool} {xs vs:List Value}
   (ho:nth L i=some o) (hi:im.contains i=false) (hw:Region.wanted o (yielded L.toArray a.tmps)=true) (hop:o.op=.load T x) (hO:OS sl E z (.slice (some ⟨g,0,none⟩) n cap) n xs) (hC:Ctx S sl pre post) (hx:a.eval x=.pointer (some ⟨g,off,none⟩)) (hT:Ty P T m ag) (hag:(ag || m == 1)=true)
   (hl:off+m≤xs.length) (hv:(xs.drop off).take m=vs) (ha:a.put o.dst (ldW ag vs)=a') (h:DC P L.toArray w0 X R im Qf rr a' S):DC P L.toArray w0 X R im Qf (i::rr) a S:=by
 refine ZfA ho hi hw (fun w hR=>?_) ha h
 have hr:=ZjT hR hO hC hT hag hl hv
 unfold execOp
 rw [hop]
 simp only [hx,Instr.loadAt,Instr.sureAddr,Sem.run_bind,Sem.run_pure,Result.andThen_ok,hr]
theorem ZiY {zc:Array Value} {n:Nat} {p:Value→Prop} (h:∀ v ∈ zc,p v):∀ v ∈ (Builtin.zeroCells zc n).toList,p v:=by
 intro v hv
 simp only [Builtin.zeroCells,Array.toList_map,List.mem_map] at hv
 obtain ⟨i,hi,rfl⟩:=hv
 have hi':i<n * zc.size:=by simpa using hi
 have hs:0<zc.size:=Nat.pos_of_ne_zero fun h0=>by rw [h0] at hi'; omega
 have hlt:=Nat.mod_lt i hs
 rw [getElem!_pos zc (i % zc.size) hlt]
 exact h _ (Array.getElem_mem hlt)
theorem Zj5 {w0:World} {X:Fr} {R:List Win} {S sl pre post:List OB} {t ty E:TypeId} {z bytes n i m c cap g:Nat} {xs zl:List Value} (hS:Sl P t E z bytes) (hZ:Zu P E zl) (hz1:zl.all Value.oneCell'=true) (hR:Rep w0 X R S w)
   (hO:OS sl E z (.slice (some ⟨g,0,none⟩) n cap) n xs) (hC:Ctx S sl pre post) (him:i+m=n) (hm:0<m) :
   ∃ sl' w',(Builtin.clear_ #[t] ty #[.slice (some ⟨g,i * z,none⟩) m c]).run P w=.ok (.tuple #[]) w'∧OS sl' E z (.slice (some ⟨g,0,none⟩) i cap) i (xs.take (i * z))∧Rep w0 X R (pre++(sl'++post)) w':=by
 obtain ⟨inf,zv,hi,hz,rfl,rfl,hzs⟩:=hS.el
 have ht:=hS.un
 simp only [Zu,hi,Option.bind_some,hz,Option.map_some,Option.some.injEq] at hZ
 rcases hO.2 with ⟨-,e,-⟩ | ⟨g',cap',sp,rfl,e,h2,h3,h4⟩
 ·simp at e
 ·simp only [Value.slice.injEq,Option.some.injEq,Addr.mk.injEq,and_true,true_and] at e
  obtain ⟨rfl,rfl⟩:=e
  have e:=hC.eq
  subst e
  have hmem:(⟨g,E,xs++sp⟩:OB) ∈ pre++([⟨g,E,xs++sp⟩]++post):=by simp
  have hzl:(Builtin.zeroCells zv.cells m).toList.length=m * inf.size:=by rw [Array.length_toList,size_zeroCells,hzs]
  have hxl:=hO.1
  have hnm:n * inf.size=i * inf.size+m * inf.size:=by rw [← him,Nat.add_mul]
  have hst:=run_storeCells_at P g (i * inf.size) E (Builtin.zeroCells zv.cells m).toList 0 (xs++sp).toArray w (hR.own _ hmem) (by rw [hzl]; simp; omega) (ZiY fun v hv=>List.all_eq_true.1 hz1 v (by rw [← hZ]; exact Array.mem_toList_iff.2 hv))
  simp only [Nat.add_zero,hzl] at hst
  have hst2:stL (i * inf.size) (Builtin.zeroCells zv.cells m).toList (xs++sp)=xs.take (i * inf.size)++((Builtin.zeroCells zv.cells m).toList++sp):=by
   rw [Zax _ _ _ (by rw [hzl]; simp; omega),hzl,List.take_append_of_le_length (by omega),show i * inf.size+m * inf.size=xs.length by omega,List.drop_left,List.append_assoc]
  have hR':=hR.store (c':=stL (i * inf.size) (Builtin.zeroCells zv.cells m).toList (xs++sp)) To.mid
  refine ⟨[⟨g,E,xs.take (i * inf.size)++((Builtin.zeroCells zv.cells m).toList++sp)⟩],w.setRow g (stL (i * inf.size) (Builtin.zeroCells zv.cells m).toList (xs++sp)).toArray,?_,⟨by rw [List.length_take]; omega,.inr ⟨g,cap,(Builtin.zeroCells zv.cells m).toList++sp,rfl,rfl,by omega,h3,?_⟩⟩,?_⟩
  ·have hm0:m≠0:=by omega
   rw [Zax _ _ _ (by rw [hzl]; simp; omega),hzl]
   cases m with
   | zero=>omega
   | succ m =>
    simp [Builtin.clear_,run_underlying ht,zeroValue,typeInfo,hi,hz,hst]
  ·simp only [List.length_append,List.length_take,hzl] at h4 ⊢; omega
  ·have e2:([⟨g,E,stL (i * inf.size) (Builtin.zeroCells zv.cells m).toList (xs++sp)⟩]:List OB)=[⟨g,E,xs.take (i * inf.size)++((Builtin.zeroCells zv.cells m).toList++sp)⟩]:=by rw [hst2]
   rw [e2] at hR'; exact hR'
theorem Zhg {ops:Array Oper} {Q:Exit→Act→World→Prop} {a:Act} {rest:List Oper} {o:Oper} {w0:World} {X:Fr} {R:List Win} {S sl pre post:List OB} {t E:TypeId} {z bytes n i m c cap g:Nat} {xs zl:List Value} {s:Operand}
   (hR:Rep w0 X R S w) (hop:o.op=.call { callee:=.builtin .clear,args:=#[s],argTypes:=#[t] }) (hd:o.dst=none) (hg:o.guard=none) (hs:a.eval s=.slice (some ⟨g,i * z,none⟩) m c) (hS:Sl P t E z bytes) (hZ:Zu P E zl) (hz1:zl.all Value.oneCell'=true)
   (hO:OS sl E z (.slice (some ⟨g,0,none⟩) n cap) n xs) (hC:Ctx S sl pre post) (him:i+m=n) (hm:0<m)
   (h:∀ sl' w',OS sl' E z (.slice (some ⟨g,0,none⟩) i cap) i (xs.take (i * z))→Rep w0 X R (pre++(sl'++post)) w'→wpList P ops Q rest a w'):wpList P ops Q (o::rest) a w:=by
 obtain ⟨sl',w',hr,h2,h3⟩:=Zj5 (P:=P) (ty:=o.type) (c:=c) hS hZ hz1 hR hO hC him hm
 refine BigFrame.wpList_want (by simp [Region.wanted,hg]) fun K hK=>?_
 unfold Oper.wp execOp
 simp only [hop,resolve,invoke,builtin,Sem.run_bind,Sem.run_pure,Result.andThen_ok,List.map_toArray,List.map_cons,List.map_nil,hs,hr,Oper.upon,hd,Act.put]
 exact hK _ _ (h _ _ h2 h3)
theorem Zlh {w0:World} {X:Fr} {R:List Win} {S sl pre post:List OB} {t t2 ty E:TypeId} {z bytes n i m c c2 cap g:Nat} {xs:List Value} (hS:Sl P t E z bytes) (hx1:xs.all Value.oneCell'=true) (hR:Rep w0 X R S w)
   (hO:OS sl E z (.slice (some ⟨g,0,none⟩) n cap) n xs) (hC:Ctx S sl pre post) (him:i+1+m=n) :
   ∃ sl' w',(Builtin.copy_ #[t,t2] ty #[.slice (some ⟨g,(i+1) * z,none⟩) m c,.slice (some ⟨g,i * z,none⟩) (m+1) c2]).run P w=.ok (goInt m) w'∧OS sl' E z (.slice (some ⟨g,0,none⟩) n cap) n (xs.take ((i+1) * z)++(xs.drop (i * z)).take (m * z))∧Rep w0 X R (pre++(sl'++post)) w':=by
 obtain ⟨inf,zv,hi,hz,rfl,rfl,hzs⟩:=hS.el
 have ht:=hS.un
 rcases hO.2 with ⟨-,e,-⟩ | ⟨g',cap',sp,rfl,e,h2,h3,h4⟩
 ·simp at e
 ·simp only [Value.slice.injEq,Option.some.injEq,Addr.mk.injEq,and_true,true_and] at e
  obtain ⟨rfl,rfl⟩:=e
  have e:=hC.eq
  subst e
  have hmem:(⟨g,E,xs++sp⟩:OB) ∈ pre++([⟨g,E,xs++sp⟩]++post):=by simp
  have hxl:=hO.1
  have hnm:n * inf.size=(i+1) * inf.size+m * inf.size:=by rw [← him,Nat.add_mul]
  have hi1:(i+1) * inf.size=i * inf.size+inf.size:=by rw [Nat.add_mul]; omega
  have hcl:((xs.drop (i * inf.size)).take (m * inf.size)).length=m * inf.size:=by rw [List.length_take,List.length_drop]; omega
  have hsrc:∀ j v,((xs.drop (i * inf.size)).take (m * inf.size))[j]?=some v→w.cell? ((⟨g,i * inf.size,none⟩:Addr).add j)=some v:=fun j v hj=>by
   have hj':j<m * inf.size:=by rw [← hcl]; exact (List.getElem?_eq_some_iff.1 hj).1
   rw [List.getElem?_take_of_lt hj',List.getElem?_drop] at hj
   rw [addr_add,hR.cells hmem]
   simp only
   rw [List.getElem?_append_left (List.getElem?_eq_some_iff.1 hj).1]; exact hj
  have hl:=run_loadCells_list (P:=P) w ⟨g,i * inf.size,none⟩ _ hsrc
  have hall:∀ v ∈ (xs.drop (i * inf.size)).take (m * inf.size),v.oneCell'=true:=fun v hv=>List.all_eq_true.1 hx1 v (List.mem_of_mem_drop (List.mem_of_mem_take hv))
  have hst:=run_storeCells_at P g ((i+1) * inf.size) E ((xs.drop (i * inf.size)).take (m * inf.size)) 0 (xs++sp).toArray w (hR.own _ hmem) (by rw [hcl]; simp; omega) hall
  simp only [Nat.add_zero,hcl] at hst
  have hst2:stL ((i+1) * inf.size) ((xs.drop (i * inf.size)).take (m * inf.size)) (xs++sp)=(xs.take ((i+1) * inf.size)++(xs.drop (i * inf.size)).take (m * inf.size))++sp:=by
   rw [Zax _ _ _ (by rw [hcl]; simp; omega),hcl,List.take_append_of_le_length (by omega),show (i+1) * inf.size+m * inf.size=xs.length by omega,List.drop_left]
  have hR':=hR.store (c':=stL ((i+1) * inf.size) ((xs.drop (i * inf.size)).take (m * inf.size)) (xs++sp)) To.mid
  refine ⟨[⟨g,E,(xs.take ((i+1) * inf.size)++(xs.drop (i * inf.size)).take (m * inf.size))++sp⟩],w.setRow g (stL ((i+1) * inf.size) ((xs.drop (i * inf.size)).take (m * inf.size)) (xs++sp)).toArray,?_,⟨by rw [List.length_append,hcl,List.length_take]; omega,.inr ⟨g,cap,sp,rfl,rfl,h2,h3,?_⟩⟩,?_⟩
  ·rw [Zax _ _ _ (by rw [hcl]; simp; omega),hcl]
   have hmin:Nat.min (m+1) m=m:=by simp [Nat.min_def]
   rw [hcl] at hl
   simp [Builtin.copy_,run_underlying ht,Builtin.lenOf,Builtin.firstCells,sizeOf,typeInfo,hi,hmin,hl,hst]
  ·simp only [List.length_append,List.length_take,hcl] at h4 ⊢; omega
  ·have e2:([⟨g,E,stL ((i+1) * inf.size) ((xs.drop (i * inf.size)).take (m * inf.size)) (xs++sp)⟩]:List OB)=[⟨g,E,(xs.take ((i+1) * inf.size)++(xs.drop (i * inf.size)).take (m * inf.size))++sp⟩]:=by rw [hst2]
   rw [e2] at hR'; exact hR'
theorem Zj0 {w0:World} {X:Fr} {R:List Win} {S sl pre post:List OB} {t t2 ty E:TypeId} {z bytes n i m o1 o2 c c2 cap g:Nat} {xs:List Value} (hS:Sl P t E z bytes) (hx1:xs.all Value.oneCell'=true) (hR:Rep w0 X R S w)
   (hO:OS sl E z (.slice (some ⟨g,0,none⟩) n cap) n xs) (hC:Ctx S sl pre post) (him:i+1+m=n) (h1:0<m→o1=(i+1) * z) (h2:0<m→o2=i * z) :
   ∃ sl' w',(Builtin.copy_ #[t,t2] ty #[.slice (some ⟨g,o1,none⟩) m c,.slice (some ⟨g,o2,none⟩) (m+1) c2]).run P w=.ok (goInt m) w'∧OS sl' E z (.slice (some ⟨g,0,none⟩) n cap) n (xs.take ((i+1) * z)++(xs.drop (i * z)).take (m * z))∧Rep w0 X R (pre++(sl'++post)) w':=by
 rcases Nat.eq_zero_or_pos m with rfl | hm
 ·obtain ⟨inf,zv,hi,hz,rfl,rfl,hzs⟩:=hS.el
  have ht:=hS.un
  have hmin:Nat.min (0+1) 0=0:=rfl
  refine ⟨sl,w,?_,?_,by rw [← hC.eq]; exact hR⟩
  ·simp [Builtin.copy_,run_underlying ht,Builtin.lenOf,Builtin.firstCells,sizeOf,typeInfo,hi,hmin,loadCells,loadCellsFrom,storeCells]
  ·have:xs.take ((i+1) * inf.size)++(xs.drop (i * inf.size)).take (0 * inf.size)=xs:=by
     rw [List.take_of_length_le (by rw [hO.1,← him]; simp)]; simp
   rw [this]; exact hO
 ·rw [h1 hm,h2 hm]; exact Zlh hS hx1 hR hO hC him
theorem Zel {ops:Array Oper} {Q:Exit→Act→World→Prop} {a:Act} {rest:List Oper} {o:Oper} {w0:World} {X:Fr} {R:List Win} {S sl pre post:List OB} {t t2 E:TypeId} {z bytes n i m m2 o1 o2 c c2 cap g:Nat} {xs:List Value} {s y:Operand} {d:Tmp}
   (hR:Rep w0 X R S w) (hop:o.op=.call { callee:=.builtin .copy,args:=#[s,y],argTypes:=#[t,t2] }) (hd:o.dst=some d) (hg:o.guard=none) (hs:a.eval s=.slice (some ⟨g,o1,none⟩) m c) (hy:a.eval y=.slice (some ⟨g,o2,none⟩) m2 c2) (hS:Sl P t E z bytes) (hx1:xs.all Value.oneCell'=true)
   (hO:OS sl E z (.slice (some ⟨g,0,none⟩) n cap) n xs) (hC:Ctx S sl pre post) (him:m2=m+1∧i+1+m=n∧(0<m→o1=(i+1) * z)∧(0<m→o2=i * z))
   (h:∀ sl' w',OS sl' E z (.slice (some ⟨g,0,none⟩) n cap) n (xs.take ((i+1) * z)++(xs.drop (i * z)).take (m * z))→Rep w0 X R (pre++(sl'++post)) w'→∃ a',a.put (some d) (goInt m)=a'∧wpList P ops Q rest a' w'):wpList P ops Q (o::rest) a w:=by
 obtain ⟨rfl,him,ho1,ho2⟩:=him
 obtain ⟨sl',w',hr,h2,h3⟩:=Zj0 (P:=P) (ty:=o.type) (t2:=t2) (c:=c) (c2:=c2) hS hx1 hR hO hC him ho1 ho2
 refine BigFrame.wpList_want (by simp [Region.wanted,hg]) fun K hK=>?_
 unfold Oper.wp execOp
 simp only [hop,resolve,invoke,builtin,Sem.run_bind,Sem.run_pure,Result.andThen_ok,List.map_toArray,List.map_cons,List.map_nil,hs,hy,hr,Oper.upon,hd]
 obtain ⟨a',e,h'⟩:=h sl' w' h2 h3
 rw [e]
 exact hK _ _ h'
theorem ZiQ {t E:TypeId} {z bytes g o n cap lo:Nat} {i:Int} (hS:Sl P t E z bytes) (hi:i=(lo:Int)) (hl:lo≤n):∃ off,(lo<cap→off=o+lo * z)∧(Instr.sliceAt t (.slice (some ⟨g,o,none⟩) n cap) (some (.int .i64 i)) none none).run P w=.ok (.slice (some ⟨g,off,none⟩) (n - lo) (cap - lo)) w:=by
 obtain ⟨inf,zv,hinf,hz,rfl,rfl,hzs⟩:=hS.el
 have ht:=hS.un
 subst hi
 have h1:=run_sliceBound (P:=P) (w:=w) .i64 (lo:Int) n .sliceB (by omega) (by omega)
 by_cases hc:cap=lo
 ·refine ⟨o,fun h=>by omega,?_⟩
  simp [Instr.sliceAt,Instr.slice,run_underlying ht,Instr.sliceBounds,h1,sizeOf,typeInfo,hinf,hc]
 ·refine ⟨o+lo * inf.size,fun _=>rfl,?_⟩
  simp [Instr.sliceAt,Instr.slice,run_underlying ht,Instr.sliceBounds,h1,sizeOf,typeInfo,hinf,hc,addr_add]
theorem Zcp {L:List Oper} {w0:World} {X:Fr} {R:List Win} {im:List Nat} {Qf:Act→List OB→Prop} {k:Nat} {rr:List Nat} {a:Act} {S:List OB} {op:Oper} {t E:TypeId} {z bytes g o n cap lo:Nat} {i:Int} {x y:Operand}
   (ho:nth L k=some op) (hi:im.contains k=false) (hw:Region.wanted op (yielded L.toArray a.tmps)=true) (hop:op.op=.slice t x (some y) none none) (hx:a.eval x=.slice (some ⟨g,o,none⟩) n cap) (hy:a.eval y=.int .i64 i) (hS:Sl P t E z bytes) (hlo:i=(lo:Int)) (hl:lo≤n)
   (h:∀ off,Hid (lo<cap→off=o+lo * z)→∃ a',a.put op.dst (.slice (some ⟨g,off,none⟩) (n - lo) (cap - lo))=a'∧DC P L.toArray w0 X R im Qf rr a' S):DC P L.toArray w0 X R im Qf (k::rr) a S:=by
 obtain ⟨off,h1⟩:∃ off,(lo<cap→off=o+lo * z)∧∀ w,(Instr.sliceAt t (.slice (some ⟨g,o,none⟩) n cap) (some (.int .i64 i)) none none).run P w=.ok (.slice (some ⟨g,off,none⟩) (n - lo) (cap - lo)) w:=by
  by_cases hc:lo<cap
  ·refine ⟨o+lo * z,fun _=>rfl,fun w=>?_⟩
   obtain ⟨off,h1,h2⟩:=ZiQ (P:=P) (w:=w) (g:=g) (o:=o) (cap:=cap) hS hlo hl
   rw [h2,h1 hc]
  ·by_cases hce:cap=lo
   ·refine ⟨o,fun h=>absurd h hc,fun w=>?_⟩
    obtain ⟨inf,zv,hinf,hz,rfl,rfl,hzs⟩:=hS.el
    have ht:=hS.un
    subst hlo
    have h1:=run_sliceBound (P:=P) (w:=w) .i64 (lo:Int) n .sliceB (by omega) (by omega)
    simp [Instr.sliceAt,Instr.slice,run_underlying ht,Instr.sliceBounds,h1,sizeOf,typeInfo,hinf,hce]
   ·refine ⟨o+lo * z,fun h=>absurd h hc,fun w=>?_⟩
    obtain ⟨inf,zv,hinf,hz,rfl,rfl,hzs⟩:=hS.el
    have ht:=hS.un
    subst hlo
    have h1:=run_sliceBound (P:=P) (w:=w) .i64 (lo:Int) n .sliceB (by omega) (by omega)
    simp [Instr.sliceAt,Instr.slice,run_underlying ht,Instr.sliceBounds,h1,sizeOf,typeInfo,hinf,hce,addr_add]
 obtain ⟨a',e,hd⟩:=h off (Lib.hid h1.1)
 refine ZgE ho hi hw (fun w=>?_) e hd
 unfold execOp
 rw [hop]
 simp [hx,hy,h1.2 w]
end
end Go.Proofs.YtkcmgbbopedacaaGreatDoor
namespace Go.Proofs.YtkcmgbbopedacaaGreatDoor
open Go.RowKit
inductive Zkh
 | done
 | rd (i:Nat) (t:Zkh)
 | m1 (i:Nat) (t:Zkh)
 | m2 (i:Nat) (t:Zkh) (j:Nat) (u:Zkh)
def Zkh.still:Zkh→Bool
 | .rd _ _=>false
 | _=>true
def okS (ops:Array Oper) (k:Nat):Bool :=
 match ops[k]? with
 | none=>false
 | some o=>(List.range ops.size).all fun j=>match ops[j]? with
  | none=>true
  | some oj=>match oj.dst with
   | none=>true
   | some d=>(j == k || o.dst != some d) && (!(o.looksAt ops).contains d || o.after.any fun e=>Region.binds .any e && e.on == j)
def ZgA (ops:Array Oper) (pre:List Nat) (k:Nat):Bool :=
 match ops[k]? with
 | none=>false
 | some o=>o.after.all fun e=>!Region.binds .any e || pre.contains e.on
def Zox (ops:Array Oper) (pre c:List Nat):Bool:=(List.range ops.size).all fun k=>pre.contains k || c.contains k || !ZgA ops pre k
def Zjf (ops:Array Oper) (pre:List Nat) (i:Nat):Bool:=decide (i<ops.size) && !pre.contains i && ZgA ops pre i
def Zn2 (ops:Array Oper):Zkh→List Nat→Bool
 | .done,pre=>(List.range ops.size).all fun k=>pre.contains k
 | .rd i t,pre=>Zjf ops pre i && Zn2 ops t (pre++[i])
 | .m1 i t,pre=>Zox ops pre [i] && Zjf ops pre i && Zn2 ops t (pre++[i])
 | .m2 i t j u,pre=>Zox ops pre [i,j] && Zjf ops pre i && Zn2 ops t (pre++[i]) && Zjf ops pre j && Zn2 ops u (pre++[j])
section
variable {P:Program} {w0:World} {X:Fr} {R:List Win}
def MUp (P:Program) (w0:World) (X:Fr) (R:List Win) (S:List OB) (next:Value→List OB→List OB→Prop) (w:World):Result Next→Prop
 | .ok (.value v) w'=>∃ M' S',S.Sublist S'∧Rep w0 X R (M'++S') w'∧next v M' S'
 | .ok .skip w'=>∃ M' S',S.Sublist S'∧Rep w0 X R (M'++S') w'∧next undef M' S'
 | .ok (.enter f args) w'=>w'=w∧Calls P f args w (fun e w''=>∃ v M' S',e=.returned v∧S.Sublist S'∧Rep w0 X R (M'++S') w''∧next v M' S')
 | _=>False
def MSt (P:Program) (L:Array Oper) (w0:World) (X:Fr) (R:List Win) (i:Nat) (a:Act) (M S:List OB) (next:Act→List OB→List OB→Prop):Prop :=
 ∃ o,L[i]?=some o∧if Region.wanted o (yielded L a.tmps) then ∀ w,Rep w0 X R (M++S) w→MUp P w0 X R S (fun v M' S'=>next (a.put o.dst v) M' S') w ((execOp a.eval o).run P w) else next (a.put o.dst undef) M S
def DT (P:Program) (L:Array Oper) (w0:World) (X:Fr) (R:List Win) (Qf:Act→List OB→Prop):Zkh→Act→List OB→List OB→Prop
 | .done,a,M,S=>Qf a (M++S)
 | .rd i t,a,M,S=>∃ o,L[i]?=some o∧if Region.wanted o (yielded L a.tmps) then ∃ v,(∀ w,Rep w0 X R S w→(execOp a.eval o).run P w=.ok (.value v) w)∧DT P L w0 X R Qf t (a.put o.dst v) M S else DT P L w0 X R Qf t (a.put o.dst undef) M S
 | .m1 i t,a,M,S=>MSt P L w0 X R i a M S (DT P L w0 X R Qf t)
 | .m2 i t j u,a,M,S=>MSt P L w0 X R i a M S (DT P L w0 X R Qf t)∧MSt P L w0 X R j a M S (DT P L w0 X R Qf u)
theorem Zd2 {ops:Array Oper} {k:Nat} (h:okS ops k=true):∃ o,ops[k]?=some o ∧
   (∀ j oj,j<ops.size→ops[j]?=some oj→∀ d,oj.dst=some d→(j≠k→o.dst≠some d)∧(d ∈ o.looksAt ops→∃ e ∈ o.after,Region.binds .any e=true∧e.on=j)):=by
 unfold okS at h
 cases ho:ops[k]? with
 | none=>simp [ho] at h
 | some o =>
  simp only [ho] at h
  refine ⟨o,rfl,fun j oj hj hoj d hd=>?_⟩
  have:=List.all_eq_true.1 h j (List.mem_range.2 hj)
  simp only [hoj,hd,Bool.and_eq_true,Bool.or_eq_true,beq_iff_eq,bne_iff_ne,Bool.not_eq_true'] at this
  refine ⟨fun hne=>this.1.resolve_left hne,fun hm=>?_⟩
  rcases this.2 with h | h
  ·simp [hm] at h
  ·obtain ⟨e,he,hb⟩:=Array.any_eq_true'.1 h
   simp only [Bool.and_eq_true,beq_iff_eq] at hb
   exact ⟨e,he,hb.1,hb.2⟩
theorem Zlk {ops:Array Oper} {pre:List Nat} {k:Nat} {o:Oper} (h:ZgA ops pre k=true) (ho:ops[k]?=some o):∀ e ∈ o.after,Region.binds .any e=true→e.on ∈ pre:=by
 unfold ZgA at h
 simp only [ho] at h
 intro e he hb
 have:=Array.all_eq_true_iff_forall_mem.1 h e he
 simpa [hb] using this
theorem Zqj {ops:Array Oper} {pre:List Nat} {k:Nat} {o:Oper} (ho:ops[k]?=some o) (h:∀ e ∈ o.after,Region.binds .any e=true→e.on ∈ pre):ZgA ops pre k=true:=by
 unfold ZgA
 simp only [ho]
 refine Array.all_eq_true_iff_forall_mem.2 fun e he=>?_
 cases hb:Region.binds .any e with
 | false=>rfl
 | true=>simpa using h e he hb
structure TOk (l:List Oper):Prop where
 ns:Region.noSelect l.toArray=true
 ok:∀ k,k<l.toArray.size→okS l.toArray k=true
def Ev (P:Program) (l:List Oper) (w0:World) (X:Fr) (R:List Win) (pre mk:List Nat) (A:Act) (S:List OB):Prop :=
 ∀ (k:Nat) (o:Oper),k ∈ pre→l[k]?=some o→k ∉ mk→∃ v,RG P l.toArray w0 X R S A o v∧∀ d,o.dst=some d→A.tmps[d]?=if d<A.tmps.size then some v else none
def Cl (l:List Oper) (pre:List Nat):Prop:=(∀ k ∈ pre,k<l.toArray.size)∧∀ k ∈ pre,∀ o,l[k]?=some o→∀ e ∈ o.after,Region.binds .any e=true→pre.idxOf e.on<pre.idxOf k
theorem Cl.snoc {l:List Oper} {pre:List Nat} {i:Nat} (h:Cl l pre) (hs:Zjf l.toArray pre i=true):Cl l (pre++[i])∧i ∉ pre∧i<l.toArray.size∧∀ o,l[i]?=some o→∀ e ∈ o.after,Region.binds .any e=true→e.on ∈ pre:=by
 simp only [Zjf,Bool.and_eq_true,decide_eq_true_eq,Bool.not_eq_true'] at hs
 obtain ⟨⟨h1,h2⟩,h3⟩:=hs
 have hip:i ∉ pre:=by simpa using h2
 have hd:∀ o,l[i]?=some o→∀ e ∈ o.after,Region.binds .any e=true→e.on ∈ pre:=fun o ho=>Zlk h3 (by simpa using ho)
 refine ⟨⟨fun k hk=>?_,fun k hk o ho e he hb=>?_⟩,hip,h1,hd⟩
 ·rcases List.mem_append.1 hk with hk | hk
  ·exact h.1 k hk
  ·obtain rfl:k=i:=by simpa using hk
   exact h1
 ·rcases List.mem_append.1 hk with hk | hk
  ·have h4:=h.2 k hk o ho e he hb
   have h5:e.on ∈ pre:=by
    apply Classical.byContradiction
    intro hno
    have h6:pre.idxOf e.on=pre.length:=List.idxOf_eq_length hno
    have h7:=List.idxOf_lt_length_of_mem hk
    omega
   rw [List.idxOf_append,if_pos h5,List.idxOf_append,if_pos hk]; exact h4
  ·obtain rfl:k=i:=by simpa using hk
   have h5:=hd o ho e he hb
   have h6:=List.idxOf_lt_length_of_mem h5
   rw [List.idxOf_append,if_pos h5,List.idxOf_append,if_neg hip]
   omega
theorem Cl.mem {l:List Oper} {pre:List Nat} (h:Cl l pre) {k:Nat} (hk:k ∈ pre) {o:Oper} (ho:l[k]?=some o):∀ {e},e ∈ o.after→Region.binds .any e=true→e.on ∈ pre:=by
 intro e he hb
 apply Classical.byContradiction
 intro hno
 have h4:=h.2 k hk o ho e he hb
 have h6:pre.idxOf e.on=pre.length:=List.idxOf_eq_length hno
 have h7:=List.idxOf_lt_length_of_mem hk
 omega
theorem ZvD {l:List Oper} (hk:TOk l) {pre:List Nat} (hc:Cl l pre) {i:Nat} {o:Oper} (hi:i ∉ pre) (hin:i<l.toArray.size) (ho:l[i]?=some o) {k:Nat} {ok:Oper} (hkp:k ∈ pre) (hok:l[k]?=some ok) :
   (∀ d,o.dst=some d→d ∉ ok.looksAt l.toArray)∧(∀ d,ok.dst=some d→o.dst≠some d):=by
 obtain ⟨ok',hok',g2⟩:=Zd2 (hk.ok k (hc.1 k hkp))
 obtain rfl:ok=ok':=Option.some.inj ((by simpa using hok:l.toArray[k]?=some ok).symm.trans hok')
 have ho':l.toArray[i]?=some o:=by simpa using ho
 refine ⟨fun d hd hm=>?_,fun d hd e=>?_⟩
 ·obtain ⟨e,he,hb,hon⟩:=(g2 i o hin ho' d hd).2 hm
  exact hi (hon ▸ hc.mem hkp hok he hb)
 ·exact (g2 i o hin ho' d e).1 (fun e2=>hi (e2 ▸ hkp)) hd
theorem ZxZ {l:List Oper} (hk:TOk l) {i:Nat} {o:Oper} (hin:i<l.toArray.size) (ho:l[i]?=some o) {pre:List Nat} (hi:i ∉ pre) (hd:∀ e ∈ o.after,Region.binds .any e=true→e.on ∈ pre):∀ d,o.dst=some d→d ∉ o.looksAt l.toArray:=fun d hd' hm=>by
 obtain ⟨o',ho',g2⟩:=Zd2 (hk.ok i hin)
 obtain rfl:o=o':=Option.some.inj ((by simpa using ho:l.toArray[i]?=some o).symm.trans ho')
 obtain ⟨e,he,hb,hon⟩:=(g2 i o hin ho' d hd').2 hm
 exact hi (hon ▸ hd e he hb)
theorem Zzb {l:List Oper} {Qf:Act→List OB→Prop} (hk:TOk l) {M S:List OB} {mk:List Nat} :
   ∀ (pl:Zkh) (pre:List Nat) (A:Act),Cl l pre→Zn2 l.toArray pl pre=true→DT P l.toArray w0 X R Qf pl A M S→Ev P l w0 X R pre mk A S→(∀ k ∈ mk,k ∈ pre) →
    ∃ sg pl' A',pl'.still=true∧Cl l (pre++sg)∧Zn2 l.toArray pl' (pre++sg)=true∧DT P l.toArray w0 X R Qf pl' A' M S∧A'.tmps.size=A.tmps.size∧A'.defers=A.defers∧(∀ k ∈ sg,k ∉ pre∧k<l.toArray.size) ∧
     (∀ t,(∀ (k:Nat) (o:Oper),k ∈ sg→l[k]?=some o→o.dst≠some t)→A'.tmps[t]?=A.tmps[t]?)∧Ev P l w0 X R (pre++sg) mk A' S
 | .done,pre,A,hc,hp,hd,hr,_=>⟨[],.done,A,rfl,by simpa using hc,by simpa using hp,hd,rfl,rfl,by simp,fun _ _=>rfl,by simpa using hr⟩
 | .m1 i t,pre,A,hc,hp,hd,hr,_=>⟨[],.m1 i t,A,rfl,by simpa using hc,by simpa using hp,hd,rfl,rfl,by simp,fun _ _=>rfl,by simpa using hr⟩
 | .m2 i t j u,pre,A,hc,hp,hd,hr,_=>⟨[],.m2 i t j u,A,rfl,by simpa using hc,by simpa using hp,hd,rfl,rfl,by simp,fun _ _=>rfl,by simpa using hr⟩
 | .rd i t,pre,A,hc,hp,hd,hr,hm=>by
  simp only [Zn2,Bool.and_eq_true] at hp
  obtain ⟨hs,hp⟩:=hp
  obtain ⟨hc',hip,hin,hdeps⟩:=hc.snoc hs
  obtain ⟨o,ho,hd⟩:=hd
  have ho':l[i]?=some o:=by simpa using ho
  have hsel:∀ cs bb,o.op≠.select cs bb:=fun cs bb=>Region.noSelect_spec hk.ns i o cs bb ho
  have hself:=ZxZ hk hin ho' hip (hdeps o ho')
  have hst:∃ v,RG P l.toArray w0 X R S A o v∧DT P l.toArray w0 X R Qf t (A.put o.dst v) M S:=by
   by_cases hw:Region.wanted o (yielded l.toArray A.tmps)=true
   ·rw [if_pos hw] at hd
    obtain ⟨v,hv,hn⟩:=hd
    exact ⟨v,.inl ⟨hw,hv⟩,hn⟩
   ·rw [if_neg hw] at hd
    exact ⟨undef,.inr ⟨by simpa using hw,rfl⟩,hd⟩
  obtain ⟨v,hg,hn⟩:=hst
  have hag:∀ (ok:Oper),(∀ d,o.dst=some d→d ∉ ok.looksAt l.toArray)→Zek l.toArray ok (A.put o.dst v) A:=fun ok hok t ht=>Zz A o.dst v t fun e=>hok t e ht
  obtain ⟨sg,pl',A',e1,e2,e3,e4,e5,e6,e7,e8,e9⟩:=Zzb hk t (pre++[i]) (A.put o.dst v) hc' hp hn (fun k ok hkp hok hkm=>by
   rcases List.mem_append.1 hkp with hkp | hkp
   ·obtain ⟨u,hu,hud⟩:=hr k ok hkp hok hkm
    have hkk:=ZvD hk hc hip hin ho' hkp hok
    exact ⟨u,hu.of_same (hag ok hkk.1) (fun cs bb=>Region.noSelect_spec hk.ns k ok cs bb (by simpa using hok)) (List.Sublist.refl _),fun d hd'=>by
     rw [Zz A o.dst v d (hkk.2 d hd'),XY]; exact hud d hd'⟩
   ·obtain rfl:k=i:=by simpa using hkp
    obtain rfl:o=ok:=Option.some.inj (ho'.symm.trans hok)
    exact ⟨v,hg.of_same (hag o hself) hsel (List.Sublist.refl _),fun d hd'=>by rw [hd',Zbl,Act.put]; simp⟩) (fun k hkm=>List.mem_append_left _ (hm k hkm))
  refine ⟨i::sg,pl',A',e1,by simpa using e2,by simpa using e3,e4,by rw [e5,XY],by rw [e6,put_defers],fun k hkm=>?_,fun t ht=>?_,by simpa using e9⟩
  ·rcases List.mem_cons.1 hkm with rfl | hkm
   ·exact ⟨hip,hin⟩
   ·exact ⟨fun h=>(e7 k hkm).1 (List.mem_append_left _ h),(e7 k hkm).2⟩
  ·rw [e8 t fun k ok hkm=>ht k ok (List.mem_cons_of_mem _ hkm)]
   exact Zz A o.dst v t (ht i o List.mem_cons_self ho')
structure Zn4 (P:Program) (l:List Oper) (w0:World) (X:Fr) (R:List Win) (Qf:Act→List OB→Prop) (pre mk:List Nat) (pl:Zkh) (A:Act) (M S:List OB) (listed:Array Bool) (b:Act) (w:World):Prop where
 hi:HeadInv .any l.toArray l.toArray.size listed
 still:pl.still=true
 cl:Cl l pre
 ck:Zn2 l.toArray pl pre=true
 dt:DT P l.toArray w0 X R Qf pl A M S
 sub:∀ k ∈ mk,k ∈ pre
 imp:∀ k ∈ mk,listed.getD k false=true
 done:∀ k,k<l.toArray.size→listed.getD k false=true→k ∈ pre
 size:b.tmps.size=A.tmps.size
 defers:b.defers=A.defers
 rep:Rep w0 X R (M++S) w
 un:∀ t,(∀ (k:Nat) (o:Oper),k<l.toArray.size→l[k]?=some o→o.dst≠some t)→b.tmps[t]?=A.tmps[t]?
 got:∀ (k:Nat) (o:Oper),k ∈ pre→l[k]?=some o→listed.getD k false=true→∀ d,o.dst=some d→b.tmps[d]?=A.tmps[d]?
 ev:Ev P l w0 X R pre mk A S
section
variable {l:List Oper} {Qf:Act→List OB→Prop} {Q:Exit→Act→World→Prop} {pre mk:List Nat} {pl:Zkh} {A:Act} {M S:List OB} {listed:Array Bool} {b:Act} {w:World}
theorem Zn4.agrees (hk:TOk l) (inv:Zn4 P l w0 X R Qf pre mk pl A M S listed b w) {i:Nat} {o:Oper} (hin:i<l.toArray.size) (ho:l[i]?=some o) (hdep:∀ e ∈ o.after,Region.binds .any e=true→listed.getD e.on false=true):Zek l.toArray o b A:=by
 intro t ht
 obtain ⟨o',ho',h2⟩:=Zd2 (hk.ok i hin)
 obtain rfl:o=o':=Option.some.inj ((by simpa using ho:l.toArray[i]?=some o).symm.trans ho')
 by_cases hex:∃ (k:Nat) (o':Oper),k<l.toArray.size∧l[k]?=some o'∧o'.dst=some t
 ·obtain ⟨k,o',hkn,hko,hkd⟩:=hex
  obtain ⟨e,he,hb,hon⟩:=(h2 k o' hkn (by simpa using hko) t hkd).2 ht
  have hl:=hdep e he hb
  rw [hon] at hl
  exact inv.got k o' (inv.done k hkn hl) hko hl t hkd
 ·exact inv.un t fun k o' hkn hko hkd=>hex ⟨k,o',hkn,hko,hkd⟩
theorem Zn4.later (hk:TOk l) (inv:Zn4 P l w0 X R Qf pre mk pl A M S listed b w) {i:Nat} {o:Oper} {t:Zkh} (hi:i ∈ Region.ready .any l.toArray listed) (ho:l[i]?=some o) (hs:Zjf l.toArray pre i=true) (hp:Zn2 l.toArray t (pre++[i])=true)
   {v:Value} {M' S':List OB} {w':World} (hS:S.Sublist S') (hR:Rep w0 X R (M'++S') w') (hD:DT P l.toArray w0 X R Qf t (A.put o.dst v) M' S') :
   ∃ pre mk pl A M S,Zn4 P l w0 X R Qf pre mk pl A M S (listed.setIfInBounds i true) (b.put o.dst v) w':=by
 obtain ⟨hc',hip,hin,hdeps⟩:=inv.cl.snoc hs
 have hil:i<listed.size:=by rw [inv.hi.size]; exact hin
 have hself:(listed.setIfInBounds i true).getD i false=true:=by simp [Array.getD,hil]
 obtain ⟨o2,ho2,h2⟩:=Zd2 (hk.ok i hin)
 obtain rfl:o=o2:=Option.some.inj ((by simpa using ho:l.toArray[i]?=some o).symm.trans ho2)
 have hne:∀ (k:Nat) (ok:Oper),k<l.toArray.size→l[k]?=some ok→k≠i→∀ d,ok.dst=some d→o.dst≠some d:=fun k ok hkn hok hki d hd=>(h2 k ok hkn (by simpa using hok) d hd).1 hki
 obtain ⟨sg,pl',A',e1,e2,e3,e4,e5,e6,e7,e8,e9⟩:=Zzb (mk:=i::mk) hk t (pre++[i]) (A.put o.dst v) hc' hp hD (fun k ok hkp hok hkm=>by
  rcases List.mem_append.1 hkp with hkp | hkp
  ·obtain ⟨u,hu,hud⟩:=inv.ev k ok hkp hok (fun h=>hkm (List.mem_cons_of_mem _ h))
   have hkk:=ZvD hk inv.cl hip hin ho hkp hok
   exact ⟨u,hu.of_same (fun t ht=>Zz A o.dst v t fun e=>hkk.1 t e ht) (fun cs bb=>Region.noSelect_spec hk.ns k ok cs bb (by simpa using hok)) hS,fun d hd'=>by
    rw [Zz A o.dst v d (hkk.2 d hd'),XY]; exact hud d hd'⟩
  ·obtain rfl:k=i:=by simpa using hkp
   exact absurd List.mem_cons_self hkm) (fun k hkm=>by
  rcases List.mem_cons.1 hkm with rfl | hkm
  ·simp
  ·exact List.mem_append_left _ (inv.sub k hkm))
 have hsgd:∀ k ∈ sg,listed.getD k false=true→False:=fun k hkm hl=>(e7 k hkm).1 (List.mem_append_left _ (inv.done k (e7 k hkm).2 hl))
 have hisg:i ∉ sg:=fun hm=>(e7 i hm).1 (by simp)
 refine ⟨pre++[i]++sg,i::mk,pl',A',M',S',inv.hi.set hi hin,e1,e2,e3,e4,fun k hkm=>?_,fun k hkm=>?_,fun k hkn hkl=>?_,by rw [XY,e5,XY]; exact inv.size,by rw [put_defers,e6,put_defers]; exact inv.defers,hR,fun t ht=>?_,fun k ok hkp hok hkl d hd'=>?_,e9⟩
 ·rcases List.mem_cons.1 hkm with rfl | hkm
  ·simp
  ·simp [inv.sub k hkm]
 ·rcases List.mem_cons.1 hkm with rfl | hkm
  ·exact hself
  ·exact getD_set_true (inv.imp k hkm)
 ·by_cases hki:k=i
  ·subst hki; simp
  ·have:=inv.done k hkn (ZY hkl (Ne.symm hki)); simp [this]
 ·rw [Zz b o.dst v t (ht i o hin ho),e8 t (fun k ok hkm hok=>ht k ok (e7 k hkm).2 hok),Zz A o.dst v t (ht i o hin ho)]
  exact inv.un t ht
 ·have hkn:k<l.toArray.size:=e2.1 k hkp
  have hnsg:k ∉ sg:=fun hm=>by
   by_cases hki:k=i
   ·subst hki; exact hisg hm
   ·exact hsgd k hm (ZY hkl (Ne.symm hki))
  rw [e8 d (fun k2 ok2 hkm2 hok2 e=>by
   obtain ⟨ok',hok',g2⟩:=Zd2 (hk.ok k2 (e7 k2 hkm2).2)
   obtain rfl:ok2=ok':=Option.some.inj ((by simpa using hok2:l.toArray[k2]?=some ok2).symm.trans hok')
   exact (g2 k ok hkn (by simpa using hok) d hd').1 (fun e2=>hnsg (e2 ▸ hkm2)) e)]
  by_cases hki:k=i
  ·subst hki
   obtain rfl:ok=o:=Option.some.inj (hok.symm.trans ho)
   rw [hd',Zbl,Zbl,inv.size]
  ·have hkp':k ∈ pre:=by
     rcases List.mem_append.1 hkp with hkp | hkp
     ·rcases List.mem_append.1 hkp with hkp | hkp
      ·exact hkp
      ·exact absurd (by simpa using hkp) hki
     ·exact absurd hkp hnsg
   rw [Zz b o.dst v d (hne k ok hkn hok hki d hd'),Zz A o.dst v d (hne k ok hkn hok hki d hd')]
   exact inv.got k ok hkp' hok (ZY hkl (Ne.symm hki)) d hd'
theorem Zn4.maker (hk:TOk l) (inv:Zn4 P l w0 X R Qf pre mk pl A M S listed b w) {i:Nat} {t:Zkh} (hi:i ∈ Region.ready .any l.toArray listed) (hs:Zjf l.toArray pre i=true) (hp:Zn2 l.toArray t (pre++[i])=true) (hd:MSt P l.toArray w0 X R i A M S (DT P l.toArray w0 X R Qf t)) :
   wpOp P l.toArray Q i (fun b' w'=>∃ pre mk pl A M S,Zn4 P l w0 X R Qf pre mk pl A M S (listed.setIfInBounds i true) b' w') b w:=by
 obtain ⟨hun,o,ho,hdep⟩:=mem_ready.1 hi
 have ho':l[i]?=some o:=by simpa using ho
 have hin:i<l.toArray.size:=(Array.getElem?_eq_some_iff.1 ho).1
 have hag:=inv.agrees hk hin ho' hdep
 have hsel:∀ cs bb,o.op≠.select cs bb:=fun cs bb=>Region.noSelect_spec hk.ns i o cs bb ho
 obtain ⟨o3,ho3,hd⟩:=hd
 obtain rfl:o=o3:=Option.some.inj (ho.symm.trans ho3)
 unfold wpOp
 simp only [ho]
 rw [hag.wanted]
 by_cases hw:Region.wanted o (yielded l.toArray A.tmps)=true
 ·rw [if_pos hw] at hd
  simp only [hw,if_true]
  refine .inl ?_
  have h5:=hd w inv.rep
  unfold Oper.wp
  rw [hag.exec hsel]
  generalize (execOp A.eval o).run P w=res at h5 ⊢
  cases res with
  | ok nx w' =>
   cases nx <;> simp only [MUp] at h5 <;> simp only [Oper.upon]
   case value v=>obtain ⟨M',S',h6,h7,h8⟩:=h5; exact inv.later hk hi ho' hs hp h6 h7 h8
   case skip=>obtain ⟨M',S',h6,h7,h8⟩:=h5; exact inv.later hk hi ho' hs hp h6 h7 h8
   case enter f args =>
    obtain ⟨rfl,hc⟩:=h5
    exact hc.mono fun e w'' ⟨v,M',S',he,h6,h7,h8⟩=>by subst he; exact inv.later hk hi ho' hs hp h6 h7 h8
  | halt x w'=>simp only [MUp] at h5
 ·rw [if_neg hw] at hd
  simp only [hw,Bool.false_eq_true,if_false]
  exact inv.later hk hi ho' hs hp (List.Sublist.refl _) inv.rep hd
theorem Zn4.step (hk:TOk l) (inv:Zn4 P l w0 X R Qf pre mk pl A M S listed b w) {i:Nat} (hi:i ∈ Region.ready .any l.toArray listed) :
   wpOp P l.toArray Q i (fun b' w'=>∃ pre mk pl A M S,Zn4 P l w0 X R Qf pre mk pl A M S (listed.setIfInBounds i true) b' w') b w:=by
 obtain ⟨hun,o,ho,hdep⟩:=mem_ready.1 hi
 have ho':l[i]?=some o:=by simpa using ho
 have hin:i<l.toArray.size:=(Array.getElem?_eq_some_iff.1 ho).1
 by_cases hip:i ∈ pre
 ·have hag:=inv.agrees hk hin ho' hdep
  have hsel:∀ cs bb,o.op≠.select cs bb:=fun cs bb=>Region.noSelect_spec hk.ns i o cs bb ho
  have himf:i ∉ mk:=fun hm=>by have:=inv.imp i hm; rw [getD_both hun] at this; cases this
  obtain ⟨o2,ho2,h2⟩:=Zd2 (hk.ok i hin)
  obtain rfl:o=o2:=Option.some.inj (ho.symm.trans ho2)
  have hne:∀ (k:Nat) (ok:Oper),k<l.toArray.size→l[k]?=some ok→k≠i→∀ d,ok.dst=some d→o.dst≠some d:=fun k ok hkn hok hki d hd=>(h2 k ok hkn (by simpa using hok) d hd).1 hki
  obtain ⟨v,hg,hA⟩:=inv.ev i o hip ho' himf
  have hg':=hg.of_same hag hsel (List.Sublist.refl _)
  have fin:∃ pre mk pl A M S,Zn4 P l w0 X R Qf pre mk pl A M S (listed.setIfInBounds i true) (b.put o.dst v) w:=by
   refine ⟨pre,mk,pl,A,M,S,inv.hi.set hi hin,inv.still,inv.cl,inv.ck,inv.dt,inv.sub,fun k hkm=>getD_set_true (inv.imp k hkm),fun k hkn hkl=>?_,by rw [XY]; exact inv.size,by rw [put_defers]; exact inv.defers,inv.rep,fun t ht=>?_,fun k ok hkp hok hkl d hd=>?_,inv.ev⟩
   ·by_cases hki:k=i
    ·subst hki; exact hip
    ·exact inv.done k hkn (ZY hkl (Ne.symm hki))
   ·rw [Zz b o.dst v t (ht i o hin ho')]; exact inv.un t ht
   ·by_cases hki:k=i
    ·subst hki
     obtain rfl:ok=o:=Option.some.inj (hok.symm.trans ho')
     rw [hd,Zbl,hA d hd,inv.size]
    ·rw [Zz b o.dst v d (hne k ok (inv.cl.1 k hkp) hok hki d hd)]
     exact inv.got k ok hkp hok (ZY hkl (Ne.symm hki)) d hd
  unfold wpOp
  simp only [ho]
  rcases hg' with ⟨hw,hv⟩ | ⟨hw,rfl⟩
  ·simp only [hw,if_true]
   refine .inl ?_
   unfold Oper.wp
   have hrep:Rep w0 X R S w:=inv.rep.sub (List.sublist_append_right _ _)
   rw [hv w hrep]
   exact fin
  ·simp only [hw,Bool.false_eq_true,if_false]
   exact fin
 ·have hdi:ZgA l.toArray pre i=true:=Zqj ho fun e he hb=>by
    have hl:=hdep e he hb
    have hlt:e.on<l.toArray.size:=by
     rcases Nat.lt_or_ge e.on listed.size with h | h
     ·rw [← inv.hi.size]; exact h
     ·simp [Array.getD,Nat.not_lt.2 h] at hl
    exact inv.done e.on hlt hl
  have hwait:∀ c,Zox l.toArray pre c=true→i ∈ c:=fun c hc=>by
   have:=List.all_eq_true.1 hc i (List.mem_range.2 hin)
   simpa [hip,hdi] using this
  have hck:=inv.ck
  have hdt:=inv.dt
  cases pl with
  | done =>
   have:=List.all_eq_true.1 hck i (List.mem_range.2 hin)
   exact absurd (by simpa using this) hip
  | rd j t=>exact absurd inv.still (by simp [Zkh.still])
  | m1 j t =>
   simp only [Zn2,Bool.and_eq_true] at hck
   obtain rfl:i=j:=by simpa using hwait _ hck.1.1
   exact inv.maker hk hi hck.1.2 hck.2 hdt
  | m2 j t q u =>
   simp only [Zn2,Bool.and_eq_true] at hck
   have hm:=hwait _ hck.1.1.1.1
   rcases List.mem_cons.1 hm with rfl | hm
   ·exact inv.maker hk hi hck.1.1.1.2 hck.1.1.2 hdt.1
   ·obtain rfl:i=q:=by simpa using hm
    exact inv.maker hk hi hck.1.2 hck.2 hdt.2
end
end
attribute [irreducible] DT MSt
end Go.Proofs.YtkcmgbbopedacaaGreatDoor
namespace Go.Proofs.YtkcmgbbopedacaaGreatDoor
open Go.RowKit
attribute [local semireducible] DC DT MSt
theorem Rep.perm {w0 w:World} {X:Fr} {R:List Win} {S S':List OB} (h:Rep w0 X R S w) (hp:S.Perm S'):Rep w0 X R S' w :=
 ⟨h.kp,fun e he=>h.own e (hp.mem_iff.2 he),(hp.pairwise_iff (fun h e=>h e.symm)).1 h.ne,fun e he=>h.new e (hp.mem_iff.2 he),h.win,h.j,h.js,h.xl⟩
section
variable {P:Program} {l:List Oper} {w0:World} {X:Fr} {R:List Win} {Qf:Act→List OB→Prop} {i j:Nat} {t u:Zkh} {a a':Act} {S M:List OB} {o:Oper} {next:Act→List OB→List OB→Prop}
end
theorem DT.mono {P:Program} {l:List Oper} {w0:World} {X:Fr} {R:List Win} {Q Q':Act→List OB→Prop} (hQ:∀ A S,Q A S→Q' A S):∀ (pl:Zkh) (a:Act) (M S:List OB),DT P l.toArray w0 X R Q pl a M S→DT P l.toArray w0 X R Q' pl a M S:=by
 have ms:∀ (next next':Act→List OB→List OB→Prop) (i:Nat) (a:Act) (M S:List OB),(∀ a M S,next a M S→next' a M S)→MSt P l.toArray w0 X R i a M S next→MSt P l.toArray w0 X R i a M S next':=by
  intro next next' i a M S hn ⟨o,ho,h⟩
  refine ⟨o,ho,?_⟩
  split
  ·rename_i hw
   rw [if_pos hw] at h
   intro w hR
   have h:=h w hR
   revert h
   unfold MUp
   generalize (execOp a.eval o).run P w=r
   intro h
   cases r with
   | ok n w' =>
    cases n with
    | value v=>obtain ⟨M',S',h1,h2,h3⟩:=h; exact ⟨M',S',h1,h2,hn _ _ _ h3⟩
    | skip=>obtain ⟨M',S',h1,h2,h3⟩:=h; exact ⟨M',S',h1,h2,hn _ _ _ h3⟩
    | enter f args=>exact ⟨h.1,h.2.mono fun e w'' ⟨v,M',S',he,h1,h2,h3⟩=>⟨v,M',S',he,h1,h2,hn _ _ _ h3⟩⟩
    | _=>exact h
   | _=>exact h
  ·rename_i hw
   rw [if_neg hw] at h
   exact hn _ _ _ h
 intro pl
 induction pl with
 | done=>intro a M S h; exact hQ _ _ h
 | rd i t ih =>
  intro a M S ⟨o,ho,h⟩
  refine ⟨o,ho,?_⟩
  split
  ·rename_i hw
   rw [if_pos hw] at h
   obtain ⟨v,h1,h2⟩:=h
   exact ⟨v,h1,ih _ _ _ h2⟩
  ·rename_i hw
   rw [if_neg hw] at h
   exact ih _ _ _ h
 | m1 i t ih=>intro a M S h; exact ms _ _ _ _ _ _ ih h
 | m2 i t j u ih ih'=>intro a M S h; exact ⟨ms _ _ _ _ _ _ ih h.1,ms _ _ _ _ _ _ ih' h.2⟩
section
variable {P:Program} {l:List Oper} {w0 w:World} {X:Fr} {R:List Win} {S:List OB} {Q:Exit→Act→World→Prop} {id:Nat} {a:Act}
end
end Go.Proofs.YtkcmgbbopedacaaGreatDoor
