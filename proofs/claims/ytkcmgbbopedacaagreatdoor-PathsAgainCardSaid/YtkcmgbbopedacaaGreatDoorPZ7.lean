/-
  Lemmas: Rules of the walk in short, third part.
-/
import Derived.Test.YtkcmgbbopedacaaGreatDoorPZ6
set_option linter.unusedSimpArgs false
set_option linter.unusedVariables false
namespace Go.Proofs.YtkcmgbbopedacaaGreatDoor
open Go.RowKit
attribute [local simp] Sem.run_bind Sem.run_pure Result.andThen_ok
abbrev YY {α:Type} (E:TypeId) (z:Nat) (f:α→List D) (xs:List α):Blk:=.arr E z xs.length ((xs.flatMap f).map V.d)
def hdk:Option Nat→Hp
 | none=>[]
 | some k=>[(k,none)]
theorem Step.arr {B:Nat→Prop} {H:Hp} {ρ:Lc} {w w':World} {k:Nat} {l:Loc} {blk:Blk} (ko:Option Nat) (hk:ρ k=none) (h1:w'.os=w.os) (h2:w'.tape=w.tape) (h3:w'.output=w.output) (hs:w.heap.size≤w'.heap.size)
   (hkeep:∀ b,b<w.heap.size→(∀ k0 l0,ko=some k0→ρ k0=some l0→¬ l0.bl b)→w'.heap[b]?=w.heap[b]?) (hl:∀ b,l.bl b→(w.heap.size≤b∧b<w'.heap.size)∨∃ k0 l0,ko=some k0∧ρ k0=some l0∧l0.bl b)
   (hH:∀ k0,ko=some k0→k0≠k∧∃ blk,look H k0=some (some blk)) (hrel:∀ ok' ρ',Stl w w' (okb B w ρ) ok'→Ext ρ ρ'→blk.rel w' ok' ρ' l):Step B H (hdk ko++[(k,some blk)]) ρ (upd ρ k l) w w':=by
 have hst:Stl w w' (okb B w ρ) (okb B w' (upd ρ k l)):=fun b ⟨hb,hB,ho⟩=>⟨⟨by omega,hB,fun j l' hj e=>by
  rcases Zad hj with ⟨-,rfl⟩ | hj
  ·rcases hl b e with h | ⟨k0,l0,-,h5,h6⟩
   ·omega
   ·exact ho k0 l0 h5 h6
  ·exact ho j l' hj e⟩,hkeep b hb fun k0 l0 _ h5=>ho k0 l0 h5⟩
 have hlk:∀ j x,look (hdk ko++[(k,some blk)]) j=some (some x)→j=k∧x=blk:=fun j x hj=>by
  cases ko with
  | none =>
   obtain ⟨h,e⟩:=ZaL hj
   exact ⟨h,Option.some.inj e⟩
  | some k0 =>
   simp only [hdk,List.cons_append,List.nil_append,Zo] at hj
   split at hj
   ·cases hj
   ·obtain ⟨h,e⟩:=ZaL (x:=some blk) (k:=k) (by rw [Zo]; exact hj)
    exact ⟨h,Option.some.inj e⟩
 have hkk:look (hdk ko++[(k,some blk)]) k=some (some blk):=by
  cases ko with
  | none=>simp [hdk,Zo]
  | some k0=>simp [hdk,Zo,(hH k0 rfl).1]
 have hko:∀ k0,ko=some k0→look (hdk ko++[(k,some blk)]) k0=some none:=fun k0 e=>by subst e; simp [hdk,Zo]
 refine ⟨h1,h2,h3,hs,ZbZ hk,fun j l' hj=>?_,fun b hb hn=>hkeep b hb fun k0 l0 e h5=>hn k0 l0 (by rw [hko k0 e]; simp) h5,fun j hj hn=>?_,fun j blk' hj=>?_,fun j j' _ _ _ _ _ hj hj' _ _ _ _=>(hlk j _ hj).1.trans (hlk j' _ hj').1.symm⟩
 ·rcases Zad hj with ⟨rfl,rfl⟩ | hj
  ·refine .inr ⟨hk,by rw [hkk]; simp,fun b e=>?_⟩
   rcases hl b e with h | ⟨k0,l0,e0,h5,h6⟩
   ·exact .inl h
   ·exact .inr ⟨k0,l0,hko k0 e0,h5,h6⟩
  ·exact .inl hj
 ·cases ko with
  | none =>
   obtain rfl:=ZeY hj
   exact absurd hk hn
  | some k0 =>
   by_cases e:k0=j
   ·subst e; exact (hH k0 rfl).2
   ·have:look [(k,some blk)] j≠none:=by
      simp only [hdk,List.cons_append,List.nil_append] at hj
      rw [Zo,if_neg e] at hj; exact hj
    obtain rfl:=ZeY this
    exact absurd hk hn
 ·obtain ⟨rfl,rfl⟩:=hlk j _ hj
  exact ⟨l,Y0 _ _ _,hrel _ _ hst (ZbZ hk)⟩
def Zvf:D→Option (Nat × List V)
 | .l m xs=>some (m,xs.map .d)
 | .c (.slice none 0 0)=>some (0,[])
 | .c _=>none
 | .m _=>none
 | .fn _ _=>none
def Zki (H:Hp):V→Option (Nat × List V)
 | .d x=>Zvf x
 | .h k=>match look H k with
  | some (some (.arr _ _ n cs))=>some (n,cs)
  | _=>none
 | .s k o m z=>match look H k with
  | some (some (.arr _ _ _ cs))=>some (m,(cs.drop (o * z)).take (m * z))
  | _=>none
 | _=>none
theorem Zfe {B:Nat→Prop} {H:Hp} {ρ:Lc} {w:World} (hr:HR B H ρ w) {u:V} {v:Value} {m:Nat} {ws:List V} (hu:Zki H u=some (m,ws)) (hv:RV w (okb B w ρ) ρ u v) :
   ∃ p c,v=.slice p m c∧m≤c∧(m=0∨∃ b o us,p=some ⟨b,o,none⟩∧b<w.heap.size∧RVs w (okb B w ρ) ρ ws us∧us.all Value.oneCell'=true∧∀ j x,us[j]?=some x→w.cell? ⟨b,o+j,none⟩=some x):=by
 cases hv with
 | d hv =>
  cases hv with
  | m _ _ _=>simp [Zki,Zvf] at hu
  | fn _=>simp [Zki,Zvf] at hu
  | c h1 =>
   simp only [Zki,Zvf] at hu
   split at hu
   ·rename_i h; cases h
   ·rename_i h; cases h
    simp only [Option.some.injEq,Prod.mk.injEq] at hu
    obtain ⟨rfl,rfl⟩:=hu
    exact ⟨none,0,rfl,Nat.le_refl _,.inl rfl⟩
   ·cases hu
   ·cases hu
   ·cases hu
  | nil p c =>
   simp only [Zki,Zvf,Option.some.injEq,Prod.mk.injEq] at hu
   obtain ⟨rfl,rfl⟩:=hu
   exact ⟨p,c,rfl,Nat.zero_le _,.inl rfl⟩
  | l h1 _ h2 h3 h4 =>
   simp only [Zki,Zvf,Option.some.injEq,Prod.mk.injEq] at hu
   obtain ⟨rfl,rfl⟩:=hu
   exact ⟨_,_,rfl,h1,.inr ⟨_,_,_,rfl,h2.1,h3.toV,h3.one,h4⟩⟩
 | h hp =>
  simp only [Zki] at hu
  split at hu <;> first | (cases hu; done) | skip
  rename_i E z n cs hH
  simp only [Option.some.injEq,Prod.mk.injEq] at hu
  obtain ⟨rfl,rfl⟩:=hu
  obtain ⟨l,h1,h2⟩:=hr.rel _ _ hH
  rw [hp] at h1; obtain rfl:=Option.some.inj h1
  rcases h2 with ⟨h3,rfl,rfl⟩ | ⟨g,cap,us,sp,h3,h4,h5,h6,h7,h8,h0,h9⟩
  ·cases h3; exact ⟨_,_,rfl,Nat.le_refl _,.inl rfl⟩
  ·cases h3
   exact ⟨_,_,rfl,h4,.inr ⟨g,0,us,rfl,hr.lt _ _ g hp rfl,h9,h0,fun j x hj=>by rw [Nat.zero_add,World.cell?,h6]; simp [List.getElem?_append_left (List.getElem?_eq_some_iff.1 hj).1,hj]⟩⟩
 | s hp hl hc =>
  simp only [Zki] at hu
  split at hu <;> first | (cases hu; done) | skip
  rename_i E z n cs hH
  simp only [Option.some.injEq,Prod.mk.injEq] at hu
  obtain ⟨rfl,rfl⟩:=hu
  obtain ⟨l,h1,h2⟩:=hr.rel _ _ hH
  rw [hp] at h1; obtain rfl:=Option.some.inj h1
  rcases h2 with ⟨h3,rfl,rfl⟩ | ⟨g,cap,us,sp,h3,h4,h5,h6,h7,h8,h0,h9⟩
  ·cases h3
  ·cases h3
   refine ⟨_,_,rfl,by omega,.inr ⟨_,_,_,rfl,hr.lt _ _ _ hp rfl,(h9.drop _).take _,?_,fun j x hj=>?_⟩⟩
   ·exact List.all_eq_true.2 fun x hx=>List.all_eq_true.1 h0 x (List.mem_of_mem_drop (List.mem_of_mem_take hx))
   ·rw [List.getElem?_take] at hj
    split at hj
    ·simp only [List.getElem?_drop] at hj
     rw [World.cell?,h6]
     simp [List.getElem?_append_left (List.getElem?_eq_some_iff.1 hj).1,hj]
    ·cases hj
 | s0 =>
  simp only [Zki] at hu
  split at hu <;> first | (cases hu; done) | skip
  simp only [Option.some.injEq,Prod.mk.injEq] at hu
  obtain ⟨rfl,rfl⟩:=hu
  exact ⟨_,_,rfl,Nat.zero_le _,.inl rfl⟩
 | _=>simp [Zki] at hu
section
variable {P:Program} {o:Oper} {H:Hp} {sl:List (Nat × V)} {u ux uy:V} {h:Hp} {x y:Operand} {T T' U E t:TypeId} {n k z off bytes m:Nat} {i:Int} {ag:Bool} {cs cs' ws:List V}
set_option maxHeartbeats 1000000 in
theorem Znz (k':Nat) [hS:Sl P t E z bytes] (hop:o.op=.call { callee:=.builtin .append,args:=#[x,y],argTypes:=#[t,t] }) (hx:ev sl x=some (.h k)) (hy:ev sl y=some uy) (hH:look H k=some (some (.arr E z n cs))) (hsrc:Zki H uy=some (m,ws)) (hws:ws.length=m * z)
   (hb:(n+m) * bytes≤140737488355328) (hm:n+m≤9223372036854775807) (hkk:(!Nat.beq k k')=true):OpD P o H sl k' 1 (.h k') [(k,none),(k',some (.arr E z (n+m) (cs++ws)))]:=fun B a w ρ hs hr hfr=>by
 have hfr:=hfr k' (Nat.le_refl _) (by omega)
 have hkk:k≠k':=fun e=>by subst e; simp at hkk
 obtain ⟨i,zv,hi,hz,rfl,rfl,hzs⟩:=hS.el
 have ht:=hS.un
 obtain ⟨px,cx,hv,hmc,hxx⟩:=Zfe hr hsrc (Zp hs hy)
 have hx':=Zp hs hx
 obtain ⟨l,g1,g2⟩:=hr.rel _ _ hH
 have fin:∀ (v v':Value) (w':World),a.eval x=v→(Builtin.append_ #[t,t] o.type #[v,.slice px m cx]).run P w=.ok v' w'→(execOp a.eval o).run P w=.ok (.value v') w':=fun v v' w' e hrun=>by
  unfold execOp; rw [hop]
  simp [resolve,invoke,builtin,e,hv,hrun]
 have hH':∀ k0,some k=some k0→k0≠k'∧∃ blk,look H k0=some (some blk):=fun k0 e=>by cases e; exact ⟨hkk,_,hH⟩
 have stay:∀ (v:Value),ρ k=some (.arr v)→Blk.rel w (okb B w ρ) ρ (.arr E i.size (n+m) (cs++ws)) (.arr v)→Step B H (hdk (some k)++[(k',some (.arr E i.size (n+m) (cs++ws)))]) ρ (upd ρ k' (.arr v)) w w:=fun v hv hrel =>
  Step.arr (some k) hfr rfl rfl rfl (Nat.le_refl _) (fun _ _ _=>rfl) (fun b e=>.inr ⟨k,_,rfl,hv,e⟩) hH' fun ok' ρ' h1 h2=>Blk.rel_mono h1 h2 (fun _ _=>rfl) hrel
 generalize e:a.eval x=vx at hx'
 cases hx' with
 | h hp =>
  rw [g1] at hp
  obtain rfl:=Option.some.inj hp
  rcases g2 with ⟨h1,rfl,rfl⟩ | ⟨g,cap,us,sp,h1,h2,h3,h4,h5,h6,h7,h8⟩
  ·rw [h1] at e g1
   rcases Nat.eq_zero_or_pos m with rfl | hm0
   ·obtain rfl:ws=[]:=List.eq_nil_of_length_eq_zero (by simpa using hws)
    exact ⟨_,_,w,_,fin _ _ _ e (XI t _ E i ht hi _ _ _ _ _ (Nat.le_refl _)),.inl rfl,stay _ g1 (.inl ⟨rfl,rfl,rfl⟩),.h (Y0 _ _ _)⟩
   ·obtain ⟨b,o0,vs,rfl,hbw,hvs,hone,hcell⟩:=hxx.resolve_left (by omega)
    have hvl:=hvs.length
    have hr0:=run_append_nil (P:=P) w t o.type E i zv ht hi hz ⟨b,o0,none⟩ m cx vs (by omega) (fun j u hj=>by rw [addr_add]; exact hcell j u hj) hm0 (by omega) (by simp only [Nat.zero_add] at hb; omega)
    rw [ta] at hr0
    have hge:=grownCap_ge w m 0 E
    have hle:=grownCap_le_maxLen w m 0 E (by unfold maxLen; omega)
    refine ⟨_,_,_,_,fin _ _ _ e hr0,.inl rfl,Step.arr (l:=.arr (.slice (some ⟨w.heap.size,0,none⟩) m (grownCap w m 0 E))) (some k) hfr rfl rfl rfl (by simp) (fun b hb _=>Below.heap_alloc w.drew _ _ hb) (fun b e=>by simp only [Loc.bl] at e; subst e; exact .inl ⟨Nat.le_refl _,by simp⟩) hH' fun ok' ρ' h1 h2=>.inr ⟨w.heap.size,_,vs,_,by simp,by omega,hle,heap_alloc_new w.drew _,?_,by simp; omega,hone,by simpa using hvs.mono h1 h2⟩,?_⟩
    ·simp only [List.length_append,List.size_toArray,Array.length_toList,size_zeroCells,hzs,hvl,hws,← Nat.add_mul]
     congr 1; omega
    ·exact .h (Y0 _ _ _)
  ·rw [h1] at e g1
   have h9:=h8.length
   have holds:∀ j u,us[j]?=some u→w.cell? ((⟨g,0,none⟩:Addr).add j)=some u:=fun j u hj=>by
    rw [addr_add,Nat.zero_add,World.cell?,h4]
    simp [List.getElem?_append_left (List.getElem?_eq_some_iff.1 hj).1,hj]
   rcases Nat.eq_zero_or_pos m with rfl | hm0
   ·obtain rfl:ws=[]:=List.eq_nil_of_length_eq_zero (by simpa using hws)
    exact ⟨_,_,w,_,fin _ _ _ e (XI t _ E i ht hi _ _ _ _ _ h2),.inl rfl,stay _ g1 (.inr ⟨g,cap,us,sp,rfl,h2,h3,h4,h5,h6,h7,by simpa using h8⟩),.h (Y0 _ _ _)⟩
   ·obtain ⟨b,o0,vs,rfl,hbw,hvs,hone,hcell⟩:=hxx.resolve_left (by omega)
    have hvl:=hvs.length
    have hnews:∀ j u,vs[j]?=some u→w.cell? ((⟨b,o0,none⟩:Addr).add j)=some u:=fun j u hj=>by rw [addr_add]; exact hcell j u hj
    have hlen:(us++vs).length=(n+m) * i.size:=by rw [List.length_append,h6,hvl,hws,Nat.add_mul]
    by_cases hroom:n+m≤cap
    ·have hfit:n * i.size+vs.length≤(us++sp).toArray.size:=by
       rw [List.size_toArray,h5,hvl,hws,← Nat.add_mul]; exact Nat.mul_le_mul_right _ hroom
     have hr0:=run_append_room (P:=P) w t o.type E i ht hi g n cap (us++sp).toArray h4 ⟨b,o0,none⟩ m cx vs (by omega) hnews (List.all_eq_true.1 hone) hroom hfit
     have htake:(us++sp).take (n * i.size)=us:=by rw [← h6]; exact List.take_left
     simp only [htake] at hr0
     refine ⟨_,_,_,_,fin _ _ _ e hr0,.inl rfl,Step.arr (l:=.arr (.slice (some ⟨g,0,none⟩) (n+m) cap)) (some k) hfr rfl rfl rfl (by simp) (fun b hb hn=>setRow_other w g b _ fun e=>hn k _ rfl g1 (by rw [e]; rfl)) (fun b e=>.inr ⟨k,_,rfl,g1,e⟩) hH' fun ok' ρ' h1 h2=>.inr ⟨g,cap,us++vs,(us++sp).drop (n * i.size+vs.length),rfl,hroom,h3,setRow_heap w g _ _ _ _ h4,?_,hlen,?_,(h8.mono h1 h2).append (hvs.mono h1 h2)⟩,.h (Y0 _ _ _)⟩
     ·rw [List.length_append,hlen,List.length_drop,h5,hvl,hws,← Nat.add_mul]
      have:=Nat.mul_le_mul_right i.size hroom
      omega
     ·rw [List.all_append,h7,hone]; rfl
    ·have hr0:=run_append_grow (P:=P) w t o.type E i zv ht hi hz ⟨g,0,none⟩ n cap us h6 holds ⟨b,o0,none⟩ m cx vs (by omega) hnews (by omega) (by omega) (growslice_fits (by omega) hb)
     rw [List.append_toArray,ta] at hr0
     have hge:=grownCap_ge w (n+m) cap E
     have hle:=grownCap_le_maxLen w (n+m) cap E (by unfold maxLen; omega)
     refine ⟨_,_,_,_,fin _ _ _ e hr0,.inl rfl,Step.arr (l:=.arr (.slice (some ⟨w.heap.size,0,none⟩) (n+m) (grownCap w (n+m) cap E))) (some k) hfr rfl rfl rfl (by simp) (fun b hb _=>Below.heap_alloc w.drew _ _ hb) (fun b e=>by simp only [Loc.bl] at e; subst e; exact .inl ⟨Nat.le_refl _,by simp⟩) hH' fun ok' ρ' h1 h2=>.inr ⟨w.heap.size,_,us++vs,_,rfl,hge,hle,heap_alloc_new w.drew _,?_,hlen,?_,(h8.mono h1 h2).append (hvs.mono h1 h2)⟩,.h (Y0 _ _ _)⟩
     ·simp only [List.length_append,List.size_toArray,Array.length_toList,size_zeroCells,hzs] at hlen ⊢
      rw [hlen,← Nat.add_mul]
      congr 1; omega
     ·rw [List.all_append,h7,hone]; rfl
set_option maxHeartbeats 1000000 in
theorem Znx (k':Nat) {N:Nat} [hS:Sl P t E z bytes] (hop:o.op=.call { callee:=.builtin .append,args:=#[x,y],argTypes:=#[t,t] }) (hx:ev sl x=some (.s k 0 n z)) (hy:ev sl y=some uy) (hH:look H k=some (some (.arr E z N cs))) (hsrc:Zki H uy=some (m,ws)) (hws:ws.length=m * z)
   (hN:0<N) (hm:n+m≤N) (hkk:(!Nat.beq k k')=true):OpD P o H sl k' 1 (.h k') [(k,none),(k',some (.arr E z (n+m) (cs.take (n * z)++ws)))]:=fun B a w ρ hs hr hfr=>by
 have hfr:=hfr k' (Nat.le_refl _) (by omega)
 have hkk:k≠k':=fun e=>by subst e; simp at hkk
 obtain ⟨i,zv,hi,hz,rfl,rfl,hzs⟩:=hS.el
 have ht:=hS.un
 obtain ⟨px,cx,hv,hmc,hxx⟩:=Zfe hr hsrc (Zp hs hy)
 have hx':=Zp hs hx
 obtain ⟨l,g1,g2⟩:=hr.rel _ _ hH
 have fin:∀ (v v':Value) (w':World),a.eval x=v→(Builtin.append_ #[t,t] o.type #[v,.slice px m cx]).run P w=.ok v' w'→(execOp a.eval o).run P w=.ok (.value v') w':=fun v v' w' e hrun=>by
  unfold execOp; rw [hop]
  simp [resolve,invoke,builtin,e,hv,hrun]
 have hH':∀ k0,some k=some k0→k0≠k'∧∃ blk,look H k0=some (some blk):=fun k0 e=>by cases e; exact ⟨hkk,_,hH⟩
 generalize e:a.eval x=vx at hx'
 cases hx' with
 | s0 hp hc =>
  rw [g1] at hp
  obtain rfl:=Option.some.inj hp
  rcases g2 with ⟨h1,rfl,rfl⟩ | ⟨g,cap,us,sp,h1,h2,h3,h4,h5,h6,h7,h8⟩
  ·omega
  ·cases h1; omega
 | s hp hl hcap =>
  rw [g1] at hp
  obtain rfl:=Option.some.inj hp
  rcases g2 with ⟨h1,rfl,rfl⟩ | ⟨g,cap,us,sp,h1,h2,h3,h4,h5,h6,h7,h8⟩
  ·cases h1
  ·have q:=h1
   simp only [Value.slice.injEq,Option.some.injEq,Addr.mk.injEq,and_true] at q
   obtain ⟨q1,q2,q3⟩:=q
   obtain rfl:=q1.symm
   obtain rfl:=q2.symm
   obtain rfl:=q3.symm
   clear h1
   have h9:=h8.length
   have hus:us=us.take (n * i.size)++us.drop (n * i.size):=(List.take_append_drop _ _).symm
   have hnl:n * i.size≤us.length:=by rw [h6]; exact Nat.mul_le_mul_right _ (by omega)
   have ht1:RVs w (okb B w ρ) ρ (cs.take (n * i.size)) (us.take (n * i.size)):=h8.take _
   have ho1:(us.take (n * i.size)).all Value.oneCell'=true:=List.all_eq_true.2 fun x hx=>List.all_eq_true.1 h7 x (List.mem_of_mem_take hx)
   rw [Nat.zero_mul] at e
   rcases Nat.eq_zero_or_pos m with rfl | hm0
   ·obtain rfl:ws=[]:=List.eq_nil_of_length_eq_zero (by simpa using hws)
    refine ⟨_,_,w,_,fin _ _ _ e (XI t _ E i ht hi _ _ _ _ _ (by omega)),.inl rfl,Step.arr (l:=.arr (.slice (some ⟨g,0,none⟩) n cap)) (some k) hfr rfl rfl rfl (Nat.le_refl _) (fun _ _ _=>rfl) (fun b e=>.inr ⟨k,_,rfl,g1,e⟩) hH' fun ok' ρ' h1 h2=>.inr ⟨g,cap,us.take (n * i.size),us.drop (n * i.size)++sp,rfl,by omega,h3,by rw [← List.append_assoc,List.take_append_drop]; exact h4,by rw [← List.append_assoc,List.take_append_drop]; exact h5,by rw [List.length_take]; simpa using Nat.min_eq_left hnl,ho1,by rw [List.append_nil]; exact ht1.mono h1 h2⟩,.h (Y0 _ _ _)⟩
   ·obtain ⟨b,o0,vs,rfl,hbw,hvs,hone,hcell⟩:=hxx.resolve_left (by omega)
    have hvl:=hvs.length
    have hnews:∀ j u,vs[j]?=some u→w.cell? ((⟨b,o0,none⟩:Addr).add j)=some u:=fun j u hj=>by rw [addr_add]; exact hcell j u hj
    have hlen:(us.take (n * i.size)++vs).length=(n+m) * i.size:=by rw [List.length_append,List.length_take,Nat.min_eq_left hnl,hvl,hws,Nat.add_mul]
    have hroom:n+m≤cap:=by omega
    have hfit:n * i.size+vs.length≤(us++sp).toArray.size:=by
     rw [List.size_toArray,h5,hvl,hws,← Nat.add_mul]; exact Nat.mul_le_mul_right _ hroom
    have hr0:=run_append_room (P:=P) w t o.type E i ht hi g n cap (us++sp).toArray h4 ⟨b,o0,none⟩ m cx vs (by omega) hnews (List.all_eq_true.1 hone) hroom hfit
    have htake:(us++sp).take (n * i.size)=us.take (n * i.size):=List.take_append_of_le_length hnl
    simp only [htake] at hr0
    refine ⟨_,_,_,_,fin _ _ _ e hr0,.inl rfl,Step.arr (l:=.arr (.slice (some ⟨g,0,none⟩) (n+m) cap)) (some k) hfr rfl rfl rfl (by simp) (fun b hb hn=>setRow_other w g b _ fun e=>hn k _ rfl g1 (by rw [e]; rfl)) (fun b e=>.inr ⟨k,_,rfl,g1,e⟩) hH' fun ok' ρ' h1 h2=>.inr ⟨g,cap,us.take (n * i.size)++vs,(us++sp).drop (n * i.size+vs.length),rfl,hroom,h3,setRow_heap w g _ _ _ _ h4,?_,hlen,?_,(ht1.mono h1 h2).append (hvs.mono h1 h2)⟩,.h (Y0 _ _ _)⟩
    ·rw [List.length_append,hlen,List.length_drop,h5,hvl,hws,← Nat.add_mul]
     have:=Nat.mul_le_mul_right i.size hroom
     omega
    ·rw [List.all_append,ho1,hone]; rfl
theorem Znw (k':Nat) [hS:Sl P t E z bytes] (hop:o.op=.call { callee:=.builtin .append,args:=#[x,y],argTypes:=#[t,t] }) (hx:ev sl x=some (.d (.c (.slice none 0 0)))) (hy:ev sl y=some uy) (hsrc:Zki H uy=some (m,ws)) (hws:ws.length=m * z)
   (hb:m * bytes≤140737488355328) (hm:m≤9223372036854775807):OpD P o H sl k' 1 (.h k') [(k',some (.arr E z m ws))]:=fun B a w ρ hs hr hfr=>by
 have hfr:=hfr k' (Nat.le_refl _) (by omega)
 obtain ⟨i,zv,hi,hz,rfl,rfl,hzs⟩:=hS.el
 have ht:=hS.un
 obtain ⟨px,cx,hv,hmc,hxx⟩:=Zfe hr hsrc (Zp hs hy)
 have e:=ZbM (Zp hs hx)
 have fin:∀ (v':Value) (w':World),(Builtin.append_ #[t,t] o.type #[.slice none 0 0,.slice px m cx]).run P w=.ok v' w'→(execOp a.eval o).run P w=.ok (.value v') w':=fun v' w' hrun=>by
  unfold execOp; rw [hop]
  simp [resolve,invoke,builtin,e,hv,hrun]
 rcases Nat.eq_zero_or_pos m with rfl | hm0
 ·obtain rfl:ws=[]:=List.eq_nil_of_length_eq_zero (by simpa using hws)
  exact ⟨_,_,w,_,fin _ _ (XI t _ E i ht hi _ _ _ _ _ (Nat.le_refl _)),.inl rfl,Step.arr (l:=.arr (.slice none 0 0)) none hfr rfl rfl rfl (Nat.le_refl _) (fun _ _ _=>rfl) (fun b e=>by cases e) (by simp) fun ok' ρ' h1 h2=>.inl ⟨rfl,rfl,rfl⟩,.h (Y0 _ _ _)⟩
 ·obtain ⟨b,o0,vs,rfl,hbw,hvs,hone,hcell⟩:=hxx.resolve_left (by omega)
  have hvl:=hvs.length
  have hr0:=run_append_nil (P:=P) w t o.type E i zv ht hi hz ⟨b,o0,none⟩ m cx vs (by omega) (fun j u hj=>by rw [addr_add]; exact hcell j u hj) hm0 (by omega) (by omega)
  rw [ta] at hr0
  have hge:=grownCap_ge w m 0 E
  have hle:=grownCap_le_maxLen w m 0 E (by unfold maxLen; omega)
  refine ⟨_,_,_,_,fin _ _ hr0,.inl rfl,Step.arr (l:=.arr (.slice (some ⟨w.heap.size,0,none⟩) m (grownCap w m 0 E))) none hfr rfl rfl rfl (by simp) (fun b hb _=>Below.heap_alloc w.drew _ _ hb) (fun b e=>by simp only [Loc.bl] at e; subst e; exact .inl ⟨Nat.le_refl _,by simp⟩) (by simp) fun ok' ρ' h1 h2=>.inr ⟨w.heap.size,_,vs,_,rfl,by omega,hle,heap_alloc_new w.drew _,?_,by omega,hone,hvs.mono h1 h2⟩,?_⟩
  ·simp only [List.length_append,List.size_toArray,Array.length_toList,size_zeroCells,hzs,hvl,hws,← Nat.add_mul]
   congr 1; omega
  ·exact .h (Y0 _ _ _)
end
end Go.Proofs.YtkcmgbbopedacaaGreatDoor
namespace Go.Proofs.YtkcmgbbopedacaaGreatDoor
open Go.RowKit
attribute [local simp] Sem.run_bind Sem.run_pure Result.andThen_ok
theorem ZjO {w:World} {ok:Nat→Prop} {ρ:Lc} {z:Nat}:∀ {l:List (Nat × V)} {k:Nat} {vs:List (Nat × Value)} {out:List V},YB z k l=some out→l.length=vs.length→(∀ (j i:Nat) (u:V),l[j]?=some (i,u)→∃ v,vs[j]?=some (i,v)∧RV w ok ρ u v) →
   Zho z k vs=true∧RVs w ok ρ out (flat vs)∧(flat vs).all Value.oneCell'=true∧out.length=vs.length * z
 | [],k,[],out,h,_,_=>by simp only [YB,Option.some.injEq] at h; subst h; exact ⟨rfl,.nil,rfl,by simp⟩
 | [],k,v::vs,out,h,hl,_=>by simp at hl
 | (i,u)::l,k,[],out,h,hl,_=>by simp at hl
 | (i,u)::l,k,(i',v)::vs,out,h,hl,hr=>by
  obtain ⟨v0,h2,h3⟩:=hr 0 i u rfl
  simp only [List.getElem?_cons_zero,Option.some.injEq,Prod.mk.injEq] at h2
  obtain ⟨e1,e2⟩:=h2
  subst e1
  subst e2
  simp only [YB] at h
  cases hb:(i' == k && (Zq u).length == z && (Zq u).all cellV) with
  | false=>rw [hb] at h; cases h
  | true =>
   rw [hb,cond_true] at h
   simp only [Bool.and_eq_true,beq_iff_eq] at hb
   obtain ⟨⟨g1,g2⟩,g3⟩:=hb
   cases ho:YB z (k+1) l with
   | none=>rw [ho] at h; cases h
   | some out' =>
    rw [ho] at h
    simp only [Option.map_some,Option.some.injEq] at h
    subst h
    obtain ⟨i1,i2,i3,i4⟩:=ZjO ho (by simpa using hl) (fun j i u hj=>by
     obtain ⟨v,h9,h10⟩:=hr (j+1) i u (by simpa using hj)
     exact ⟨v,by simpa using h9,h10⟩)
    obtain ⟨h4,h5⟩:=h3.cells g3
    have hlen:=h4.length
    refine ⟨?_,h4.append i2,by rw [flat,List.all_append,h5,i3]; rfl,by simp only [List.length_append,List.length_cons,Nat.add_mul,i4,g2]; omega⟩
    simp only [Zho,Bool.and_eq_true,beq_iff_eq,g1,i1,true_and,and_true]
    rw [← Array.length_toList,hlen]; exact g2
section
variable {P:Program} {o:Oper} {H:Hp} {sl:List (Nat × V)} {u ux uy:V} {h:Hp} {x y:Operand} {T T' U E t:TypeId} {n k z off bytes m:Nat} {i:Int} {ag:Bool} {cs cs' ws:List V}
theorem ZtO {parts:Array (Nat × Operand)} {len:Nat} {l:List (Nat × V)} {B:Nat→Prop} {a:Act} {w:World} {ρ:Lc} [hS:Sl P t E z bytes] (hop:o.op=.buildSlice t len parts) (hl:evs sl parts.toList=some l) (hf:YB z 0 l=some cs) (hn:(parts.size == len && Nat.ble (len * z) 16777216 && Nat.ble len 16777216)=true) (hs:SR B sl ρ a w) :
   ∃ us,(execOp a.eval o).run P w=.ok (.value (.slice (some ⟨w.heap.size,0,none⟩) len len)) (w.alloc (.cells us.toArray E))∧RVs w (okb B w ρ) ρ cs us∧us.all Value.oneCell'=true∧us.length=len * z:=by
 simp only [Bool.and_eq_true,beq_iff_eq,Nat.ble_eq] at hn
 obtain ⟨⟨rfl,hn⟩,-⟩:=hn
 obtain ⟨g1,g2⟩:=Zgx hs hl
 obtain ⟨h1,h2,h3,h4⟩:=ZjO hf (vs:=parts.toList.map fun p=>(p.1,a.eval p.2)) (by rw [g1]; simp) g2
 have hr:=ZoJ (P:=P) (w:=w) hS (parts.map fun p=>(p.1,a.eval p.2)) (by simpa using h1) (by simpa using hn)
 simp only [Array.size_map] at hr
 have e:(parts.map fun p=>(p.1,a.eval p.2)).toList=parts.toList.map fun p=>(p.1,a.eval p.2):=by simp
 rw [e] at hr
 refine ⟨_,?_,h2,h3,by rw [h2.length,h4]; simp⟩
 unfold execOp; rw [hop]
 simp only [Sem.run_bind,hr,Result.andThen_ok,Sem.run_pure]
theorem ZxT (k:Nat) {parts:Array (Nat × Operand)} {len:Nat} {l:List (Nat × V)} [hS:Sl P t E z bytes] (hop:o.op=.buildSlice t len parts) (hl:evs sl parts.toList=some l) (hf:YB z 0 l=some cs) (hn:(parts.size == len && Nat.ble (len * z) 16777216 && Nat.ble len 16777216)=true):OpD P o H sl k 1 (.h k) [(k,some (.arr E z len cs))]:=fun B a w ρ hs hr hfr=>by
 have hfr:=hfr k (Nat.le_refl _) (by omega)
 obtain ⟨us,h1,h2,h3,h4⟩:=ZtO (P:=P) hop hl hf hn hs
 simp only [Bool.and_eq_true,beq_iff_eq,Nat.ble_eq] at hn
 have hmax:len≤maxLen:=by unfold maxLen; omega
 exact ⟨_,_,_,_,h1,.inl rfl,Step.new1 (l:=.arr (.slice (some ⟨w.heap.size,0,none⟩) len len)) hfr (fun _ h=>h) (.inl rfl) fun ok' ρ' hst he hnw=>.inr ⟨_,_,us,[],rfl,Nat.le_refl _,hmax,by simpa using hnw,by simpa using h4,h4,h3,h2.mono hst he⟩,.h (Y0 _ _ _)⟩
theorem Zv2 {parts:Array (Nat × Operand)} {len:Nat} {l:List (Nat × V)} {ds:List D} [hS:Sl P t E z bytes] (hop:o.op=.buildSlice t len parts) (hl:evs sl parts.toList=some l) (hf:YB z 0 l=some cs) (hn:(parts.size == len && Nat.ble (len * z) 16777216 && Nat.ble len 16777216)=true) (hd:ds.map V.d=cs):OpV P o H sl 0 0 fun u h=>u=.d (.l len ds)∧h=[]:=fun B a w ρ hup _ hs hr hfr=>by
 subst hd
 obtain ⟨us,h1,h2,h3,h4⟩:=ZtO (P:=P) hop hl hf hn hs
 unfold Oper.wp
 rw [h1]
 have hold:∀ b,b<w.heap.size→(w.alloc (.cells us.toArray E)).heap[b]?=w.heap[b]?:=fun b hb=>Below.heap_alloc _ _ _ hb
 have hst:Stl w (w.alloc (.cells us.toArray E)) (okb B w ρ) (okb B (w.alloc (.cells us.toArray E)) ρ):=fun b ⟨hb,hB,ho⟩=>⟨⟨by simp; omega,hB,ho⟩,hold b hb⟩
 refine ⟨_,_,[],ρ,rfl,⟨rfl,rfl⟩,⟨rfl,rfl,rfl,by simp,fun _ _ h=>h,fun k l h=>.inl h,fun b hb _=>hold b hb,fun k hk=>by simp [look] at hk,fun k blk hk=>by simp [look] at hk,fun k k' blk blk' l l' b hk=>by simp [look] at hk⟩,?_⟩
 refine .d (.l (Nat.le_refl _) (by simp at hn; unfold maxLen; omega) ⟨by simp,hup _ (Nat.le_refl _),fun k l hk e=>?_⟩ (h2.ofD.mono hst) fun j v hv=>?_)
 ·have:=hr.lt k l _ hk e; omega
 ·rw [World.cell?,heap_alloc_new w _]
  simp [hv]
def evo (sl:List (Nat × V)) (n:Int):Option Operand→Option V
 | none=>some (vI n)
 | some y=>ev sl y
theorem Zbt {w:World} {i:Int} {y m:Nat} {c:BoundsCode} (hm:i=(m:Int)) (h:m≤y):(Instr.sliceBound (.int .i64 i) y c).run P w=.ok m w:=by
 subst hm
 have h1:(0:Int)≤(m:Int)∧(m:Int)≤(y:Int):=by omega
 simp [Instr.sliceBound,asIntOf,h1]
theorem Zqh {lo hi:Option Operand} {il ih:Nat} {s:ByteArray} (hop:o.op=.slice t x lo hi none) (hx:ev sl x=some (vS s)) (ht:P.underlying t=some .string) (hlo:evo sl 0 lo=some (vI (il:Int))) (hhi:evo sl (s.size:Int) hi=some (vI (ih:Int))) (h1:il≤ih) (h2:ih≤s.size):OpD P o H sl 0 0 (vS (s.extract il ih)) []:=.read fun B a w ρ hs _=>by
 refine ⟨.string (s.extract il ih),?_,.d (.c rfl)⟩
 have hx':=ZbM (Zp hs hx)
 unfold execOp; rw [hop]
 cases lo with
 | none =>
  simp only [evo,Option.some.injEq,V.d.injEq,D.c.injEq,Value.int.injEq,true_and] at hlo
  have e0:il=0:=by omega
  subst e0
  cases hi with
  | none =>
   simp only [evo,Option.some.injEq,V.d.injEq,D.c.injEq,Value.int.injEq,true_and] at hhi
   have e1:ih=s.size:=by omega
   subst e1
   simp [Instr.sliceAt,Instr.slice,run_underlying ht,hx',Instr.sliceBounds]
  | some yh =>
   have hh:=ZbM (Zp hs hhi)
   simp [Instr.sliceAt,Instr.slice,run_underlying ht,hx',Instr.sliceBounds,hh,Zbt rfl h2]
 | some yl =>
  have hl:=ZbM (Zp hs hlo)
  cases hi with
  | none =>
   simp only [evo,Option.some.injEq,V.d.injEq,D.c.injEq,Value.int.injEq,true_and] at hhi
   have e1:ih=s.size:=by omega
   subst e1
   simp [Instr.sliceAt,Instr.slice,run_underlying ht,hx',Instr.sliceBounds,hl,Zbt rfl h1]
  | some yh =>
   have hh:=ZbM (Zp hs hhi)
   simp [Instr.sliceAt,Instr.slice,run_underlying ht,hx',Instr.sliceBounds,hh,hl,Zbt rfl h1,Zbt rfl h2]
theorem Zik {lo hi:Option Operand} {il ih len cap:Nat} {pa:Option Addr} {B:Nat→Prop} {a:Act} {w:World} {ρ:Lc} (hS:Sl P t E z bytes) (hs:SR B sl ρ a w) (hlo:evo sl 0 lo=some (vI (il:Int))) (hhi:evo sl (len:Int) hi=some (vI (ih:Int))) (h1:il≤ih) (h2:ih≤len) (hc:len≤cap) :
   (Instr.sliceAt t (.slice pa len cap) (lo.map a.eval) (hi.map a.eval) none).run P w=.ok (.slice (if cap=il then pa else pa.map (·.add (il * z))) (ih - il) (cap - il)) w:=by
 obtain ⟨i,zv,hi',hz,rfl,rfl,hzs⟩:=hS.el
 have ht:=hS.un
 have h3:ih≤cap:=Nat.le_trans h2 hc
 cases lo with
 | none =>
  simp only [evo,Option.some.injEq,V.d.injEq,D.c.injEq,Value.int.injEq,true_and] at hlo
  have e0:il=0:=by omega
  subst e0
  cases hi with
  | none =>
   simp only [evo,Option.some.injEq,V.d.injEq,D.c.injEq,Value.int.injEq,true_and] at hhi
   have e1:ih=len:=by omega
   subst e1
   simp [Instr.sliceAt,Instr.slice,run_underlying ht,Instr.sliceBounds,sizeOf,typeInfo,hi']
  | some yh =>
   have hh:=ZbM (Zp hs hhi)
   simp [Instr.sliceAt,Instr.slice,run_underlying ht,Instr.sliceBounds,hh,Zbt rfl h3,sizeOf,typeInfo,hi']
 | some yl =>
  have hl:=ZbM (Zp hs hlo)
  cases hi with
  | none =>
   simp only [evo,Option.some.injEq,V.d.injEq,D.c.injEq,Value.int.injEq,true_and] at hhi
   have e1:ih=len:=by omega
   subst e1
   simp [Instr.sliceAt,Instr.slice,run_underlying ht,Instr.sliceBounds,hl,Zbt rfl h1,sizeOf,typeInfo,hi']
  | some yh =>
   have hh:=ZbM (Zp hs hhi)
   simp [Instr.sliceAt,Instr.slice,run_underlying ht,Instr.sliceBounds,hh,hl,Zbt rfl h1,Zbt rfl h3,sizeOf,typeInfo,hi']
theorem Zqv {lo hi:Option Operand} {il ih len:Nat} {xs ys:List D} [hS:Sl P t E z bytes] (hop:o.op=.slice t x lo hi none) (hx:ev sl x=some (.d (.l len xs))) (hlo:evo sl 0 lo=some (vI (il:Int))) (hhi:evo sl (len:Int) hi=some (vI (ih:Int))) (h1:il≤ih) (h2:ih≤len) (hd:(xs.drop (il * z)).take ((ih - il) * z)=ys):OpD P o H sl 0 0 (.d (.l (ih - il) ys)) []:=.read fun B a w ρ hs _=>by
 subst hd
 have hx':=Zp hs hx
 unfold execOp; rw [hop]
 generalize e:a.eval x=vx at hx'
 cases hx' with
 | d hx' =>
  cases hx' with
  | nil p c =>
   have hr:=Zik (P:=P) (pa:=p) (cap:=c) hS hs hlo hhi h1 h2 (Nat.zero_le _)
   obtain rfl:ih=0:=by omega
   obtain rfl:il=0:=by omega
   simp only [Sem.run_bind,e,Option.map_none,hr,Result.andThen_ok,Sem.run_pure]
   refine ⟨_,rfl,?_⟩
   simp only [Nat.zero_mul,List.drop_nil,List.take_nil,Nat.sub_zero]
   exact .d (.nil _ _)
  | l hc hml hok hxs hcell =>
   rename_i cap b o0 vs
   have hr:=Zik (P:=P) (pa:=some ⟨b,o0,none⟩) hS hs hlo hhi h1 h2 hc
   simp only [Sem.run_bind,e,Option.map_none,hr,Result.andThen_ok,Sem.run_pure]
   refine ⟨_,rfl,.d ?_⟩
   by_cases hci:cap=il
   ·have e1:ih - il=0:=by omega
    rw [e1]; simp only [Nat.zero_mul,List.take_zero]; exact .nil _ _
   ·rw [if_neg hci]
    simp only [Option.map_some,addr_add]
    refine .l (by omega) (by omega) hok ((hxs.drop _).take _) fun j v hv=>?_
    rw [List.getElem?_take] at hv
    split at hv
    ·rw [Nat.add_assoc]; exact hcell _ _ (by simpa using hv)
    ·cases hv
theorem ZpY {α:Type} {f:α→List D} {lo hi:Option Operand} {il ih:Nat} {xs ys:List α} [hS:Sl P t E z bytes] (hop:o.op=.slice t x lo hi none) (hx:ev sl x=some (.d (lst f xs))) (hlo:evo sl 0 lo=some (vI (il:Int))) (hhi:evo sl (xs.length:Int) hi=some (vI (ih:Int))) (h1:il≤ih) (h2:ih≤xs.length) (hf:∀ a,(f a).length=z) (hd:(xs.drop il).take (ih - il)=ys):OpD P o H sl 0 0 (.d (lst f ys)) []:=by
 subst hd
 have hl:((xs.drop il).take (ih - il)).length=ih - il:=by simp; omega
 have:=Zqv (P:=P) (H:=H) (ys:=((xs.drop il).take (ih - il)).flatMap f) hop hx hlo hhi h1 h2 (by rw [Zg0 hf,Zfb hf])
 unfold lst
 rw [hl]; exact this
theorem Zp8 {lo hi:Option Operand} {il ih len:Nat} [hS:Sl P t E z bytes] (hop:o.op=.slice t x lo hi none) (hx:ev sl x=some (.h k)) (hH:look H k=some (some (.arr E z len cs))) (hlo:evo sl 0 lo=some (vI (il:Int))) (hhi:evo sl (len:Int) hi=some (vI (ih:Int))) (h1:il≤ih) (h2:ih≤len):OpD P o H sl 0 0 (.s k il (ih - il) z) []:=.read fun B a w ρ hs hr=>by
 have hx':=Zp hs hx
 obtain ⟨l,g1,g2⟩:=hr.rel _ _ hH
 unfold execOp; rw [hop]
 generalize e:a.eval x=vx at hx'
 cases hx' with
 | h hp =>
  rw [g1] at hp
  obtain rfl:=Option.some.inj hp
  rcases g2 with ⟨h3,rfl,rfl⟩ | ⟨g,cap,us,sp,h3,h4,h5,h6,h7,h8,h9,h10⟩
  ·rw [h3] at e
   have hr:=Zik (P:=P) (pa:=none) (cap:=0) hS hs hlo hhi h1 h2 (Nat.le_refl _)
   obtain rfl:ih=0:=by omega
   obtain rfl:il=0:=by omega
   simp only [Sem.run_bind,e,Option.map_none,hr,Result.andThen_ok,Sem.run_pure]
   exact ⟨_,rfl,.s0 (by rw [h3] at g1; exact g1) (Nat.zero_le _)⟩
  ·rw [h3] at e g1
   have hr:=Zik (P:=P) (pa:=some ⟨g,0,none⟩) (cap:=cap) hS hs hlo hhi h1 h2 h4
   simp only [Sem.run_bind,e,Option.map_none,hr,Result.andThen_ok,Sem.run_pure]
   refine ⟨_,rfl,?_⟩
   by_cases hci:cap=il
   ·have e1:ih - il=0:=by omega
    have e2:cap - il=0:=by omega
    rw [e1,e2]; exact .s0 g1 (by omega)
   ·rw [if_neg hci]
    simp only [Option.map_some,addr_add,Nat.zero_add]
    exact .s g1 (by omega) h4
theorem Zqf {s:ByteArray} {b:UInt8} (hop:o.op=.index t x y) (hx:ev sl x=some (vS s)) (hy:ev sl y=some (vI i)) (ht:P.underlying t=some .string) (hm:i=(m:Int)) (hb:s[m]?=some b):OpD P o H sl 0 0 (.d (.c (.int .u8 b.toNat))) []:=.read fun B a w ρ hs _=>by
 subst hm
 have hx':=ZbM (Zp hs hx)
 have hy':=ZbM (Zp hs hy)
 refine ⟨_,?_,.d (.c rfl)⟩
 unfold execOp; rw [hop]
 simp [Instr.index,hx',hy',asIntOf,run_underlying ht,hb]
theorem ZlE {off:Nat} (hop:o.op=.nilCheck x) (hx:ev sl x=some (.p k off)):OpD P o H sl 0 0 (.p k off) []:=.read fun B a w ρ hs _=>by
 have hx':=Zp hs hx
 unfold execOp; rw [hop]
 generalize e:a.eval x=vx at hx'
 cases hx' with
 | p hp=>exact ⟨_,by simp [e],.p hp⟩
theorem Zne {k1 k2:IntKind} {a z:Int} {T1 T2:TypeId} (hop:o.op=.convert T1 T2 x) (hx:ev sl x=some (.d (.c (.int k1 a)))) (h1:P.underlying T1=some (.int k1)) (h2:P.underlying T2=some (.int k2)) (hz:k2.wrap a=z):OpD P o H sl 0 0 (.d (.c (.int k2 z))) []:=.read fun B a w ρ hs _=>by
 subst hz
 have hx':=ZbM (Zp hs hx)
 refine ⟨_,?_,.d (.c rfl)⟩
 unfold execOp; rw [hop]
 simp [convert,hx',run_underlying h1,run_underlying h2,Conv.intToInt]
theorem Zr0 {kk:IntKind} {a z:Int} (hop:o.op=.unOp .neg T x) (hx:ev sl x=some (.d (.c (.int kk a)))) (hz:kk.wrap (-a)=z):OpD P o H sl 0 0 (.d (.c (.int kk z))) []:=.read fun B a w ρ hs _=>by
 subst hz
 have hx':=ZbM (Zp hs hx)
 refine ⟨_,?_,.d (.c rfl)⟩
 unfold execOp; rw [hop]
 simp [hx',Op.unary,Op.intArith]
theorem ZrN {kk:IntKind} {a b:Int} {ts:Array TypeId} (hop:o.op=.call { callee:=.builtin .min,args:=#[x,y],argTypes:=ts }) (hx:ev sl x=some (.d (.c (.int kk a)))) (hy:ev sl y=some (.d (.c (.int kk b)))):OpD P o H sl 0 0 (.d (.c (.int kk (min a b)))) []:=.read fun B a w ρ hs _=>by
 have hx':=ZbM (Zp hs hx)
 have hy':=ZbM (Zp hs hy)
 refine ⟨_,?_,.d (.c rfl)⟩
 unfold execOp; rw [hop]
 simp [resolve,invoke,builtin,hx',hy',Builtin.min_,Builtin.min2]
 split <;> omega
theorem ZrM {kk:IntKind} {a b:Int} {ts:Array TypeId} (hop:o.op=.call { callee:=.builtin .max,args:=#[x,y],argTypes:=ts }) (hx:ev sl x=some (.d (.c (.int kk a)))) (hy:ev sl y=some (.d (.c (.int kk b)))):OpD P o H sl 0 0 (.d (.c (.int kk (max a b)))) []:=.read fun B a w ρ hs _=>by
 have hx':=ZbM (Zp hs hx)
 have hy':=ZbM (Zp hs hy)
 refine ⟨_,?_,.d (.c rfl)⟩
 unfold execOp; rw [hop]
 simp [resolve,invoke,builtin,hx',hy',Builtin.max_,Builtin.max2]
 split <;> omega
def ccV:List V→Option (List Value)
 | []=>some []
 | .d (.c v)::r=>(ccV r).map (v::·)
 | _::_=>none
theorem ZeU {w:World} {ok:Nat→Prop} {ρ:Lc}:∀ {xs:List V} {us vs:List Value},ccV xs=some vs→RVs w ok ρ xs us→us=vs
 | [],[],vs,h,.nil=>by simp only [ccV,Option.some.injEq] at h; exact h
 | x::xs,_,vs,h,.cons (v:=v) (vs:=us) h1 h2=>by
  unfold ccV at h
  split at h
  ·rename_i e; cases e
  ·rename_i v' r e
   cases e
   cases hr:ccV xs with
   | none=>rw [hr] at h; cases h
   | some vs' =>
    rw [hr] at h
    simp only [Option.map_some,Option.some.injEq] at h
    subst h
    rw [ZbM h1,ZeU hr h2]
  ·cases h
theorem Zx5 {xs ys:List V} {vs us:List Value} {b:Bool} (hop:o.op=.binOp .eql T x y U) (hx:ev sl x=some (.a xs)) (hy:ev sl y=some (.a ys)) (hc:ccV xs=some vs) (hc':ccV ys=some us) (hg:P.eqGuardType P.depth T=false) (hq:∀ w,(Op.equalIn 10000 T (.agg vs.toArray) (.agg us.toArray)).run P w=.ok b w):OpD P o H sl 0 0 (vB b) []:=.read fun B a w ρ hs _=>by
 obtain ⟨vs',e1,h1⟩:=Zrr (Zp hs hx)
 obtain ⟨us',e2,h2⟩:=Zrr (Zp hs hy)
 obtain rfl:=ZeU hc h1
 obtain rfl:=ZeU hc' h2
 refine ⟨.bool b,?_,.d (.c rfl)⟩
 unfold execOp; rw [hop]
 simp only [e1,e2,Sem.run_bind,run_eqGuard_agg w .eql T x y _ _ hg,Result.andThen_ok,run_eql_struct,hq,Sem.run_pure]
theorem Zye {xs ys:List V} {vs us:List Value} {b:Bool} (hop:o.op=.binOp .neq T x y U) (hx:ev sl x=some (.a xs)) (hy:ev sl y=some (.a ys)) (hc:ccV xs=some vs) (hc':ccV ys=some us) (hg:P.eqGuardType P.depth T=false) (hq:∀ w,(Op.equalIn 10000 T (.agg vs.toArray) (.agg us.toArray)).run P w=.ok b w):OpD P o H sl 0 0 (vB (!b)) []:=.read fun B a w ρ hs _=>by
 obtain ⟨vs',e1,h1⟩:=Zrr (Zp hs hx)
 obtain ⟨us',e2,h2⟩:=Zrr (Zp hs hy)
 obtain rfl:=ZeU hc h1
 obtain rfl:=ZeU hc' h2
 refine ⟨.bool (!b),?_,.d (.c rfl)⟩
 unfold execOp; rw [hop]
 simp only [e1,e2,Sem.run_bind,run_eqGuard_agg w .neq T x y _ _ hg,Result.andThen_ok,run_neq_struct,hq,Sem.run_pure]
theorem Zsb {n0:Nat} (hop:o.op=.store T x y) (hx:ev sl x=some (.e k off)) (hy:ev sl y=some u) (hH:look H k=some (some (.arr E z n0 cs))) (hT:Ty P T n ag) (hl:off+n≤cs.length) (hl':((Zq u).length == n && (Zq u).all cellV)=true) (hpos:0<n) (hc:stV off (Zq u) cs=cs') :
   OpD P o H sl 0 0 .un [(k,some (.arr E z n0 cs'))]:=fun B a w ρ hs hr _=>by
 subst hc
 simp only [Bool.and_eq_true,beq_iff_eq] at hl'
 obtain ⟨hl2,hl3⟩:=hl'
 obtain ⟨l,h1,h2⟩:=hr.rel _ _ hH
 cases l with
 | tr _ _=>exact h2.elim
 | box v=>exact h2.elim
 | arr v =>
  rcases h2 with ⟨-,-,rfl⟩ | ⟨g,cap,us,sp,rfl,h3,h4,h5,h6,h7,h8,h9⟩
  ·simp at hl; omega
  ·obtain ⟨h10,h11⟩:=(Zp hs hy).cells hl3
   have h12:=h9.length
   have h13:=h10.length
   have hst:=ZkT (P:=P) (n:=n) (off:=off) (vs:=(a.eval y).cells.toList) (v:=a.eval y) (c:=us++sp) hT h5 (by simp) (by rw [List.length_append]; omega) (by rw [h13]; exact hl2) h11
   have happ:stL off (a.eval y).cells.toList (us++sp)=stL off (a.eval y).cells.toList us++sp:=by
    rw [Zax _ _ _ (by rw [List.length_append]; omega),Zax _ _ _ (by omega),List.take_append_of_le_length (by omega),List.drop_append_of_le_length (by omega)]
    simp only [List.append_assoc]
   have hsl:(stL off (a.eval y).cells.toList us).length=us.length:=by
    rw [Zax _ _ _ (by omega)]; simp only [List.length_append,List.length_take,List.length_drop]; omega
   refine ⟨.skip,undef,w.setRow g (stL off (a.eval y).cells.toList (us++sp)).toArray,ρ,?_,.inr ⟨rfl,rfl⟩,Step.set1 (b:=g) h1 hH rfl (by simp) rfl rfl rfl (fun j hj=>setRow_other w g j _ hj) fun ok' hs'=>.inr ⟨g,cap,stL off (a.eval y).cells.toList us,sp,rfl,h3,h4,?_,?_,?_,ZgH off h11 h8,(ZgC off h10 h9).mono hs' (fun _ _ h=>h)⟩,.un⟩
   ·unfold execOp; rw [hop]
    have e:a.eval x=.pointer (some ⟨g,off,none⟩):=by
     have hx':=Zp hs hx
     generalize a.eval x=vx at hx'
     cases hx' with
     | e hp =>
      rw [h1] at hp
      simp only [Option.some.injEq,Loc.arr.injEq,Value.slice.injEq,Addr.mk.injEq,and_true] at hp
      rw [hp.1]
    simp [e,Instr.storeAt,Instr.sureAddr,hst]
   ·have:=setRow_heap w g _ (stL off (a.eval y).cells.toList (us++sp)).toArray _ _ h5
    rw [this,happ]
   ·rw [List.length_append,hsl,← List.length_append]; exact h6
   ·rw [hsl]; exact h7
theorem ZhJ {α:Type} {f:α→List D} {xs ys:List α} (k':Nat) [hS:Sl P t E z bytes] (hop:o.op=.call { callee:=.builtin .append,args:=#[x,y],argTypes:=#[t,t] }) (hx:ev sl x=some (.h k)) (hy:ev sl y=some (.d (lst f ys))) (hH:look H k=some (some (YY E z f xs))) (hf:∀ a,(f a).length=z)
   (hb:(xs.length+ys.length) * bytes≤140737488355328) (hm:xs.length+ys.length≤9223372036854775807) (hkk:(!Nat.beq k k')=true):OpD P o H sl k' 1 (.h k') [(k,none),(k',some (YY E z f (xs++ys)))]:=by
 have h1:=Znz (P:=P) k' (m:=ys.length) (ws:=(ys.flatMap f).map .d) hop hx hy hH rfl (by rw [List.length_map,Zgl hf]) hb hm hkk
 unfold YY
 rw [List.length_append,List.flatMap_append,List.map_append]; exact h1
theorem Zk8 {α:Type} {f:α→List D} {ys:List α} (k':Nat) [hS:Sl P t E z bytes] (hop:o.op=.call { callee:=.builtin .append,args:=#[x,y],argTypes:=#[t,t] }) (hx:ev sl x=some (.d (.c (.slice none 0 0)))) (hy:ev sl y=some (.d (lst f ys))) (hf:∀ a,(f a).length=z)
   (hb:ys.length * bytes≤140737488355328) (hm:ys.length≤9223372036854775807):OpD P o H sl k' 1 (.h k') [(k',some (YY E z f ys))] :=
 Znw k' (m:=ys.length) (ws:=(ys.flatMap f).map .d) hop hx hy rfl (by rw [List.length_map,Zgl hf]) hb hm
end
end Go.Proofs.YtkcmgbbopedacaaGreatDoor
namespace Go.Proofs.YtkcmgbbopedacaaGreatDoor
open Go.RowKit
section
variable {P:Program} {o:Oper} {H:Hp} {sl:List (Nat × V)} {u ux uy:V} {h:Hp} {x y:Operand} {T T' U E t:TypeId} {n k z off bytes m d:Nat} {i:Int} {ag:Bool} {cs cs' ws:List V}
theorem Zh9 {zs:List Value} (hop:o.op=.alloc T) (hd:o.dst=some d) (hk:d+100=k) (hz:Zu P T zs) (h1:zs.all Value.oneCell'=true) (hcs:zs.map (fun v=>V.d (.c v))=cs):OpD P o H sl k 1 (.p k 0) [(k,some (.box T cs))]:=ZuF k hop hz h1 hcs
theorem ZrB (hop:o.op=.box T x) (hd:o.dst=some d) (hk:d+100=k) (hx:ev sl x=some u) (hc:(Zq u).all cellV=true) (hcs:Zq u=cs):OpD P o H sl k 1 (.p k 0) [(k,some (.box T cs))]:=Zyl k hop hx hc hcs
theorem ZxV {parts:Array (Nat × Operand)} {len:Nat} {l:List (Nat × V)} [hS:Sl P t E z bytes] (hop:o.op=.buildSlice t len parts) (hd:o.dst=some d) (hk:d+100=k) (hl:evs sl parts.toList=some l) (hf:YB z 0 l=some cs) (hn:(parts.size == len && Nat.ble (len * z) 16777216 && Nat.ble len 16777216)=true):OpD P o H sl k 1 (.h k) [(k,some (.arr E z len cs))]:=ZxT k hop hl hf hn
theorem ZeA {α:Type} {f:α→List D} {ys:List α} [hS:Sl P t E z bytes] (hop:o.op=.call { callee:=.builtin .append,args:=#[x,y],argTypes:=#[t,t] }) (hd:o.dst=some d) (hk:d+100=k) (hx:ev sl x=some (.d (.c (.slice none 0 0)))) (hy:ev sl y=some (.d (lst f ys))) (hf:∀ a,(f a).length=z)
 (hb:ys.length * bytes≤140737488355328) (hm:ys.length≤9223372036854775807):OpD P o H sl k 1 (.h k) [(k,some (YY E z f ys))]:=Zk8 k hop hx hy hf hb hm
theorem ZhV {α:Type} {f:α→List D} {xs ys:List α} {k':Nat} [hS:Sl P t E z bytes] (hop:o.op=.call { callee:=.builtin .append,args:=#[x,y],argTypes:=#[t,t] }) (hd:o.dst=some d) (hk:d+100=k') (hx:ev sl x=some (.h k)) (hy:ev sl y=some (.d (lst f ys))) (hH:look H k=some (some (YY E z f xs))) (hf:∀ a,(f a).length=z)
 (hb:(xs.length+ys.length) * bytes≤140737488355328) (hm:xs.length+ys.length≤9223372036854775807) (hkk:(!Nat.beq k k')=true):OpD P o H sl k' 1 (.h k') [(k,none),(k',some (YY E z f (xs++ys)))]:=ZhJ k' hop hx hy hH hf hb hm hkk
end
section
variable {Γ:Cx} {k:Zcc} {sl:List (Nat × V)} {hp:Hp} {o:Oper} {ops:Array Oper} {i an d:Nat} {ts:List Nat} {r:List PI} {F:List Ft} {u v:V} {T T' E t:TypeId} {x y:Operand} {n kk k' off z m o1 bytes:Nat} {ag:Bool} {cs cs':List V}
theorem Zha {α:Type} {f:α→List D} {xs ys:List α} [hS:Sl Γ.P t E z bytes] (hop:o.op=.call { callee:=.builtin .append,args:=#[x,y],argTypes:=#[t,t] }) (hd:o.dst=some d) (hkd:d+100=k') (hx:ev (keep ts sl) x=some (.h kk)) (hy:ev (keep ts sl) y=some (.d (lst f ys))) (hH:look hp kk=some (some (YY E z f xs))) (hf:∀ a,(f a).length=z)
   (hb:(xs.length+ys.length) * bytes≤140737488355328) (hm:xs.length+ys.length≤9223372036854775807) (hkk:(!Nat.beq kk k')=true) (hw:Wt ops o (keep ts sl) true) (hdl:Nat.blt d Γ.nt=true) (hfr:ZZ hp k' 1=true) (hfo:okF ⟨⟨i,an,ts⟩,[kk],[kk,k'],k',1⟩ F=true)
   (hk:WD Γ ops k r (⟨⟨i,an,ts⟩,[kk],[kk,k'],k',1⟩::F) ⟨(d,.h k')::sl,(kk,none)::(k',some (YY E z f (xs++ys)))::hp⟩):WO Γ ops k o i an ts r F ⟨sl,hp⟩ :=
 Zy7 [kk] (ZhJ k' hop hx hy (by rw [Zge]; exact hH) hf hb hm hkk) hd hw hdl hfr hfo hk
end
section
variable {Γ:Cx} {k:Zcc} {sl:List (Nat × V)} {hp:Hp} {o:Oper} {ops:Array Oper} {i an d lo nn:Nat} {ts:List Nat} {r:List PI} {F:List Ft} {u:V}
theorem Zt6 {rest:List Oper} (hm:OpV Γ.P o hp sl lo nn fun u' h'=>u'=u∧h'=[]) (hg:o.guard=none) (hd:o.dst=some d) (hdl:Nat.blt d Γ.nt=true) (hf:ZZ hp lo nn=true) (hk:WL Γ ops rest k ⟨(d,u)::sl,hp⟩):WL Γ ops (o::rest) k ⟨sl,hp⟩:=Zz8 hm hg hd hdl hf hk
theorem ZvI (ks:List Nat) (hm:OpV Γ.P o (keep ks hp) (keep ts sl) lo nn fun u' h'=>u'=u∧h'=[]) (hd:o.dst=some d) (hw:Wt ops o (keep ts sl) true) (hdl:Nat.blt d Γ.nt=true) (hfr:ZZ hp lo nn=true) (hf:okF ⟨⟨i,an,ts⟩,ks,[],lo,nn⟩ F=true)
 (hk:WD Γ ops k r (⟨⟨i,an,ts⟩,ks,[],lo,nn⟩::F) ⟨(d,u)::sl,hp⟩):WO Γ ops k o i an ts r F ⟨sl,hp⟩:=ZtR hm hd hw hdl rfl hfr hf hk
end
theorem Zj {H:Hp} {f:List (Nat × Nat)}:∀ ds:List D,Vws H f (ds.map .d) (ds.map .d)
 | []=>.nil
 | d::ds=>.cons (.d d) (Zj ds)
theorem ZoY {B:Nat→Prop} {w:World} {ρ:Lc} {k:Nat} {v:Value} (hk:ρ k=none) (hv:∀ b,¬ (Loc.arr v).bl b) (b:Nat):okb B w (upd ρ k (.arr v)) b↔okb B w ρ b:=by
 constructor
 ·rintro ⟨h1,h2,h3⟩
  exact ⟨h1,h2,fun j l hj=>h3 j l (ZbZ hk j l hj)⟩
 ·rintro ⟨h1,h2,h3⟩
  refine ⟨h1,h2,fun j l hj=>?_⟩
  rcases Zad hj with ⟨-,rfl⟩ | hj
  ·exact hv _
  ·exact h3 j l hj
theorem Zg8 {Γ:Cx} {sl:List (Nat × V)} {hp:Hp} {ρ:Lc} {a:Act} {w:World} (hr:ZfT Γ ⟨sl,hp⟩ ρ a w) (k:Nat) (E:TypeId) (z:Nat) (hf:ZZ hp k 1=true):ZfT Γ ⟨sl,(k,some (.arr E z 0 []))::hp⟩ (upd ρ k (.arr (.slice none 0 0))) a w:=by
 have hk:ρ k=none:=Zc7 hr hf k (Nat.le_refl _) (by omega)
 have hlk:look hp k=none:=Zav hf (Nat.le_refl _) (by omega)
 have hst:Stl w w (okb Γ.B w ρ) (okb Γ.B w (upd ρ k (.arr (.slice none 0 0)))):=fun b hb=>⟨(ZoY (v:=.slice none 0 0) hk (fun _ h=>h) b).2 hb,rfl⟩
 refine ⟨hr.defers,hr.size,hr.kp,fun j l hj=>ZbZ hk j l (hr.ext0 j l hj),fun j l b hj hb=>?_,fun j l hj=>?_,hr.dom0,hr.bup,⟨fun j blk hj=>?_,fun j j' blk blk' l l' b h1 h2 h3 h4 h5 h6=>?_,fun j l b hj hb=>?_,fun e he=>⟨(ZoY (v:=.slice none 0 0) hk (fun _ h=>h) _).2 (hr.hr.gl e he).1,(hr.hr.gl e he).2⟩⟩,fun t u hu=>?_⟩
 ·rcases Zad hj with ⟨-,rfl⟩ | hj
  ·cases hb
  ·rcases hr.own j l b hj hb with h | h | ⟨k0,l0,h3,h4,h5⟩
   ·exact .inl h
   ·exact .inr (.inl h)
   ·refine .inr (.inr ⟨k0,l0,?_,h4,h5⟩)
    have:k≠k0:=fun e=>by subst e; simp only at h3; rw [hlk] at h3; cases h3
    simp only [Zo,if_neg this]; exact h3
 ·simp only [Zo]
  split
  ·simp
  ·rcases Zad hj with ⟨rfl,-⟩ | hj
   ·contradiction
   ·exact hr.dom j l hj
 ·simp only [Zo] at hj
  split at hj
  ·subst_vars
   simp only [Option.some.injEq] at hj; subst hj
   exact ⟨_,Y0 _ _ _,.inl ⟨rfl,rfl,rfl⟩⟩
  ·obtain ⟨l,h1,h2⟩:=hr.hr.rel j blk hj
   exact ⟨l,ZbZ hk _ _ h1,Blk.rel_mono hst (ZbZ hk) (fun _ _=>rfl) h2⟩
 ·rcases Zad h3 with ⟨-,rfl⟩ | h3'
  ·cases h5
  ·rcases Zad h4 with ⟨-,rfl⟩ | h4'
   ·cases h6
   ·have e1:k≠j:=fun e=>by subst e; rw [hk] at h3'; cases h3'
    have e2:k≠j':=fun e=>by subst e; rw [hk] at h4'; cases h4'
    simp only [Zo,if_neg e1] at h1
    simp only [Zo,if_neg e2] at h2
    exact hr.hr.inj j j' blk blk' l l' b h1 h2 h3' h4' h5 h6
 ·rcases Zad hj with ⟨-,rfl⟩ | hj
  ·cases hb
  ·exact hr.hr.lt j l b hj hb
 ·obtain ⟨v,h1,h2⟩:=hr.sr t u hu
  exact ⟨v,h1,h2.mono hst (ZbZ hk)⟩
theorem ZbY {Γ:Cx} {sl:List (Nat × V)} {hp:Hp} (t k:Nat) (E:TypeId) (z:Nat) (ht:look sl t=some (.d (.c (.slice none 0 0)))) (hf:ZZ hp k 1=true):Wk Γ ⟨sl,hp⟩ ⟨(t,.h k)::sl,(k,some (.arr E z 0 []))::hp⟩:=fun a w ⟨ρ,hr⟩=>by
 have h1:=Zg8 hr k E z hf
 refine ⟨_,h1.defers,h1.size,h1.kp,h1.ext0,h1.own,h1.dom,h1.dom0,h1.bup,h1.hr,fun t' u hu=>?_⟩
 simp only [Zo] at hu
 split at hu
 ·subst_vars
  simp only [Option.some.injEq] at hu; subst hu
  obtain ⟨v,h2,h3⟩:=hr.sr t' _ ht
  exact ⟨v,h2,by rw [ZbM h3]; exact .h (Y0 _ _ _)⟩
 ·exact h1.sr t' u hu
theorem Ziy {w:World} {ok:Nat→Prop} {ρ:Lc} {x:V} {v:Value} (hx:RV w ok ρ x v):∀ (o:Nat) {cs:List V} {us:List Value},RVs w ok ρ cs us→us[o]?=some v→RVs w ok ρ (cs.set o x) us
 | _,_,_,.nil,h=>by simp at h
 | 0,_,_,.cons h1 h2,h=>by
  simp only [List.getElem?_cons_zero,Option.some.injEq] at h; subst h
  exact .cons hx h2
 | o+1,_,_,.cons h1 h2,h=>.cons h1 (Ziy hx o h2 (by simpa using h))
theorem Zim {Γ:Cx} {sl:List (Nat × V)} {hp:Hp} {T:TypeId} {cs cs':List V} (b o k:Nat) (E:TypeId) (z:Nat) (hb:look hp b=some (some (.box T cs))) (hc:cs[o]?=some (.d (.c (.slice none 0 0)))) (hf:ZZ hp k 1=true) (hs:cs.set o (.h k)=cs'):Wk Γ ⟨sl,hp⟩ ⟨sl,(b,some (.box T cs'))::(k,some (.arr E z 0 []))::hp⟩:=fun a w ⟨ρ,hr⟩=>by
 subst hs
 have h1:=Zg8 hr k E z hf
 have hbk:k≠b:=fun e=>by subst e; rw [Zav hf (Nat.le_refl _) (by omega)] at hb; cases hb
 have hb1:look ((k,some (.arr E z 0 []))::hp) b=some (some (.box T cs)):=by rw [Zo,if_neg hbk]; exact hb
 have hne:∀ j x,look ((k,some (.arr E z 0 []))::hp) j=some x→x=none→look ((b,some (.box T (cs.set o (.h k))))::(k,some (.arr E z 0 []))::hp) j=some x:=fun j x hj e=>by
  rw [Zo]; split
  ·subst_vars; rw [hb1] at hj; cases hj
  ·exact hj
 refine ⟨_,h1.defers,h1.size,h1.kp,h1.ext0,fun j l c hj hc=>?_,fun j l hj=>?_,h1.dom0,h1.bup,⟨fun j blk hj=>?_,fun j j' blk blk' l l' c g1 g2=>?_,h1.hr.lt,h1.hr.gl⟩,h1.sr⟩
 ·rcases h1.own j l c hj hc with h | h | ⟨k0,l0,h3,h4,h5⟩
  ·exact .inl h
  ·exact .inr (.inl h)
  ·exact .inr (.inr ⟨k0,l0,hne k0 _ h3 rfl,h4,h5⟩)
 ·have:=h1.dom j l hj
  simp only [Zo b]
  split
  ·simp
  ·exact this
 ·simp only [Zo b] at hj
  split at hj
  ·subst_vars
   simp only [Option.some.injEq] at hj; subst hj
   obtain ⟨l,h2,h3⟩:=h1.hr.rel _ _ hb1
   refine ⟨l,h2,?_⟩
   cases l with
   | tr _ _=>exact h3.elim
   | arr v=>exact h3.elim
   | box g =>
    obtain ⟨us,h4,h5,h6⟩:=h3
    obtain ⟨v,h7,h8⟩:=h6.get hc
    refine ⟨us,h4,h5,Ziy ?_ o h6 h7⟩
    rw [ZbM h8]; exact .h (Y0 _ _ _)
  ·exact h1.hr.rel j blk hj
 ·have key:∀ j x,look ((b,some (.box T (cs.set o (.h k))))::(k,some (.arr E z 0 []))::hp) j=some (some x)→∃ y,look ((k,some (.arr E z 0 []))::hp) j=some (some y):=fun j x hj=>by
    rw [Zo] at hj; split at hj
    ·subst_vars; exact ⟨_,hb1⟩
    ·exact ⟨_,hj⟩
  obtain ⟨y,g3⟩:=key j _ g1
  obtain ⟨y',g4⟩:=key j' _ g2
  exact h1.hr.inj j j' y y' l l' c g3 g4
end Go.Proofs.YtkcmgbbopedacaaGreatDoor
namespace Go.Proofs.YtkcmgbbopedacaaGreatDoor
open Go.RowKit
section
variable {Γ:Cx} {k:Zcc} {sl:List (Nat × V)} {hp:Hp} {o:Oper} {ops:Array Oper} {i an d lo nn:Nat} {ts:List Nat} {r:List PI} {F:List Ft} {u:V}
end
section
variable {Γ:Cx} {P:Program} {ks:List Nat} {rs:List ResultVar} {Ψ:V→Hp→Prop} {st:St} {us:List V} {u:V}
theorem Xl (h1:Zi6 st rs=some us) (h2:Zja P st rs) (hp:Zgb ks st [] []=true) (h3:Vw st.hp [] (one us) u) (h4:Ψ u []):WK Γ (.fn (Zgd P ks rs Ψ)) .ret st:=ZpF (Wk.refl _ _) ⟨us,[],u,[],h1,h2,hp,h3,VH.nil,h4⟩
theorem Yn (h1:Zi6 st rs=some us) (h2:Zja P st rs) (hp:Zgb ks st [] []=true) (h3:Vw st.hp [] (one us) u) (h4:Ψ u []):WK Γ (.fn (Zgd P ks rs Ψ)) .normal st:=ZkU (Wk.refl _ _) ⟨us,[],u,[],h1,h2,hp,h3,VH.nil,h4⟩
theorem ZoK (f:List (Nat × Nat)) {h:Hp} (h1:Zi6 st rs=some us) (h2:Zja P st rs) (hp:Zgb ks st f h=true) (h3:Vw st.hp f (one us) u) (h5:VH st.hp st.hp f h) (h4:Ψ u h):WK Γ (.fn (Zgd P ks rs Ψ)) .ret st:=ZpF (Wk.refl _ _) ⟨us,f,u,h,h1,h2,hp,h3,h5,h4⟩
end
section
variable {Γ:Cx} {k:Zcc} {st:St} {ops:Array Oper} {rest:List Oper} {d:Option Tmp} {ty:TypeId} {ps:String} {af:Array Edge} {g:Option (Nat × Bool)} {gg:Nat × Bool} {T T':TypeId} {x y z:Operand} {n i an:Nat} {bo:BinOp} {uo:UnOp} {bb:Builtin} {xs:Array Operand} {ts:Array TypeId} {pa:Array (Nat × Operand)} {tl:List Nat} {r:List PI} {F:List Ft} {o:Oper} {c:Code} {e:Exit} {op:Op}
theorem Zvt (h:WK Γ k e st):WK Γ k e st:=h
theorem Zzp (h:WL Γ ops rest k st):WL Γ ops rest k st:=h
theorem Zzk (h:WO Γ ops k o i an tl r F st):WO Γ ops k o i an tl r F st:=h
end
end Go.Proofs.YtkcmgbbopedacaaGreatDoor
