/-
  Lemmas: Plain words on bounds and ranges of keys
-/
import Derived.Test.YtkcmgbbopedacaaGreatDoorPZ3
import Derived.WalkKit
set_option linter.unusedSimpArgs false
set_option linter.unusedVariables false
namespace Go.Proofs.YtkcmgbbopedacaaGreatDoor
open Go.RowKit
def AxE.ds (e:AxE):List D:=e.pre++.l e.m e.inn::e.post
mutual
inductive Vw (H:Hp) (f:List (Nat × Nat)):V→V→Prop
 | d (x:D):Vw H f (.d x) (.d x)
 | q (xs:List D):Vw H f (.q xs) (.q xs)
 | un (u:V):Vw H f u .un
 | mp {i k:Nat}:look f i=some k→Vw H f (.mp k) (.mp i)
 | fmp {k clock:Nat} {em:Array MapEntry} {es:List (Value × Value)}:(f.map (·.2)).contains k=false→look H k=some (some (.ob (.map em clock)))→em.toList.map (fun e=>(e.key,e.val))=es→Vw H f (.mp k) (.d (.m es))
 | nil:Vw H f (.d (.c (.slice none 0 0))) (.d (.l 0 []))
 | p {i k o:Nat}:look f i=some k→Vw H f (.p k o) (.p i o)
 | h {i k:Nat}:look f i=some k→Vw H f (.h k) (.h i)
 | s {i k o n z:Nat}:look f i=some k→Vw H f (.s k o n z) (.s i o n z)
 | sc {i k o n z:Nat}:look f i=some k→Vw H f (.sc k o n z) (.sc i o n z)
 | e {i k o:Nat}:look f i=some k→Vw H f (.e k o) (.e i o)
 | fh {k E z n:Nat} {cs:List V} {ds:List D}:(f.map (·.2)).contains k=false→look H k=some (some (.arr E z n cs))→Vws H f cs (ds.map .d)→Vw H f (.h k) (.d (.l n ds))
 | fs {k E z N o n:Nat} {cs:List V} {ds ds':List D}:(f.map (·.2)).contains k=false→look H k=some (some (.arr E z N cs))→Vws H f cs (ds.map .d)→o+n≤N→(ds.drop (o * z)).take (n * z)=ds'→Vw H f (.s k o n z) (.d (.l n ds'))
 | fe {k E z n o m:Nat} {cs:List V} {ds xs:List D}:(f.map (·.2)).contains k=false→look H k=some (some (.arr E z n cs))→Vws H f cs (ds.map .d)→(ds.drop o).take m=xs→Vw H f (.e k o) (.q xs)
 | fp {k o:Nat} {T:TypeId} {cs:List V} {ds xs:List D}:(f.map (·.2)).contains k=false→look H k=some (some (.box T cs))→Vws H f cs (ds.map .d)→ds.drop o=xs→Vw H f (.p k o) (.q xs)
 | hx {i k:Nat}:look f i=some k→Vw H f (.hx k) (.hx i)
 | ex {i k o:Nat}:look f i=some k→Vw H f (.ex k o) (.ex i o)
 | fx {k k2 E z E2 z2 n:Nat} {es:List AxE} {ds:List D}:(f.map (·.2)).contains k2=false→look H k2=some (some (.ax k E z E2 z2 es none))→es.length=n→es.flatMap AxE.ds=ds→Vw H f (.hx k) (.d (.l n ds))
 | a {xs ys:List V}:Vws H f xs ys→Vw H f (.a xs) (.a ys)
 | t {xs ys:List V}:Vws H f xs ys→Vw H f (.t xs) (.t ys)
 | fc {g:FuncId} {xs ys:List V}:Vws H f xs ys→Vw H f (.fc g xs) (.fc g ys)
 | ifc {t:TypeId} {x y:V}:Vw H f x y→Vw H f (.ifc t x) (.ifc t y)
inductive Vws (H:Hp) (f:List (Nat × Nat)):List V→List V→Prop
 | nil:Vws H f [] []
 | cons {x y:V} {xs ys:List V}:Vw H f x y→Vws H f xs ys→Vws H f (x::xs) (y::ys)
end
def sub (ρ:Lc) (f:List (Nat × Nat)):Lc:=fun i=>(look f i).bind ρ
theorem QG {ρ:Lc} {f:List (Nat × Nat)} {i k:Nat} (h:look f i=some k):sub ρ f i=ρ k:=by simp [sub,h]
theorem Zbc {ρ:Lc} {f:List (Nat × Nat)} {i:Nat} {l:Loc} (h:sub ρ f i=some l):∃ k,look f i=some k∧ρ k=some l:=by
 unfold sub at h
 cases e:look f i with
 | none=>simp [e] at h
 | some k=>exact ⟨k,rfl,by simpa [e] using h⟩
theorem ZaJ {α:Type} {i:Nat} {x:α}:∀ {f:List (Nat × α)},look f i=some x→(i,x) ∈ f
 | [],h=>by simp [look] at h
 | (j,y)::r,h=>by
  rw [Zo] at h
  split at h
  ·obtain rfl:j=i:=by assumption
   obtain rfl:=Option.some.inj h
   exact List.mem_cons_self
  ·exact List.mem_cons_of_mem _ (ZaJ h)
def Qs (H:Hp) (f:List (Nat × Nat)):Bool:=f.all fun e=>match look H e.2 with | some (some _)=>true | _=>false
theorem Zbg {H:Hp} {f:List (Nat × Nat)} (h:Qs H f=true) {i k:Nat} (hi:look f i=some k):∃ blk,look H k=some (some blk):=by
 have:=List.all_eq_true.1 h _ (ZaJ hi)
 simp only at this
 split at this
 ·exact ⟨_,by assumption⟩
 ·cases this
def olds:List (Nat × Nat)→Bool
 | []=>true
 | e::r=>(r.all fun x=>!Nat.beq x.2 e.2) && olds r
theorem Zgo:∀ {f:List (Nat × Nat)},olds f=true→∀ {i j k:Nat},look f i=some k→look f j=some k→i=j
 | [],_,i,j,k,h,_=>by simp [look] at h
 | (a,b)::r,h,i,j,k,h1,h2=>by
  simp only [olds,Bool.and_eq_true] at h
  have hne:∀ x,look r x=some b→False:=fun x hx=>by
   have:=List.all_eq_true.1 h.1 _ (ZaJ hx)
   simp at this
  rw [Zo] at h1 h2
  split at h1
  ·obtain rfl:=Option.some.inj h1
   split at h2
   ·subst_vars; rfl
   ·exact (hne j h2).elim
  ·split at h2
   ·obtain rfl:=Option.some.inj h2
    exact (hne i h1).elim
   ·exact Zgo h.2 h1 h2
section
variable {B:Nat→Prop} {H:Hp} {f:List (Nat × Nat)} {ρ:Lc} {w:World} {ok':Nat→Prop}
theorem InR.rd {ok:Nat→Prop} {E2 z2 m:Nat} {inn:List D} {sv:Value} {l:List Nat} (hs:∀ b,ok b→ok' b) (hl:∀ b ∈ l,ok' b):InR w ok E2 z2 m inn sv l→RD w ok' (.l m inn) sv
 | .inl ⟨h1,h2,h3,_⟩=>by subst h1 h2 h3; exact .nil _ _
 | .inr ⟨g,cap,us,sp,h1,h2,h3,h4,h5,h6,h7,h8,h9⟩=>by
  subst h1
  refine .l h2 (Nat.le_trans h2 h3) (hl g (by rw [h9]; exact List.mem_cons_self)) (h8.mono fun b hb=>⟨hs b hb,rfl⟩) fun j v hv=>?_
  rw [World.cell?,h4]
  simp [List.getElem?_append_left (List.getElem?_eq_some_iff.1 hv).1,hv]
theorem AxR.rds {ok:Nat→Prop} {E2 z2:Nat} (hs:∀ b,ok b→ok' b):∀ {i:Nat} {es:List AxE} {us:List (List Value)} {ls:List Nat},(∀ b ∈ ls,ok' b)→AxR w ok E2 z2 none i es us ls→RDs w ok' (es.flatMap AxE.ds) us.flatten
 | _,_,_,_,_,.nil i=>.nil
 | _,_,_,_,hl,.cons h1 h2 h3 h4 h5 h6=>by
  rw [List.flatMap_cons,List.flatten_cons]
  refine RDs.append ?_ (h6.rds hs fun b h=>hl b (List.mem_append_right _ h))
  exact (h1.mono fun b hb=>⟨hs b hb,rfl⟩).append (.cons ((h5 (by simp)).rd hs fun b h=>hl b (List.mem_append_left _ h)) (h2.mono fun b hb=>⟨hs b hb,rfl⟩))
mutual
theorem Vw.rv (hr:HR B H ρ w) (hs:∀ b,okb B w ρ b→ok' b) (hz:∀ k blk l b,(f.map (·.2)).contains k=false→look H k=some (some blk)→ρ k=some l→l.bl b→ok' b):∀ {x y:V} {v:Value},Vw H f x y→RV w (okb B w ρ) ρ x v→RV w ok' (sub ρ f) y v
 | _,_,_,.d x,.d h=>.d (h.mono fun b hb=>⟨hs b hb,rfl⟩)
 | _,_,_,.q xs,.q h1 h2 h3=>.q (hs _ h1) (h2.mono fun b hb=>⟨hs b hb,rfl⟩) h3
 | _,_,_,.un u,_=>.un
 | _,_,_,.mp hi,.mp h=>.mp ((QG hi).trans h)
 | _,_,_,.fmp hk hH he,h=>by
  obtain ⟨l,h1,h2⟩:=hr.rel _ _ hH
  cases h with
  | mp hp =>
   rw [h1] at hp
   obtain rfl:=Option.some.inj hp
   exact .d (.m (hz _ _ _ _ hk hH h1 rfl) h2 he)
 | _,_,_,.nil,h=>by rw [ZbM h]; exact .d (.nil _ _)
 | _,_,_,.p hi,.p h=>.p ((QG hi).trans h)
 | _,_,_,.h hi,.h h=>.h ((QG hi).trans h)
 | _,_,_,.s hi,.s h h2 h3=>.s ((QG hi).trans h) h2 h3
 | _,_,_,.s hi,.s0 h h2=>.s0 ((QG hi).trans h) h2
 | _,_,_,.sc hi,.sc h h2 h3 h4=>.sc ((QG hi).trans h) h2 h3 h4
 | _,_,_,.sc hi,.sc0=>.sc0
 | _,_,_,.e hi,.e h=>.e ((QG hi).trans h)
 | _,_,_,.fh (ds:=ds) hk hH hc,h=>by
  obtain ⟨l,h1,h2⟩:=hr.rel _ _ hH
  cases h with
  | h hp =>
   rw [h1] at hp
   obtain rfl:=Option.some.inj hp
   rcases h2 with ⟨h3,rfl,rfl⟩ | ⟨g,cap,us,sp,h3,h4,h5,h6,h7,h8,h9,h10⟩
   ·cases h3
    cases ds with
    | nil=>exact .d (.nil _ _)
    | cons=>cases hc
   ·cases h3
    have h11:=(Vws.rvs hr hs hz hc h10).ofD
    refine .d (.l h4 (Nat.le_trans h4 h5) (hz _ _ _ _ hk hH h1 rfl) h11 fun j v hv=>?_)
    rw [World.cell?,h6]
    simp [List.getElem?_append_left (List.getElem?_eq_some_iff.1 hv).1,hv]
 | _,_,_,.fs hk hH hc hl hd,h=>by
  obtain ⟨l,h1,h2⟩:=hr.rel _ _ hH
  subst hd
  cases h with
  | s0=>simp only [Nat.zero_mul,List.take_zero]; exact .d (.nil _ _)
  | s hp hl2 hc2 =>
   rw [h1] at hp
   obtain rfl:=Option.some.inj hp
   rcases h2 with ⟨h3,rfl,rfl⟩ | ⟨g,cap,us,sp,h3,h4,h5,h6,h7,h8,h9,h10⟩
   ·cases h3
   ·cases h3
    have h11:=(Vws.rvs hr hs hz hc h10).ofD
    refine .d (.l (by omega) (by omega) (hz _ _ _ _ hk hH h1 rfl) ((h11.drop _).take _) fun j v hv=>?_)
    rw [List.getElem?_take] at hv
    split at hv
    ·simp only [List.getElem?_drop] at hv
     rw [World.cell?,h6]
     simp [List.getElem?_append_left (List.getElem?_eq_some_iff.1 hv).1,hv]
    ·cases hv
 | _,_,_,.fe hk hH hc hd,h=>by
  obtain ⟨l,h1,h2⟩:=hr.rel _ _ hH
  subst hd
  cases h with
  | e hp =>
   rw [h1] at hp
   obtain rfl:=Option.some.inj hp
   rcases h2 with ⟨h3,rfl,rfl⟩ | ⟨g,cap,us,sp,h3,h4,h5,h6,h7,h8,h9,h10⟩
   ·cases h3
   ·cases h3
    have h11:=(Vws.rvs hr hs hz hc h10).ofD
    refine .q (hz _ _ _ _ hk hH h1 rfl) ((h11.drop _).take _) fun j v hv=>?_
    rw [List.getElem?_take] at hv
    split at hv
    ·simp only [List.getElem?_drop] at hv
     rw [World.cell?,h6]
     simp [List.getElem?_append_left (List.getElem?_eq_some_iff.1 hv).1,hv]
    ·cases hv
 | _,_,_,.fp hk hH hc hd,h=>by
  obtain ⟨l,h1,h2⟩:=hr.rel _ _ hH
  subst hd
  cases h with
  | p hp =>
   rw [h1] at hp
   obtain rfl:=Option.some.inj hp
   obtain ⟨us,h3,h4,h5⟩:=h2
   refine .q (hz _ _ _ _ hk hH h1 rfl) ((Vws.rvs hr hs hz hc h5).ofD.drop _) fun j v hv=>?_
   simp only [List.getElem?_drop] at hv
   exact ZgL h3 _ _ hv
 | _,_,_,.hx hi,.hx h=>.hx ((QG hi).trans h)
 | _,_,_,.ex hi,.ex h=>.ex ((QG hi).trans h)
 | _,_,_,.fx hk hH hn hd,h=>by
  obtain ⟨l,h1,h2⟩:=hr.rel _ _ hH
  subst hn hd
  cases l with
  | box b=>exact h2.elim
  | arr v=>exact h2.elim
  | tr v0 bs =>
   obtain ⟨v,h3,h4⟩:=h2
   cases h with
   | hx hp =>
    rw [h3] at hp
    simp only [Option.some.injEq,Loc.tr.injEq] at hp
    obtain ⟨rfl,-⟩:=hp
    rcases h4 with ⟨h5,rfl,-⟩ | ⟨g,cap,us,sp,ls,h5,h6,h7,h8,h9,h10,h11,rfl,h12⟩
    ·cases h5; exact .d (.nil _ _)
    ·cases h5
     have hb:∀ b ∈ g::ls,ok' b:=fun b hb=>hz _ _ _ b hk hH h1 hb
     refine .d (.l h6 (Nat.le_trans h6 h7) (hb g List.mem_cons_self) (h11.rds hs fun b h=>hb b (List.mem_cons_of_mem _ h)) fun j v hv=>?_)
     rw [World.cell?,h8]
     simp [List.getElem?_append_left (List.getElem?_eq_some_iff.1 hv).1,hv]
 | _,_,_,.a h,hv=>by
  obtain ⟨vs,rfl,h2⟩:=Zrr hv
  exact .a (Vws.rvs hr hs hz h h2)
 | _,_,_,.t h,hv=>by
  obtain ⟨vs,rfl,h2⟩:=Zxq hv
  exact .t (Vws.rvs hr hs hz h h2)
 | _,_,_,.fc h,.fc h2=>.fc (Vws.rvs hr hs hz h h2)
 | _,_,_,.ifc h,.ifc h2=>.ifc (Vw.rv hr hs hz h h2)
theorem Vws.rvs (hr:HR B H ρ w) (hs:∀ b,okb B w ρ b→ok' b) (hz:∀ k blk l b,(f.map (·.2)).contains k=false→look H k=some (some blk)→ρ k=some l→l.bl b→ok' b):∀ {xs ys:List V} {vs:List Value},Vws H f xs ys→RVs w (okb B w ρ) ρ xs vs→RVs w ok' (sub ρ f) ys vs
 | _,_,_,.nil,.nil=>.nil
 | _,_,_,.cons h1 h2,.cons h3 h4=>.cons (Vw.rv hr hs hz h1 h3) (Vws.rvs hr hs hz h2 h4)
end
theorem Zv7 {H:Hp} {f:List (Nat × Nat)}:∀ ds:List D,Vws H f (ds.map .d) (ds.map .d)
 | []=>.nil
 | d::ds=>.cons (.d d) (Zv7 ds)
theorem Zx9 {H:Hp} {f:List (Nat × Nat)} (ag:Bool) (ds:List D):Vw H f (mvV ag ds) (mvV ag ds):=by
 cases ag
 ·match ds with
  | []=>exact .un _
  | [d]=>exact .d d
  | _::_::_=>exact .un _
 ·exact .a (Zv7 ds)
theorem Ztg {H:Hp} {f:List (Nat × Nat)} (ag:Bool):∀ es:List (Int × List D),Vws H f (es.map fun e=>mvV ag e.2) (es.map fun e=>mvV ag e.2)
 | []=>.nil
 | e::es=>.cons (Zx9 ag e.2) (Ztg ag es)
inductive Vb (H:Hp) (f:List (Nat × Nat)):Blk→Blk→Prop
 | box {T:TypeId} {xs ys:List V}:Vws H f xs ys→Vb H f (.box T xs) (.box T ys)
 | arr {E:TypeId} {z n:Nat} {xs ys:List V}:Vws H f xs ys→Vb H f (.arr E z n xs) (.arr E z n ys)
 | ob (o:Obj):Vb H f (.ob o) (.ob o)
 | mt (ag:Bool) (es:List (Int × List D)):Vb H f (.mt ag es) (.mt ag es)
 | hd:Vb H f .hd .hd
 | ax {i k E z E2 z2:Nat} {es:List AxE}:look f i=some k→Vb H f (.ax k E z E2 z2 es none) (.ax i E z E2 z2 es none)
theorem Vb.rel (hr:HR B H ρ w) (hs:∀ b,okb B w ρ b→ok' b) (hz:∀ k blk l b,(f.map (·.2)).contains k=false→look H k=some (some blk)→ρ k=some l→l.bl b→ok' b) {x y:Blk} {l:Loc} (h:Vb H f x y) (h1:x.rel w (okb B w ρ) ρ l):y.rel w ok' (sub ρ f) l:=by
 cases h with
 | hd =>
  cases l with
  | box b=>exact h1.elim
  | arr v=>exact h1.elim
  | tr v bs=>exact h1
 | ax hi =>
  cases l with
  | box b=>exact h1.elim
  | arr v=>exact h1.elim
  | tr v0 bs =>
   obtain ⟨v,h3,h4⟩:=h1
   refine ⟨v,(QG hi).trans h3,?_⟩
   rcases h4 with h5 | ⟨g,cap,us,sp,ls,h5,h6,h7,h8,h9,h10,h11,h12⟩
   ·exact .inl h5
   ·exact .inr ⟨g,cap,us,sp,ls,h5,h6,h7,h8,h9,h10,h11.mono (fun b hb=>⟨hs b hb,rfl⟩) fun _ _=>rfl,h12.1,h12.2.1,HoR.none⟩
 | box h =>
  cases l with
  | tr _ _=>exact h1.elim
  | arr v=>exact h1.elim
  | box b=>obtain ⟨us,h2,h3,h4⟩:=h1; exact ⟨us,h2,h3,h.rvs hr hs hz h4⟩
 | ob o =>
  cases l with
  | tr _ _=>exact h1.elim
  | box b=>exact h1
  | arr v=>exact h1.elim
 | mt ag es =>
  cases l with
  | tr _ _=>exact h1.elim
  | box b=>obtain ⟨em,h2,h3,h4,h5⟩:=h1; exact ⟨em,h2,h3,h4,(Ztg ag es).rvs hr hs hz h5⟩
  | arr v=>exact h1.elim
 | arr h =>
  cases l with
  | tr _ _=>exact h1.elim
  | box b=>exact h1.elim
  | arr v =>
   rcases h1 with ⟨h2,h3,rfl⟩ | ⟨g,cap,us,sp,h2,h3,h4,h5,h6,h7,h8,h9⟩
   ·cases h; exact .inl ⟨h2,h3,rfl⟩
   ·exact .inr ⟨g,cap,us,sp,h2,h3,h4,h5,h6,h7,h8,h.rvs hr hs hz h9⟩
def VH (H' H:Hp) (f:List (Nat × Nat)) (H0:Hp):Prop:=∀ i blk,look H0 i=some (some blk)→∃ k blk',look f i=some k∧look H k=some (some blk')∧Vb H' f blk' blk
theorem VH.nil {H' H:Hp} {f:List (Nat × Nat)}:VH H' H f []:=fun i blk h=>by simp [look] at h
theorem VH.cons {H' H:Hp} {f:List (Nat × Nat)} {i k:Nat} {blk blk':Blk} {H0:Hp} (h1:look f i=some k) (h2:look H k=some (some blk')) (h3:Vb H' f blk' blk) (h:VH H' H f H0):VH H' H f ((i,some blk)::H0):=fun j b hj=>by
 rw [Zo] at hj
 split at hj
 ·obtain rfl:i=j:=by assumption
  obtain rfl:=Option.some.inj (Option.some.inj hj)
  exact ⟨k,blk',h1,h2,h3⟩
 ·exact h j b hj
theorem VH.cons0 {H' H:Hp} {f:List (Nat × Nat)} {i:Nat} {H0:Hp} (h:VH H' H f H0):VH H' H f ((i,none)::H0):=fun j b hj=>by
 rw [Zo] at hj
 split at hj
 ·cases hj
 ·exact h j b hj
theorem HR.view {B':Nat→Prop} {H0 H':Hp} (hr:HR B H ρ w) (hs:∀ b,okb B w ρ b→okb B' w (sub ρ f) b) (hz:∀ k blk l b,(f.map (·.2)).contains k=false→look H' k=some (some blk)→ρ k=some l→l.bl b→okb B' w (sub ρ f) b)
   (hH:∀ k x,look H' k=some x→look H k=some x) (hf:Qs H f=true) (hn:olds f=true) (hv:VH H' H f H0):HR B' H0 (sub ρ f) w:=by
 have hr':HR B H' ρ w:=⟨fun k blk h=>hr.rel k blk (hH _ _ h),fun k k' blk blk' l l' b h1 h2=>hr.inj k k' blk blk' l l' b (hH _ _ h1) (hH _ _ h2),hr.lt,hr.gl⟩
 refine ⟨fun i blk hi=>?_,fun i i' blk blk' l l' b h1 h2 h3 h4 h5 h6=>?_,fun i l b hi hb=>?_,fun e he=>⟨hs _ (hr.gl e he).1,(hr.gl e he).2⟩⟩
 ·obtain ⟨k,blk',h1,h2,h3⟩:=hv i blk hi
  obtain ⟨l,h4,h5⟩:=hr.rel _ _ h2
  exact ⟨l,(QG h1).trans h4,h3.rel hr' hs hz h5⟩
 ·obtain ⟨k,h7,h8⟩:=Zbc h3
  obtain ⟨k',h9,h10⟩:=Zbc h4
  obtain ⟨x,h11⟩:=Zbg hf h7
  obtain ⟨x',h12⟩:=Zbg hf h9
  obtain rfl:=hr.inj k k' x x' l l' b h11 h12 h8 h10 h5 h6
  exact Zgo hn h7 h9
 ·obtain ⟨k,-,h2⟩:=Zbc hi
  exact hr.lt k l b h2 hb
end
structure Spec (P:Program) (f:FuncId) (us:List V) (H0:Hp) (Ψ:V→Hp→Prop):Prop where
 fn : ∃ fn, P.funcs[f]? = some fn ∧ (fn.name == "runtime.NumGoroutine") = false ∧ fn.body.isNone = false
 run:∀ (B:Nat→Prop) (w:World) (ρ:Lc) (vs:List Value),(∀ b,w.heap.size≤b→B b)→RVs w (okb B w ρ) ρ us vs→HR B H0 ρ w→(∀ k l,ρ k=some l→∃ blk,look H0 k=some (some blk)) →
  Calls P f vs.toArray w fun e w'=>∃ r u h ρ',e=.returned r∧Ψ u h∧Step B H0 h ρ ρ' w w'∧RV w' (okb B w' ρ') ρ' u r∧(∀ k,look h k≠none→k<100)
theorem Spec.mono {P:Program} {f:FuncId} {us:List V} {H0:Hp} {Ψ Ψ':V→Hp→Prop} (h:Spec P f us H0 Ψ) (hm:∀ u h,Ψ u h→Ψ' u h):Spec P f us H0 Ψ':=⟨h.fn,fun B w ρ vs h0 h1 h2 h3 =>
 (h.run B w ρ vs h0 h1 h2 h3).mono fun e w' ⟨r,u,hh,ρ',h4,h5,h6⟩=>⟨r,u,hh,ρ',h4,hm _ _ h5,h6⟩⟩
def rn (f:List (Nat × Nat)) (M:Nat) (i:Nat):Nat:=match look f i with
 | some k=>k
 | none=>i+M
mutual
def V.ren (g:Nat→Nat):V→V
 | .d x=>.d x
 | .a xs=>.a (V.rens g xs)
 | .t xs=>.t (V.rens g xs)
 | .p k o=>.p (g k) o
 | .e k o=>.e (g k) o
 | .h k=>.h (g k)
 | .s k o n z=>.s (g k) o n z
 | .sc k o n z=>.sc (g k) o n z
 | .q xs=>.q xs
 | .mp k=>.mp (g k)
 | .hx k=>.hx (g k)
 | .ex k o=>.ex (g k) o
 | .fc fn xs=>.fc fn (V.rens g xs)
 | .ifc ty x=>.ifc ty (V.ren g x)
 | .un=>.un
def V.rens (g:Nat→Nat):List V→List V
 | []=>[]
 | x::xs=>V.ren g x::V.rens g xs
end
theorem Zcf (g:Nat→Nat):∀ ds:List D,V.rens g (ds.map .d)=ds.map .d
 | []=>rfl
 | d::ds=>by simp [V.rens,V.ren,Zcf g ds]
theorem Zwt (g:Nat→Nat) (ag:Bool) (ds:List D):V.ren g (mvV ag ds)=mvV ag ds:=by
 cases ag
 ·match ds with
  | []=>rfl
  | [d]=>rfl
  | _::_::_=>rfl
 ·simp only [mvV,cond_true,V.ren,Zcf]
theorem Zpv (g:Nat→Nat) (ag:Bool):∀ es:List (Int × List D),V.rens g (es.map fun e=>mvV ag e.2)=es.map fun e=>mvV ag e.2
 | []=>rfl
 | e::es=>by simp only [List.map_cons,V.rens,Zwt,Zpv g ag es]
def Blk.ren (g:Nat→Nat):Blk→Blk
 | .box T cs=>.box T (V.rens g cs)
 | .arr E z n cs=>.arr E z n (V.rens g cs)
 | .ob o=>.ob o
 | .mt ag es=>.mt ag es
 | .hd=>.hd
 | .ax k E z E2 z2 es ho=>.ax (g k) E z E2 z2 es (ho.map fun e=>(e.1,g e.2))
def Zfw (g:Nat→Nat):Hp→Hp
 | []=>[]
 | (k,b)::r=>(g k,b.map (Blk.ren g))::Zfw g r
theorem Zjy {g:Nat→Nat} (i:Nat):∀ h:Hp,(∀ j,look h j≠none→g j=g i→j=i)→look (Zfw g h) (g i)=(look h i).map fun b=>b.map (Blk.ren g)
 | [],_=>by simp [Zfw,look]
 | (k,b)::r,hg=>by
  rw [Zfw,Zo,Zo]
  by_cases e:k=i
  ·subst e; simp
  ·have:¬ g k=g i:=fun h=>e (hg k (by simp [Zo]) h)
   rw [if_neg this,if_neg e]
   refine Zjy i r fun j hj=>hg j ?_
   rw [Zo]; split <;> simp_all
theorem ZaP {g:Nat→Nat} {k:Nat}:∀ {h:Hp} {x:Option Blk},look (Zfw g h) k=some x→∃ i,g i=k∧look h i≠none
 | [],x,hx=>by simp [Zfw,look] at hx
 | (j,b)::r,x,hx=>by
  rw [Zfw,Zo] at hx
  split at hx
  ·exact ⟨j,by assumption,by simp [Zo]⟩
  ·obtain ⟨i,h1,h2⟩:=ZaP hx
   refine ⟨i,h1,?_⟩
   rw [Zo]; split <;> simp_all
section
variable {w:World} {ok:Nat→Prop} {ρ ρ':Lc} {g:Nat→Nat}
mutual
theorem RV.ren (hg:∀ i l,ρ i=some l→ρ' (g i)=some l):∀ {x:V} {v:Value},RV w ok ρ x v→RV w ok ρ' (x.ren g) v
 | _,_,.d h=>.d h
 | _,_,.a h=>.a (RVs.ren hg h)
 | _,_,.t h=>.t (RVs.ren hg h)
 | _,_,.p h=>.p (hg _ _ h)
 | _,_,.e h=>.e (hg _ _ h)
 | _,_,.h h=>.h (hg _ _ h)
 | _,_,.s h h2 h3=>.s (hg _ _ h) h2 h3
 | _,_,.s0 h h2=>.s0 (hg _ _ h) h2
 | _,_,.sc h h2 h3 h4=>.sc (hg _ _ h) h2 h3 h4
 | _,_,.sc0=>.sc0
 | _,_,.q h1 h2 h3=>.q h1 h2 h3
 | _,_,.mp h=>.mp (hg _ _ h)
 | _,_,.hx h=>.hx (hg _ _ h)
 | _,_,.ex h=>.ex (hg _ _ h)
 | _,_,.fc h=>.fc (RVs.ren hg h)
 | _,_,.ifc h=>.ifc (RV.ren hg h)
 | _,_,.un=>.un
theorem RVs.ren (hg:∀ i l,ρ i=some l→ρ' (g i)=some l):∀ {xs:List V} {vs:List Value},RVs w ok ρ xs vs→RVs w ok ρ' (V.rens g xs) vs
 | _,_,.nil=>.nil
 | _,_,.cons h1 h2=>.cons (RV.ren hg h1) (RVs.ren hg h2)
end
theorem Blk.ren_rel (hg:∀ i l,ρ i=some l→ρ' (g i)=some l):∀ {b:Blk} {l:Loc},b.rel w ok ρ l→(b.ren g).rel w ok ρ' l
 | .box T cs,.box b,⟨us,h1,h0,h2⟩=>⟨us,h1,h0,h2.ren hg⟩
 | .arr E z n cs,.arr v,h=>by
  rcases h with ⟨h1,h2,rfl⟩ | ⟨g,cap,us,sp,h1,h2,h3,h4,h5,h6,h0,h7⟩
  ·exact .inl ⟨h1,h2,rfl⟩
  ·exact .inr ⟨g,cap,us,sp,h1,h2,h3,h4,h5,h6,h0,h7.ren hg⟩
 | .ob o,.box b,h=>h
 | .mt ag es,.box b,⟨em,h1,h2,h3,h4⟩=>⟨em,h1,h2,h3,by rw [← Zpv g ag es]; exact h4.ren hg⟩
 | .hd,.tr v bs,h=>h
 | .ax k E z E2 z2 es ho,.tr _ bs,⟨v,h1,h⟩=>⟨v,hg _ _ h1,by
  rcases h with h | ⟨g1,cap,us,sp,ls,h2,h3,h4,h5,h6,h7,h8,h9,h10,h11⟩
  ·exact .inl h
  ·refine .inr ⟨g1,cap,us,sp,ls,h2,h3,h4,h5,h6,h7,?_,h9,h10,fun m q e r q1 q2 q3=>?_⟩
   ·cases ho <;> exact h8
   ·cases ho with
    | none=>cases q1
    | some p =>
     simp only [Option.map_some,Option.some.injEq,Prod.mk.injEq] at q1
     obtain ⟨sv,q4,q5⟩:=h11 p.1 p.2 e r rfl (by rw [q1.1]; exact q2) (by rw [q1.1]; exact q3)
     exact ⟨sv,q4,by rw [← q1.2]; exact hg _ _ q5⟩⟩
 | .hd,.box _,h=>h.elim
 | .hd,.arr _,h=>h.elim
 | .ax _ _ _ _ _ _ _,.box _,h=>h.elim
 | .ax _ _ _ _ _ _ _,.arr _,h=>h.elim
 | .box _ _,.tr _ _,h=>h.elim
 | .arr _ _ _ _,.tr _ _,h=>h.elim
 | .ob _,.tr _ _,h=>h.elim
 | .mt _ _,.tr _ _,h=>h.elim
 | .mt _ _,.arr _,h=>h.elim
 | .box _ _,.arr _,h=>h.elim
 | .arr _ _ _ _,.box _,h=>h.elim
 | .ob _,.arr _,h=>h.elim
end
theorem RV.okmono {w:World} {ok ok':Nat→Prop} {ρ:Lc} {x:V} {v:Value} (h:RV w ok ρ x v) (ho:∀ b,ok b→ok' b):RV w ok' ρ x v:=h.mono (fun b hb=>⟨ho b hb,rfl⟩) fun _ _ h=>h
theorem ZwB {f:List (Nat × Nat)} {M:Nat} (hM:∀ i k,look f i=some k→k<M∨M+100≤k) (hn:olds f=true):∀ i j,i<100→j<100→rn f M i=rn f M j→i=j:=by
 intro i j hi hj h
 unfold rn at h
 cases ei:look f i with
 | some k =>
  cases ej:look f j with
  | some k'=>simp only [ei,ej] at h; subst h; exact Zgo hn ei ej
  | none=>simp only [ei,ej] at h; have:=hM i k ei; omega
 | none =>
  cases ej:look f j with
  | some k'=>simp only [ei,ej] at h; have:=hM j k' ej; omega
  | none=>simp only [ei,ej] at h; omega
theorem Step.ren {B B':Nat→Prop} {H H0 h:Hp} {f:List (Nat × Nat)} {M:Nat} {ρ ρ1:Lc} {w w':World} (s:Step B' H0 h (sub ρ f) ρ1 w w') (hr:HR B H ρ w) (hf:Qs H f=true) (hn:olds f=true) (hfr:∀ k,M≤k→k<M+100→ρ k=none) (hlt:∀ k,look h k≠none→k<100) (hfl:∀ i k,look f i=some k→i<100)
   (hB:∀ b,B' b→(B b∧∀ k l,ρ k=some l→¬ l.bl b)∨w.heap.size≤b) (hup:∀ b,w.heap.size≤b→B b) :
   ∃ ρ',Step B H (Zfw (rn f M) h) ρ ρ' w w'∧(∀ i l,ρ1 i=some l→ρ' (rn f M i)=some l)∧∀ b,okb B' w' ρ1 b→okb B w' ρ' b:=by
 have hlive:∀ i k,look f i=some k→∃ l,ρ k=some l:=fun i k hi=>by
  obtain ⟨blk,h1⟩:=Zbg hf hi
  obtain ⟨l,h2,-⟩:=hr.rel _ _ h1
  exact ⟨l,h2⟩
 have hM:∀ i k,look f i=some k→k<M∨M+100≤k:=fun i k hi=>by
  obtain ⟨l,h1⟩:=hlive i k hi
  apply Classical.byContradiction
  intro h2
  have:=hfr k (by omega) (by omega)
  rw [this] at h1; cases h1
 have hinj:=ZwB hM hn
 have h1lt:∀ i l,ρ1 i=some l→i<100:=fun i l hi=>by
  rcases s.new i l hi with h1 | ⟨-,h1,-⟩
  ·obtain ⟨k,h2,-⟩:=Zbc h1; exact hfl i k h2
  ·exact hlt i h1
 have hlk:∀ i,i<100→look (Zfw (rn f M) h) (rn f M i)=(look h i).map fun b=>b.map (Blk.ren (rn f M)):=fun i hi=>Zjy i h fun j hj e=>hinj j i (hlt j hj) hi e
 let ρ':Lc:=fun k=>match ρ k with
  | some l=>some l
  | none=>if M≤k∧k<M+100∧look f (k - M)=none then ρ1 (k - M) else none
 have hext:Ext ρ ρ':=fun k l hk=>by simp only [ρ',hk]
 have hb:∀ i l,ρ1 i=some l→ρ' (rn f M i)=some l:=fun i l hi=>by
  unfold rn
  cases e:look f i with
  | some k =>
   obtain ⟨l',h1⟩:=hlive i k e
   have h2:=s.ext i l' ((QG e).trans h1)
   rw [hi] at h2
   obtain rfl:=Option.some.inj h2
   exact hext _ _ h1
  | none =>
   have h1:=h1lt i l hi
   have h2:ρ (i+M)=none:=hfr _ (by omega) (by omega)
   have h3:i+M - M=i:=by omega
   simp only [ρ',h2,h3,e]
   rw [if_pos ⟨by omega,by omega,trivial⟩,hi]
 have hinv:∀ k l,ρ' k=some l→ρ k=some l∨(ρ k=none∧∃ i,k=rn f M i∧i<100∧look f i=none∧ρ1 i=some l):=fun k l hk=>by
  simp only [ρ'] at hk
  cases e:ρ k with
  | some l'=>rw [e] at hk; exact .inl hk
  | none =>
   simp only [e] at hk
   split at hk
   ·rename_i h1
    refine .inr ⟨rfl,k - M,?_,by omega,h1.2.2,hk⟩
    unfold rn; rw [h1.2.2]; simp only; omega
   ·cases hk
 have hnew:∀ i l,look f i=none→ρ1 i=some l→look h i≠none∧∀ b,l.bl b→(w.heap.size≤b∧b<w'.heap.size)∨∃ k0 l0,look h k0=some none∧sub ρ f k0=some l0∧l0.bl b:=fun i l hi hl=>by
  rcases s.new i l hl with h1 | ⟨-,h1,h2⟩
  ·obtain ⟨k,h2,-⟩:=Zbc h1; rw [hi] at h2; cases h2
  ·exact ⟨h1,h2⟩
 have hok:∀ b,okb B' w' ρ1 b→okb B w' ρ' b:=fun b ⟨h1,h2,h3⟩=>by
  rcases hB b h2 with ⟨h4,h5⟩ | h4
  ·refine ⟨h1,h4,fun k l hk e=>?_⟩
   rcases hinv k l hk with h6 | ⟨-,i,-,-,-,h6⟩
   ·exact h5 k l h6 e
   ·exact h3 i l h6 e
  ·refine ⟨h1,hup b h4,fun k l hk e=>?_⟩
   rcases hinv k l hk with h6 | ⟨-,i,-,-,-,h6⟩
   ·have:=hr.lt k l b h6 e; omega
   ·exact h3 i l h6 e
 refine ⟨ρ',⟨s.os,s.tape,s.output,s.size,hext,fun k l hk=>?_,fun b hb1 hb2=>?_,fun k hk hρ=>?_,fun k blk hk=>?_,fun k k' blk blk' l l' b h1 h2 h3 h4 h5 h6=>?_⟩,hb,hok⟩
 ·rcases hinv k l hk with h1 | ⟨h1,i,rfl,hi,h2,h3⟩
  ·exact .inl h1
  ·obtain ⟨h4,h5⟩:=hnew i l h2 h3
   refine .inr ⟨h1,?_,fun b e=>?_⟩
   ·rw [hlk i hi]; cases e:look h i with
    | none=>exact absurd e h4
    | some x=>simp
   ·rcases h5 b e with h5 | ⟨k0,l0,h6,h7,h8⟩
    ·exact .inl h5
    ·obtain ⟨k,h9,h10⟩:=Zbc h7
     refine .inr ⟨rn f M k0,l0,by rw [hlk k0 (hfl _ _ h9),h6]; rfl,?_,h8⟩
     have:rn f M k0=k:=by unfold rn; rw [h9]
     rw [this]; exact h10
 ·refine s.keep b hb1 fun i l hi hl=>?_
  obtain ⟨k,h1,h2⟩:=Zbc hl
  refine hb2 k l ?_ h2
  have:rn f M i=k:=by unfold rn; rw [h1]
  rw [← this,hlk i (hfl _ _ h1)]
  cases e:look h i with
  | none=>exact absurd e hi
  | some x=>simp
 ·cases e:look (Zfw (rn f M) h) k with
  | none=>exact absurd e hk
  | some x =>
   obtain ⟨i,h1,h2⟩:=ZaP e
   cases e2:look f i with
   | some k' =>
    have:rn f M i=k':=by unfold rn; rw [e2]
    rw [← h1,this]
    exact Zbg hf e2
   | none =>
    have:rn f M i=i+M:=by unfold rn; rw [e2]
    have h3:=hlt i h2
    exact absurd (hfr k (by omega) (by omega)) hρ
 ·obtain ⟨i,rfl,h2⟩:=ZaP hk
  rw [hlk i (hlt i h2)] at hk
  cases e:look h i with
  | none=>exact absurd e h2
  | some x =>
   cases x with
   | none=>rw [e] at hk; simp at hk
   | some b0 =>
    rw [e] at hk
    simp only [Option.map_some,Option.some.injEq] at hk
    obtain ⟨l,h3,h4⟩:=s.rel i b0 e
    subst hk
    refine ⟨l,hb i l h3,?_⟩
    exact Blk.rel_mono (w:=w') (ok:=okb B' w' ρ1) (fun b hb=>⟨hok b hb,rfl⟩) (fun _ _ h=>h) (fun _ _=>rfl) (Blk.ren_rel hb h4)
 ·obtain ⟨i,rfl,h7⟩:=ZaP h1
  obtain ⟨j,rfl,h8⟩:=ZaP h2
  rw [hlk i (hlt i h7)] at h1
  rw [hlk j (hlt j h8)] at h2
  cases e:look h i with
  | none=>exact absurd e h7
  | some x =>
   cases x with
   | none=>rw [e] at h1; simp at h1
   | some b0 =>
    cases e2:look h j with
    | none=>exact absurd e2 h8
    | some y =>
     cases y with
     | none=>rw [e2] at h2; simp at h2
     | some b1 =>
      obtain ⟨l2,h9,-⟩:=s.rel i b0 e
      obtain ⟨l3,h10,-⟩:=s.rel j b1 e2
      obtain rfl:=Option.some.inj ((hb i l2 h9).symm.trans h3)
      obtain rfl:=Option.some.inj ((hb j l3 h10).symm.trans h4)
      rw [s.injh i j b0 b1 l2 l3 b e e2 h9 h10 h5 h6]
def evl (sl:List (Nat × V)):List Operand→Option (List V)
 | []=>some []
 | x::r=>match ev sl x,evl sl r with
  | some u,some l=>some (u::l)
  | _,_=>none
theorem ZeW {B:Nat→Prop} {sl:List (Nat × V)} {ρ:Lc} {a:Act} {w:World} (hs:SR B sl ρ a w):∀ {xs:List Operand} {us:List V},evl sl xs=some us→RVs w (okb B w ρ) ρ us (xs.map a.eval)
 | [],us,h=>by simp only [evl,Option.some.injEq] at h; subst h; exact .nil
 | x::r,us,h=>by
  simp only [evl] at h
  split at h
  ·rename_i u l h1 h2
   obtain rfl:=Option.some.inj h
   exact .cons (Zp hs h1) (ZeW hs h2)
  ·cases h
def ZrS (ρ:Lc) (B:Nat→Prop) (w:World) (b:Nat):Prop:=(B b∧∀ k l,ρ k=some l→¬ l.bl b)∨w.heap.size≤b
theorem ZlK {P:Program} {o:Oper} {H H0:Hp} {sl:List (Nat × V)} {f:FuncId} {us uc:List V} {Ψ:V→Hp→Prop} {x:Operand} {xs:Array Operand} {ats:Array TypeId} (M:Nat) (g:List (Nat × Nat)) (hs:Spec P f us H0 Ψ)
   (hop:o.op=.call { callee:=.value x,args:=xs,argTypes:=ats }) (hx:ev sl x=some (.d (.c (.func (.func f) #[] #[])))) (ha:evl sl xs.toList=some uc) (hv:Vws [] g uc us) (hH:VH [] H g H0)
   (hal:Qs H g=true) (hol:olds g=true) (hlv:(g.all fun e=>Nat.blt e.1 100 && match look H0 e.1 with | some (some _)=>true | _=>false)=true) :
   OpV P o H sl M 100 fun u h=>∃ u0 h0,Ψ u0 h0∧u=u0.ren (rn g M)∧h=Zfw (rn g M) h0:=fun B a w ρ hup hd hsr hr hfr=>by
 have hargs:=ZeW hsr ha
 have hr0:HR B [] ρ w:=⟨fun k blk h=>by simp [look] at h,fun k k' blk blk' l l' b h=>by simp [look] at h,hr.lt,hr.gl⟩
 have hok:∀ b,okb B w ρ b→okb (ZrS ρ B w) w (sub ρ g) b:=fun b ⟨h1,h2,h3⟩=>⟨h1,.inl ⟨h2,h3⟩,fun i l hi=>by
  obtain ⟨k,-,h4⟩:=Zbc hi; exact h3 k l h4⟩
 have hargs':=Vws.rvs (ok':=okb (ZrS ρ B w) w (sub ρ g)) hr0 hok (fun k blk l b _ h=>by simp [look] at h) hv hargs
 have hview:HR (ZrS ρ B w) H0 (sub ρ g) w:=HR.view hr hok (fun k blk l b _ h=>by simp [look] at h) (fun k x h=>by simp [look] at h) hal hol hH
 have hlive:∀ i l,sub ρ g i=some l→∃ blk,look H0 i=some (some blk):=fun i l hi=>by
  obtain ⟨k,h1,-⟩:=Zbc hi
  have:=List.all_eq_true.1 hlv _ (ZaJ h1)
  simp only [Bool.and_eq_true] at this
  have h2:=this.2
  split at h2
  ·exact ⟨_,by assumption⟩
  ·cases h2
 have h100:∀ i k,look g i=some k→i<100:=fun i k h1=>by
  have:=List.all_eq_true.1 hlv _ (ZaJ h1)
  simp only [Bool.and_eq_true] at this
  exact Zdv this.1
 have hcall:=hs.run (ZrS ρ B w) w (sub ρ g) _ (fun b hb=>.inr hb) hargs' hview hlive
 obtain ⟨fn,hf1,hf2,hf3⟩:=hs.fn
 have hrun:(execOp a.eval o).run P w=.ok (.enter f (xs.toList.map a.eval).toArray) w:=by
  have hx':=ZbM (Zp hsr hx)
  unfold execOp; rw [hop]
  have e:xs.map a.eval=(xs.toList.map a.eval).toArray:=by apply Array.ext'; simp
  have h1 : ¬ fn.name = "runtime.NumGoroutine" := by simpa using hf2
  have h2:¬ fn.body=none:=fun e=>by rw [e] at hf3; cases hf3
  simp [resolve,hx',Deferred.ofValue,invoke,callFunc,program,Sem.run,hf1,h1,h2,e]
 unfold Oper.wp
 rw [hrun,Oper.upon_enter]
 refine hcall.mono ?_
 rintro e w' ⟨r,u,h,ρ1,rfl,hψ,hst,hrv,hlt⟩
 obtain ⟨ρ',h1,h2,h3⟩:=hst.ren hr hal hol hfr hlt h100 (fun b h=>h) hup
 exact ⟨r,_,_,ρ',rfl,⟨u,h,hψ,rfl,rfl⟩,h1,(hrv.ren h2).okmono h3⟩
inductive VS (H:Hp) (f:List (Nat × Nat)) (sl:List (Nat × V)):List (Nat × V)→Prop
 | nil:VS H f sl []
 | cons {t:Nat} {u u':V} {r:List (Nat × V)}:look sl t=some u→Vw H f u u'→VS H f sl r→VS H f sl ((t,u')::r)
theorem VS.get {H:Hp} {f:List (Nat × Nat)} {sl:List (Nat × V)}:∀ {r:List (Nat × V)},VS H f sl r→∀ {t:Nat} {u':V},look r t=some u'→∃ u,look sl t=some u∧Vw H f u u'
 | _,.nil,t,u',h=>by simp [look] at h
 | _,.cons h1 h2 h3,t,u',h=>by
  rw [Zo] at h
  split at h
  ·subst_vars; obtain rfl:=Option.some.inj h; exact ⟨_,h1,h2⟩
  ·exact h3.get h
theorem Zo5 (f:List (Nat × Nat)) {Γ:Cx} {st st':St} {ρ:Lc} {a:Act} {w:World} (hr:ZfT Γ st ρ a w) (hal:Qs st.hp f=true) (hol:olds f=true) (hks:(Γ.ks.all fun k=>match look f k with | some k'=>Nat.beq k k' | none=>false)=true) (hd:(f.all fun e=>(look st'.hp e.1).isSome)=true)
   (hs:VS st.hp f st.sl st'.sl) (hh:VH st.hp st.hp f st'.hp):ZfT Γ st' (sub ρ f) a w∧∀ u u' v,Vw st.hp f u u'→RV w (okb Γ.B w ρ) ρ u v→RV w (okb Γ.B w (sub ρ f)) (sub ρ f) u' v:=by
 have hks':∀ k l,Γ.ρ0 k=some l→look f k=some k:=fun k l h=>by
  have:=List.all_eq_true.1 hks k (hr.dom0 k l h)
  split at this
  ·rename_i e; rw [Nat.eq_of_beq_eq_true this] at e ⊢; exact e
  ·cases this
 have htomb:∀ k0 l0,look st.hp k0=some none→Γ.ρ0 k0=some l0→False:=fun k0 l0 h1 h2=>by
  obtain ⟨blk,h3⟩:=Zbg hal (hks' k0 l0 h2)
  rw [h1] at h3; cases h3
 have hok:∀ b,okb Γ.B w ρ b→okb Γ.B w (sub ρ f) b:=fun b ⟨h1,h2,h3⟩=>⟨h1,h2,fun i l hi=>by
  obtain ⟨k,-,h4⟩:=Zbc hi; exact h3 k l h4⟩
 have hz:∀ k blk l b,(f.map (·.2)).contains k=false→look st.hp k=some (some blk)→ρ k=some l→l.bl b→okb Γ.B w (sub ρ f) b:=fun k blk l b h1 h2 h3 h4=>by
  refine ⟨hr.hr.lt k l b h3 h4,?_,fun i l' hi e=>?_⟩
  ·rcases hr.own k l b h3 h4 with h5 | h5 | ⟨k0,l0,h5,h6,-⟩
   ·have:=ZaJ (hks' k l h5)
    have h6:k ∈ f.map (·.2):=List.mem_map.2 ⟨_,this,rfl⟩
    rw [List.contains_iff_mem.2 h6] at h1; cases h1
   ·exact hr.bup b h5
   ·exact (htomb k0 l0 h5 h6).elim
  ·obtain ⟨k',h5,h6⟩:=Zbc hi
   obtain ⟨blk',h7⟩:=Zbg hal h5
   obtain rfl:=hr.hr.inj k k' blk blk' l l' b h2 h7 h3 h6 h4 e
   have h8:k ∈ f.map (·.2):=List.mem_map.2 ⟨_,ZaJ h5,rfl⟩
   rw [List.contains_iff_mem.2 h8] at h1; cases h1
 refine ⟨⟨hr.defers,hr.size,hr.kp,fun k l h=>(QG (hks' k l h)).trans (hr.ext0 k l h),fun i l b hi hb=>?_,fun i l hi=>?_,hr.dom0,hr.bup,HR.view hr.hr hok hz (fun _ _ h=>h) hal hol hh,fun t u' hu=>?_⟩,fun u u' v h1 h2=>h1.rv hr.hr hok hz h2⟩
 ·obtain ⟨k,h1,h2⟩:=Zbc hi
  rcases hr.own k l b h2 hb with h3 | h3 | ⟨k0,l0,h3,h4,-⟩
  ·obtain rfl:=Zgo hol h1 (hks' k l h3); exact .inl h3
  ·exact .inr (.inl h3)
  ·exact (htomb k0 l0 h3 h4).elim
 ·obtain ⟨k,h1,-⟩:=Zbc hi
  have:=List.all_eq_true.1 hd _ (ZaJ h1)
  intro e; simp [e] at this
 ·obtain ⟨u,h1,h2⟩:=hs.get hu
  obtain ⟨v,h3,h4⟩:=hr.sr t u h1
  exact ⟨v,h3,h2.rv hr.hr hok hz h4⟩
theorem wk (f:List (Nat × Nat)) {Γ:Cx} {st st':St} (hal:Qs st.hp f=true) (hol:olds f=true) (hks:(Γ.ks.all fun k=>match look f k with | some k'=>Nat.beq k k' | none=>false)=true) (hd:(f.all fun e=>(look st'.hp e.1).isSome)=true)
 (hs:VS st.hp f st.sl st'.sl) (hh:VH st.hp st.hp f st'.hp):Wk Γ st st':=fun _ _ ⟨ρ,hr⟩=>⟨sub ρ f,(Zo5 f hr hal hol hks hd hs hh).1⟩
def Zi6 (st:St):List ResultVar→Option (List V)
 | []=>some []
 | .tmp t::r=>match look st.sl t,Zi6 st r with
  | some u,some l=>some (u::l)
  | _,_=>none
 | .cell t _::r=>match look st.sl t,Zi6 st r with
  | some (.p k 0),some l=>match look st.hp k with
   | some (some (.box _ cs))=>some (.a cs::l)
   | _=>none
  | _,_=>none
def Zja (P:Program) (st:St):List ResultVar→Prop
 | []=>True
 | .tmp _::r=>Zja P st r
 | .cell t T::r=>(∀ k T' cs,look st.sl t=some (.p k 0)→look st.hp k=some (some (.box T' cs))→Ty P T cs.length true)∧Zja P st r
def one (us:List V):V:=match us with
 | [u]=>u
 | _=>.t us
def ZtV (P:Program) (tmps:Array Value):ResultVar→Sem Value
 | .tmp t=>pure (tmps.getD t undef)
 | .cell a t=>do loadVar t (← asAddr (tmps.getD a undef))
theorem ZiH {Γ:Cx} {st:St} {ρ:Lc} {a:Act} {w:World} (hr:ZfT Γ st ρ a w):∀ {rs:List ResultVar} {us:List V},Zi6 st rs=some us→Zja Γ.P st rs→∃ vs,(rs.mapM (ZtV Γ.P a.tmps)).run Γ.P w=.ok vs w∧RVs w (okb Γ.B w ρ) ρ us vs
 | [],us,h,_=>by simp only [Zi6,Option.some.injEq] at h; subst h; exact ⟨[],by simp,.nil⟩
 | .tmp t::r,us,h,ht=>by
  simp only [Zi6] at h
  split at h
  ·rename_i u l h1 h2
   obtain rfl:=Option.some.inj h
   obtain ⟨v,h3,h4⟩:=hr.sr t u h1
   obtain ⟨vs,h5,h6⟩:=ZiH hr h2 ht
   exact ⟨v::vs,by simp [List.mapM_cons,ZtV,h3,h5],.cons h4 h6⟩
  ·cases h
 | .cell t T::r,us,h,ht=>by
  simp only [Zi6] at h
  split at h
  ·rename_i k l h1 h2
   split at h
   ·rename_i T' cs h7
    obtain rfl:=Option.some.inj h
    obtain ⟨v,h3,h4⟩:=hr.sr t _ h1
    obtain ⟨vs,h5,h6⟩:=ZiH hr h2 ht.2
    obtain ⟨l',h8,h9⟩:=hr.hr.rel _ _ h7
    cases l' with
    | tr _ _=>exact h9.elim
    | arr v=>exact h9.elim
    | box b =>
     obtain ⟨xs,h10,h11,h12⟩:=h9
     cases h4 with
     | p hp =>
      rw [h8] at hp
      simp only [Option.some.injEq,Loc.box.injEq] at hp
      subst hp
      have hT:=ht.1 k T' cs h1 h7
      have hld:=Zew (P:=Γ.P) (w:=w) (b:=b) (off:=0) (c:=xs) hT (by simpa using ZgL h10) h12.length (by simp)
      simp only [cond_true] at hld
      exact ⟨.agg xs.toArray::vs,by simp [List.mapM_cons,ZtV,h3,h5,asAddr,hld],.cons (.a h12) h6⟩
   ·cases h
  ·cases h
theorem Zlg {P:Program} {fn:Func} {rs:List ResultVar} {tmps:Array Value} {w:World} {vs:List Value} (hrs:fn.results=rs.toArray) (h:(rs.mapM (ZtV P tmps)).run P w=.ok vs w):(results fn tmps).run P w=.ok (if vs.length=1 then vs.headD undef else .tuple vs.toArray) w:=by
 have e:(fn.results.mapM (ZtV P tmps))=(do let l ← rs.mapM (ZtV P tmps); pure l.toArray):=by
  rw [hrs]; simp
 have e2:results fn tmps=(do let vs ← fn.results.mapM (ZtV P tmps); pure (if h:vs.size=1 then vs[0] else .tuple vs)):=rfl
 rw [e2,e]
 simp only [Sem.run_bind,h,Result.andThen_ok,Sem.run_pure]
 by_cases h1:vs.length=1
 ·cases vs with
  | nil=>simp at h1
  | cons v r =>
   simp only [List.length_cons] at h1
   obtain rfl:r=[]:=List.eq_nil_of_length_eq_zero (by omega)
   simp
 ·simp [h1]
def Zgb (ks:List Nat) (st:St) (f:List (Nat × Nat)) (h:Hp):Bool:=Qs st.hp f && olds f && (ks.all fun k=>match look f k with | some k'=>Nat.beq k k' | none=>false) && (f.all fun e=>(look h e.1).isSome) && (h.all fun e=>Nat.blt e.1 100)
def Zgd (P:Program) (ks:List Nat) (rs:List ResultVar) (Ψ:V→Hp→Prop) (st:St):Prop:=∃ us f u h,Zi6 st rs=some us∧Zja P st rs∧Zgb ks st f h=true∧Vw st.hp f (one us) u∧VH st.hp st.hp f h∧Ψ u h
theorem Zv {P:Program} {st:St} {t k:Nat} {T T':TypeId} {cs:List V} {r:List ResultVar} (h1:look st.sl t=some (.p k 0)) (h2:look st.hp k=some (some (.box T' cs))) (hT:Ty P T cs.length true) (hr:Zja P st r):Zja P st (.cell t T::r):=by
 refine ⟨fun k' T0 cs' h3 h4=>?_,hr⟩
 rw [h1] at h3
 cases h3
 rw [h2] at h4
 cases h4
 exact hT
def slots:Nat→List V→List (Nat × V)
 | _,[]=>[]
 | i,u::r=>(i,u)::slots (i+1) r
theorem ZhG:∀ {us:List V} {i t:Nat} {u:V},look (slots i us) t=some u→i≤t∧us[t - i]?=some u
 | [],i,t,u,h=>by simp [slots,look] at h
 | x::us,i,t,u,h=>by
  rw [slots,Zo] at h
  split at h
  ·subst_vars; simpa using h
  ·obtain ⟨h1,h2⟩:=ZhG h
   refine ⟨by omega,?_⟩
   rw [show t - i=(t - (i+1))+1 by omega,List.getElem?_cons_succ]; exact h2
theorem Zsq {h:Hp} (ha:(h.all fun e=>Nat.blt e.1 100)=true) {k:Nat} (hk:look h k≠none):k<100:=by
 cases e:look h k with
 | none=>exact absurd e hk
 | some x=>exact Zdv (List.all_eq_true.1 ha _ (ZaJ e))
theorem Spec.introG {P:Program} {f:FuncId} {us:List V} {H0:Hp} {Ψ:V→Hp→Prop} {fn:Func} {c:Code} {rs:List ResultVar} {nt:Nat} {post:St→Prop} (hpost:∀ Γ st ρ a w,Γ.ks=H0.map (·.1)→ZfT Γ st ρ a w→post st→∃ us u st' ρ',Zi6 st rs=some us∧Zja P st rs∧ZfT Γ st' ρ' a w∧(st'.hp.all fun e=>Nat.blt e.1 100)=true∧Ψ u st'.hp∧∀ v,RV w (okb Γ.B w ρ) ρ (one us) v→RV w (okb Γ.B w ρ') ρ' u v)
   (hf : P.funcs[f]? = some fn) (hn : (fn.name == "runtime.NumGoroutine") = false) (hb : fn.body = some c) (hnt : fn.ntmps = nt) (hrs : fn.results = rs.toArray)
   (hl:Nat.ble us.length nt=true) (hw:∀ B w0 ρ0,WC ⟨P,B,w0,ρ0,H0.map (·.1),nt⟩ c (.fn post) ⟨slots 0 us,H0⟩):Spec P f us H0 Ψ:=by
 refine ⟨⟨fn,hf,hn,by rw [hb]; rfl⟩,fun B w ρ vs hB hvs hr hlive=>?_⟩
 have hlen:=hvs.length
 have hl':=Nat.le_of_ble_eq_true hl
 subst hnt
 have hrel:ZfT ⟨P,B,w,ρ,H0.map (·.1),fn.ntmps⟩ ⟨slots 0 us,H0⟩ ρ { tmps:=vs.toArray++Array.replicate (fn.ntmps - vs.toArray.size) undef,defers:=[] } w:=by
  refine ⟨rfl,by simp; omega,⟨rfl,rfl,rfl,Nat.le_refl _,fun _ _ _=>rfl⟩,fun _ _ h=>h,fun k l b h _=>.inl h,fun k l h=>?_,fun k l h=>?_,hB,hr,fun t u hu=>?_⟩
  ·obtain ⟨blk,h1⟩:=hlive k l h; rw [h1]; simp
  ·obtain ⟨blk,h1⟩:=hlive k l h
   exact List.mem_map.2 ⟨_,ZaJ h1,rfl⟩
  ·obtain ⟨-,h1⟩:=ZhG hu
   obtain ⟨v,h2,h3⟩:=hvs.get h1
   refine ⟨v,?_,h3⟩
   simp only [Nat.sub_zero] at h2
   rw [Array.getElem?_append_left (by simpa using (List.getElem?_eq_some_iff.1 h2).1)]
   simpa using h2
 refine calls_of_wp hf hb (wp_mono (hw B w ρ _ w ⟨ρ,hrel⟩) ?_)
 rintro e a w' ⟨st,hk,hst⟩
 have fin:∀ st',Wk ⟨P,B,w,ρ,H0.map (·.1),fn.ntmps⟩ st st'→post st'→∃ v,(results fn a.tmps).run P w'=.ok v w'∧a.defers=[]∧∃ r u h ρ',Ending.returned v=.returned r∧Ψ u h∧Step B H0 h ρ ρ' w w'∧RV w' (okb B w' ρ') ρ' u r∧(∀ k,look h k≠none→k<100):=by
  intro st1 h1 h2
  obtain ⟨ρ1,hr1⟩:=h1 a w' hst
  obtain ⟨us',u1,st',ρ',h2,h3,hr',h5,h4,hrv⟩:=hpost _ _ _ _ _ rfl hr1 h2
  obtain ⟨vs',h6,h7⟩:=ZiH hr1 h2 h3
  refine ⟨_,Zlg hrs h6,hr'.defers,_,u1,st'.hp,ρ',rfl,h4,⟨hr'.kp.os,hr'.kp.tape,hr'.kp.output,hr'.kp.size,hr'.ext0,fun k l hk=>?_,fun b hb1 hb2=>?_,fun k _ hk=>?_,fun k blk hk=>hr'.hr.rel k blk hk,fun k k' blk blk' l l' b g1 g2 g3 g4=>hr'.hr.inj k k' blk blk' l l' b g1 g2 g3 g4⟩,?_,fun k hk=>Zsq h5 hk⟩
  ·cases e0:ρ k with
   | some l0=>exact .inl (by rw [← e0]; have:=hr'.ext0 k l0 e0; rw [hk] at this; rw [e0]; exact this.symm)
   | none =>
    refine .inr ⟨rfl,hr'.dom k l hk,fun b e=>?_⟩
    rcases hr'.own k l b hk e with h8 | h8 | h8
    ·simp only at h8; rw [e0] at h8; cases h8
    ·exact .inl ⟨h8,hr'.hr.lt k l b hk e⟩
    ·exact .inr h8
  ·exact hr'.kp.block b hb1 fun k l hl=>hb2 k l (hr'.dom k l (hr'.ext0 k l hl)) hl
  ·cases e0:ρ k with
   | none=>exact absurd e0 hk
   | some l0=>exact hlive k l0 e0
  ·refine hrv _ ?_
   have h8:=h7.length
   cases h7 with
   | nil=>simpa [one] using RV.t RVs.nil
   | cons h9 h10 =>
    cases h10 with
    | nil=>simpa [one] using h9
    | cons h11 h12=>simpa [one] using RV.t (.cons h9 (.cons h11 h12))
 cases e with
 | ret =>
  obtain ⟨st',h1,h2⟩:=hk
  obtain ⟨v,h3,h4,h5⟩:=fin st' h1 h2
  exact ⟨h4,v,h3,h5⟩
 | normal =>
  obtain ⟨st',h1,h2⟩:=hk
  obtain ⟨v,h3,h4,h5⟩:=fin st' h1 h2
  exact ⟨h4,v,h3,h5⟩
 | exit id=>exact hk.elim
 | goto l=>exact hk.elim
 | panic c=>exact hk.elim
 | outgrown=>exact hk.elim
theorem Spec.intro {P : Program} {f : FuncId} {us : List V} {H0 : Hp} {Ψ : V → Hp → Prop} {fn : Func} {c : Code} {rs : List ResultVar} {nt : Nat} (hf : P.funcs[f]? = some fn) (hn : (fn.name == "runtime.NumGoroutine") = false) (hb : fn.body = some c) (hnt : fn.ntmps = nt) (hrs : fn.results = rs.toArray)
   (hl:Nat.ble us.length nt=true) (hw:∀ B w0 ρ0,WC ⟨P,B,w0,ρ0,H0.map (·.1),nt⟩ c (.fn (Zgd P (H0.map (·.1)) rs Ψ)) ⟨slots 0 us,H0⟩):Spec P f us H0 Ψ :=
 Spec.introG (fun Γ st ρ a w hks hr ⟨us',f,u1,hp1,h2,h3,hpb,hvw,hvh,h4⟩=>by
  simp only [Zgb,Bool.and_eq_true] at hpb
  obtain ⟨⟨⟨⟨b1,b2⟩,b3⟩,b4⟩,h5⟩:=hpb
  rw [← hks] at b3
  obtain ⟨hr',hrv⟩:=Zo5 f (st':=⟨[],hp1⟩) hr b1 b2 b3 b4 .nil hvh
  exact ⟨us',u1,⟨[],hp1⟩,sub ρ f,h2,h3,hr',h5,h4,fun v=>hrv _ _ _ hvw⟩) hf hn hb hnt hrs hl hw
end Go.Proofs.YtkcmgbbopedacaaGreatDoor
namespace Go.Proofs.YtkcmgbbopedacaaGreatDoor
open Go.RowKit
structure Bnd where
 key:ByteArray
 top:Bool
 deriving DecidableEq
structure Rng where
 lo:Bnd
 hi:Bnd
 deriving DecidableEq
abbrev bl (a b:ByteArray):Bool:=Op.bytesLess a.toList b.toList
theorem YA:∀ l:List UInt8,Op.bytesLess l l=false
 | []=>rfl
 | a::x=>by simp [Op.bytesLess,YA x]
theorem Xd:∀ {a b:List UInt8},Op.bytesLess a b=true→Op.bytesLess b a=false
 | _,[],h=>by simp [Op.bytesLess] at h
 | [],_::_,_=>rfl
 | a::x,b::y,h=>by
  simp only [Op.bytesLess,Bool.or_eq_true,Bool.and_eq_true,decide_eq_true_eq,beq_iff_eq] at h
  rcases h with h | ⟨h,h2⟩
  ·simp only [Op.bytesLess,Bool.or_eq_false_iff,decide_eq_false_iff_not,Bool.and_eq_false_iff,beq_eq_false_iff_ne]
   refine ⟨by simp only [UInt8.lt_iff_toNat_lt] at *; omega,Or.inl fun e=>?_⟩
   subst e; simp at h
  ·subst h; simp [Op.bytesLess,Xd h2]
theorem Yx:∀ {a b c:List UInt8},Op.bytesLess a b=true→Op.bytesLess b c=true→Op.bytesLess a c=true
 | _,_,[],_,h=>by simp [Op.bytesLess] at h
 | _,[],_::_,h,_=>by simp [Op.bytesLess] at h
 | [],_::_,_::_,_,_=>rfl
 | a::x,b::y,c::z,h,k=>by
  simp only [Op.bytesLess,Bool.or_eq_true,Bool.and_eq_true,decide_eq_true_eq,beq_iff_eq] at h k ⊢
  rcases h with h | ⟨rfl,h2⟩
  ·rcases k with k | ⟨rfl,k2⟩
   ·left; simp only [UInt8.lt_iff_toNat_lt] at *; omega
   ·left; exact h
  ·rcases k with k | ⟨rfl,k2⟩
   ·left; exact k
   ·right; exact ⟨rfl,Yx h2 k2⟩
theorem YW:∀ {a b:List UInt8},Op.bytesLess a b=false→Op.bytesLess b a=false→a=b
 | [],[],_,_=>rfl
 | [],_::_,h,_=>by simp [Op.bytesLess] at h
 | _::_,[],_,h=>by simp [Op.bytesLess] at h
 | a::x,b::y,h,k=>by
  simp only [Op.bytesLess,Bool.or_eq_false_iff,decide_eq_false_iff_not,Bool.and_eq_false_iff,beq_eq_false_iff_ne] at h k
  have e:a=b:=by
   apply UInt8.toNat_inj.1
   have h1:=h.1; have k1:=k.1
   simp only [UInt8.lt_iff_toNat_lt] at h1 k1; omega
  subst e
  have h2:=h.2.resolve_left (fun h=>h rfl)
  have k2:=k.2.resolve_left (fun h=>h rfl)
  rw [YW h2 k2]
def Bnd.lt (a b:Bnd):Bool:=!a.top && (b.top || Op.bytesLess a.key.toList b.key.toList)
def cmp (a b:Bnd):Int:=if a.lt b then -1 else if b.lt a then 1 else 0
def vk (k:ByteArray):Bool:=decide (k.size≤64)
def vb (b:Bnd):Bool:=vk b.key && (!b.top || b.key.toList.isEmpty)
def vld (r:Rng):Bool:=vb r.lo && vb r.hi && decide (cmp r.lo r.hi≤0)
def emp (r:Rng):Bool:=!vld r || cmp r.lo r.hi == 0
def contains (r:Rng) (k:ByteArray):Bool:=!emp r && vk k && decide (cmp r.lo ⟨k,false⟩≤0) && decide (cmp ⟨k,false⟩ r.hi<0)
theorem ZmE (a:Bnd):cmp a a=0:=by
 have:a.lt a=false:=by simp [Bnd.lt,YA]
 simp [cmp,this]
theorem Yd {a b:Bnd} (h:a.lt b=true):b.lt a=false:=by
 simp only [Bnd.lt,Bool.and_eq_true,Bool.or_eq_true,Bool.not_eq_true'] at h
 obtain ⟨h1,h2⟩:=h
 rcases h2 with h2 | h2
 ·simp [Bnd.lt,h2]
 ·simp [Bnd.lt,h1,Xd h2]
theorem XW (a b:Bnd):cmp a b<0↔a.lt b=true:=by
 unfold cmp; split
 ·simp [*]
 ·split <;> simp [*]
theorem Xw (a b:Bnd):0<cmp a b↔b.lt a=true:=by
 unfold cmp; split
 ·rename_i h; simp [Yd h]
 ·split <;> simp [*]
theorem ZkH (a b:Bnd):cmp a b=0↔a.lt b=false∧b.lt a=false:=by
 unfold cmp; split
 ·simp [*]
 ·split <;> simp [*]
theorem Zet (a b:Bnd):cmp a b=-1∨cmp a b=0∨cmp a b=1:=by
 unfold cmp; split
 ·simp
 ·split <;> simp
theorem ZiD (a b:Bnd):cmp b a=- cmp a b:=by
 unfold cmp
 cases h:a.lt b
 ·cases k:b.lt a <;> simp
 ·simp [Yd h]
def adj (a b:Rng):Bool:=!emp a && !emp b && cmp a.hi b.lo == 0
def greater (a b:Bnd):Bnd:=if cmp b a > 0 then b else a
def lesser (a b:Bnd):Bnd:=if cmp b a<0 then b else a
def greatest (a b:Bnd):Bnd:=if cmp a b ≥ 0 then a else b
def least (a b:Bnd):Bnd:=if cmp a b≤0 then a else b
theorem Zg2 (a b:Bnd):greatest a b=greater a b:=by
 unfold greatest greater; rw [ZiD a b]; split <;> split <;> first | rfl | omega
theorem Zr2 (a b:Bnd):least a b=lesser a b:=by
 unfold least lesser; rw [ZiD a b]; split <;> split <;> first | rfl | omega
def zb:Bnd:=⟨⟨#[]⟩,false⟩
def zr:Rng:=⟨zb,zb⟩
def Yt (a b:Rng):Rng:=if emp a || emp b || emp ⟨greater a.lo b.lo,lesser a.hi b.hi⟩ then zr else ⟨greater a.lo b.lo,lesser a.hi b.hi⟩
def ZtU (a b:Rng):Rng:=if emp a && emp b then zr else if emp a then b else if emp b then a else ⟨lesser a.lo b.lo,greater a.hi b.hi⟩
def proper (r:Rng):Rng:=if emp r then zr else r
end Go.Proofs.YtkcmgbbopedacaaGreatDoor
