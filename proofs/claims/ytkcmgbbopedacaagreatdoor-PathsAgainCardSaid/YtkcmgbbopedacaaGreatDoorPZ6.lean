/-
  Lemmas: Operations over states
-/
import Derived.Test.YtkcmgbbopedacaaGreatDoorPZ5
set_option linter.unusedSimpArgs false
set_option linter.unusedVariables false
namespace Go.Proofs.YtkcmgbbopedacaaGreatDoor
open Go.RowKit
theorem OpV.mono {P:Program} {o:Oper} {H:Hp} {sl:List (Nat × V)} {lo nn:Nat} {ψ ψ':V→Hp→Prop} (h:OpV P o H sl lo nn ψ) (hm:∀ u h,ψ u h→ψ' u h):OpV P o H sl lo nn ψ':=fun B a w ρ h1 h2 h3 h4 h5 =>
 Oper.wp_mono' (h B a w ρ h1 h2 h3 h4 h5) (fun _ _ ⟨v,u,h,ρ',g1,g2,g3⟩=>⟨v,u,h,ρ',g1,hm _ _ g2,g3⟩) fun _ _ _ h=>h
theorem Dv.mono {P:Program} {ops:Array Oper} {o:Oper} {H:Hp} {sl:List (Nat × V)} {lo nn:Nat} {ψ ψ':V→Hp→Prop} (h:Dv P ops o H sl lo nn ψ) (hm:∀ u h,ψ u h→ψ' u h):Dv P ops o H sl lo nn ψ':=by
 rcases h with ⟨h1,h2⟩ | ⟨h1,h2⟩
 ·exact .inl ⟨h1,h2.mono hm⟩
 ·exact .inr ⟨h1,hm _ _ h2⟩
section
variable {Γ:Cx} {ops:Array Oper} {pl:List PI} {hp0:Hp} {sl0:List (Nat × V)} {k:Zcc}
def dvs (Γ:Cx) (ops:Array Oper) (hp0:Hp) (sl0:List (Nat × V)) (E:List En) (p:En→Prop):Prop:=∀ X e Y,E=X++e::Y→p e→Dv Γ.P ops e.o (keep e.f.ks (hpE Y++hp0)) (keep e.f.p.ts (slE Y++sl0)) e.f.lo e.f.nn (fun u h=>u=e.u∧h=e.h)
structure ZxX (Γ:Cx) (ops:Array Oper) (pl:List PI) (hp0:Hp) (sl0:List (Nat × V)) (k:Zcc) (E T:List En) (rest:List PI):Prop where
 sim:Sim Γ ops pl hp0 E T rest
 wd:WD Γ ops k rest (E.map (·.f)) ⟨slE E++sl0,hpE E++hp0⟩
 nd:∀ p r,rest=p::r→(r.all fun q=>Zdu q.an p.i)=true
 dv:dvs Γ ops hp0 sl0 E fun e=>∀ x ∈ T,x.i≠e.i
structure Ls (ops:Array Oper) (listed:Array Bool) (T:List En):Prop where
 nodup:(T.map (·.i)).Nodup
 size:listed.size=ops.size
 ls:∀ i,i<ops.size→(listed.getD i false=true↔∃ x ∈ T,x.i=i)
theorem ZoE (p:En→Prop):∀ {rest:List PI} {E:List En},pl=(E.map (·.f.p)).reverse++rest→Good Γ ops hp0 E→WD Γ ops k rest (E.map (·.f)) ⟨slE E++sl0,hpE E++hp0⟩→dvs Γ ops hp0 sl0 E p →
   ∃ E' rest',pl=(E'.map (·.f.p)).reverse++rest'∧Good Γ ops hp0 E'∧WD Γ ops k rest' (E'.map (·.f)) ⟨slE E'++sl0,hpE E'++hp0⟩∧(∀ p r,rest'=p::r→(r.all fun q=>Zdu q.an p.i)=true)∧dvs Γ ops hp0 sl0 E' p∧∀ x ∈ E,x ∈ E'
 | [],E,h1,h2,h3,h4=>⟨E,[],h1,h2,h3,by simp,h4,fun _ h=>h⟩
 | q::r,E,h1,h2,h3,h4=>by
  have hwd:=h3
  unfold WD at h3
  obtain ⟨o,ks,ws,lo,nn,ψ,g1,g2,g3,g4,g5,g6,g7,g8⟩:=h3
  rcases g7 with ⟨u,h,hψ,g7⟩ | g7
  ·have ee:slE ((⟨⟨q,ks,ws,lo,nn⟩,o,u,h⟩:En)::E)++sl0=Zoq o.dst u (slE E++sl0):=by rw [slE,Zgs]
   have e2:hpE ((⟨⟨q,ks,ws,lo,nn⟩,o,u,h⟩:En)::E)++hp0=h++(hpE E++hp0):=by rw [hpE,List.append_assoc]
   obtain ⟨E',rest',i1,i2,i3,i4,i5,i6⟩:=ZoE p (rest:=r) (E:=⟨⟨q,ks,ws,lo,nn⟩,o,u,h⟩::E) (by rw [h1]; simp) (.cons h2 g1 g2 g3 g4 (g6 u h hψ)) (by rw [ee,e2]; exact g8 u h hψ) (fun X e Y he hp=>by
    cases X with
    | nil =>
     simp only [List.nil_append,List.cons.injEq] at he
     obtain ⟨rfl,rfl⟩:=he
     exact g5.mono g7
    | cons x X =>
     simp only [List.cons_append,List.cons.injEq] at he
     exact h4 X e Y he.2 hp)
   exact ⟨E',rest',i1,i2,i3,i4,i5,fun x hx=>i6 x (List.mem_cons_of_mem _ hx)⟩
  ·exact ⟨E,q::r,h1,h2,hwd,fun p' r' he=>by simp only [List.cons.injEq] at he; obtain ⟨rfl,rfl⟩:=he; exact g7,h4,fun _ h=>h⟩
variable {E T Y:List En} {rest:List PI} {f:Ft} {listed:Array Bool} {a:Act} {w:World}
theorem ZgU {n:Nat} (hs:listed.size=n) {i:Nat} (hi:i<n):listed.getD i true=listed.getD i false:=by
 have:i<listed.size:=by omega
 simp [Array.getD,this]
theorem Sim.inrest (s:Sim Γ ops pl hp0 E T rest) {x:En} (hx:x ∈ E) {p:PI} (hp:p ∈ rest) (h:x.i=p.i):False:=by
 have hn:=s.ok.nd
 rw [s.eq,List.map_append,List.nodup_append] at hn
 exact hn.2.2 x.i (List.mem_map.2 ⟨x.f.p,by simpa using ⟨x,hx,rfl⟩,rfl⟩) p.i (List.mem_map.2 ⟨p,hp,rfl⟩) h
theorem Sim.ancT (s:Sim Γ ops pl hp0 E T rest) {p:PI} {o:Oper} (hp:p ∈ pl) (ho:ops[p.i]?=some o) (he:∀ e ∈ o.after,Region.binds .any e=true→∃ x ∈ T,x.i=e.on):∀ j,Zdu p.an j=true→∃ y ∈ T,y.i=j:=fun j hj=>by
 obtain ⟨a,b,hab⟩:=List.append_of_mem hp
 obtain ⟨e,h1,h2,h3⟩:=s.ok.anc a p b o j hab ho hj
 obtain ⟨x,hx,h4⟩:=he e h1 h2
 rcases h3 with rfl | ⟨q,hq,h5,h6⟩
 ·exact ⟨x,hx,h4⟩
 ·have:x.f.p=q:=Zv5 s.ok (s.inpl (s.sub x hx)) (by rw [hab]; exact List.mem_append_left _ hq) (h4.trans h5.symm)
  exact s.cl x hx j (by rw [this]; exact h6)
theorem ZxX.done (I:ZxX Γ ops pl hp0 sl0 k E T rest) (L:Ls ops listed T) (hr:Rel Γ ⟨slE T++sl0,hpE T++hp0⟩ a w) (h0:Region.ready .any ops listed=[]):QQ Γ k .normal a w:=by
 have s:=I.sim
 have hall:∀ (n:Nat) (x:List PI) (p:PI) (b:List PI),x.length=n→pl=x++p::b→∃ y ∈ T,y.i=p.i:=by
  intro n
  induction n using Nat.strongRecOn with
  | _ n ih =>
   intro x p b hx he
   have hpm:p ∈ pl:=by rw [he]; simp
   have hlt:=s.ok.lt p hpm
   apply Classical.byContradiction
   intro hno
   have h1:listed.getD p.i false=false:=by
    cases hb:listed.getD p.i false with
    | false=>rfl
    | true=>exact absurd ((L.ls p.i hlt).1 hb) hno
   have h2:p.i ∈ Region.ready .any ops listed:=mem_ready.2 ⟨by rw [ZgU L.size hlt]; exact h1,_,Array.getElem?_eq_getElem hlt,fun e h3 h4=>by
    have h5:=s.ok.edge x p b _ e he (Array.getElem?_eq_getElem hlt) h3 h4
    obtain ⟨q,hq,h6⟩:=List.mem_map.1 h5
    obtain ⟨x1,x2,rfl⟩:=List.append_of_mem hq
    obtain ⟨y,hy,h7⟩:=ih x1.length (by simp at hx; omega) x1 q (x2++p::b) rfl (by rw [he]; simp)
    have h8:q.i<ops.size:=s.ok.lt q (by rw [he]; simp)
    rw [← h6]
    exact (L.ls q.i h8).2 ⟨y,hy,h7⟩⟩
   rw [h0] at h2; cases h2
 have hallp:∀ p ∈ pl,∃ y ∈ T,y.i=p.i:=fun p hp=>by
  obtain ⟨x,b,h⟩:=List.append_of_mem hp
  exact hall _ x p b rfl h
 have hrest:rest=[]:=by
  cases hr:rest with
  | nil=>rfl
  | cons p r =>
   obtain ⟨y,hy,h1⟩:=hallp p (by rw [s.eq,hr]; simp)
   exact (s.inrest (s.sub y hy) (p:=p) (by rw [hr]; simp) h1).elim
 have hmem:∀ x,x ∈ E↔x ∈ T:=fun x=>⟨fun hx=>by
  obtain ⟨y,hy,h1⟩:=hallp _ (s.inpl hx)
  rw [← Zky s.ok s.eq (s.sub y hy) hx h1]; exact hy,s.sub x⟩
 obtain ⟨ρ,hr⟩:=hr
 have hwd:=I.wd
 rw [hrest] at hwd
 refine ⟨_,hwd,ρ,hr.look (fun t=>?_) fun j=>?_⟩
 ·simp only
  rw [Yg,Yg]
  by_cases hex:∃ e ∈ E,e.o.dst=some t
  ·obtain ⟨e,he,hd⟩:=hex
   have huq:∀ x ∈ E,x.o.dst=some t→x=e:=fun x hx hxd=>Zky s.ok s.eq hx he (s.ok.dst _ _ _ _ t (s.good.mem hx).1 (s.good.mem he).1 hxd hd)
   rw [ZeZ hd huq he,ZeZ hd (fun x hx=>huq x (s.sub x hx)) ((hmem e).1 he)]
  ·rw [Zd4 fun e he hd=>hex ⟨e,he,hd⟩,Zd4 fun e he hd=>hex ⟨e,s.sub e he,hd⟩]
 ·simp only
  have hcm:=s.good.cm j
  rw [Yg,Yg,ZtJ (Zly s.ok s.eq) s.srt hcm (fun x hx y hy=>hcm x (s.sub x hx) y (s.sub y hy)) fun x _=>hmem x]
theorem Ls.next (L:Ls ops listed T) {e:En} (hi:e.i<ops.size) (hno:∀ x ∈ T,x.i≠e.i):Ls ops (listed.setIfInBounds e.i true) (e::T):=by
 refine ⟨?_,by simpa using L.size,fun j hj=>?_⟩
 ·simp only [List.map_cons,List.nodup_cons]
  refine ⟨fun hm=>?_,L.nodup⟩
  obtain ⟨x,hx,h1⟩:=List.mem_map.1 hm
  exact hno x hx h1
 ·by_cases h:e.i=j
  ·have h2:j<listed.size:=by rw [L.size]; exact hj
   have h3:(listed.setIfInBounds e.i true).getD j false=true:=by rw [h]; simp [Array.getD,h2]
   rw [h3]
   exact ⟨fun _=>⟨e,List.mem_cons_self,h⟩,fun _=>rfl⟩
  ·rw [getD_set_ne false h,L.ls j hj]
   constructor
   ·rintro ⟨x,hx,h1⟩; exact ⟨x,List.mem_cons_of_mem _ hx,h1⟩
   ·rintro ⟨x,hx,h1⟩
    rcases List.mem_cons.1 hx with rfl | hx
    ·exact absurd h1 h
    ·exact ⟨x,hx,h1⟩
theorem Sim.next (s:Sim Γ ops pl hp0 E T rest) {E':List En} {rest':List PI} {e:En} (h1:pl=(E'.map (·.f.p)).reverse++rest') (h2:Good Γ ops hp0 E') (hs:∀ x ∈ E,x ∈ E') (he:e ∈ E') (hno:∀ x ∈ T,x.i≠e.i) (han:∀ j,Zdu e.f.p.an j=true→∃ y ∈ T,y.i=j):Sim Γ ops pl hp0 E' (e::T) rest':=by
 refine ⟨s.ok,h1,h2,fun x hx=>?_,fun x hx j hj=>?_,List.pairwise_cons.2 ⟨fun y hy hb=>?_,s.srt⟩⟩
 ·rcases List.mem_cons.1 hx with rfl | hx
  ·exact he
  ·exact hs x (s.sub x hx)
 ·rcases List.mem_cons.1 hx with rfl | hx
  ·obtain ⟨y,hy,h3⟩:=han j hj; exact ⟨y,List.mem_cons_of_mem _ hy,h3⟩
  ·obtain ⟨y,hy,h3⟩:=s.cl x hx j hj; exact ⟨y,List.mem_cons_of_mem _ hy,h3⟩
 ·obtain ⟨z,hz,h3⟩:=s.cl y hy _ hb
  exact hno z hz h3
theorem Zk5:∀ (fuel:Nat) {E T:List En} {rest:List PI} {listed:Array Bool} {a:Act} {w:World},ZxX Γ ops pl hp0 sl0 k E T rest→Ls ops listed T→Rel Γ ⟨slE T++sl0,hpE T++hp0⟩ a w→fuel+T.length=ops.size→wpAny Γ.P .any ops (QQ Γ k) fuel listed a w
 | 0,E,T,rest,listed,a,w,I,L,hr,hf=>by
  have h0:Region.ready .any ops listed=[]:=by
   apply List.eq_nil_iff_forall_not_mem.2
   intro i hi
   obtain ⟨h1,o,h2,-⟩:=mem_ready.1 hi
   have hi:=(Array.getElem?_eq_some_iff.1 h2).1
   have h3:=ZgK ops.size (T.map (·.i)) L.nodup (fun x hx=>by
    obtain ⟨e,he,rfl⟩:=List.mem_map.1 hx
    exact I.sim.ok.lt _ (I.sim.inpl (I.sim.sub e he))) (by simpa using hf) i hi
   obtain ⟨e,he,h4⟩:=List.mem_map.1 h3
   rw [ZgU L.size hi,(L.ls i hi).2 ⟨e,he,h4⟩] at h1; cases h1
  exact ⟨h0,I.done L hr h0⟩
 | fuel+1,E,T,rest,listed,a,w,I,L,hr,hf=>by
  refine ⟨fun h0=>I.done L hr h0,fun i hi=>?_⟩
  have s:=I.sim
  obtain ⟨h1,o,ho,hed⟩:=mem_ready.1 hi
  have hi:=(Array.getElem?_eq_some_iff.1 ho).1
  rw [ZgU L.size hi] at h1
  have hno:∀ x ∈ T,x.i≠i:=fun x hx h=>by
   rw [(L.ls i hi).2 ⟨x,hx,h⟩] at h1; cases h1
  obtain ⟨p,hp,rfl⟩:=List.mem_map.1 (s.ok.all i hi)
  have hT:∀ e ∈ o.after,Region.binds .any e=true→∃ x ∈ T,x.i=e.on:=fun e he hb=>by
   obtain ⟨a1,b1,hab⟩:=List.append_of_mem hp
   have h5:=s.ok.edge a1 p b1 o e hab ho he hb
   obtain ⟨q,hq,h6⟩:=List.mem_map.1 h5
   have h7:e.on<ops.size:=by rw [← h6]; exact s.ok.lt q (by rw [hab]; exact List.mem_append_left _ hq)
   exact (L.ls _ h7).1 (hed e he hb)
  have han:=s.ancT hp ho hT
  have hor:p ∈ (E.map (·.f.p)).reverse∨p ∈ rest:=by rw [s.eq] at hp; exact List.mem_append.1 hp
  rcases hor with hpE' | hpr
  ·have:∃ e ∈ E,e.f.p=p:=by simpa using hpE'
   obtain ⟨e,he,rfl⟩:=this
   obtain ⟨X,Y,hE⟩:=List.append_of_mem he
   obtain ⟨g1,g2,g3,g4,g5,g6,g7⟩:=s.good.at hE
   have hY:∀ x ∈ Y,x ∈ E:=fun x hx=>by rw [hE]; simp [hx]
   have hplY:pl=(Y.map (·.f.p)).reverse++e.f.p::((X.map (·.f.p)).reverse++rest):=by rw [s.eq,hE]; simp
   have A:At8 Γ ops pl hp0 E T Y e.f:=⟨hY,g5,g4,fun x hx=>by
    rw [hE] at hx
    rcases List.mem_append.1 hx with hx | hx
    ·exact .inr (.inr (g7 x hx))
    ·rcases List.mem_cons.1 hx with rfl | hx
     ·exact .inr (.inl rfl)
     ·exact .inl hx,han,fun j hj=>by
    have:=s.ok.anc_mem _ rfl hplY hj
    obtain ⟨q,hq,h2⟩:=List.mem_map.1 this
    have:∃ y ∈ Y,y.f.p=q:=by simpa using hq
    obtain ⟨y,hy,rfl⟩:=this
    exact ⟨y,hy,h2⟩,hno,Zly s.ok hplY,hp,fun x hx hb=>s.ok.noY hplY hx hb⟩
   have ho':o=e.o:=Option.some.inj (ho.symm.trans g2)
   subst ho'
   refine A.run (sl0:=sl0) s hr g2 g3 (I.dv X e Y hE hno) ?_
   rintro u h a' w' ⟨rfl,rfl⟩ hr'
   refine Zk5 fuel (T:=e::T) (rest:=rest) (E:=E) ⟨s.next s.eq s.good (fun _ h=>h) he hno han,I.wd,I.nd,fun X e Y h1 h2=>I.dv X e Y h1 fun x hx=>h2 x (List.mem_cons_of_mem _ hx)⟩ (L.next hi hno) ?_ (by simp only [List.length_cons]; omega)
   rw [slE,Zgs,hpE,List.append_assoc]; exact hr'
  ·cases hrest:rest with
   | nil=>rw [hrest] at hpr; cases hpr
   | cons q r =>
    have hq:p=q:=by
     rw [hrest] at hpr
     rcases List.mem_cons.1 hpr with h | h
     ·exact h
     ·have h2:=List.all_eq_true.1 (I.nd q r hrest) p h
      obtain ⟨y,hy,h3⟩:=han _ h2
      exact (s.inrest (s.sub y hy) (p:=q) (by rw [hrest]; simp) h3).elim
    subst hq
    have hwd:=I.wd
    rw [hrest] at hwd
    unfold WD at hwd
    obtain ⟨o',ks,ws,lo,nn,ψ,g1,g2,g3,g4,g5,g6,-,g8⟩:=hwd
    have ho':o=o':=Option.some.inj (ho.symm.trans g1)
    subst ho'
    have hplE:pl=(E.map (·.f.p)).reverse++p::r:=by rw [s.eq,hrest]
    have A:At8 Γ ops pl hp0 E T E ⟨p,ks,ws,lo,nn⟩:=⟨fun _ h=>h,g4,g3,fun x hx=>.inl hx,han,fun j hj=>by
     have:=s.ok.anc_mem _ rfl hplE hj
     obtain ⟨q,hq,h2⟩:=List.mem_map.1 this
     have:∃ y ∈ E,y.f.p=q:=by simpa using hq
     obtain ⟨y,hy,rfl⟩:=this
     exact ⟨y,hy,h2⟩,hno,Zly s.ok s.eq,hp,fun x hx hb=>s.ok.noY hplE hx hb⟩
    refine A.run (sl0:=sl0) s hr g1 g2 g5 ?_
    intro u h a' w' hψ hr'
    have e1:slE ((⟨⟨p,ks,ws,lo,nn⟩,o,u,h⟩:En)::E)++sl0=Zoq o.dst u (slE E++sl0):=by rw [slE,Zgs]
    have e2:hpE ((⟨⟨p,ks,ws,lo,nn⟩,o,u,h⟩:En)::E)++hp0=h++(hpE E++hp0):=by rw [hpE,List.append_assoc]
    obtain ⟨E',rest',i1,i2,i3,i4,i5,i6⟩:=ZoE (pl:=pl) (k:=k) (sl0:=sl0) (fun e=>∀ x ∈ (⟨⟨p,ks,ws,lo,nn⟩,o,u,h⟩:En)::T,x.i≠e.i) (rest:=r) (E:=⟨⟨p,ks,ws,lo,nn⟩,o,u,h⟩::E) (by rw [hplE]; simp) (.cons s.good g1 g2 g3 g4 (g6 u h hψ)) (by rw [e1,e2]; exact g8 u h hψ) (fun X e Y he hp=>by
     cases X with
     | nil =>
      simp only [List.nil_append,List.cons.injEq] at he
      obtain ⟨rfl,rfl⟩:=he
      exact absurd rfl (hp _ List.mem_cons_self)
     | cons x X =>
      simp only [List.cons_append,List.cons.injEq] at he
      obtain ⟨rfl,he⟩:=he
      exact I.dv X e Y he fun x hx=>hp x (List.mem_cons_of_mem _ hx))
    refine Zk5 fuel (T:=⟨⟨p,ks,ws,lo,nn⟩,o,u,h⟩::T) (rest:=rest') (E:=E') ⟨s.next i1 i2 (fun x hx=>i6 x (List.mem_cons_of_mem _ hx)) (i6 _ List.mem_cons_self) hno han,i3,i4,i5⟩ (L.next (e:=⟨⟨p,ks,ws,lo,nn⟩,o,u,h⟩) hi hno) ?_ (by simp only [List.length_cons]; omega)
    rw [slE,Zgs,hpE,List.append_assoc]; exact hr'
end
theorem Rel.drawn {Γ:Cx} {st:St} {a:Act} {w:World} (h:Rel Γ st a w) (n:Nat):Rel Γ st a { w with drawn:=n }:=by
 obtain ⟨ρ,hr⟩:=h
 have s:=Step.same (B:=Γ.B) st.hp ρ (w:=w) (w':={ w with drawn:=n }) rfl rfl rfl rfl
 have:=hr.step (d:=none) (u:=.un) (v:=undef) (fun _ _ h=>h) s .un (by simp)
 exact ⟨ρ,this⟩
theorem Zy {Γ:Cx} {k:Zcc} {id:Nat} {l:List Oper} {sl:List (Nat × V)} {hp:Hp} (pl:List PI) (hm:Γ.P.follows .mixedOrders=true) (hc:Zt4 l pl=true) (h:WD Γ l.toArray k pl [] ⟨sl,hp⟩):WC Γ (.region id l.toArray true) k ⟨sl,hp⟩:=fun a w hr=>by
 refine wp_region_any hm ?_
 have ok:=ZdH.of hc
 obtain ⟨E,rest,i1,i2,i3,i4,i5,-⟩:=ZoE (Γ:=Γ) (ops:=l.toArray) (pl:=pl) (hp0:=hp) (sl0:=sl) (k:=k) (fun e=>∀ x ∈ ([]:List En),x.i≠e.i) (rest:=pl) (E:=[]) (by simp) .nil h (fun X e Y he=>by simp at he)
 refine Zk5 l.toArray.size (E:=E) (T:=[]) (rest:=rest) ⟨⟨ok,i1,i2,by simp,by simp,.nil⟩,i3,i4,i5⟩ ⟨by simp,by simp,fun i hi=>?_⟩ (hr.drawn _) (by simp)
 simp [Array.getD]
end Go.Proofs.YtkcmgbbopedacaaGreatDoor
namespace Go.Proofs.YtkcmgbbopedacaaGreatDoor
open Go.RowKit
section
variable {Γ:Cx} {k:Zcc} {sl:List (Nat × V)} {hp:Hp} {o:Oper} {ops:Array Oper} {lo nn i an d:Nat} {ts:List Nat} {r:List PI} {F:List Ft} {u:V} {h:Hp}
theorem Ztd (h:WK Γ k .normal ⟨sl,hp⟩):WD Γ ops k [] F ⟨sl,hp⟩:=h
theorem ZrK (k:Nat) (b:Option Blk):inW [(k,b)] [k]=true:=by simp [inW,Zgy]
theorem Zyr (k k':Nat) (b b':Option Blk):inW [(k,b),(k',b')] [k,k']=true:=by
 simp only [inW,List.all_cons,List.all_nil,Bool.and_true,Bool.and_eq_true]
 exact ⟨Ze4.2 (by simp),Ze4.2 (by simp)⟩
def WO (Γ:Cx) (ops:Array Oper) (k:Zcc) (o:Oper) (i an:Nat) (ts:List Nat) (r:List PI) (F:List Ft) (st:St):Prop:=ops[i]?=some o→WD Γ ops k (⟨i,an,ts⟩::r) F st
theorem ZvW (ho:ops[i]?=some o) (h:WO Γ ops k o i an ts r F ⟨sl,hp⟩):WD Γ ops k (⟨i,an,ts⟩::r) F ⟨sl,hp⟩:=h ho
theorem Zzi (hd:o.dst=some d) (hdl:Nat.blt d Γ.nt=true) (hw:Wt ops o (keep ts sl) false) (hk:WD Γ ops k r (⟨⟨i,an,ts⟩,[],[],0,0⟩::F) ⟨(d,.t [])::sl,hp⟩) (hf:okF ⟨⟨i,an,ts⟩,[],[],0,0⟩ F=true):WO Γ ops k o i an ts r F ⟨sl,hp⟩:=fun ho =>
 ⟨o,[],[],0,0,fun u h=>u=.t []∧h=[],ho,fun t e=>by rw [hd] at e; cases e; exact Zdv hdl,QX _ _,hf,.inr ⟨hw,rfl,rfl⟩,by rintro _ _ ⟨rfl,rfl⟩; rfl,.inl ⟨_,_,⟨rfl,rfl⟩,fun _ _ h=>h⟩,by rintro _ _ ⟨rfl,rfl⟩; rw [hd]; exact hk⟩
theorem ZtR {ks ws:List Nat} (hm:OpV Γ.P o (keep ks hp) (keep ts sl) lo nn fun u' h'=>u'=u∧h'=h) (hd:o.dst=some d) (hw:Wt ops o (keep ts sl) true) (hdl:Nat.blt d Γ.nt=true) (hin:inW h ws=true) (hfr:ZZ hp lo nn=true) (hf:okF ⟨⟨i,an,ts⟩,ks,ws,lo,nn⟩ F=true)
   (hk:WD Γ ops k r (⟨⟨i,an,ts⟩,ks,ws,lo,nn⟩::F) ⟨(d,u)::sl,h++hp⟩):WO Γ ops k o i an ts r F ⟨sl,hp⟩:=fun ho =>
 ⟨o,ks,ws,lo,nn,_,ho,fun t e=>by rw [hd] at e; cases e; exact Zdv hdl,hfr,hf,.inl ⟨hw,hm⟩,by rintro _ _ ⟨rfl,rfl⟩; exact hin,.inl ⟨_,_,⟨rfl,rfl⟩,fun _ _ h=>h⟩,by rintro _ _ ⟨rfl,rfl⟩; rw [hd]; exact hk⟩
theorem ZxR (ks ws:List Nat) {ψ:V→Hp→Prop} (hm:OpV Γ.P o (keep ks hp) (keep ts sl) lo nn ψ) (hd:o.dst=some d) (hw:Wt ops o (keep ts sl) true) (hdl:Nat.blt d Γ.nt=true) (hfr:ZZ hp lo nn=true) (hf:okF ⟨⟨i,an,ts⟩,ks,ws,lo,nn⟩ F=true) (hnd:(r.all fun q=>Zdu q.an i)=true) (hin:∀ u h,ψ u h→inW h ws=true)
   (hk:∀ u h,ψ u h→WD Γ ops k r (⟨⟨i,an,ts⟩,ks,ws,lo,nn⟩::F) ⟨(d,u)::sl,h++hp⟩):WO Γ ops k o i an ts r F ⟨sl,hp⟩:=fun ho =>
 ⟨o,ks,ws,lo,nn,ψ,ho,fun t e=>by rw [hd] at e; cases e; exact Zdv hdl,hfr,hf,.inl ⟨hw,hm⟩,hin,.inr hnd,fun u h hψ=>by rw [hd]; exact hk u h hψ⟩
theorem Yp (ks:List Nat) (hm:OpD Γ.P o (keep ks hp) (keep ts sl) 0 0 u []) (hd:o.dst=some d) (hw:Wt ops o (keep ts sl) true) (hdl:Nat.blt d Γ.nt=true) (hf:okF ⟨⟨i,an,ts⟩,ks,[],0,0⟩ F=true) (hk:WD Γ ops k r (⟨⟨i,an,ts⟩,ks,[],0,0⟩::F) ⟨(d,u)::sl,hp⟩):WO Γ ops k o i an ts r F ⟨sl,hp⟩:=fun ho =>
 ZtR hm.v hd hw hdl rfl (QX _ _) hf hk ho
theorem ZtX (ks:List Nat) {e:Nat} {b:Option Blk} (hm:OpD Γ.P o (keep ks hp) (keep ts sl) lo nn u [(e,b)]) (hd:o.dst=some d) (hw:Wt ops o (keep ts sl) true) (hdl:Nat.blt d Γ.nt=true) (hfr:ZZ hp lo nn=true) (hf:okF ⟨⟨i,an,ts⟩,ks,[e],lo,nn⟩ F=true)
 (hk:WD Γ ops k r (⟨⟨i,an,ts⟩,ks,[e],lo,nn⟩::F) ⟨(d,u)::sl,(e,b)::hp⟩):WO Γ ops k o i an ts r F ⟨sl,hp⟩:=fun ho=>ZtR hm.v hd hw hdl (ZrK _ _) hfr hf hk ho
theorem Zy7 (ks:List Nat) {e e':Nat} {b b':Option Blk} (hm:OpD Γ.P o (keep ks hp) (keep ts sl) lo nn u [(e,b),(e',b')]) (hd:o.dst=some d) (hw:Wt ops o (keep ts sl) true) (hdl:Nat.blt d Γ.nt=true) (hfr:ZZ hp lo nn=true) (hf:okF ⟨⟨i,an,ts⟩,ks,[e,e'],lo,nn⟩ F=true)
 (hk:WD Γ ops k r (⟨⟨i,an,ts⟩,ks,[e,e'],lo,nn⟩::F) ⟨(d,u)::sl,(e,b)::(e',b')::hp⟩):WO Γ ops k o i an ts r F ⟨sl,hp⟩:=fun ho=>ZtR hm.v hd hw hdl (Zyr _ _ _ _) hfr hf hk ho
theorem Zzh (ks:List Nat) {e:Nat} {b:Option Blk} (hm:OpD Γ.P o (keep ks hp) (keep ts sl) 0 0 u [(e,b)]) (hd:o.dst=none) (hw:Wt ops o (keep ts sl) true) (hf:okF ⟨⟨i,an,ts⟩,ks,[e],0,0⟩ F=true)
   (hk:WD Γ ops k r (⟨⟨i,an,ts⟩,ks,[e],0,0⟩::F) ⟨sl,(e,b)::hp⟩):WO Γ ops k o i an ts r F ⟨sl,hp⟩:=fun ho =>
 ⟨o,ks,[e],0,0,fun u' h'=>u'=u∧h'=[(e,b)],ho,fun t h=>(by rw [hd] at h; cases h),QX _ _,hf,.inl ⟨hw,hm.v⟩,by rintro _ _ ⟨rfl,rfl⟩; exact ZrK _ _,.inl ⟨_,_,⟨rfl,rfl⟩,fun _ _ h=>h⟩,by rintro _ _ ⟨rfl,rfl⟩; rw [hd]; exact hk⟩
theorem WK.of_wk {Γ:Cx}:∀ {k:Zcc} {e:Exit} {st st':St},Wk Γ st' st→WK Γ k e st→WK Γ k e st':=by
 intro k
 induction k with
 | fn post=>intro e st st' hw h; cases e <;> first | exact h.elim | (obtain ⟨s,h1,h2⟩:=h; exact ⟨s,hw.trans h1,h2⟩)
 | seq y k ih=>intro e st st' hw h; cases e <;> first | exact fun a w hr=>h a w (hw a w hr) | exact ih hw h
 | block id k ih =>
  intro e st st' hw h
  cases e with
  | exit id' =>
   simp only [WK] at h ⊢
   split
   ·rename_i e; rw [if_pos e] at h; exact ih hw h
   ·rename_i e; rw [if_neg e] at h; exact ih hw h
  | _=>exact ih hw h
 | loop I n k ih=>intro e st st' hw h; cases e <;> first | (obtain ⟨m,s,h1,h2⟩:=h; exact ⟨m,s,hw.trans h1,h2⟩) | exact ih hw h
 | cut I k ih=>intro e st st' hw h; cases e <;> first | (obtain ⟨s,h1,h2⟩:=h; exact ⟨s,hw.trans h1,h2⟩) | exact ih hw h
theorem SR.look {B:Nat→Prop} {sl sl':List (Nat × V)} {ρ:Lc} {a:Act} {w:World} (h:SR B sl ρ a w) (hl:∀ t,look sl' t=look sl t):SR B sl' ρ a w:=fun t u hu=>h t u (by rw [← hl]; exact hu)
theorem Wt.look {ops:Array Oper} {o:Oper} {sl sl':List (Nat × V)} {b:Bool} (h:Wt ops o sl b) (hl:∀ t,look sl' t=look sl t):Wt ops o sl' b:=by
 cases h with
 | no h=>exact .no h
 | y h1 h2 h3 h4=>exact .y h1 h2 h3 (by rw [hl]; exact h4)
 | n h1 h2 h3 h4 h5=>exact .n h1 h2 h3 (by rw [hl]; exact h4) h5
 | u h1 h2 h3 h4=>exact .u h1 h2 h3 (by rw [hl]; exact h4)
theorem WD.look:∀ {pl:List PI} {F:List Ft} {sl sl':List (Nat × V)} {hp:Hp},(∀ t,Go.Proofs.YtkcmgbbopedacaaGreatDoor.look sl' t=Go.Proofs.YtkcmgbbopedacaaGreatDoor.look sl t)→WD Γ ops k pl F ⟨sl,hp⟩→WD Γ ops k pl F ⟨sl',hp⟩
 | [],F,sl,sl',hp,hl,h=>WK.of_wk (st:=⟨sl,hp⟩) (st':=⟨sl',hp⟩) (fun a w ⟨ρ,hr⟩=>⟨ρ,hr.look (fun t=>(hl t).symm) fun _=>rfl⟩) h
 | p::r,F,sl,sl',hp,hl,⟨o,ks,ws,lo,nn,ψ,g1,g2,g3,g4,g5,g6,g7,g8⟩=>by
  have hk:∀ t,Go.Proofs.YtkcmgbbopedacaaGreatDoor.look (keep p.ts sl') t=Go.Proofs.YtkcmgbbopedacaaGreatDoor.look (keep p.ts sl) t:=fun t=>by rw [Zb0,Zb0,hl]
  refine ⟨o,ks,ws,lo,nn,ψ,g1,g2,g3,g4,?_,g6,g7,fun u h hψ=>WD.look (fun t=>?_) (g8 u h hψ)⟩
  ·rcases g5 with ⟨h1,h2⟩ | ⟨h1,h2⟩
   ·exact .inl ⟨h1.look hk,fun B a w ρ e1 e2 e3 e4 e5=>h2 B a w ρ e1 e2 (e3.look fun t=>(hk t).symm) e4 e5⟩
   ·exact .inr ⟨h1.look hk,h2⟩
  ·simp only [ZgQ,hl]
theorem Zsp (t:Nat) {b:Bool} {pl:List PI} (hb:look sl t=some (vB b)) (ht:b=true→WD Γ ops k pl F ⟨(t,vB true)::sl,hp⟩) (hf:b=false→WD Γ ops k pl F ⟨(t,vB false)::sl,hp⟩):WD Γ ops k pl F ⟨sl,hp⟩:=by
 have key:∀ s,look sl s=look ((t,vB b)::sl) s:=fun s=>by
  rw [Zo]; split
  ·subst_vars; exact hb
  ·rfl
 refine WD.look key ?_
 cases b
 ·exact hf rfl
 ·exact ht rfl
theorem Zkv {j t:Nat} {oj:Oper} {b c:Bool} (hg:o.guard=some (j,b)) (hj:ops[j]?=some oj) (ht:oj.dst=some t) (hb:look sl t=some (vB c)) (h1:c=true→WO Γ ops k o i an ts r F ⟨(t,vB true)::sl,hp⟩) (h2:c=false→WO Γ ops k o i an ts r F ⟨(t,vB false)::sl,hp⟩):WO Γ ops k o i an ts r F ⟨sl,hp⟩:=fun ho=>Zsp t hb (fun e=>h1 e ho) fun e=>h2 e ho
theorem Ztu {rest:List Oper} {j t:Nat} {oj:Oper} {b c:Bool} (hg:o.guard=some (j,b)) (hj:ops[j]?=some oj) (ht:oj.dst=some t) (hb:look sl t=some (vB c)) (hne:(b != c)=true) (hd:o.dst=some d) (hdl:Nat.blt d Γ.nt=true)
   (hk:WL Γ ops rest k ⟨(d,.t [])::sl,hp⟩):WL Γ ops (o::rest) k ⟨sl,hp⟩:=fun a w ⟨ρ,hr⟩=>by
 unfold wpList
 have hne':b≠c:=by simpa using hne
 rw [if_neg (by simp [Region.wanted,hg,yields hr.sr hj ht hb]; exact fun e=>hne' e.symm)]
 have:=hr.step (d:=some d) (u:=.t []) (v:=undef) (fun _ _ h=>h) (Step.refl hp ρ w) (RV.t RVs.nil) (fun t e=>by cases e; exact Zdv hdl)
 rw [hd]
 exact hk _ _ ⟨ρ,this⟩
theorem ZvK {rest:List Oper} {j t:Nat} {oj:Oper} {b:Bool} (hg:o.guard=some (j,b)) (hj:ops[j]?=some oj) (ht:oj.dst=some t) (hb:look sl t=some (.t [])) (hd:o.dst=some d) (hdl:Nat.blt d Γ.nt=true)
   (hk:WL Γ ops rest k ⟨(d,.t [])::sl,hp⟩):WL Γ ops (o::rest) k ⟨sl,hp⟩:=fun a w ⟨ρ,hr⟩=>by
 unfold wpList
 rw [if_neg (by simp [Region.wanted,hg,Zmh hr.sr hj ht hb])]
 have:=hr.step (d:=some d) (u:=.t []) (v:=undef) (fun _ _ h=>h) (Step.refl hp ρ w) (RV.t RVs.nil) (fun t e=>by cases e; exact Zdv hdl)
 rw [hd]
 exact hk _ _ ⟨ρ,this⟩
theorem Zz8 {rest:List Oper} (hm:OpV Γ.P o hp sl lo nn fun u' h'=>u'=u∧h'=h) (hg:o.guard=none) (hd:o.dst=some d) (hdl:Nat.blt d Γ.nt=true) (hf:ZZ hp lo nn=true) (hk:WL Γ ops rest k ⟨(d,u)::sl,h++hp⟩):WL Γ ops (o::rest) k ⟨sl,hp⟩ :=
 ZtW hm hg hd hdl hf (by rintro _ _ ⟨rfl,rfl⟩; exact hk)
end
section
variable {Γ:Cx} {k:Zcc} {sl:List (Nat × V)} {hp:Hp} {o:Oper} {ops:Array Oper} {i an d:Nat} {ts:List Nat} {r:List PI} {F:List Ft} {u v:V} {T T' E:TypeId} {x y:Operand} {n kk off z m o1:Nat} {ag:Bool} {cs cs':List V}
theorem Zge {α:Type} (k:Nat) (l:List (Nat × α)):look (keep [k] l) k=look l k:=by rw [Zb0]; simp [Zgy]
theorem ZvE (hop:o.op=.load T x) (hx:ev (keep ts sl) x=some (.p kk off)) (hH:look hp kk=some (some (.box T' cs))) (hT:Ty Γ.P T n ag) (hl:(Nat.ble (off+n) cs.length && (ag || n == 1))=true) (hu:ldC ag n off cs=some u)
   (hd:o.dst=some d) (hw:Wt ops o (keep ts sl) true) (hdl:Nat.blt d Γ.nt=true) (hf:okF ⟨⟨i,an,ts⟩,[kk],[],0,0⟩ F=true) (hk:WD Γ ops k r (⟨⟨i,an,ts⟩,[kk],[],0,0⟩::F) ⟨(d,u)::sl,hp⟩):WO Γ ops k o i an ts r F ⟨sl,hp⟩ :=
 Yp [kk] (o_load hop hx (by rw [Zge]; exact hH) hT hl hu) hd hw hdl hf hk
theorem Zth {z m:Nat} (hop:o.op=.load T x) (hx:ev (keep ts sl) x=some (.e kk off)) (hH:look hp kk=some (some (.arr E z m cs))) (hT:Ty Γ.P T n ag) (hl:(Nat.ble (off+n) cs.length && (ag || n == 1))=true) (hu:ldC ag n off cs=some u)
   (hd:o.dst=some d) (hw:Wt ops o (keep ts sl) true) (hdl:Nat.blt d Γ.nt=true) (hf:okF ⟨⟨i,an,ts⟩,[kk],[],0,0⟩ F=true) (hk:WD Γ ops k r (⟨⟨i,an,ts⟩,[kk],[],0,0⟩::F) ⟨(d,u)::sl,hp⟩):WO Γ ops k o i an ts r F ⟨sl,hp⟩ :=
 Yp [kk] (Zie hop hx (by rw [Zge]; exact hH) hT hl hu) hd hw hdl hf hk
theorem ZvX (hop:o.op=.store T x y) (hx:ev (keep ts sl) x=some (.p kk off)) (hy:ev (keep ts sl) y=some u) (hH:look hp kk=some (some (.box T' cs))) (hT:Ty Γ.P T n ag) (hl:(Nat.ble (off+n) cs.length && (Zq u).length == n && (Zq u).all cellV)=true) (hc:stV off (Zq u) cs=cs')
   (hd:o.dst=none) (hw:Wt ops o (keep ts sl) true) (hf:okF ⟨⟨i,an,ts⟩,[kk],[kk],0,0⟩ F=true) (hk:WD Γ ops k r (⟨⟨i,an,ts⟩,[kk],[kk],0,0⟩::F) ⟨sl,(kk,some (.box T' cs'))::hp⟩):WO Γ ops k o i an ts r F ⟨sl,hp⟩ :=
 Zzh [kk] (Zk4 hop hx hy (by rw [Zge]; exact hH) hT hl hc) hd hw hf hk
theorem ZoV {t E':TypeId} {z' bytes len:Nat} [hS:Sl Γ.P t E z bytes] (hop:o.op=.call { callee:=.builtin .len,args:=#[x],argTypes:=#[t] }) (hx:ev (keep ts sl) x=some (.h kk)) (hH:look hp kk=some (some (.arr E' z' len cs)))
   (hd:o.dst=some d) (hw:Wt ops o (keep ts sl) true) (hdl:Nat.blt d Γ.nt=true) (hf:okF ⟨⟨i,an,ts⟩,[kk],[],0,0⟩ F=true) (hk:WD Γ ops k r (⟨⟨i,an,ts⟩,[kk],[],0,0⟩::F) ⟨(d,vI len)::sl,hp⟩):WO Γ ops k o i an ts r F ⟨sl,hp⟩ :=
 Yp [kk] (Zk1 hop hx (by rw [Zge]; exact hH)) hd hw hdl hf hk
end
theorem Zuv {P:Program} {o:Oper} {H H0:Hp} {sl:List (Nat × V)} {f:FuncId} {us uc:List V} {x:Operand} {xs:Array Operand} {ats:Array TypeId} {u u':V} {h h':Hp} (M:Nat) (g:List (Nat × Nat)) (hs:Spec P f us H0 fun u1 h1=>u1=u∧h1=h)
   (hop:o.op=.call { callee:=.value x,args:=xs,argTypes:=ats }) (hx:ev sl x=some (.d (.c (.func (.func f) #[] #[])))) (ha:evl sl xs.toList=some uc) (hv:Vws [] g uc us) (hH:VH [] H g H0)
   (hal:Qs H g=true) (hol:olds g=true) (hlv:(g.all fun e=>Nat.blt e.1 100 && match look H0 e.1 with | some (some _)=>true | _=>false)=true) (hu:u.ren (rn g M)=u') (hh:Zfw (rn g M) h=h') :
   OpV P o H sl M 100 fun u1 h1=>u1=u'∧h1=h' :=
 (ZlK M g hs hop hx ha hv hH hal hol hlv).mono (by rintro _ _ ⟨_,_,⟨rfl,rfl⟩,rfl,rfl⟩; exact ⟨hu,hh⟩)
theorem Zig {P:Program} {o:Oper} {H:Hp} {sl:List (Nat × V)} {f:FuncId} {us uc:List V} {x:Operand} {xs:Array Operand} {ats:Array TypeId} {u u':V} (M:Nat) (hs:Spec P f us [] fun u1 h1=>u1=u∧h1=[])
 (hop:o.op=.call { callee:=.value x,args:=xs,argTypes:=ats }) (hx:ev sl x=some (.d (.c (.func (.func f) #[] #[])))) (ha:evl sl xs.toList=some uc) (hv:Vws [] [] uc us) (hu:u.ren (rn [] M)=u') :
 OpV P o H sl M 100 fun u1 h1=>u1=u'∧h1=[]:=Zuv M [] hs hop hx ha hv VH.nil rfl rfl rfl hu rfl
end Go.Proofs.YtkcmgbbopedacaaGreatDoor
namespace Go.Proofs.YtkcmgbbopedacaaGreatDoor
open Go.RowKit
attribute [local simp] Sem.run_bind Sem.run_pure Result.andThen_ok
abbrev lst {α:Type} (f:α→List D) (xs:List α):D:=.l xs.length (xs.flatMap f)
theorem ZkA {α:Type} {f:α→List D} {z:Nat} (hf:∀ a,(f a).length=z):∀ {xs:List α} {m:Nat} {a:α},xs[m]?=some a→∀ j d,(f a)[j]?=some d→(xs.flatMap f)[m * z+j]?=some d
 | [],m,a,h,_,_,_=>by simp at h
 | x::xs,0,a,h,j,d,hj=>by
  simp only [List.getElem?_cons_zero,Option.some.injEq] at h; subst h
  rw [List.flatMap_cons,Nat.zero_mul,Nat.zero_add,List.getElem?_append_left (List.getElem?_eq_some_iff.1 hj).1]; exact hj
 | x::xs,m+1,a,h,j,d,hj=>by
  have e:(m+1) * z+j=z+(m * z+j):=by rw [Nat.add_mul]; omega
  rw [List.flatMap_cons,List.getElem?_append_right (by rw [hf]; omega),hf,show (m+1) * z+j - z=m * z+j by omega]
  exact ZkA hf (by simpa using h) j d hj
theorem Zgl {α:Type} {f:α→List D} {z:Nat} (hf:∀ a,(f a).length=z):∀ xs:List α,(xs.flatMap f).length=xs.length * z
 | []=>by simp
 | x::xs=>by rw [List.flatMap_cons,List.length_append,hf,Zgl hf xs,List.length_cons,Nat.add_mul]; omega
theorem Zg0 {α:Type} {f:α→List D} {z:Nat} (hf:∀ a,(f a).length=z):∀ (xs:List α) (n:Nat),(xs.flatMap f).drop (n * z)=(xs.drop n).flatMap f
 | xs,0=>by simp
 | [],n+1=>by simp
 | x::xs,n+1=>by
  rw [List.flatMap_cons,List.drop_succ_cons,← Zg0 hf xs n,Nat.add_mul,Nat.one_mul,Nat.add_comm,← List.drop_drop]
  congr 1
  exact List.drop_left' (hf x)
theorem Zfb {α:Type} {f:α→List D} {z:Nat} (hf:∀ a,(f a).length=z):∀ (xs:List α) (n:Nat),(xs.flatMap f).take (n * z)=(xs.take n).flatMap f
 | xs,0=>by simp
 | [],n+1=>by simp
 | x::xs,n+1=>by
  rw [List.flatMap_cons,List.take_succ_cons,List.flatMap_cons,← Zfb hf xs n,Nat.add_mul,Nat.one_mul,Nat.add_comm]
  rw [List.take_append,hf,List.take_of_length_le (by rw [hf]; omega)]
  congr 2; omega
section
variable {P:Program} {o:Oper} {H:Hp} {sl:List (Nat × V)} {u ux uy:V} {h:Hp} {x y:Operand} {T T' U E t:TypeId} {n k z off bytes m:Nat} {i:Int} {ag:Bool} {cs cs':List V}
theorem Zov {α:Type} {f:α→List D} {xs:List α} {ys:List D} [hS:Sl P t E z bytes] (hop:o.op=.indexAddr t x y) (hx:ev sl x=some (.d (lst f xs))) (hy:ev sl y=some (vI i)) (hf:∀ a,(f a).length=z) (hm:i=(m:Int)) (hl:m<xs.length) (hz:f (xs[m]'hl)=ys):OpD P o H sl 0 0 (.q ys) []:=by
 subst hz
 exact Zyg hop hx hy hm hl (ZkA hf (List.getElem?_eq_getElem hl))
theorem ZgZ {w:World} {ok:Nat→Prop} {ρ:Lc} {pl:List (Nat × Nat)} {place:Nat→Option (Nat × Nat)} (hpl:∀ i x,pl[i]?=some x→place i=some x):∀ {ps:List (Nat × V)} {vs:List (Nat × Value)} {c:List V} {us:List Value} {out:List V},QF pl c ps=some out→ps.length=vs.length→(∀ (j i:Nat) (u:V),ps[j]?=some (i,u)→∃ v,vs[j]?=some (i,v)∧RV w ok ρ u v)→RVs w ok ρ c us→us.all Value.oneCell'=true →
   ∃ os:List Value,Instr.fill place us.toArray vs=some os.toArray∧RVs w ok ρ out os∧os.all Value.oneCell'=true
 | [],[],c,us,out,h,_,_,hc,h1=>by simp only [QF,Option.some.injEq] at h; subst h; exact ⟨us,rfl,hc,h1⟩
 | [],v::vs,c,us,out,h,hl,_,_,_=>by simp at hl
 | (i,u)::ps,[],c,us,out,h,hl,_,_,_=>by simp at hl
 | (i,u)::ps,(i',v)::vs,c,us,out,h,hl,hr,hc,h1=>by
  obtain ⟨v0,h2,h3⟩:=hr 0 i u rfl
  simp only [List.getElem?_cons_zero,Option.some.injEq,Prod.mk.injEq] at h2
  obtain ⟨e1,e2⟩:=h2
  subst e1
  subst e2
  simp only [QF] at h
  split at h
  ·rename_i off n hp
   cases hb:(((Zq u).length == n && Nat.ble (off+n) c.length) && (Zq u).all cellV) with
   | false=>rw [hb] at h; cases h
   | true =>
    rw [hb,cond_true] at h
    simp only [Bool.and_eq_true,beq_iff_eq,Nat.ble_eq] at hb
    obtain ⟨⟨g1,g2⟩,g3⟩:=hb
    obtain ⟨h4,h5⟩:=h3.cells g3
    have hlen:=h4.length
    have hclen:=hc.length
    obtain ⟨os,h6,h7,h8⟩:=ZgZ hpl (ps:=ps) (vs:=vs) h (by simpa using hl) (fun j i u hj=>by
     obtain ⟨v,h9,h10⟩:=hr (j+1) i u (by simpa using hj)
     exact ⟨v,by simpa using h9,h10⟩) (ZgC off h4 hc) (ZgH off h5 h1)
    refine ⟨os,?_,h7,h8⟩
    simp only [Instr.fill,hpl _ _ hp]
    have hsz:v.cells.size=n:=by rw [← Array.length_toList,hlen]; exact g1
    rw [if_neg (by simp [hsz]; omega)]
    have:v.cells.zipIdx.foldl (fun cs (x:Value × Nat)=>cs.setIfInBounds (off+x.2) x.1) us.toArray=(stL off v.cells.toList us).toArray:=by
     have:=ZiK v.cells.toList 0 off us.toArray (by simp only [List.size_toArray,Array.length_toList]; omega)
     rw [Zax off v.cells.toList us (by simp only [Array.length_toList,hsz]; omega)]
     rw [← Array.foldl_toList,Array.toList_zipIdx]
     simpa using this
    rw [this]; exact h6
  ·cases h
theorem Zgx {B:Nat→Prop} {ρ:Lc} {a:Act} {w:World} (hs:SR B sl ρ a w):∀ {ps:List (Nat × Operand)} {l:List (Nat × V)},evs sl ps=some l→l.length=ps.length∧∀ (j i:Nat) (u:V),l[j]?=some (i,u)→∃ v,(ps.map fun p=>(p.1,a.eval p.2))[j]?=some (i,v)∧RV w (okb B w ρ) ρ u v
 | [],l,h=>by simp only [evs,Option.some.injEq] at h; subst h; simp
 | (i,x)::r,l,h=>by
  simp only [evs] at h
  split at h
  ·rename_i u l' h1 h2
   obtain rfl:=Option.some.inj h
   obtain ⟨h3,h4⟩:=Zgx hs h2
   refine ⟨by simp [h3],fun j i' u' hj=>?_⟩
   cases j with
   | zero =>
    simp only [List.getElem?_cons_zero,Option.some.injEq,Prod.mk.injEq] at hj
    obtain ⟨rfl,rfl⟩:=hj
    exact ⟨_,rfl,Zp hs h1⟩
   | succ j=>simpa using h4 j i' u' (by simpa using hj)
  ·cases h
theorem Znk {w:World} {fs:Array Field} {pl:List (Nat × Nat)} (h:(fs.toList.mapM fun fd=>(P.info? fd.type).map fun i=>(fd.offset,i.size))=some pl) :
   (fs.mapM fun f=>(do pure (f.offset,← sizeOf f.type):Sem (Nat × Nat))).run P w=.ok pl.toArray w:=by
 have key:∀ (l:List Field) (pl:List (Nat × Nat)),(l.mapM fun fd=>(P.info? fd.type).map fun i=>(fd.offset,i.size))=some pl→(l.mapM fun f=>(do pure (f.offset,← sizeOf f.type):Sem (Nat × Nat))).run P w=.ok pl w:=by
  intro l
  induction l with
  | nil=>intro pl h; simp at h; subst h; simp
  | cons f l ih =>
   intro pl h
   simp only [List.mapM_cons] at h
   cases hi:P.info? f.type with
   | none=>simp [hi] at h
   | some i =>
    cases hl:l.mapM fun fd=>(P.info? fd.type).map fun i=>(fd.offset,i.size) with
    | none=>simp [hi,hl] at h
    | some pl' =>
     simp [hi,hl] at h
     subst h
     have h1:=ih pl' hl
     have h2:(do pure (f.offset,← sizeOf f.type):Sem (Nat × Nat)).run P w=.ok (f.offset,i.size) w:=by simp [sizeOf,typeInfo,hi]
     rw [List.mapM_cons,Sem.run_bind]
     rw [h2]
     simp only [Result.andThen_ok]
     rw [Sem.run_bind,h1]
     simp
 have e:(fs.mapM fun f=>(do pure (f.offset,← sizeOf f.type):Sem (Nat × Nat)))=(do let l ← fs.toList.mapM fun f=>(do pure (f.offset,← sizeOf f.type):Sem (Nat × Nat)); pure l.toArray):=by
  obtain ⟨l⟩:=fs
  simp
 rw [e]
 simp only [Sem.run_bind,key _ _ h,Result.andThen_ok,Sem.run_pure]
theorem Zic {parts:Array (Nat × Operand)} {pl:List (Nat × Nat)} {zs:List Value} {l:List (Nat × V)} {out:List V} [hB:Bd P T pl zs] (hop:o.op=.build T parts) (hl:evs sl parts.toList=some l) (h1:zs.all Value.oneCell'=true) (hf:QF pl (zs.map fun v=>V.d (.c v)) l=some out):OpD P o H sl 0 0 (.a out) []:=.read fun B a w ρ hs _=>by
 obtain ⟨g1,g2⟩:=Zgx hs hl
 have hp:=hB.pl
 unfold places at hp
 cases hu:P.underlying T with
 | none=>simp [hu] at hp
 | some d =>
  cases d <;> first | (simp [hu] at hp; done) | skip
  rename_i fs
  simp only [hu] at hp
  obtain ⟨os,h3,h4,h5⟩:=ZgZ (w:=w) (ok:=okb B w ρ) (ρ:=ρ) (pl:=pl) (place:=(pl.toArray[·]?)) (fun i x h=>by simpa using h) (vs:=(parts.toList.map fun p=>(p.1,a.eval p.2))) hf (by rw [g1]; simp) g2 (Zot fun v hv=>List.all_eq_true.1 h1 v hv) h1
  refine ⟨.agg os.toArray,?_,.a h4⟩
  unfold execOp; rw [hop]
  have hz:=hB.z
  unfold Zu at hz
  cases hi:P.info? T with
  | none=>simp [hi] at hz
  | some i =>
  cases hzv:i.zero with
  | none=>simp [hi,hzv] at hz
  | some zv =>
  simp only [hi,hzv,Option.bind_some,Option.map_some,Option.some.injEq] at hz
  have hzc:zv.cells=zs.toArray:=by rw [← hz]
  simp only [Instr.build,zeroValue,typeInfo,program,Sem.run_bind,Sem.run,hi,Sem.run_pure,Result.andThen_ok,hzv,run_underlying hu,Znk hp]
  have e:(parts.map fun (i,x)=>(i,a.eval x)).toList=parts.toList.map fun p=>(p.1,a.eval p.2):=by simp
  rw [e,hzc,h3]
  simp
def ZrQ (z:Nat):Nat→List (Nat × Nat)→Bool
 | _,[]=>true
 | k,x::r=>(x.1 == k * z && x.2 == z) && ZrQ z (k+1) r
theorem ZmM {z:Nat}:∀ {pl:List (Nat × Nat)} {k:Nat},ZrQ z k pl=true→∀ i x,pl[i]?=some x→x=((k+i) * z,z)
 | [],k,_,i,x,h=>by simp at h
 | y::r,k,hc,i,x,h=>by
  simp only [ZrQ,Bool.and_eq_true,beq_iff_eq] at hc
  cases i with
  | zero =>
   simp only [List.getElem?_cons_zero,Option.some.injEq] at h; subst h
   exact Prod.ext hc.1.1 hc.1.2
  | succ i =>
   have:=ZmM hc.2 i x (by simpa using h)
   rw [this,show k+1+i=k+(i+1) by omega]
class Ab (P:Program) (T:TypeId) (pl:outParam (List (Nat × Nat))) (zs:outParam (List Value)):Prop where
 out:∃ len E z,P.underlying T=some (.array len E)∧(P.info? E).map (·.size)=some z∧ZrQ z 0 pl=true
 z:Zu P T zs
theorem Zgu {parts:Array (Nat × Operand)} {pl:List (Nat × Nat)} {zs:List Value} {l:List (Nat × V)} {out:List V} [hB:Ab P T pl zs] (hop:o.op=.build T parts) (hl:evs sl parts.toList=some l) (h1:zs.all Value.oneCell'=true) (hf:QF pl (zs.map fun v=>V.d (.c v)) l=some out):OpD P o H sl 0 0 (.a out) []:=.read fun B a w ρ hs _=>by
 obtain ⟨g1,g2⟩:=Zgx hs hl
 obtain ⟨len,E,z,hu,hE,hc⟩:=hB.out
 obtain ⟨os,h3,h4,h5⟩:=ZgZ (w:=w) (ok:=okb B w ρ) (ρ:=ρ) (pl:=pl) (place:=fun i=>some (i * z,z)) (fun i x h=>by have:=ZmM hc i x h; simp at this; simp [this]) (vs:=(parts.toList.map fun p=>(p.1,a.eval p.2))) hf (by rw [g1]; simp) g2 (Zot fun v hv=>List.all_eq_true.1 h1 v hv) h1
 refine ⟨.agg os.toArray,?_,.a h4⟩
 unfold execOp; rw [hop]
 have hz:=hB.z
 unfold Zu at hz
 cases hi:P.info? T with
 | none=>simp [hi] at hz
 | some i =>
 cases hzv:i.zero with
 | none=>simp [hi,hzv] at hz
 | some zv =>
 cases hie:P.info? E with
 | none=>simp [hie] at hE
 | some ie =>
 simp only [hie,Option.map_some,Option.some.injEq] at hE
 simp only [hi,hzv,Option.bind_some,Option.map_some,Option.some.injEq] at hz
 have hzc:zv.cells=zs.toArray:=by rw [← hz]
 simp only [Instr.build,zeroValue,sizeOf,typeInfo,program,Sem.run_bind,Sem.run,hi,hie,Sem.run_pure,Result.andThen_ok,hzv,run_underlying hu]
 have e:(parts.map fun (i,x)=>(i,a.eval x)).toList=parts.toList.map fun p=>(p.1,a.eval p.2):=by simp
 rw [e,hzc,hE,h3]
 simp
end
end Go.Proofs.YtkcmgbbopedacaaGreatDoor
