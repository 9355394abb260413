/-
  Lemmas: Plain laws of the models
-/
import Derived.Test.YtkcmgbbopedacaaGreatDoorPZ26
import Derived.Test.YtkcmgbbopedacaaGreatDoorPZ27
import Derived.Test.YtkcmgbbopedacaaGreatDoorPZ18
import Derived.Test.YtkcmgbbopedacaaGreatDoorPZ24
set_option linter.unusedSimpArgs false
set_option linter.unusedVariables false
namespace Go.Proofs.YtkcmgbbopedacaaGreatDoor
open Go.RowKit
theorem ZhL {t:List Kv} (h:Yu t=true) (p:Kv→Bool):Yu (t.filter p)=true:=by
 rw [XC] at h ⊢
 obtain ⟨h1,h2,h3⟩:=h
 exact ⟨Nat.le_trans (List.length_filter_le _ _) h1,fun r hr=>h2 r (List.mem_filter.1 hr).1,h3.filter p⟩
theorem ZpE (r:Rng) (t:List Kv):((t.filter fun x=>contains r x.key).all fun x=>contains r x.key)=true:=List.all_eq_true.2 fun x hx=>(List.mem_filter.1 hx).2
def P0:ZcG:=⟨0,0,0,⟨0,0⟩,zr,[]⟩
def Zow (r:Rng) (s:YU) (t:List Kv):ZcH:=⟨r,s,t,[],P0,P0,0,0⟩
theorem Zj7 {r:Rng} {s:YU} {t:List Kv} (hr:vld r=true) (hs:Zn3 s=true) (ht:Yu t=true) (hw:(t.all fun x=>contains r x.key)=true):ZbT r s t=some (Zow r s t,0):=by
 have:=((XC t).1 ht).1
 unfold ZbT
 rw [Zn,ZbR,hr,Bool.not_true,Zb,Zn,ZcB,hs,Zaa,ht,Za4,Zn,hw,ZW (by simp; omega)]
 simp only [Za,Bool.not_true,Zb,List.nil_append]
 rfl
theorem Zhw {r:Rng} {s:YU} {t:List Kv} (hr:vld r=true) (hs:Zn3 s=true) (ht:Yu t=true) (hw:(t.all fun x=>contains r x.key)=true):Zcl (Zow r s t)=some true:=by
 have h0:=((XC t).1 ht).1
 have ha:∀ x:Rng,Zcq P0 x=some true:=fun x=>rfl
 unfold Zcl Zow
 simp only [Zn,ZbR,ZcB,Zaa,Za4,hr,hs,ht,hw,Za,Bool.not_true,Zb,ha]
 have e1:decide (64<((([]:List ZaD).length:Nat):Int))=false:=rfl
 have e2:decide (1024<ZJ ((t.length:Int)+((([]:List ZaD).length:Nat):Int)))=false:=decide_eq_false (by
  have:((([]:List ZaD).length:Nat):Int)=0:=rfl
  rw [this,ZA (by omega) (by omega)]; omega)
 have e3:decide (P0.Serial=0)=true:=rfl
 rw [e1,e2,e3]
 rfl
theorem ZhY (id:Int):∀ (l:List Xb) (i:Int),(∀ m ∈ l,m.ID≠id)→Za0 id l i=.nxt ()
 | [],_,_=>rfl
 | m::l,i,h=>by
  rw [Za0.eq_2,decide_eq_false (h m List.mem_cons_self),Zb]
  exact ZhY id l _ fun x hx=>h x (List.mem_cons_of_mem _ hx)
theorem Zsy (n:Int) (b:Bool) (l:List Xb) (id:Int) (h:∀ m ∈ l,m.ID≠id):Zcm ⟨n,b,l⟩ id=-1:=by
 unfold Zcm
 simp only
 rw [ZhY id l 0 h]; rfl
theorem ZtD (b:Bool):∀ ids:List Int,(∀ i ∈ ids,Zfy i=true)→ZaV ids b=some b
 | [],_=>rfl
 | i::l,h=>by
  have ih:=ZtD b l fun x hx=>h x (List.mem_cons_of_mem _ hx)
  rw [ZaV.eq_2,Zn,Zca,h i List.mem_cons_self,Bool.not_true]
  cases b with
  | true=>rw [Zd]; exact ih
  | false=>rw [Zb]; exact ih
theorem Ztv (n:Int) (c:ZcH):∀ (ids:List Int) (acc:List Xb),ids.Nodup→(∀ m ∈ acc,m.ID ∉ ids)→acc.length+ids.length≤1000→ZaT n c ids acc=some (.nxt (acc++ids.map fun i=>⟨i,true,c⟩))
 | [],acc,_,_,_=>by rw [ZaT.eq_1]; simp
 | i::l,acc,h,h1,h2=>by
  have hh:=List.nodup_cons.1 h
  simp only [List.length_cons] at h2
  rw [ZaT.eq_2,Zn,Zsy _ _ _ _ (fun m hm e=>h1 m hm (by rw [e]; exact List.mem_cons_self)),decide_eq_false (by omega),Zb,ZW (by simp; omega),Za]
  rw [Ztv n c l _ hh.2 (fun m hm=>by
   rcases List.mem_append.1 hm with hm | hm
   ·exact fun h3=>h1 m hm (List.mem_cons_of_mem _ h3)
   ·rw [List.mem_singleton.1 hm]; exact hh.1) (by simp; omega)]
  simp
theorem Zj6 {r:Rng} {s:YU} {t:List Kv} (hr:vld r=true) (hs:Zn3 s=true) (ht:Yu t=true) (hw:(t.all fun x=>contains r x.key)=true) {n:Int} (hn:Zfy n=true) {ids:List Int} (h0:0<ids.length) (h5:ids.length≤5) (hi:∀ i ∈ ids,Zfy i=true) (hd:ids.Nodup) :
   ZbS n ids (Zow r s t)=some (⟨n,true,ids.map fun i=>⟨i,true,Zow r s t⟩⟩,0):=by
 unfold ZbS
 rw [Zn,Zca,hn,Zhw hr hs ht hw,decide_eq_false (by omega)]
 simp only [Bool.not_true,Zb,Za]
 rw [ZtD _ ids hi,Za,Zb,decide_eq_false (by omega),Zb,Ztv _ _ _ _ hd (by simp) (by simp; omega),Za,ZB]
 simp
def Tl (t:List Kv):Bnd→List Zr→Bnd→Prop
 | a,[],b=>a=b
 | a,v::l,b=>v.Interval.lo=a∧emp v.Interval=false∧X7 v=true∧v.Rows=t.filter (fun x=>contains v.Interval x.key)∧Tl t v.Interval.hi l b
theorem Tl.snoc {t:List Kv} {v:Zr}:∀ {l:List Zr} {a b:Bnd},Tl t a l b→v.Interval.lo=b→emp v.Interval=false→X7 v=true→v.Rows=t.filter (fun x=>contains v.Interval x.key)→Tl t a (l++[v]) v.Interval.hi
 | [],a,b,h,h1,h2,h3,h4=>⟨by rw [h1]; exact h.symm,h2,h3,h4,rfl⟩
 | x::l,a,b,⟨g1,g2,g3,g4,g5⟩,h1,h2,h3,h4=>⟨g1,g2,g3,g4,g5.snoc h1 h2 h3 h4⟩
theorem Tl.mem {t:List Kv}:∀ {l:List Zr} {a b:Bnd},Tl t a l b→∀ v ∈ l,X7 v=true∧v.Rows=t.filter (fun x=>contains v.Interval x.key)∧emp v.Interval=false
 | [],_,_,_,_,hv=>by simp at hv
 | x::l,a,b,⟨g1,g2,g3,g4,g5⟩,v,hv=>by
  rcases List.mem_cons.1 hv with rfl | hv
  ·exact ⟨g3,g4,g2⟩
  ·exact g5.mem v hv
def Sh (gs:List Z8) (vs:List Zr):Prop:=gs.map ZeG=vs.map fun v=>some (v,0)
theorem Sh.len {gs:List Z8} {vs:List Zr} (h:Sh gs vs):gs.length=vs.length:=by
 have:=congrArg List.length h
 simpa using this
theorem Zwv {r:Rng} (h:emp r=false):vld r=true:=by
 unfold emp at h
 cases hv:vld r with
 | true=>rfl
 | false=>rw [hv] at h; simp at h
theorem Zws {n k:Int} (hn:1≤n∧n≤1000) (hk:0≤k∧k<3):∃ l,lsl ([ZJ (10 * n),ZJ (ZJ (10 * n)+1),ZJ (ZJ (10 * n)+2)]:List Int) 0 (ZJ (1+k))=some (10 * n::l)∧(10 * n::l).length≤5∧(∀ i ∈ 10 * n::l,Zfy i=true)∧(10 * n::l).Nodup:=by
 have e0:ZJ (10 * n)=10 * n:=ZA (by omega) (by omega)
 have e1:ZJ (10 * n+1)=10 * n+1:=ZA (by omega) (by omega)
 have e2:ZJ (10 * n+2)=10 * n+2:=ZA (by omega) (by omega)
 have e3:ZJ (1+k)=1+k:=ZA (by omega) (by omega)
 rw [e0,e1,e2,e3]
 have no:∀ x:Int,1≤x→x≤100000→Zfy x=true:=fun x h1 h2=>by unfold Zfy; rw [decide_eq_true h1,decide_eq_true (by omega)]; rfl
 have hk3:k=0∨k=1∨k=2:=by omega
 rcases hk3 with rfl | rfl | rfl
 ·refine ⟨[],rfl,by simp,fun i hi=>?_,by simp⟩
  simp only [List.mem_cons,List.not_mem_nil,or_false] at hi
  exact no i (by omega) (by omega)
 ·refine ⟨[10 * n+1],rfl,by simp,fun i hi=>?_,by simp; omega⟩
  simp only [List.mem_cons,List.not_mem_nil,or_false] at hi
  exact no i (by omega) (by omega)
 ·refine ⟨[10 * n+1,10 * n+2],rfl,by simp,fun i hi=>?_,by simp; omega⟩
  simp only [List.mem_cons,List.not_mem_nil,or_false] at hi
  exact no i (by omega) (by omega)
theorem ZlX {τ:ZC} (hτ:okT τ) {t:List Kv} (ht:Yu t=true) {out:List Z8} {vs:List Zr} (hsh:Sh out vs) {a:Bnd} {x:Rng} (htl:Tl t a vs x.lo) (hx:emp x=false) (hl:out.length≤500) {K:List Z8→ZC→Option (List Z8 × List Int × Int)} {Q:List Z8 × List Int × Int→Prop}
   (hK:∀ (g:Z8) (v:Zr) (τ':ZC),okT τ'→Sh (out++[g]) (vs++[v])→Tl t a (vs++[v]) x.hi→Tot (K (out++[g]) τ') Q) :
   Tot (Ze (Zt τ 3) fun y19 =>
    Ze (Zt y19.2 2) fun y20 =>
    Ze (YO t x) fun y21 =>
    Ze (ZbT x (YU.mk y19.1 y20.1) y21) fun y22 =>
    Ze (Zt y20.2 3) fun y23 =>
    Ze (lsl ([ZJ (10 * (ZJ ((out.length:Int)+1))),ZJ ((ZJ (10 * (ZJ ((out.length:Int)+1))))+1),ZJ ((ZJ (10 * (ZJ ((out.length:Int)+1))))+2)]:List Int) 0 (ZJ (1+y23.1))) fun l24 =>
    Ze (ZbS (ZJ ((out.length:Int)+1)) l24 y22.1) fun y25 =>
    Ze (app out ([y25.1]:List Z8)) fun l26=>K l26 y23.2) Q:=by
 have h0:=((XC t).1 ht).1
 have hv:=Zwv hx
 refine ZN (Zd7 hτ (by omega)) fun y19 h19=>ZN (Zd7 h19.1 (by omega)) fun y20 h20=>?_
 have c19:=h19.2
 have c20:=h20.2
 unfold Cho at c19 c20
 have hs:Zn3 ⟨y19.1,y20.1⟩=true:=by
  unfold Zn3
  rw [decide_eq_true (by simp only; omega),decide_eq_true (by simp only; omega),decide_eq_true (by simp only; omega),decide_eq_true (by simp only; omega)]; rfl
 have ht2:=ZhL ht fun z=>contains x z.key
 have hw:=ZpE x t
 rw [Zbp _ _ (by omega),Za,Zj7 hv hs ht2 hw,Za]
 refine ZN (Zd7 h20.1 (by omega)) fun y23 h23=>?_
 have c23:=h23.2
 unfold Cho at c23
 rw [ZA (a:=(out.length:Int)+1) (by omega) (by omega)]
 obtain ⟨l,e,h5,hi,hd⟩:=Zws (n:=(out.length:Int)+1) (k:=y23.1) (by omega) (by omega)
 have hn:Zfy ((out.length:Int)+1)=true:=by unfold Zfy; rw [decide_eq_true (by omega),decide_eq_true (by omega)]; rfl
 rw [e,Za,Zj6 hv hs ht2 hw hn (by simp) h5 hi hd,Za,ZW (by simp; omega),Za]
 refine hK _ ⟨10 * ((out.length:Int)+1),x,⟨y19.1,y20.1⟩,t.filter fun z=>contains x z.key⟩ _ h23.1 ?_ ?_
 ·unfold Sh at hsh ⊢
  rw [List.map_append,List.map_append,hsh]
  congr 1
 ·exact Tl.snoc (v:=⟨10 * ((out.length:Int)+1),x,⟨y19.1,y20.1⟩,t.filter fun z=>contains x z.key⟩) htl rfl hx (by
   unfold X7
   simp only
   rw [hi _ List.mem_cons_self,hx,hs,ht2,hw]; rfl) rfl
def ZdB:Bnd:=⟨⟨#[]⟩,true⟩
theorem Zs9:vb ZdB=true:=by kernel_rfl
theorem ZwP {b:Bnd} (h:vb b=true) (ht:b.top=true):b=ZdB:=by
 obtain ⟨k,t⟩:=b
 simp only at ht
 subst ht
 simp only [vb,Bool.not_true,Bool.false_or,Bool.and_eq_true] at h
 obtain ⟨⟨l⟩⟩:=k
 have:=h.2
 rw [ByteArray.toList_eq] at this
 cases l with
 | nil=>rfl
 | cons a l=>simp at this
theorem ZuE {b:Bnd} (h:vb b=true) (he:emp ⟨b,ZdB⟩=true):b=ZdB:=by
 cases ht:b.top with
 | true=>exact ZwP h ht
 | false =>
  exfalso
  have h1:b.lt ZdB=true:=by simp [Bnd.lt,ht,ZdB]
  have h2:cmp b ZdB<0:=(XW _ _).2 h1
  unfold emp vld at he
  simp only at he
  rw [h,Zs9,decide_eq_true (by omega)] at he
  have h3:cmp b ZdB=0:=by simpa using he
  omega
theorem Zwr {a b:Bnd} (ha:vb a=true) (hb:vb b=true) (h:0<cmp b a):emp ⟨a,b⟩=false:=by
 have h2:cmp a b=- cmp b a:=ZiD b a
 unfold emp vld
 simp only
 rw [ha,hb,decide_eq_true (by omega)]
 have:(cmp a b == 0)=false:=by
  cases hh:cmp a b == 0 with
  | false=>rfl
  | true=>have:=eq_of_beq hh; omega
 rw [this]; rfl
theorem ZtL (τ0:ZC) (t:List Kv) (ht:Yu t=true) (cuts:List Bnd × ZC) (hc:cuts.1.length≤100):∀ (fuel:Nat) (l:List Int) (a:Int) (out:List Z8) (lo:Bnd) (i:Nat) (vs:List Zr),okT ⟨l,a⟩→cuts.1.length+1 - i<fuel→out.length≤i→(i≤cuts.1.length+1)→Sh out vs→Tl t zb vs lo→vb lo=true→(i=cuts.1.length+1→lo=ZdB) →
   Tot (Z5 (t,τ0) YE cuts fuel l a out lo.key lo.top (i:Int)) fun z=>okT ⟨z.2.1,z.2.2⟩∧z.1.length≤cuts.1.length+1∧∃ vs,Sh z.1 vs∧Tl t zb vs ZdB
 | 0,_,_,_,_,_,_,_,h,_,_,_,_,_,_=>absurd h (by omega)
 | fuel+1,l,a,out,lo,i,vs,h,hf,ho,hi,hs,htl,hlo,hend=>by
  rw [Z5.eq_2]
  refine ZeX (R:=fun _=>i≤cuts.1.length) (Ye (fun h1=>ZX (by have:=of_decide_eq_true h1; show i≤cuts.1.length; omega)) fun h1=>ZX ⟨h,by simp only; omega,vs,hs,?_⟩) fun _ h1=>?_
  ·have h1:=of_decide_eq_false h1
   rw [hend (by omega)] at htl; exact htl
  have next:∀ (τ:ZC) (out':List Z8) (lo':Bnd) (vs':List Zr),okT τ→out'.length≤i+1→Sh out' vs'→Tl t zb vs' lo'→vb lo'=true→(i=cuts.1.length→lo'=ZdB)→Tot (Z5 (t,τ0) YE cuts fuel τ.l τ.at_ out' lo'.key lo'.top (ZJ ((i:Int)+1))) fun z=>okT ⟨z.2.1,z.2.2⟩∧z.1.length≤cuts.1.length+1∧∃ vs,Sh z.1 vs∧Tl t zb vs ZdB:=fun τ out' lo' vs' g1 g2 g3 g4 g5 g6=>by
   rw [ZA (by omega) (by omega),show (i:Int)+1=((i+1:Nat):Int) by omega]
   exact ZtL τ0 t ht cuts hc fuel τ.l τ.at_ out' lo' (i+1) vs' g1 (by omega) g2 (by omega) g3 g4 g5 (fun h=>g6 (by omega))
  refine ZN (R:=fun b=>b=true→∃ h:i<cuts.1.length,vb cuts.1[i]=true∧0<cmp cuts.1[i] lo) (Ye (fun h2=>?_) fun _=>ZX (by simp)) fun b hb=>?_
  ·have h2:i<cuts.1.length:=by have:=of_decide_eq_true h2; omega
   rw [Yc,List.getElem?_eq_getElem h2,Za,Zn,Qn]
   refine Ye (fun h3=>?_) fun _=>ZX (by simp)
   rw [Za,Zn,ZG]
   exact ZX fun h4=>⟨h2,h3,of_decide_eq_true h4⟩
  refine Ye (fun h2=>?_) fun _=>Ye (fun h3=>?_) fun h3=>?_
  ·obtain ⟨h3,h4,h5⟩:=hb h2
   rw [Yc,List.getElem?_eq_getElem h3,Za,Zn,ZT]
   have he:emp ⟨lo,cuts.1[i]⟩=false:=Zwr hlo h4 h5
   refine Ye (fun h6=>?_) fun _=>?_
   ·exact absurd (he.symm.trans h6) (by simp)
   ·exact ZlX (τ:=⟨l,a⟩) h ht hs (x:=⟨lo,cuts.1[i]⟩) htl he (by omega) (K:=fun o τ=>Z5 (t,τ0) YE cuts fuel τ.l τ.at_ o cuts.1[i].key cuts.1[i].top (ZJ ((i:Int)+1))) fun g v τ' k1 k2 k3=>next τ' _ cuts.1[i] _ k1 (by simp; omega) k2 k3 h4 (fun h=>by omega)
  ·have h3:=of_decide_eq_true h3
   exact next ⟨l,a⟩ out lo vs h (by omega) hs htl hlo (fun h=>by omega)
  ·have h3:=of_decide_eq_false h3
   rw [Zn,ZT]
   have eh:YE.hi=ZdB:=rfl
   refine Ye (fun h6=>?_) fun h6=>?_
   ·exact next ⟨l,a⟩ out lo vs h (by omega) hs htl hlo (fun _=>ZuE hlo (by rw [← eh]; exact h6))
   ·exact ZlX (τ:=⟨l,a⟩) h ht hs (x:=⟨lo,YE.hi⟩) htl h6 (by omega) (K:=fun o τ=>Z5 (t,τ0) YE cuts fuel τ.l τ.at_ o YE.hi.key YE.hi.top (ZJ ((i:Int)+1))) fun g v τ' k1 k2 k3=>next τ' _ YE.hi _ k1 (by simp; omega) k2 k3 Zs9 (fun _=>eh)
theorem ZlQ:∀ (gs:List Z8) (vs out:List Zr),Sh gs vs→out.length+gs.length≤1000→QI gs out=some (out++vs)
 | [],vs,out,h,_=>by
  have:=h.len
  have e:vs=[]:=List.eq_nil_of_length_eq_zero (by simpa using this.symm)
  rw [e,QI.eq_1]; simp
 | g::gs,vs,out,h,hl=>by
  cases vs with
  | nil=>have:=h.len; simp at this
  | cons v vs =>
   unfold Sh at h
   simp only [List.map_cons,List.cons.injEq] at h
   simp only [List.length_cons] at hl
   rw [QI.eq_2,h.1,Za,decide_eq_true rfl,Zd,ZW (by simp; omega),Za,ZlQ gs vs _ h.2 (by simp; omega)]
   simp
theorem Zu3 {τ:ZC} (h:okT τ) {n:Int} (h0:1≤n) (hn:n≤40) {γ:Type} {K:List Zr→ZC→Option γ} {Q:γ→Prop} (hK:∀ (t:List Kv) (vs:List Zr) (τ':ZC),okT τ'→Yu t=true→t.length≤8→(vs.length:Int)≤n→Tl t zb vs ZdB→Tot (K vs τ') Q) :
   Tot (Ze (X3 τ n) fun y=>Ze (Zbd y.1) fun z=>K z y.2) Q:=by
 refine ZN (R:=fun y=>okT y.2∧∃ t vs,Yu t=true∧t.length≤8∧y.1.length≤n∧Sh y.1 vs∧Tl t zb vs ZdB) ?_ ?_
 ·unfold X3
  refine ZN (ZsJ h (by omega) (by omega)) fun y3 h3=>?_
  obtain ⟨g1,g2,g3⟩:=h3
  rw [ZA (by omega) (by omega),Zn]
  refine ZN (ZlT g1 (by omega) (by omega)) fun y5 h5=>?_
  obtain ⟨k1,k2⟩:=h5
  have:=ZtL y3.2 y3.1 g2 y5 (by omega) FU y5.2.l y5.2.at_ [] zb 0 [] k1 (by unfold FU; omega) (by simp) (by omega) rfl rfl (by kernel_rfl) (fun h=>by omega)
  refine ZN this ?_
  rintro ⟨o,l,a⟩ ⟨m1,m2,vs,m3,m4⟩
  simp only at m1 m2 m3 m4
  exact ZX ⟨m1,y3.1,vs,g2,by omega,by simp only; omega,m3,m4⟩
 ·rintro ⟨gs,τ'⟩ ⟨h1,t,vs,h2,h3,h4,h5,h6⟩
  simp only at h1 h4 h5 ⊢
  unfold Zbd
  have:=h5.len
  rw [ZlQ gs vs [] h5 (by simp; omega),Za,List.nil_append,Za]
  exact hK t vs τ' h1 h2 h3 (by omega) h6
end Go.Proofs.YtkcmgbbopedacaaGreatDoor
namespace Go.Proofs.YtkcmgbbopedacaaGreatDoor
open Go.RowKit
theorem ZiG:∀ (l:List Rng) (c:Rng),(mrg c l).length≤l.length+1
 | [],c=>by simp [mrg]
 | r::l,c=>by
  unfold mrg
  split
  ·have:=ZiG l ⟨c.lo,greater c.hi r.hi⟩
   simp; omega
  ·have:=ZiG l r
   simp; omega
theorem Zns (l:List Rng):(union l).length≤l.length:=by
 unfold union
 have h1:((l.filter ne).mergeSort Zfx).length≤l.length:=by rw [List.length_mergeSort]; exact List.length_filter_le _ _
 cases h:(l.filter ne).mergeSort Zfx with
 | nil=>simp [ZdF]
 | cons r l' =>
  rw [h] at h1
  have:=ZiG l' r
  simp only [ZdF,List.length_cons] at h1 ⊢
  omega
theorem Zsi {q:Zf} (h:qok q):(qrg q).length≤4:=by
 obtain ⟨h1,h2,-⟩:=h
 unfold qrg Yi
 rw [if_pos h1]
 refine Nat.le_trans (Zns _) ?_
 unfold qrs
 split
 ·exact h2
 ·split
  ·simp
  ·split <;> simp
theorem Zt0:okW W0:=⟨by simp [W0],by simp [W0],by simp [W0],by simp [W0]⟩
theorem ZmA (r:Rng):(Zm7 r).length≤1:=by
 unfold Zm7
 split <;> simp
theorem ZjL (v:Zr) (p:Rng) (hv:v.Rows.length≤10000):(ZbX v p).View.Rows.length≤10000:=Nat.le_trans (List.length_filter_le _ _) hv
theorem step_ok {w:Zc} (h:okW w) (hn:w.Visits.length≤999) (v:Zr) (hv:v.Rows.length≤10000) (ht:w.Todo.isEmpty=false) (want part:Rng):okW (stepW w v want part)∧(stepW w v want part).Visits.length=w.Visits.length+1∧(stepW w v want part).Todo.length≤w.Todo.length:=by
 have h1:=h.todo
 have h2:0<w.Todo.length:=by
  cases hh:w.Todo with
  | nil=>rw [hh] at ht; cases ht
  | cons a l=>simp
 unfold stepW
 split
 ·have h3:=ZmA ⟨want.lo,part.lo⟩
  refine ⟨⟨h.q,by simp; omega,by simp; omega,fun x hx=>?_⟩,by simp,by simp; omega⟩
  simp only [List.mem_cons] at hx
  rcases hx with rfl | hx
  ·exact ZjL v part hv
  ·exact h.rows x hx
 ·have h3:=ZmA ⟨part.hi,want.hi⟩
  refine ⟨⟨h.q,by simp; omega,by simp; omega,fun x hx=>?_⟩,by simp,by simp; omega⟩
  simp only [List.mem_append,List.mem_singleton] at hx
  rcases hx with hx | rfl
  ·exact h.rows x hx
  ·exact ZjL v part hv
theorem ZpK {w:Zc} (h:okW w) (hn:w.Visits.length≤999) (v:Zr) (hv:v.Rows.length≤10000):okW (Xg w v).1∧(Xg w v).1.Visits.length≤w.Visits.length+1:=by
 unfold Xg
 split
 ·exact ⟨Zt0,by simp [W0]⟩
 ·rename_i h1
  have ht:=Zc5 (ZfB (w:=w) (by simpa using h1))
  split
  ·exact ⟨Zt0,by simp [W0]⟩
  ·split
   ·exact ⟨Zt0,by simp [W0]⟩
   ·have:=step_ok h hn v hv ht (XP w).1 (Yt v.Interval (XP w).1)
    exact ⟨this.1,by simp only; omega⟩
def Zkt (vs:List Zr):Prop:=vs≠[]∧vs.length≤100∧∀ v ∈ vs,v.Rows.length≤8
theorem Tl.good {t:List Kv} (ht:t.length≤8) {vs:List Zr} (hl:vs.length≤100) (h:Tl t zb vs ZdB):Zkt vs:=by
 refine ⟨fun e=>?_,hl,fun v hv=>?_⟩
 ·subst e
  have:zb.top=ZdB.top:=congrArg Bnd.top h
  cases this
 ·rw [(h.mem v hv).2.1]
  exact Nat.le_trans (List.length_filter_le _ _) ht
theorem ZlY (want:Rng) (d:Bool):∀ (l:List Zr) (x:List Int) (a:Int),okT ⟨x,a⟩→Tot (Zx want d l x a) (Zxt (fun y=>okT y.2∧y.1 ∈ l) fun z=>okT ⟨z.1,z.2⟩)
 | [],x,a,h=>ZX h
 | v::l,x,a,h=>by
  rw [Zx.eq_2]
  have on:∀ (x:List Int) (a:Int),okT ⟨x,a⟩→Tot (Zx want d l x a) (Zxt (fun y=>okT y.2∧y.1 ∈ v::l) fun z=>okT ⟨z.1,z.2⟩):=fun x a h=>ZmH (ZlY want d l x a h) fun c hc=>by
   cases c with
   | ret y=>exact ⟨hc.1,List.mem_cons_of_mem _ hc.2⟩
   | nxt z=>exact hc
  have go:Tot (Ze (ZF ⟨x,a⟩ 25) fun y12=>sel (!y12.1) (some (Ctl.ret (v,y12.2))) (Zx want d l y12.2.l y12.2.at_)) (Zxt (fun y=>okT y.2∧y.1 ∈ v::l) fun z=>okT ⟨z.1,z.2⟩) :=
   ZN (Ze3 h (by omega)) fun y hy=>Ye (fun _=>ZX ⟨hy,List.mem_cons_self⟩) fun _=>on _ _ hy
  exact Ye (fun _=>ZaH (Ye (fun _=>ZaH (Ye (fun _=>go) fun _=>(Ye (fun _=>ZaH (Ye (fun _=>ZaH (Ye (fun _=>go) fun _=>on x a h)) fun _=>on x a h)) fun _=>on x a h))) fun _=>(Ye (fun _=>ZaH (Ye (fun _=>ZaH (Ye (fun _=>go) fun _=>on x a h)) fun _=>on x a h)) fun _=>on x a h))) fun _=>(Ye (fun _=>ZaH (Ye (fun _=>ZaH (Ye (fun _=>go) fun _=>on x a h)) fun _=>on x a h)) fun _=>on x a h)
theorem Zqc {τ:ZC} (h:okT τ) {vs:List Zr} (hv:Zkt vs) (want:Rng) (d:Bool):Tot (ZaZ τ vs want d) fun y=>okT y.2∧y.1 ∈ vs:=by
 unfold ZaZ
 obtain ⟨h1,h2,-⟩:=hv
 have h0:0<vs.length:=List.length_pos_iff.2 h1
 refine Ye (fun hh=>absurd (of_decide_eq_true hh) (by omega)) fun _=>ZeX (ZlY want d vs _ _ h) ?_
 rintro ⟨x,a⟩ hx
 refine ZN (Zd7 hx (by omega)) fun y hy=>?_
 have hc:=hy.2
 unfold Cho at hc
 exact ZN (ZiA (Q:=fun v=>v ∈ vs) hc.1 (by omega) fun _=>List.getElem_mem _) fun v hv=>ZX ⟨hy.1,hv⟩
end Go.Proofs.YtkcmgbbopedacaaGreatDoor
-- LEFT wawake_ok2
namespace Go.Proofs.YtkcmgbbopedacaaGreatDoor
open Go.RowKit
structure Pcs (X:List Rng) (x:Rng):Prop where
 ne:∀ r ∈ X,emp r=false
 lo:∀ r ∈ X,r.lo.lt x.lo=false
 hi:∀ r ∈ X,x.hi.lt r.hi=false
 srt:X.Pairwise fun a b=>b.lo.lt a.hi=false
 pts:∀ b,vb b=true→(Pt X b↔Pt [x] b)
theorem ZlR {x:Rng} (h:emp x=false):Pcs [x] x:=⟨by simp [h],by simp [lt_irrefl],by simp [lt_irrefl],by simp,fun _ _=>Iff.rfl⟩
theorem Zpx {x:Rng} {h:Bnd} (hx:emp x=false) (hv:vb h=true) (h1:x.lo.lt h=true) (h2:h.lt x.hi=true):Pcs [⟨x.lo,h⟩,⟨h,x.hi⟩] x:=by
 obtain ⟨a1,a2,a3⟩:=(ZE x).1 hx
 refine ⟨fun r hr=>?_,fun r hr=>?_,fun r hr=>?_,by simp [lt_irrefl],fun b hb=>?_⟩
 ·simp only [List.mem_cons,List.not_mem_nil,or_false] at hr
  rcases hr with rfl | rfl
  ·rw [Zei a1 hv,h1]; rfl
  ·rw [Zei hv a2,h2]; rfl
 ·simp only [List.mem_cons,List.not_mem_nil,or_false] at hr
  rcases hr with rfl | rfl
  ·exact lt_irrefl _
  ·exact Yd h1
 ·simp only [List.mem_cons,List.not_mem_nil,or_false] at hr
  rcases hr with rfl | rfl
  ·exact Yd h2
  ·exact lt_irrefl _
 ·simp only [Z0,ZfV,or_false]
  constructor
  ·rintro (⟨g1,g2⟩ | ⟨g1,g2⟩)
   ·exact ⟨g1,lt_trans g2 h2⟩
   ·refine ⟨?_,g2⟩
    cases hh:b.lt x.lo with
    | false=>rfl
    | true=>rw [lt_trans hh h1] at g1; cases g1
  ·rintro ⟨g1,g2⟩
   cases hh:b.lt h with
   | true=>exact .inl ⟨g1,rfl⟩
   | false=>exact .inr ⟨rfl,g2⟩
theorem ZwO {x:Rng} {h:Bnd} (hx:emp x=false) (hv:vb h=true) (h1:x.lo.lt h=true) (h2:x.hi.lt h=false):Pcs ([⟨x.lo,h⟩]++Zm7 ⟨h,x.hi⟩) x:=by
 obtain ⟨a1,a2,a3⟩:=(ZE x).1 hx
 unfold Zm7
 rw [Zei hv a2]
 cases hh:h.lt x.hi with
 | true=>exact Zpx hx hv h1 hh
 | false =>
  obtain rfl:=QH hv a2 hh h2
  exact ZlR hx
theorem ZwJ {x:Rng} {h:Bnd} (hx:emp x=false) (hv:vb h=true) (h1:h.lt x.lo=false) (h2:h.lt x.hi=true):Pcs (Zm7 ⟨x.lo,h⟩++[⟨h,x.hi⟩]) x:=by
 obtain ⟨a1,a2,a3⟩:=(ZE x).1 hx
 unfold Zm7
 rw [Zei a1 hv]
 cases hh:x.lo.lt h with
 | true=>exact Zpx hx hv hh h2
 | false =>
  obtain rfl:=QH a1 hv hh h1
  exact ZlR hx
structure Gd (l m:List Rng):Prop where
 ne:∀ r ∈ l,emp r=false
 srt:l.Pairwise fun a b=>b.lo.lt a.hi=false
 pts:∀ b,vb b=true→(Pt l b↔Pt m b)
theorem ZhD {l m:List Rng} {b:Bnd}:Pt (l++m) b↔Pt l b∨Pt m b:=by
 simp only [Pt,List.mem_append,or_and_right,exists_or]
theorem Gd.repl {A C X m:List Rng} {x:Rng} (g:Gd (A++x::C) m) (p:Pcs X x):Gd (A++X++C) m:=by
 obtain ⟨n,s,t⟩:=g
 have hx:emp x=false:=n x (by simp)
 obtain ⟨a1,a2,a3⟩:=(ZE x).1 hx
 rw [List.pairwise_append,List.pairwise_cons] at s
 obtain ⟨s1,⟨s2,s3⟩,s4⟩:=s
 have key1:∀ a ∈ A,∀ r ∈ X,r.lo.lt a.hi=false:=fun a ha r hr=>by
  have v1:=((ZE a).1 (n a (by simp [ha]))).2.1
  have h1:=s4 a ha x (by simp)
  have h2:=p.lo r hr
  cases hh:r.lo.lt a.hi with
  | false=>rfl
  | true=>rw [Zee v1 a1 hh h1] at h2; cases h2
 have key2:∀ r ∈ X,∀ c ∈ C,c.lo.lt r.hi=false:=fun r hr c hc=>by
  have v1:=((ZE r).1 (p.ne r hr)).2.1
  have h1:=s2 c hc
  have h2:=p.hi r hr
  cases hh:c.lo.lt r.hi with
  | false=>rfl
  | true=>rw [Zee v1 a2 hh h2] at h1; cases h1
 refine ⟨fun r hr=>?_,?_,fun b hb=>?_⟩
 ·simp only [List.mem_append] at hr
  rcases hr with (hr | hr) | hr
  ·exact n r (by simp [hr])
  ·exact p.ne r hr
  ·exact n r (by simp [hr])
 ·rw [List.pairwise_append,List.pairwise_append]
  refine ⟨⟨s1,p.srt,key1⟩,s3,fun a ha c hc=>?_⟩
  rcases List.mem_append.1 ha with ha | ha
  ·exact s4 a ha c (by simp [hc])
  ·exact key2 a ha c hc
 ·rw [← t b hb,ZhD,ZhD,ZhD,p.pts b hb,show x::C=[x]++C from rfl,ZhD]
  exact or_assoc
theorem Zmn {i x:Rng} (hi:emp i=false) (hx:emp x=false) (h1:x.lo.lt i.lo=false) (h2:x.lo.lt i.hi=true):∃ h,Yt i x=⟨x.lo,h⟩∧vb h=true∧x.lo.lt h=true∧x.hi.lt h=false:=by
 obtain ⟨a1,a2,a3⟩:=(ZE x).1 hx
 obtain ⟨b1,b2,b3⟩:=(ZE i).1 hi
 have e:greater i.lo x.lo=x.lo:=by
  rw [Qh]
  cases hh:i.lo.lt x.lo with
  | true=>rfl
  | false=>exact QH b1 a1 hh h1
 rw [Zc6 hi hx,e,Zby]
 cases hh:x.hi.lt i.hi with
 | true =>
  simp only [if_true]
  rw [if_pos a3]
  exact ⟨_,rfl,a2,a3,lt_irrefl _⟩
 | false =>
  simp only [Bool.false_eq_true,if_false]
  rw [if_pos h2]
  exact ⟨_,rfl,b2,h2,hh⟩
theorem Zmp {i x:Rng} (hi:emp i=false) (hx:emp x=false) (h1:i.hi.lt x.hi=false) (h2:i.lo.lt x.hi=true):∃ h,Yt i x=⟨h,x.hi⟩∧vb h=true∧h.lt x.lo=false∧h.lt x.hi=true:=by
 obtain ⟨a1,a2,a3⟩:=(ZE x).1 hx
 obtain ⟨b1,b2,b3⟩:=(ZE i).1 hi
 have e:lesser i.hi x.hi=x.hi:=by
  rw [Zby]
  cases hh:x.hi.lt i.hi with
  | true=>rfl
  | false=>exact QH b2 a2 h1 hh
 rw [Zc6 hi hx,e,Qh]
 cases hh:i.lo.lt x.lo with
 | true =>
  simp only [if_true]
  rw [if_pos a3]
  exact ⟨_,rfl,a1,lt_irrefl _,a3⟩
 | false =>
  simp only [Bool.false_eq_true,if_false]
  rw [if_pos h2]
  exact ⟨_,rfl,b1,hh,h2⟩
def YR (w:Zc):List Rng:=if Xf w.Query=true then w.Todo++w.Visits.map (·.Part) else w.Visits.map (·.Part)++w.Todo
theorem Zpi {x i:Rng} (h:ZbV false x i=false):x.lo.lt i.lo=false∧x.lo.lt i.hi=true:=by
 unfold ZbV at h
 simp only [Bool.false_eq_true,if_false,Bool.or_eq_false_iff,decide_eq_false_iff_not] at h
 obtain ⟨h1,h2⟩:=h
 refine ⟨?_,(Xw _ _).1 (by omega)⟩
 cases hh:x.lo.lt i.lo with
 | false=>rfl
 | true=>exact absurd ((Xw _ _).2 hh) h1
theorem Zpk {x i:Rng} (h:ZbV true x i=false):i.hi.lt x.hi=false∧i.lo.lt x.hi=true:=by
 unfold ZbV at h
 simp only [if_true,Bool.or_eq_false_iff,decide_eq_false_iff_not] at h
 obtain ⟨h1,h2⟩:=h
 refine ⟨?_,(XW _ _).1 (by omega)⟩
 cases hh:i.hi.lt x.hi with
 | false=>rfl
 | true=>exact absurd ((XW _ _).2 hh) h1
theorem ZgY {v:Zr} (h:X7 v=true):emp v.Interval=false:=by
 unfold X7 at h
 simp only [Bool.and_eq_true,Bool.not_eq_true'] at h
 exact h.1.1.1.2
theorem Nrm.gd {l:List Rng} (h:Nrm l):Gd l l:=⟨h.ne,h.gap.imp fun g=>Yd g,fun _ _=>Iff.rfl⟩
theorem Gd.union {l m:List Rng} (g:Gd l m) (hm:Nrm m):union l=m:=ZlZ hm fun b hb=>by rw [Zbu g.ne]; exact g.pts b hb
theorem ZdL (q:Zf):Nrm (qrg q):=by
 unfold qrg Yi
 split
 ·exact (ZgJ _).1
 ·exact ⟨by simp,by simp⟩
theorem ZmI {τ:ZC} (h:okT τ) {n:Int} (h0:1≤n) (hn:n≤40) {γ:Type} {K:List Z8 × ZC→List Zr→Option γ} {Q:γ→Prop} (hK:∀ (y:List Z8 × ZC) (t:List Kv) (vs:List Zr),okT y.2→Yu t=true→t.length≤8→(vs.length:Int)≤n→Tl t zb vs ZdB→Tot (K y vs) Q) :
   Tot (Ze (X3 τ n) fun y=>Ze (Zbd y.1) fun z=>K y z) Q:=by
 have:=Zu3 h h0 hn (K:=fun z τ'=>some (z,τ')) (Q:=fun z=>okT z.2∧∃ t,Yu t=true∧t.length≤8∧(z.1.length:Int)≤n∧Tl t zb z.1 ZdB) fun t vs τ' h1 h2 h3 h4 h5=>ZX ⟨h1,t,h2,h3,h4,h5⟩
 obtain ⟨z,e,h1,t,h2,h3,h4,h5⟩:=this
 cases e1:X3 τ n with
 | none=>rw [e1] at e; cases e
 | some y =>
  rw [e1,Za] at e
  cases e2:Zbd y.1 with
  | none=>rw [e2] at e; cases e
  | some vs =>
   rw [e2,Za] at e
   obtain rfl:=Option.some.inj e
   rw [Za,e2,Za]
   exact hK y t vs h1 h2 h3 h4 h5
end Go.Proofs.YtkcmgbbopedacaaGreatDoor
namespace Go.Proofs.YtkcmgbbopedacaaGreatDoor
open Go.RowKit
theorem Zl9 {w:Zc} (h:(XP w).2=true) {v:Zr} (hv:X7 v=true):(Xg w v=(W0,12))∨(ZbV (Xf w.Query) (XP w).1 v.Interval=false∧Xg w v=(stepW w v (XP w).1 (Yt v.Interval (XP w).1),0)):=by
 unfold Xg
 rw [h,hv,if_neg (by simp),if_neg (by simp)]
 cases ZbV (Xf w.Query) (XP w).1 v.Interval with
 | true=>exact .inl rfl
 | false=>exact .inr ⟨rfl,rfl⟩
theorem Zul (w:Zc) (v:Zr) (a b:Rng):(stepW w v a b).Query=w.Query:=by
 unfold stepW
 split <;> rfl
end Go.Proofs.YtkcmgbbopedacaaGreatDoor
