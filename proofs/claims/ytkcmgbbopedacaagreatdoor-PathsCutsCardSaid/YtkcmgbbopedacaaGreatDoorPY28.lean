/-
  Lemmas: Plain laws of the models
-/
import Derived.Test.YtkcmgbbopedacaaGreatDoorPY26
import Derived.Test.YtkcmgbbopedacaaGreatDoorPY27
import Derived.Test.YtkcmgbbopedacaaGreatDoorPY18
import Derived.Test.YtkcmgbbopedacaaGreatDoorPY24
set_option linter.unusedSimpArgs false
set_option linter.unusedVariables false
namespace Go.Proofs.YtkcmgbbopedacaaGreatDoor
open Go.RowKit
theorem Zhu {t:List Kv} (h:Yq t=true) (p:Kv→Bool):Yq (t.filter p)=true:=by
 rw [X3] at h ⊢
 obtain ⟨h1,h2,h3⟩:=h
 exact ⟨Nat.le_trans (List.length_filter_le _ _) h1,fun r hr=>h2 r (List.mem_filter.1 hr).1,h3.filter p⟩
theorem ZoO (r:Rng) (t:List Kv):((t.filter fun x=>contains r x.key).all fun x=>contains r x.key)=true:=List.all_eq_true.2 fun x hx=>(List.mem_filter.1 hx).2
def P0:Zcx:=⟨0,0,0,⟨0,0⟩,zr,[]⟩
def Zn8 (r:Rng) (s:YS) (t:List Kv):Zcy:=⟨r,s,t,[],P0,P0,0,0⟩
theorem ZjS {r:Rng} {s:YS} {t:List Kv} (hr:vld r=true) (hs:ZnJ s=true) (ht:Yq t=true) (hw:(t.all fun x=>contains r x.key)=true):ZbI r s t=some (Zn8 r s t,0):=by
 have:=((X3 t).1 ht).1
 unfold ZbI
 rw [Zm,ZbF,hr,Bool.not_true,Zb,Zm,Zcp,hs,QT,ht,ZaT,Zm,hw,ZT (by simp; omega)]
 simp only [Za,Bool.not_true,Zb,List.nil_append]
 rfl
theorem Zg9 {r:Rng} {s:YS} {t:List Kv} (hr:vld r=true) (hs:ZnJ s=true) (ht:Yq t=true) (hw:(t.all fun x=>contains r x.key)=true):Zcj (Zn8 r s t)=some true:=by
 have h0:=((X3 t).1 ht).1
 have ha:∀ x:Rng,Zcg P0 x=some true:=fun x=>rfl
 unfold Zcj Zn8
 simp only [Zm,ZbF,Zcp,QT,ZaT,hr,hs,ht,hw,Za,Bool.not_true,Zb,ha]
 have e1:decide (64<((([]:List Zau).length:Nat):Int))=false:=rfl
 have e2:decide (1024<ZH ((t.length:Int)+((([]:List Zau).length:Nat):Int)))=false:=decide_eq_false (by
  have:((([]:List Zau).length:Nat):Int)=0:=rfl
  rw [this,ZA (by omega) (by omega)]; omega)
 have e3:decide (P0.Serial=0)=true:=rfl
 rw [e1,e2,e3]
 rfl
theorem Zho (id:Int):∀ (l:List Y6) (i:Int),(∀ m ∈ l,m.ID≠id)→ZaX id l i=.nxt ()
 | [],_,_=>rfl
 | m::l,i,h=>by
  rw [ZaX.eq_2,decide_eq_false (h m List.mem_cons_self),Zb]
  exact Zho id l _ fun x hx=>h x (List.mem_cons_of_mem _ hx)
theorem Zsp (n:Int) (b:Bool) (l:List Y6) (id:Int) (h:∀ m ∈ l,m.ID≠id):Zcd ⟨n,b,l⟩ id=-1:=by
 unfold Zcd
 simp only
 rw [Zho id l 0 h]; rfl
theorem ZsK (b:Bool):∀ ids:List Int,(∀ i ∈ ids,Zff i=true)→ZaI ids b=some b
 | [],_=>rfl
 | i::l,h=>by
  have ih:=ZsK b l fun x hx=>h x (List.mem_cons_of_mem _ hx)
  rw [ZaI.eq_2,Zm,ZbZ,h i List.mem_cons_self,Bool.not_true]
  cases b with
  | true=>rw [Zd]; exact ih
  | false=>rw [Zb]; exact ih
theorem ZsY (n:Int) (c:Zcy):∀ (ids:List Int) (acc:List Y6),ids.Nodup→(∀ m ∈ acc,m.ID ∉ ids)→acc.length+ids.length≤1000→ZaJ n c ids acc=some (.nxt (acc++ids.map fun i=>⟨i,true,c⟩))
 | [],acc,_,_,_=>by rw [ZaJ.eq_1]; simp
 | i::l,acc,h,h1,h2=>by
  have hh:=List.nodup_cons.1 h
  simp only [List.length_cons] at h2
  rw [ZaJ.eq_2,Zm,Zsp _ _ _ _ (fun m hm e=>h1 m hm (by rw [e]; exact List.mem_cons_self)),decide_eq_false (by omega),Zb,ZT (by simp; omega),Za]
  rw [ZsY n c l _ hh.2 (fun m hm=>by
   rcases List.mem_append.1 hm with hm | hm
   ·exact fun h3=>h1 m hm (List.mem_cons_of_mem _ h3)
   ·rw [List.mem_singleton.1 hm]; exact hh.1) (by simp; omega)]
  simp
theorem ZjV {r:Rng} {s:YS} {t:List Kv} (hr:vld r=true) (hs:ZnJ s=true) (ht:Yq t=true) (hw:(t.all fun x=>contains r x.key)=true) {n:Int} (hn:Zff n=true) {ids:List Int} (h0:0<ids.length) (h5:ids.length≤5) (hi:∀ i ∈ ids,Zff i=true) (hd:ids.Nodup) :
   ZbJ n ids (Zn8 r s t)=some (⟨n,true,ids.map fun i=>⟨i,true,Zn8 r s t⟩⟩,0):=by
 unfold ZbJ
 rw [Zm,ZbZ,hn,Zg9 hr hs ht hw,decide_eq_false (by omega)]
 simp only [Bool.not_true,Zb,Za]
 rw [ZsK _ ids hi,Za,Zb,decide_eq_false (by omega),Zb,ZsY _ _ _ _ hd (by simp) (by simp; omega),Za,Zy]
 simp
def Tl (t:List Kv):Bnd→List Zt→Bnd→Prop
 | a,[],b=>a=b
 | a,v::l,b=>v.Interval.lo=a∧emp v.Interval=false∧XU v=true∧v.Rows=t.filter (fun x=>contains v.Interval x.key)∧Tl t v.Interval.hi l b
theorem Tl.snoc {t:List Kv} {v:Zt}:∀ {l:List Zt} {a b:Bnd},Tl t a l b→v.Interval.lo=b→emp v.Interval=false→XU v=true→v.Rows=t.filter (fun x=>contains v.Interval x.key)→Tl t a (l++[v]) v.Interval.hi
 | [],a,b,h,h1,h2,h3,h4=>⟨by rw [h1]; exact h.symm,h2,h3,h4,rfl⟩
 | x::l,a,b,⟨g1,g2,g3,g4,g5⟩,h1,h2,h3,h4=>⟨g1,g2,g3,g4,g5.snoc h1 h2 h3 h4⟩
theorem Tl.mem {t:List Kv}:∀ {l:List Zt} {a b:Bnd},Tl t a l b→∀ v ∈ l,XU v=true∧v.Rows=t.filter (fun x=>contains v.Interval x.key)∧emp v.Interval=false
 | [],_,_,_,_,hv=>by simp at hv
 | x::l,a,b,⟨g1,g2,g3,g4,g5⟩,v,hv=>by
  rcases List.mem_cons.1 hv with rfl | hv
  ·exact ⟨g3,g4,g2⟩
  ·exact g5.mem v hv
def Sh (gs:List Z5) (vs:List Zt):Prop:=gs.map Zel=vs.map fun v=>some (v,0)
theorem Sh.len {gs:List Z5} {vs:List Zt} (h:Sh gs vs):gs.length=vs.length:=by
 have:=congrArg List.length h
 simpa using this
theorem Zwp {r:Rng} (h:emp r=false):vld r=true:=by
 unfold emp at h
 cases hv:vld r with
 | true=>rfl
 | false=>rw [hv] at h; simp at h
theorem ZvX {n k:Int} (hn:1≤n∧n≤1000) (hk:0≤k∧k<3):∃ l,lsl ([ZH (10 * n),ZH (ZH (10 * n)+1),ZH (ZH (10 * n)+2)]:List Int) 0 (ZH (1+k))=some (10 * n::l)∧(10 * n::l).length≤5∧(∀ i ∈ 10 * n::l,Zff i=true)∧(10 * n::l).Nodup:=by
 have e0:ZH (10 * n)=10 * n:=ZA (by omega) (by omega)
 have e1:ZH (10 * n+1)=10 * n+1:=ZA (by omega) (by omega)
 have e2:ZH (10 * n+2)=10 * n+2:=ZA (by omega) (by omega)
 have e3:ZH (1+k)=1+k:=ZA (by omega) (by omega)
 rw [e0,e1,e2,e3]
 have no:∀ x:Int,1≤x→x≤100000→Zff x=true:=fun x h1 h2=>by unfold Zff; rw [decide_eq_true h1,decide_eq_true (by omega)]; rfl
 have hk3:k=0∨k=1∨k=2:=by omega
 rcases hk3 with rfl | rfl | rfl
 ·refine ⟨[],rfl,by simp,fun i hi=>?_,by simp⟩
  simp only [List.mem_cons,List.not_mem_nil,or_false] at hi
  exact no i (by omega) (by omega)
 ·refine ⟨[10 * n+1],rfl,by simp,fun i hi=>?_,by simp; omega⟩
  simp only [List.mem_cons,List.not_mem_nil,or_false] at hi
  exact no i (by omega) (by omega)
 ·refine ⟨[10 * n+1,10 * n+2],rfl,by simp,fun i hi=>?_,by simp; omega⟩
  simp only [List.mem_cons,List.not_mem_nil,or_false] at hi
  exact no i (by omega) (by omega)
theorem Zmj {τ:ZI} (hτ:okT τ) {t:List Kv} (ht:Yq t=true) {out:List Z5} {vs:List Zt} (hsh:Sh out vs) {a:Bnd} {x:Rng} (htl:Tl t a vs x.lo) (hx:emp x=false) (hl:out.length≤500) {K:List Z5→ZI→Option (List Z5 × List Int × Int)} {Q:List Z5 × List Int × Int→Prop}
   (hK:∀ (g:Z5) (v:Zt) (τ':ZI),okT τ'→Sh (out++[g]) (vs++[v])→Tl t a (vs++[v]) x.hi→Tot (K (out++[g]) τ') Q) :
   Tot (Ze (Zu τ 3) fun y19 =>
    Ze (Zu y19.2 2) fun y20 =>
    Ze (XI t x) fun y21 =>
    Ze (ZbI x (YS.mk y19.1 y20.1) y21) fun y22 =>
    Ze (Zu y20.2 3) fun y23 =>
    Ze (lsl ([ZH (10 * (ZH ((out.length:Int)+1))),ZH ((ZH (10 * (ZH ((out.length:Int)+1))))+1),ZH ((ZH (10 * (ZH ((out.length:Int)+1))))+2)]:List Int) 0 (ZH (1+y23.1))) fun l24 =>
    Ze (ZbJ (ZH ((out.length:Int)+1)) l24 y22.1) fun y25 =>
    Ze (app out ([y25.1]:List Z5)) fun l26=>K l26 y23.2) Q:=by
 have h0:=((X3 t).1 ht).1
 have hv:=Zwp hx
 refine Z9 (Zf5 hτ (by omega)) fun y19 h19=>Z9 (Zf5 h19.1 (by omega)) fun y20 h20=>?_
 have c19:=h19.2
 have c20:=h20.2
 unfold Cho at c19 c20
 have hs:ZnJ ⟨y19.1,y20.1⟩=true:=by
  unfold ZnJ
  rw [decide_eq_true (by simp only; omega),decide_eq_true (by simp only; omega),decide_eq_true (by simp only; omega),decide_eq_true (by simp only; omega)]; rfl
 have ht2:=Zhu ht fun z=>contains x z.key
 have hw:=ZoO x t
 rw [Zcs _ _ (by omega),Za,ZjS hv hs ht2 hw,Za]
 refine Z9 (Zf5 h20.1 (by omega)) fun y23 h23=>?_
 have c23:=h23.2
 unfold Cho at c23
 rw [ZA (a:=(out.length:Int)+1) (by omega) (by omega)]
 obtain ⟨l,e,h5,hi,hd⟩:=ZvX (n:=(out.length:Int)+1) (k:=y23.1) (by omega) (by omega)
 have hn:Zff ((out.length:Int)+1)=true:=by unfold Zff; rw [decide_eq_true (by omega),decide_eq_true (by omega)]; rfl
 rw [e,Za,ZjV hv hs ht2 hw hn (by simp) h5 hi hd,Za,ZT (by simp; omega),Za]
 refine hK _ ⟨10 * ((out.length:Int)+1),x,⟨y19.1,y20.1⟩,t.filter fun z=>contains x z.key⟩ _ h23.1 ?_ ?_
 ·unfold Sh at hsh ⊢
  rw [List.map_append,List.map_append,hsh]
  congr 1
 ·exact Tl.snoc (v:=⟨10 * ((out.length:Int)+1),x,⟨y19.1,y20.1⟩,t.filter fun z=>contains x z.key⟩) htl rfl hx (by
   unfold XU
   simp only
   rw [hi _ List.mem_cons_self,hx,hs,ht2,hw]; rfl) rfl
def Zdr:Bnd:=⟨⟨#[]⟩,true⟩
theorem ZsU:vb Zdr=true:=by kernel_rfl
theorem ZwI {b:Bnd} (h:vb b=true) (ht:b.top=true):b=Zdr:=by
 obtain ⟨k,t⟩:=b
 simp only at ht
 subst ht
 simp only [vb,Bool.not_true,Bool.false_or,Bool.and_eq_true] at h
 obtain ⟨⟨l⟩⟩:=k
 have:=h.2
 rw [ByteArray.toList_eq] at this
 cases l with
 | nil=>rfl
 | cons a l=>simp at this
theorem Zt6 {b:Bnd} (h:vb b=true) (he:emp ⟨b,Zdr⟩=true):b=Zdr:=by
 cases ht:b.top with
 | true=>exact ZwI h ht
 | false =>
  exfalso
  have h1:b.lt Zdr=true:=by simp [Bnd.lt,ht,Zdr]
  have h2:cmp b Zdr<0:=(X9 _ _).2 h1
  unfold emp vld at he
  simp only at he
  rw [h,ZsU,decide_eq_true (by omega)] at he
  have h3:cmp b Zdr=0:=by simpa using he
  omega
theorem Zwe {a b:Bnd} (ha:vb a=true) (hb:vb b=true) (h:0<cmp b a):emp ⟨a,b⟩=false:=by
 have h2:cmp a b=- cmp b a:=Ziw b a
 unfold emp vld
 simp only
 rw [ha,hb,decide_eq_true (by omega)]
 have:(cmp a b == 0)=false:=by
  cases hh:cmp a b == 0 with
  | false=>rfl
  | true=>have:=eq_of_beq hh; omega
 rw [this]; rfl
theorem Zta (τ0:ZI) (t:List Kv) (ht:Yq t=true) (cuts:List Bnd × ZI) (hc:cuts.1.length≤100):∀ (fuel:Nat) (l:List Int) (a:Int) (out:List Z5) (lo:Bnd) (i:Nat) (vs:List Zt),okT ⟨l,a⟩→cuts.1.length+1 - i<fuel→out.length≤i→(i≤cuts.1.length+1)→Sh out vs→Tl t zb vs lo→vb lo=true→(i=cuts.1.length+1→lo=Zdr) →
   Tot (ZY (t,τ0) Qc cuts fuel l a out lo.key lo.top (i:Int)) fun z=>okT ⟨z.2.1,z.2.2⟩∧z.1.length≤cuts.1.length+1∧∃ vs,Sh z.1 vs∧Tl t zb vs Zdr
 | 0,_,_,_,_,_,_,_,h,_,_,_,_,_,_=>absurd h (by omega)
 | fuel+1,l,a,out,lo,i,vs,h,hf,ho,hi,hs,htl,hlo,hend=>by
  rw [ZY.eq_2]
  refine Zih (R:=fun _=>i≤cuts.1.length) (QL (fun h1=>YK (by have:=of_decide_eq_true h1; show i≤cuts.1.length; omega)) fun h1=>YK ⟨h,by simp only; omega,vs,hs,?_⟩) fun _ h1=>?_
  ·have h1:=of_decide_eq_false h1
   rw [hend (by omega)] at htl; exact htl
  have next:∀ (τ:ZI) (out':List Z5) (lo':Bnd) (vs':List Zt),okT τ→out'.length≤i+1→Sh out' vs'→Tl t zb vs' lo'→vb lo'=true→(i=cuts.1.length→lo'=Zdr)→Tot (ZY (t,τ0) Qc cuts fuel τ.l τ.at_ out' lo'.key lo'.top (ZH ((i:Int)+1))) fun z=>okT ⟨z.2.1,z.2.2⟩∧z.1.length≤cuts.1.length+1∧∃ vs,Sh z.1 vs∧Tl t zb vs Zdr:=fun τ out' lo' vs' g1 g2 g3 g4 g5 g6=>by
   rw [ZA (by omega) (by omega),show (i:Int)+1=((i+1:Nat):Int) by omega]
   exact Zta τ0 t ht cuts hc fuel τ.l τ.at_ out' lo' (i+1) vs' g1 (by omega) g2 (by omega) g3 g4 g5 (fun h=>g6 (by omega))
  refine Z9 (R:=fun b=>b=true→∃ h:i<cuts.1.length,vb cuts.1[i]=true∧0<cmp cuts.1[i] lo) (QL (fun h2=>?_) fun _=>YK (by simp)) fun b hb=>?_
  ·have h2:i<cuts.1.length:=by have:=of_decide_eq_true h2; omega
   rw [Ya,List.getElem?_eq_getElem h2,Za,Zm,Qg]
   refine QL (fun h3=>?_) fun _=>YK (by simp)
   rw [Za,Zm,ZC]
   exact YK fun h4=>⟨h2,h3,of_decide_eq_true h4⟩
  refine QL (fun h2=>?_) fun _=>QL (fun h3=>?_) fun h3=>?_
  ·obtain ⟨h3,h4,h5⟩:=hb h2
   rw [Ya,List.getElem?_eq_getElem h3,Za,Zm,ZP]
   have he:emp ⟨lo,cuts.1[i]⟩=false:=Zwe hlo h4 h5
   refine QL (fun h6=>?_) fun _=>?_
   ·exact absurd (he.symm.trans h6) (by simp)
   ·exact Zmj (τ:=⟨l,a⟩) h ht hs (x:=⟨lo,cuts.1[i]⟩) htl he (by omega) (K:=fun o τ=>ZY (t,τ0) Qc cuts fuel τ.l τ.at_ o cuts.1[i].key cuts.1[i].top (ZH ((i:Int)+1))) fun g v τ' k1 k2 k3=>next τ' _ cuts.1[i] _ k1 (by simp; omega) k2 k3 h4 (fun h=>by omega)
  ·have h3:=of_decide_eq_true h3
   exact next ⟨l,a⟩ out lo vs h (by omega) hs htl hlo (fun h=>by omega)
  ·have h3:=of_decide_eq_false h3
   rw [Zm,ZP]
   have eh:Qc.hi=Zdr:=rfl
   refine QL (fun h6=>?_) fun h6=>?_
   ·exact next ⟨l,a⟩ out lo vs h (by omega) hs htl hlo (fun _=>Zt6 hlo (by rw [← eh]; exact h6))
   ·exact Zmj (τ:=⟨l,a⟩) h ht hs (x:=⟨lo,Qc.hi⟩) htl h6 (by omega) (K:=fun o τ=>ZY (t,τ0) Qc cuts fuel τ.l τ.at_ o Qc.hi.key Qc.hi.top (ZH ((i:Int)+1))) fun g v τ' k1 k2 k3=>next τ' _ Qc.hi _ k1 (by simp; omega) k2 k3 ZsU (fun _=>eh)
theorem Zmw:∀ (gs:List Z5) (vs out:List Zt),Sh gs vs→out.length+gs.length≤1000→QA gs out=some (out++vs)
 | [],vs,out,h,_=>by
  have:=h.len
  have e:vs=[]:=List.eq_nil_of_length_eq_zero (by simpa using this.symm)
  rw [e,QA.eq_1]; simp
 | g::gs,vs,out,h,hl=>by
  cases vs with
  | nil=>have:=h.len; simp at this
  | cons v vs =>
   unfold Sh at h
   simp only [List.map_cons,List.cons.injEq] at h
   simp only [List.length_cons] at hl
   rw [QA.eq_2,h.1,Za,decide_eq_true rfl,Zd,ZT (by simp; omega),Za,Zmw gs vs _ h.2 (by simp; omega)]
   simp
theorem ZtJ {τ:ZI} (h:okT τ) {n:Int} (h0:1≤n) (hn:n≤40) {γ:Type} {K:List Zt→ZI→Option γ} {Q:γ→Prop} (hK:∀ (t:List Kv) (vs:List Zt) (τ':ZI),okT τ'→Yq t=true→t.length≤8→(vs.length:Int)≤n→Tl t zb vs Zdr→Tot (K vs τ') Q) :
   Tot (Ze (QB τ n) fun y=>Ze (ZbH y.1) fun z=>K z y.2) Q:=by
 refine Z9 (R:=fun y=>okT y.2∧∃ t vs,Yq t=true∧t.length≤8∧y.1.length≤n∧Sh y.1 vs∧Tl t zb vs Zdr) ?_ ?_
 ·unfold QB
  refine Z9 (ZrU h (by omega) (by omega)) fun y3 h3=>?_
  obtain ⟨g1,g2,g3⟩:=h3
  rw [ZA (by omega) (by omega),Zm]
  refine Z9 (Zij g1 (by omega) (by omega)) fun y5 h5=>?_
  obtain ⟨k1,k2⟩:=h5
  have:=Zta y3.2 y3.1 g2 y5 (by omega) FU y5.2.l y5.2.at_ [] zb 0 [] k1 (by unfold FU; omega) (by simp) (by omega) rfl rfl (by kernel_rfl) (fun h=>by omega)
  refine Z9 this ?_
  rintro ⟨o,l,a⟩ ⟨m1,m2,vs,m3,m4⟩
  simp only at m1 m2 m3 m4
  exact YK ⟨m1,y3.1,vs,g2,by omega,by simp only; omega,m3,m4⟩
 ·rintro ⟨gs,τ'⟩ ⟨h1,t,vs,h2,h3,h4,h5,h6⟩
  simp only at h1 h4 h5 ⊢
  unfold ZbH
  have:=h5.len
  rw [Zmw gs vs [] h5 (by simp; omega),Za,List.nil_append,Za]
  exact hK t vs τ' h1 h2 h3 (by omega) h6
end Go.Proofs.YtkcmgbbopedacaaGreatDoor
namespace Go.Proofs.YtkcmgbbopedacaaGreatDoor
open Go.RowKit
theorem Zil:∀ (l:List Rng) (c:Rng),(mrg c l).length≤l.length+1
 | [],c=>by simp [mrg]
 | r::l,c=>by
  unfold mrg
  split
  ·have:=Zil l ⟨c.lo,greater c.hi r.hi⟩
   simp; omega
  ·have:=Zil l r
   simp; omega
theorem ZmW (l:List Rng):(union l).length≤l.length:=by
 unfold union
 have h1:((l.filter ne).mergeSort Zfe).length≤l.length:=by rw [List.length_mergeSort]; exact List.length_filter_le _ _
 cases h:(l.filter ne).mergeSort Zfe with
 | nil=>simp [Zdu]
 | cons r l' =>
  rw [h] at h1
  have:=Zil l' r
  simp only [Zdu,List.length_cons] at h1 ⊢
  omega
theorem Zr0 {q:Zg} (h:qok q):(qrg q).length≤4:=by
 obtain ⟨h1,h2,-⟩:=h
 unfold qrg Yg
 rw [if_pos h1]
 refine Nat.le_trans (ZmW _) ?_
 unfold qrs
 split
 ·exact h2
 ·split
  ·simp
  ·split <;> simp
theorem ZtC:okW W0:=⟨by simp [W0],by simp [W0],by simp [W0],by simp [W0]⟩
theorem ZlM (r:Rng):(ZmN r).length≤1:=by
 unfold ZmN
 split <;> simp
theorem Zi3 (v:Zt) (p:Rng) (hv:v.Rows.length≤10000):(ZbO v p).View.Rows.length≤10000:=Nat.le_trans (List.length_filter_le _ _) hv
theorem step_ok {w:Zc} (h:okW w) (hn:w.Visits.length≤999) (v:Zt) (hv:v.Rows.length≤10000) (ht:w.Todo.isEmpty=false) (want part:Rng):okW (stepW w v want part)∧(stepW w v want part).Visits.length=w.Visits.length+1∧(stepW w v want part).Todo.length≤w.Todo.length:=by
 have h1:=h.todo
 have h2:0<w.Todo.length:=by
  cases hh:w.Todo with
  | nil=>rw [hh] at ht; cases ht
  | cons a l=>simp
 unfold stepW
 split
 ·have h3:=ZlM ⟨want.lo,part.lo⟩
  refine ⟨⟨h.q,by simp; omega,by simp; omega,fun x hx=>?_⟩,by simp,by simp; omega⟩
  simp only [List.mem_cons] at hx
  rcases hx with rfl | hx
  ·exact Zi3 v part hv
  ·exact h.rows x hx
 ·have h3:=ZlM ⟨part.hi,want.hi⟩
  refine ⟨⟨h.q,by simp; omega,by simp; omega,fun x hx=>?_⟩,by simp,by simp; omega⟩
  simp only [List.mem_append,List.mem_singleton] at hx
  rcases hx with hx | rfl
  ·exact h.rows x hx
  ·exact Zi3 v part hv
theorem Zus {w:Zc} (h:okW w) (hn:w.Visits.length≤999) (v:Zt) (hv:v.Rows.length≤10000):okW (Xr w v).1∧(Xr w v).1.Visits.length≤w.Visits.length+1:=by
 unfold Xr
 split
 ·exact ⟨ZtC,by simp [W0]⟩
 ·rename_i h1
  have ht:=ZcV (Zfi (w:=w) (by simpa using h1))
  split
  ·exact ⟨ZtC,by simp [W0]⟩
  ·split
   ·exact ⟨ZtC,by simp [W0]⟩
   ·have:=step_ok h hn v hv ht (XL w).1 (Yo v.Interval (XL w).1)
    exact ⟨this.1,by simp only; omega⟩
def ZvN (vs:List Zt):Prop:=vs≠[]∧vs.length≤100∧∀ v ∈ vs,v.Rows.length≤8
theorem Tl.good {t:List Kv} (ht:t.length≤8) {vs:List Zt} (hl:vs.length≤100) (h:Tl t zb vs Zdr):ZvN vs:=by
 refine ⟨fun e=>?_,hl,fun v hv=>?_⟩
 ·subst e
  have:zb.top=Zdr.top:=congrArg Bnd.top h
  cases this
 ·rw [(h.mem v hv).2.1]
  exact Nat.le_trans (List.length_filter_le _ _) ht
end Go.Proofs.YtkcmgbbopedacaaGreatDoor
-- LEFT wawake_ok2
namespace Go.Proofs.YtkcmgbbopedacaaGreatDoor
open Go.RowKit
structure Pcs (X:List Rng) (x:Rng):Prop where
 ne:∀ r ∈ X,emp r=false
 lo:∀ r ∈ X,r.lo.lt x.lo=false
 hi:∀ r ∈ X,x.hi.lt r.hi=false
 srt:X.Pairwise fun a b=>b.lo.lt a.hi=false
 pts:∀ b,vb b=true→(Pt X b↔Pt [x] b)
theorem ZlG {x:Rng} (h:emp x=false):Pcs [x] x:=⟨by simp [h],by simp [lt_irrefl],by simp [lt_irrefl],by simp,fun _ _=>Iff.rfl⟩
theorem ZoD {x:Rng} {h:Bnd} (hx:emp x=false) (hv:vb h=true) (h1:x.lo.lt h=true) (h2:h.lt x.hi=true):Pcs [⟨x.lo,h⟩,⟨h,x.hi⟩] x:=by
 obtain ⟨a1,a2,a3⟩:=(ZB x).1 hx
 refine ⟨fun r hr=>?_,fun r hr=>?_,fun r hr=>?_,by simp [lt_irrefl],fun b hb=>?_⟩
 ·simp only [List.mem_cons,List.not_mem_nil,or_false] at hr
  rcases hr with rfl | rfl
  ·rw [Zd4 a1 hv,h1]; rfl
  ·rw [Zd4 hv a2,h2]; rfl
 ·simp only [List.mem_cons,List.not_mem_nil,or_false] at hr
  rcases hr with rfl | rfl
  ·exact lt_irrefl _
  ·exact Yb h1
 ·simp only [List.mem_cons,List.not_mem_nil,or_false] at hr
  rcases hr with rfl | rfl
  ·exact Yb h2
  ·exact lt_irrefl _
 ·simp only [ZW,ZfE,or_false]
  constructor
  ·rintro (⟨g1,g2⟩ | ⟨g1,g2⟩)
   ·exact ⟨g1,lt_trans g2 h2⟩
   ·refine ⟨?_,g2⟩
    cases hh:b.lt x.lo with
    | false=>rfl
    | true=>rw [lt_trans hh h1] at g1; cases g1
  ·rintro ⟨g1,g2⟩
   cases hh:b.lt h with
   | true=>exact .inl ⟨g1,rfl⟩
   | false=>exact .inr ⟨rfl,g2⟩
theorem Zwh {x:Rng} {h:Bnd} (hx:emp x=false) (hv:vb h=true) (h1:x.lo.lt h=true) (h2:x.hi.lt h=false):Pcs ([⟨x.lo,h⟩]++ZmN ⟨h,x.hi⟩) x:=by
 obtain ⟨a1,a2,a3⟩:=(ZB x).1 hx
 unfold ZmN
 rw [Zd4 hv a2]
 cases hh:h.lt x.hi with
 | true=>exact ZoD hx hv h1 hh
 | false =>
  obtain rfl:=Qx hv a2 hh h2
  exact ZlG hx
theorem Zv4 {x:Rng} {h:Bnd} (hx:emp x=false) (hv:vb h=true) (h1:h.lt x.lo=false) (h2:h.lt x.hi=true):Pcs (ZmN ⟨x.lo,h⟩++[⟨h,x.hi⟩]) x:=by
 obtain ⟨a1,a2,a3⟩:=(ZB x).1 hx
 unfold ZmN
 rw [Zd4 a1 hv]
 cases hh:x.lo.lt h with
 | true=>exact ZoD hx hv hh h2
 | false =>
  obtain rfl:=Qx a1 hv hh h1
  exact ZlG hx
structure Gd (l m:List Rng):Prop where
 ne:∀ r ∈ l,emp r=false
 srt:l.Pairwise fun a b=>b.lo.lt a.hi=false
 pts:∀ b,vb b=true→(Pt l b↔Pt m b)
theorem Zhk {l m:List Rng} {b:Bnd}:Pt (l++m) b↔Pt l b∨Pt m b:=by
 simp only [Pt,List.mem_append,or_and_right,exists_or]
theorem Gd.repl {A C X m:List Rng} {x:Rng} (g:Gd (A++x::C) m) (p:Pcs X x):Gd (A++X++C) m:=by
 obtain ⟨n,s,t⟩:=g
 have hx:emp x=false:=n x (by simp)
 obtain ⟨a1,a2,a3⟩:=(ZB x).1 hx
 rw [List.pairwise_append,List.pairwise_cons] at s
 obtain ⟨s1,⟨s2,s3⟩,s4⟩:=s
 have key1:∀ a ∈ A,∀ r ∈ X,r.lo.lt a.hi=false:=fun a ha r hr=>by
  have v1:=((ZB a).1 (n a (by simp [ha]))).2.1
  have h1:=s4 a ha x (by simp)
  have h2:=p.lo r hr
  cases hh:r.lo.lt a.hi with
  | false=>rfl
  | true=>rw [Zd2 v1 a1 hh h1] at h2; cases h2
 have key2:∀ r ∈ X,∀ c ∈ C,c.lo.lt r.hi=false:=fun r hr c hc=>by
  have v1:=((ZB r).1 (p.ne r hr)).2.1
  have h1:=s2 c hc
  have h2:=p.hi r hr
  cases hh:c.lo.lt r.hi with
  | false=>rfl
  | true=>rw [Zd2 v1 a2 hh h2] at h1; cases h1
 refine ⟨fun r hr=>?_,?_,fun b hb=>?_⟩
 ·simp only [List.mem_append] at hr
  rcases hr with (hr | hr) | hr
  ·exact n r (by simp [hr])
  ·exact p.ne r hr
  ·exact n r (by simp [hr])
 ·rw [List.pairwise_append,List.pairwise_append]
  refine ⟨⟨s1,p.srt,key1⟩,s3,fun a ha c hc=>?_⟩
  rcases List.mem_append.1 ha with ha | ha
  ·exact s4 a ha c (by simp [hc])
  ·exact key2 a ha c hc
 ·rw [← t b hb,Zhk,Zhk,Zhk,p.pts b hb,show x::C=[x]++C from rfl,Zhk]
  exact or_assoc
theorem Zmq {i x:Rng} (hi:emp i=false) (hx:emp x=false) (h1:x.lo.lt i.lo=false) (h2:x.lo.lt i.hi=true):∃ h,Yo i x=⟨x.lo,h⟩∧vb h=true∧x.lo.lt h=true∧x.hi.lt h=false:=by
 obtain ⟨a1,a2,a3⟩:=(ZB x).1 hx
 obtain ⟨b1,b2,b3⟩:=(ZB i).1 hi
 have e:greater i.lo x.lo=x.lo:=by
  rw [X0]
  cases hh:i.lo.lt x.lo with
  | true=>rfl
  | false=>exact Qx b1 a1 hh h1
 rw [ZcY hi hx,e,Zbf]
 cases hh:x.hi.lt i.hi with
 | true =>
  simp only [if_true]
  rw [if_pos a3]
  exact ⟨_,rfl,a2,a3,lt_irrefl _⟩
 | false =>
  simp only [Bool.false_eq_true,if_false]
  rw [if_pos h2]
  exact ⟨_,rfl,b2,h2,hh⟩
theorem ZlD {i x:Rng} (hi:emp i=false) (hx:emp x=false) (h1:i.hi.lt x.hi=false) (h2:i.lo.lt x.hi=true):∃ h,Yo i x=⟨h,x.hi⟩∧vb h=true∧h.lt x.lo=false∧h.lt x.hi=true:=by
 obtain ⟨a1,a2,a3⟩:=(ZB x).1 hx
 obtain ⟨b1,b2,b3⟩:=(ZB i).1 hi
 have e:lesser i.hi x.hi=x.hi:=by
  rw [Zbf]
  cases hh:x.hi.lt i.hi with
  | true=>rfl
  | false=>exact Qx b2 a2 h1 hh
 rw [ZcY hi hx,e,X0]
 cases hh:i.lo.lt x.lo with
 | true =>
  simp only [if_true]
  rw [if_pos a3]
  exact ⟨_,rfl,a1,lt_irrefl _,a3⟩
 | false =>
  simp only [Bool.false_eq_true,if_false]
  rw [if_pos h2]
  exact ⟨_,rfl,b1,hh,h2⟩
def YJ (w:Zc):List Rng:=if Xb w.Query=true then w.Todo++w.Visits.map (·.Part) else w.Visits.map (·.Part)++w.Todo
theorem ZoU {x i:Rng} (h:ZbN false x i=false):x.lo.lt i.lo=false∧x.lo.lt i.hi=true:=by
 unfold ZbN at h
 simp only [Bool.false_eq_true,if_false,Bool.or_eq_false_iff,decide_eq_false_iff_not] at h
 obtain ⟨h1,h2⟩:=h
 refine ⟨?_,(Xt _ _).1 (by omega)⟩
 cases hh:x.lo.lt i.lo with
 | false=>rfl
 | true=>exact absurd ((Xt _ _).2 hh) h1
theorem ZoR {x i:Rng} (h:ZbN true x i=false):i.hi.lt x.hi=false∧i.lo.lt x.hi=true:=by
 unfold ZbN at h
 simp only [if_true,Bool.or_eq_false_iff,decide_eq_false_iff_not] at h
 obtain ⟨h1,h2⟩:=h
 refine ⟨?_,(X9 _ _).1 (by omega)⟩
 cases hh:i.hi.lt x.hi with
 | false=>rfl
 | true=>exact absurd ((X9 _ _).2 hh) h1
theorem Zgy {v:Zt} (h:XU v=true):emp v.Interval=false:=by
 unfold XU at h
 simp only [Bool.and_eq_true,Bool.not_eq_true'] at h
 exact h.1.1.1.2
theorem Nrm.gd {l:List Rng} (h:Nrm l):Gd l l:=⟨h.ne,h.gap.imp fun g=>Yb g,fun _ _=>Iff.rfl⟩
theorem Gd.union {l m:List Rng} (g:Gd l m) (hm:Nrm m):union l=m:=ZlN hm fun b hb=>by rw [Zbi g.ne]; exact g.pts b hb
theorem ZdA (q:Zg):Nrm (qrg q):=by
 unfold qrg Yg
 split
 ·exact (Zgu _).1
 ·exact ⟨by simp,by simp⟩
theorem Zsn {τ:ZI} (h:okT τ) {n:Int} (h0:1≤n) (hn:n≤40) {γ:Type} {K:List Z5 × ZI→List Zt→Option γ} {Q:γ→Prop} (hK:∀ (y:List Z5 × ZI) (t:List Kv) (vs:List Zt),okT y.2→Yq t=true→t.length≤8→(vs.length:Int)≤n→Tl t zb vs Zdr→Tot (K y vs) Q) :
   Tot (Ze (QB τ n) fun y=>Ze (ZbH y.1) fun z=>K y z) Q:=by
 have:=ZtJ h h0 hn (K:=fun z τ'=>some (z,τ')) (Q:=fun z=>okT z.2∧∃ t,Yq t=true∧t.length≤8∧(z.1.length:Int)≤n∧Tl t zb z.1 Zdr) fun t vs τ' h1 h2 h3 h4 h5=>YK ⟨h1,t,h2,h3,h4,h5⟩
 obtain ⟨z,e,h1,t,h2,h3,h4,h5⟩:=this
 cases e1:QB τ n with
 | none=>rw [e1] at e; cases e
 | some y =>
  rw [e1,Za] at e
  cases e2:ZbH y.1 with
  | none=>rw [e2] at e; cases e
  | some vs =>
   rw [e2,Za] at e
   obtain rfl:=Option.some.inj e
   rw [Za,e2,Za]
   exact hK y t vs h1 h2 h3 h4 h5
end Go.Proofs.YtkcmgbbopedacaaGreatDoor
namespace Go.Proofs.YtkcmgbbopedacaaGreatDoor
open Go.RowKit
theorem Zma {w:Zc} (h:(XL w).2=true) {v:Zt} (hv:XU v=true):(Xr w v=(W0,12))∨(ZbN (Xb w.Query) (XL w).1 v.Interval=false∧Xr w v=(stepW w v (XL w).1 (Yo v.Interval (XL w).1),0)):=by
 unfold Xr
 rw [h,hv,if_neg (by simp),if_neg (by simp)]
 cases ZbN (Xb w.Query) (XL w).1 v.Interval with
 | true=>exact .inl rfl
 | false=>exact .inr ⟨rfl,rfl⟩
theorem ZuD (w:Zc) (v:Zt) (a b:Rng):(stepW w v a b).Query=w.Query:=by
 unfold stepW
 split <;> rfl
end Go.Proofs.YtkcmgbbopedacaaGreatDoor
