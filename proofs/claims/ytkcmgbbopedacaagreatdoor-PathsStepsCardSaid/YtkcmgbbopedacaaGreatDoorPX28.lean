/-
  Lemmas: Plain words
-/
import Derived.Test.YtkcmgbbopedacaaGreatDoorPX26
import Derived.Test.YtkcmgbbopedacaaGreatDoorPX27
import Derived.Test.YtkcmgbbopedacaaGreatDoorPX18
import Derived.Test.YtkcmgbbopedacaaGreatDoorPX24
set_option linter.unusedSimpArgs false
set_option linter.unusedVariables false
namespace Go.Proofs.YtkcmgbbopedacaaGreatDoor
open Go.RowKit
theorem ZlL {t:List Kv} (h:Yx t=true) (p:Kv→Bool):Yx (t.filter p)=true:=by
 rw [Zb5] at h ⊢
 obtain ⟨h1,h2,h3⟩:=h
 exact ⟨Nat.le_trans (List.length_filter_le _ _) h1,fun r hr=>h2 r (List.mem_filter.1 hr).1,h3.filter p⟩
theorem ZrA (r:Rng) (t:List Kv):((t.filter fun x=>contains r x.key).all fun x=>contains r x.key)=true:=List.all_eq_true.2 fun x hx=>(List.mem_filter.1 hx).2
def P0:ZbW:=⟨0,0,0,⟨0,0⟩,zr,[]⟩
def Zmz (r:Rng) (s:Yh) (t:List Kv):ZbV:=⟨r,s,t,[],P0,P0,0,0⟩
theorem ZiF {r:Rng} {s:Yh} {t:List Kv} (hr:vld r=true) (hs:Zmj s=true) (ht:Yx t=true) (hw:(t.all fun x=>contains r x.key)=true):Zbf r s t=some (Zmz r s t,0):=by
 have:=((Zb5 t).1 ht).1
 unfold Zbf
 rw [Zr,Zbb,hr,Bool.not_true,Zb,Zr,ZbT,hs,ZaM,ht,Zbt,Zr,hw,Z4 (by simp; omega)]
 simp only [Za,Bool.not_true,Zb,List.nil_append]
 rfl
theorem Zf7 {r:Rng} {s:Yh} {t:List Kv} (hr:vld r=true) (hs:Zmj s=true) (ht:Yx t=true) (hw:(t.all fun x=>contains r x.key)=true):ZbH (Zmz r s t)=some true:=by
 have h0:=((Zb5 t).1 ht).1
 have ha:∀ x:Rng,ZbK P0 x=some true:=fun x=>rfl
 unfold ZbH Zmz
 simp only [Zr,Zbb,ZbT,ZaM,Zbt,hr,hs,ht,hw,Za,Bool.not_true,Zb,ha]
 have e1:decide (64<((([]:List Q9).length:Nat):Int))=false:=rfl
 have e2:decide (1024<Z6 ((t.length:Int)+((([]:List Q9).length:Nat):Int)))=false:=decide_eq_false (by
  have:((([]:List Q9).length:Nat):Int)=0:=rfl
  rw [this,ZT (by omega) (by omega)]; omega)
 have e3:decide (P0.Serial=0)=true:=rfl
 rw [e1,e2,e3]
 rfl
theorem ZgA (id:Int):∀ (l:List YO) (i:Int),(∀ m ∈ l,m.ID≠id)→Zal id l i=.nxt ()
 | [],_,_=>rfl
 | m::l,i,h=>by
  rw [Zal.eq_2,decide_eq_false (h m List.mem_cons_self),Zb]
  exact ZgA id l _ fun x hx=>h x (List.mem_cons_of_mem _ hx)
theorem Zqf (n:Int) (b:Bool) (l:List YO) (id:Int) (h:∀ m ∈ l,m.ID≠id):ZbO ⟨n,b,l⟩ id=-1:=by
 unfold ZbO
 simp only
 rw [ZgA id l 0 h]; rfl
theorem ZqU (b:Bool):∀ ids:List Int,(∀ i ∈ ids,Zed i=true)→Zah ids b=some b
 | [],_=>rfl
 | i::l,h=>by
  have ih:=ZqU b l fun x hx=>h x (List.mem_cons_of_mem _ hx)
  rw [Zah.eq_2,Zr,Zbs,h i List.mem_cons_self,Bool.not_true]
  cases b with
  | true=>rw [Zl]; exact ih
  | false=>rw [Zb]; exact ih
theorem ZqJ (n:Int) (c:ZbV):∀ (ids:List Int) (acc:List YO),ids.Nodup→(∀ m ∈ acc,m.ID ∉ ids)→acc.length+ids.length≤1000→Zai n c ids acc=some (.nxt (acc++ids.map fun i=>⟨i,true,c⟩))
 | [],acc,_,_,_=>by rw [Zai.eq_1]; simp
 | i::l,acc,h,h1,h2=>by
  have hh:=List.nodup_cons.1 h
  simp only [List.length_cons] at h2
  rw [Zai.eq_2,Zr,Zqf _ _ _ _ (fun m hm e=>h1 m hm (by rw [e]; exact List.mem_cons_self)),decide_eq_false (by omega),Zb,Z4 (by simp; omega),Za]
  rw [ZqJ n c l _ hh.2 (fun m hm=>by
   rcases List.mem_append.1 hm with hm | hm
   ·exact fun h3=>h1 m hm (List.mem_cons_of_mem _ h3)
   ·rw [List.mem_singleton.1 hm]; exact hh.1) (by simp; omega)]
  simp
theorem Ziy {r:Rng} {s:Yh} {t:List Kv} (hr:vld r=true) (hs:Zmj s=true) (ht:Yx t=true) (hw:(t.all fun x=>contains r x.key)=true) {n:Int} (hn:Zed n=true) {ids:List Int} (h0:0<ids.length) (h5:ids.length≤5) (hi:∀ i ∈ ids,Zed i=true) (hd:ids.Nodup) :
   Zbg n ids (Zmz r s t)=some (⟨n,true,ids.map fun i=>⟨i,true,Zmz r s t⟩⟩,0):=by
 unfold Zbg
 rw [Zr,Zbs,hn,Zf7 hr hs ht hw,decide_eq_false (by omega)]
 simp only [Bool.not_true,Zb,Za]
 rw [ZqU _ ids hi,Za,Zb,decide_eq_false (by omega),Zb,ZqJ _ _ _ _ hd (by simp) (by simp; omega),Za,ZN]
 simp
def Tl (t:List Kv):Bnd→List ZE→Bnd→Prop
 | a,[],b=>a=b
 | a,v::l,b=>v.Interval.lo=a∧emp v.Interval=false∧ZcG v=true∧v.Rows=t.filter (fun x=>contains v.Interval x.key)∧Tl t v.Interval.hi l b
theorem Tl.snoc {t:List Kv} {v:ZE}:∀ {l:List ZE} {a b:Bnd},Tl t a l b→v.Interval.lo=b→emp v.Interval=false→ZcG v=true→v.Rows=t.filter (fun x=>contains v.Interval x.key)→Tl t a (l++[v]) v.Interval.hi
 | [],a,b,h,h1,h2,h3,h4=>⟨by rw [h1]; exact h.symm,h2,h3,h4,rfl⟩
 | x::l,a,b,⟨g1,g2,g3,g4,g5⟩,h1,h2,h3,h4=>⟨g1,g2,g3,g4,g5.snoc h1 h2 h3 h4⟩
theorem Tl.mem {t:List Kv}:∀ {l:List ZE} {a b:Bnd},Tl t a l b→∀ v ∈ l,ZcG v=true∧v.Rows=t.filter (fun x=>contains v.Interval x.key)∧emp v.Interval=false
 | [],_,_,_,_,hv=>by simp at hv
 | x::l,a,b,⟨g1,g2,g3,g4,g5⟩,v,hv=>by
  rcases List.mem_cons.1 hv with rfl | hv
  ·exact ⟨g3,g4,g2⟩
  ·exact g5.mem v hv
def Sh (gs:List ZX) (vs:List ZE):Prop:=gs.map Zdr=vs.map fun v=>some (v,0)
theorem Sh.len {gs:List ZX} {vs:List ZE} (h:Sh gs vs):gs.length=vs.length:=by
 have:=congrArg List.length h
 simpa using this
theorem ZtA {r:Rng} (h:emp r=false):vld r=true:=by
 unfold emp at h
 cases hv:vld r with
 | true=>rfl
 | false=>rw [hv] at h; simp at h
theorem ZtL {n k:Int} (hn:1≤n∧n≤1000) (hk:0≤k∧k<3):∃ l,lsl ([Z6 (10 * n),Z6 (Z6 (10 * n)+1),Z6 (Z6 (10 * n)+2)]:List Int) 0 (Z6 (1+k))=some (10 * n::l)∧(10 * n::l).length≤5∧(∀ i ∈ 10 * n::l,Zed i=true)∧(10 * n::l).Nodup:=by
 have e0:Z6 (10 * n)=10 * n:=ZT (by omega) (by omega)
 have e1:Z6 (10 * n+1)=10 * n+1:=ZT (by omega) (by omega)
 have e2:Z6 (10 * n+2)=10 * n+2:=ZT (by omega) (by omega)
 have e3:Z6 (1+k)=1+k:=ZT (by omega) (by omega)
 rw [e0,e1,e2,e3]
 have no:∀ x:Int,1≤x→x≤100000→Zed x=true:=fun x h1 h2=>by unfold Zed; rw [decide_eq_true h1,decide_eq_true (by omega)]; rfl
 have hk3:k=0∨k=1∨k=2:=by omega
 rcases hk3 with rfl | rfl | rfl
 ·refine ⟨[],rfl,by simp,fun i hi=>?_,by simp⟩
  simp only [List.mem_cons,List.not_mem_nil,or_false] at hi
  exact no i (by omega) (by omega)
 ·refine ⟨[10 * n+1],rfl,by simp,fun i hi=>?_,by simp; omega⟩
  simp only [List.mem_cons,List.not_mem_nil,or_false] at hi
  exact no i (by omega) (by omega)
 ·refine ⟨[10 * n+1,10 * n+2],rfl,by simp,fun i hi=>?_,by simp; omega⟩
  simp only [List.mem_cons,List.not_mem_nil,or_false] at hi
  exact no i (by omega) (by omega)
theorem ZkX {τ:Zy} (hτ:okT τ) {t:List Kv} (ht:Yx t=true) {out:List ZX} {vs:List ZE} (hsh:Sh out vs) {a:Bnd} {x:Rng} (htl:Tl t a vs x.lo) (hx:emp x=false) (hl:out.length≤500) {K:List ZX→Zy→Option (List ZX × List Int × Int)} {Q:List ZX × List Int × Int→Prop}
   (hK:∀ (g:ZX) (v:ZE) (τ':Zy),okT τ'→Sh (out++[g]) (vs++[v])→Tl t a (vs++[v]) x.hi→Tot (K (out++[g]) τ') Q) :
   Tot (Zc (Zh τ 3) fun y19 =>
    Zc (Zh y19.2 2) fun y20 =>
    Zc (XY t x) fun y21 =>
    Zc (Zbf x (Yh.mk y19.1 y20.1) y21) fun y22 =>
    Zc (Zh y20.2 3) fun y23 =>
    Zc (lsl ([Z6 (10 * (Z6 ((out.length:Int)+1))),Z6 ((Z6 (10 * (Z6 ((out.length:Int)+1))))+1),Z6 ((Z6 (10 * (Z6 ((out.length:Int)+1))))+2)]:List Int) 0 (Z6 (1+y23.1))) fun l24 =>
    Zc (Zbg (Z6 ((out.length:Int)+1)) l24 y22.1) fun y25 =>
    Zc (app out ([y25.1]:List ZX)) fun l26=>K l26 y23.2) Q:=by
 have h0:=((Zb5 t).1 ht).1
 have hv:=ZtA hx
 refine Zt (Zad hτ (by omega)) fun y19 h19=>Zt (Zad h19.1 (by omega)) fun y20 h20=>?_
 have c19:=h19.2
 have c20:=h20.2
 unfold Cho at c19 c20
 have hs:Zmj ⟨y19.1,y20.1⟩=true:=by
  unfold Zmj
  rw [decide_eq_true (by simp only; omega),decide_eq_true (by simp only; omega),decide_eq_true (by simp only; omega),decide_eq_true (by simp only; omega)]; rfl
 have ht2:=ZlL ht fun z=>contains x z.key
 have hw:=ZrA x t
 rw [Zdg _ _ (by omega),Za,ZiF hv hs ht2 hw,Za]
 refine Zt (Zad h20.1 (by omega)) fun y23 h23=>?_
 have c23:=h23.2
 unfold Cho at c23
 rw [ZT (a:=(out.length:Int)+1) (by omega) (by omega)]
 obtain ⟨l,e,h5,hi,hd⟩:=ZtL (n:=(out.length:Int)+1) (k:=y23.1) (by omega) (by omega)
 have hn:Zed ((out.length:Int)+1)=true:=by unfold Zed; rw [decide_eq_true (by omega),decide_eq_true (by omega)]; rfl
 rw [e,Za,Ziy hv hs ht2 hw hn (by simp) h5 hi hd,Za,Z4 (by simp; omega),Za]
 refine hK _ ⟨10 * ((out.length:Int)+1),x,⟨y19.1,y20.1⟩,t.filter fun z=>contains x z.key⟩ _ h23.1 ?_ ?_
 ·unfold Sh at hsh ⊢
  rw [List.map_append,List.map_append,hsh]
  congr 1
 ·exact Tl.snoc (v:=⟨10 * ((out.length:Int)+1),x,⟨y19.1,y20.1⟩,t.filter fun z=>contains x z.key⟩) htl rfl hx (by
   unfold ZcG
   simp only
   rw [hi _ List.mem_cons_self,hx,hs,ht2,hw]; rfl) rfl
def ZgF:Bnd:=⟨⟨#[]⟩,true⟩
theorem ZqN:vb ZgF=true:=by kernel_rfl
theorem ZtJ {b:Bnd} (h:vb b=true) (ht:b.top=true):b=ZgF:=by
 obtain ⟨k,t⟩:=b
 simp only at ht
 subst ht
 simp only [vb,Bool.not_true,Bool.false_or,Bool.and_eq_true] at h
 obtain ⟨⟨l⟩⟩:=k
 have:=h.2
 rw [ByteArray.toList_eq] at this
 cases l with
 | nil=>rfl
 | cons a l=>simp at this
theorem Zrq {b:Bnd} (h:vb b=true) (he:emp ⟨b,ZgF⟩=true):b=ZgF:=by
 cases ht:b.top with
 | true=>exact ZtJ h ht
 | false =>
  exfalso
  have h1:b.lt ZgF=true:=by simp [Bnd.lt,ht,ZgF]
  have h2:cmp b ZgF<0:=(Zbh _ _).2 h1
  unfold emp vld at he
  simp only at he
  rw [h,ZqN,decide_eq_true (by omega)] at he
  have h3:cmp b ZgF=0:=by simpa using he
  omega
theorem ZtH {a b:Bnd} (ha:vb a=true) (hb:vb b=true) (h:0<cmp b a):emp ⟨a,b⟩=false:=by
 have h2:cmp a b=- cmp b a:=Zhg b a
 unfold emp vld
 simp only
 rw [ha,hb,decide_eq_true (by omega)]
 have:(cmp a b == 0)=false:=by
  cases hh:cmp a b == 0 with
  | false=>rfl
  | true=>have:=eq_of_beq hh; omega
 rw [this]; rfl
theorem ZqI (τ0:Zy) (t:List Kv) (ht:Yx t=true) (cuts:List Bnd × Zy) (hc:cuts.1.length≤100):∀ (fuel:Nat) (l:List Int) (a:Int) (out:List ZX) (lo:Bnd) (i:Nat) (vs:List ZE),okT ⟨l,a⟩→cuts.1.length+1 - i<fuel→out.length≤i→(i≤cuts.1.length+1)→Sh out vs→Tl t zb vs lo→vb lo=true→(i=cuts.1.length+1→lo=ZgF) →
   Tot (ZW (t,τ0) XB cuts fuel l a out lo.key lo.top (i:Int)) fun z=>okT ⟨z.2.1,z.2.2⟩∧z.1.length≤cuts.1.length+1∧∃ vs,Sh z.1 vs∧Tl t zb vs ZgF
 | 0,_,_,_,_,_,_,_,h,_,_,_,_,_,_=>absurd h (by omega)
 | fuel+1,l,a,out,lo,i,vs,h,hf,ho,hi,hs,htl,hlo,hend=>by
  rw [ZW.eq_2]
  refine Zce (R:=fun _=>i≤cuts.1.length) (ZG (fun h1=>ZA (by have:=of_decide_eq_true h1; show i≤cuts.1.length; omega)) fun h1=>ZA ⟨h,by simp only; omega,vs,hs,?_⟩) fun _ h1=>?_
  ·have h1:=of_decide_eq_false h1
   rw [hend (by omega)] at htl; exact htl
  have next:∀ (τ:Zy) (out':List ZX) (lo':Bnd) (vs':List ZE),okT τ→out'.length≤i+1→Sh out' vs'→Tl t zb vs' lo'→vb lo'=true→(i=cuts.1.length→lo'=ZgF)→Tot (ZW (t,τ0) XB cuts fuel τ.l τ.at_ out' lo'.key lo'.top (Z6 ((i:Int)+1))) fun z=>okT ⟨z.2.1,z.2.2⟩∧z.1.length≤cuts.1.length+1∧∃ vs,Sh z.1 vs∧Tl t zb vs ZgF:=fun τ out' lo' vs' g1 g2 g3 g4 g5 g6=>by
   rw [ZT (by omega) (by omega),show (i:Int)+1=((i+1:Nat):Int) by omega]
   exact ZqI τ0 t ht cuts hc fuel τ.l τ.at_ out' lo' (i+1) vs' g1 (by omega) g2 (by omega) g3 g4 g5 (fun h=>g6 (by omega))
  refine Zt (R:=fun b=>b=true→∃ h:i<cuts.1.length,vb cuts.1[i]=true∧0<cmp cuts.1[i] lo) (ZG (fun h2=>?_) fun _=>ZA (by simp)) fun b hb=>?_
  ·have h2:i<cuts.1.length:=by have:=of_decide_eq_true h2; omega
   rw [Z9,List.getElem?_eq_getElem h2,Za,Zr,XP]
   refine ZG (fun h3=>?_) fun _=>ZA (by simp)
   rw [Za,Zr,ZP]
   exact ZA fun h4=>⟨h2,h3,of_decide_eq_true h4⟩
  refine ZG (fun h2=>?_) fun _=>ZG (fun h3=>?_) fun h3=>?_
  ·obtain ⟨h3,h4,h5⟩:=hb h2
   rw [Z9,List.getElem?_eq_getElem h3,Za,Zr,Z5]
   have he:emp ⟨lo,cuts.1[i]⟩=false:=ZtH hlo h4 h5
   refine ZG (fun h6=>?_) fun _=>?_
   ·exact absurd (he.symm.trans h6) (by simp)
   ·exact ZkX (τ:=⟨l,a⟩) h ht hs (x:=⟨lo,cuts.1[i]⟩) htl he (by omega) (K:=fun o τ=>ZW (t,τ0) XB cuts fuel τ.l τ.at_ o cuts.1[i].key cuts.1[i].top (Z6 ((i:Int)+1))) fun g v τ' k1 k2 k3=>next τ' _ cuts.1[i] _ k1 (by simp; omega) k2 k3 h4 (fun h=>by omega)
  ·have h3:=of_decide_eq_true h3
   exact next ⟨l,a⟩ out lo vs h (by omega) hs htl hlo (fun h=>by omega)
  ·have h3:=of_decide_eq_false h3
   rw [Zr,Z5]
   have eh:XB.hi=ZgF:=rfl
   refine ZG (fun h6=>?_) fun h6=>?_
   ·exact next ⟨l,a⟩ out lo vs h (by omega) hs htl hlo (fun _=>Zrq hlo (by rw [← eh]; exact h6))
   ·exact ZkX (τ:=⟨l,a⟩) h ht hs (x:=⟨lo,XB.hi⟩) htl h6 (by omega) (K:=fun o τ=>ZW (t,τ0) XB cuts fuel τ.l τ.at_ o XB.hi.key XB.hi.top (Z6 ((i:Int)+1))) fun g v τ' k1 k2 k3=>next τ' _ XB.hi _ k1 (by simp; omega) k2 k3 ZqN (fun _=>eh)
theorem ZkJ:∀ (gs:List ZX) (vs out:List ZE),Sh gs vs→out.length+gs.length≤1000→Ql gs out=some (out++vs)
 | [],vs,out,h,_=>by
  have:=h.len
  have e:vs=[]:=List.eq_nil_of_length_eq_zero (by simpa using this.symm)
  rw [e,Ql.eq_1]; simp
 | g::gs,vs,out,h,hl=>by
  cases vs with
  | nil=>have:=h.len; simp at this
  | cons v vs =>
   unfold Sh at h
   simp only [List.map_cons,List.cons.injEq] at h
   simp only [List.length_cons] at hl
   rw [Ql.eq_2,h.1,Za,decide_eq_true rfl,Zl,Z4 (by simp; omega),Za,ZkJ gs vs _ h.2 (by simp; omega)]
   simp
theorem Zsd {τ:Zy} (h:okT τ) {n:Int} (h0:1≤n) (hn:n≤40) {γ:Type} {K:List ZE→Zy→Option γ} {Q:γ→Prop} (hK:∀ (t:List Kv) (vs:List ZE) (τ':Zy),okT τ'→Yx t=true→t.length≤8→(vs.length:Int)≤n→Tl t zb vs ZgF→Tot (K vs τ') Q) :
   Tot (Zc (Qi τ n) fun y=>Zc (Zbe y.1) fun z=>K z y.2) Q:=by
 refine Zt (R:=fun y=>okT y.2∧∃ t vs,Yx t=true∧t.length≤8∧y.1.length≤n∧Sh y.1 vs∧Tl t zb vs ZgF) ?_ ?_
 ·unfold Qi
  refine Zt (Zqd h (by omega) (by omega)) fun y3 h3=>?_
  obtain ⟨g1,g2,g3⟩:=h3
  rw [ZT (by omega) (by omega),Zr]
  refine Zt (ZkN g1 (by omega) (by omega)) fun y5 h5=>?_
  obtain ⟨k1,k2⟩:=h5
  have:=ZqI y3.2 y3.1 g2 y5 (by omega) FU y5.2.l y5.2.at_ [] zb 0 [] k1 (by unfold FU; omega) (by simp) (by omega) rfl rfl (by kernel_rfl) (fun h=>by omega)
  refine Zt this ?_
  rintro ⟨o,l,a⟩ ⟨m1,m2,vs,m3,m4⟩
  simp only at m1 m2 m3 m4
  exact ZA ⟨m1,y3.1,vs,g2,by omega,by simp only; omega,m3,m4⟩
 ·rintro ⟨gs,τ'⟩ ⟨h1,t,vs,h2,h3,h4,h5,h6⟩
  simp only at h1 h4 h5 ⊢
  unfold Zbe
  have:=h5.len
  rw [ZkJ gs vs [] h5 (by simp; omega),Za,List.nil_append,Za]
  exact hK t vs τ' h1 h2 h3 (by omega) h6
end Go.Proofs.YtkcmgbbopedacaaGreatDoor
namespace Go.Proofs.YtkcmgbbopedacaaGreatDoor
open Go.RowKit
theorem Zre:okW W0:=⟨by simp [W0],by simp [W0],by simp [W0],by simp [W0]⟩
theorem ZkV (r:Rng):(Zra r).length≤1:=by
 unfold Zra
 split <;> simp
theorem Zij (v:ZE) (p:Rng) (hv:v.Rows.length≤10000):(Zgg v p).View.Rows.length≤10000:=Nat.le_trans (List.length_filter_le _ _) hv
theorem step_ok {w:Zf} (h:okW w) (hn:w.Visits.length≤999) (v:ZE) (hv:v.Rows.length≤10000) (ht:w.Todo.isEmpty=false) (want part:Rng):okW (stepW w v want part)∧(stepW w v want part).Visits.length=w.Visits.length+1∧(stepW w v want part).Todo.length≤w.Todo.length:=by
 have h1:=h.todo
 have h2:0<w.Todo.length:=by
  cases hh:w.Todo with
  | nil=>rw [hh] at ht; cases ht
  | cons a l=>simp
 unfold stepW
 split
 ·have h3:=ZkV ⟨want.lo,part.lo⟩
  refine ⟨⟨h.q,by simp; omega,by simp; omega,fun x hx=>?_⟩,by simp,by simp; omega⟩
  simp only [List.mem_cons] at hx
  rcases hx with rfl | hx
  ·exact Zij v part hv
  ·exact h.rows x hx
 ·have h3:=ZkV ⟨part.hi,want.hi⟩
  refine ⟨⟨h.q,by simp; omega,by simp; omega,fun x hx=>?_⟩,by simp,by simp; omega⟩
  simp only [List.mem_append,List.mem_singleton] at hx
  rcases hx with hx | rfl
  ·exact h.rows x hx
  ·exact Zij v part hv
theorem ZrQ {w:Zf} (h:okW w) (hn:w.Visits.length≤999) (v:ZE) (hv:v.Rows.length≤10000):okW (Zee w v).1∧(Zee w v).1.Visits.length≤w.Visits.length+1:=by
 unfold Zee
 split
 ·exact ⟨Zre,by simp [W0]⟩
 ·rename_i h1
  have ht:=Zfn (ZgX (w:=w) (by simpa using h1))
  split
  ·exact ⟨Zre,by simp [W0]⟩
  ·split
   ·exact ⟨Zre,by simp [W0]⟩
   ·have:=step_ok h hn v hv ht (Za8 w).1 (Zc5 v.Interval (Za8 w).1)
    exact ⟨this.1,by simp only; omega⟩
def ZmC (vs:List ZE):Prop:=vs≠[]∧vs.length≤100∧∀ v ∈ vs,v.Rows.length≤8
theorem Tl.good {t:List Kv} (ht:t.length≤8) {vs:List ZE} (hl:vs.length≤100) (h:Tl t zb vs ZgF):ZmC vs:=by
 refine ⟨fun e=>?_,hl,fun v hv=>?_⟩
 ·subst e
  have:zb.top=ZgF.top:=congrArg Bnd.top h
  cases this
 ·rw [(h.mem v hv).2.1]
  exact Nat.le_trans (List.length_filter_le _ _) ht
theorem Zk0 (want:Rng) (d:Bool):∀ (l:List ZE) (x:List Int) (a:Int),okT ⟨x,a⟩→Tot (Zx want d l x a) (Zsv (fun y=>okT y.2∧y.1 ∈ l) fun z=>okT ⟨z.1,z.2⟩)
 | [],x,a,h=>ZA h
 | v::l,x,a,h=>by
  rw [Zx.eq_2]
  have on:∀ (x:List Int) (a:Int),okT ⟨x,a⟩→Tot (Zx want d l x a) (Zsv (fun y=>okT y.2∧y.1 ∈ v::l) fun z=>okT ⟨z.1,z.2⟩):=fun x a h=>ZkI (Zk0 want d l x a h) fun c hc=>by
   cases c with
   | ret y=>exact ⟨hc.1,List.mem_cons_of_mem _ hc.2⟩
   | nxt z=>exact hc
  have go:Tot (Zc (Zw ⟨x,a⟩ 25) fun y12=>sel (!y12.1) (some (Ctl.ret (v,y12.2))) (Zx want d l y12.2.l y12.2.at_)) (Zsv (fun y=>okT y.2∧y.1 ∈ v::l) fun z=>okT ⟨z.1,z.2⟩) :=
   Zt (Zcg h (by omega)) fun y hy=>ZG (fun _=>ZA ⟨hy,List.mem_cons_self⟩) fun _=>on _ _ hy
  exact ZG (fun _=>QW (ZG (fun _=>QW (ZG (fun _=>go) fun _=>(ZG (fun _=>QW (ZG (fun _=>QW (ZG (fun _=>go) fun _=>on x a h)) fun _=>on x a h)) fun _=>on x a h))) fun _=>(ZG (fun _=>QW (ZG (fun _=>QW (ZG (fun _=>go) fun _=>on x a h)) fun _=>on x a h)) fun _=>on x a h))) fun _=>(ZG (fun _=>QW (ZG (fun _=>QW (ZG (fun _=>go) fun _=>on x a h)) fun _=>on x a h)) fun _=>on x a h)
theorem Zn5 {τ:Zy} (h:okT τ) {vs:List ZE} (hv:ZmC vs) (want:Rng) (d:Bool):Tot (Zam τ vs want d) fun y=>okT y.2∧y.1 ∈ vs:=by
 unfold Zam
 obtain ⟨h1,h2,-⟩:=hv
 have h0:0<vs.length:=List.length_pos_iff.2 h1
 refine ZG (fun hh=>absurd (of_decide_eq_true hh) (by omega)) fun _=>Zce (Zk0 want d vs _ _ h) ?_
 rintro ⟨x,a⟩ hx
 refine Zt (Zad hx (by omega)) fun y hy=>?_
 have hc:=hy.2
 unfold Cho at hc
 exact Zt (Zfa (Q:=fun v=>v ∈ vs) hc.1 (by omega) fun _=>List.getElem_mem _) fun v hv=>ZA ⟨hy.1,hv⟩
theorem Zio {τ:Zy} (h:okT τ):Tot (X5 τ) fun y=>okT y.2:=by
 unfold X5
 exact Zt (ZdG h (by decide) (by decide)) fun y hy=>Zt (ZdG hy.1 (by decide) (by decide)) fun z hz=>ZA hz.1
theorem Ziu {τ:Zy} (h:okT τ):Tot (XU τ) fun y=>okT y.2:=by
 unfold XU
 refine Zt (Zio h) fun y hy=>Zt (Zad hy (by omega)) fun z hz=>ZG (fun _=>Zt (ZdG hz.1 (by decide) (by decide)) fun u hu=>ZA hu.1) fun _=>ZG (fun _=>Zt (ZdG hz.1 (by decide) (by decide)) fun u hu=>ZA hu.1) fun _=>ZA hz.1
theorem ZkW {τ:Zy} (h:okT τ) (r:Rng):Tot (Qz τ r) fun y=>okT y.2∧y.1.Rows.length≤8:=by
 unfold Qz
 refine Zt (Zad h (by omega)) fun y3 h3=>Zt (Zio h3.1) fun y4 h4=>Zt (ZlN h4 r (by omega) (by omega)) fun y5 h5=>Zt (Zad h5.1 (by omega)) fun y6 h6=>?_
 have hl:y5.1.length≤4:=by have:=h5.2.2.2; omega
 refine ZG (fun _=>Zt (ZdG h6.1 (by decide) (by decide)) fun u hu=>ZA ⟨hu.1,by simp only; omega⟩) fun _=>?_
 refine ZG (fun _=>Zt (ZnZ h6.1) fun u hu=>ZA ⟨hu,by simp only; omega⟩) fun _=>?_
 refine ZG (fun _=>Zt (Ziu h6.1) fun u hu=>ZA ⟨hu,by simp only; omega⟩) fun _=>?_
 refine ZG (fun _=>Zt (ZjN h6.1 (by omega)) fun u hu=>ZA ⟨hu.1,by have:=hu.2; simp only; omega⟩) fun _=>?_
 exact ZA ⟨h6.1,by simp only; omega⟩
end Go.Proofs.YtkcmgbbopedacaaGreatDoor
-- LEFT wawake_ok2
namespace Go.Proofs.YtkcmgbbopedacaaGreatDoor
open Go.RowKit
structure Pcs (X:List Rng) (x:Rng):Prop where
 ne:∀ r ∈ X,emp r=false
 lo:∀ r ∈ X,r.lo.lt x.lo=false
 hi:∀ r ∈ X,x.hi.lt r.hi=false
 srt:X.Pairwise fun a b=>b.lo.lt a.hi=false
 pts:∀ b,vb b=true→(Pt X b↔Pt [x] b)
structure Gd (l m:List Rng):Prop where
 ne:∀ r ∈ l,emp r=false
 srt:l.Pairwise fun a b=>b.lo.lt a.hi=false
 pts:∀ b,vb b=true→(Pt l b↔Pt m b)
theorem Gd.union {l m:List Rng} (g:Gd l m) (hm:Nrm m):union l=m:=ZkY hm fun b hb=>by rw [ZdP g.ne]; exact g.pts b hb
theorem Zjl (q:Zj):Nrm (qrg q):=by
 unfold qrg YC
 split
 ·exact (ZfC _).1
 ·exact ⟨by simp,by simp⟩
theorem ZpF {τ:Zy} (h:okT τ) {n:Int} (h0:1≤n) (hn:n≤40) {γ:Type} {K:List ZX × Zy→List ZE→Option γ} {Q:γ→Prop} (hK:∀ (y:List ZX × Zy) (t:List Kv) (vs:List ZE),okT y.2→Yx t=true→t.length≤8→(vs.length:Int)≤n→Tl t zb vs ZgF→Tot (K y vs) Q) :
   Tot (Zc (Qi τ n) fun y=>Zc (Zbe y.1) fun z=>K y z) Q:=by
 have:=Zsd h h0 hn (K:=fun z τ'=>some (z,τ')) (Q:=fun z=>okT z.2∧∃ t,Yx t=true∧t.length≤8∧(z.1.length:Int)≤n∧Tl t zb z.1 ZgF) fun t vs τ' h1 h2 h3 h4 h5=>ZA ⟨h1,t,h2,h3,h4,h5⟩
 obtain ⟨z,e,h1,t,h2,h3,h4,h5⟩:=this
 cases e1:Qi τ n with
 | none=>rw [e1] at e; cases e
 | some y =>
  rw [e1,Za] at e
  cases e2:Zbe y.1 with
  | none=>rw [e2] at e; cases e
  | some vs =>
   rw [e2,Za] at e
   obtain rfl:=Option.some.inj e
   rw [Za,e2,Za]
   exact hK y t vs h1 h2 h3 h4 h5
end Go.Proofs.YtkcmgbbopedacaaGreatDoor
