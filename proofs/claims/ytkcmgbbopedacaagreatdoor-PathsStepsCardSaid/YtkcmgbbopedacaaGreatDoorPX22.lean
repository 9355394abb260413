/-
  Lemmas: Totality, step by step
-/
import Derived.Test.YtkcmgbbopedacaaGreatDoorPX10
import Derived.Test.YtkcmgbbopedacaaGreatDoorPX9
import Derived.Test.YtkcmgbbopedacaaGreatDoorPX21
set_option linter.unusedSimpArgs false
set_option linter.unusedVariables false
namespace Go.Proofs.YtkcmgbbopedacaaGreatDoor
open Go.RowKit
attribute [local irreducible] tpb
def ins (x:Kv):List Kv→List Kv
 | []=>[x]
 | r::t=>if bl x.key r.key then x::r::t else r::ins x t
def Zdw (k:ByteArray) (l:List Kv):List Kv:=l.filter fun r=>!decide (r.key=k)
def wth (x:Kv) (l:List Kv):List Kv:=ins x (Zdw x.key l)
theorem Zm9 (x:Kv) (l:List Kv):(ins x l).length=l.length+1:=by
 induction l with
 | nil=>rfl
 | cons r t ih=>simp only [ins]; split <;> simp [ih]
theorem ZrP (x:Kv) (l:List Kv):(wth x l).length≤l.length+1:=by
 rw [wth,Zm9]; have:=List.length_filter_le (fun r:Kv=>!decide (r.key=x.key)) l; unfold Zdw; omega
attribute [local irreducible] WK WC WL Wk Rel OpD OpV WD WO Op.bytesLess cmp vk vb vld emp contains
def put (x:Kv) (l:List Kv):List Kv × Int:=if Yx l && ZjZ x then (if 1024<(wth x l).length then ([],16) else (wth x l,0)) else ([],1)
theorem Zlz (x:Kv):Yx [x]=ZjZ x:=by
 simp [Yx,ZoA,List.range_succ]
theorem Zb5 (l:List Kv):Yx l=true↔l.length≤1024∧(∀ r ∈ l,ZjZ r=true)∧l.Pairwise (fun a b=>bl a.key b.key=true):=by
 constructor
 ·intro h
  simp only [Yx,Bool.and_eq_true,decide_eq_true_eq,List.all_eq_true,List.mem_range] at h
  obtain ⟨h0,h⟩:=h
  have h':∀ m (hm:m<l.length),ZjZ l[m]=true∧(m=0∨bl (l[m - 1]'(by omega)).key l[m].key=true):=fun m hm=>by
   have:=h m hm
   rw [Zjd hm] at this
   simpa using this
  refine ⟨h0,fun r hr=>?_,?_⟩
  ·obtain ⟨m,hm,rfl⟩:=List.mem_iff_getElem.1 hr
   exact (h' m hm).1
  ·rw [List.pairwise_iff_getElem]
   intro i j hi hj hij
   obtain ⟨d,rfl⟩:=Nat.exists_eq_add_of_lt hij
   induction d with
   | zero=>simpa using (h' (i+0+1) hj).2
   | succ d ih =>
    have h1:=ih (by omega) (by omega)
    have h2:=(h' (i+(d+1)+1) hj).2
    simp only [Nat.add_eq_zero_iff,Nat.one_ne_zero,and_false,false_or,Nat.add_sub_cancel] at h2
    exact Yr h1 h2
 ·rintro ⟨h0,h1,h2⟩
  refine Zp6 h0 fun j hj=>?_
  rw [Zjd hj,h1 _ (List.getElem_mem _)]
  rw [List.pairwise_iff_getElem] at h2
  by_cases e:j=0
  ·simp [e]
  ·simp [h2 (j - 1) j (by omega) hj (by omega)]
theorem Zjv {x r:Kv} {l:List Kv}:r ∈ ins x l↔r=x∨r ∈ l:=by
 induction l with
 | nil=>simp [ins]
 | cons a t ih=>simp only [ins]; split <;> simp [ih]; grind
theorem Zt8 {x:Kv} {l:List Kv} (h:l.Pairwise (fun a b=>bl a.key b.key=true)) (hx:∀ r ∈ l,r.key≠x.key):(ins x l).Pairwise (fun a b=>bl a.key b.key=true):=by
 induction l with
 | nil=>simp [ins]
 | cons a t ih =>
  rw [List.pairwise_cons] at h
  simp only [ins]
  split
  ·rename_i hb
   rw [List.pairwise_cons]
   refine ⟨fun b hb'=>?_,List.pairwise_cons.2 h⟩
   rcases List.mem_cons.1 hb' with rfl | hb'
   ·exact hb
   ·exact Yr hb (h.1 b hb')
  ·rename_i hb
   rw [List.pairwise_cons]
   refine ⟨fun b hb'=>?_,ih h.2 fun r hr=>hx r (List.mem_cons_of_mem _ hr)⟩
   rcases Zjv.1 hb' with rfl | hb'
   ·cases hba:bl a.key b.key with
    | true=>rfl
    | false =>
     have:=YD (by simpa using hb) hba
     have h3:=hx a List.mem_cons_self
     exfalso; apply h3
     have h4:=Zdy b.key a.key
     simp only [this,BEq.rfl] at h4
     exact (of_decide_eq_true h4.symm).symm
   ·exact h.1 b hb'
theorem Zn1 {x:Kv} {l:List Kv} (h:Yx l=true) (hx:ZjZ x=true) (hl:l.length<1024):put x l=(wth x l,0)∧Yx (wth x l)=true∧(wth x l).length≤l.length+1:=by
 have h1:=ZrP x l
 refine ⟨by simp only [put,h,hx,Bool.and_self,if_true]; rw [if_neg (by omega)],?_,h1⟩
 rw [Zb5] at h ⊢
 obtain ⟨g0,g1,g2⟩:=h
 refine ⟨by omega,fun r hr=>?_,Zt8 (List.Pairwise.filter _ g2) fun r hr=>by simpa using (List.mem_filter.1 hr).2⟩
 rcases Zjv.1 hr with rfl | hr
 ·exact hx
 ·exact g1 r (List.mem_filter.1 hr).1
theorem ZjF {r:Rng} (h:emp r=false):contains r r.lo.key=true:=by
 obtain ⟨⟨a,s⟩,⟨b,t⟩⟩:=r
 have hi:=Yv a.toList
 simp only [emp,contains,vld,vb,vk,cmp,Bnd.lt] at *
 cases s <;> cases t <;> simp_all <;> grind
end Go.Proofs.YtkcmgbbopedacaaGreatDoor
namespace Go.Proofs.YtkcmgbbopedacaaGreatDoor
open Go.RowKit
theorem Q3 (k:ByteArray):∀ (t out:List Kv),t.length+out.length≤4294967296→YM k t out=some (out++Zdw k t)
 | [],out,_=>by simp [YM,Zdw]
 | x::t,out,h=>by
  simp only [List.length_cons] at h
  rw [YM.eq_2,ZL]
  by_cases hk:x.key=k
  ·rw [if_neg (by simp [hk]),Q3 k t out (by omega)]; simp [Zdw,hk]
  ·rw [if_pos (by simp [hk]),Z4 (by simp; omega),Za,Q3 k t _ (by simp; omega)]; simp [Zdw,hk]
theorem ZeZ (k:ByteArray) (t:List Kv) (h:t.length≤4294967296):ZaI t k=some (Zdw k t):=by
 rw [ZaI,Q3 k t [] (by simpa using h),Za]; rfl
theorem ZeX (x:Kv):∀ (t out:List Kv) (d:Bool),2 * t.length+out.length+1≤4294967296→∃ d',XJ x t out d=some (out++(if d then t else (ins x t).take (t.length+d'.toNat)),d')∧(d=true→d'=true)∧(d=false→d'=false→ins x t=t++[x]):=by
 intro t
 induction t with
 | nil =>
  intro out d _
  exact ⟨d,by cases d <;> simp [XJ,ins],fun h=>h,fun _ _=>rfl⟩
 | cons r t ih =>
  intro out d h
  simp only [List.length_cons] at h
  rw [XJ.eq_2]
  cases d with
  | true =>
   rw [show (!true)=false from rfl,Zb,Za,Zb,Z4 (by simp; omega),Za]
   obtain ⟨d',e,h1,h2⟩:=ih (out++[r]) true (by simp; omega)
   exact ⟨d',by rw [e]; simp,h1,(fun h=>by cases h)⟩
  | false =>
   rw [show (!false)=true from rfl,Zl,Za,ZL]
   by_cases hb:bl x.key r.key=true
   ·rw [if_pos hb,Z4 (by simp; omega),Za,Z4 (by simp; omega),Za]
    obtain ⟨d',e,h1,h2⟩:=ih (out++[x]++[r]) true (by simp; omega)
    obtain rfl:=h1 rfl
    exact ⟨true,by rw [e]; simp [ins,hb],fun _=>rfl,(fun _ h=>by cases h)⟩
   ·rw [if_neg hb,Z4 (by simp; omega),Za]
    obtain ⟨d',e,h1,h2⟩:=ih (out++[r]) false (by simp; omega)
    refine ⟨d',?_,(fun h=>by cases h),fun _ h3=>?_⟩
    ·rw [e]; simp [ins,hb,Nat.add_right_comm]
    ·simp [ins,hb,h2 rfl h3]
theorem Zhr (x:Kv) (t:List Kv) (h:2 * t.length+10≤4294967296):Zcm t x=some (wth x t):=by
 have hw:(Zdw x.key t).length≤t.length:=List.length_filter_le _ _
 rw [Zcm,ZeZ _ _ (by omega),Za]
 obtain ⟨d',e,h1,h2⟩:=ZeX x (Zdw x.key t) [] false (by simp; omega)
 rw [e,Za]
 cases d' with
 | true =>
  simp only [Bool.not_true,Zb,Bool.false_eq_true,if_false,List.nil_append,wth]
  rw [List.take_of_length_le (by rw [Zm9]; simp)]
 | false =>
  simp only [Bool.not_false,Zl,Bool.false_eq_true,if_false,List.nil_append]
  have hi:=h2 rfl rfl
  rw [hi]
  rw [Z4 (by simp; omega),Za,wth,hi]
  simp
theorem ZhX (t:List Kv) (m:Nat) (r:Kv) (h:t[m]?=some r):ZoA t m=(ZjZ r && (m == 0 || match t[m - 1]? with | some x=>bl x.key r.key | none=>false)):=by
 have h2:=(List.getElem?_eq_some_iff.1 h)
 obtain ⟨h3,rfl⟩:=h2
 rw [Zjd h3]
 cases m with
 | zero=>simp
 | succ m =>
  have:t[m]?=some t[m]:=List.getElem?_eq_getElem (by omega)
  simp [this]
theorem Zac {α:Type} {t xs:List α} {m:Nat} {r:α} (h:t.drop m=r::xs):t[m]?=some r∧t.drop (m+1)=xs:=by
 constructor
 ·rw [← List.head?_drop,h]; rfl
 ·rw [← List.tail_drop,h]; rfl
theorem Zh9 (n m:Nat) (f:Nat→Bool) (h:m<n):((List.range' m (n - m)).all f)=(f m && (List.range' (m+1) (n - (m+1))).all f):=by
 obtain ⟨k,rfl⟩:=Nat.exists_eq_add_of_lt h
 rw [show m+k+1 - m=k+1 by omega,show m+k+1 - (m+1)=k by omega,List.range'_succ]
 rfl
theorem Zb8 (t:List Kv) (ht:t.length≤1024):∀ (xs:List Kv) (m:Nat),t.drop m=xs→m≤t.length→Xq t xs (m:Int)=some (sel ((List.range' m (t.length - m)).all (ZoA t)) (.nxt ()) (.ret false))
 | [],m,h,hm=>by
  have:t.length - m=0:=by have:=congrArg List.length h; simpa using this
  simp [Xq,this,Zl]
 | r::xs,m,h,hm=>by
  obtain ⟨h1,h2⟩:=Zac h
  have h3:=(List.getElem?_eq_some_iff.1 h1).1
  have ih:=Zb8 t ht xs (m+1) h2 h3
  rw [Xq.eq_2,Zr,Zh9 _ _ _ h3,ZhX t m r h1,QN,ZjZ,show (m:Int)+1=((m+1:Nat):Int) by omega,ih]
  have hsz:decide (64<(r.val.size:Int))=!decide (r.val.size≤64):=by
   by_cases h:r.val.size≤64
   ·have:¬ 64<(r.val.size:Int):=by omega
    simp [h,this]
   ·have:64<(r.val.size:Int):=by omega
    simp [h,this]
  rw [hsz]
  cases vk r.key with
  | false=>rfl
  | true =>
   cases decide (r.val.size≤64) with
   | false=>rfl
   | true =>
    cases m with
    | zero=>rfl
    | succ m =>
     have e1:Z6 (((m+1:Nat):Int) - 1)=(m:Int):=by rw [ZT (by omega) (by omega)]; omega
     have e2:decide ((0:Int)<((m+1:Nat):Int))=true:=decide_eq_true (by omega)
     have e3:t[m+1 - 1]?=some t[m]:=List.getElem?_eq_getElem (by omega)
     rw [e1,e2,e3,Z9,List.getElem?_eq_getElem (show m<t.length by omega),Za]
     have e4:(m+1 == 0)=false:=rfl
     rw [e4]
     simp only
     cases bl t[m].key r.key <;> rfl
theorem ZaM (t:List Kv):Y7 t=some (Yx t):=by
 unfold Y7
 rw [ZL]
 by_cases h:t.length≤1024
 ·rw [if_neg (by simp; omega)]
  have:=Zb8 t h t 0 rfl (Nat.zero_le _)
  rw [show ((0:Nat):Int)=0 from rfl] at this
  rw [this,Za,Yx,List.range_eq_range']
  simp only [Nat.sub_zero,h,decide_true,Bool.true_and]
  cases (List.range' 0 t.length).all (ZoA t) <;> rfl
 ·rw [if_pos (by simp; omega)]
  simp [Yx,h]
theorem Ziz (t:List Kv) (x:Kv) (h:t.length≤100000):Zc1 t x=some (put x t):=by
 unfold Zc1
 simp only [ZaM,Za,Zlz,put]
 cases Yx t with
 | false=>rfl
 | true =>
  cases ZjZ x with
  | false=>rfl
  | true =>
   simp only [Bool.not_true,Zb,Za,Bool.and_self,if_true]
   rw [Zhr x t (by omega),Za,ZL]
   by_cases hh:1024<(wth x t).length
   ·rw [if_pos (by simp; omega),if_pos hh]
   ·rw [if_neg (by simp; omega),if_neg hh]
theorem ZjD {r:Rng} {k:ByteArray} (h:contains r k=true):vk k=true:=by
 simp only [contains,Bool.and_eq_true] at h; exact h.1.1.2
theorem ZfI (r:Rng):∀ (fuel:Nat) (l:List Int) (a i:Int),okT ⟨l,a⟩→0≤i→i≤4→(4 - i).toNat<fuel→∃ c,XQ r fuel l a i=some c∧((∃ k τ',c=.ret (k,τ')∧okT τ'∧contains r k=true)∨∃ l' a',c=.nxt (l',a')∧okT ⟨l',a'⟩)
 | 0,_,_,_,_,_,_,h=>absurd h (by omega)
 | fuel+1,l,a,i,h,h0,h4,hf=>by
  rw [XQ.eq_2,ZL]
  by_cases hi:i<4
  ·rw [if_pos (by simpa using hi),Za,ZN]
   obtain ⟨k,τ1,e1,h1,hk⟩:=ZhV h
   rw [e1,Za,Zr,QS,ZL]
   split
   ·exact ⟨_,rfl,.inl ⟨_,_,rfl,h1,by assumption⟩⟩
   ·rw [ZT (by omega) (by omega)]
    exact ZfI r fuel _ _ _ h1 (by omega) (by omega) (by omega)
  ·rw [if_neg (by simpa using hi),Za,Y6]
   exact ⟨_,rfl,.inr ⟨_,_,rfl,h⟩⟩
theorem Zqj {τ:Zy} (h:okT τ) (r:Rng) (hr:emp r=false):∃ k τ',Zar τ r=some (k,τ')∧okT τ'∧contains r k=true:=by
 obtain ⟨c,e,hc⟩:=ZfI r FU τ.l τ.at_ 0 h (by omega) (by omega) (by unfold FU; omega)
 unfold Zar
 rw [e,Za]
 rcases hc with ⟨k,τ',rfl,h1,h2⟩ | ⟨l',a',rfl,h1⟩
 ·exact ⟨_,_,rfl,h1,h2⟩
 ·exact ⟨_,_,rfl,h1,ZjF hr⟩
theorem ZeG (r:Rng) (hr:emp r=false):∀ (fuel:Nat) (l:List Int) (a:Int) (out:List Kv) (i:Int),okT ⟨l,a⟩→i.toNat<fuel→Yx out=true→(∀ x ∈ out,contains r x.key=true)→(out.length:Int)+max i 0≤1000 →
   ∃ t l' a',XG r fuel l a out i=some (t,l',a')∧okT ⟨l',a'⟩∧Yx t=true∧(∀ x ∈ t,contains r x.key=true)∧(t.length:Int)≤out.length+max i 0
 | 0,_,_,_,_,_,h,_,_,_=>absurd h (by omega)
 | fuel+1,l,a,out,i,h,hf,hv,hx,hl=>by
  rw [XG.eq_2,ZL]
  by_cases hi:0<i
  ·rw [if_pos (by simpa using hi),Za,ZN]
   obtain ⟨k,τ1,e1,h1,hk⟩:=Zqj h r hr
   obtain ⟨v,τ2,e2,h2,hv2⟩:=Zkx h1
   rw [e1,Za]; simp only; rw [e2,Za]; simp only
   obtain ⟨g1,g2,g3⟩:=Zn1 (x:=⟨k,v⟩) hv (by simp [ZjZ,ZjD hk,hv2]) (by omega)
   rw [Ziz _ _ (by omega),Za,g1,ZT (by omega) (by omega)]
   have hmem:∀ x ∈ wth ⟨k,v⟩ out,contains r x.key=true:=fun x hxm=>by
    rcases Zjv.1 hxm with rfl | hxm
    ·exact hk
    ·exact hx x (List.mem_filter.1 hxm).1
   obtain ⟨t,l',a',e,q1,q2,q3,q4⟩:=ZeG r hr fuel τ2.l τ2.at_ (wth ⟨k,v⟩ out) (i - 1) h2 (by omega) g2 hmem (by omega)
   exact ⟨t,l',a',e,q1,q2,q3,by omega⟩
  ·rw [if_neg (by simpa using hi),Za,Y6]
   exact ⟨_,_,_,rfl,h,hv,hx,by omega⟩
theorem Zit {τ:Zy} (h:okT τ) (r:Rng) (n:Int) (h0:0≤n) (hn:n≤900):∃ t τ',Y3 τ r n=some (t,τ')∧okT τ'∧Yx t=true∧(∀ x ∈ t,contains r x.key=true)∧(t.length:Int)≤n:=by
 unfold Y3
 rw [Zr,Z5,ZL]
 split
 ·exact ⟨_,_,rfl,h,by kernel_rfl,by simp,by simpa using h0⟩
 ·rename_i hr
  rw [ZT (by omega) (by omega)]
  obtain ⟨x,τ1,e1,h1,hx⟩:=Qu h (n+1) (by omega)
  unfold Cho at hx
  rw [e1,Za]; simp only
  obtain ⟨t,l',a',e,q1,q2,q3,q4⟩:=ZeG r (by simpa using hr) FU τ1.l τ1.at_ [] x h1 (by unfold FU; omega) (by kernel_rfl) (by simp) (by simp; omega)
  rw [e,Za]
  simp at q4
  exact ⟨t,_,rfl,q1,q2,q3,by omega⟩
theorem rows_ok {τ:Zy} (h:okT τ) (n:Int) (h0:0≤n) (hn:n≤900):∃ t τ',QF τ n=some (t,τ')∧okT τ'∧Yx t=true∧(t.length:Int)≤n:=by
 unfold QF
 obtain ⟨t,τ',e,q1,q2,-,q4⟩:=Zit h XB n h0 hn
 rw [Zr,e,Za]
 exact ⟨_,_,rfl,q1,q2,q4⟩
theorem ZfT:∀ (fuel:Nat) (l:List Int) (a:Int) (q:List Rng) (i:Int),okT ⟨l,a⟩→(i+1).toNat<fuel→-1≤i→(q.length:Int)+i≤100→(∀ r ∈ q,emp r=false)→∃ q' l' a',XV fuel l a q i=some (q',l',a')∧okT ⟨l',a'⟩∧(q'.length:Int)=q.length+i+1∧∀ r ∈ q',emp r=false
 | 0,_,_,_,_,_,h,_,_,_=>absurd h (by omega)
 | fuel+1,l,a,q,i,h,hf,h1,hl,he=>by
  rw [XV.eq_2,ZL]
  by_cases hi:0≤i
  ·rw [if_pos (by simpa using hi),Za,ZN]
   obtain ⟨r,τ1,e1,g1,hr⟩:=Zh1 h
   rw [e1,Za,Z4 (by simp; omega),Za,ZT (by omega) (by omega)]
   obtain ⟨q',l',a',e,k1,k2,k3⟩:=ZfT fuel τ1.l τ1.at_ (q++[r]) (i - 1) g1 (by omega) (by omega) (by simp; omega) (fun x hx=>by
    rcases List.mem_append.1 hx with hx | hx
    ·exact he x hx
    ·rw [List.mem_singleton.1 hx]; exact hr)
   exact ⟨q',l',a',e,k1,by rw [k2]; simp; omega,k3⟩
  ·rw [if_neg (by simpa using hi),Za,Y6]
   exact ⟨_,_,_,rfl,h,by omega,he⟩
def qok (q:Zj):Prop:=Zcb q.Kind q.Ranges q.Key q.Count=0∧q.Ranges.length≤4∧0≤q.Count∧q.Count≤1024∧q.Key.size≤64
theorem ZpL {τ:Zy} (h:okT τ):∃ q τ',X7 τ=some (q,τ')∧okT τ'∧qok q:=by
 unfold X7
 obtain ⟨x,τ1,e1,h1,hx⟩:=Qu h 4 (by omega)
 unfold Cho at hx
 rw [e1,Za]; simp only
 rw [ZT (by omega) (by omega),ZL]
 by_cases c1:1+x=1
 ·rw [if_pos (by simpa using c1)]
  obtain ⟨y,τ2,e2,h2,hy⟩:=Qu h1 4 (by omega)
  unfold Cho at hy
  rw [e2,Za]; simp only
  obtain ⟨q',l',a',e,k1,k2,k3⟩:=ZfT FU τ2.l τ2.at_ [] y h2 (by unfold FU; omega) (by omega) (by simp; omega) (by simp)
  rw [e,Za,Za]
  simp at k2
  exact ⟨_,_,rfl,k1,by rw [c1]; exact Zr2 (l:=q') k3 (by omega)⟩
 ·rw [if_neg (by simpa using c1),ZL]
  by_cases c2:1+x=2
  ·rw [if_pos (by simpa using c2)]
   obtain ⟨k,τ2,e2,h2,hk⟩:=ZhV h1
   rw [e2,Za,Za]
   exact ⟨_,_,rfl,h2,by rw [c2]; exact ZrS hk⟩
  ·rw [if_neg (by simpa using c2)]
   obtain ⟨k,τ2,e2,h2,hk⟩:=ZhV h1
   obtain ⟨c,τ3,e3,h3,hc⟩:=Znz h2 [1,2,3,5,1024] (by decide) (by decide)
   rw [e2,Za]; simp only; rw [e3,Za,Za]
   exact ⟨_,_,rfl,h3,Zrr (k:=1+x) (by omega) hk hc⟩
end Go.Proofs.YtkcmgbbopedacaaGreatDoor
namespace Go.Proofs.YtkcmgbbopedacaaGreatDoor
open Go.RowKit
def Tot {α:Type} (M:Option α) (Q:α→Prop):Prop:=∃ a,M=some a∧Q a
def Zsv {α β:Type} (Q:α→Prop) (R:β→Prop):Ctl α β→Prop
 | .ret r=>Q r
 | .nxt s=>R s
section
variable {α β γ:Type} {M:Option α} {P Q:α→Prop} {b:Bool}
theorem ZA {a:α} (h:Q a):Tot (some a) Q:=⟨a,rfl,h⟩
theorem ZkI (h:Tot M P) (hm:∀ a,P a→Q a):Tot M Q:=by
 obtain ⟨a,e,h⟩:=h
 exact ⟨a,e,hm a h⟩
theorem Zt {k:β→Option α} {N:Option β} {R:β→Prop} (h:Tot N R) (hk:∀ a,R a→Tot (k a) Q):Tot (Zc N k) Q:=by
 obtain ⟨a,rfl,h⟩:=h
 exact hk a h
theorem QW {k:β→Option α} {x:β} (h:Tot (k x) Q):Tot (bnd x k) Q:=h
theorem ZG {x y:Option α} (h1:b=true→Tot x Q) (h2:b=false→Tot y Q):Tot (sel b x y) Q:=by
 cases b with
 | true=>exact h1 rfl
 | false=>exact h2 rfl
theorem Zce {N:Option (Ctl α β)} {k:β→Option α} {R:β→Prop} (h:Tot N (Zsv Q R)) (hk:∀ s,R s→Tot (k s) Q):Tot (Zc N fun mu=>YB mu k) Q:=by
 obtain ⟨a,rfl,h⟩:=h
 cases a with
 | ret r=>exact ZA h
 | nxt s=>exact hk s h
theorem Zja {xs ys:List α} {Q:List α→Prop} (h:xs.length+ys.length≤4294967296) (hq:Q (xs++ys)):Tot (app xs ys) Q:=⟨_,Z4 h,hq⟩
theorem Zfa {l:List α} {i:Int} (h0:0≤i) (h1:i<l.length) (hq:∀ h:i.toNat<l.length,Q l[i.toNat]):Tot (Yn l i) Q:=by
 obtain ⟨m,rfl⟩:=Int.eq_ofNat_of_zero_le h0
 have hm:m<l.length:=by omega
 exact ⟨l[m],by rw [Z9,List.getElem?_eq_getElem hm],hq hm⟩
theorem ZnA {l:List α} {Q:List α→Prop} {lo hi:Int} (h:0≤lo∧lo≤hi∧hi≤l.length) (hq:Q ((l.drop lo.toNat).take (hi.toNat - lo.toNat))):Tot (lsl l lo hi) Q:=⟨_,ZeD h,hq⟩
theorem Zg6 {a:Int} (h1 : -9223372036854775808≤a:=by omega) (h2:a≤9223372036854775807:=by omega):Z6 a=a:=ZT h1 h2
end
section
variable {τ:Zy}
theorem Zad (h:okT τ) {n:Int} (hn:n≤9223372036854775807):Tot (Zh τ n) fun y=>okT y.2∧Cho n y.1:=by
 obtain ⟨x,τ',e,h1,h2⟩:=Qu h n hn
 exact ⟨_,e,h1,h2⟩
theorem Zcg (h:okT τ) {n:Int} (hn:n≤9223372036854775807):Tot (Zw τ n) fun y=>okT y.2:=by
 obtain ⟨x,τ',e,h1⟩:=Zdm h n hn
 exact ⟨_,e,h1⟩
theorem ZnY (h:okT τ):Tot (YR τ) fun y=>okT y.2∧y.1.key.size≤65:=by
 obtain ⟨x,τ',e,h1⟩:=Zhf h
 exact ⟨_,e,h1⟩
theorem ZnZ (h:okT τ):Tot (Xn τ) fun y=>okT y.2:=by
 obtain ⟨x,τ',e,h1,-⟩:=ZkP h
 exact ⟨_,e,h1⟩
theorem ZnV (h:okT τ):Tot (X7 τ) fun y=>okT y.2∧qok y.1:=by
 obtain ⟨x,τ',e,h1,h2⟩:=ZpL h
 exact ⟨_,e,h1,h2⟩
theorem ZrR (l:List Int):Tot (ZdI l) okT:=by
 obtain ⟨τ,e,h⟩:=ZtY l
 exact ⟨_,e,h⟩
theorem ZdG (h:okT τ) {l:List Int} (h1:0<l.length) (h2:l.length≤1000):Tot (Yo τ l) fun y=>okT y.2∧y.1 ∈ l:=by
 obtain ⟨x,τ',e,h3,h4⟩:=Znz h l h1 h2
 exact ⟨_,e,h3,h4⟩
theorem ZlR (h:okT τ):Tot (Y4 τ) fun y=>okT y.2∧emp y.1=false:=by
 obtain ⟨x,τ',e,h3,h4⟩:=Zh1 h
 exact ⟨_,e,h3,h4⟩
theorem ZlN (h:okT τ) (r:Rng) {n:Int} (h0:0≤n) (hn:n≤900):Tot (Y3 τ r n) fun y=>okT y.2∧Yx y.1=true∧(∀ x ∈ y.1,contains r x.key=true)∧(y.1.length:Int)≤n:=by
 obtain ⟨x,τ',e,h3⟩:=Zit h r n h0 hn
 exact ⟨_,e,h3⟩
theorem Zqd (h:okT τ) {n:Int} (h0:0≤n) (hn:n≤900):Tot (QF τ n) fun y=>okT y.2∧Yx y.1=true∧(y.1.length:Int)≤n:=by
 obtain ⟨x,τ',e,h3⟩:=rows_ok h n h0 hn
 exact ⟨_,e,h3⟩
theorem ZjN (h:okT τ) {l:List Kv} (hl:l.length≤1000):Tot (Xr τ l) fun y=>okT y.2∧y.1.length≤l.length+1:=by
 obtain ⟨x,τ',e,h3⟩:=ZlD h l hl
 exact ⟨_,e,h3⟩
end
end Go.Proofs.YtkcmgbbopedacaaGreatDoor
namespace Go.Proofs.YtkcmgbbopedacaaGreatDoor
open Go.RowKit
section
variable {α β γ:Type} {Q:α→Prop}
structure PartOf (l z:List β) (a b:Int):Prop where
 len:(z.length:Int)=b - a
 eq:z=(l.drop a.toNat).take (b.toNat - a.toNat)
 mem:∀ x ∈ z,x ∈ l
theorem ZwM {N:Option β} {v:β} {k:β→Option α} (e:N=some v) (hk:Tot (k v) Q):Tot (Zc N k) Q:=by rw [e]; exact hk
theorem ZtZ {M:Option α} {P:α→Prop} (h:Tot M P):∃ a,M=some a∧P a:=h
end
end Go.Proofs.YtkcmgbbopedacaaGreatDoor
