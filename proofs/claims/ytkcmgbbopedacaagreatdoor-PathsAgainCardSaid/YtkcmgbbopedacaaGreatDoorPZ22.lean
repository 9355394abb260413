/-
  Lemmas: Totality, step by step
-/
import Derived.Test.YtkcmgbbopedacaaGreatDoorPZ21
import Derived.Test.YtkcmgbbopedacaaGreatDoorPZ10
set_option linter.unusedSimpArgs false
set_option linter.unusedVariables false
namespace Go.Proofs.YtkcmgbbopedacaaGreatDoor
open Go.RowKit
theorem Zaw (k:ByteArray):∀ (t out:List Kv),t.length+out.length≤4294967296→Xa k t out=some (out++ZeS k t)
 | [],out,_=>by simp [Xa,ZeS]
 | x::t,out,h=>by
  simp only [List.length_cons] at h
  rw [Xa.eq_2,ZM]
  by_cases hk:x.key=k
  ·rw [if_neg (by simp [hk]),Zaw k t out (by omega)]; simp [ZeS,hk]
  ·rw [if_pos (by simp [hk]),ZW (by simp; omega),Za,Zaw k t _ (by simp; omega)]; simp [ZeS,hk]
theorem Zgh (k:ByteArray) (t:List Kv) (h:t.length≤4294967296):Zbr t k=some (ZeS k t):=by
 rw [Zbr,Zaw k t [] (by simpa using h),Za]; rfl
theorem Zgg (x:Kv):∀ (t out:List Kv) (d:Bool),2 * t.length+out.length+1≤4294967296→∃ d',Qj x t out d=some (out++(if d then t else (ins x t).take (t.length+d'.toNat)),d')∧(d=true→d'=true)∧(d=false→d'=false→ins x t=t++[x]):=by
 intro t
 induction t with
 | nil =>
  intro out d _
  exact ⟨d,by cases d <;> simp [Qj,ins],fun h=>h,fun _ _=>rfl⟩
 | cons r t ih =>
  intro out d h
  simp only [List.length_cons] at h
  rw [Qj.eq_2]
  cases d with
  | true =>
   rw [show (!true)=false from rfl,Zb,Za,Zb,ZW (by simp; omega),Za]
   obtain ⟨d',e,h1,h2⟩:=ih (out++[r]) true (by simp; omega)
   exact ⟨d',by rw [e]; simp,h1,(fun h=>by cases h)⟩
  | false =>
   rw [show (!false)=true from rfl,Zd,Za,ZM]
   by_cases hb:bl x.key r.key=true
   ·rw [if_pos hb,ZW (by simp; omega),Za,ZW (by simp; omega),Za]
    obtain ⟨d',e,h1,h2⟩:=ih (out++[x]++[r]) true (by simp; omega)
    obtain rfl:=h1 rfl
    exact ⟨true,by rw [e]; simp [ins,hb],fun _=>rfl,(fun _ h=>by cases h)⟩
   ·rw [if_neg hb,ZW (by simp; omega),Za]
    obtain ⟨d',e,h1,h2⟩:=ih (out++[r]) false (by simp; omega)
    refine ⟨d',?_,(fun h=>by cases h),fun _ h3=>?_⟩
    ·rw [e]; simp [ins,hb,Nat.add_right_comm]
    ·simp [ins,hb,h2 rfl h3]
theorem Zi2 (x:Kv) (t:List Kv) (h:2 * t.length+10≤4294967296):Zdg t x=some (wth x t):=by
 have hw:(ZeS x.key t).length≤t.length:=List.length_filter_le _ _
 rw [Zdg,Zgh _ _ (by omega),Za]
 obtain ⟨d',e,h1,h2⟩:=Zgg x (ZeS x.key t) [] false (by simp; omega)
 rw [e,Za]
 cases d' with
 | true =>
  simp only [Bool.not_true,Zb,Bool.false_eq_true,if_false,List.nil_append,wth]
  rw [List.take_of_length_le (by rw [Zpn]; simp)]
 | false =>
  simp only [Bool.not_false,Zd,Bool.false_eq_true,if_false,List.nil_append]
  have hi:=h2 rfl rfl
  rw [hi]
  rw [ZW (by simp; omega),Za,wth,hi]
  simp
theorem ZjM (t:List Kv) (m:Nat) (r:Kv) (h:t[m]?=some r):ZqX t m=(ZhB r && (m == 0 || match t[m - 1]? with | some x=>bl x.key r.key | none=>false)):=by
 have h2:=(List.getElem?_eq_some_iff.1 h)
 obtain ⟨h3,rfl⟩:=h2
 rw [ZkR h3]
 cases m with
 | zero=>simp
 | succ m =>
  have:t[m]?=some t[m]:=List.getElem?_eq_getElem (by omega)
  simp [this]
theorem Zci {α:Type} {t xs:List α} {m:Nat} {r:α} (h:t.drop m=r::xs):t[m]?=some r∧t.drop (m+1)=xs:=by
 constructor
 ·rw [← List.head?_drop,h]; rfl
 ·rw [← List.tail_drop,h]; rfl
theorem Zjo (n m:Nat) (f:Nat→Bool) (h:m<n):((List.range' m (n - m)).all f)=(f m && (List.range' (m+1) (n - (m+1))).all f):=by
 obtain ⟨k,rfl⟩:=Nat.exists_eq_add_of_lt h
 rw [show m+k+1 - m=k+1 by omega,show m+k+1 - (m+1)=k by omega,List.range'_succ]
 rfl
theorem ZcZ (t:List Kv) (ht:t.length≤1024):∀ (xs:List Kv) (m:Nat),t.drop m=xs→m≤t.length→XE t xs (m:Int)=some (sel ((List.range' m (t.length - m)).all (ZqX t)) (.nxt ()) (.ret false))
 | [],m,h,hm=>by
  have:t.length - m=0:=by have:=congrArg List.length h; simpa using this
  simp [XE,this,Zd]
 | r::xs,m,h,hm=>by
  obtain ⟨h1,h2⟩:=Zci h
  have h3:=(List.getElem?_eq_some_iff.1 h1).1
  have ih:=ZcZ t ht xs (m+1) h2 h3
  rw [XE.eq_2,Zn,Zjo _ _ _ h3,ZjM t m r h1,Zan,ZhB,show (m:Int)+1=((m+1:Nat):Int) by omega,ih]
  have hsz:decide (64<(r.val.size:Int))=!decide (r.val.size≤64):=by
   by_cases h:r.val.size≤64
   ·have:¬ 64<(r.val.size:Int):=by omega
    simp [h,this]
   ·have:64<(r.val.size:Int):=by omega
    simp [h,this]
  rw [hsz]
  cases vk r.key with
  | false=>rfl
  | true =>
   cases decide (r.val.size≤64) with
   | false=>rfl
   | true =>
    cases m with
    | zero=>rfl
    | succ m =>
     have e1:ZJ (((m+1:Nat):Int) - 1)=(m:Int):=by rw [ZA (by omega) (by omega)]; omega
     have e2:decide ((0:Int)<((m+1:Nat):Int))=true:=decide_eq_true (by omega)
     have e3:t[m+1 - 1]?=some t[m]:=List.getElem?_eq_getElem (by omega)
     rw [e1,e2,e3,Yc,List.getElem?_eq_getElem (show m<t.length by omega),Za]
     have e4:(m+1 == 0)=false:=rfl
     rw [e4]
     simp only
     cases bl t[m].key r.key <;> rfl
theorem Zaa (t:List Kv):Y7 t=some (Yu t):=by
 unfold Y7
 rw [ZM]
 by_cases h:t.length≤1024
 ·rw [if_neg (by simp; omega)]
  have:=ZcZ t h t 0 rfl (Nat.zero_le _)
  rw [show ((0:Nat):Int)=0 from rfl] at this
  rw [this,Za,Yu,List.range_eq_range']
  simp only [Nat.sub_zero,h,decide_true,Bool.true_and]
  cases (List.range' 0 t.length).all (ZqX t) <;> rfl
 ·rw [if_pos (by simp; omega)]
  simp [Yu,h]
theorem Zj8 (t:List Kv) (x:Kv) (h:t.length≤100000):Zd9 t x=some (put x t):=by
 unfold Zd9
 simp only [Zaa,Za,Znn,put]
 cases Yu t with
 | false=>rfl
 | true =>
  cases ZhB x with
  | false=>rfl
  | true =>
   simp only [Bool.not_true,Zb,Za,Bool.and_self,if_true]
   rw [Zi2 x t (by omega),Za,ZM]
   by_cases hh:1024<(wth x t).length
   ·rw [if_pos (by simp; omega),if_pos hh]
   ·rw [if_neg (by simp; omega),if_neg hh]
theorem Zk7 {r:Rng} {k:ByteArray} (h:contains r k=true):vk k=true:=by
 simp only [contains,Bool.and_eq_true] at h; exact h.1.1.2
theorem Zhb (r:Rng):∀ (fuel:Nat) (l:List Int) (a i:Int),okT ⟨l,a⟩→0≤i→i≤4→(4 - i).toNat<fuel→∃ c,Qq r fuel l a i=some c∧((∃ k τ',c=.ret (k,τ')∧okT τ'∧contains r k=true)∨∃ l' a',c=.nxt (l',a')∧okT ⟨l',a'⟩)
 | 0,_,_,_,_,_,_,h=>absurd h (by omega)
 | fuel+1,l,a,i,h,h0,h4,hf=>by
  rw [Qq.eq_2,ZM]
  by_cases hi:i<4
  ·rw [if_pos (by simpa using hi),Za,ZB]
   obtain ⟨k,τ1,e1,h1,hk⟩:=Zji h
   rw [e1,Za,Zn,Zal,ZM]
   split
   ·exact ⟨_,rfl,.inl ⟨_,_,rfl,h1,by assumption⟩⟩
   ·rw [ZA (by omega) (by omega)]
    exact Zhb r fuel _ _ _ h1 (by omega) (by omega) (by omega)
  ·rw [if_neg (by simpa using hi),Za,Yo]
   exact ⟨_,rfl,.inr ⟨_,_,rfl,h⟩⟩
theorem Zsu {τ:ZC} (h:okT τ) (r:Rng) (hr:emp r=false):∃ k τ',Za8 τ r=some (k,τ')∧okT τ'∧contains r k=true:=by
 obtain ⟨c,e,hc⟩:=Zhb r FU τ.l τ.at_ 0 h (by omega) (by omega) (by unfold FU; omega)
 unfold Za8
 rw [e,Za]
 rcases hc with ⟨k,τ',rfl,h1,h2⟩ | ⟨l',a',rfl,h1⟩
 ·exact ⟨_,_,rfl,h1,h2⟩
 ·exact ⟨_,_,rfl,h1,Zlb hr⟩
theorem Zf1 (r:Rng) (hr:emp r=false):∀ (fuel:Nat) (l:List Int) (a:Int) (out:List Kv) (i:Int),okT ⟨l,a⟩→i.toNat<fuel→Yu out=true→(∀ x ∈ out,contains r x.key=true)→(out.length:Int)+max i 0≤1000 →
   ∃ t l' a',X6 r fuel l a out i=some (t,l',a')∧okT ⟨l',a'⟩∧Yu t=true∧(∀ x ∈ t,contains r x.key=true)∧(t.length:Int)≤out.length+max i 0
 | 0,_,_,_,_,_,h,_,_,_=>absurd h (by omega)
 | fuel+1,l,a,out,i,h,hf,hv,hx,hl=>by
  rw [X6.eq_2,ZM]
  by_cases hi:0<i
  ·rw [if_pos (by simpa using hi),Za,ZB]
   obtain ⟨k,τ1,e1,h1,hk⟩:=Zsu h r hr
   obtain ⟨v,τ2,e2,h2,hv2⟩:=Zsc h1
   rw [e1,Za]; simp only; rw [e2,Za]; simp only
   obtain ⟨g1,g2,g3⟩:=Zqo (x:=⟨k,v⟩) hv (by simp [ZhB,Zk7 hk,hv2]) (by omega)
   rw [Zj8 _ _ (by omega),Za,g1,ZA (by omega) (by omega)]
   have hmem:∀ x ∈ wth ⟨k,v⟩ out,contains r x.key=true:=fun x hxm=>by
    rcases ZkF.1 hxm with rfl | hxm
    ·exact hk
    ·exact hx x (List.mem_filter.1 hxm).1
   obtain ⟨t,l',a',e,q1,q2,q3,q4⟩:=Zf1 r hr fuel τ2.l τ2.at_ (wth ⟨k,v⟩ out) (i - 1) h2 (by omega) g2 hmem (by omega)
   exact ⟨t,l',a',e,q1,q2,q3,by omega⟩
  ·rw [if_neg (by simpa using hi),Za,Yo]
   exact ⟨_,_,_,rfl,h,hv,hx,by omega⟩
theorem Zp3 {τ:ZC} (h:okT τ) (r:Rng) (n:Int) (h0:0≤n) (hn:n≤900):∃ t τ',Zak τ r n=some (t,τ')∧okT τ'∧Yu t=true∧(∀ x ∈ t,contains r x.key=true)∧(t.length:Int)≤n:=by
 unfold Zak
 rw [Zn,ZT,ZM]
 split
 ·exact ⟨_,_,rfl,h,by kernel_rfl,by simp,by simpa using h0⟩
 ·rename_i hr
  rw [ZA (by omega) (by omega)]
  obtain ⟨x,τ1,e1,h1,hx⟩:=ZaF h (n+1) (by omega)
  unfold Cho at hx
  rw [e1,Za]; simp only
  obtain ⟨t,l',a',e,q1,q2,q3,q4⟩:=Zf1 r (by simpa using hr) FU τ1.l τ1.at_ [] x h1 (by unfold FU; omega) (by kernel_rfl) (by simp) (by simp; omega)
  rw [e,Za]
  simp at q4
  exact ⟨t,_,rfl,q1,q2,q3,by omega⟩
theorem rows_ok {τ:ZC} (h:okT τ) (n:Int) (h0:0≤n) (hn:n≤900):∃ t τ',QY τ n=some (t,τ')∧okT τ'∧Yu t=true∧(t.length:Int)≤n:=by
 unfold QY
 obtain ⟨t,τ',e,q1,q2,-,q4⟩:=Zp3 h YE n h0 hn
 rw [Zn,e,Za]
 exact ⟨_,_,rfl,q1,q2,q4⟩
theorem Zg1:∀ (fuel:Nat) (l:List Int) (a:Int) (q:List Rng) (i:Int),okT ⟨l,a⟩→(i+1).toNat<fuel→-1≤i→(q.length:Int)+i≤100→(∀ r ∈ q,emp r=false)→∃ q' l' a',Qp fuel l a q i=some (q',l',a')∧okT ⟨l',a'⟩∧(q'.length:Int)=q.length+i+1∧∀ r ∈ q',emp r=false
 | 0,_,_,_,_,_,h,_,_,_=>absurd h (by omega)
 | fuel+1,l,a,q,i,h,hf,h1,hl,he=>by
  rw [Qp.eq_2,ZM]
  by_cases hi:0≤i
  ·rw [if_pos (by simpa using hi),Za,ZB]
   obtain ⟨r,τ1,e1,g1,hr⟩:=ZpT h
   rw [e1,Za,ZW (by simp; omega),Za,ZA (by omega) (by omega)]
   obtain ⟨q',l',a',e,k1,k2,k3⟩:=Zg1 fuel τ1.l τ1.at_ (q++[r]) (i - 1) g1 (by omega) (by omega) (by simp; omega) (fun x hx=>by
    rcases List.mem_append.1 hx with hx | hx
    ·exact he x hx
    ·rw [List.mem_singleton.1 hx]; exact hr)
   exact ⟨q',l',a',e,k1,by rw [k2]; simp; omega,k3⟩
  ·rw [if_neg (by simpa using hi),Za,Yo]
   exact ⟨_,_,_,rfl,h,by omega,he⟩
def qok (q:Zf):Prop:=ZcE q.Kind q.Ranges q.Key q.Count=0∧q.Ranges.length≤4∧0≤q.Count∧q.Count≤1024∧q.Key.size≤64
theorem ZsM {τ:ZC} (h:okT τ):∃ q τ',QD τ=some (q,τ')∧okT τ'∧qok q:=by
 unfold QD
 obtain ⟨x,τ1,e1,h1,hx⟩:=ZaF h 4 (by omega)
 unfold Cho at hx
 rw [e1,Za]; simp only
 rw [ZA (by omega) (by omega),ZM]
 by_cases c1:1+x=1
 ·rw [if_pos (by simpa using c1)]
  obtain ⟨y,τ2,e2,h2,hy⟩:=ZaF h1 4 (by omega)
  unfold Cho at hy
  rw [e2,Za]; simp only
  obtain ⟨q',l',a',e,k1,k2,k3⟩:=Zg1 FU τ2.l τ2.at_ [] y h2 (by unfold FU; omega) (by omega) (by simp; omega) (by simp)
  rw [e,Za,Za]
  simp at k2
  exact ⟨_,_,rfl,k1,by rw [c1]; exact ZuR (l:=q') k3 (by omega)⟩
 ·rw [if_neg (by simpa using c1),ZM]
  by_cases c2:1+x=2
  ·rw [if_pos (by simpa using c2)]
   obtain ⟨k,τ2,e2,h2,hk⟩:=Zji h1
   rw [e2,Za,Za]
   exact ⟨_,_,rfl,h2,by rw [c2]; exact ZuP hk⟩
  ·rw [if_neg (by simpa using c2)]
   obtain ⟨k,τ2,e2,h2,hk⟩:=Zji h1
   obtain ⟨c,τ3,e3,h3,hc⟩:=ZuB h2 [1,2,3,5,1024] (by decide) (by decide)
   rw [e2,Za]; simp only; rw [e3,Za,Za]
   exact ⟨_,_,rfl,h3,Zu0 (k:=1+x) (by omega) hk hc⟩
end Go.Proofs.YtkcmgbbopedacaaGreatDoor
namespace Go.Proofs.YtkcmgbbopedacaaGreatDoor
open Go.RowKit
def Tot {α:Type} (M:Option α) (Q:α→Prop):Prop:=∃ a,M=some a∧Q a
def Zxt {α β:Type} (Q:α→Prop) (R:β→Prop):Ctl α β→Prop
 | .ret r=>Q r
 | .nxt s=>R s
section
variable {α β γ:Type} {M:Option α} {P Q:α→Prop} {b:Bool}
theorem ZX {a:α} (h:Q a):Tot (some a) Q:=⟨a,rfl,h⟩
theorem ZmH (h:Tot M P) (hm:∀ a,P a→Q a):Tot M Q:=by
 obtain ⟨a,e,h⟩:=h
 exact ⟨a,e,hm a h⟩
theorem ZN {k:β→Option α} {N:Option β} {R:β→Prop} (h:Tot N R) (hk:∀ a,R a→Tot (k a) Q):Tot (Ze N k) Q:=by
 obtain ⟨a,rfl,h⟩:=h
 exact hk a h
theorem ZaH {k:β→Option α} {x:β} (h:Tot (k x) Q):Tot (bnd x k) Q:=h
theorem Ye {x y:Option α} (h1:b=true→Tot x Q) (h2:b=false→Tot y Q):Tot (sel b x y) Q:=by
 cases b with
 | true=>exact h1 rfl
 | false=>exact h2 rfl
theorem ZeX {N:Option (Ctl α β)} {k:β→Option α} {R:β→Prop} (h:Tot N (Zxt Q R)) (hk:∀ s,R s→Tot (k s) Q):Tot (Ze N fun mu=>Yz mu k) Q:=by
 obtain ⟨a,rfl,h⟩:=h
 cases a with
 | ret r=>exact ZX h
 | nxt s=>exact hk s h
theorem ZkO {xs ys:List α} {Q:List α→Prop} (h:xs.length+ys.length≤4294967296) (hq:Q (xs++ys)):Tot (app xs ys) Q:=⟨_,ZW h,hq⟩
theorem ZiA {l:List α} {i:Int} (h0:0≤i) (h1:i<l.length) (hq:∀ h:i.toNat<l.length,Q l[i.toNat]):Tot (YD l i) Q:=by
 obtain ⟨m,rfl⟩:=Int.eq_ofNat_of_zero_le h0
 have hm:m<l.length:=by omega
 exact ⟨l[m],by rw [Yc,List.getElem?_eq_getElem hm],hq hm⟩
theorem Zpl {l:List α} {Q:List α→Prop} {lo hi:Int} (h:0≤lo∧lo≤hi∧hi≤l.length) (hq:Q ((l.drop lo.toNat).take (hi.toNat - lo.toNat))):Tot (lsl l lo hi) Q:=⟨_,Zeh h,hq⟩
theorem Zii {a:Int} (h1 : -9223372036854775808≤a:=by omega) (h2:a≤9223372036854775807:=by omega):ZJ a=a:=ZA h1 h2
end
section
variable {τ:ZC}
theorem Zd7 (h:okT τ) {n:Int} (hn:n≤9223372036854775807):Tot (Zt τ n) fun y=>okT y.2∧Cho n y.1:=by
 obtain ⟨x,τ',e,h1,h2⟩:=ZaF h n hn
 exact ⟨_,e,h1,h2⟩
theorem Ze3 (h:okT τ) {n:Int} (hn:n≤9223372036854775807):Tot (ZF τ n) fun y=>okT y.2:=by
 obtain ⟨x,τ',e,h1⟩:=Zih h n hn
 exact ⟨_,e,h1⟩
theorem Zp1 (h:okT τ):Tot (Xc τ) fun y=>okT y.2∧y.1.key.size≤65:=by
 obtain ⟨x,τ',e,h1⟩:=Ziv h
 exact ⟨_,e,h1⟩
theorem Zqn (h:okT τ):Tot (QD τ) fun y=>okT y.2∧qok y.1:=by
 obtain ⟨x,τ',e,h1,h2⟩:=ZsM h
 exact ⟨_,e,h1,h2⟩
theorem Zuo (l:List Int):Tot (ZeV l) okT:=by
 obtain ⟨τ,e,h⟩:=Zxg l
 exact ⟨_,e,h⟩
theorem ZsJ (h:okT τ) {n:Int} (h0:0≤n) (hn:n≤900):Tot (QY τ n) fun y=>okT y.2∧Yu y.1=true∧(y.1.length:Int)≤n:=by
 obtain ⟨x,τ',e,h3⟩:=rows_ok h n h0 hn
 exact ⟨_,e,h3⟩
end
end Go.Proofs.YtkcmgbbopedacaaGreatDoor
namespace Go.Proofs.YtkcmgbbopedacaaGreatDoor
open Go.RowKit
section
variable {α β γ:Type} {Q:α→Prop}
structure PartOf (l z:List β) (a b:Int):Prop where
 len:(z.length:Int)=b - a
 eq:z=(l.drop a.toNat).take (b.toNat - a.toNat)
 mem:∀ x ∈ z,x ∈ l
theorem Zz5 {N:Option β} {v:β} {k:β→Option α} (e:N=some v) (hk:Tot (k v) Q):Tot (Ze N k) Q:=by rw [e]; exact hk
theorem Zw0 {M:Option α} {P:α→Prop} (h:Tot M P):∃ a,M=some a∧P a:=h
end
end Go.Proofs.YtkcmgbbopedacaaGreatDoor
