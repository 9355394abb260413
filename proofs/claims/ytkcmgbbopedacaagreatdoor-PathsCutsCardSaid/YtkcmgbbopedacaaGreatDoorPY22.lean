/-
  Lemmas: Totality, step by step
-/
import Derived.Test.YtkcmgbbopedacaaGreatDoorPY21
import Derived.Test.YtkcmgbbopedacaaGreatDoorPY10
set_option linter.unusedSimpArgs false
set_option linter.unusedVariables false
namespace Go.Proofs.YtkcmgbbopedacaaGreatDoor
open Go.RowKit
theorem Zam (k:ByteArray):∀ (t out:List Kv),t.length+out.length≤4294967296→Y5 k t out=some (out++ZeD k t)
 | [],out,_=>by simp [Y5,ZeD]
 | x::t,out,h=>by
  simp only [List.length_cons] at h
  rw [Y5.eq_2,ZJ]
  by_cases hk:x.key=k
  ·rw [if_neg (by simp [hk]),Zam k t out (by omega)]; simp [ZeD,hk]
  ·rw [if_pos (by simp [hk]),ZT (by simp; omega),Za,Zam k t _ (by simp; omega)]; simp [ZeD,hk]
theorem ZfU (k:ByteArray) (t:List Kv) (h:t.length≤4294967296):Za9 t k=some (ZeD k t):=by
 rw [Za9,Zam k t [] (by simpa using h),Za]; rfl
theorem ZfW (x:Kv):∀ (t out:List Kv) (d:Bool),2 * t.length+out.length+1≤4294967296→∃ d',X5 x t out d=some (out++(if d then t else (ins x t).take (t.length+d'.toNat)),d')∧(d=true→d'=true)∧(d=false→d'=false→ins x t=t++[x]):=by
 intro t
 induction t with
 | nil =>
  intro out d _
  exact ⟨d,by cases d <;> simp [X5,ins],fun h=>h,fun _ _=>rfl⟩
 | cons r t ih =>
  intro out d h
  simp only [List.length_cons] at h
  rw [X5.eq_2]
  cases d with
  | true =>
   rw [show (!true)=false from rfl,Zb,Za,Zb,ZT (by simp; omega),Za]
   obtain ⟨d',e,h1,h2⟩:=ih (out++[r]) true (by simp; omega)
   exact ⟨d',by rw [e]; simp,h1,(fun h=>by cases h)⟩
  | false =>
   rw [show (!false)=true from rfl,Zd,Za,ZJ]
   by_cases hb:bl x.key r.key=true
   ·rw [if_pos hb,ZT (by simp; omega),Za,ZT (by simp; omega),Za]
    obtain ⟨d',e,h1,h2⟩:=ih (out++[x]++[r]) true (by simp; omega)
    obtain rfl:=h1 rfl
    exact ⟨true,by rw [e]; simp [ins,hb],fun _=>rfl,(fun _ h=>by cases h)⟩
   ·rw [if_neg hb,ZT (by simp; omega),Za]
    obtain ⟨d',e,h1,h2⟩:=ih (out++[r]) false (by simp; omega)
    refine ⟨d',?_,(fun h=>by cases h),fun _ h3=>?_⟩
    ·rw [e]; simp [ins,hb,Nat.add_right_comm]
    ·simp [ins,hb,h2 rfl h3]
theorem ZiF (x:Kv) (t:List Kv) (h:2 * t.length+10≤4294967296):Zc3 t x=some (wth x t):=by
 have hw:(ZeD x.key t).length≤t.length:=List.length_filter_le _ _
 rw [Zc3,ZfU _ _ (by omega),Za]
 obtain ⟨d',e,h1,h2⟩:=ZfW x (ZeD x.key t) [] false (by simp; omega)
 rw [e,Za]
 cases d' with
 | true =>
  simp only [Bool.not_true,Zb,Bool.false_eq_true,if_false,List.nil_append,wth]
  rw [List.take_of_length_le (by rw [Zpp]; simp)]
 | false =>
  simp only [Bool.not_false,Zd,Bool.false_eq_true,if_false,List.nil_append]
  have hi:=h2 rfl rfl
  rw [hi]
  rw [ZT (by simp; omega),Za,wth,hi]
  simp
theorem Zi2 (t:List Kv) (m:Nat) (r:Kv) (h:t[m]?=some r):Zqz t m=(ZhN r && (m == 0 || match t[m - 1]? with | some x=>bl x.key r.key | none=>false)):=by
 have h2:=(List.getElem?_eq_some_iff.1 h)
 obtain ⟨h3,rfl⟩:=h2
 rw [Zko h3]
 cases m with
 | zero=>simp
 | succ m =>
  have:t[m]?=some t[m]:=List.getElem?_eq_getElem (by omega)
  simp [this]
theorem Zca {α:Type} {t xs:List α} {m:Nat} {r:α} (h:t.drop m=r::xs):t[m]?=some r∧t.drop (m+1)=xs:=by
 constructor
 ·rw [← List.head?_drop,h]; rfl
 ·rw [← List.tail_drop,h]; rfl
theorem ZjF (n m:Nat) (f:Nat→Bool) (h:m<n):((List.range' m (n - m)).all f)=(f m && (List.range' (m+1) (n - (m+1))).all f):=by
 obtain ⟨k,rfl⟩:=Nat.exists_eq_add_of_lt h
 rw [show m+k+1 - m=k+1 by omega,show m+k+1 - (m+1)=k by omega,List.range'_succ]
 rfl
theorem ZcO (t:List Kv) (ht:t.length≤1024):∀ (xs:List Kv) (m:Nat),t.drop m=xs→m≤t.length→Xw t xs (m:Int)=some (sel ((List.range' m (t.length - m)).all (Zqz t)) (.nxt ()) (.ret false))
 | [],m,h,hm=>by
  have:t.length - m=0:=by have:=congrArg List.length h; simpa using this
  simp [Xw,this,Zd]
 | r::xs,m,h,hm=>by
  obtain ⟨h1,h2⟩:=Zca h
  have h3:=(List.getElem?_eq_some_iff.1 h1).1
  have ih:=ZcO t ht xs (m+1) h2 h3
  rw [Xw.eq_2,Zm,ZjF _ _ _ h3,Zi2 t m r h1,Zac,ZhN,show (m:Int)+1=((m+1:Nat):Int) by omega,ih]
  have hsz:decide (64<(r.val.size:Int))=!decide (r.val.size≤64):=by
   by_cases h:r.val.size≤64
   ·have:¬ 64<(r.val.size:Int):=by omega
    simp [h,this]
   ·have:64<(r.val.size:Int):=by omega
    simp [h,this]
  rw [hsz]
  cases vk r.key with
  | false=>rfl
  | true =>
   cases decide (r.val.size≤64) with
   | false=>rfl
   | true =>
    cases m with
    | zero=>rfl
    | succ m =>
     have e1:ZH (((m+1:Nat):Int) - 1)=(m:Int):=by rw [ZA (by omega) (by omega)]; omega
     have e2:decide ((0:Int)<((m+1:Nat):Int))=true:=decide_eq_true (by omega)
     have e3:t[m+1 - 1]?=some t[m]:=List.getElem?_eq_getElem (by omega)
     rw [e1,e2,e3,Ya,List.getElem?_eq_getElem (show m<t.length by omega),Za]
     have e4:(m+1 == 0)=false:=rfl
     rw [e4]
     simp only
     cases bl t[m].key r.key <;> rfl
theorem QT (t:List Kv):Y2 t=some (Yq t):=by
 unfold Y2
 rw [ZJ]
 by_cases h:t.length≤1024
 ·rw [if_neg (by simp; omega)]
  have:=ZcO t h t 0 rfl (Nat.zero_le _)
  rw [show ((0:Nat):Int)=0 from rfl] at this
  rw [this,Za,Yq,List.range_eq_range']
  simp only [Nat.sub_zero,h,decide_true,Bool.true_and]
  cases (List.range' 0 t.length).all (Zqz t) <;> rfl
 ·rw [if_pos (by simp; omega)]
  simp [Yq,h]
theorem ZjP (t:List Kv) (x:Kv) (h:t.length≤100000):ZdW t x=some (put x t):=by
 unfold ZdW
 simp only [QT,Za,ZmZ,put]
 cases Yq t with
 | false=>rfl
 | true =>
  cases ZhN x with
  | false=>rfl
  | true =>
   simp only [Bool.not_true,Zb,Za,Bool.and_self,if_true]
   rw [ZiF x t (by omega),Za,ZJ]
   by_cases hh:1024<(wth x t).length
   ·rw [if_pos (by simp; omega),if_pos hh]
   ·rw [if_neg (by simp; omega),if_neg hh]
theorem ZkT {r:Rng} {k:ByteArray} (h:contains r k=true):vk k=true:=by
 simp only [contains,Bool.and_eq_true] at h; exact h.1.1.2
theorem ZgQ (r:Rng):∀ (fuel:Nat) (l:List Int) (a i:Int),okT ⟨l,a⟩→0≤i→i≤4→(4 - i).toNat<fuel→∃ c,Qe r fuel l a i=some c∧((∃ k τ',c=.ret (k,τ')∧okT τ'∧contains r k=true)∨∃ l' a',c=.nxt (l',a')∧okT ⟨l',a'⟩)
 | 0,_,_,_,_,_,_,h=>absurd h (by omega)
 | fuel+1,l,a,i,h,h0,h4,hf=>by
  rw [Qe.eq_2,ZJ]
  by_cases hi:i<4
  ·rw [if_pos (by simpa using hi),Za,Zy]
   obtain ⟨k,τ1,e1,h1,hk⟩:=Zi1 h
   rw [e1,Za,Zm,Q8,ZJ]
   split
   ·exact ⟨_,rfl,.inl ⟨_,_,rfl,h1,by assumption⟩⟩
   ·rw [ZA (by omega) (by omega)]
    exact ZgQ r fuel _ _ _ h1 (by omega) (by omega) (by omega)
  ·rw [if_neg (by simpa using hi),Za,Yl]
   exact ⟨_,rfl,.inr ⟨_,_,rfl,h⟩⟩
theorem ZrY {τ:ZI} (h:okT τ) (r:Rng) (hr:emp r=false):∃ k τ',ZaW τ r=some (k,τ')∧okT τ'∧contains r k=true:=by
 obtain ⟨c,e,hc⟩:=ZgQ r FU τ.l τ.at_ 0 h (by omega) (by omega) (by unfold FU; omega)
 unfold ZaW
 rw [e,Za]
 rcases hc with ⟨k,τ',rfl,h1,h2⟩ | ⟨l',a',rfl,h1⟩
 ·exact ⟨_,_,rfl,h1,h2⟩
 ·exact ⟨_,_,rfl,h1,Zk1 hr⟩
theorem ZfJ (r:Rng) (hr:emp r=false):∀ (fuel:Nat) (l:List Int) (a:Int) (out:List Kv) (i:Int),okT ⟨l,a⟩→i.toNat<fuel→Yq out=true→(∀ x ∈ out,contains r x.key=true)→(out.length:Int)+max i 0≤1000 →
   ∃ t l' a',XR r fuel l a out i=some (t,l',a')∧okT ⟨l',a'⟩∧Yq t=true∧(∀ x ∈ t,contains r x.key=true)∧(t.length:Int)≤out.length+max i 0
 | 0,_,_,_,_,_,h,_,_,_=>absurd h (by omega)
 | fuel+1,l,a,out,i,h,hf,hv,hx,hl=>by
  rw [XR.eq_2,ZJ]
  by_cases hi:0<i
  ·rw [if_pos (by simpa using hi),Za,Zy]
   obtain ⟨k,τ1,e1,h1,hk⟩:=ZrY h r hr
   obtain ⟨v,τ2,e2,h2,hv2⟩:=Zr4 h1
   rw [e1,Za]; simp only; rw [e2,Za]; simp only
   obtain ⟨g1,g2,g3⟩:=Zp4 (x:=⟨k,v⟩) hv (by simp [ZhN,ZkT hk,hv2]) (by omega)
   rw [ZjP _ _ (by omega),Za,g1,ZA (by omega) (by omega)]
   have hmem:∀ x ∈ wth ⟨k,v⟩ out,contains r x.key=true:=fun x hxm=>by
    rcases ZkI.1 hxm with rfl | hxm
    ·exact hk
    ·exact hx x (List.mem_filter.1 hxm).1
   obtain ⟨t,l',a',e,q1,q2,q3,q4⟩:=ZfJ r hr fuel τ2.l τ2.at_ (wth ⟨k,v⟩ out) (i - 1) h2 (by omega) g2 hmem (by omega)
   exact ⟨t,l',a',e,q1,q2,q3,by omega⟩
  ·rw [if_neg (by simpa using hi),Za,Yl]
   exact ⟨_,_,_,rfl,h,hv,hx,by omega⟩
theorem ZpC {τ:ZI} (h:okT τ) (r:Rng) (n:Int) (h0:0≤n) (hn:n≤900):∃ t τ',Q9 τ r n=some (t,τ')∧okT τ'∧Yq t=true∧(∀ x ∈ t,contains r x.key=true)∧(t.length:Int)≤n:=by
 unfold Q9
 rw [Zm,ZP,ZJ]
 split
 ·exact ⟨_,_,rfl,h,by kernel_rfl,by simp,by simpa using h0⟩
 ·rename_i hr
  rw [ZA (by omega) (by omega)]
  obtain ⟨x,τ1,e1,h1,hx⟩:=Zax h (n+1) (by omega)
  unfold Cho at hx
  rw [e1,Za]; simp only
  obtain ⟨t,l',a',e,q1,q2,q3,q4⟩:=ZfJ r (by simpa using hr) FU τ1.l τ1.at_ [] x h1 (by unfold FU; omega) (by kernel_rfl) (by simp) (by simp; omega)
  rw [e,Za]
  simp at q4
  exact ⟨t,_,rfl,q1,q2,q3,by omega⟩
theorem rows_ok {τ:ZI} (h:okT τ) (n:Int) (h0:0≤n) (hn:n≤900):∃ t τ',QU τ n=some (t,τ')∧okT τ'∧Yq t=true∧(t.length:Int)≤n:=by
 unfold QU
 obtain ⟨t,τ',e,q1,q2,-,q4⟩:=ZpC h Qc n h0 hn
 rw [Zm,e,Za]
 exact ⟨_,_,rfl,q1,q2,q4⟩
theorem ZgL:∀ (fuel:Nat) (l:List Int) (a:Int) (q:List Rng) (i:Int),okT ⟨l,a⟩→(i+1).toNat<fuel→-1≤i→(q.length:Int)+i≤100→(∀ r ∈ q,emp r=false)→∃ q' l' a',Qh fuel l a q i=some (q',l',a')∧okT ⟨l',a'⟩∧(q'.length:Int)=q.length+i+1∧∀ r ∈ q',emp r=false
 | 0,_,_,_,_,_,h,_,_,_=>absurd h (by omega)
 | fuel+1,l,a,q,i,h,hf,h1,hl,he=>by
  rw [Qh.eq_2,ZJ]
  by_cases hi:0≤i
  ·rw [if_pos (by simpa using hi),Za,Zy]
   obtain ⟨r,τ1,e1,g1,hr⟩:=ZpB h
   rw [e1,Za,ZT (by simp; omega),Za,ZA (by omega) (by omega)]
   obtain ⟨q',l',a',e,k1,k2,k3⟩:=ZgL fuel τ1.l τ1.at_ (q++[r]) (i - 1) g1 (by omega) (by omega) (by simp; omega) (fun x hx=>by
    rcases List.mem_append.1 hx with hx | hx
    ·exact he x hx
    ·rw [List.mem_singleton.1 hx]; exact hr)
   exact ⟨q',l',a',e,k1,by rw [k2]; simp; omega,k3⟩
  ·rw [if_neg (by simpa using hi),Za,Yl]
   exact ⟨_,_,_,rfl,h,by omega,he⟩
def qok (q:Zg):Prop:=Zcv q.Kind q.Ranges q.Key q.Count=0∧q.Ranges.length≤4∧0≤q.Count∧q.Count≤1024∧q.Key.size≤64
theorem ZrN {τ:ZI} (h:okT τ):∃ q τ',Qp τ=some (q,τ')∧okT τ'∧qok q:=by
 unfold Qp
 obtain ⟨x,τ1,e1,h1,hx⟩:=Zax h 4 (by omega)
 unfold Cho at hx
 rw [e1,Za]; simp only
 rw [ZA (by omega) (by omega),ZJ]
 by_cases c1:1+x=1
 ·rw [if_pos (by simpa using c1)]
  obtain ⟨y,τ2,e2,h2,hy⟩:=Zax h1 4 (by omega)
  unfold Cho at hy
  rw [e2,Za]; simp only
  obtain ⟨q',l',a',e,k1,k2,k3⟩:=ZgL FU τ2.l τ2.at_ [] y h2 (by unfold FU; omega) (by omega) (by simp; omega) (by simp)
  rw [e,Za,Za]
  simp at k2
  exact ⟨_,_,rfl,k1,by rw [c1]; exact ZtO (l:=q') k3 (by omega)⟩
 ·rw [if_neg (by simpa using c1),ZJ]
  by_cases c2:1+x=2
  ·rw [if_pos (by simpa using c2)]
   obtain ⟨k,τ2,e2,h2,hk⟩:=Zi1 h1
   rw [e2,Za,Za]
   exact ⟨_,_,rfl,h2,by rw [c2]; exact Zuf hk⟩
  ·rw [if_neg (by simpa using c2)]
   obtain ⟨k,τ2,e2,h2,hk⟩:=Zi1 h1
   obtain ⟨c,τ3,e3,h3,hc⟩:=ZtY h2 [1,2,3,5,1024] (by decide) (by decide)
   rw [e2,Za]; simp only; rw [e3,Za,Za]
   exact ⟨_,_,rfl,h3,Zum (k:=1+x) (by omega) hk hc⟩
end Go.Proofs.YtkcmgbbopedacaaGreatDoor
namespace Go.Proofs.YtkcmgbbopedacaaGreatDoor
open Go.RowKit
def Tot {α:Type} (M:Option α) (Q:α→Prop):Prop:=∃ a,M=some a∧Q a
def ZzE {α β:Type} (Q:α→Prop) (R:β→Prop):Ctl α β→Prop
 | .ret r=>Q r
 | .nxt s=>R s
section
variable {α β γ:Type} {M:Option α} {P Q:α→Prop} {b:Bool}
theorem YK {a:α} (h:Q a):Tot (some a) Q:=⟨a,rfl,h⟩
theorem Zsj (h:Tot M P) (hm:∀ a,P a→Q a):Tot M Q:=by
 obtain ⟨a,e,h⟩:=h
 exact ⟨a,e,hm a h⟩
theorem Z9 {k:β→Option α} {N:Option β} {R:β→Prop} (h:Tot N R) (hk:∀ a,R a→Tot (k a) Q):Tot (Ze N k) Q:=by
 obtain ⟨a,rfl,h⟩:=h
 exact hk a h
theorem Zgl {k:β→Option α} {x:β} (h:Tot (k x) Q):Tot (bnd x k) Q:=h
theorem QL {x y:Option α} (h1:b=true→Tot x Q) (h2:b=false→Tot y Q):Tot (sel b x y) Q:=by
 cases b with
 | true=>exact h1 rfl
 | false=>exact h2 rfl
theorem Zih {N:Option (Ctl α β)} {k:β→Option α} {R:β→Prop} (h:Tot N (ZzE Q R)) (hk:∀ s,R s→Tot (k s) Q):Tot (Ze N fun mu=>Yv mu k) Q:=by
 obtain ⟨a,rfl,h⟩:=h
 cases a with
 | ret r=>exact YK h
 | nxt s=>exact hk s h
theorem Zkv {xs ys:List α} {Q:List α→Prop} (h:xs.length+ys.length≤4294967296) (hq:Q (xs++ys)):Tot (app xs ys) Q:=⟨_,ZT h,hq⟩
theorem Zmn {l:List α} {i:Int} (h0:0≤i) (h1:i<l.length) (hq:∀ h:i.toNat<l.length,Q l[i.toNat]):Tot (Yx l i) Q:=by
 obtain ⟨m,rfl⟩:=Int.eq_ofNat_of_zero_le h0
 have hm:m<l.length:=by omega
 exact ⟨l[m],by rw [Ya,List.getElem?_eq_getElem hm],hq hm⟩
theorem ZoQ {l:List α} {Q:List α→Prop} {lo hi:Int} (h:0≤lo∧lo≤hi∧hi≤l.length) (hq:Q ((l.drop lo.toNat).take (hi.toNat - lo.toNat))):Tot (lsl l lo hi) Q:=⟨_,Zd5 h,hq⟩
theorem Zh0 {a:Int} (h1 : -9223372036854775808≤a:=by omega) (h2:a≤9223372036854775807:=by omega):ZH a=a:=ZA h1 h2
end
section
variable {τ:ZI}
theorem Zf5 (h:okT τ) {n:Int} (hn:n≤9223372036854775807):Tot (Zu τ n) fun y=>okT y.2∧Cho n y.1:=by
 obtain ⟨x,τ',e,h1,h2⟩:=Zax h n hn
 exact ⟨_,e,h1,h2⟩
theorem Zis (h:okT τ) {n:Int} (hn:n≤9223372036854775807):Tot (Z4 τ n) fun y=>okT y.2:=by
 obtain ⟨x,τ',e,h1⟩:=ZhV h n hn
 exact ⟨_,e,h1⟩
theorem ZpU (h:okT τ):Tot (Y8 τ) fun y=>okT y.2∧y.1.key.size≤65:=by
 obtain ⟨x,τ',e,h1⟩:=Zic h
 exact ⟨_,e,h1⟩
theorem ZpK (h:okT τ):Tot (Qp τ) fun y=>okT y.2∧qok y.1:=by
 obtain ⟨x,τ',e,h1,h2⟩:=ZrN h
 exact ⟨_,e,h1,h2⟩
theorem ZuA (l:List Int):Tot (ZeK l) okT:=by
 obtain ⟨τ,e,h⟩:=Zws l
 exact ⟨_,e,h⟩
theorem ZrU (h:okT τ) {n:Int} (h0:0≤n) (hn:n≤900):Tot (QU τ n) fun y=>okT y.2∧Yq y.1=true∧(y.1.length:Int)≤n:=by
 obtain ⟨x,τ',e,h3⟩:=rows_ok h n h0 hn
 exact ⟨_,e,h3⟩
end
end Go.Proofs.YtkcmgbbopedacaaGreatDoor
namespace Go.Proofs.YtkcmgbbopedacaaGreatDoor
open Go.RowKit
section
variable {α β γ:Type} {Q:α→Prop}
structure PartOf (l z:List β) (a b:Int):Prop where
 len:(z.length:Int)=b - a
 eq:z=(l.drop a.toNat).take (b.toNat - a.toNat)
 mem:∀ x ∈ z,x ∈ l
theorem ZzH {N:Option β} {v:β} {k:β→Option α} (e:N=some v) (hk:Tot (k v) Q):Tot (Ze N k) Q:=by rw [e]; exact hk
theorem Zwn {M:Option α} {P:α→Prop} (h:Tot M P):∃ a,M=some a∧P a:=h
end
end Go.Proofs.YtkcmgbbopedacaaGreatDoor
