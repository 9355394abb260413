/-
  Lemmas: Plain laws of the models
-/
import Derived.Test.YtkcmgbbopedacaaGreatDoorPZ33
import Derived.Test.YtkcmgbbopedacaaGreatDoorPZ34
import Derived.Test.YtkcmgbbopedacaaGreatDoorPZ21
import Derived.Test.YtkcmgbbopedacaaGreatDoorPZ26
import Derived.Test.YtkcmgbbopedacaaGreatDoorPZ10
set_option linter.unusedSimpArgs false
set_option linter.unusedVariables false
namespace Go.Proofs.YtkcmgbbopedacaaGreatDoor
open Go.RowKit
attribute [local irreducible] Tot sel bnd Ze Yz app YD lsl Zc2
theorem ZoR {hi:Bnd}:∀ (cs:List Bnd) (lo:Bnd),lo.lt hi=true→(∀ r ∈ spl hi cs lo,r.lo.lt lo=false∧hi.lt r.hi=false)∧(spl hi cs lo).Pairwise (fun a b=>b.lo.lt a.hi=false)
 | [],lo,_=>by
  rw [spl]
  exact ⟨fun r hr=>by rw [List.mem_singleton.1 hr]; exact ⟨lt_irrefl _,lt_irrefl _⟩,List.pairwise_singleton _ _⟩
 | c::cs,lo,h=>by
  rw [spl]
  split
  ·rename_i hc
   obtain ⟨h1,h2,h3⟩:=ZdK.1 hc
   obtain ⟨g1,g2⟩:=ZoR (hi:=hi) cs c h3
   refine ⟨fun r hr=>?_,List.pairwise_cons.2 ⟨fun r hr=>(g1 r hr).1,g2⟩⟩
   rcases List.mem_cons.1 hr with rfl | hr
   ·exact ⟨lt_irrefl _,Yd h3⟩
   ·exact ⟨Zlx (Yd h2) (g1 r hr).1,(g1 r hr).2⟩
  ·exact ZoR cs lo h
theorem Zk0 (cs:List Bnd):∀ l:List Rng,Nrm l→(∀ r ∈ Zeg cs l,∃ x ∈ l,emp x=false∧r.lo.lt x.lo=false∧x.hi.lt r.hi=false)∧(Zeg cs l).Pairwise (fun a b=>b.lo.lt a.hi=false)
 | [],_=>by simp [Zeg]
 | r::l,h=>by
  obtain ⟨p1,p2⟩:=List.pairwise_cons.1 h.gap
  have he:=h.ne r List.mem_cons_self
  obtain ⟨g1,g2⟩:=Zk0 cs l ⟨fun x hx=>h.ne x (List.mem_cons_of_mem _ hx),p2⟩
  obtain ⟨k1,k2⟩:=ZoR (hi:=r.hi) cs r.lo (ZoQ he).2.2
  rw [Zeg,if_neg (by simp [he])]
  refine ⟨fun x hx=>?_,List.pairwise_append.2 ⟨k2,g2,fun a ha b hb=>?_⟩⟩
  ·rcases List.mem_append.1 hx with hx | hx
   ·exact ⟨r,List.mem_cons_self,he,k1 x hx⟩
   ·obtain ⟨y,h1,h2⟩:=g1 x hx
    exact ⟨y,List.mem_cons_of_mem _ h1,h2⟩
  ·obtain ⟨y,h1,-,h2,-⟩:=g1 b hb
   exact Zlx (Zlx (k1 a ha).2 (Yd (p1 y h1))) h2
theorem ZmC (all:List Rng):∀ (l:List Rng) (p:Option Rng),(∀ r ∈ l,emp r=false∧∃ x ∈ all,emp x=false∧r.lo.lt x.lo=false∧x.hi.lt r.hi=false)→l.Pairwise (fun a b=>b.lo.lt a.hi=false)→(∀ x,p=some x→∀ r ∈ l,r.lo.lt x.hi=false)→Zgz all p l=0
 | [],_,_,_,_=>by rw [Zgz.eq_1]
 | r::l,p,h1,h2,h3=>by
  obtain ⟨he,x,hx,hxe,hl,hh⟩:=h1 r List.mem_cons_self
  obtain ⟨s1,s2⟩:=List.pairwise_cons.1 h2
  have hb:Zvd p r=false:=by
   cases p with
   | none=>rfl
   | some x =>
    have:=h3 x rfl r List.mem_cons_self
    unfold Zvd
    simp only
    refine decide_eq_false fun hh=>?_
    rw [(XW _ _).1 hh] at this; cases this
  have ha:(all.any fun x=>inside x r)=true:=by
   refine List.any_eq_true.2 ⟨x,hx,?_⟩
   unfold inside
   have e1:cmp x.lo r.lo≤0:=by
    have:¬ 0<cmp x.lo r.lo:=fun h=>by rw [(Xw _ _).1 h] at hl; cases hl
    omega
   have e2:cmp r.hi x.hi≤0:=by
    have:¬ 0<cmp r.hi x.hi:=fun h=>by rw [(Xw _ _).1 h] at hh; cases hh
    omega
   rw [hxe,decide_eq_true e1,decide_eq_true e2]; rfl
  rw [Zgz.eq_2,if_neg (by simp [he]),if_neg (by simp [hb]),if_pos ha]
  exact ZmC all l (some r) (fun y hy=>h1 y (List.mem_cons_of_mem _ hy)) s2 fun x hx y hy=>by cases hx; exact s1 y hy
theorem ZhZ {α:Type} (p q:α→Bool) (h:∀ c,p c=true→q c=true→False):∀ l:List α,l.countP p+l.countP q≤l.countP fun c=>p c || q c
 | []=>by simp
 | c::l=>by
  have ih:=ZhZ p q h l
  have hc:=h c
  simp only [List.countP_cons]
  cases hp:p c <;> cases hq:q c
  ·simp; omega
  ·simp; omega
  ·simp; omega
  ·exact (hc hp hq).elim
theorem ZkC {hi:Bnd}:∀ (cs:List Bnd) (lo:Bnd),(spl hi cs lo).length≤1+cs.countP fun c=>lo.lt c && c.lt hi
 | [],lo=>by simp [spl]
 | c::cs,lo=>by
  rw [spl,List.countP_cons]
  split
  ·rename_i hc
   obtain ⟨h1,h2,h3⟩:=ZdK.1 hc
   have ih:=ZkC (hi:=hi) cs c
   have hm:(cs.countP fun d=>c.lt d && d.lt hi)≤cs.countP fun d=>lo.lt d && d.lt hi:=List.countP_mono_left fun d _ hd=>by
    simp only [Bool.and_eq_true] at hd ⊢
    exact ⟨lt_trans h2 hd.1,hd.2⟩
   rw [h2,h3]
   simp only [List.length_cons,Bool.and_self,if_true]
   omega
  ·have ih:=ZkC (hi:=hi) cs lo
   omega
theorem Zmj (cs:List Bnd):∀ l:List Rng,Nrm l→(Zeg cs l).length≤l.length+cs.countP fun c=>l.any fun r=>r.lo.lt c && c.lt r.hi
 | [],_=>by simp [Zeg]
 | r::l,h=>by
  obtain ⟨p1,p2⟩:=List.pairwise_cons.1 h.gap
  have ih:=Zmj cs l ⟨fun x hx=>h.ne x (List.mem_cons_of_mem _ hx),p2⟩
  have h1:=ZkC (hi:=r.hi) cs r.lo
  have h2:=ZhZ (fun c=>r.lo.lt c && c.lt r.hi) (fun c=>l.any fun r=>r.lo.lt c && c.lt r.hi) (fun c g1 g2=>by
   simp only [Bool.and_eq_true] at g1
   obtain ⟨s,hs,g3⟩:=List.any_eq_true.1 g2
   simp only [Bool.and_eq_true] at g3
   have:=lt_trans (lt_trans (lt_trans g3.1 g1.2) (p1 s hs)) g3.1
   rw [lt_trans g1.2 (p1 s hs) |> Yd] at g3
   cases g3.1) cs
  rw [Zeg,if_neg (by simp [h.ne r List.mem_cons_self]),List.length_append]
  simp only [List.any_cons,List.length_cons]
  omega
theorem ZiE (cs:List Bnd) (l:List Rng) (h:Nrm l):(Zeg cs l).length≤l.length+cs.length:=by
 have h1:=Zmj cs l h
 have h2:(cs.countP fun c=>l.any fun r=>r.lo.lt c && c.lt r.hi)≤cs.length:=List.countP_le_length
 omega
theorem ZkD (r:Rng):∀ (l:List Bnd) (n:Int),Yw r l n=some (YS r.lo l n)
 | [],n=>by rw [Yw,YS]
 | c::l,n=>by
  rw [Yw,YS,Zw,ZG,Zn,Zn]
  by_cases h:cmp c r.lo≤0
  ·rw [decide_eq_true h,Zd,Zd]; exact ZkD r l _
  ·rw [decide_eq_false h,Zb,Zb]; exact ZkD r l _
theorem ZiO (b:Bnd):∀ (l:List Bnd) (n:Int),0≤n→n+l.length≤100000→0≤YS b l n
 | [],n,h,_=>h
 | c::l,n,h,hl=>by
  simp only [List.length_cons] at hl
  rw [YS,Zn,ZA (by omega) (by omega)]
  cases decide (Zk c b≤0) with
  | true=>rw [Zd]; exact ZiO b l (n+1) (by omega) (by omega)
  | false=>rw [Zb]; exact ZiO b l n h (by omega)
abbrev mkw (q:Zf) (z:List Rng):Zc:=⟨q,z,[]⟩
theorem Zmv {α:Type} (A:List α) (e:α) (n:Int) (hn:n=(A.length:Int)+1) (h:A.length≤1000000):YD (A++[e]) (ZJ (n - 1))=some e:=by
 subst hn
 rw [ZA (by omega) (by omega),show (A.length:Int)+1 - 1=((A.length:Nat):Int) by omega,Yc]
 simp
theorem Zo2 {α:Type} (A:List α) (e x:α) (n:Int) (hn:n=(A.length:Int)+1) (h:A.length≤1000000):(A++[e]).set (Int.toNat (ZJ (n - 1))) x=A++[x]:=by
 subst hn
 rw [ZA (by omega) (by omega),show (A.length:Int)+1 - 1=((A.length:Nat):Int) by omega,Int.toNat_natCast]
 simp
theorem ZfK (q:Zf) (cuts:List Bnd) (hc:cuts.length≤1000):∀ (S:List Rng) (out:List (List Rng)) (last:Int),(out≠[]∨last<0)→out.length+S.length≤100000→(∀ z ∈ out,z.length+S.length≤100000) →
   ∃ out':List (List Rng),YL cuts S out last=some out'∧ZP q cuts S (out.map (mkw q)) last=some (out'.map (mkw q))∧out'.length≤out.length+S.length∧out'.flatten=out.flatten++S∧(cuts=[]→(∀ e,out=[e]→last=0→out'=[e++S])∧(out=[]→out'=if S=[] then [] else [S]))
 | [],out,last,_,_,_=>⟨out,by rw [YL],by rw [ZP],by simp,by simp,fun _=>⟨fun e h _=>by rw [h,List.append_nil],fun h=>by rw [h]; rfl⟩⟩
 | r::S,out,last,hl,hn,hz=>by
  simp only [List.length_cons] at hn hz
  have hz0:0≤Xy r.lo cuts:=by unfold Xy; rw [Zn]; exact ZiO _ cuts 0 (by omega) (by omega)
  have ez:Yw r cuts 0=some (Xy r.lo cuts):=by rw [ZkD,Xy,Zn]
  have e0:cuts=[]→Xy r.lo cuts=0:=fun h=>by subst h; unfold Xy; rw [Zn,YS]
  -- the tail, once the last zone is named
  have key:∀ (A:List (List Rng)) (e:List Rng) (z:Int),A.length+1+S.length≤100000→(∀ z ∈ A++[e],z.length+(S.length+1)≤100000)→∃ out':List (List Rng),
     (Ze (YD (A++[e]) (ZJ (((A++[e]).length:Int) - 1))) fun e20=>Ze (app e20 ([r]:List Rng)) fun l21=>Ze (YD (A++[e]) (ZJ (((A++[e]).length:Int) - 1))) fun e22=>bnd (l21) fun e23=>bnd ((A++[e]).set (Int.toNat (ZJ (((A++[e]).length:Int) - 1))) e23) fun l24=>some (l24,z))=some (A++[e++[r]],z) ∧
     YL cuts S (A++[e++[r]]) z=some out' ∧
     (Ze (YD ((A++[e]).map (mkw q)) (ZJ ((((A++[e]).map (mkw q)).length:Int) - 1))) fun e24=>Ze (app e24.Todo ([r]:List Rng)) fun l25=>bnd ((Zc.mk e24.Query l25 e24.Visits)) fun e26=>bnd (((A++[e]).map (mkw q)).set (Int.toNat (ZJ ((((A++[e]).map (mkw q)).length:Int) - 1))) e26) fun l27=>ZP q cuts S l27 z)=some (out'.map (mkw q)) ∧
     out'.length≤A.length+1+S.length∧out'.flatten=(A++[e]).flatten++r::S∧(cuts=[]→A=[]→z=0→out'=[e++r::S]):=fun A e z h1 h2=>by
   have he:=h2 e (by simp)
   obtain ⟨out',g1,g2,g0,g3,g4⟩:=ZfK q cuts hc S (A++[e++[r]]) z (.inl (by simp)) (by simp; omega) (fun x hx=>by
    rcases List.mem_append.1 hx with hx | hx
    ·have:=h2 x (List.mem_append.2 (.inl hx)); omega
    ·rw [List.mem_singleton.1 hx]; simp; omega)
   refine ⟨out',?_,g1,?_,by simpa using g0,by rw [g3]; simp,fun c1 c2 c3=>by subst c2; rw [(g4 c1).1 (e++[r]) rfl c3]; simp⟩
   ·rw [Zmv A e _ (by simp) (by omega),Za,ZW (by simp; omega),Za,Za,Zn,Zn,Zo2 A e _ _ (by simp) (by omega)]
   ·rw [List.map_append,List.map_singleton,Zmv (A.map (mkw q)) (mkw q e) _ (by simp) (by simp; omega),Za,ZW (by simp; omega),Za,Zn,Zn,Zo2 (A.map (mkw q)) (mkw q e) _ _ (by simp) (by simp; omega)]
    rw [List.map_append,List.map_singleton] at g2
    exact g2
  rw [YL,ZP,ez,Za,Zn]
  by_cases h:Xy r.lo cuts=last
  ·rw [decide_eq_true h,Bool.not_true,Zb,Zb,Za,Za]
   have hne:out≠[]:=hl.resolve_right (by omega)
   obtain ⟨A,e,rfl⟩:∃ A e,out=A++[e]:=⟨out.dropLast,out.getLast hne,(List.dropLast_concat_getLast hne).symm⟩
   obtain ⟨out',g1,g2,g3,g0,g4,g5⟩:=key A e last (by simp at hn; omega) hz
   refine ⟨out',?_,g3,by simp; omega,g4,fun hcs=>⟨fun e' he' h0=>?_,fun h=>by simp at h⟩⟩
   ·dsimp only; rw [g1,Za]; exact g2
   ·cases A with
    | nil=>cases he'; exact g5 hcs rfl h0
    | cons a A=>simp at he'
  ·rw [decide_eq_false h,Bool.not_false,Zd,Zd,ZW (by simp; omega),Za,Za,ZW (by simp; omega),Za,Za]
   obtain ⟨out',g1,g2,g3,g0,g4,g5⟩:=key out [] (Xy r.lo cuts) (by omega) (fun z hz'=>by
    rcases List.mem_append.1 hz' with hz' | hz'
    ·exact hz z hz'
    ·rw [List.mem_singleton.1 hz']; simp; omega)
   rw [List.map_append,List.map_singleton] at g3
   refine ⟨out',?_,g3,by simp; omega,by rw [g4]; simp,fun hcs=>⟨fun e he h0=>absurd (by rw [e0 hcs,h0]) h,fun h0=>?_⟩⟩
   ·dsimp only; rw [g1,Za]; exact g2
   ·rw [g5 hcs h0 (e0 hcs),if_neg (by simp),List.nil_append]
theorem ZsG {α:Type} {out:List (List α)} {z:List α} (h:z ∈ out):z.Sublist out.flatten:=List.sublist_flatten_of_mem h
abbrev PP0:Zh:=Zh.mk (Zf.mk 0 [] ⟨#[]⟩ 0) [] [] [] false
theorem Zjn (cuts:List Bnd) (hc:cuts.length≤1000):∀ (xs:List Bnd) (m:Nat),cuts.drop m=xs→(YC cuts xs (m:Int)=some (Ctl.nxt ())∧ZO cuts xs (m:Int)=some (Ctl.nxt ()))∨∃ e:Int,e≠0∧YC cuts xs (m:Int)=some (Ctl.ret ([],e))∧ZO cuts xs (m:Int)=some (Ctl.ret (PP0,e))
 | [],m,_=>.inl ⟨by rw [YC],by rw [ZO]⟩
 | c::xs,m,h=>by
  obtain ⟨h1,h2⟩:=Zci h
  obtain ⟨h3,h4⟩:=List.getElem?_eq_some_iff.1 h1
  have ih:=Zjn cuts hc xs (m+1) h2
  rw [YC,ZO,Qm,Qn,Zn,Zn,show (m:Int)+1=((m+1:Nat):Int) by omega]
  cases vb c with
  | false=>rw [Bool.not_false,Zd,Zd]; exact .inr ⟨1,by omega,rfl,rfl⟩
  | true =>
   rw [Bool.not_true,Zb,Zb]
   cases m with
   | zero=>rw [decide_eq_false (by omega),Zb,Zb]; exact ih
   | succ m =>
    rw [decide_eq_true (by omega),Zd,Zd,ZA (by omega) (by omega),show ((m+1:Nat):Int) - 1=(m:Int) by omega,Yc,List.getElem?_eq_getElem (by omega),Za,Za,Zw,ZG,Zn,Zn]
    by_cases g:cmp c cuts[m]≤0
    ·rw [decide_eq_true g,Zd,Zd]; exact .inr ⟨8,by omega,rfl,rfl⟩
    ·rw [decide_eq_false g,Zb,Zb]; exact ih
theorem ZhF (q:Zf):∀ (zs:List (List Rng)) (out:List Zc),out.length+zs.length≤100000→(∀ z ∈ zs,Zat q z=some (mkw q z,0))→Yk q zs out=some (Ctl.nxt (out++zs.map (mkw q)))
 | [],out,_,_=>by rw [Yk]; simp
 | z::zs,out,hn,h=>by
  simp only [List.length_cons] at hn
  rw [Yk,h z List.mem_cons_self,Za,decide_eq_true rfl,Bool.not_true,Zb,ZW (by simp; omega),Za,ZhF q zs _ (by simp; omega) fun x hx=>h x (List.mem_cons_of_mem _ hx)]
  simp
theorem Zem (y l:List Zc) (hl:l.length=y.length) (hy:y.length≤1000000) (hr:∀ w ∈ l,okW w):∀ (k fuel m:Nat),m+k=y.length→k<fuel→QB y fuel l (m:Int)=some l
 | _,0,_,_,h=>absurd h (by omega)
 | 0,fuel+1,m,h1,_=>by
  rw [QB.eq_2,decide_eq_false (by omega),Zb,Za,Yo]
 | k+1,fuel+1,m,h1,h2=>by
  have hm:m<l.length:=by omega
  rw [QB.eq_2,decide_eq_true (by omega),Zd,Za,ZB,Yc,List.getElem?_eq_getElem hm,Za,Zfp _ (hr _ (List.getElem_mem hm)),Za,Za,Zn,Zn,ZA (by omega) (by omega),show (m:Int)+1=((m+1:Nat):Int) by omega]
  have e:l.set (Int.toNat (m:Int)) l[m]=l:=by
   rw [Int.toNat_natCast]; exact List.set_getElem_self hm
  rw [e]
  exact Zem y l hl hy hr k fuel (m+1) (by omega) (by omega)
theorem Zcy (l:List Zc) (h:l.length≤1000000) (hr:∀ w ∈ l,okW w):XR l=some l:=by
 unfold XR Xv
 rw [ZW (by simp; omega),Za,List.nil_append,Za,show (0:Int)=((0:Nat):Int) from rfl,Zem l l rfl h hr l.length FU 0 (by omega) (by unfold FU; omega),Za]
end Go.Proofs.YtkcmgbbopedacaaGreatDoor
namespace Go.Proofs.YtkcmgbbopedacaaGreatDoor
open Go.RowKit
attribute [local irreducible] Tot sel bnd Ze Yz app YD lsl Zc2
theorem Zix:∀ l:List Rng,(∀ r ∈ l,emp r=false)→Zeg [] l=l
 | [],_=>by rw [Zeg]
 | r::l,h=>by rw [Zeg,if_neg (by simp [h r List.mem_cons_self]),spl,Zix l fun x hx=>h x (List.mem_cons_of_mem _ hx)]; rfl
theorem Zxe (q:Zf) (b:List Bnd) (hq:q.Ranges.length<1000000) (h0:qch q=0) (hb:b.length≤64):∃ (zs:List (List Rng)) (cs:List Bnd),cs.length≤b.length∧zs.length≤200∧zs.flatten=Zeg cs (qrg q)∧(¬(q.Kind=1∨q.Kind=2)→zs.length≤1)∧Qx q b=some zs ∧
   ∃ use13:List Bnd,∃ y14:List Rng,(Ze (sel (decide (q.Kind=3)) (some true) (some (decide (q.Kind=4))):Option Bool) fun x11=>(sel x11 (some []) (some b):Option (List Bnd)))=some use13∧ZaB (qrg q) use13=some y14∧ZP q use13 y14 [] (-1)=some (zs.map (mkw q)):=by
 have er:YK q=some (qrg q):=if_pos hq
 have hl:(qrg q).length≤64:=Zed _ _ _ _
 have hk:=(ZlJ h0).1
 have hn:=ZdL q
 by_cases h12:q.Kind=1∨q.Kind=2
 ·obtain ⟨e1,e2⟩:=ZiF (qrg q) b (by omega) (by omega)
  have hp:=(ZiP b).2.length_eq
  have hs:=ZiE (SM.stab Zes b) (qrg q) hn
  obtain ⟨zs,g1,g2,g3,g4,-⟩:=ZfK q b (by omega) (Zeg (SM.stab Zes b) (qrg q)) [] (-1) (.inr (by omega)) (by simp; omega) (by simp)
  refine ⟨zs,SM.stab Zes b,by omega,by simp at g3; omega,by simpa using g4,fun h=>absurd h12 h,?_,b,_,?_,e2,g2⟩
  ·have hx:(sel (!decide (q.Kind=1)) (some (!decide (q.Kind=2))) (some false):Option Bool)=some false:=by
     rcases h12 with h | h
     ·rw [decide_eq_true h,Bool.not_true,Zb]
     ·rw [decide_eq_false (by omega),decide_eq_true h,Bool.not_false,Zd]; rfl
   rw [Qx,er,Za,hx,Za,Zb,e1,Za,g1,Za]
  ·rw [decide_eq_false (by omega),decide_eq_false (by omega),Zb,Za,Zb]
 ·have h34:q.Kind=3∨q.Kind=4:=by
    have:q.Kind=1∨q.Kind=2∨q.Kind=3∨q.Kind=4:=hk
    omega
  have e2:=(ZiF (qrg q) [] (by omega) (by simp)).2
  have hst:SM.stab Zes []=[]:=List.perm_nil.1 (ZiP []).2
  rw [hst,Zix _ hn.ne] at e2
  obtain ⟨zs,-,g2,g3,g4,g5⟩:=ZfK q [] (by simp) (qrg q) [] (-1) (.inr (by omega)) (by simp; omega) (by simp)
  have g6:=(g5 rfl).2 rfl
  refine ⟨zs,[],by simp,by simp at g3; omega,by rw [Zix _ hn.ne]; simpa using g4,fun _=>by rw [g6]; split <;> simp,?_,[],_,?_,e2,g2⟩
  ·rw [Qx,er,Za,decide_eq_false (by omega),Bool.not_false,Zd,decide_eq_false (by omega),Bool.not_false,Za,Zd,g6]
   cases hq0:qrg q with
   | nil=>rw [decide_eq_true (by simp),Zd,if_pos rfl]
   | cons r l=>rw [decide_eq_false (by simp; omega),Zb,if_neg (by simp)]
  ·rcases h34 with h | h
   ·rw [decide_eq_true h,Zd,Za,Zd]
   ·rw [decide_eq_false (by omega),decide_eq_true h,Zb,Za,Zd]
theorem Zuj {α β γ:Type} (x:Option α) (f:α→Option β) (g:β→Option γ):(Ze x fun a=>Ze (f a) g)=Ze (Ze x f) g:=by
 cases x with
 | none=>rw [Zfh,Zfh,Zfh]
 | some a=>rw [Za,Za]
theorem Zga (q:Zf) (b:List Bnd) (hq:q.Ranges.length≤1000) (hb:b.length≤1000):∃ (l:List Zc) (e:Int),Yv q b=some (l,e)∧QR q b=some (if e=0 then ⟨q,b,l,l,false⟩ else PP0,e) ∧
   (e=0→b.length≤64∧qch q=0∧∃ (zs:List (List Rng)) (cs:List Bnd),cs.length≤b.length∧zs.length≤200∧zs.flatten=Zeg cs (qrg q)∧(¬(q.Kind=1∨q.Kind=2)→zs.length≤1)∧(∀ z ∈ zs,z.length≤128)∧l=zs.map (mkw q)):=by
 have e1:Y8 q=some (qch q):=if_pos (by omega)
 have e2:XT q=qch q:=Zcz q
 have er:Xp q=some (qrg q):=if_pos (by omega)
 rw [Yv,QR,e1,e2,Zn,Za]
 by_cases h1:qch q=0
 ·rw [decide_eq_true h1,Bool.not_true,Zb,Zb]
  by_cases h2:64<b.length
  ·rw [decide_eq_true (by omega),Zd,Zd]
   exact ⟨_,_,rfl,by rw [if_neg (by decide)],fun h=>absurd h (by decide)⟩
  ·rw [decide_eq_false (by omega),Zb,Zb]
   have hcb:=Zjn b hb b 0 rfl
   rw [show ((0:Nat):Int)=0 from rfl] at hcb
   rcases hcb with ⟨c1,c2⟩ | ⟨e,he,c1,c2⟩
   ·obtain ⟨zs,cs,k1,k2,k3,k3',k4,use13,y14,k5,k6,k7⟩:=Zxe q b (by omega) h1 (by omega)
    have hl:(qrg q).length≤64:=Zed _ _ _ _
    have hs:=ZiE cs (qrg q) (ZdL q)
    obtain ⟨i1,i2⟩:=Zk0 cs (qrg q) (ZdL q)
    have i3:=(ZiJ cs (qrg q)).1
    have hz:∀ z ∈ zs,z.Sublist (Zeg cs (qrg q)):=fun z hz=>by rw [← k3]; exact ZsG hz
    have hz2:∀ z ∈ zs,z.length≤128:=fun z h=>by have:=(hz z h).length_le; omega
    have hw:∀ z ∈ zs,Zat q z=some (mkw q z,0):=fun z h=>by
     have s1:=hz z h
     have s2:=hz2 z h
     rw [Zfq q z (by omega),ZlG,if_neg (by simpa using h1),if_neg (by omega),if_pos]
     exact ZmC (qrg q) z none (fun r hr=>⟨i3 r (s1.mem hr),i1 r (s1.mem hr)⟩) (i2.sublist s1) fun x hx=>by cases hx
    rw [c1,c2,Za,Za,ZB,ZB,k4,Za,ZhF q zs [] (by simp; omega) hw,Za,ZB]
    simp only [List.nil_append]
    rw [ZW (by simp; omega),Za,Zuj,k5,Za,er,Za,k6,Za,k7,Za,ZW (by simp; omega),Za]
    exact ⟨_,_,rfl,by rw [if_pos rfl]; simp only [List.nil_append],fun _=>⟨by omega,h1,zs,cs,k1,k2,k3,k3',hz2,rfl⟩⟩
   ·rw [c1,c2,Za,Za,Yo,Yo]
    exact ⟨_,_,rfl,by rw [if_neg he],fun h=>absurd h he⟩
 ·rw [decide_eq_false h1,Bool.not_false,Zd,Zd]
  exact ⟨_,_,rfl,by rw [if_neg h1],fun h=>absurd h h1⟩
theorem ZtH {q:Zf} (hq:q.Ranges.length≤1000) {zs:List (List Rng)} (h:∀ z ∈ zs,z.length≤128):∀ w ∈ zs.map (mkw q),okW w:=fun w hw=>by
 obtain ⟨z,hz,rfl⟩:=List.mem_map.1 hw
 have:=h z hz
 exact ⟨hq,by show z.length≤1000; omega,by simp,by simp⟩
end Go.Proofs.YtkcmgbbopedacaaGreatDoor
namespace Go.Proofs.YtkcmgbbopedacaaGreatDoor
open Go.RowKit
theorem Ztn (a b:Kv):(decide (a.key=b.key) && decide (a.val=b.val))=decide (a=b):=by
 rcases a with ⟨a1,a2⟩
 rcases b with ⟨b1,b2⟩
 by_cases h1:a1=b1 <;> by_cases h2:a2=b2 <;> simp [h1,h2]
theorem Zdi {α:Type} [DecidableEq α] {a b:List α} (h:a.length=b.length) (m:Nat):decide (a.drop m=b.drop m)=(if hm:m<a.length then decide (a[m]=b[m]'(by omega)) && decide (a.drop (m+1)=b.drop (m+1)) else true):=by
 split
 ·rename_i hm
  rw [List.drop_eq_getElem_cons hm,List.drop_eq_getElem_cons (l:=b) (by omega)]
  simp only [List.cons.injEq,Bool.decide_and]
 ·rw [List.drop_eq_nil_of_le (by omega),List.drop_eq_nil_of_le (by omega)]; simp
theorem Zdz (a b:List Kv) (h:a.length=b.length):∀ (xs:List Kv) (m:Nat),a.drop m=xs→m≤a.length→Q3 a b xs (m:Int)=some (sel (decide (a.drop m=b.drop m)) (.nxt ()) (.ret false))
 | [],m,h1,hm=>by
  have:a.length - m=0:=by have:=congrArg List.length h1; simpa using this
  rw [Q3.eq_1,Zdi h,dif_neg (by omega)]; rfl
 | r::xs,m,h1,hm=>by
  obtain ⟨h2,h3⟩:=Zci h1
  have h4:=(List.getElem?_eq_some_iff.1 h2).1
  rw [Q3.eq_2,Yc,Yc,List.getElem?_eq_getElem h4,List.getElem?_eq_getElem (show m<b.length by omega),Za,Za,Ztn,show (m:Int)+1=((m+1:Nat):Int) by omega,Zdz a b h xs (m+1) h3 h4,Zdi h m,dif_pos h4]
  cases decide (a[m]=b[m]) <;> rfl
theorem Zfl (a b:List Kv):Zb4 a b=some (decide (a=b)):=by
 unfold Zb4
 by_cases h:a.length=b.length
 ·have:=Zdz a b h a 0 rfl (Nat.zero_le _)
  rw [show ((0:Nat):Int)=0 from rfl,List.drop_zero,List.drop_zero] at this
  rw [decide_eq_true (by omega),this]
  cases decide (a=b) <;> rfl
 ·have h2:a≠b:=fun e=>h (by rw [e])
  rw [decide_eq_false (by omega),decide_eq_false h2]; rfl
theorem ZdW (a:Yq):XM a a=some true:=by
 unfold XM
 rw [Zfl]
 simp [Za,Zd]
end Go.Proofs.YtkcmgbbopedacaaGreatDoor
namespace Go.Proofs.YtkcmgbbopedacaaGreatDoor
open Go.RowKit
def Zc1 (d:ByteArray):Nat→Nat
 | 0=>0
 | k+1=>Zc1 d k * 10+((d.get! k).toNat - 48)
def isD (d:ByteArray) (k:Nat):Prop:=48≤(d.get! k).toNat∧(d.get! k).toNat≤57
def Zs8 (d:ByteArray):Prop:=∀ k,k<d.size→isD d k
def Zn1 (mn:Bool) (d:ByteArray):Prop:=d.size=0∨13<d.size∨((d.get! 0).toNat=48∧(1<d.size∨mn=true))∨¬ Zs8 d∨1000000000000<Zc1 d d.size
open Classical in
noncomputable def Zs6 (mn:Bool) (d:ByteArray):Int × Bool :=
 if Zn1 mn d then (0,false) else (if mn then - (Zc1 d d.size:Int) else Zc1 d d.size,true)
noncomputable def num (s:ByteArray):Int × Bool:=if 1<s.size∧(s.get! 0).toNat=45 then Zs6 true (s.extract 1 s.size) else Zs6 false s
theorem ZfX {mn:Bool} {d:ByteArray} (h:Zn1 mn d):Zs6 mn d=(0,false):=if_pos h
theorem Ztr {mn:Bool} {d:ByteArray} (h:¬ Zn1 mn d):Zs6 mn d=(if mn then - (Zc1 d d.size:Int) else Zc1 d d.size,true):=if_neg h
theorem Zo0 {d:ByteArray}:∀ {k:Nat},(∀ j,j<k→isD d j)→Zc1 d k<10 ^ k
 | 0,_=>by simp [Zc1]
 | k+1,h=>by
  have h1:=Zo0 (k:=k) fun j hj=>h j (by omega)
  have h2:=h k (by omega)
  unfold isD at h2
  rw [Zc1,Nat.pow_succ]; omega
theorem ZjQ {d:ByteArray} {k m:Nat} (h:k≤m):Zc1 d k≤Zc1 d m:=by
 induction m with
 | zero=>rw [Nat.le_zero.1 h]; exact Nat.le_refl _
 | succ m ih =>
  rcases Nat.lt_or_ge k (m+1) with h1 | h1
  ·have:=ih (by omega); rw [Zc1]; omega
  ·rw [show k=m+1 by omega]; exact Nat.le_refl _
theorem ZmO {d:ByteArray} (h0:49≤(d.get! 0).toNat):∀ {k:Nat},10 ^ k≤Zc1 d (k+1)
 | 0=>by simp [Zc1]; omega
 | k+1=>by
  have:=ZmO h0 (k:=k)
  rw [Zc1,Nat.pow_succ]; omega
theorem ZuX {d:ByteArray} {k:Nat} (h:∀ j,j<k→isD d j) (hk:k≤13):Zc1 d k<10000000000000:=by
 have h1:=Zo0 h
 have h2:10 ^ k≤10 ^ 13:=Nat.pow_le_pow_right (by decide) hk
 omega
theorem Zts {mn:Bool} {d:ByteArray} (h:d.size=0):Zn1 mn d:=.inl h
theorem Zw3 {mn:Bool} {d:ByteArray} (h:13<d.size):Zn1 mn d:=.inr (.inl h)
theorem Zw5 {mn:Bool} {d:ByteArray} (k:Nat) (h:k<d.size) (h1:¬ isD d k):Zn1 mn d:=.inr (.inr (.inr (.inl fun h2=>h1 (h2 k h))))
theorem Ztz {mn:Bool} {d:ByteArray} (h:1000000000000<Zc1 d d.size):Zn1 mn d:=.inr (.inr (.inr (.inr h)))
theorem Zoz (d:ByteArray) (m:Nat):(d.get! m).toNat<256:=(d.get! m).toNat_lt
attribute [local irreducible] WK WC WL Wk Rel OpD OpV WD WO Op.bytesLess cmp vk vb vld emp contains
attribute [local irreducible] Zs6 num
theorem Zsl {mn:Bool} {d:ByteArray} (h1:d.size≠0) (h2:d.size≤13) (h3:(d.get! 0).toNat=48→d.size≤1∧mn=false) (h4:∀ j,j<d.size→isD d j) (h5:Zc1 d d.size≤1000000000000):¬ Zn1 mn d:=by
 rintro (h | h | ⟨h,h'⟩ | h | h)
 ·exact h1 h
 ·omega
 ·obtain ⟨g1,g2⟩:=h3 h
  rcases h' with h' | h'
  ·omega
  ·rw [g2] at h'; cases h'
 ·exact h h4
 ·omega
end Go.Proofs.YtkcmgbbopedacaaGreatDoor
namespace Go.Proofs.YtkcmgbbopedacaaGreatDoor
open Go.RowKit
theorem Zk2 {s:ByteArray} {m:Nat} (h:m<s.size):ZeM s (m:Int)=some ((s.get! m).toNat:Int):=by
 unfold ZeM; rw [if_pos (by omega)]; simp
theorem Zql {s:ByteArray} {i:Nat} (h:i<s.size) (hb:(s.get! i).toNat<128):Utf8.decode s i=((s.get! i).toNat,1):=by
 unfold Utf8.decode
 simp only [Nat.add_zero,Utf8.runeError]
 rw [if_pos (by simpa using hb)]
theorem Zpg {α β:Type} {p:Prop} [Decidable p] (a b:α) (k:α→Option β):Ze (if p then some a else some b) k=k (if p then a else b):=by split <;> rfl
theorem ZuW {a:Int} (h1 : -2147483648≤a) (h2:a≤2147483647):IntKind.i32.wrap a=a:=Zvo h1 h2
theorem Zxc {a:Int} (h1:0≤a) (h2:a≤255):IntKind.u8.wrap a=a:=wu8 h1 h2
theorem Zf2 (s:ByteArray) (hs:s.size≤13):∀ (fuel m:Nat),s.size - m<fuel→m≤s.size→(∀ j,j<m→isD s j) →
   Qe s fuel (Zc1 s m:Int) (m:Int)=some (open Classical in if Zs8 s then .nxt (Zc1 s s.size:Int) else .ret (0,false))
 | 0,_,h,_,_=>absurd h (by omega)
 | fuel+1,m,h,hm,hd=>by
  rw [Qe.eq_2,ZM]
  by_cases hi:m<s.size
  ·rw [if_pos (by simpa using hi),Za,ZB,Zk2 hi]
   simp only [Za]
   have hb:=Zoz s m
   have hv:=ZuX hd (by omega)
   by_cases hdm:isD s m
   ·have hdm':=hdm
    unfold isD at hdm'
    have e1:decide (((s.get! m).toNat:Int)<48)=false:=decide_eq_false (by omega)
    have e2:decide (57<((s.get! m).toNat:Int))=false:=decide_eq_false (by omega)
    rw [e1,Zb,e2,Za,Zb,Zxc (by omega) (by omega),ZA (a:=10 * (Zc1 s m:Int)) (by omega) (by omega),ZA (a:=((s.get! m).toNat:Int) - 48) (by omega) (by omega),ZA (by omega) (by omega),ZA (by omega) (by omega)]
    have:=Zf2 s hs fuel (m+1) (by omega) (by omega) (fun j hj=>by
     rcases Nat.lt_or_ge j m with h1 | h1
     ·exact hd j h1
     ·rw [show j=m by omega]; exact hdm)
    have e3:((Zc1 s (m+1):Nat):Int)=10 * (Zc1 s m:Int)+(((s.get! m).toNat:Int) - 48):=by rw [Zc1]; omega
    rw [e3] at this
    rw [← this]; congr 1
   ·have hna:¬ Zs8 s:=fun h=>hdm (h m hi)
    rw [if_neg hna]
    unfold isD at hdm
    by_cases h48:((s.get! m).toNat:Int)<48
    ·rw [decide_eq_true h48,Zd,Za,Zd]
    ·rw [decide_eq_false h48,Zb,Za,decide_eq_true (by omega),Zd]
  ·rw [if_neg (by simpa using hi),Za,Yo]
   obtain rfl:m=s.size:=by omega
   rw [if_pos (show Zs8 s from fun k hk=>hd k hk)]
theorem Zg6 (s:ByteArray) (hs:s.size≤4000000000):∀ (fuel m:Nat),s.size - m<fuel→m≤s.size→(∀ j,j<m→isD s j)→Zc1 s m≤1000000000000 →
   Qz s fuel (Zc1 s m:Int) m=some (open Classical in if Zs8 s∧Zc1 s s.size≤1000000000000 then .nxt (Zc1 s s.size:Int) else .ret (0,false))
 | 0,_,h,_,_,_=>absurd h (by omega)
 | fuel+1,m,h,hm,hd,hv=>by
  rw [Qz.eq_2,ZM]
  by_cases hi:m<s.size
  ·rw [if_pos (by simpa using hi),Zn]
   have hb:=Zoz s m
   by_cases hdm:isD s m
   ·have hdm':=hdm
    unfold isD at hdm'
    rw [Zql hi (by omega)]
    have e1:decide (((s.get! m).toNat:Int)<48)=false:=decide_eq_false (by omega)
    have e2:decide (57<((s.get! m).toNat:Int))=false:=decide_eq_false (by omega)
    simp only
    rw [e1,Zb,e2,Za,Zb,ZuW (by omega) (by omega),ZA (a:=(Zc1 s m:Int) * 10) (by omega) (by omega),ZA (a:=((s.get! m).toNat:Int) - 48) (by omega) (by omega),ZA (by omega) (by omega)]
    have e3:((Zc1 s (m+1):Nat):Int)=(Zc1 s m:Int) * 10+(((s.get! m).toNat:Int) - 48):=by rw [Zc1]; omega
    rw [← e3,ZM]
    by_cases hbig:Zc1 s (m+1)≤1000000000000
    ·rw [if_neg (by simp; omega)]
     exact Zg6 s hs fuel (m+1) (by omega) (by omega) (fun j hj=>by
      rcases Nat.lt_or_ge j m with h1 | h1
      ·exact hd j h1
      ·rw [show j=m by omega]; exact hdm) hbig
    ·rw [if_pos (by simp; omega),if_neg]
     rintro ⟨-,h2⟩
     have:=ZjQ (d:=s) (show m+1≤s.size by omega)
     omega
   ·have hna:¬ (Zs8 s∧Zc1 s s.size≤1000000000000):=fun h=>hdm (h.1 m hi)
    rw [if_neg hna]
    have hrej:(Utf8.decode s m).1<48∨57<(Utf8.decode s m).1:=by
     apply Classical.byContradiction
     intro hc
     have:=ZwU (s:=s) (i:=m) (c:=(Utf8.decode s m).1) (wd:=(Utf8.decode s m).2) rfl (by omega)
     apply hdm
     unfold isD
     omega
    by_cases h48:((Utf8.decode s m).1:Int)<48
    ·rw [decide_eq_true h48,Zd,Za,Zd]
    ·rw [decide_eq_false h48,Zb,Za,decide_eq_true (by omega),Zd]
  ·rw [if_neg (by simpa using hi)]
   obtain rfl:m=s.size:=by omega
   rw [if_pos (show Zs8 s∧Zc1 s s.size≤1000000000000 from ⟨fun k hk=>hd k hk,hv⟩)]
theorem ZmG {s:ByteArray}:s=⟨#[]⟩↔s.size=0:=by
 constructor
 ·rintro rfl; rfl
 ·intro h
  obtain ⟨d⟩:=s
  have:d=#[]:=Array.eq_empty_of_size_eq_zero h
  rw [this]
theorem Zd3 (s:ByteArray) (hs:s.size≤4000000000) (neg:Bool) :
   (Ze (sel (decide (s=⟨#[]⟩)) (some true) (Ze (ZeM s 0) fun b7=>sel (decide (b7=48)) (sel (decide (1<(s.size:Int))) (some true) (some neg)) (some false)):Option Bool) fun x8 =>
    sel x8 (some (0,false)) (Ze (Qz s FU 0 0:Option (Ctl (Int × Bool) Int)) fun mu=>Yz mu fun n13=>sel neg (some (ZJ (-n13),true)) (some (n13,true)))) =
   some (Zs6 neg s) ∧
   (Ze (sel (decide ((s.size:Int)=0)) (some true) (sel (decide (13<(s.size:Int))) (some true) (Ze (ZeM s 0) fun b7=>sel (decide (b7=48)) (sel (decide (1<(s.size:Int))) (some true) (some neg)) (some false))):Option Bool) fun x8 =>
    sel x8 (some (0,false)) (Ze (Qe s FU 0 0:Option (Ctl (Int × Bool) Int)) fun mu=>Yz mu fun n15=>sel (decide (1000000000000<n15)) (some (0,false)) (sel neg (some (ZJ (-n15),true)) (some (n15,true))))) =
   some (Zs6 neg s):=by
 by_cases h0:s.size=0
 ·rw [decide_eq_true (ZmG.2 h0),Zd,Za,Zd,decide_eq_true (by omega),Zd,Za,Zd,ZfX (Zts h0)]
  exact ⟨rfl,rfl⟩
 have hp:=Zg6 s hs FU 0 (by unfold FU; omega) (Nat.zero_le _) (fun j h=>absurd h (by omega)) (by simp [Zc1])
 have e0:((Zc1 s 0:Nat):Int)=0:=rfl
 rw [e0] at hp
 have es:=Zk2 (s:=s) (m:=0) (by omega)
 rw [show ((0:Nat):Int)=0 from rfl] at es
 rw [decide_eq_false (fun h=>h0 (ZmG.1 h)),decide_eq_false (show ¬ (s.size:Int)=0 by omega),Zb,Zb,es,Za]
 have hb:=Zoz s 0
 -- a leading nought
 by_cases hz:(s.get! 0).toNat=48∧(1<s.size∨neg=true)
 ·have hbad:Zn1 neg s:=.inr (.inr (.inl hz))
  have e1:decide (((s.get! 0).toNat:Int)=48)=true:=decide_eq_true (by omega)
  have e2:sel (decide (1<(s.size:Int))) (some true) (some neg)=some true:=by
   by_cases h1:1<s.size
   ·rw [decide_eq_true (by omega),Zd]
   ·rw [decide_eq_false (by omega),Zb,hz.2.resolve_left h1]
  rw [e1,Zd,e2,Za,Zd,ZfX hbad]
  refine ⟨rfl,?_⟩
  by_cases h13:13<s.size
  ·rw [decide_eq_true (by omega),Zd,Za,Zd]
  ·rw [decide_eq_false (by omega),Zb,Za,Zd]
 ·have e3:sel (decide (((s.get! 0).toNat:Int)=48)) (sel (decide (1<(s.size:Int))) (some true) (some neg)) (some false)=some false:=by
    by_cases h48:(s.get! 0).toNat=48
    ·have h1:¬ 1<s.size:=fun h=>hz ⟨h48,.inl h⟩
     have h2:neg=false:=by cases neg with
      | false=>rfl
      | true=>exact absurd ⟨h48,.inr rfl⟩ hz
     rw [decide_eq_true (by omega),Zd,decide_eq_false (by omega),Zb,h2]
    ·rw [decide_eq_false (by omega),Zb]
  rw [e3,Za,Zb,hp,Za]
  by_cases h13:13<s.size
  ·rw [decide_eq_true (by omega),Zd,Za,Zd,ZfX (Zw3 h13)]
   refine ⟨?_,rfl⟩
   rw [if_neg,Yo]
   rintro ⟨ha,hv⟩
   have h49:49≤(s.get! 0).toNat:=by
    have h1:=ha 0 (by omega)
    unfold isD at h1
    have h2:(s.get! 0).toNat≠48:=fun h=>hz ⟨h,.inl (by omega)⟩
    omega
   have h3:10 ^ 13≤Zc1 s 14:=ZmO h49 (k:=13)
   have h4:=ZjQ (d:=s) (show 14≤s.size by omega)
   omega
  ·have hr:=Zf2 s (by omega) FU 0 (by unfold FU; omega) (Nat.zero_le _) (fun j h=>absurd h (by omega))
   rw [e0,show ((0:Nat):Int)=0 from rfl] at hr
   rw [decide_eq_false (by omega),Zb,Za,Zb,hr,Za]
   by_cases ha:Zs8 s
   ·by_cases hv:Zc1 s s.size≤1000000000000
    ·have hg:¬ Zn1 neg s:=Zsl h0 (by omega) (fun h=>⟨by
       apply Classical.byContradiction; intro h1; exact hz ⟨h,.inl (by omega)⟩,by
       cases neg with
       | false=>rfl
       | true=>exact absurd ⟨h,.inr rfl⟩ hz⟩) ha hv
     rw [if_pos ⟨ha,hv⟩,if_pos ha,ZB,ZB,Ztr hg,decide_eq_false (by omega),Zb]
     cases neg with
     | false=>exact ⟨rfl,rfl⟩
     | true=>rw [Zd,ZA (by omega) (by omega)]; exact ⟨rfl,rfl⟩
    ·rw [if_neg (fun h=>hv h.2),if_pos ha,Yo,ZB,ZfX (Ztz (by omega)),decide_eq_true (by omega),Zd]
     exact ⟨rfl,rfl⟩
   ·have hbad:Zn1 neg s:=.inr (.inr (.inr (.inl ha)))
    rw [if_neg (fun h=>ha h.1),if_neg ha,Yo,Yo,ZfX hbad]
    exact ⟨rfl,rfl⟩
def NB (r:Int × Bool):Prop:=-1000000000000≤r.1∧r.1≤1000000000000
theorem ZkK (mn:Bool) (d:ByteArray):NB (Zs6 mn d):=by
 by_cases h:Zn1 mn d
 ·rw [ZfX h]; exact ⟨by simp,by simp⟩
 ·rw [Ztr h]
  have:Zc1 d d.size≤1000000000000:=by
   apply Classical.byContradiction; intro hc; exact h (Ztz (by omega))
  unfold NB
  cases mn <;> simp <;> omega
theorem number_eq (s:ByteArray) (hs:s.size≤4000000000):∃ r,Zbz s=some r∧ZaR s=some r∧NB r:=by
 have key:∀ b c:Bool,(sel (decide (0<(s.size:Int))) (Ze (ZeM s 0) fun b2=>some (decide (b2=45))) (some false))=some b→(sel (decide (1<(s.size:Int))) (Ze (ZeM s 0) fun b2=>some (decide (b2=45))) (some false))=some c →
    (b=false→c=false)→(b=true→0<s.size)→(b=true→c=false→s.size=1∧(s.get! 0).toNat=45)→∃ r,Zbz s=some r∧ZaR s=some r∧NB r:=by
  intro b c hb hc h1 h2 h3
  unfold Zbz ZaR
  rw [hb,hc,Za,Za]
  cases b with
  | false =>
   rw [h1 rfl,Zb,Za]
   exact ⟨_,(Zd3 s hs false).1,(Zd3 s hs false).2,ZkK _ _⟩
  | true =>
   have e:ssl s 1 (s.size:Int)=some (s.extract 1 s.size):=by
    have:=h2 rfl
    unfold ssl; rw [if_pos (by omega)]; simp
   rw [e,Za,Zd,Za]
   have hz:(s.extract 1 s.size).size=s.size - 1:=by simp [ByteArray.size_extract]
   cases c with
   | true =>
    rw [Zd,Za]
    exact ⟨_,(Zd3 _ (by omega) true).1,(Zd3 _ (by omega) true).2,ZkK _ _⟩
   | false =>
    obtain ⟨g1,g2⟩:=h3 rfl rfl
    rw [Zb,Za]
    refine ⟨_,(Zd3 _ (by omega) true).1,?_,ZkK _ _⟩
    refine (Zd3 s hs false).2.trans ?_
    rw [ZfX (mn:=false) (d:=s) (Zw5 0 (by omega) (by unfold isD; omega)),ZfX (mn:=true) (d:=s.extract 1 s.size) (Zts (by omega))]
 by_cases h0:s.size=0
 ·refine key false false ?_ ?_ (fun h=>h) (fun h=>by cases h) (fun h=>by cases h)
  ·rw [decide_eq_false (by omega),Zb]
  ·rw [decide_eq_false (by omega),Zb]
 have es:=Zk2 (s:=s) (m:=0) (by omega)
 rw [show ((0:Nat):Int)=0 from rfl] at es
 by_cases h1:1<s.size
 ·refine key (decide (((s.get! 0).toNat:Int)=45)) (decide (((s.get! 0).toNat:Int)=45)) ?_ ?_ (fun h=>h) (fun _=>by omega) (fun h h'=>by rw [h] at h'; cases h')
  ·rw [decide_eq_true (by omega),Zd,es,Za]
  ·rw [decide_eq_true (by omega),Zd,es,Za]
 ·refine key (decide (((s.get! 0).toNat:Int)=45)) false ?_ ?_ (fun _=>rfl) (fun _=>by omega) (fun h _=>⟨by omega,by have:=of_decide_eq_true h; omega⟩)
  ·rw [decide_eq_true (by omega),Zd,es,Za]
  ·rw [decide_eq_false (by omega),Zb]
def Zvu (s:Y5):Zhj:=⟨s.Count,s.Numbers,s.Sum,s.Low,s.High,s.First,s.Last⟩
def fok (k:Nat) (f:Y5):Prop:=0≤f.Count∧f.Count≤k∧0≤f.Numbers∧f.Numbers≤k∧ZJ f.Sum=f.Sum∧(f.Numbers=0→f.Low=0∧f.High=0)
theorem ZwY (k:Nat) (f:Y5) (hk:k<1000000000) (hf:fok k f) (r:Kv) (hr:r.val.size≤4000000000):∃ g o,ZaW (Zvu f) r=some (Zvu g)∧ZcO r=some o∧Zb6 f o=g∧fok (k+1) g:=by
 obtain ⟨n,e1,e2,-⟩:=number_eq r.val hr
 obtain ⟨n,b⟩:=n
 obtain ⟨c,m,s,lo,hi,fi,la⟩:=f
 obtain ⟨g1,g2,g3,g4,g5,g6⟩:=hf
 simp only at g1 g2 g3 g4 g5 g6
 cases b with
 | false =>
  refine ⟨⟨c+1,m,s,lo,hi,if c=0 then r.key else fi,r.key⟩,⟨1,0,0,0,0,r.key,r.key⟩,?_,?_,?_,?_⟩
  ·dsimp only [ZaW,Zvu]
   simp only [e1,ZM,decide_eq_true_eq,Zpg,Za,Bool.not_false,if_true]
   rw [ZA (a:=c+1) (by omega) (by omega)]
  ·simp only [ZcO,e2,ZM,Za,Bool.false_eq_true,if_false]
  ·simp only [Zb6,Zn,ZM,Int.add_zero,g5,decide_eq_true_eq]
   rw [ZA (a:=c+1) (by omega) (by omega),ZA (a:=m) (by omega) (by omega)]
   by_cases hm:m=0
   ·obtain ⟨rfl,rfl⟩:=g6 hm
    subst hm
    simp
   ·simp [hm]
  ·refine ⟨?_,?_,?_,?_,g5,g6⟩ <;> simp only <;> omega
 | true =>
  refine ⟨⟨c+1,m+1,ZJ (s+n),if m=0∨n<lo then n else lo,if m=0∨hi<n then n else hi,if c=0 then r.key else fi,r.key⟩,⟨1,1,n,n,n,r.key,r.key⟩,?_,?_,?_,?_⟩
  ·dsimp only [ZaW,Zvu]
   simp only [e1,ZM,decide_eq_true_eq,Zpg,Za,Bool.not_true,Bool.false_eq_true,if_false]
   rw [ZA (a:=c+1) (by omega) (by omega),ZA (a:=m+1) (by omega) (by omega)]
   by_cases hm:m=0
   ·simp [hm]
   ·simp [hm]
  ·simp only [ZcO,e2,ZM,Za,if_true]
  ·simp only [Zb6,Zn,ZM,decide_eq_true_eq]
   rw [ZA (a:=c+1) (by omega) (by omega),ZA (a:=m+1) (by omega) (by omega)]
   by_cases hm:m=0
   ·simp [hm]
   ·have hlo:min lo n=if n<lo then n else lo:=by split <;> omega
    have hhi:max hi n=if hi<n then n else hi:=by split <;> omega
    simp [hm,hlo,hhi]
  ·refine ⟨?_,?_,?_,?_,ZpR _,?_⟩ <;> simp only <;> omega
theorem Zml:∀ (l:List Kv) (k:Nat) (f:Y5),k+l.length<1000000000→fok k f→(∀ r ∈ l,r.val.size≤4000000000) →
   ∃ g:Y5,fok (k+l.length) g∧Zde l f.Count f.Numbers f.Sum f.Low f.High f.First f.Last=some (g.Count,g.Numbers,g.Sum,g.Low,g.High,g.First,g.Last)∧Zck l f.Count f.Numbers f.Sum f.Low f.High f.First f.Last=some (g.Count,g.Numbers,g.Sum,g.Low,g.High,g.First,g.Last)
 | [],k,f,_,hf,_=>⟨f,hf,rfl,rfl⟩
 | r::l,k,f,hk,hf,hr=>by
  simp only [List.length_cons] at hk
  obtain ⟨g,o,e1,e2,e3,e4⟩:=ZwY k f (by omega) hf r (hr r List.mem_cons_self)
  obtain ⟨q,h0,h1,h2⟩:=Zml l (k+1) g (by omega) e4 fun x hx=>hr x (List.mem_cons_of_mem _ hx)
  refine ⟨q,by rw [List.length_cons,show k+(l.length+1)=k+1+l.length by omega]; exact h0,?_,?_⟩
  ·rw [Zde.eq_2]
   have:(Zhj.mk f.Count f.Numbers f.Sum f.Low f.High f.First f.Last)=Zvu f:=rfl
   rw [this,e1,Za]
   exact h1
  ·rw [Zck.eq_2,e2,Za,Zn]
   have:(Y5.mk f.Count f.Numbers f.Sum f.Low f.High f.First f.Last)=f:=rfl
   rw [this,e3]
   exact h2
theorem Zvv (l:List Kv) (hl:l.length<1000000000) (hr:∀ r ∈ l,r.val.size≤4000000000):∃ g,Ze0 l=some g∧ZaM l=some g∧fok l.length g:=by
 obtain ⟨g,h0,h1,h2⟩:=Zml l 0 ⟨0,0,0,0,0,⟨#[]⟩,⟨#[]⟩⟩ (by omega) ⟨by simp,by simp,by simp,by simp,by kernel_rfl,fun _=>⟨rfl,rfl⟩⟩ hr
 refine ⟨g,?_,?_,by simpa using h0⟩
 ·unfold Ze0; rw [h1,Za]
 ·unfold ZaM; rw [h2,Za]
end Go.Proofs.YtkcmgbbopedacaaGreatDoor
namespace Go.Proofs.YtkcmgbbopedacaaGreatDoor
open Go.RowKit
theorem ZpI (q:Zf) (l:List Kv) (h:l.length≤1000000000):Zdj q l=some (qtk q.Kind q.Count l)∧Zb2 q l=some (qtk q.Kind q.Count l):=by
 have hmm:min (max q.Count 0) (l.length:Int)=max 0 (min q.Count (l.length:Int)):=by omega
 unfold Zdj Zb2 Z9 qtk
 rw [hmm]
 generalize hn:max 0 (min q.Count (l.length:Int))=n
 simp only [ZM,decide_eq_true_eq]
 by_cases h3:q.Kind=3
 ·rw [if_pos h3,if_pos h3,if_pos h3,Zeh (by omega),Za,ZW (by simp; omega)]
  simp [Za,ZW,show l.length≤4294967296 by omega,show min n.toNat l.length≤4294967296 by omega]
 ·rw [if_neg h3,if_neg h3,if_neg h3]
  by_cases h4:q.Kind=4
  ·rw [if_pos h4,if_pos h4,if_pos h4,ZA (by omega) (by omega),Zeh (by omega),Za,ZW (by simp; omega)]
   simp only [Za,List.nil_append]
   have e:((l.length:Int) - n).toNat=l.length - n.toNat:=by omega
   rw [e,List.take_of_length_le (by simp)]
   refine ⟨rfl,?_⟩
   rw [ZW (by simp; omega)]; rfl
  ·rw [if_neg h4,if_neg h4,if_neg h4,ZW (by simp; omega)]
   simp [Za]
theorem Zct (t:List Kv) (ht:t.length≤1024):∀ (rs:List Rng) (out:List Kv),out.length+rs.length * 1024≤1000000000→Qb t rs out=some (out++Yj t rs)
 | [],out,_=>by simp [Qb,Yj]
 | r::rs,out,h=>by
  have hf:=List.length_filter_le (fun x:Kv=>contains r x.key) t
  rw [Qb.eq_2,Zbp _ _ (by omega),Za,ZW (by omega),Za,Zct t ht rs _ (by simp at h ⊢; omega)]
  simp [Yj]
theorem Zo3 (k c:Int) (l:List Kv):∀ r ∈ qtk k c l,r ∈ l:=by
 intro r h
 unfold qtk at h
 split at h
 ·exact List.mem_of_mem_take h
 split at h
 ·exact List.mem_of_mem_drop h
 ·exact h
theorem Zk9 (t:List Kv) (rs:List Rng):∀ r ∈ Yj t rs,r ∈ t:=by
 intro r h
 simp only [Yj,List.mem_flatMap,List.mem_filter] at h
 obtain ⟨_,_,h,_⟩:=h
 exact h
theorem Zlj (t:List Kv) (rs:List Rng):(Yj t rs).length≤rs.length * t.length:=by
 induction rs with
 | nil=>simp [Yj]
 | cons r rs ih =>
  have hf:=List.length_filter_le (fun x:Kv=>contains r x.key) t
  simp only [Yj,List.flatMap_cons,List.length_append,List.length_cons,Nat.succ_mul] at ih ⊢
  omega
theorem ZnA (t:List Kv) (q:Zf) (hq:q.Ranges.length<1000000) (h0:ZcE q.Kind q.Ranges q.Key q.Count=0) (hv:Yu t=true):∃ a,ZbO t q=some (a,0)∧a.Rows=qtk q.Kind q.Count (Yj t (Yi q.Kind q.Ranges q.Key q.Count))∧Ze0 a.Rows=some a.Fold∧ZaM a.Rows=some a.Fold:=by
 unfold ZbO
 rw [Zn,Zcz,(Zqa q hq).2,Zaa,decide_eq_true h0,hv]
 simp only [Bool.not_true,Zb,Za]
 have ht:=(XC t).1 hv
 have hrl:=Zed q.Kind q.Ranges q.Key q.Count
 generalize Yi q.Kind q.Ranges q.Key q.Count=R at hrl ⊢
 have hsl:=Zlj t R
 have hsz:(Yj t R).length≤64 * 1024:=Nat.le_trans hsl (Nat.mul_le_mul hrl ht.1)
 rw [Zct t ht.1 R [] (by simp; omega),Za,List.nil_append]
 have k2:=(ZpI q (Yj t R) (by omega)).2
 rw [k2,Za]
 have hlen:(qtk q.Kind q.Count (Yj t R)).length≤(Yj t R).length:=by
  unfold qtk; split
  ·simp; omega
  split
  ·simp
  ·exact Nat.le_refl _
 obtain ⟨g,e1,e2,-⟩:=Zvv (qtk q.Kind q.Count (Yj t R)) (by omega) (fun r hr=>by
  have h1:=ht.2.1 r (Zk9 _ _ r (Zo3 _ _ _ r hr))
  simp only [ZhB,Bool.and_eq_true,decide_eq_true_eq] at h1
  omega)
 rw [e2]
 exact ⟨_,rfl,rfl,e1,e2⟩
end Go.Proofs.YtkcmgbbopedacaaGreatDoor
