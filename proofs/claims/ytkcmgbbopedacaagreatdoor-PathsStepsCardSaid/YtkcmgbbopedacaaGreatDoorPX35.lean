/-
  Lemmas: A call that hands one of two own slices back.
-/
import Derived.Test.YtkcmgbbopedacaaGreatDoorPX33
import Derived.Test.YtkcmgbbopedacaaGreatDoorPX34
import Derived.Test.YtkcmgbbopedacaaGreatDoorPX21
import Derived.Test.YtkcmgbbopedacaaGreatDoorPX10
import Derived.Test.YtkcmgbbopedacaaGreatDoorPX18
import Derived.Test.YtkcmgbbopedacaaGreatDoorPX24
import Derived.Test.YtkcmgbbopedacaaGreatDoorPX25
import Derived.Test.YtkcmgbbopedacaaGreatDoorPX26
import Derived.Test.YtkcmgbbopedacaaGreatDoorPX31
import Derived.Laws.BytesString
import Derived.Test.YtkcmgbbopedacaaGreatDoorPX17
import Derived.Test.YtkcmgbbopedacaaGreatDoorPX9
import Derived.Laws.MakeOwn
set_option linter.unusedSimpArgs false
set_option linter.unusedVariables false
namespace Go.Proofs.YtkcmgbbopedacaaGreatDoor
open Go.RowKit
attribute [local irreducible] Tot sel bnd Zc YB app Yn lsl Zc6
theorem ZmU {hi:Bnd}:∀ (cs:List Bnd) (lo:Bnd),lo.lt hi=true→(∀ r ∈ spl hi cs lo,r.lo.lt lo=false∧hi.lt r.hi=false)∧(spl hi cs lo).Pairwise (fun a b=>b.lo.lt a.hi=false)
 | [],lo,_=>by
  rw [spl]
  exact ⟨fun r hr=>by rw [List.mem_singleton.1 hr]; exact ⟨lt_irrefl _,lt_irrefl _⟩,List.pairwise_singleton _ _⟩
 | c::cs,lo,h=>by
  rw [spl]
  split
  ·rename_i hc
   obtain ⟨h1,h2,h3⟩:=ZcJ.1 hc
   obtain ⟨g1,g2⟩:=ZmU (hi:=hi) cs c h3
   refine ⟨fun r hr=>?_,List.pairwise_cons.2 ⟨fun r hr=>(g1 r hr).1,g2⟩⟩
   rcases List.mem_cons.1 hr with rfl | hr
   ·exact ⟨lt_irrefl _,Y5 h3⟩
   ·exact ⟨Zj7 (Y5 h2) (g1 r hr).1,(g1 r hr).2⟩
  ·exact ZmU cs lo h
theorem Zm4 (cs:List Bnd):∀ l:List Rng,Nrm l→(∀ r ∈ Zdh cs l,∃ x ∈ l,emp x=false∧r.lo.lt x.lo=false∧x.hi.lt r.hi=false)∧(Zdh cs l).Pairwise (fun a b=>b.lo.lt a.hi=false)
 | [],_=>by simp [Zdh]
 | r::l,h=>by
  obtain ⟨p1,p2⟩:=List.pairwise_cons.1 h.gap
  have he:=h.ne r List.mem_cons_self
  obtain ⟨g1,g2⟩:=Zm4 cs l ⟨fun x hx=>h.ne x (List.mem_cons_of_mem _ hx),p2⟩
  obtain ⟨k1,k2⟩:=ZmU (hi:=r.hi) cs r.lo (ZmF he).2.2
  rw [Zdh,if_neg (by simp [he])]
  refine ⟨fun x hx=>?_,List.pairwise_append.2 ⟨k2,g2,fun a ha b hb=>?_⟩⟩
  ·rcases List.mem_append.1 hx with hx | hx
   ·exact ⟨r,List.mem_cons_self,he,k1 x hx⟩
   ·obtain ⟨y,h1,h2⟩:=g1 x hx
    exact ⟨y,List.mem_cons_of_mem _ h1,h2⟩
  ·obtain ⟨y,h1,-,h2,-⟩:=g1 b hb
   exact Zj7 (Zj7 (k1 a ha).2 (Y5 (p1 y h1))) h2
theorem Zko (all:List Rng):∀ (l:List Rng) (p:Option Rng),(∀ r ∈ l,emp r=false∧∃ x ∈ all,emp x=false∧r.lo.lt x.lo=false∧x.hi.lt r.hi=false)→l.Pairwise (fun a b=>b.lo.lt a.hi=false)→(∀ x,p=some x→∀ r ∈ l,r.lo.lt x.hi=false)→Zfh all p l=0
 | [],_,_,_,_=>by rw [Zfh.eq_1]
 | r::l,p,h1,h2,h3=>by
  obtain ⟨he,x,hx,hxe,hl,hh⟩:=h1 r List.mem_cons_self
  obtain ⟨s1,s2⟩:=List.pairwise_cons.1 h2
  have hb:Zsm p r=false:=by
   cases p with
   | none=>rfl
   | some x =>
    have:=h3 x rfl r List.mem_cons_self
    unfold Zsm
    simp only
    refine decide_eq_false fun hh=>?_
    rw [(Zbh _ _).1 hh] at this; cases this
  have ha:(all.any fun x=>inside x r)=true:=by
   refine List.any_eq_true.2 ⟨x,hx,?_⟩
   unfold inside
   have e1:cmp x.lo r.lo≤0:=by
    have:¬ 0<cmp x.lo r.lo:=fun h=>by rw [(Za4 _ _).1 h] at hl; cases hl
    omega
   have e2:cmp r.hi x.hi≤0:=by
    have:¬ 0<cmp r.hi x.hi:=fun h=>by rw [(Za4 _ _).1 h] at hh; cases hh
    omega
   rw [hxe,decide_eq_true e1,decide_eq_true e2]; rfl
  rw [Zfh.eq_2,if_neg (by simp [he]),if_neg (by simp [hb]),if_pos ha]
  exact Zko all l (some r) (fun y hy=>h1 y (List.mem_cons_of_mem _ hy)) s2 fun x hx y hy=>by cases hx; exact s1 y hy
theorem Zgw {α:Type} (p q:α→Bool) (h:∀ c,p c=true→q c=true→False):∀ l:List α,l.countP p+l.countP q≤l.countP fun c=>p c || q c
 | []=>by simp
 | c::l=>by
  have ih:=Zgw p q h l
  have hc:=h c
  simp only [List.countP_cons]
  cases hp:p c <;> cases hq:q c
  ·simp; omega
  ·simp; omega
  ·simp; omega
  ·exact (hc hp hq).elim
theorem Zjx {hi:Bnd}:∀ (cs:List Bnd) (lo:Bnd),(spl hi cs lo).length≤1+cs.countP fun c=>lo.lt c && c.lt hi
 | [],lo=>by simp [spl]
 | c::cs,lo=>by
  rw [spl,List.countP_cons]
  split
  ·rename_i hc
   obtain ⟨h1,h2,h3⟩:=ZcJ.1 hc
   have ih:=Zjx (hi:=hi) cs c
   have hm:(cs.countP fun d=>c.lt d && d.lt hi)≤cs.countP fun d=>lo.lt d && d.lt hi:=List.countP_mono_left fun d _ hd=>by
    simp only [Bool.and_eq_true] at hd ⊢
    exact ⟨lt_trans h2 hd.1,hd.2⟩
   rw [h2,h3]
   simp only [List.length_cons,Bool.and_self,if_true]
   omega
  ·have ih:=Zjx (hi:=hi) cs lo
   omega
theorem ZkA (cs:List Bnd):∀ l:List Rng,Nrm l→(Zdh cs l).length≤l.length+cs.countP fun c=>l.any fun r=>r.lo.lt c && c.lt r.hi
 | [],_=>by simp [Zdh]
 | r::l,h=>by
  obtain ⟨p1,p2⟩:=List.pairwise_cons.1 h.gap
  have ih:=ZkA cs l ⟨fun x hx=>h.ne x (List.mem_cons_of_mem _ hx),p2⟩
  have h1:=Zjx (hi:=r.hi) cs r.lo
  have h2:=Zgw (fun c=>r.lo.lt c && c.lt r.hi) (fun c=>l.any fun r=>r.lo.lt c && c.lt r.hi) (fun c g1 g2=>by
   simp only [Bool.and_eq_true] at g1
   obtain ⟨s,hs,g3⟩:=List.any_eq_true.1 g2
   simp only [Bool.and_eq_true] at g3
   have:=lt_trans (lt_trans (lt_trans g3.1 g1.2) (p1 s hs)) g3.1
   rw [lt_trans g1.2 (p1 s hs) |> Y5] at g3
   cases g3.1) cs
  rw [Zdh,if_neg (by simp [h.ne r List.mem_cons_self]),List.length_append]
  simp only [List.any_cons,List.length_cons]
  omega
theorem Zkh (cs:List Bnd) (l:List Rng) (h:Nrm l):(Zdh cs l).length≤l.length+cs.length:=by
 have h1:=ZkA cs l h
 have h2:(cs.countP fun c=>l.any fun r=>r.lo.lt c && c.lt r.hi)≤cs.length:=List.countP_le_length
 omega
theorem Zjy (r:Rng):∀ (l:List Bnd) (n:Int),Yj r l n=some (Yy r.lo l n)
 | [],n=>by rw [Yj,Yy]
 | c::l,n=>by
  rw [Yj,Yy,Zz,ZP,Zr,Zr]
  by_cases h:cmp c r.lo≤0
  ·rw [decide_eq_true h,Zl,Zl]; exact Zjy r l _
  ·rw [decide_eq_false h,Zb,Zb]; exact Zjy r l _
theorem Zhd (b:Bnd):∀ (l:List Bnd) (n:Int),0≤n→n+l.length≤100000→0≤Yy b l n
 | [],n,h,_=>h
 | c::l,n,h,hl=>by
  simp only [List.length_cons] at hl
  rw [Yy,Zr,ZT (by omega) (by omega)]
  cases decide (Zi c b≤0) with
  | true=>rw [Zl]; exact Zhd b l (n+1) (by omega) (by omega)
  | false=>rw [Zb]; exact Zhd b l n h (by omega)
abbrev mkw (q:Zj) (z:List Rng):Zf:=⟨q,z,[]⟩
theorem ZkT {α:Type} (A:List α) (e:α) (n:Int) (hn:n=(A.length:Int)+1) (h:A.length≤1000000):Yn (A++[e]) (Z6 (n - 1))=some e:=by
 subst hn
 rw [ZT (by omega) (by omega),show (A.length:Int)+1 - 1=((A.length:Nat):Int) by omega,Z9]
 simp
theorem Znb {α:Type} (A:List α) (e x:α) (n:Int) (hn:n=(A.length:Int)+1) (h:A.length≤1000000):(A++[e]).set (Int.toNat (Z6 (n - 1))) x=A++[x]:=by
 subst hn
 rw [ZT (by omega) (by omega),show (A.length:Int)+1 - 1=((A.length:Nat):Int) by omega,Int.toNat_natCast]
 simp
theorem Zej (q:Zj) (cuts:List Bnd) (hc:cuts.length≤1000):∀ (S:List Rng) (out:List (List Rng)) (last:Int),(out≠[]∨last<0)→out.length+S.length≤100000→(∀ z ∈ out,z.length+S.length≤100000) →
   ∃ out':List (List Rng),Yt cuts S out last=some out'∧ZI q cuts S (out.map (mkw q)) last=some (out'.map (mkw q))∧out'.length≤out.length+S.length∧out'.flatten=out.flatten++S∧(cuts=[]→(∀ e,out=[e]→last=0→out'=[e++S])∧(out=[]→out'=if S=[] then [] else [S]))
 | [],out,last,_,_,_=>⟨out,by rw [Yt],by rw [ZI],by simp,by simp,fun _=>⟨fun e h _=>by rw [h,List.append_nil],fun h=>by rw [h]; rfl⟩⟩
 | r::S,out,last,hl,hn,hz=>by
  simp only [List.length_cons] at hn hz
  have hz0:0≤Xd r.lo cuts:=by unfold Xd; rw [Zr]; exact Zhd _ cuts 0 (by omega) (by omega)
  have ez:Yj r cuts 0=some (Xd r.lo cuts):=by rw [Zjy,Xd,Zr]
  have e0:cuts=[]→Xd r.lo cuts=0:=fun h=>by subst h; unfold Xd; rw [Zr,Yy]
  -- the tail, once the last zone is named
  have key:∀ (A:List (List Rng)) (e:List Rng) (z:Int),A.length+1+S.length≤100000→(∀ z ∈ A++[e],z.length+(S.length+1)≤100000)→∃ out':List (List Rng),
     (Zc (Yn (A++[e]) (Z6 (((A++[e]).length:Int) - 1))) fun e20=>Zc (app e20 ([r]:List Rng)) fun l21=>Zc (Yn (A++[e]) (Z6 (((A++[e]).length:Int) - 1))) fun e22=>bnd (l21) fun e23=>bnd ((A++[e]).set (Int.toNat (Z6 (((A++[e]).length:Int) - 1))) e23) fun l24=>some (l24,z))=some (A++[e++[r]],z) ∧
     Yt cuts S (A++[e++[r]]) z=some out' ∧
     (Zc (Yn ((A++[e]).map (mkw q)) (Z6 ((((A++[e]).map (mkw q)).length:Int) - 1))) fun e24=>Zc (app e24.Todo ([r]:List Rng)) fun l25=>bnd ((Zf.mk e24.Query l25 e24.Visits)) fun e26=>bnd (((A++[e]).map (mkw q)).set (Int.toNat (Z6 ((((A++[e]).map (mkw q)).length:Int) - 1))) e26) fun l27=>ZI q cuts S l27 z)=some (out'.map (mkw q)) ∧
     out'.length≤A.length+1+S.length∧out'.flatten=(A++[e]).flatten++r::S∧(cuts=[]→A=[]→z=0→out'=[e++r::S]):=fun A e z h1 h2=>by
   have he:=h2 e (by simp)
   obtain ⟨out',g1,g2,g0,g3,g4⟩:=Zej q cuts hc S (A++[e++[r]]) z (.inl (by simp)) (by simp; omega) (fun x hx=>by
    rcases List.mem_append.1 hx with hx | hx
    ·have:=h2 x (List.mem_append.2 (.inl hx)); omega
    ·rw [List.mem_singleton.1 hx]; simp; omega)
   refine ⟨out',?_,g1,?_,by simpa using g0,by rw [g3]; simp,fun c1 c2 c3=>by subst c2; rw [(g4 c1).1 (e++[r]) rfl c3]; simp⟩
   ·rw [ZkT A e _ (by simp) (by omega),Za,Z4 (by simp; omega),Za,Za,Zr,Zr,Znb A e _ _ (by simp) (by omega)]
   ·rw [List.map_append,List.map_singleton,ZkT (A.map (mkw q)) (mkw q e) _ (by simp) (by simp; omega),Za,Z4 (by simp; omega),Za,Zr,Zr,Znb (A.map (mkw q)) (mkw q e) _ _ (by simp) (by simp; omega)]
    rw [List.map_append,List.map_singleton] at g2
    exact g2
  rw [Yt,ZI,ez,Za,Zr]
  by_cases h:Xd r.lo cuts=last
  ·rw [decide_eq_true h,Bool.not_true,Zb,Zb,Za,Za]
   have hne:out≠[]:=hl.resolve_right (by omega)
   obtain ⟨A,e,rfl⟩:∃ A e,out=A++[e]:=⟨out.dropLast,out.getLast hne,(List.dropLast_concat_getLast hne).symm⟩
   obtain ⟨out',g1,g2,g3,g0,g4,g5⟩:=key A e last (by simp at hn; omega) hz
   refine ⟨out',?_,g3,by simp; omega,g4,fun hcs=>⟨fun e' he' h0=>?_,fun h=>by simp at h⟩⟩
   ·dsimp only; rw [g1,Za]; exact g2
   ·cases A with
    | nil=>cases he'; exact g5 hcs rfl h0
    | cons a A=>simp at he'
  ·rw [decide_eq_false h,Bool.not_false,Zl,Zl,Z4 (by simp; omega),Za,Za,Z4 (by simp; omega),Za,Za]
   obtain ⟨out',g1,g2,g3,g0,g4,g5⟩:=key out [] (Xd r.lo cuts) (by omega) (fun z hz'=>by
    rcases List.mem_append.1 hz' with hz' | hz'
    ·exact hz z hz'
    ·rw [List.mem_singleton.1 hz']; simp; omega)
   rw [List.map_append,List.map_singleton] at g3
   refine ⟨out',?_,g3,by simp; omega,by rw [g4]; simp,fun hcs=>⟨fun e he h0=>absurd (by rw [e0 hcs,h0]) h,fun h0=>?_⟩⟩
   ·dsimp only; rw [g1,Za]; exact g2
   ·rw [g5 hcs h0 (e0 hcs),if_neg (by simp),List.nil_append]
theorem ZpX {α:Type} {out:List (List α)} {z:List α} (h:z ∈ out):z.Sublist out.flatten:=List.sublist_flatten_of_mem h
abbrev PP0:Ze:=Ze.mk (Zj.mk 0 [] ⟨#[]⟩ 0) [] [] [] false
theorem Zii (cuts:List Bnd) (hc:cuts.length≤1000):∀ (xs:List Bnd) (m:Nat),cuts.drop m=xs→(Yl cuts xs (m:Int)=some (Ctl.nxt ())∧ZH cuts xs (m:Int)=some (Ctl.nxt ()))∨∃ e:Int,e≠0∧Yl cuts xs (m:Int)=some (Ctl.ret ([],e))∧ZH cuts xs (m:Int)=some (Ctl.ret (PP0,e))
 | [],m,_=>.inl ⟨by rw [Yl],by rw [ZH]⟩
 | c::xs,m,h=>by
  obtain ⟨h1,h2⟩:=Zac h
  obtain ⟨h3,h4⟩:=List.getElem?_eq_some_iff.1 h1
  have ih:=Zii cuts hc xs (m+1) h2
  rw [Yl,ZH,XN,XP,Zr,Zr,show (m:Int)+1=((m+1:Nat):Int) by omega]
  cases vb c with
  | false=>rw [Bool.not_false,Zl,Zl]; exact .inr ⟨1,by omega,rfl,rfl⟩
  | true =>
   rw [Bool.not_true,Zb,Zb]
   cases m with
   | zero=>rw [decide_eq_false (by omega),Zb,Zb]; exact ih
   | succ m =>
    rw [decide_eq_true (by omega),Zl,Zl,ZT (by omega) (by omega),show ((m+1:Nat):Int) - 1=(m:Int) by omega,Z9,List.getElem?_eq_getElem (by omega),Za,Za,Zz,ZP,Zr,Zr]
    by_cases g:cmp c cuts[m]≤0
    ·rw [decide_eq_true g,Zl,Zl]; exact .inr ⟨8,by omega,rfl,rfl⟩
    ·rw [decide_eq_false g,Zb,Zb]; exact ih
theorem Zgz (q:Zj):∀ (zs:List (List Rng)) (out:List Zf),out.length+zs.length≤100000→(∀ z ∈ zs,QZ q z=some (mkw q z,0))→Ya q zs out=some (Ctl.nxt (out++zs.map (mkw q)))
 | [],out,_,_=>by rw [Ya]; simp
 | z::zs,out,hn,h=>by
  simp only [List.length_cons] at hn
  rw [Ya,h z List.mem_cons_self,Za,decide_eq_true rfl,Bool.not_true,Zb,Z4 (by simp; omega),Za,Zgz q zs _ (by simp; omega) fun x hx=>h x (List.mem_cons_of_mem _ hx)]
  simp
theorem Zdc (y l:List Zf) (hl:l.length=y.length) (hy:y.length≤1000000) (hr:∀ w ∈ l,okW w):∀ (k fuel m:Nat),m+k=y.length→k<fuel→Qb y fuel l (m:Int)=some l
 | _,0,_,_,h=>absurd h (by omega)
 | 0,fuel+1,m,h1,_=>by
  rw [Qb.eq_2,decide_eq_false (by omega),Zb,Za,Y6]
 | k+1,fuel+1,m,h1,h2=>by
  have hm:m<l.length:=by omega
  rw [Qb.eq_2,decide_eq_true (by omega),Zl,Za,ZN,Z9,List.getElem?_eq_getElem hm,Za,Zd0 _ (hr _ (List.getElem_mem hm)),Za,Za,Zr,Zr,ZT (by omega) (by omega),show (m:Int)+1=((m+1:Nat):Int) by omega]
  have e:l.set (Int.toNat (m:Int)) l[m]=l:=by
   rw [Int.toNat_natCast]; exact List.set_getElem_self hm
  rw [e]
  exact Zdc y l hl hy hr k fuel (m+1) (by omega) (by omega)
theorem Zdb (l:List Zf) (h:l.length≤1000000) (hr:∀ w ∈ l,okW w):Xy l=some l:=by
 unfold Xy Xb
 rw [Z4 (by simp; omega),Za,List.nil_append,Za,show (0:Int)=((0:Nat):Int) from rfl,Zdc l l rfl h hr l.length FU 0 (by omega) (by unfold FU; omega),Za]
end Go.Proofs.YtkcmgbbopedacaaGreatDoor
namespace Go.Proofs.YtkcmgbbopedacaaGreatDoor
open Go.RowKit
attribute [local irreducible] Tot sel bnd Zc YB app Yn lsl Zc6
theorem Zha:∀ l:List Rng,(∀ r ∈ l,emp r=false)→Zdh [] l=l
 | [],_=>by rw [Zdh]
 | r::l,h=>by rw [Zdh,if_neg (by simp [h r List.mem_cons_self]),spl,Zha l fun x hx=>h x (List.mem_cons_of_mem _ hx)]; rfl
theorem ZtE (q:Zj) (b:List Bnd) (hq:q.Ranges.length<1000000) (h0:qch q=0) (hb:b.length≤64):∃ (zs:List (List Rng)) (cs:List Bnd),cs.length≤b.length∧zs.length≤200∧zs.flatten=Zdh cs (qrg q)∧(¬(q.Kind=1∨q.Kind=2)→zs.length≤1)∧XX q b=some zs ∧
   ∃ use13:List Bnd,∃ y14:List Rng,(Zc (sel (decide (q.Kind=3)) (some true) (some (decide (q.Kind=4))):Option Bool) fun x11=>(sel x11 (some []) (some b):Option (List Bnd)))=some use13∧Q8 (qrg q) use13=some y14∧ZI q use13 y14 [] (-1)=some (zs.map (mkw q)):=by
 have er:Y9 q=some (qrg q):=if_pos hq
 have hl:(qrg q).length≤64:=Zgn _ _ _ _
 have hk:=(Zkd h0).1
 have hn:=Zjl q
 by_cases h12:q.Kind=1∨q.Kind=2
 ·obtain ⟨e1,e2⟩:=Zhm (qrg q) b (by omega) (by omega)
  have hp:=(Zhe b).2.length_eq
  have hs:=Zkh (SM.stab Zdj b) (qrg q) hn
  obtain ⟨zs,g1,g2,g3,g4,-⟩:=Zej q b (by omega) (Zdh (SM.stab Zdj b) (qrg q)) [] (-1) (.inr (by omega)) (by simp; omega) (by simp)
  refine ⟨zs,SM.stab Zdj b,by omega,by simp at g3; omega,by simpa using g4,fun h=>absurd h12 h,?_,b,_,?_,e2,g2⟩
  ·have hx:(sel (!decide (q.Kind=1)) (some (!decide (q.Kind=2))) (some false):Option Bool)=some false:=by
     rcases h12 with h | h
     ·rw [decide_eq_true h,Bool.not_true,Zb]
     ·rw [decide_eq_false (by omega),decide_eq_true h,Bool.not_false,Zl]; rfl
   rw [XX,er,Za,hx,Za,Zb,e1,Za,g1,Za]
  ·rw [decide_eq_false (by omega),decide_eq_false (by omega),Zb,Za,Zb]
 ·have h34:q.Kind=3∨q.Kind=4:=by
    have:q.Kind=1∨q.Kind=2∨q.Kind=3∨q.Kind=4:=hk
    omega
  have e2:=(Zhm (qrg q) [] (by omega) (by simp)).2
  have hst:SM.stab Zdj []=[]:=List.perm_nil.1 (Zhe []).2
  rw [hst,Zha _ hn.ne] at e2
  obtain ⟨zs,-,g2,g3,g4,g5⟩:=Zej q [] (by simp) (qrg q) [] (-1) (.inr (by omega)) (by simp; omega) (by simp)
  have g6:=(g5 rfl).2 rfl
  refine ⟨zs,[],by simp,by simp at g3; omega,by rw [Zha _ hn.ne]; simpa using g4,fun _=>by rw [g6]; split <;> simp,?_,[],_,?_,e2,g2⟩
  ·rw [XX,er,Za,decide_eq_false (by omega),Bool.not_false,Zl,decide_eq_false (by omega),Bool.not_false,Za,Zl,g6]
   cases hq0:qrg q with
   | nil=>rw [decide_eq_true (by simp),Zl,if_pos rfl]
   | cons r l=>rw [decide_eq_false (by simp; omega),Zb,if_neg (by simp)]
  ·rcases h34 with h | h
   ·rw [decide_eq_true h,Zl,Za,Zl]
   ·rw [decide_eq_false (by omega),decide_eq_true h,Zb,Za,Zl]
theorem Zrs {α β γ:Type} (x:Option α) (f:α→Option β) (g:β→Option γ):(Zc x fun a=>Zc (f a) g)=Zc (Zc x f) g:=by
 cases x with
 | none=>rw [ZdS,ZdS,ZdS]
 | some a=>rw [Za,Za]
theorem ZeP (q:Zj) (b:List Bnd) (hq:q.Ranges.length≤1000) (hb:b.length≤1000):∃ (l:List Zf) (e:Int),Yz q b=some (l,e)∧Xu q b=some (if e=0 then ⟨q,b,l,l,false⟩ else PP0,e) ∧
   (e=0→b.length≤64∧qch q=0∧∃ (zs:List (List Rng)) (cs:List Bnd),cs.length≤b.length∧zs.length≤200∧zs.flatten=Zdh cs (qrg q)∧(¬(q.Kind=1∨q.Kind=2)→zs.length≤1)∧(∀ z ∈ zs,z.length≤128)∧l=zs.map (mkw q)):=by
 have e1:Xw q=some (qch q):=if_pos (by omega)
 have e2:ZaU q=qch q:=Zf6 q
 have er:Zbc q=some (qrg q):=if_pos (by omega)
 rw [Yz,Xu,e1,e2,Zr,Za]
 by_cases h1:qch q=0
 ·rw [decide_eq_true h1,Bool.not_true,Zb,Zb]
  by_cases h2:64<b.length
  ·rw [decide_eq_true (by omega),Zl,Zl]
   exact ⟨_,_,rfl,by rw [if_neg (by decide)],fun h=>absurd h (by decide)⟩
  ·rw [decide_eq_false (by omega),Zb,Zb]
   have hcb:=Zii b hb b 0 rfl
   rw [show ((0:Nat):Int)=0 from rfl] at hcb
   rcases hcb with ⟨c1,c2⟩ | ⟨e,he,c1,c2⟩
   ·obtain ⟨zs,cs,k1,k2,k3,k3',k4,use13,y14,k5,k6,k7⟩:=ZtE q b (by omega) h1 (by omega)
    have hl:(qrg q).length≤64:=Zgn _ _ _ _
    have hs:=Zkh cs (qrg q) (Zjl q)
    obtain ⟨i1,i2⟩:=Zm4 cs (qrg q) (Zjl q)
    have i3:=(ZkH cs (qrg q)).1
    have hz:∀ z ∈ zs,z.Sublist (Zdh cs (qrg q)):=fun z hz=>by rw [← k3]; exact ZpX hz
    have hz2:∀ z ∈ zs,z.length≤128:=fun z h=>by have:=(hz z h).length_le; omega
    have hw:∀ z ∈ zs,QZ q z=some (mkw q z,0):=fun z h=>by
     have s1:=hz z h
     have s2:=hz2 z h
     rw [Zd1 q z (by omega),Zj0,if_neg (by simpa using h1),if_neg (by omega),if_pos]
     exact Zko (qrg q) z none (fun r hr=>⟨i3 r (s1.mem hr),i1 r (s1.mem hr)⟩) (i2.sublist s1) fun x hx=>by cases hx
    rw [c1,c2,Za,Za,ZN,ZN,k4,Za,Zgz q zs [] (by simp; omega) hw,Za,ZN]
    simp only [List.nil_append]
    rw [Z4 (by simp; omega),Za,Zrs,k5,Za,er,Za,k6,Za,k7,Za,Z4 (by simp; omega),Za]
    exact ⟨_,_,rfl,by rw [if_pos rfl]; simp only [List.nil_append],fun _=>⟨by omega,h1,zs,cs,k1,k2,k3,k3',hz2,rfl⟩⟩
   ·rw [c1,c2,Za,Za,Y6,Y6]
    exact ⟨_,_,rfl,by rw [if_neg he],fun h=>absurd h he⟩
 ·rw [decide_eq_false h1,Bool.not_false,Zl,Zl]
  exact ⟨_,_,rfl,by rw [if_neg h1],fun h=>absurd h h1⟩
theorem ZqE {q:Zj} (hq:q.Ranges.length≤1000) {zs:List (List Rng)} (h:∀ z ∈ zs,z.length≤128):∀ w ∈ zs.map (mkw q),okW w:=fun w hw=>by
 obtain ⟨z,hz,rfl⟩:=List.mem_map.1 hw
 have:=h z hz
 exact ⟨hq,by show z.length≤1000; omega,by simp,by simp⟩
theorem ZeO (a:Ze):∀ (xs:List Bnd) (m:Nat),a.Cuts.drop m=xs→YS a a xs (m:Int)=some (.nxt ())
 | [],_,_=>by rw [YS]
 | r::xs,m,h=>by
  obtain ⟨h1,h2⟩:=Zac h
  rw [YS,Z9,h1,Za,Za,ZP,Zr,ZkL,decide_eq_true rfl,Bool.not_true,Zb]
  exact ZeO a xs (m+1) h2
theorem ZeM (a:Ze):∀ (xs:List Zf) (m:Nat),a.First.drop m=xs→YU a a xs (m:Int)=some (.nxt ())
 | [],_,_=>by rw [YU]
 | r::xs,m,h=>by
  obtain ⟨h1,h2⟩:=Zac h
  rw [YU,Z9,h1,Za,Za,Zd5,Za,Bool.not_true,Zb]
  exact ZeM a xs (m+1) h2
theorem ZeN (a:Ze):∀ (xs:List Zf) (m:Nat),a.Second.drop m=xs→YT a a xs (m:Int)=some (.nxt ())
 | [],_,_=>by rw [YT]
 | r::xs,m,h=>by
  obtain ⟨h1,h2⟩:=Zac h
  rw [YT,Z9,h1,Za,Za,Zd5,Za,Bool.not_true,Zb]
  exact ZeN a xs (m+1) h2
theorem Zga (a:Ze):QP a a=some true:=by
 have c1:=ZeO a a.Cuts 0 rfl
 have c2:=ZeM a a.First 0 rfl
 have c3:=ZeN a a.Second 0 rfl
 rw [show ((0:Nat):Int)=0 from rfl] at c1 c2 c3
 rw [QP,ZbR,Za]
 simp only [decide_true,Bool.not_true,Zb,beq_self_eq_true,Za]
 rw [c1,c2,c3]
 simp only [Za,ZN]
end Go.Proofs.YtkcmgbbopedacaaGreatDoor
namespace Go.Proofs.YtkcmgbbopedacaaGreatDoor
open Go.RowKit
def Zun (d:ByteArray):Nat→Nat
 | 0=>0
 | k+1=>Zun d k * 10+((d.get! k).toNat - 48)
def isD (d:ByteArray) (k:Nat):Prop:=48≤(d.get! k).toNat∧(d.get! k).toNat≤57
def ZwT (d:ByteArray):Prop:=∀ k,k<d.size→isD d k
def ZwO (mn:Bool) (d:ByteArray):Prop:=d.size=0∨13<d.size∨((d.get! 0).toNat=48∧(1<d.size∨mn=true))∨¬ ZwT d∨1000000000000<Zun d d.size
open Classical in
noncomputable def ZuN (mn:Bool) (d:ByteArray):Int × Bool :=
 if ZwO mn d then (0,false) else (if mn then - (Zun d d.size:Int) else Zun d d.size,true)
noncomputable def num (s:ByteArray):Int × Bool:=if 1<s.size∧(s.get! 0).toNat=45 then ZuN true (s.extract 1 s.size) else ZuN false s
attribute [local irreducible] WK WC WL Wk Rel OpD OpV WD WO Op.bytesLess cmp vk vb vld emp contains
attribute [local irreducible] ZuN num
end Go.Proofs.YtkcmgbbopedacaaGreatDoor
namespace Go.Proofs.YtkcmgbbopedacaaGreatDoor
open Go.RowKit
set_option maxRecDepth 100000
set_option maxHeartbeats 4000000
attribute [local irreducible] WK WC WL Wk Rel OpD OpV WD WO sel bnd Zc app Yn lsl ZiR ssl ZgG ZfZ ZiQ ZhF Op.bytesLess
attribute [local irreducible] Zcb YC union
def Xa:List Zf→List Zk→Option (List Zk)
 | [],out2 =>
 some out2
 | r3::xs4,out2 =>
 Zc (app out2 r3.Visits) fun l6 =>
 Xa xs4 l6
def Zaq (l1:List Zf):Option (List Zk) :=
 Zc (
  Xa l1 []:Option (List Zk)) fun out7 =>
 Zc (Qk out7) fun y8 =>
 some y8
instance Zlf {l1}:SpO (Zaq l1) fun y=>Sp 158 [.d (lst Zf.ds l1)] [] (.d (lst Zk.ds y)) []:=⟨fun hm=>by
 refine si Tryz.func158 Tryz.ntmps158 Tryz.results158 fun B w0 ρ0=>?_
 refine sr ?_
 refine sr ?_
 refine sr ?_
 refine jo1 hm [] [] (fun out7=>[(3,.d (lst Zk.ds out7))]) (fun _ hm hm1=>?_) (fun out7 hm=>?_)
 ·refine Zq ?_
  refine ZbQ (ZbX 3 5001 149 12 rfl rfl) ?_
  refine lr1 hm1 6 [6,7] [] (fun m5 out2=>[(3,.h 5001),(8,vI (m5:Int))]) (fun hlenm5 m5 out2 r3 hltm5 hxm5 hm1=>?_) (fun m5 out2 hm1=>?_) (B:=(fun m5 out2=>[(5001,some (YH 149 12 Zk.ds out2))]))
  ·refine bo hm1 fun l6 hm1=>?_
   exact ZhJ [(5001,115)] hm hm1
  exact ZcD hm hm1
 exact az0 hm⟩
def Zbd (q1:Zj) (first2:List Zf) (second3:List Zf):Option Yg :=
 Zc (Xx q1) fun y4 =>
 Zc (Zaq first2) fun y5 =>
 Zc (Zaq second3) fun y6 =>
 some (Yg.mk y4 y5 y6)
instance Zmm {q1} {first2} {second3}:SpO (Zbd q1 first2 second3) fun y=>Sp 101 [.a (Zj.vs q1),.d (lst Zf.ds first2),.d (lst Zf.ds second3)] [] (.a (Yg.vs y)) []:=⟨fun hm=>by
 refine si Tryz.func101 Tryz.ntmps101 Tryz.results101 fun B w0 ρ0=>?_
 exact az0 hm⟩
end Go.Proofs.YtkcmgbbopedacaaGreatDoor
namespace Go.Proofs.YtkcmgbbopedacaaGreatDoor
open Go.RowKit
set_option maxRecDepth 100000
set_option maxHeartbeats 4000000
attribute [local irreducible] WK WC WL Wk Rel OpD OpV WD WO sel bnd Zc app Yn lsl ZiR ssl ZgG ZfZ ZiQ ZhF Op.bytesLess
attribute [local irreducible] Zcb YC union
def Qx:List Zf→List Zk→Option (List Zk)
 | [],r4 =>
 some r4
 | r5::xs6,r4 =>
 Zc (app r4 r5.Visits) fun l8 =>
 Qx xs6 l8
def QI:List Zf→List Zk→Option (List Zk)
 | [],r10 =>
 some r10
 | r11::xs12,r10 =>
 Zc (app r10 r11.Visits) fun l14 =>
 QI xs12 l14
def Zcp (q1:Zj) (first2:List Zf) (second3:List Zf):Option Yg :=
 Zc (
  Qx first2 []:Option (List Zk)) fun r9 =>
 Zc (
  QI second3 []:Option (List Zk)) fun r15 =>
 some (Yg.mk q1 r9 r15)
instance ZoG {q1} {first2} {second3}:SpO (Zcp q1 first2 second3) fun y=>Sp 178 [.a (Zj.vs q1),.d (lst Zf.ds first2),.d (lst Zf.ds second3)] [] (.a (Yg.vs y)) []:=⟨fun hm=>by
 refine si Tryz.func178 Tryz.ntmps178 Tryz.results178 fun B w0 ρ0=>?_
 refine sr ?_
 refine sr ?_
 refine sr ?_
 refine jo1 hm [2,6,7] [106] (fun r9=>[]) (fun _ hm hm1=>?_) (fun r9 hm=>?_) (B:=(fun r9=>[(107,some (.box 87 [vI q1.Kind,.d (lst Rng.ds q1.Ranges),vS q1.Key,vI q1.Count,.d (lst Zk.ds r9),.d (.c (.slice none 0 0))]))]))
 ·refine Zq ?_
  refine ZbQ (Zg2 107 4 5001 149 12 rfl rfl rfl rfl) ?_
  refine lr1 hm1 14 [2,6,7,14,15] [106] (fun m7 r4=>[(16,vI (m7:Int))]) (fun hlenm7 m7 r4 r5 hltm7 hxm7 hm1=>?_) (fun m7 r4 hm1=>?_) (B:=(fun m7 r4=>[(107,some (.box 87 [vI q1.Kind,.d (lst Rng.ds q1.Ranges),vS q1.Key,vI q1.Count,.h 5001,.d (.c (.slice none 0 0))])),(5001,some (YH 149 12 Zk.ds r4))]))
  ·refine bo hm1 fun l8 hm1=>?_
   exact ZhJ [(106,106),(107,107),(5001,124)] hm hm1
  exact ZcD hm hm1
 refine sr ?_
 refine jo1 hm [6,7] [106] (fun r15=>[]) (fun _ hm hm1=>?_) (fun r15 hm=>?_) (B:=(fun r15=>[(107,some (.box 87 (Yg.vs (Yg.mk q1 r9 r15))))]))
 ·refine Zq ?_
  refine ZbQ (Zg2 107 5 5002 149 12 rfl rfl rfl rfl) ?_
  refine lr1 hm1 27 [6,7,27,28] [106] (fun m13 r10=>[(29,vI (m13:Int))]) (fun hlenm13 m13 r10 r11 hltm13 hxm13 hm1=>?_) (fun m13 r10 hm1=>?_) (B:=(fun m13 r10=>[(107,some (.box 87 [vI q1.Kind,.d (lst Rng.ds q1.Ranges),vS q1.Key,vI q1.Count,.d (lst Zk.ds r9),.h 5002])),(5002,some (YH 149 12 Zk.ds r10))]))
  ·refine bo hm1 fun l14 hm1=>?_
   exact ZhJ [(106,106),(107,107),(5002,137)] hm hm1
  exact ZcD hm hm1
 exact Yw hm⟩
def XT (a1:Yg) (b2:Yg):Option Bool :=
 Zc (Zaz a1.Query b2.Query) fun y3 =>
 sel y3 (
  Zc (YN a1.First b2.First) fun y4 =>
  sel y4 (
   Zc (YN a1.Second b2.Second) fun y5 =>
   some y5) (
   some false)) (
  some false)
instance ZiK {a1} {b2}:SpO (XT a1 b2) fun y=>Sp 126 [.a (Yg.vs a1),.a (Yg.vs b2)] [] (vB y) []:=⟨fun hm=>by
 refine si Tryz.func126 Tryz.ntmps126 Tryz.results126 fun B w0 ρ0=>?_
 exact az0 hm⟩
end Go.Proofs.YtkcmgbbopedacaaGreatDoor
namespace Go.Proofs.YtkcmgbbopedacaaGreatDoor
open Go.RowKit
structure okC (l:List Zk):Prop where
 vis:l.length≤1000
 rows:∀ v ∈ l,v.View.Rows.length≤10000
theorem okC.w {l:List Zk} (h:okC l):okW ⟨⟨0,[],⟨#[]⟩,0⟩,[],l⟩:=⟨by simp,by simp,h.vis,h.rows⟩
end Go.Proofs.YtkcmgbbopedacaaGreatDoor
namespace Go.Proofs.YtkcmgbbopedacaaGreatDoor
open Go.RowKit
def ZfY (l:List Zf):List Zk:=l.flatMap (·.Visits)
theorem ZfD:∀ (l:List Zf) (out:List Zk),out.length+(ZfY l).length≤1000000→Xa l out=some (out++ZfY l)∧Qx l out=some (out++ZfY l)∧QI l out=some (out++ZfY l)
 | [],out,_=>by rw [Xa.eq_1,Qx.eq_1,QI.eq_1]; simp [ZfY]
 | w::l,out,h=>by
  unfold ZfY at h ⊢
  rw [List.flatMap_cons,List.length_append] at h
  have ih:=ZfD l (out++w.Visits) (by unfold ZfY; rw [List.length_append]; omega)
  unfold ZfY at ih
  obtain ⟨i1,i2,i3⟩:=ih
  rw [Xa.eq_2,Qx.eq_2,QI.eq_2,Z4 (by omega),Za,Za,Za,i1,i2,i3,List.flatMap_cons,List.append_assoc]
  exact ⟨rfl,rfl,rfl⟩
theorem ZrD (q:Zj) (a b:List Zf) (hq:q.Ranges.length≤1000000) (ha:(ZfY a).length≤1000000) (hb:(ZfY b).length≤1000000) (hra:∀ v ∈ ZfY a,v.View.Rows.length≤10000) (hrb:∀ v ∈ ZfY b,v.View.Rows.length≤10000) :
   Zbd q a b=some ⟨q,ZfY a,ZfY b⟩∧Zcp q a b=some ⟨q,ZfY a,ZfY b⟩:=by
 obtain ⟨a1,a2,a3⟩:=ZfD a [] (by simpa using ha)
 obtain ⟨b1,b2,b3⟩:=ZfD b [] (by simpa using hb)
 rw [List.nil_append] at *
 unfold Zbd Zcp Zaq
 rw [QA _ (by omega),Za,a1,b1,a2,b3]
 simp only [Za]
 rw [Zbr _ ha (fun v hv=>by have:=hra v hv; omega),Zbr _ hb (fun v hv=>by have:=hrb v hv; omega)]
 simp only [Za,and_self]
theorem Ze1 (r:Yg):XT r r=some true:=by
 unfold XT
 simp only [ZbR,ZcQ,Za,Zl]
end Go.Proofs.YtkcmgbbopedacaaGreatDoor
namespace Go.Proofs.YtkcmgbbopedacaaGreatDoor
open Go.RowKit
theorem ZwQ (b:Bool) {g:Prop} (h1:b=true→g) (h2:b=false→g):g:=by
 cases h:b with
 | true=>exact h1 h
 | false=>exact h2 h
theorem slt {α:Type} (x y:α):sel true x y=x:=rfl
theorem slf {α:Type} (x y:α):sel false x y=y:=rfl
theorem Znr {w:World} {ok:Nat→Prop} {ρ:Lc}:∀ {xs ys:List V} {vs:List Value},RVs w ok ρ (xs++ys) vs→∃ us zs,vs=us++zs∧RVs w ok ρ xs us∧RVs w ok ρ ys zs
 | [],_,vs,h=>⟨[],vs,rfl,.nil,h⟩
 | x::xs,ys,_,.cons h1 h2=>by
  obtain ⟨us,zs,rfl,g1,g2⟩:=Znr (xs:=xs) h2
  exact ⟨_::us,zs,rfl,.cons h1 g1,g2⟩
section
variable {P:Program} {o:Oper} {H:Hp} {sl:List (Nat × V)} {x:Operand} {xs:Array Operand} {ats:Array TypeId} {f:FuncId}
theorem Ztx {pre post:List D} {k1 k2:Nat} (b:Bool) (hs:∀ v1 v2:Value,Spec P f [.a (pre.map V.d++.d (.c v1)::.d (.c v2)::post.map V.d)] [] fun u1 h1=>u1=.d (.c (bif b then v2 else v1))∧h1=[]) (hop:o.op=.call { callee:=.value x,args:=xs,argTypes:=ats }) (hx:ev sl x=some (.d (.c (.func (.func f) #[] #[])))) (ha:evl sl xs.toList=some [.a (pre.map V.d++.h k1::.h k2::post.map V.d)]):OpV P o H sl 0 0 fun u' h'=>u'=.h (bif b then k2 else k1)∧h'=[]:=fun B a w ρ hup hd hsr hr hfr=>by
 have hargs:=ZdC hsr ha
 generalize hg:xs.toList.map a.eval=args at hargs
 obtain ⟨us,rfl,hus⟩:∃ us:List Value,args=[.agg us.toArray]∧RVs w (okb B w ρ) ρ (pre.map V.d++.h k1::.h k2::post.map V.d) us:=by
  cases hargs with | cons h1 h2=>cases h2; cases h1 with | a h=>exact ⟨_,rfl,h⟩
 obtain ⟨A,C,rfl,hA,hC⟩:=Znr hus
 obtain ⟨p1,n1,c1,p2,n2,c2,D',rfl,e1,e2,hD⟩:∃ p1 n1 c1 p2 n2 c2 D',C=.slice p1 n1 c1::.slice p2 n2 c2::D'∧ρ k1=some (.arr (.slice p1 n1 c1))∧ρ k2=some (.arr (.slice p2 n2 c2))∧RVs w (okb B w ρ) ρ (post.map V.d) D':=by
  cases hC with | cons h1 h2=>cases h2 with | cons h2 h3=>cases h1 with | h e1=>cases h2 with | h e2=>exact ⟨_,_,_,_,_,_,_,rfl,e1,e2,h3⟩
 have hs0:∀ i,sub ρ [] i=none:=fun i=>rfl
 have stl:Stl w w (okb B w ρ) (okb (fun _=>True) w (sub ρ [])):=fun b hb=>⟨⟨hb.1,trivial,fun i l hi=>by rw [hs0] at hi; cases hi⟩,rfl⟩
 have hargs':RVs w (okb (fun _=>True) w (sub ρ [])) (sub ρ []) [.a (pre.map V.d++.d (.c (.slice p1 n1 c1))::.d (.c (.slice p2 n2 c2))::post.map V.d)] [.agg (A++.slice p1 n1 c1::.slice p2 n2 c2::D').toArray] :=
  .cons (.a (RVs.append (RDs.toV ((RVs.ofD hA).mono stl)) (.cons (.d (.c rfl)) (.cons (.d (.c rfl)) (RDs.toV ((RVs.ofD hD).mono stl)))))) .nil
 have hview:HR (fun _=>True) [] (sub ρ []) w:=⟨fun k blk h=>by simp [look] at h,fun k k' blk blk' l l' b h=>by simp [look] at h,fun i l b hi=>(by rw [hs0] at hi; cases hi),fun e he=>⟨⟨(hr.gl e he).1.1,trivial,fun i l hi=>by rw [hs0] at hi; cases hi⟩,(hr.gl e he).2⟩⟩
 have hcall:=(hs (.slice p1 n1 c1) (.slice p2 n2 c2)).run (fun _=>True) w (sub ρ []) _ (fun b hb=>trivial) hargs' hview (fun i l hi=>by rw [hs0] at hi; cases hi)
 obtain ⟨fn,hf1,hf2,hf3⟩:=(hs undef undef).fn
 have hrun:(execOp a.eval o).run P w=.ok (.enter f (xs.toList.map a.eval).toArray) w:=by
  have hx':=Za7 (Zp hsr hx)
  unfold execOp; rw [hop]
  have e:xs.map a.eval=(xs.toList.map a.eval).toArray:=by apply Array.ext'; simp
  have h1 : ¬ fn.name = "runtime.NumGoroutine" := by simpa using hf2
  have h2:¬ fn.body=none:=fun e=>by rw [e] at hf3; cases hf3
  simp [resolve,hx',Deferred.ofValue,invoke,callFunc,program,Sem.run,hf1,h1,h2,e]
 unfold Oper.wp
 rw [hrun,hg,Oper.upon_enter]
 refine hcall.mono ?_
 rintro e w' ⟨r,u1,h1,ρ1,rfl,⟨rfl,rfl⟩,hst,hrv,hlt⟩
 refine ⟨r,.h (bif b then k2 else k1),[],ρ,rfl,⟨rfl,rfl⟩,⟨hst.os,hst.tape,hst.output,hst.size,fun _ _ h=>h,fun k l h=>.inl h,fun b hb _=>hst.keep b hb fun k l _ hk=>(by rw [hs0] at hk; cases hk),fun k h=>absurd rfl h,fun k blk h=>by simp [look] at h,fun k k' blk blk' l l' b h=>by simp [look] at h⟩,?_⟩
 rw [Za7 hrv]
 cases b with
 | true=>exact .h e2
 | false=>exact .h e1
end
section
variable {Γ:Cx} {k:Zbw} {sl:List (Nat × V)} {hp:Hp} {o:Oper} {ops:Array Oper} {i an d:Nat} {ts:List Nat} {r:List PI} {F:List Ft} {f:FuncId} {x:Operand} {xs:Array Operand} {ats:Array TypeId} {rest:List Oper} {pre post:List D} {k1 k2:Nat}
theorem Zg4 (b:Bool) (kr:Nat) (hs:∀ v1 v2:Value,Spec Γ.P f [.a (pre.map V.d++.d (.c v1)::.d (.c v2)::post.map V.d)] [] fun u1 h1=>u1=.d (.c (bif b then v2 else v1))∧h1=[]) (hop:o.op=.call { callee:=.value x,args:=xs,argTypes:=ats }) (hx:ev (keep ts sl) x=some (.d (.c (.func (.func f) #[] #[])))) (ha:evl (keep ts sl) xs.toList=some [.a (pre.map V.d++.h k1::.h k2::post.map V.d)])
   (hkr:(bif b then k2 else k1)=kr) (hd:o.dst=some d) (hw:Wt ops o (keep ts sl) true) (hdl:Nat.blt d Γ.nt=true) (hf:okF ⟨⟨i,an,ts⟩,[],[],0,0⟩ F=true) (hk:WD Γ ops k r (⟨⟨i,an,ts⟩,[],[],0,0⟩::F) ⟨(d,.h kr)::sl,hp⟩):WO Γ ops k o i an ts r F ⟨sl,hp⟩:=by
 subst hkr
 exact Zq7 (h:=[]) (Ztx b hs hop hx ha) hd hw hdl rfl (Q5 _ _) hf hk
end
end Go.Proofs.YtkcmgbbopedacaaGreatDoor
