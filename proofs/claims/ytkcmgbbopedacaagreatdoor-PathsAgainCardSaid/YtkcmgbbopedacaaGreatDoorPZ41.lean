/-
  Lemmas: Paths that take all the views that they want
-/
import Derived.Test.YtkcmgbbopedacaaGreatDoorPZ40
import Derived.Test.YtkcmgbbopedacaaGreatDoorPZ18
import Derived.Test.YtkcmgbbopedacaaGreatDoorPZ39
import Derived.Test.YtkcmgbbopedacaaGreatDoorPZ21
set_option linter.unusedSimpArgs false
set_option linter.unusedVariables false
namespace Go.Proofs.YtkcmgbbopedacaaGreatDoor
open Go.RowKit
structure WI (q:Zf) (w:Zc):Prop where
 ok:okW w
 qe:w.Query=q
 vi:VI w
theorem Zqs {A C:List Rng} {w:Zc} {m:List Rng} (g:Gd (A++YR w++C) m) {v:Zr} (hv:X7 v=true) (hd:Yy w=false) (hm:ZbV (Xf w.Query) (Zcw (Xf w.Query) w.Todo) v.Interval=false) :
   Gd (A++YR (stepW w v (Zcw (Xf w.Query) w.Todo) (Yt v.Interval (Zcw (Xf w.Query) w.Todo)))++C) m:=by
 have ht:=Zc5 hd
 have hi:=ZgY hv
 cases hq:Xf w.Query with
 | true =>
  obtain ⟨i,x,e2⟩:=Zex ht
  have ew:Zcw true w.Todo=x:=by rw [Zcw,if_pos rfl,e2,List.getLast?_concat]; rfl
  rw [hq] at hm
  rw [ew] at hm ⊢
  unfold YR at g
  rw [if_pos hq,e2] at g
  have hx:emp x=false:=g.ne x (by simp)
  obtain ⟨k1,k2⟩:=Zpk hm
  obtain ⟨h,e,j1,j2,j3⟩:=Zmp hi hx k1 k2
  rw [e]
  have g':Gd ((A++i)++x::(w.Visits.map (·.Part)++C)) m:=by simpa using g
  have:=g'.repl (ZwJ hx j1 j2 j3)
  unfold stepW
  rw [if_pos hq]
  unfold YR
  simp only
  rw [if_pos hq,e2,List.dropLast_concat]
  simpa [ZbX] using this
 | false =>
  obtain ⟨x,t,e2⟩:=Zeu ht
  have ew:Zcw false w.Todo=x:=by rw [Zcw,if_neg (by simp),e2]; rfl
  rw [hq] at hm
  rw [ew] at hm ⊢
  unfold YR at g
  rw [if_neg (by simp [hq]),e2] at g
  have hx:emp x=false:=g.ne x (by simp)
  obtain ⟨k1,k2⟩:=Zpi hm
  obtain ⟨h,e,j1,j2,j3⟩:=Zmn hi hx k1 k2
  rw [e]
  have g':Gd ((A++w.Visits.map (·.Part))++x::(t++C)) m:=by simpa using g
  have:=g'.repl (ZwO hx j1 j2 j3)
  unfold stepW
  rw [if_neg (by simp [hq])]
  unfold YR
  simp only
  rw [if_neg (by simp [hq]),e2,List.tail_cons]
  simpa [ZbX] using this
theorem Zmm {w:Zc} (h:Yy w=false):Zcw (Xf w.Query) w.Todo ∈ YR w:=by
 have h0:=Zc5 h
 have hmem:Zcw (Xf w.Query) w.Todo ∈ w.Todo:=by
  cases Xf w.Query with
  | true =>
   obtain ⟨i,x,e2⟩:=Zex h0
   rw [e2,Zcw,if_pos rfl,List.getLast?_concat]; simp
  | false =>
   obtain ⟨x,l,e2⟩:=Zeu h0
   rw [e2,Zcw,if_neg (by simp)]; simp
 unfold YR
 split
 ·exact List.mem_append_left _ hmem
 ·exact List.mem_append_right _ hmem
theorem ZjP {w:Zc} (h:Yy w=true) (v:Zr):Xg w v=(W0,7):=by
 unfold Xg XP
 rw [h]; rfl
theorem ZjB {q:Zf} {A C:List Rng} {w:Zc} {m:List Rng} (g:Gd (A++YR w++C) m) (hw:WI q w) (hn:w.Visits.length≤999) {v:Zr} (hr:v.Rows.length≤10000) (h0:(Xg w v).2=0) :
   WI q (Xg w v).1∧Gd (A++YR (Xg w v).1++C) m∧(Xg w v).1.Visits.length=w.Visits.length+1∧(Xg w v).1.Todo.length≤w.Todo.length∧(∀ t,RI t w→(v.Rows=t.filter fun x=>contains v.Interval x.key)→RI t (Xg w v).1)∧∀ vs:List Zr,(∀ u ∈ vs,emp u.Interval=false)→v ∈ vs→Zeq vs (Xg w v).1.Todo<Zeq vs w.Todo:=by
 have h1:(XP w).2=true:=by
  cases hh:(XP w).2 with
  | true=>rfl
  | false=>unfold Xg at h0; rw [if_pos hh] at h0; exact absurd h0 (by decide)
 have hv:X7 v=true:=by
  cases hh:X7 v with
  | true=>rfl
  | false=>unfold Xg at h0; rw [if_neg (by simp [h1]),if_pos hh] at h0; exact absurd h0 (by decide)
 have hd:=ZfB h1
 have e1:=ZlN h1
 rcases Zl9 h1 hv with h | ⟨hm,e⟩
 ·rw [h] at h0; exact absurd h0 (by decide)
 have hx:emp (XP w).1=false:=by
  rw [e1]
  exact g.ne _ (by simp [Zmm hd])
 have hwx:XP w=((XP w).1,true):=Prod.ext rfl h1
 have sc:=Zmy (vs:=[v]) (fun u hu=>by rw [List.mem_singleton.1 hu]; exact ZgY hv) hx hwx List.mem_cons_self hm
 have so:=step_ok hw.ok hn v hr (Zc5 hd) (XP w).1 (Yt v.Interval (XP w).1)
 rw [e]
 dsimp only
 refine ⟨⟨so.1,by rw [Zul]; exact hw.qe,hw.vi.step hv (ZsT sc.2)⟩,?_,so.2.1,so.2.2,fun t h h'=>h.step h' _,fun vs hne hv=>(Zmy hne hx hwx hv hm).1⟩
 rw [e1] at hm ⊢
 exact Zqs g hv hd hm
def rnd:List Zr→Zc→Zc
 | [],w=>w
 | v::l,w=>if (Xg w v).2=0 then (Xg w v).1 else rnd l w
theorem Zd1 {w:Zc} (h:Yy w=true):∀ l:List Zr,rnd l w=w
 | []=>rfl
 | v::l=>by rw [rnd,ZjP h,if_neg (by decide),Zd1 h l]
theorem Zmo {w:Zc}:∀ l:List Zr,(∃ v ∈ l,(Xg w v).2=0)→∃ v ∈ l,(Xg w v).2=0∧rnd l w=(Xg w v).1
 | [],⟨v,hv,_⟩=>by simp at hv
 | v::l,⟨u,hu,h⟩=>by
  rw [rnd]
  by_cases h1:(Xg w v).2=0
  ·exact ⟨v,List.mem_cons_self,h1,by rw [if_pos h1]⟩
  ·rw [if_neg h1]
   rcases List.mem_cons.1 hu with rfl | hu
   ·exact absurd h h1
   ·obtain ⟨z,hz,g⟩:=Zmo l ⟨u,hu,h⟩
    exact ⟨z,List.mem_cons_of_mem _ hz,g⟩
theorem Zjp {t:List Kv} {vs:List Zr} (h:Tl t zb vs ZdB) {w:Zc} (hd:Yy w=false) (hne:∀ r ∈ YR w,emp r=false):∃ v ∈ vs,(Xg w v).2=0:=by
 have hx:=hne _ (Zmm hd)
 obtain ⟨v,hv,hm⟩:=Zqb h hx (Xf w.Query)
 have e:XP w=(Zcw (Xf w.Query) w.Todo,true):=by unfold XP; rw [hd]; rfl
 refine ⟨v,hv,?_⟩
 rcases Zl9 (w:=w) (by rw [e]) (h.mem v hv).1 with h1 | ⟨-,h1⟩
 ·unfold Xg at h1
  rw [e,(h.mem v hv).1] at h1
  simp only [hm] at h1
  have:=congrArg Prod.snd h1
  simp at this
 ·rw [h1]
def ZhC:List Zc→Nat
 | []=>0
 | w::l=>w.Todo.length+ZhC l
theorem Ziz:∀ a b:List Zc,ZhC (a++b)=ZhC a+ZhC b
 | [],b=>by simp [ZhC]
 | w::a,b=>by rw [List.cons_append,ZhC,ZhC,Ziz a b]; omega
theorem ZmQ (a b:List Zc):QW (a++b)=QW a++QW b:=by simp [QW]
theorem ZcI (w:Zc) (l:List Zc):QW (w::l)=w.Visits++QW l:=by simp [QW]
theorem Ze2:∀ {l:List Zc} {w:Zc},w ∈ l→w.Visits.length≤(QW l).length
 | x::l,w,h=>by
  rw [ZcI,List.length_append]
  rcases List.mem_cons.1 h with rfl | h
  ·omega
  ·have:=Ze2 h; omega
def vol (vs:List Zr):List Zc→Nat
 | []=>0
 | w::l=>w.Visits.length+Zeq vs w.Todo+vol vs l
theorem Zmc (vs:List Zr):∀ l:List Zc,(QW l).length≤vol vs l
 | []=>by simp [QW]
 | w::l=>by have:=Zmc vs l; rw [ZcI,List.length_append,vol]; omega
theorem ZtC (vs:List Zr):∀ l:List Zc,vol vs l≤(QW l).length+ZhC l * vs.length
 | []=>by simp [vol]
 | w::l=>by
  have h1:=ZtC vs l
  have h2:=ZoT vs w.Todo
  rw [ZcI,List.length_append,vol,ZhC,Nat.add_mul]; omega
structure CI (q:Zf) (n:Nat) (ws:List Zc):Prop where
 wi:∀ w ∈ ws,WI q w
 gd:Gd (ws.flatMap YR) (qrg q)
 tod:ZhC ws≤20
 vis:(QW ws).length≤n
theorem CI.mono {q:Zf} {n n':Nat} {ws:List Zc} (h:CI q n ws) (hn:n≤n'):CI q n' ws:=⟨h.wi,h.gd,h.tod,Nat.le_trans h.vis hn⟩
theorem Ze8 (A C:List Zc) (w:Zc):(A++w::C).flatMap YR=A.flatMap YR++YR w++C.flatMap YR:=by simp
theorem CI.one {q:Zf} {n:Nat} {A C:List Zc} {w:Zc} (h:CI q n (A++w::C)) (hn:n≤998) {v:Zr} (hr:v.Rows.length≤10000) (h0:(Xg w v).2=0):CI q (n+1) (A++(Xg w v).1::C):=by
 have g:=h.gd
 rw [Ze8] at g
 have hw:=h.wi w (by simp)
 have h1:=h.vis
 have h2:=h.tod
 have h3:=Ze2 (l:=A++w::C) (w:=w) (by simp)
 obtain ⟨a1,a2,a3,a4,-⟩:=ZjB g hw (by omega) hr h0
 rw [ZmQ,ZcI] at h1
 rw [Ziz,ZhC] at h2
 simp only [List.length_append] at h1
 refine ⟨fun x hx=>?_,by rw [Ze8]; exact a2,by rw [Ziz,ZhC]; omega,by rw [ZmQ,ZcI]; simp only [List.length_append]; omega⟩
 rcases List.mem_append.1 hx with hx | hx
 ·exact h.wi x (by simp [hx])
 ·rcases List.mem_cons.1 hx with rfl | hx
  ·exact a1
  ·exact h.wi x (by simp [hx])
theorem ZjJ {q:Zf} {t:List Kv} {vs:List Zr} (htl:Tl t zb vs ZdB) (hr:∀ v ∈ vs,v.Rows.length≤10000):∀ (C A:List Zc),(∀ w ∈ A,WI q w)→(∀ w ∈ C,WI q w∧w.Visits.length≤999)→Gd ((A++C).flatMap YR) (qrg q) →
   (∀ w ∈ A++C.map (rnd vs),WI q w)∧Gd ((A++C.map (rnd vs)).flatMap YR) (qrg q)∧ZhC (C.map (rnd vs))≤ZhC C∧vol vs (C.map (rnd vs))≤vol vs C∧∀ w ∈ C,(Yy w=true∨Zeq vs (rnd vs w).Todo<Zeq vs w.Todo)∧(RI t w→RI t (rnd vs w))
 | [],A,hA,_,g=>⟨by simpa using hA,by simpa using g,Nat.le_refl _,Nat.le_refl _,by simp⟩
 | w::C,A,hA,hC,g=>by
  rw [Ze8] at g
  have hw:=hC w List.mem_cons_self
  have hne:∀ u ∈ vs,emp u.Interval=false:=fun u hu=>(htl.mem u hu).2.2
  have key:WI q (rnd vs w)∧(rnd vs w).Visits.length+Zeq vs (rnd vs w).Todo≤w.Visits.length+Zeq vs w.Todo∧(rnd vs w).Todo.length≤w.Todo.length∧Gd (A.flatMap YR++YR (rnd vs w)++C.flatMap YR) (qrg q)∧(Yy w=true∨Zeq vs (rnd vs w).Todo<Zeq vs w.Todo)∧(RI t w→RI t (rnd vs w)):=by
   cases hd:Yy w with
   | true =>
    rw [Zd1 hd]
    exact ⟨hw.1,Nat.le_refl _,Nat.le_refl _,g,.inl rfl,fun h=>h⟩
   | false =>
    obtain ⟨v,hv,h0,e⟩:=Zmo vs (Zjp htl hd fun r hr=>g.ne r (by simp [hr]))
    obtain ⟨a1,a2,a3,a4,a5,a6⟩:=ZjB g hw.1 hw.2 (hr v hv) h0
    have a7:=a6 vs hne hv
    rw [e]
    exact ⟨a1,by omega,a4,a2,.inr a7,fun h=>a5 t h (htl.mem v hv).2.1⟩
  obtain ⟨k1,k2,k3,k4,k5,k6⟩:=key
  obtain ⟨i1,i2,i3,i4,i5⟩:=ZjJ htl hr C (A++[rnd vs w]) (fun x hx=>by
   rcases List.mem_append.1 hx with hx | hx
   ·exact hA x hx
   ·rw [List.mem_singleton.1 hx]; exact k1) (fun x hx=>hC x (List.mem_cons_of_mem _ hx)) (by rw [List.append_assoc,List.singleton_append,Ze8]; exact k4)
  rw [List.append_assoc,List.singleton_append] at i1 i2
  refine ⟨i1,i2,by rw [List.map_cons,ZhC,ZhC]; omega,by rw [List.map_cons,vol,vol]; omega,fun x hx=>?_⟩
  rcases List.mem_cons.1 hx with rfl | hx
  ·exact ⟨k5,k6⟩
  ·exact i5 x hx
theorem CI.rounds {q:Zf} {t:List Kv} {vs:List Zr} (htl:Tl t zb vs ZdB) (hr:∀ v ∈ vs,v.Rows.length≤10000) {n:Nat} (hn:n≤999) {ws:List Zc} (h:CI q n ws) (hv:vol vs ws≤n):CI q n (ws.map (rnd vs))∧vol vs (ws.map (rnd vs))≤n∧∀ w ∈ ws,(Yy w=true∨Zeq vs (rnd vs w).Todo<Zeq vs w.Todo)∧(RI t w→RI t (rnd vs w)):=by
 have h1:=h.tod
 have h2:=h.vis
 obtain ⟨i1,i2,i3,i4,i5⟩:=ZjJ htl hr ws [] (by simp) (fun w hw=>⟨h.wi w hw,by have:=Ze2 hw; omega⟩) (by simpa using h.gd)
 rw [List.nil_append] at i1 i2
 have h3:=Zmc vs (ws.map (rnd vs))
 exact ⟨⟨i1,i2,by omega,by omega⟩,by omega,i5⟩
def ZdC (vs:List Zr):Nat→Zc→Zc
 | 0,w=>w
 | n+1,w=>ZdC vs n (rnd vs w)
theorem Zjx {vs:List Zr} {w:Zc} (h:Yy w=true):∀ n,ZdC vs n w=w
 | 0=>rfl
 | n+1=>by rw [ZdC,Zd1 h,Zjx h n]
theorem Zgk (vs:List Zr) (n:Nat) (ws:List Zc):(ws.map (rnd vs)).map (ZdC vs n)=ws.map (ZdC vs (n+1)):=by
 rw [List.map_map]; rfl
theorem ZiC {vs:List Zr} {ws:List Zc} (h:∀ w ∈ ws,Yy w=true) (n:Nat):ws.map (ZdC vs n)=ws:=by
 rw [List.map_congr_left (g:=id) fun w hw=>Zjx (h w hw) n,List.map_id]
theorem ZgR {vs:List Zr} {ws:List Zc} (h:∀ w ∈ ws,Yy w=true):ws.map (rnd vs)=ws:=by
 rw [List.map_congr_left (g:=id) fun w hw=>Zd1 (h w hw) vs,List.map_id]
def Zks (vs:List Zr) (m:Nat) (ws:List Zc):Prop:=∀ w ∈ ws,Yy w=true∨Zeq vs w.Todo≤m
theorem CI.near {q:Zf} {n:Nat} {ws:List Zc} {vs:List Zr} (hv:vol vs ws≤n):Zks vs n ws:=fun w hw=>.inr (by
 have key:∀ l:List Zc,w ∈ l→Zeq vs w.Todo≤vol vs l:=fun l=>by
  induction l with
  | nil=>intro h; simp at h
  | cons x l ih =>
   intro h
   rw [vol]
   rcases List.mem_cons.1 h with rfl | h
   ·omega
   ·have:=ih h; omega
 have:=key ws hw
 omega)
theorem CI.run {q:Zf} {t:List Kv} {vs:List Zr} (htl:Tl t zb vs ZdB) (hr:∀ v ∈ vs,v.Rows.length≤10000) {n:Nat} (hn:n≤999):∀ (m:Nat) {ws:List Zc},CI q n ws→vol vs ws≤n→Zks vs m ws→CI q n (ws.map (ZdC vs m))∧vol vs (ws.map (ZdC vs m))≤n∧(∀ w ∈ ws.map (ZdC vs m),Yy w=true)∧((∀ w ∈ ws,RI t w)→∀ w ∈ ws.map (ZdC vs m),RI t w)
 | 0,ws,h,hv,hm=>by
  have e:ws.map (ZdC vs 0)=ws:=(List.map_congr_left (g:=id) fun w _=>(by rw [ZdC]; rfl)).trans (List.map_id ws)
  obtain ⟨-,-,h3⟩:=h.rounds htl hr hn hv
  rw [e]
  refine ⟨h,hv,fun w hw=>?_,fun h=>h⟩
  rcases hm w hw with h1 | h1
  ·exact h1
  ·rcases (h3 w hw).1 with h2 | h2
   ·exact h2
   ·omega
 | m+1,ws,h,hv,hm=>by
  obtain ⟨h1,h2,h3⟩:=h.rounds htl hr hn hv
  rw [← Zgk]
  obtain ⟨g1,g2,g3,g4⟩:=CI.run htl hr hn m h1 h2 fun w hw=>by
   obtain ⟨x,hx,rfl⟩:=List.mem_map.1 hw
   cases hd:Yy x with
   | true=>left; rw [Zd1 hd]; exact hd
   | false =>
    right
    rcases (h3 x hx).1 with k | k
    ·rw [hd] at k; cases k
    ·rcases hm x hx with k2 | k2
     ·rw [hd] at k2; cases k2
     ·omega
  refine ⟨g1,g2,g3,fun hri=>g4 fun w hw=>?_⟩
  obtain ⟨x,hx,rfl⟩:=List.mem_map.1 hw
  exact (h3 x hx).2 (hri x hx)
theorem CI.merged {q:Zf} {n:Nat} {ws:List Zc} (h:CI q n ws) (hk:(q.Kind=1∨q.Kind=2)∨ws.length≤1) (hd:∀ w ∈ ws,Yy w=true):∃ W:Zc,W.Query=q∧W.Visits=QW ws∧Yy W=true∧VI W∧Gd (YR W) (qrg q)∧∀ t,(∀ w ∈ ws,RI t w)→RI t W:=by
 have two:ws.length≤1→∃ W:Zc,W.Query=q∧W.Visits=QW ws∧Yy W=true∧VI W∧Gd (YR W) (qrg q)∧∀ t,(∀ w ∈ ws,RI t w)→RI t W:=fun hl=>by
  cases ws with
  | nil =>
   refine ⟨⟨q,[],[]⟩,rfl,rfl,rfl,fun u hu=>by simp at hu,?_,fun t _ u hu=>by simp at hu⟩
   have:=h.gd
   unfold YR
   simpa using this
  | cons w l =>
   cases l with
   | nil =>
    have hw:=h.wi w (by simp)
    have:=h.gd
    exact ⟨w,hw.qe,by simp [QW],hd w (by simp),hw.vi,by simpa using this,fun t ht=>ht w (by simp)⟩
   | cons x l=>simp at hl
 rcases hk with hk | hk
 ·have hdn:Xf q=false:=decide_eq_false (by omega)
  have hT:∀ w ∈ ws,w.Todo=[]:=fun w hw=>by
   have h1:=hd w hw
   have h2:=(h.wi w hw).qe
   unfold Yy enough at h1
   rw [h2,decide_eq_false (by omega),decide_eq_false (by omega)] at h1
   simpa using h1
  have hp:∀ l:List Zc,(∀ w ∈ l,w ∈ ws)→l.flatMap YR=(QW l).map (·.Part):=fun l=>by
   induction l with
   | nil=>intro _; rfl
   | cons w l ih =>
    intro hl
    have h2:=(h.wi w (hl w List.mem_cons_self)).qe
    have e:YR w=w.Visits.map (·.Part):=by
     unfold YR
     rw [h2,hdn,hT w (hl w List.mem_cons_self),if_neg (by simp),List.append_nil]
    have i:=ih fun x hx=>hl x (List.mem_cons_of_mem _ hx)
    unfold QW at i ⊢
    rw [List.flatMap_cons,List.flatMap_cons,List.map_append,e,i]
  refine ⟨⟨q,[],QW ws⟩,rfl,rfl,rfl,fun u hu=>?_,?_,fun t ht u hu=>?_⟩
  ·obtain ⟨w,hw,hu⟩:=List.mem_flatMap.1 hu
   exact (h.wi w hw).vi u hu
  ·have:=h.gd
   rw [hp ws fun _ h=>h] at this
   unfold YR
   rw [if_neg (by simp [hdn])]
   simpa using this
  ·obtain ⟨w,hw,hu⟩:=List.mem_flatMap.1 hu
   exact ht w hw u hu
 ·exact two hk
theorem CI.tiled {q:Zf} (h0:qch q=0) {n:Nat} {ws:List Zc} (h:CI q n ws) (hk:(q.Kind=1∨q.Kind=2)∨ws.length≤1) (hd:∀ w ∈ ws,Yy w=true):Zas q (QW ws)=0∧∀ t,Yu t=true→(∀ w ∈ ws,RI t w)→qtk q.Kind q.Count (YH (QW ws))=qtk q.Kind q.Count (Yj t (qrg q)):=by
 obtain ⟨W,w1,w2,w3,w4,w5,w6⟩:=h.merged hk hd
 rw [← w2]
 exact ⟨Znt h0 w1 w5 w4 w3,fun t ht hr=>ZpU ht w1 (w6 t hr) w5 w3⟩
end Go.Proofs.YtkcmgbbopedacaaGreatDoor
namespace Go.Proofs.YtkcmgbbopedacaaGreatDoor
open Go.RowKit
set_option maxRecDepth 100000
set_option maxHeartbeats 4000000
attribute [local irreducible] WK WC WL Wk Rel OpD OpV WD WO sel bnd Ze app YD lsl ZeM ssl ZhA Zhi Zi9 Zh4 Op.bytesLess
attribute [local irreducible] ZcE Yi union mlk ZtS Zve ZtT cpy Zc2
def X9 (p12:Int) (p13:List Rng) (p14:ByteArray) (p15:Int) (p16:List Bnd) (p17:List Zc) (p18:List Zc) (p19:Bool) (moved20:Bool) (j23:Int):List Zr→Option (Int × List Rng × ByteArray × Int × List Bnd × List Zc × List Zc × Bool × Bool)
 | [] =>
 some (p12,p13,p14,p15,p16,p17,p18,p19,moved20)
 | r24::xs25 =>
 Ze (Zdb (Zh.mk (Zf.mk p12 p13 p14 p15) p16 p17 p18 p19) j23 r24) fun y27 =>
 sel (decide (y27.2=0)) (
  some (y27.1.Query.Kind,y27.1.Query.Ranges,y27.1.Query.Key,y27.1.Query.Count,y27.1.Cuts,y27.1.First,y27.1.Second,y27.1.Turned,true)) (
  X9 p12 p13 p14 p15 p16 p17 p18 p19 moved20 j23 xs25)
def YP (views2:List Zr):List Zc→Int→Int→List Rng→ByteArray→Int→List Bnd→List Zc→List Zc→Bool→Bool→Option (Int × List Rng × ByteArray × Int × List Bnd × List Zc × List Zc × Bool × Bool)
 | [],i,p12,p13,p14,p15,p16,p17,p18,p19,moved20 =>
 some (p12,p13,p14,p15,p16,p17,p18,p19,moved20)
 | r21::xs22,i,p12,p13,p14,p15,p16,p17,p18,p19,moved20 =>
 Ze (
  Ze (
   X9 p12 p13 p14 p15 p16 p17 p18 p19 moved20 i views2:Option (Int × List Rng × ByteArray × Int × List Bnd × List Zc × List Zc × Bool × Bool)) fun (p28,p29,p30,p31,p32,p33,p34,p35,moved36) =>
  some (p28,p29,p30,p31,p32,p33,p34,p35,moved36):Option (Int × List Rng × ByteArray × Int × List Bnd × List Zc × List Zc × Bool × Bool)) fun (p37,p38,p39,p40,p41,p42,p43,p44,moved45) =>
 YP views2 xs22 (i+1) p37 p38 p39 p40 p41 p42 p43 p44 moved45
def ZK (views2:List Zr):Nat→Int→List Rng→ByteArray→Int→List Bnd→List Zc→List Zc→Bool→Int→Option (Int × List Rng × ByteArray × Int × List Bnd × List Zc × List Zc × Bool)
 | 0,_,_,_,_,_,_,_,_,_=>none
 | fuel+1,p3,p4,p5,p6,p7,p8,p9,p10,n11 =>
 Ze (
  sel (decide (n11<300)) (
   some (Ctl.nxt ())) (
   some (Ctl.ret (p3,p4,p5,p6,p7,p8,p9,p10))):Option (Ctl (Int × List Rng × ByteArray × Int × List Bnd × List Zc × List Zc × Bool) Unit)) fun mu=>Yz mu fun (_:Unit) =>
 Ze (
  Ze (
   YP views2 p8 0 p3 p4 p5 p6 p7 p8 p9 p10 false:Option (Int × List Rng × ByteArray × Int × List Bnd × List Zc × List Zc × Bool × Bool)) fun (p46,p47,p48,p49,p50,p51,p52,p53,moved54) =>
  Ze (Zdc (Zh.mk (Zf.mk p46 p47 p48 p49) p50 p51 p52 p53)) fun y55 =>
  sel (decide (y55.2=0)) (
   sel (!true) (
    some (Ctl.ret (y55.1.Query.Kind,y55.1.Query.Ranges,y55.1.Query.Key,y55.1.Query.Count,y55.1.Cuts,y55.1.First,y55.1.Second,y55.1.Turned))) (
    some (Ctl.nxt (y55.1.Query.Kind,y55.1.Query.Ranges,y55.1.Query.Key,y55.1.Query.Count,y55.1.Cuts,y55.1.First,y55.1.Second,y55.1.Turned)))) (
   sel (!moved54) (
    some (Ctl.ret (p46,p47,p48,p49,p50,p51,p52,p53))) (
    some (Ctl.nxt (p46,p47,p48,p49,p50,p51,p52,p53)))):Option (Ctl (Int × List Rng × ByteArray × Int × List Bnd × List Zc × List Zc × Bool) (Int × List Rng × ByteArray × Int × List Bnd × List Zc × List Zc × Bool))) fun mu=>Yz mu fun (p56,p57,p58,p59,p60,p61,p62,p63) =>
 ZK views2 fuel p56 p57 p58 p59 p60 p61 p62 p63 (ZJ (n11+1))
def Xr (p1:Zh) (views2:List Zr):Option (Zh × Bool) :=
 Ze (
  ZK views2 FU p1.Query.Kind p1.Query.Ranges p1.Query.Key p1.Query.Count p1.Cuts p1.First p1.Second p1.Turned 0:Option (Int × List Rng × ByteArray × Int × List Bnd × List Zc × List Zc × Bool)) fun (p64,p65,p66,p67,p68,p69,p70,p71) =>
 Ze (Zbf (Zh.mk (Zf.mk p64 p65 p66 p67) p68 p69 p70 p71)) fun y72 =>
 some ((Zh.mk (Zf.mk p64 p65 p66 p67) p68 p69 p70 p71),y72)
instance Zn7 {p1} {views2}:SpO (Xr p1 views2) fun y=>Sp 37 [.a (Zh.vs p1),.d (lst Zr.ds views2)] [] (.t [.a (Zh.vs y.1),vB y.2]) []:=⟨fun hm=>by
 refine si Tryz.func37 Tryz.ntmps37 Tryz.results37 fun B w0 ρ0=>?_
 refine sr ?_
 refine sr ?_
 refine jo8 hm [2,4] [104] (fun p64 p65 p66 p67 p68 p69 p70 p71=>[]) (fun mu1 hm hm1=>?_) (fun p64 p65 p66 p67 p68 p69 p70 p71 hm=>?_) (B:=(fun p64 p65 p66 p67 p68 p69 p70 p71=>[(102,some (.box 48 (Zh.vs (Zh.mk (Zf.mk p64 p65 p66 p67) p68 p69 p70 p71))))]))
 ·refine Zm ?_
  refine ZiL (fun κ st=>∃ p3 p4 p5 p6 p7 p8 p9 p10 n11,ZK views2 κ p3 p4 p5 p6 p7 p8 p9 p10 n11=some mu1∧st=⟨[(1,.d (lst Zr.ds views2)),(2,.p 102 0),(4,.p 104 0),(6,vI n11)],[(102,some (.box 48 (Zh.vs (Zh.mk (Zf.mk p3 p4 p5 p6) p7 p8 p9 p10)))),(104,some (.box 48 [vI 0,.d (.c (.slice none 0 0)),vS ⟨#[]⟩,vI 0,.d (.c (.slice none 0 0)),.d (.c (.slice none 0 0)),.d (.c (.slice none 0 0)),vB false]))]⟩) [(102,102),(104,104)] ⟨_,_,_,_,_,_,_,_,_,hm1,rfl⟩ ?_
  rintro κ _ ⟨p3,p4,p5,p6,p7,p8,p9,p10,n11,hm1,rfl⟩
  cases κ with
  | zero=>rw [ZK.eq_1] at hm1; cases hm1
  | succ κ =>
   rw [ZK.eq_2] at hm1
   refine sr ?_
   refine jc0 hm1 [1,2,4,6] [102,104] [] (fun _ hm1 hm2=>?_) (fun hm1=>?_)
   ·refine co hm2 (fun hm2=>?_) fun hm2=>?_
    ·exact Zxu hm hm1 hm2
    exact Zvn [(102,102),(104,104)] hm hm1 hm2
   refine ss ?_
   refine Zg ?_
   refine jc8 hm1 [1,2,4,6] [104] (fun p56 p57 p58 p59 p60 p61 p62 p63=>[]) (fun mu2 hm1 hm2=>?_) (fun p56 p57 p58 p59 p60 p61 p62 p63 hm1=>?_) (B:=(fun p56 p57 p58 p59 p60 p61 p62 p63=>[(102,some (.box 48 (Zh.vs (Zh.mk (Zf.mk p56 p57 p58 p59) p60 p61 p62 p63))))]))
   ·refine sr ?_
    refine sr ?_
    obtain ⟨mu3,hm3,hm2⟩:=ZH hm2
    refine YQ (fun st=>∃ (p46:Int) (p47:List Rng) (p48:ByteArray) (p49:Int) (p50:List Bnd) (p51:List Zc) (p52:List Zc) (p53:Bool) (moved54:Bool),mu3=(p46,p47,p48,p49,p50,p51,p52,p53,moved54)∧st=⟨[(1,.d (lst Zr.ds views2)),(2,.p 102 0),(4,.p 104 0),(6,vI n11),(7,vB moved54)],[(102,some (.box 48 (Zh.vs (Zh.mk (Zf.mk p46 p47 p48 p49) p50 p51 p52 p53)))),(104,some (.box 48 [vI 0,.d (.c (.slice none 0 0)),vS ⟨#[]⟩,vI 0,.d (.c (.slice none 0 0)),.d (.c (.slice none 0 0)),.d (.c (.slice none 0 0)),vB false]))]⟩) ?_ ?_
    ·refine Zm ?_
     refine ZdE 20 rfl (fun hlenm23=>?_)
     refine ZiL (fun κ st=>∃ (m23:Nat) (p12:Int) (p13:List Rng) (p14:ByteArray) (p15:Int) (p16:List Bnd) (p17:List Zc) (p18:List Zc) (p19:Bool) (moved20:Bool),κ=p8.length - m23∧m23≤p8.length∧YP views2 (p8.drop m23) (m23:Int) p12 p13 p14 p15 p16 p17 p18 p19 moved20=some mu3∧st=⟨[(1,.d (lst Zr.ds views2)),(2,.p 102 0),(4,.p 104 0),(6,vI n11),(7,vB moved20),(21,vI (p8.length:Int)),(22,vI (m23:Int))],[(102,some (.box 48 (Zh.vs (Zh.mk (Zf.mk p12 p13 p14 p15) p16 p17 p18 p19)))),(104,some (.box 48 [vI 0,.d (.c (.slice none 0 0)),vS ⟨#[]⟩,vI 0,.d (.c (.slice none 0 0)),.d (.c (.slice none 0 0)),.d (.c (.slice none 0 0)),vB false]))]⟩) [(102,102),(104,104)] ⟨0,_,_,_,_,_,_,_,_,_,rfl,Nat.zero_le _,hm3,rfl⟩ ?_
     rintro κ _ ⟨m23,p12,p13,p14,p15,p16,p17,p18,p19,moved20,rfl,hlem23,hm3,rfl⟩
     rcases Nat.lt_or_ge m23 p8.length with hltm23 | hgem23
     ·obtain ⟨r21,hxm23,hdr⟩:=Zdw hltm23
      rw [hdr,YP.eq_2] at hm3
      refine sr ?_
      refine Zg ?_
      refine XB (Zos hltm23) rfl ?_
      refine sx ?_
      refine Zg ?_
      obtain ⟨mu4,hm4,hm3⟩:=ZH hm3
      refine YQ (fun st=>∃ (p37:Int) (p38:List Rng) (p39:ByteArray) (p40:Int) (p41:List Bnd) (p42:List Zc) (p43:List Zc) (p44:Bool) (moved45:Bool),mu4=(p37,p38,p39,p40,p41,p42,p43,p44,moved45)∧st=⟨[(1,.d (lst Zr.ds views2)),(2,.p 102 0),(4,.p 104 0),(6,vI n11),(7,vB moved45),(21,vI (p8.length:Int)),(22,vI (m23:Int))],[(102,some (.box 48 (Zh.vs (Zh.mk (Zf.mk p37 p38 p39 p40) p41 p42 p43 p44)))),(104,some (.box 48 [vI 0,.d (.c (.slice none 0 0)),vS ⟨#[]⟩,vI 0,.d (.c (.slice none 0 0)),.d (.c (.slice none 0 0)),.d (.c (.slice none 0 0)),vB false]))]⟩) ?_ ?_
      ·refine sr ?_
       refine sr ?_
       obtain ⟨mu5,hm5,hm4⟩:=ZH hm4
       refine YQ (fun st=>∃ (p28:Int) (p29:List Rng) (p30:ByteArray) (p31:Int) (p32:List Bnd) (p33:List Zc) (p34:List Zc) (p35:Bool) (moved36:Bool),mu5=(p28,p29,p30,p31,p32,p33,p34,p35,moved36)∧st=⟨[(1,.d (lst Zr.ds views2)),(2,.p 102 0),(4,.p 104 0),(6,vI n11),(7,vB moved36),(21,vI (p8.length:Int)),(22,vI (m23:Int))],[(102,some (.box 48 (Zh.vs (Zh.mk (Zf.mk p28 p29 p30 p31) p32 p33 p34 p35)))),(104,some (.box 48 [vI 0,.d (.c (.slice none 0 0)),vS ⟨#[]⟩,vI 0,.d (.c (.slice none 0 0)),.d (.c (.slice none 0 0)),.d (.c (.slice none 0 0)),vB false]))]⟩) ?_ ?_
       ·refine Zm ?_
        refine lr0 hm5 25 [1,2,4,6,7,8,21,22,25,26] [102,104] (fun m26=>[(27,vI (m26:Int))]) (fun hlenm26 m26 r24 hltm26 hxm26 hm5=>?_) (fun m26 hm5=>?_)
        ·refine bo hm5 fun y27 hm5=>?_
         refine co hm5 (fun hm5=>?_) fun hm5=>?_
         ·refine sr ?_
          refine XA ?_
          refine ss ?_
          cases hm5
          exact Zey [(102,102),(104,104)] ⟨_,_,_,_,_,_,_,_,_,rfl,rfl⟩
         refine sx ?_
         refine sr ?_
         refine ZL (ZeO hltm26 hlenm26 rfl rfl rfl) rfl rfl rfl ?_
         refine ss ?_
         exact Zbk [(102,102),(104,104)] ⟨m26+1,rfl,hltm26,hm5,rfl⟩ (by omega)
        refine XA ?_
        refine ss ?_
        cases hm5
        exact Zey [(102,102),(104,104)] ⟨_,_,_,_,_,_,_,_,_,rfl,rfl⟩
       rintro _ ⟨p28,p29,p30,p31,p32,p33,p34,p35,moved36,rfl,rfl⟩
       refine ss ?_
       cases hm4
       exact Zey [(102,102),(104,104)] ⟨_,_,_,_,_,_,_,_,_,rfl,rfl⟩
      rintro _ ⟨p37,p38,p39,p40,p41,p42,p43,p44,moved45,rfl,rfl⟩
      refine sr ?_
      refine ZL (ZeO hltm23 hlenm23 rfl rfl rfl) rfl rfl rfl ?_
      refine ss ?_
      exact Zbk [(102,102),(104,104)] ⟨m23+1,_,_,_,_,_,_,_,_,_,rfl,hltm23,hm3,rfl⟩ (by omega)
     ·rw [ZdG hgem23,YP.eq_1] at hm3
      refine sr ?_
      refine Zg ?_
      refine XD (Zor hgem23) rfl ?_
      refine XA ?_
      refine ss ?_
      cases hm3
      exact Zey [(102,102),(104,104)] ⟨_,_,_,_,_,_,_,_,_,rfl,rfl⟩
    rintro _ ⟨p46,p47,p48,p49,p50,p51,p52,p53,moved54,rfl,rfl⟩
    refine bo hm2 fun y55 hm2=>?_
    refine co hm2 (fun hm2=>?_) fun hm2=>?_
    ·refine co hm2 (fun hm2=>?_) fun hm2=>?_
     ·exact Zvn [(102,102),(104,104)] hm hm1 hm2
     exact Zvi [(102,102),(104,104)] hm hm1 hm2
    refine co hm2 (fun hm2=>?_) fun hm2=>?_
    ·exact Zvn [(102,102),(104,104)] hm hm1 hm2
    exact Zvi [(102,102),(104,104)] hm hm1 hm2
   refine sr ?_
   refine ZL (YZ rfl rfl rfl rfl) rfl rfl rfl ?_
   refine ss ?_
   exact Zbk [(102,102),(104,104)] ⟨_,_,_,_,_,_,_,_,_,hm1,rfl⟩ (Nat.lt_succ_self _)
 refine ss ?_
 refine Zg ?_
 refine Zy (id:=20) [⟨0,0,[2]⟩,⟨1,0,[2]⟩,⟨2,2,[54]⟩,⟨3,7,[4,53]⟩,⟨4,15,[55]⟩] mixed (by kernel_rfl) ?_
 exact az0 hm⟩
def Y3:List Zr→List Kv→Option (List Kv)
 | [],rows17 =>
 some rows17
 | r18::xs19,rows17 =>
 Ze (app rows17 r18.Rows) fun l21 =>
 Y3 xs19 l21
def QP (l1:List Int):Option Bool :=
 Ze (ZeV l1) fun y2 =>
 Ze (QD y2) fun y3 =>
 Ze (X3 y3.2 4) fun y4 =>
 Ze (Zbd y4.1) fun y5 =>
 Ze (X3 y4.2 4) fun y6 =>
 Ze (Zbd y6.1) fun y7 =>
 Ze (Zab y6.2 2) fun y8 =>
 Ze (ZaC y3.1 y8.1) fun y9 =>
 sel (!decide (y9.2=0)) (
  Ze (XV) fun y10 =>
  some y10) (
  Ze (Zc8 y8.2 y9.1 y5 6) fun y11 =>
  Ze (Xr y11.1 y7) fun y12 =>
  sel (!y12.2) (
   some false) (
   Ze (Zaz y12.1) fun y13 =>
   Ze (Xr y13.1 y7) fun y14 =>
   Ze (Qk y14.1) fun y15 =>
   Ze (Zay y15.1) fun y16 =>
   Ze (
    Y3 y7 []:Option (List Kv)) fun rows22 =>
   Ze (ZbO rows22 y3.1) fun y23 =>
   Ze (
    sel (!decide (y13.2=0)) (
     some true) (
     sel (!y14.2) (
      some true) (
      sel (!decide (y15.2=0)) (
       some true) (
       some (!decide (y23.2=0))))):Option Bool) fun x24 =>
   sel x24 (
    some false) (
    Ze (Zaz y14.1) fun y25 =>
    Ze (Xr y25.1 y7) fun y26 =>
    Ze (Qk y26.1) fun y27 =>
    Ze (Zay y27.1) fun y28 =>
    Ze (
     sel (!decide (y25.2=0)) (
      some true) (
      sel (!y26.2) (
       some true) (
       sel (!decide (y28.2=0)) (
        some true) (
        Ze (XM y23.1 y28.1) fun y29 =>
        some (!y29)))):Option Bool) fun x30 =>
    sel x30 (
     some false) (
     sel (decide (y16.2=0)) (
      Ze (XM y16.1 y23.1) fun y31 =>
      sel y31 (
       bnd (YE) fun y32 =>
       Ze (YO rows22 y32) fun y33 =>
       sel (decide ((y33.length:Int)=(rows22.length:Int))) (
        Ze (XV) fun y34 =>
        some y34) (
        some false)) (
       sel (decide (y16.2=11)) (
        bnd (YE) fun y35 =>
        Ze (YO rows22 y35) fun y36 =>
        sel (decide ((y36.length:Int)=(rows22.length:Int))) (
         Ze (XV) fun y37 =>
         some y37) (
         some false)) (
        some false))) (
      sel (decide (y16.2=11)) (
       bnd (YE) fun y38 =>
       Ze (YO rows22 y38) fun y39 =>
       sel (decide ((y39.length:Int)=(rows22.length:Int))) (
        Ze (XV) fun y40 =>
        some y40) (
        some false)) (
       some false))))))
theorem Zef {l1:List Int} {y:Bool} (hm:QP l1=some y):Spec Tryz.prog 8 [.d (lst dsI l1)] [] fun u h=>u=vB y∧h=[]:=by
 refine si Tryz.func8 Tryz.ntmps8 Tryz.results8 fun B w0 ρ0=>?_
 refine sr ?_
 refine sr ?_
 obtain ⟨y2,hy,hm⟩:=ZH hm
 refine ZfY (u':=.p 202601 0) (h':=[(202601,some (.box 126 (ZC.vs y2)))]) (Zli.out hy) 202600 rfl rfl rfl (by repeat (first | exact Vws.nil | apply Vws.cons | exact Vw.nil | exact Vw.d _ | exact Vw.q _ | apply Vw.a)) rfl (by (try simp only [Zfw,Option.map_some,Blk.ren,Zcf]); rfl) rfl rfl rfl rfl ?_
 refine bo hm fun y3 hm=>?_
 refine bo hm fun y4 hm=>?_
 refine bo hm fun y5 hm=>?_
 refine bo hm fun y6 hm=>?_
 refine bo hm fun y7 hm=>?_
 refine ss ?_
 refine Zg ?_
 refine Zy (id:=4) [⟨0,0,[4]⟩,⟨1,0,[3]⟩,⟨7,0,[]⟩,⟨2,2,[37]⟩,⟨3,7,[36,38]⟩,⟨4,15,[39]⟩,⟨5,31,[35]⟩,⟨6,31,[35]⟩,⟨8,191,[7,40]⟩,⟨9,511,[41]⟩] mixed (by kernel_rfl) ?_
 refine bo hm fun y8 hm=>?_
 refine bo hm fun y9 hm=>?_
 refine co hm (fun hm=>?_) fun hm=>?_
 ·exact az0 hm
 refine bo hm fun y11 hm=>?_
 refine bo hm fun y12 hm=>?_
 refine co hm (fun hm=>?_) fun hm=>?_
 ·exact YF hm
 refine bo hm fun y13 hm=>?_
 refine bo hm fun y14 hm=>?_
 refine bo hm fun y15 hm=>?_
 refine bo hm fun y16 hm=>?_
 refine sr ?_
 refine sr ?_
 refine jo1 hm [4,6,7,10,11,13,14,15] [104,107,114] (fun rows22=>[(16,.d (lst Kv.ds rows22))]) (fun _ hm hm1=>?_) (fun rows22 hm=>?_)
 ·refine Zm ?_
  refine ZbW (ZbY 16 5001 154 2 rfl rfl) ?_
  refine lr1 hm1 78 [4,6,7,10,11,13,14,15,78,79] [104,107,114] (fun m20 rows17=>[(16,.h 5001),(80,vI (m20:Int))]) (fun hlenm20 m20 rows17 r18 hltm20 hxm20 hm1=>?_) (fun m20 rows17 hm1=>?_) (B:=(fun m20 rows17=>[(5001,some (YY 154 2 Kv.ds rows17))]))
  ·refine bo hm1 fun l21 hm1=>?_
   exact Zh5 [(104,104),(107,107),(114,114),(5001,187)] hm hm1
  exact ZbU hm hm1
 refine bo hm fun y23 hm=>?_
 refine ss ?_
 refine Zg ?_
 refine Zg ?_
 refine jo1 hm [6,7,14,15,16,19] [107,114,119] (fun x24=>[(108,vB x24)]) (fun _ hm hm1=>?_) (fun x24 hm=>?_)
 ·exact az1 hm hm1
 refine co hm (fun hm=>?_) fun hm=>?_
 ·exact YF hm
 refine bo hm fun y25 hm=>?_
 refine bo hm fun y26 hm=>?_
 refine bo hm fun y27 hm=>?_
 refine bo hm fun y28 hm=>?_
 refine ss ?_
 refine Zg ?_
 refine jo1 hm [14,15,16,19] [114,119] (fun x30=>[(145,vB x30)]) (fun _ hm hm1=>?_) (fun x30 hm=>?_)
 ·exact az1 hm hm1
 exact az0 hm
end Go.Proofs.YtkcmgbbopedacaaGreatDoor
namespace Go.Proofs.YtkcmgbbopedacaaGreatDoor
open Go.RowKit
attribute [local irreducible] Tot sel bnd Ze Yz app YD lsl Zc2
def can (vs:List Zr) (w:Zc):Bool:=vs.any fun v=>decide ((Xg w v).2=0)
theorem ZsS {w:Zc} (h:Yy w=true) (vs:List Zr):can vs w=false:=by
 unfold can
 rw [List.any_eq_false]
 intro v _
 rw [ZjP h]
 decide
theorem Zmz {w:Zc} {vs:List Zr} (h:∃ v ∈ vs,(Xg w v).2=0):can vs w=true:=by
 obtain ⟨v,hv,h⟩:=h
 exact List.any_eq_true.2 ⟨v,hv,decide_eq_true h⟩
def Zn0 (p:Zh) (l:List Zc):Zh:=bif p.Turned then ⟨p.Query,p.Cuts,p.First,l,true⟩ else ⟨p.Query,p.Cuts,l,p.Second,false⟩
theorem Zss (p:Zh) (l:List Zc):prs (Zn0 p l)=l:=by
 obtain ⟨q,c,F,S,T⟩:=p
 cases T <;> rfl
theorem ZjV (p:Zh):Zn0 p (prs p)=p:=by
 obtain ⟨q,c,F,S,T⟩:=p
 cases T <;> rfl
theorem Zqp (p:Zh) (a b:List Zc):Zn0 (Zn0 p a) b=Zn0 p b:=by
 obtain ⟨q,c,F,S,T⟩:=p
 cases T <;> rfl
theorem ZuD (p:Zh) (m:Nat) (w:Zc):Zxs p m w=Zn0 p ((prs p).set m w):=by
 obtain ⟨q,c,F,S,T⟩:=p
 cases T <;> rfl
theorem ZoU {K:Nat} {p:Zh} (h:okP K p) {l:List Zc} (hl:l.length≤200) (hw:∀ w ∈ l,okW w∧w.Visits.length≤K):okP K (Zn0 p l):=by
 obtain ⟨q,c,F,S,T⟩:=p
 cases T with
 | true=>exact ⟨h.q,h.c,h.f,hl,h.fw,hw⟩
 | false=>exact ⟨h.q,h.c,hl,h.s,hw,h.sw⟩
theorem okP.len {K:Nat} {p:Zh} (h:okP K p):(prs p).length≤200:=by
 obtain ⟨q,c,F,S,T⟩:=p
 cases T with
 | true=>exact h.s
 | false=>exact h.f
abbrev Zvs (p:Zh):Int × List Rng × ByteArray × Int × List Bnd × List Zc × List Zc × Bool:=(p.Query.Kind,p.Query.Ranges,p.Query.Key,p.Query.Count,p.Cuts,p.First,p.Second,p.Turned)
abbrev Zvr (p:Zh) (m:Bool):Int × List Rng × ByteArray × Int × List Bnd × List Zc × List Zc × Bool × Bool:=(p.Query.Kind,p.Query.Ranges,p.Query.Key,p.Query.Count,p.Cuts,p.First,p.Second,p.Turned,m)
theorem ZpV {l:List Zc} {j:Nat} {w:Zc} (h:l[j]?=some w):l.set j w=l:=by
 obtain ⟨h1,rfl⟩:=List.getElem?_eq_some_iff.1 h
 exact List.set_getElem_self h1
theorem Zto {K:Nat} {p:Zh} (h:okP K p) {j:Nat} {w:Zc} (hw:(prs p)[j]?=some w) (moved:Bool):∀ l:List Zr,(∀ v ∈ l,v.Rows.length≤10000) →
   X9 p.Query.Kind p.Query.Ranges p.Query.Key p.Query.Count p.Cuts p.First p.Second p.Turned moved (j:Int) l=some (Zvr (Zn0 p ((prs p).set j (rnd l w))) (moved || can l w))
 | [],_=>by
  rw [X9,rnd,ZpV hw,ZjV]
  unfold can
  rw [List.any_nil,Bool.or_false]
 | v::l,hl=>by
  have ha:atP p (j:Int)=some w:=by unfold atP; rw [if_neg (by omega),Int.toNat_natCast]; exact hw
  have et:Zer p (j:Int) v=if (Xg w v).2=0 then (Zxs p j (Xg w v).1,0) else (PP0,(Xg w v).2):=by unfold Zer; rw [ha]; simp only [Int.toNat_natCast]
  rw [X9,show (Zh.mk (Zf.mk p.Query.Kind p.Query.Ranges p.Query.Key p.Query.Count) p.Cuts p.First p.Second p.Turned)=p from rfl,(ZhR h j v (hl v List.mem_cons_self)).1,Za,et]
  by_cases h0:(Xg w v).2=0
  ·have hc:can (v::l) w=true:=Zmz ⟨v,List.mem_cons_self,h0⟩
   rw [if_pos h0,decide_eq_true rfl,Zd,rnd,if_pos h0,← ZuD,hc,Bool.or_true]
  ·have hc:can (v::l) w=can l w:=by unfold can; rw [List.any_cons,decide_eq_false h0,Bool.false_or]
   rw [if_neg h0,decide_eq_false h0,Zb,Zto h hw moved l (fun x hx=>hl x (List.mem_cons_of_mem _ hx)),rnd,if_neg h0,hc]
theorem Zoy {w:Zc} (h:okW w) (hn:w.Visits.length≤999):∀ l:List Zr,(∀ v ∈ l,v.Rows.length≤10000)→okW (rnd l w)∧(rnd l w).Visits.length≤w.Visits.length+1
 | [],_=>⟨h,by rw [rnd]; omega⟩
 | v::l,hl=>by
  rw [rnd]
  split
  ·exact ZpK h hn v (hl v List.mem_cons_self)
  ·exact Zoy h hn l fun x hx=>hl x (List.mem_cons_of_mem _ hx)
theorem Ztf {vs:List Zr} (hv:∀ v ∈ vs,v.Rows.length≤10000) {K:Nat} (hK:K≤999):∀ (xs C A:List Zc) (p:Zh) (moved:Bool),okP K p→prs p=A++C→xs.length=C.length→(∀ w ∈ C,w.Visits.length+1≤K) →
   YP vs xs (A.length:Int) p.Query.Kind p.Query.Ranges p.Query.Key p.Query.Count p.Cuts p.First p.Second p.Turned moved=some (Zvr (Zn0 p (A++C.map (rnd vs))) (moved || C.any (can vs)))
 | [],[],A,p,moved,_,hp,_,_=>by
  rw [YP,List.map_nil,← hp,ZjV,List.any_nil,Bool.or_false]
 | [],_::_,_,_,_,_,_,h,_=>by simp at h
 | _::_,[],_,_,_,_,_,h,_=>by simp at h
 | _::xs,w::C,A,p,moved,h,hp,hl,hC=>by
  have hw:(prs p)[A.length]?=some w:=by rw [hp]; simp
  have e:(prs p).set A.length (rnd vs w)=(A++[rnd vs w])++C:=by rw [hp]; simp
  have hlen:=h.len
  have hk:=h.now w (by rw [hp]; simp)
  have h1:=hC w List.mem_cons_self
  have hr:=Zoy hk.1 (by omega) vs hv
  have h':okP K (Zn0 p ((A++[rnd vs w])++C)):=ZoU h (by rw [hp] at hlen; simp at hlen ⊢; omega) fun x hx=>by
   rcases List.mem_append.1 hx with hx | hx
   ·rcases List.mem_append.1 hx with hx | hx
    ·exact h.now x (by rw [hp]; simp [hx])
    ·rw [List.mem_singleton.1 hx]; exact ⟨hr.1,by omega⟩
   ·exact h.now x (by rw [hp]; simp [hx])
  have ih:=Ztf hv hK xs C (A++[rnd vs w]) (Zn0 p ((A++[rnd vs w])++C)) (moved || can vs w) h' (Zss _ _) (by simpa using hl) fun x hx=>hC x (List.mem_cons_of_mem _ hx)
  rw [Zqp,show ((A++[rnd vs w]).length:Int)=(A.length:Int)+1 by simp,Bool.or_assoc,List.append_assoc,List.singleton_append] at ih
  rw [YP,Zto h hw moved vs hv,e]
  simp only [Za,Zvr]
  rw [List.map_cons,List.any_cons]
  rw [List.append_assoc,List.singleton_append] at ih ⊢
  exact ih
theorem ZjE {vs:List Zr} (hv:∀ v ∈ vs,v.Rows.length≤10000) {p:Zh} (h:okP 999 p) (hvis:∀ w ∈ prs p,w.Visits.length≤900) (hlen:p.First.length=(prs p).length) (fuel r:Nat) (hr:r<300) {P:Zh} (hP:Zn0 p ((prs p).map (rnd vs))=P) :
   okP 999 P∧((Zbb P).2=0→ZK vs (fuel+1) p.Query.Kind p.Query.Ranges p.Query.Key p.Query.Count p.Cuts p.First p.Second p.Turned (r:Int)=ZK vs fuel (Zbb P).1.Query.Kind (Zbb P).1.Query.Ranges (Zbb P).1.Query.Key (Zbb P).1.Query.Count (Zbb P).1.Cuts (Zbb P).1.First (Zbb P).1.Second (Zbb P).1.Turned ((r+1:Nat):Int)) ∧
    ((Zbb P).2≠0→ZK vs (fuel+1) p.Query.Kind p.Query.Ranges p.Query.Key p.Query.Count p.Cuts p.First p.Second p.Turned (r:Int)=if (prs p).any (can vs)=true then ZK vs fuel P.Query.Kind P.Query.Ranges P.Query.Key P.Query.Count P.Cuts P.First P.Second P.Turned ((r+1:Nat):Int) else some (Zvs P)):=by
 have hl:=Ztf hv (K:=999) (Nat.le_refl _) p.First (prs p) [] p false h rfl hlen fun w hw=>by have:=hvis w hw; omega
 rw [show (([]:List Zc).length:Int)=0 from rfl,List.nil_append,hP,Bool.false_or] at hl
 have hok:okP 999 P:=by
  rw [← hP]
  refine ZoU h (by rw [List.length_map]; exact h.len) fun w hw=>?_
  obtain ⟨x,hx,rfl⟩:=List.mem_map.1 hw
  have h1:=hvis x hx
  have:=Zoy (h.now x hx).1 (by omega) vs hv
  exact ⟨this.1,by omega⟩
 have hi:ZJ ((r:Int)+1)=((r+1:Nat):Int):=by rw [ZA (by omega) (by omega)]; omega
 refine ⟨hok,fun h0=>?_,fun h0=>?_⟩
 ·rw [ZK,decide_eq_true (by omega),Zd,Za,ZB,hl]
  simp only [Za,Zvr,hi]
  rw [show (Zh.mk (Zf.mk P.Query.Kind P.Query.Ranges P.Query.Key P.Query.Count) P.Cuts P.First P.Second P.Turned)=P from rfl,(ZfL hok).1,Za,decide_eq_true h0,Zd,Bool.not_true,Zb,Za,ZB]
 ·rw [ZK,decide_eq_true (by omega),Zd,Za,ZB,hl]
  simp only [Za,Zvr,hi]
  rw [show (Zh.mk (Zf.mk P.Query.Kind P.Query.Ranges P.Query.Key P.Query.Count) P.Cuts P.First P.Second P.Turned)=P from rfl,(ZfL hok).1,Za,decide_eq_false h0,Zb]
  cases (prs p).any (can vs) with
  | true=>rw [Bool.not_true,Zb,Za,ZB,if_pos rfl]
  | false=>rw [Bool.not_false,Zd,Za,Yo,if_neg (by simp)]
theorem ZuL {q:Zf} {t:List Kv} {vs:List Zr} (htl:Tl t zb vs ZdB) {n:Nat} {ws:List Zc} (h:CI q n ws) {w:Zc} (hw:w ∈ ws) (hd:Yy w=false):ws.any (can vs)=true :=
 List.any_eq_true.2 ⟨w,hw,Zmz (Zjp htl hd fun r hr=>h.gd.ne r (List.mem_flatMap.2 ⟨w,hw,hr⟩))⟩
theorem ZgO {q:Zf} {t:List Kv} {vs:List Zr} (htl:Tl t zb vs ZdB) (hv:∀ v ∈ vs,v.Rows.length≤10000) {n:Nat} (hn:n≤900) {ws:List Zc} (h:CI q n ws) (hvol:vol vs ws≤n) {m:Nat} (hm:Zks vs m ws):(∀ w ∈ ws,Yy w=true)∨∃ m',m=m' + 1∧Zks vs m' (ws.map (rnd vs))∧ws.any (can vs)=true:=by
 by_cases hd:∀ w ∈ ws,Yy w=true
 ·exact .inl hd
 ·right
  obtain ⟨-,-,h3⟩:=h.rounds htl hv (by omega) hvol
  have hx:∃ w ∈ ws,Yy w=false:=Classical.byContradiction fun hh=>hd fun w hw=>by
   cases hd2:Yy w with
   | true=>rfl
   | false=>exact absurd ⟨w,hw,hd2⟩ hh
  obtain ⟨w,hw,hdw⟩:=hx
  have h4:Zeq vs (rnd vs w).Todo<Zeq vs w.Todo:=(h3 w hw).1.resolve_left (by simp [hdw])
  have h5:Zeq vs w.Todo≤m:=(hm w hw).resolve_left (by simp [hdw])
  obtain ⟨m',rfl⟩:∃ m',m=m' + 1:=⟨m - 1,by omega⟩
  refine ⟨m',rfl,fun x hx=>?_,ZuL htl h hw hdw⟩
  obtain ⟨y,hy,rfl⟩:=List.mem_map.1 hx
  cases hdy:Yy y with
  | true=>left; rw [Zd1 hdy]; exact hdy
  | false =>
   right
   have h6:=(h3 y hy).1.resolve_left (by simp [hdy])
   have h7:=(hm y hy).resolve_left (by simp [hdy])
   omega
theorem CI.le900 {q:Zf} {n:Nat} {ws:List Zc} (h:CI q n ws) (hn:n≤900):∀ w ∈ ws,w.Visits.length≤900:=fun w hw=>by
 have:=Ze2 hw
 have:=h.vis
 omega
theorem Zxr {q:Zf} {t:List Kv} {vs:List Zr} (htl:Tl t zb vs ZdB) (hv:∀ v ∈ vs,v.Rows.length≤10000) {n:Nat} (hn:n≤900):∀ (m fuel r:Nat) (q0:Zf) (c:List Bnd) (F S:List Zc),okP 999 ⟨q0,c,F,S,true⟩→F.length=S.length→CI q n S→vol vs S≤n→Zks vs m S→r+m≤298→m+1<fuel →
   ZK vs fuel q0.Kind q0.Ranges q0.Key q0.Count c F S true (r:Int)=some (Zvs ⟨q0,c,F,S.map (ZdC vs m),true⟩)
 | _,0,_,_,_,_,_,_,_,_,_,_,_,h=>by omega
 | m,fuel+1,r,q0,c,F,S,h,hl,hci,hvol,hm,hr,hf=>by
  have hnt:∀ L:List Zc,(Zbb ⟨q0,c,F,L,true⟩).2≠0:=fun L=>by show (7:Int)≠0; decide
  obtain ⟨g1,-,g3⟩:=ZjE hv h (hci.le900 hn) hl fuel r (by omega) (P:=⟨q0,c,F,S.map (rnd vs),true⟩) rfl
  have g3:=g3 (hnt _)
  simp only at g3
  rw [g3]
  show (if S.any (can vs)=true then _ else _)=_
  rcases ZgO htl hv hn hci hvol hm with hd | ⟨m',rfl,hm',hany⟩
  ·have:S.any (can vs)=false:=by
     rw [List.any_eq_false]
     intro w hw
     rw [ZsS (hd w hw)]
     decide
   rw [if_neg (by simp [this]),ZiC hd,ZgR hd]
  ·obtain ⟨i1,i2,-⟩:=hci.rounds htl hv (by omega) hvol
   rw [if_pos hany,← Zgk]
   exact Zxr htl hv hn m' fuel (r+1) q0 c F (S.map (rnd vs)) g1 (by rw [List.length_map]; exact hl) i1 i2 hm' (by omega) (by omega)
theorem ZsB {vs:List Zr} {ws:List Zc} (hd:∀ w ∈ ws.map (rnd vs),Yy w=true):∀ m:Nat,(m=0→∀ w ∈ ws,Yy w=true)→ws.map (ZdC vs m)=ws.map (rnd vs)
 | 0,h=>by rw [ZiC (h rfl),ZgR (h rfl)]
 | m+1,_=>by rw [← Zgk,ZiC hd]
theorem Zzq {q:Zf} {t:List Kv} {vs:List Zr} (htl:Tl t zb vs ZdB) (hv:∀ v ∈ vs,v.Rows.length≤10000) {n n2:Nat} (hn:n≤900) (hn2:n2≤900) (m2:Nat) (q0:Zf) (c:List Bnd) (S:List Zc) (hS:CI q n2 S) (hvS:vol vs S≤n2) (hmS:Zks vs m2 S):∀ (m fuel r:Nat) (F:List Zc),okP 999 ⟨q0,c,F,S,false⟩→F.length=S.length→CI q n F→vol vs F≤n→Zks vs m F→r+m+m2≤297→m+m2+2<fuel →
   ZK vs fuel q0.Kind q0.Ranges q0.Key q0.Count c F S false (r:Int)=some (Zvs ⟨q0,c,F.map (ZdC vs m),S.map (ZdC vs m2),true⟩)
 | _,0,_,_,_,_,_,_,_,_,h=>by omega
 | m,fuel+1,r,F,h,hl,hci,hvol,hm,hr,hf=>by
  obtain ⟨g1,g2,g3⟩:=ZjE hv h (hci.le900 hn) rfl fuel r (by omega) (P:=⟨q0,c,F.map (rnd vs),S,false⟩) rfl
  obtain ⟨i1,i2,-⟩:=hci.rounds htl hv (by omega) hvol
  have hls:(F.map (rnd vs)).length=S.length:=by rw [List.length_map]; exact hl
  cases hall:(F.map (rnd vs)).all Yy with
  | true =>
   have hd:∀ w ∈ F.map (rnd vs),Yy w=true:=fun w hw=>List.all_eq_true.1 hall w hw
   have et:Zbb ⟨q0,c,F.map (rnd vs),S,false⟩=(⟨q0,c,F.map (rnd vs),S,true⟩,0):=by
    unfold Zbb
    simp only [hall,Bool.not_true,Bool.or_false]
    rfl
   rw [et] at g2
   have g2:=g2 rfl
   simp only at g2
   rw [g2,Zxr htl hv hn2 m2 fuel (r+1) q0 c (F.map (rnd vs)) S ⟨g1.q,g1.c,g1.f,g1.s,g1.fw,g1.sw⟩ hls hS hvS hmS (by omega) (by omega)]
   rw [ZsB hd m fun h0 w hw=>by
    subst h0
    rcases ZgO htl hv hn hci hvol hm with hd0 | ⟨m',h0,-⟩
    ·exact hd0 w hw
    ·cases h0]
  | false =>
   have hnt:(Zbb ⟨q0,c,F.map (rnd vs),S,false⟩).2≠0:=by
    unfold Zbb
    simp only [hall,Bool.not_false,Bool.or_true]
    show (7:Int)≠0
    decide
   have g3:=g3 hnt
   simp only at g3
   rw [g3]
   show (if F.any (can vs)=true then _ else _)=_
   rcases ZgO htl hv hn hci hvol hm with hd | ⟨m',rfl,hm',hany⟩
   ·rw [ZgR hd,List.all_eq_true.2 hd] at hall; cases hall
   ·rw [if_pos hany,← Zgk]
    exact Zzq htl hv hn hn2 m2 q0 c S hS hvS hmS m' fuel (r+1) (F.map (rnd vs)) g1 hls i1 i2 hm' (by omega) (by omega)
theorem Ziw {p:Zh} {vs:List Zr} (h:okP 999 p) (hT:p.Turned=true) (hd:∀ w ∈ p.Second,Yy w=true) {x:Zh} (e:ZK vs FU x.Query.Kind x.Query.Ranges x.Query.Key x.Query.Count x.Cuts x.First x.Second x.Turned 0=some (Zvs p)):Xr x vs=some (p,true):=by
 unfold Xr
 rw [e]
 simp only [Za,Zvs]
 rw [show (Zh.mk (Zf.mk p.Query.Kind p.Query.Ranges p.Query.Key p.Query.Count) p.Cuts p.First p.Second p.Turned)=p from rfl,(ZeH h).1,Za]
 have:Zgc p=true:=by unfold Zgc; rw [hT,List.all_eq_true.2 hd]; rfl
 rw [this]
theorem CI.ok999 {q:Zf} {n:Nat} {ws:List Zc} (h:CI q n ws) (hn:n≤900):∀ w ∈ ws,okW w∧w.Visits.length≤999:=fun w hw=>⟨(h.wi w hw).ok,by have:=h.le900 hn w hw; omega⟩
theorem Zh0 {q:Zf} (hq:qok q) {n n2:Nat} (hn:n≤900) (hn2:n2≤900) {F S:List Zc} (hF:CI q n F) (hS:CI q n2 S) (hk:(q.Kind=1∨q.Kind=2)∨F.length≤1) (hl:F.length=S.length) (hdF:∀ w ∈ F,Yy w=true) (hdS:∀ w ∈ S,Yy w=true) :
   ∃ a,Zay ⟨q,QW F,QW S⟩=some (a,if X8 (QW F) (QW S)=true then 0 else 11)∧(X8 (QW F) (QW S)=true→a.Rows=qtk q.Kind q.Count (YH (QW F))∧ZaM a.Rows=some a.Fold):=by
 have g4:=hq.2.1
 have okc:∀ {m:Nat} {ws:List Zc},m≤900→CI q m ws→okC (QW ws):=fun hm h=>⟨by have:=h.vis; omega,(Ziq (h.ok999 hm)).2⟩
 obtain ⟨a,-,e1,e2⟩:=Zsm ⟨q,QW F,QW S⟩ (by simp only; omega) (okc hn hF) (okc hn2 hS)
 obtain ⟨t1,-⟩:=hF.tiled hq.1 hk hdF
 obtain ⟨t2,-⟩:=hS.tiled hq.1 (hk.imp_right fun h=>by omega) hdS
 have e0:ZhE ⟨q,QW F,QW S⟩=if X8 (QW F) (QW S)=true then 0 else 11:=by
  unfold ZhE
  simp only
  rw [t1,t2,if_neg (by simp),if_neg (by simp)]
 rw [e0] at e1 e2
 exact ⟨a,e1,fun h=>e2 (by rw [if_pos h])⟩
theorem ZsN {q:Zf} (hq:qok q) {zs:List (List Rng)} {cs:List Bnd} (hc:cs.length≤3) (hf:zs.flatten=Zeg cs (qrg q)) (hz:∀ z ∈ zs,z.length≤128):CI q 0 (zs.map (mkw q))∧ZhC (zs.map (mkw q))≤7∧∀ t,∀ w ∈ zs.map (mkw q),RI t w:=by
 have h4:=Zsi hq
 have h5:=ZiE cs (qrg q) (ZdL q)
 obtain ⟨i1,i2⟩:=Zk0 cs (qrg q) (ZdL q)
 obtain ⟨i3,i4⟩:=ZiJ cs (qrg q)
 have hpt:∀ l:List (List Rng),(l.map (mkw q)).flatMap YR=l.flatten∧ZhC (l.map (mkw q))=l.flatten.length∧QW (l.map (mkw q))=[]:=fun l=>by
  induction l with
  | nil=>exact ⟨rfl,rfl,rfl⟩
  | cons z l ih =>
   obtain ⟨j1,j2,j3⟩:=ih
   have e:YR (mkw q z)=z:=by unfold YR; split <;> simp
   rw [List.map_cons,List.flatMap_cons,ZhC,ZcI,j1,j2,j3,e,List.flatten_cons,List.length_append]
   exact ⟨rfl,rfl,rfl⟩
 obtain ⟨j1,j2,j3⟩:=hpt zs
 rw [hf] at j1 j2
 refine ⟨⟨fun w hw=>⟨ZtH (by have:=hq.2.1; omega) hz w hw,?_,?_⟩,?_,by omega,by rw [j3]; simp⟩,by omega,fun t w hw=>?_⟩
 ·obtain ⟨z,-,rfl⟩:=List.mem_map.1 hw; rfl
 ·obtain ⟨z,-,rfl⟩:=List.mem_map.1 hw; intro u hu; simp at hu
 ·rw [j1]
  refine ⟨i3,i2,fun b hb=>?_⟩
  rw [i4 b hb,Zbu (ZdL q).ne]
 ·obtain ⟨z,-,rfl⟩:=List.mem_map.1 hw
  intro u hu; simp at hu
end Go.Proofs.YtkcmgbbopedacaaGreatDoor
