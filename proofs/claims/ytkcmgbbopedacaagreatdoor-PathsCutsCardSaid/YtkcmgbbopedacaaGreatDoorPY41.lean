/-
  Lemmas: The law PathsCuts holds of its model.
-/
import Derived.Test.YtkcmgbbopedacaaGreatDoorPY40
import Derived.Test.YtkcmgbbopedacaaGreatDoorPY18
import Derived.Test.YtkcmgbbopedacaaGreatDoorPY39
import Derived.Test.YtkcmgbbopedacaaGreatDoorPY21
set_option linter.unusedSimpArgs false
set_option linter.unusedVariables false
namespace Go.Proofs.YtkcmgbbopedacaaGreatDoor
open Go.RowKit
structure WI (q:Zg) (w:Zc):Prop where
 ok:okW w
 qe:w.Query=q
 vi:VI w
theorem ZpZ {A C:List Rng} {w:Zc} {m:List Rng} (g:Gd (A++YJ w++C) m) {v:Zt} (hv:XU v=true) (hd:Yy w=false) (hm:ZbN (Xb w.Query) (Zcm (Xb w.Query) w.Todo) v.Interval=false) :
   Gd (A++YJ (stepW w v (Zcm (Xb w.Query) w.Todo) (Yo v.Interval (Zcm (Xb w.Query) w.Todo)))++C) m:=by
 have ht:=ZcV hd
 have hi:=Zgy hv
 cases hq:Xb w.Query with
 | true =>
  obtain ⟨i,x,e2⟩:=Zei ht
  have ew:Zcm true w.Todo=x:=by rw [Zcm,if_pos rfl,e2,List.getLast?_concat]; rfl
  rw [hq] at hm
  rw [ew] at hm ⊢
  unfold YJ at g
  rw [if_pos hq,e2] at g
  have hx:emp x=false:=g.ne x (by simp)
  obtain ⟨k1,k2⟩:=ZoR hm
  obtain ⟨h,e,j1,j2,j3⟩:=ZlD hi hx k1 k2
  rw [e]
  have g':Gd ((A++i)++x::(w.Visits.map (·.Part)++C)) m:=by simpa using g
  have:=g'.repl (Zv4 hx j1 j2 j3)
  unfold stepW
  rw [if_pos hq]
  unfold YJ
  simp only
  rw [if_pos hq,e2,List.dropLast_concat]
  simpa [ZbO] using this
 | false =>
  obtain ⟨x,t,e2⟩:=Zek ht
  have ew:Zcm false w.Todo=x:=by rw [Zcm,if_neg (by simp),e2]; rfl
  rw [hq] at hm
  rw [ew] at hm ⊢
  unfold YJ at g
  rw [if_neg (by simp [hq]),e2] at g
  have hx:emp x=false:=g.ne x (by simp)
  obtain ⟨k1,k2⟩:=ZoU hm
  obtain ⟨h,e,j1,j2,j3⟩:=Zmq hi hx k1 k2
  rw [e]
  have g':Gd ((A++w.Visits.map (·.Part))++x::(t++C)) m:=by simpa using g
  have:=g'.repl (Zwh hx j1 j2 j3)
  unfold stepW
  rw [if_neg (by simp [hq])]
  unfold YJ
  simp only
  rw [if_neg (by simp [hq]),e2,List.tail_cons]
  simpa [ZbO] using this
theorem Zmu {w:Zc} (h:Yy w=false):Zcm (Xb w.Query) w.Todo ∈ YJ w:=by
 have h0:=ZcV h
 have hmem:Zcm (Xb w.Query) w.Todo ∈ w.Todo:=by
  cases Xb w.Query with
  | true =>
   obtain ⟨i,x,e2⟩:=Zei h0
   rw [e2,Zcm,if_pos rfl,List.getLast?_concat]; simp
  | false =>
   obtain ⟨x,l,e2⟩:=Zek h0
   rw [e2,Zcm,if_neg (by simp)]; simp
 unfold YJ
 split
 ·exact List.mem_append_left _ hmem
 ·exact List.mem_append_right _ hmem
theorem Zjb {w:Zc} (h:Yy w=true) (v:Zt):Xr w v=(W0,7):=by
 unfold Xr XL
 rw [h]; rfl
theorem Zjc {q:Zg} {A C:List Rng} {w:Zc} {m:List Rng} (g:Gd (A++YJ w++C) m) (hw:WI q w) (hn:w.Visits.length≤999) {v:Zt} (hr:v.Rows.length≤10000) (h0:(Xr w v).2=0) :
   WI q (Xr w v).1∧Gd (A++YJ (Xr w v).1++C) m∧(Xr w v).1.Visits.length=w.Visits.length+1∧(Xr w v).1.Todo.length≤w.Todo.length∧(∀ t,RI t w→(v.Rows=t.filter fun x=>contains v.Interval x.key)→RI t (Xr w v).1)∧∀ vs:List Zt,(∀ u ∈ vs,emp u.Interval=false)→v ∈ vs→Zed vs (Xr w v).1.Todo<Zed vs w.Todo:=by
 have h1:(XL w).2=true:=by
  cases hh:(XL w).2 with
  | true=>rfl
  | false=>unfold Xr at h0; rw [if_pos hh] at h0; exact absurd h0 (by decide)
 have hv:XU v=true:=by
  cases hh:XU v with
  | true=>rfl
  | false=>unfold Xr at h0; rw [if_neg (by simp [h1]),if_pos hh] at h0; exact absurd h0 (by decide)
 have hd:=Zfi h1
 have e1:=Zls h1
 rcases Zma h1 hv with h | ⟨hm,e⟩
 ·rw [h] at h0; exact absurd h0 (by decide)
 have hx:emp (XL w).1=false:=by
  rw [e1]
  exact g.ne _ (by simp [Zmu hd])
 have hwx:XL w=((XL w).1,true):=Prod.ext rfl h1
 have sc:=Zmm (vs:=[v]) (fun u hu=>by rw [List.mem_singleton.1 hu]; exact Zgy hv) hx hwx List.mem_cons_self hm
 have so:=step_ok hw.ok hn v hr (ZcV hd) (XL w).1 (Yo v.Interval (XL w).1)
 rw [e]
 dsimp only
 refine ⟨⟨so.1,by rw [ZuD]; exact hw.qe,hw.vi.step hv (ZrI sc.2)⟩,?_,so.2.1,so.2.2,fun t h h'=>h.step h' _,fun vs hne hv=>(Zmm hne hx hwx hv hm).1⟩
 rw [e1] at hm ⊢
 exact ZpZ g hv hd hm
def rnd:List Zt→Zc→Zc
 | [],w=>w
 | v::l,w=>if (Xr w v).2=0 then (Xr w v).1 else rnd l w
theorem ZdU {w:Zc} (h:Yy w=true):∀ l:List Zt,rnd l w=w
 | []=>rfl
 | v::l=>by rw [rnd,Zjb h,if_neg (by decide),ZdU h l]
theorem ZlJ {w:Zc}:∀ l:List Zt,(∃ v ∈ l,(Xr w v).2=0)→∃ v ∈ l,(Xr w v).2=0∧rnd l w=(Xr w v).1
 | [],⟨v,hv,_⟩=>by simp at hv
 | v::l,⟨u,hu,h⟩=>by
  rw [rnd]
  by_cases h1:(Xr w v).2=0
  ·exact ⟨v,List.mem_cons_self,h1,by rw [if_pos h1]⟩
  ·rw [if_neg h1]
   rcases List.mem_cons.1 hu with rfl | hu
   ·exact absurd h h1
   ·obtain ⟨z,hz,g⟩:=ZlJ l ⟨u,hu,h⟩
    exact ⟨z,List.mem_cons_of_mem _ hz,g⟩
theorem Zi7 {t:List Kv} {vs:List Zt} (h:Tl t zb vs Zdr) {w:Zc} (hd:Yy w=false) (hne:∀ r ∈ YJ w,emp r=false):∃ v ∈ vs,(Xr w v).2=0:=by
 have hx:=hne _ (Zmu hd)
 obtain ⟨v,hv,hm⟩:=ZpI h hx (Xb w.Query)
 have e:XL w=(Zcm (Xb w.Query) w.Todo,true):=by unfold XL; rw [hd]; rfl
 refine ⟨v,hv,?_⟩
 rcases Zma (w:=w) (by rw [e]) (h.mem v hv).1 with h1 | ⟨-,h1⟩
 ·unfold Xr at h1
  rw [e,(h.mem v hv).1] at h1
  simp only [hm] at h1
  have:=congrArg Prod.snd h1
  simp at this
 ·rw [h1]
def Zhi:List Zc→Nat
 | []=>0
 | w::l=>w.Todo.length+Zhi l
theorem Zig:∀ a b:List Zc,Zhi (a++b)=Zhi a+Zhi b
 | [],b=>by simp [Zhi]
 | w::a,b=>by rw [List.cons_append,Zhi,Zhi,Zig a b]; omega
theorem ZlI (a b:List Zc):Zat (a++b)=Zat a++Zat b:=by simp [Zat]
theorem ZcB (w:Zc) (l:List Zc):Zat (w::l)=w.Visits++Zat l:=by simp [Zat]
theorem ZfZ:∀ {l:List Zc} {w:Zc},w ∈ l→w.Visits.length≤(Zat l).length
 | x::l,w,h=>by
  rw [ZcB,List.length_append]
  rcases List.mem_cons.1 h with rfl | h
  ·omega
  ·have:=ZfZ h; omega
def vol (vs:List Zt):List Zc→Nat
 | []=>0
 | w::l=>w.Visits.length+Zed vs w.Todo+vol vs l
theorem Zl6 (vs:List Zt):∀ l:List Zc,(Zat l).length≤vol vs l
 | []=>by simp [Zat]
 | w::l=>by have:=Zl6 vs l; rw [ZcB,List.length_append,vol]; omega
theorem Zs1 (vs:List Zt):∀ l:List Zc,vol vs l≤(Zat l).length+Zhi l * vs.length
 | []=>by simp [vol]
 | w::l=>by
  have h1:=Zs1 vs l
  have h2:=ZoW vs w.Todo
  rw [ZcB,List.length_append,vol,Zhi,Nat.add_mul]; omega
structure CI (q:Zg) (n:Nat) (ws:List Zc):Prop where
 wi:∀ w ∈ ws,WI q w
 gd:Gd (ws.flatMap YJ) (qrg q)
 tod:Zhi ws≤20
 vis:(Zat ws).length≤n
theorem CI.mono {q:Zg} {n n':Nat} {ws:List Zc} (h:CI q n ws) (hn:n≤n'):CI q n' ws:=⟨h.wi,h.gd,h.tod,Nat.le_trans h.vis hn⟩
theorem ZeO (A C:List Zc) (w:Zc):(A++w::C).flatMap YJ=A.flatMap YJ++YJ w++C.flatMap YJ:=by simp
theorem CI.one {q:Zg} {n:Nat} {A C:List Zc} {w:Zc} (h:CI q n (A++w::C)) (hn:n≤998) {v:Zt} (hr:v.Rows.length≤10000) (h0:(Xr w v).2=0):CI q (n+1) (A++(Xr w v).1::C):=by
 have g:=h.gd
 rw [ZeO] at g
 have hw:=h.wi w (by simp)
 have h1:=h.vis
 have h2:=h.tod
 have h3:=ZfZ (l:=A++w::C) (w:=w) (by simp)
 obtain ⟨a1,a2,a3,a4,-⟩:=Zjc g hw (by omega) hr h0
 rw [ZlI,ZcB] at h1
 rw [Zig,Zhi] at h2
 simp only [List.length_append] at h1
 refine ⟨fun x hx=>?_,by rw [ZeO]; exact a2,by rw [Zig,Zhi]; omega,by rw [ZlI,ZcB]; simp only [List.length_append]; omega⟩
 rcases List.mem_append.1 hx with hx | hx
 ·exact h.wi x (by simp [hx])
 ·rcases List.mem_cons.1 hx with rfl | hx
  ·exact a1
  ·exact h.wi x (by simp [hx])
theorem ZjB {q:Zg} {t:List Kv} {vs:List Zt} (htl:Tl t zb vs Zdr) (hr:∀ v ∈ vs,v.Rows.length≤10000):∀ (C A:List Zc),(∀ w ∈ A,WI q w)→(∀ w ∈ C,WI q w∧w.Visits.length≤999)→Gd ((A++C).flatMap YJ) (qrg q) →
   (∀ w ∈ A++C.map (rnd vs),WI q w)∧Gd ((A++C.map (rnd vs)).flatMap YJ) (qrg q)∧Zhi (C.map (rnd vs))≤Zhi C∧vol vs (C.map (rnd vs))≤vol vs C∧∀ w ∈ C,(Yy w=true∨Zed vs (rnd vs w).Todo<Zed vs w.Todo)∧(RI t w→RI t (rnd vs w))
 | [],A,hA,_,g=>⟨by simpa using hA,by simpa using g,Nat.le_refl _,Nat.le_refl _,by simp⟩
 | w::C,A,hA,hC,g=>by
  rw [ZeO] at g
  have hw:=hC w List.mem_cons_self
  have hne:∀ u ∈ vs,emp u.Interval=false:=fun u hu=>(htl.mem u hu).2.2
  have key:WI q (rnd vs w)∧(rnd vs w).Visits.length+Zed vs (rnd vs w).Todo≤w.Visits.length+Zed vs w.Todo∧(rnd vs w).Todo.length≤w.Todo.length∧Gd (A.flatMap YJ++YJ (rnd vs w)++C.flatMap YJ) (qrg q)∧(Yy w=true∨Zed vs (rnd vs w).Todo<Zed vs w.Todo)∧(RI t w→RI t (rnd vs w)):=by
   cases hd:Yy w with
   | true =>
    rw [ZdU hd]
    exact ⟨hw.1,Nat.le_refl _,Nat.le_refl _,g,.inl rfl,fun h=>h⟩
   | false =>
    obtain ⟨v,hv,h0,e⟩:=ZlJ vs (Zi7 htl hd fun r hr=>g.ne r (by simp [hr]))
    obtain ⟨a1,a2,a3,a4,a5,a6⟩:=Zjc g hw.1 hw.2 (hr v hv) h0
    have a7:=a6 vs hne hv
    rw [e]
    exact ⟨a1,by omega,a4,a2,.inr a7,fun h=>a5 t h (htl.mem v hv).2.1⟩
  obtain ⟨k1,k2,k3,k4,k5,k6⟩:=key
  obtain ⟨i1,i2,i3,i4,i5⟩:=ZjB htl hr C (A++[rnd vs w]) (fun x hx=>by
   rcases List.mem_append.1 hx with hx | hx
   ·exact hA x hx
   ·rw [List.mem_singleton.1 hx]; exact k1) (fun x hx=>hC x (List.mem_cons_of_mem _ hx)) (by rw [List.append_assoc,List.singleton_append,ZeO]; exact k4)
  rw [List.append_assoc,List.singleton_append] at i1 i2
  refine ⟨i1,i2,by rw [List.map_cons,Zhi,Zhi]; omega,by rw [List.map_cons,vol,vol]; omega,fun x hx=>?_⟩
  rcases List.mem_cons.1 hx with rfl | hx
  ·exact ⟨k5,k6⟩
  ·exact i5 x hx
theorem CI.rounds {q:Zg} {t:List Kv} {vs:List Zt} (htl:Tl t zb vs Zdr) (hr:∀ v ∈ vs,v.Rows.length≤10000) {n:Nat} (hn:n≤999) {ws:List Zc} (h:CI q n ws) (hv:vol vs ws≤n):CI q n (ws.map (rnd vs))∧vol vs (ws.map (rnd vs))≤n∧∀ w ∈ ws,(Yy w=true∨Zed vs (rnd vs w).Todo<Zed vs w.Todo)∧(RI t w→RI t (rnd vs w)):=by
 have h1:=h.tod
 have h2:=h.vis
 obtain ⟨i1,i2,i3,i4,i5⟩:=ZjB htl hr ws [] (by simp) (fun w hw=>⟨h.wi w hw,by have:=ZfZ hw; omega⟩) (by simpa using h.gd)
 rw [List.nil_append] at i1 i2
 have h3:=Zl6 vs (ws.map (rnd vs))
 exact ⟨⟨i1,i2,by omega,by omega⟩,by omega,i5⟩
def ZfB (vs:List Zt):Nat→Zc→Zc
 | 0,w=>w
 | n+1,w=>ZfB vs n (rnd vs w)
theorem Zjl {vs:List Zt} {w:Zc} (h:Yy w=true):∀ n,ZfB vs n w=w
 | 0=>rfl
 | n+1=>by rw [ZfB,ZdU h,Zjl h n]
theorem Zf0 (vs:List Zt) (n:Nat) (ws:List Zc):(ws.map (rnd vs)).map (ZfB vs n)=ws.map (ZfB vs (n+1)):=by
 rw [List.map_map]; rfl
theorem Zip {vs:List Zt} {ws:List Zc} (h:∀ w ∈ ws,Yy w=true) (n:Nat):ws.map (ZfB vs n)=ws:=by
 rw [List.map_congr_left (g:=id) fun w hw=>Zjl (h w hw) n,List.map_id]
theorem ZgG {vs:List Zt} {ws:List Zc} (h:∀ w ∈ ws,Yy w=true):ws.map (rnd vs)=ws:=by
 rw [List.map_congr_left (g:=id) fun w hw=>ZdU (h w hw) vs,List.map_id]
def Zkd (vs:List Zt) (m:Nat) (ws:List Zc):Prop:=∀ w ∈ ws,Yy w=true∨Zed vs w.Todo≤m
theorem CI.near {q:Zg} {n:Nat} {ws:List Zc} {vs:List Zt} (hv:vol vs ws≤n):Zkd vs n ws:=fun w hw=>.inr (by
 have key:∀ l:List Zc,w ∈ l→Zed vs w.Todo≤vol vs l:=fun l=>by
  induction l with
  | nil=>intro h; simp at h
  | cons x l ih =>
   intro h
   rw [vol]
   rcases List.mem_cons.1 h with rfl | h
   ·omega
   ·have:=ih h; omega
 have:=key ws hw
 omega)
theorem CI.run {q:Zg} {t:List Kv} {vs:List Zt} (htl:Tl t zb vs Zdr) (hr:∀ v ∈ vs,v.Rows.length≤10000) {n:Nat} (hn:n≤999):∀ (m:Nat) {ws:List Zc},CI q n ws→vol vs ws≤n→Zkd vs m ws→CI q n (ws.map (ZfB vs m))∧vol vs (ws.map (ZfB vs m))≤n∧(∀ w ∈ ws.map (ZfB vs m),Yy w=true)∧((∀ w ∈ ws,RI t w)→∀ w ∈ ws.map (ZfB vs m),RI t w)
 | 0,ws,h,hv,hm=>by
  have e:ws.map (ZfB vs 0)=ws:=(List.map_congr_left (g:=id) fun w _=>(by rw [ZfB]; rfl)).trans (List.map_id ws)
  obtain ⟨-,-,h3⟩:=h.rounds htl hr hn hv
  rw [e]
  refine ⟨h,hv,fun w hw=>?_,fun h=>h⟩
  rcases hm w hw with h1 | h1
  ·exact h1
  ·rcases (h3 w hw).1 with h2 | h2
   ·exact h2
   ·omega
 | m+1,ws,h,hv,hm=>by
  obtain ⟨h1,h2,h3⟩:=h.rounds htl hr hn hv
  rw [← Zf0]
  obtain ⟨g1,g2,g3,g4⟩:=CI.run htl hr hn m h1 h2 fun w hw=>by
   obtain ⟨x,hx,rfl⟩:=List.mem_map.1 hw
   cases hd:Yy x with
   | true=>left; rw [ZdU hd]; exact hd
   | false =>
    right
    rcases (h3 x hx).1 with k | k
    ·rw [hd] at k; cases k
    ·rcases hm x hx with k2 | k2
     ·rw [hd] at k2; cases k2
     ·omega
  refine ⟨g1,g2,g3,fun hri=>g4 fun w hw=>?_⟩
  obtain ⟨x,hx,rfl⟩:=List.mem_map.1 hw
  exact (h3 x hx).2 (hri x hx)
theorem CI.merged {q:Zg} {n:Nat} {ws:List Zc} (h:CI q n ws) (hk:(q.Kind=1∨q.Kind=2)∨ws.length≤1) (hd:∀ w ∈ ws,Yy w=true):∃ W:Zc,W.Query=q∧W.Visits=Zat ws∧Yy W=true∧VI W∧Gd (YJ W) (qrg q)∧∀ t,(∀ w ∈ ws,RI t w)→RI t W:=by
 have two:ws.length≤1→∃ W:Zc,W.Query=q∧W.Visits=Zat ws∧Yy W=true∧VI W∧Gd (YJ W) (qrg q)∧∀ t,(∀ w ∈ ws,RI t w)→RI t W:=fun hl=>by
  cases ws with
  | nil =>
   refine ⟨⟨q,[],[]⟩,rfl,rfl,rfl,fun u hu=>by simp at hu,?_,fun t _ u hu=>by simp at hu⟩
   have:=h.gd
   unfold YJ
   simpa using this
  | cons w l =>
   cases l with
   | nil =>
    have hw:=h.wi w (by simp)
    have:=h.gd
    exact ⟨w,hw.qe,by simp [Zat],hd w (by simp),hw.vi,by simpa using this,fun t ht=>ht w (by simp)⟩
   | cons x l=>simp at hl
 rcases hk with hk | hk
 ·have hdn:Xb q=false:=decide_eq_false (by omega)
  have hT:∀ w ∈ ws,w.Todo=[]:=fun w hw=>by
   have h1:=hd w hw
   have h2:=(h.wi w hw).qe
   unfold Yy enough at h1
   rw [h2,decide_eq_false (by omega),decide_eq_false (by omega)] at h1
   simpa using h1
  have hp:∀ l:List Zc,(∀ w ∈ l,w ∈ ws)→l.flatMap YJ=(Zat l).map (·.Part):=fun l=>by
   induction l with
   | nil=>intro _; rfl
   | cons w l ih =>
    intro hl
    have h2:=(h.wi w (hl w List.mem_cons_self)).qe
    have e:YJ w=w.Visits.map (·.Part):=by
     unfold YJ
     rw [h2,hdn,hT w (hl w List.mem_cons_self),if_neg (by simp),List.append_nil]
    have i:=ih fun x hx=>hl x (List.mem_cons_of_mem _ hx)
    unfold Zat at i ⊢
    rw [List.flatMap_cons,List.flatMap_cons,List.map_append,e,i]
  refine ⟨⟨q,[],Zat ws⟩,rfl,rfl,rfl,fun u hu=>?_,?_,fun t ht u hu=>?_⟩
  ·obtain ⟨w,hw,hu⟩:=List.mem_flatMap.1 hu
   exact (h.wi w hw).vi u hu
  ·have:=h.gd
   rw [hp ws fun _ h=>h] at this
   unfold YJ
   rw [if_neg (by simp [hdn])]
   simpa using this
  ·obtain ⟨w,hw,hu⟩:=List.mem_flatMap.1 hu
   exact ht w hw u hu
 ·exact two hk
theorem CI.tiled {q:Zg} (h0:qch q=0) {n:Nat} {ws:List Zc} (h:CI q n ws) (hk:(q.Kind=1∨q.Kind=2)∨ws.length≤1) (hd:∀ w ∈ ws,Yy w=true):Zai q (Zat ws)=0∧∀ t,Yq t=true→(∀ w ∈ ws,RI t w)→qtk q.Kind q.Count (YH (Zat ws))=qtk q.Kind q.Count (Ye t (qrg q)):=by
 obtain ⟨W,w1,w2,w3,w4,w5,w6⟩:=h.merged hk hd
 rw [← w2]
 exact ⟨ZmX h0 w1 w5 w4 w3,fun t ht hr=>ZpQ ht w1 (w6 t hr) w5 w3⟩
end Go.Proofs.YtkcmgbbopedacaaGreatDoor
namespace Go.Proofs.YtkcmgbbopedacaaGreatDoor
open Go.RowKit
set_option maxRecDepth 100000
set_option maxHeartbeats 4000000
attribute [local irreducible] WK WC WL Wk Rel OpD OpV WD WO sel bnd Ze app Yx lsl Zex ssl Zhj Zg2 ZiR ZhL Op.bytesLess
attribute [local irreducible] Zcv Yg union mlk Zts ZuN Ztq cpy ZcT
def XV (p12:Int) (p13:List Rng) (p14:ByteArray) (p15:Int) (p16:List Bnd) (p17:List Zc) (p18:List Zc) (p19:Bool) (moved20:Bool) (j23:Int):List Zt→Option (Int × List Rng × ByteArray × Int × List Bnd × List Zc × List Zc × Bool × Bool)
 | [] =>
 some (p12,p13,p14,p15,p16,p17,p18,p19,moved20)
 | r24::xs25 =>
 Ze (Zc8 (Zk.mk (Zg.mk p12 p13 p14 p15) p16 p17 p18 p19) j23 r24) fun y27 =>
 sel (decide (y27.2=0)) (
  some (y27.1.Query.Kind,y27.1.Query.Ranges,y27.1.Query.Key,y27.1.Query.Count,y27.1.Cuts,y27.1.First,y27.1.Second,y27.1.Turned,true)) (
  XV p12 p13 p14 p15 p16 p17 p18 p19 moved20 j23 xs25)
def YE (views2:List Zt):List Zc→Int→Int→List Rng→ByteArray→Int→List Bnd→List Zc→List Zc→Bool→Bool→Option (Int × List Rng × ByteArray × Int × List Bnd × List Zc × List Zc × Bool × Bool)
 | [],i,p12,p13,p14,p15,p16,p17,p18,p19,moved20 =>
 some (p12,p13,p14,p15,p16,p17,p18,p19,moved20)
 | r21::xs22,i,p12,p13,p14,p15,p16,p17,p18,p19,moved20 =>
 Ze (
  Ze (
   XV p12 p13 p14 p15 p16 p17 p18 p19 moved20 i views2:Option (Int × List Rng × ByteArray × Int × List Bnd × List Zc × List Zc × Bool × Bool)) fun (p28,p29,p30,p31,p32,p33,p34,p35,moved36) =>
  some (p28,p29,p30,p31,p32,p33,p34,p35,moved36):Option (Int × List Rng × ByteArray × Int × List Bnd × List Zc × List Zc × Bool × Bool)) fun (p37,p38,p39,p40,p41,p42,p43,p44,moved45) =>
 YE views2 xs22 (i+1) p37 p38 p39 p40 p41 p42 p43 p44 moved45
def ZG (views2:List Zt):Nat→Int→List Rng→ByteArray→Int→List Bnd→List Zc→List Zc→Bool→Int→Option (Int × List Rng × ByteArray × Int × List Bnd × List Zc × List Zc × Bool)
 | 0,_,_,_,_,_,_,_,_,_=>none
 | fuel+1,p3,p4,p5,p6,p7,p8,p9,p10,n11 =>
 Ze (
  sel (decide (n11<300)) (
   some (Ctl.nxt ())) (
   some (Ctl.ret (p3,p4,p5,p6,p7,p8,p9,p10))):Option (Ctl (Int × List Rng × ByteArray × Int × List Bnd × List Zc × List Zc × Bool) Unit)) fun mu=>Yv mu fun (_:Unit) =>
 Ze (
  Ze (
   YE views2 p8 0 p3 p4 p5 p6 p7 p8 p9 p10 false:Option (Int × List Rng × ByteArray × Int × List Bnd × List Zc × List Zc × Bool × Bool)) fun (p46,p47,p48,p49,p50,p51,p52,p53,moved54) =>
  Ze (Zc9 (Zk.mk (Zg.mk p46 p47 p48 p49) p50 p51 p52 p53)) fun y55 =>
  sel (decide (y55.2=0)) (
   sel (!true) (
    some (Ctl.ret (y55.1.Query.Kind,y55.1.Query.Ranges,y55.1.Query.Key,y55.1.Query.Count,y55.1.Cuts,y55.1.First,y55.1.Second,y55.1.Turned))) (
    some (Ctl.nxt (y55.1.Query.Kind,y55.1.Query.Ranges,y55.1.Query.Key,y55.1.Query.Count,y55.1.Cuts,y55.1.First,y55.1.Second,y55.1.Turned)))) (
   sel (!moved54) (
    some (Ctl.ret (p46,p47,p48,p49,p50,p51,p52,p53))) (
    some (Ctl.nxt (p46,p47,p48,p49,p50,p51,p52,p53)))):Option (Ctl (Int × List Rng × ByteArray × Int × List Bnd × List Zc × List Zc × Bool) (Int × List Rng × ByteArray × Int × List Bnd × List Zc × List Zc × Bool))) fun mu=>Yv mu fun (p56,p57,p58,p59,p60,p61,p62,p63) =>
 ZG views2 fuel p56 p57 p58 p59 p60 p61 p62 p63 (ZH (n11+1))
def ZbD (p1:Zk) (views2:List Zt):Option (Zk × Bool) :=
 Ze (
  ZG views2 FU p1.Query.Kind p1.Query.Ranges p1.Query.Key p1.Query.Count p1.Cuts p1.First p1.Second p1.Turned 0:Option (Int × List Rng × ByteArray × Int × List Bnd × List Zc × List Zc × Bool)) fun (p64,p65,p66,p67,p68,p69,p70,p71) =>
 Ze (ZbX (Zk.mk (Zg.mk p64 p65 p66 p67) p68 p69 p70 p71)) fun y72 =>
 some ((Zk.mk (Zg.mk p64 p65 p66 p67) p68 p69 p70 p71),y72)
instance ZnP {p1} {views2}:SpO (ZbD p1 views2) fun y=>Sp 37 [.a (Zk.vs p1),.d (lst Zt.ds views2)] [] (.t [.a (Zk.vs y.1),vB y.2]) []:=⟨fun hm=>by
 refine si Tryz.func37 Tryz.ntmps37 Tryz.results37 fun B w0 ρ0=>?_
 refine sr ?_
 refine sr ?_
 refine jo8 hm [2,4] [104] (fun p64 p65 p66 p67 p68 p69 p70 p71=>[]) (fun mu1 hm hm1=>?_) (fun p64 p65 p66 p67 p68 p69 p70 p71 hm=>?_) (B:=(fun p64 p65 p66 p67 p68 p69 p70 p71=>[(102,some (.box 48 (Zk.vs (Zk.mk (Zg.mk p64 p65 p66 p67) p68 p69 p70 p71))))]))
 ·refine Zl ?_
  refine Zl3 (fun κ st=>∃ p3 p4 p5 p6 p7 p8 p9 p10 n11,ZG views2 κ p3 p4 p5 p6 p7 p8 p9 p10 n11=some mu1∧st=⟨[(1,.d (lst Zt.ds views2)),(2,.p 102 0),(4,.p 104 0),(6,vI n11)],[(102,some (.box 48 (Zk.vs (Zk.mk (Zg.mk p3 p4 p5 p6) p7 p8 p9 p10)))),(104,some (.box 48 [vI 0,.d (.c (.slice none 0 0)),vS ⟨#[]⟩,vI 0,.d (.c (.slice none 0 0)),.d (.c (.slice none 0 0)),.d (.c (.slice none 0 0)),vB false]))]⟩) [(102,102),(104,104)] ⟨_,_,_,_,_,_,_,_,_,hm1,rfl⟩ ?_
  rintro κ _ ⟨p3,p4,p5,p6,p7,p8,p9,p10,n11,hm1,rfl⟩
  cases κ with
  | zero=>rw [ZG.eq_1] at hm1; cases hm1
  | succ κ =>
   rw [ZG.eq_2] at hm1
   refine sr ?_
   refine jc0 hm1 [1,2,4,6] [102,104] [] (fun _ hm1 hm2=>?_) (fun hm1=>?_)
   ·refine co hm2 (fun hm2=>?_) fun hm2=>?_
    ·exact Zxu hm hm1 hm2
    exact ZuY [(102,102),(104,104)] hm hm1 hm2
   refine ss ?_
   refine Zh ?_
   refine jc8 hm1 [1,2,4,6] [104] (fun p56 p57 p58 p59 p60 p61 p62 p63=>[]) (fun mu2 hm1 hm2=>?_) (fun p56 p57 p58 p59 p60 p61 p62 p63 hm1=>?_) (B:=(fun p56 p57 p58 p59 p60 p61 p62 p63=>[(102,some (.box 48 (Zk.vs (Zk.mk (Zg.mk p56 p57 p58 p59) p60 p61 p62 p63))))]))
   ·refine sr ?_
    refine sr ?_
    obtain ⟨mu3,hm3,hm2⟩:=ZF hm2
    refine YN (fun st=>∃ (p46:Int) (p47:List Rng) (p48:ByteArray) (p49:Int) (p50:List Bnd) (p51:List Zc) (p52:List Zc) (p53:Bool) (moved54:Bool),mu3=(p46,p47,p48,p49,p50,p51,p52,p53,moved54)∧st=⟨[(1,.d (lst Zt.ds views2)),(2,.p 102 0),(4,.p 104 0),(6,vI n11),(7,vB moved54)],[(102,some (.box 48 (Zk.vs (Zk.mk (Zg.mk p46 p47 p48 p49) p50 p51 p52 p53)))),(104,some (.box 48 [vI 0,.d (.c (.slice none 0 0)),vS ⟨#[]⟩,vI 0,.d (.c (.slice none 0 0)),.d (.c (.slice none 0 0)),.d (.c (.slice none 0 0)),vB false]))]⟩) ?_ ?_
    ·refine Zl ?_
     refine Zdv 20 rfl (fun hlenm23=>?_)
     refine Zl3 (fun κ st=>∃ (m23:Nat) (p12:Int) (p13:List Rng) (p14:ByteArray) (p15:Int) (p16:List Bnd) (p17:List Zc) (p18:List Zc) (p19:Bool) (moved20:Bool),κ=p8.length - m23∧m23≤p8.length∧YE views2 (p8.drop m23) (m23:Int) p12 p13 p14 p15 p16 p17 p18 p19 moved20=some mu3∧st=⟨[(1,.d (lst Zt.ds views2)),(2,.p 102 0),(4,.p 104 0),(6,vI n11),(7,vB moved20),(21,vI (p8.length:Int)),(22,vI (m23:Int))],[(102,some (.box 48 (Zk.vs (Zk.mk (Zg.mk p12 p13 p14 p15) p16 p17 p18 p19)))),(104,some (.box 48 [vI 0,.d (.c (.slice none 0 0)),vS ⟨#[]⟩,vI 0,.d (.c (.slice none 0 0)),.d (.c (.slice none 0 0)),.d (.c (.slice none 0 0)),vB false]))]⟩) [(102,102),(104,104)] ⟨0,_,_,_,_,_,_,_,_,_,rfl,Nat.zero_le _,hm3,rfl⟩ ?_
     rintro κ _ ⟨m23,p12,p13,p14,p15,p16,p17,p18,p19,moved20,rfl,hlem23,hm3,rfl⟩
     rcases Nat.lt_or_ge m23 p8.length with hltm23 | hgem23
     ·obtain ⟨r21,hxm23,hdr⟩:=Zdl hltm23
      rw [hdr,YE.eq_2] at hm3
      refine sr ?_
      refine Zh ?_
      refine Xv (Zn5 hltm23) rfl ?_
      refine sx ?_
      refine Zh ?_
      obtain ⟨mu4,hm4,hm3⟩:=ZF hm3
      refine YN (fun st=>∃ (p37:Int) (p38:List Rng) (p39:ByteArray) (p40:Int) (p41:List Bnd) (p42:List Zc) (p43:List Zc) (p44:Bool) (moved45:Bool),mu4=(p37,p38,p39,p40,p41,p42,p43,p44,moved45)∧st=⟨[(1,.d (lst Zt.ds views2)),(2,.p 102 0),(4,.p 104 0),(6,vI n11),(7,vB moved45),(21,vI (p8.length:Int)),(22,vI (m23:Int))],[(102,some (.box 48 (Zk.vs (Zk.mk (Zg.mk p37 p38 p39 p40) p41 p42 p43 p44)))),(104,some (.box 48 [vI 0,.d (.c (.slice none 0 0)),vS ⟨#[]⟩,vI 0,.d (.c (.slice none 0 0)),.d (.c (.slice none 0 0)),.d (.c (.slice none 0 0)),vB false]))]⟩) ?_ ?_
      ·refine sr ?_
       refine sr ?_
       obtain ⟨mu5,hm5,hm4⟩:=ZF hm4
       refine YN (fun st=>∃ (p28:Int) (p29:List Rng) (p30:ByteArray) (p31:Int) (p32:List Bnd) (p33:List Zc) (p34:List Zc) (p35:Bool) (moved36:Bool),mu5=(p28,p29,p30,p31,p32,p33,p34,p35,moved36)∧st=⟨[(1,.d (lst Zt.ds views2)),(2,.p 102 0),(4,.p 104 0),(6,vI n11),(7,vB moved36),(21,vI (p8.length:Int)),(22,vI (m23:Int))],[(102,some (.box 48 (Zk.vs (Zk.mk (Zg.mk p28 p29 p30 p31) p32 p33 p34 p35)))),(104,some (.box 48 [vI 0,.d (.c (.slice none 0 0)),vS ⟨#[]⟩,vI 0,.d (.c (.slice none 0 0)),.d (.c (.slice none 0 0)),.d (.c (.slice none 0 0)),vB false]))]⟩) ?_ ?_
       ·refine Zl ?_
        refine lr0 hm5 25 [1,2,4,6,7,8,21,22,25,26] [102,104] (fun m26=>[(27,vI (m26:Int))]) (fun hlenm26 m26 r24 hltm26 hxm26 hm5=>?_) (fun m26 hm5=>?_)
        ·refine bo hm5 fun y27 hm5=>?_
         refine co hm5 (fun hm5=>?_) fun hm5=>?_
         ·refine sr ?_
          refine XM ?_
          refine ss ?_
          cases hm5
          exact Zfg [(102,102),(104,104)] ⟨_,_,_,_,_,_,_,_,_,rfl,rfl⟩
         refine sx ?_
         refine sr ?_
         refine ZK (ZeA hltm26 hlenm26 rfl rfl rfl) rfl rfl rfl ?_
         refine ss ?_
         exact ZcW [(102,102),(104,104)] ⟨m26+1,rfl,hltm26,hm5,rfl⟩ (by omega)
        refine XM ?_
        refine ss ?_
        cases hm5
        exact Zfg [(102,102),(104,104)] ⟨_,_,_,_,_,_,_,_,_,rfl,rfl⟩
       rintro _ ⟨p28,p29,p30,p31,p32,p33,p34,p35,moved36,rfl,rfl⟩
       refine ss ?_
       cases hm4
       exact Zfg [(102,102),(104,104)] ⟨_,_,_,_,_,_,_,_,_,rfl,rfl⟩
      rintro _ ⟨p37,p38,p39,p40,p41,p42,p43,p44,moved45,rfl,rfl⟩
      refine sr ?_
      refine ZK (ZeA hltm23 hlenm23 rfl rfl rfl) rfl rfl rfl ?_
      refine ss ?_
      exact ZcW [(102,102),(104,104)] ⟨m23+1,_,_,_,_,_,_,_,_,_,rfl,hltm23,hm3,rfl⟩ (by omega)
     ·rw [Zdw hgem23,YE.eq_1] at hm3
      refine sr ?_
      refine Zh ?_
      refine Xu (Zn6 hgem23) rfl ?_
      refine XM ?_
      refine ss ?_
      cases hm3
      exact Zfg [(102,102),(104,104)] ⟨_,_,_,_,_,_,_,_,_,rfl,rfl⟩
    rintro _ ⟨p46,p47,p48,p49,p50,p51,p52,p53,moved54,rfl,rfl⟩
    refine bo hm2 fun y55 hm2=>?_
    refine co hm2 (fun hm2=>?_) fun hm2=>?_
    ·refine co hm2 (fun hm2=>?_) fun hm2=>?_
     ·exact ZuY [(102,102),(104,104)] hm hm1 hm2
     exact Zw3 [(102,102),(104,104)] hm hm1 hm2
    refine co hm2 (fun hm2=>?_) fun hm2=>?_
    ·exact ZuY [(102,102),(104,104)] hm hm1 hm2
    exact Zw3 [(102,102),(104,104)] hm hm1 hm2
   refine sr ?_
   refine ZK (Y0 rfl rfl rfl rfl) rfl rfl rfl ?_
   refine ss ?_
   exact ZcW [(102,102),(104,104)] ⟨_,_,_,_,_,_,_,_,_,hm1,rfl⟩ (Nat.lt_succ_self _)
 refine ss ?_
 refine Zh ?_
 refine Zx (id:=20) [⟨0,0,[2]⟩,⟨1,0,[2]⟩,⟨2,2,[54]⟩,⟨3,7,[4,53]⟩,⟨4,15,[55]⟩] mixed (by kernel_rfl) ?_
 exact az0 hm⟩
def Y9:List Zt→List Kv→Option (List Kv)
 | [],rows6 =>
 some rows6
 | r7::xs8,rows6 =>
 Ze (app rows6 r7.Rows) fun l10 =>
 Y9 xs8 l10
def YI (y3:(Zg × ZI)) (y5:List Zt) (y12:(Yf × Int)):List (List Bnd)→Option (Ctl Bool Unit)
 | [] =>
 some (Ctl.nxt ())
 | r15::xs16 =>
 Ze (Zar y3.1 r15) fun y18 =>
 sel (!decide (y18.2=0)) (
  YI y3 y5 y12 xs16) (
  Ze (ZbD y18.1 y5) fun y19 =>
  Ze (Zbb y19.1) fun y20 =>
  Ze (Zbr y20.1) fun y21 =>
  sel (!y19.2) (
   some (Ctl.ret false)) (
   sel (!decide (y20.2=0)) (
    some (Ctl.ret false)) (
    sel (!decide (y21.2=0)) (
     some (Ctl.ret false)) (
     Ze (QE y21.1 y12.1) fun y22 =>
     sel (!y22) (
      some (Ctl.ret false)) (
      YI y3 y5 y12 xs16)))))
def Q5 (l1:List Int):Option Bool :=
 Ze (ZeK l1) fun y2 =>
 Ze (Qp y2) fun y3 =>
 Ze (QB y3.2 4) fun y4 =>
 Ze (ZbH y4.1) fun y5 =>
 Ze (
  Y9 y5 []:Option (List Kv)) fun rows11 =>
 Ze (ZaE rows11 y3.1) fun y12 =>
 sel (!decide (y12.2=0)) (
  some false) (
  Ze (X7 y4.2 3) fun y13 =>
  Ze (X7 y13.2 3) fun y14 =>
  Ze (
   YI y3 y5 y12 ([[],y13.1,y14.1]:List (List Bnd)):Option (Ctl Bool Unit)) fun mu=>Yv mu fun (_:Unit) =>
  Ze (Zbq) fun y23 =>
  some y23)
theorem Zet {l1:List Int} {y:Bool} (hm:Q5 l1=some y):Spec Tryz.prog 6 [.d (lst dsI l1)] [] fun u h=>u=vB y∧h=[]:=by
 refine si Tryz.func6 Tryz.ntmps6 Tryz.results6 fun B w0 ρ0=>?_
 refine sr ?_
 refine sr ?_
 obtain ⟨y2,hy,hm⟩:=ZF hm
 refine ZfF (u':=.p 202101 0) (h':=[(202101,some (.box 126 (ZI.vs y2)))]) (ZkV.out hy) 202100 rfl rfl rfl (by repeat (first | exact Vws.nil | apply Vws.cons | exact Vw.nil | exact Vw.d _ | exact Vw.q _ | apply Vw.a)) rfl (by (try simp only [Zfd,Option.map_some,Blk.ren,Zb7]); rfl) rfl rfl rfl rfl ?_
 refine bo hm fun y3 hm=>?_
 refine bo hm fun y4 hm=>?_
 refine bo hm fun y5 hm=>?_
 refine sr ?_
 refine sr ?_
 refine jo1 hm [3,4,5] [104,202101] (fun rows11=>[(6,.d (lst Kv.ds rows11))]) (fun _ hm hm1=>?_) (fun rows11 hm=>?_)
 ·refine Zl ?_
  refine ZbM (ZbP 6 5001 154 2 rfl rfl) ?_
  refine lr1 hm1 27 [3,4,5,27,28] [104,202101] (fun m9 rows6=>[(6,.h 5001),(29,vI (m9:Int))]) (fun hlenm9 m9 rows6 r7 hltm9 hxm9 hm1=>?_) (fun m9 rows6 hm1=>?_) (B:=(fun m9 rows6=>[(5001,some (YR 154 2 Kv.ds rows6))]))
  ·refine bo hm1 fun l10 hm1=>?_
   exact ZhK [(104,104),(5001,136),(202101,202101)] hm hm1
  exact ZbL hm hm1
 refine bo hm fun y12 hm=>?_
 refine co hm (fun hm=>?_) fun hm=>?_
 ·exact YF hm
 refine bo hm fun y13 hm=>?_
 refine bo hm fun y14 hm=>?_
 refine ss ?_
 refine Zwb (dsL Bnd.ds) [[],y13.1,y14.1] (ds:=[.c (.slice none 0 0),lst Bnd.ds y13.1,lst Bnd.ds y14.1]) rfl rfl (by simp only [Yp,Zp,List.cons_append,List.nil_append,List.append_nil]; exact rfl) rfl rfl (by repeat (first | exact .nil | refine .z ?_ | refine .cons ?_)) rfl rfl rfl rfl ?_
 refine ss ?_
 refine jc0 hm [] [] [] (fun _ hm hm1=>?_) (fun hm=>?_)
 ·refine Zl ?_
  refine lr0 hm1 50 [4,5,9,50,51] [104,109] (fun m17=>[(52,vI (m17:Int))]) (fun hlenm17 m17 r15 hltm17 hxm17 hm1=>?_) (fun m17 hm1=>?_)
  ·refine bo hm1 fun y18 hm1=>?_
   refine co hm1 (fun hm1=>?_) fun hm1=>?_
   ·exact eb1 hm hm1
   refine bo hm1 fun y19 hm1=>?_
   refine bo hm1 fun y20 hm1=>?_
   refine bo hm1 fun y21 hm1=>?_
   refine co hm1 (fun hm1=>?_) fun hm1=>?_
   ·refine ss ?_
    refine YW rfl ?_
    exact Zcw hm hm1
   refine co hm1 (fun hm1=>?_) fun hm1=>?_
   ·refine ss ?_
    refine YW rfl ?_
    exact Zcw hm hm1
   refine co hm1 (fun hm1=>?_) fun hm1=>?_
   ·refine ss ?_
    refine YW rfl ?_
    exact Zcw hm hm1
   refine bo hm1 fun y22 hm1=>?_
   refine co hm1 (fun hm1=>?_) fun hm1=>?_
   ·exact Zcw hm hm1
   exact eb1 hm hm1
  exact ZbL hm hm1
 exact az0 hm
end Go.Proofs.YtkcmgbbopedacaaGreatDoor
namespace Go.Proofs.YtkcmgbbopedacaaGreatDoor
open Go.RowKit
attribute [local irreducible] Tot sel bnd Ze Yv app Yx lsl ZcT
def can (vs:List Zt) (w:Zc):Bool:=vs.any fun v=>decide ((Xr w v).2=0)
theorem Zr9 {w:Zc} (h:Yy w=true) (vs:List Zt):can vs w=false:=by
 unfold can
 rw [List.any_eq_false]
 intro v _
 rw [Zjb h]
 decide
theorem ZlL {w:Zc} {vs:List Zt} (h:∃ v ∈ vs,(Xr w v).2=0):can vs w=true:=by
 obtain ⟨v,hv,h⟩:=h
 exact List.any_eq_true.2 ⟨v,hv,decide_eq_true h⟩
def ZnG (p:Zk) (l:List Zc):Zk:=bif p.Turned then ⟨p.Query,p.Cuts,p.First,l,true⟩ else ⟨p.Query,p.Cuts,l,p.Second,false⟩
theorem Zsk (p:Zk) (l:List Zc):prs (ZnG p l)=l:=by
 obtain ⟨q,c,F,S,T⟩:=p
 cases T <;> rfl
theorem Zjd (p:Zk):ZnG p (prs p)=p:=by
 obtain ⟨q,c,F,S,T⟩:=p
 cases T <;> rfl
theorem Zpt (p:Zk) (a b:List Zc):ZnG (ZnG p a) b=ZnG p b:=by
 obtain ⟨q,c,F,S,T⟩:=p
 cases T <;> rfl
theorem Zuh (p:Zk) (m:Nat) (w:Zc):Zxq p m w=ZnG p ((prs p).set m w):=by
 obtain ⟨q,c,F,S,T⟩:=p
 cases T <;> rfl
theorem ZoS {K:Nat} {p:Zk} (h:okP K p) {l:List Zc} (hl:l.length≤200) (hw:∀ w ∈ l,okW w∧w.Visits.length≤K):okP K (ZnG p l):=by
 obtain ⟨q,c,F,S,T⟩:=p
 cases T with
 | true=>exact ⟨h.q,h.c,h.f,hl,h.fw,hw⟩
 | false=>exact ⟨h.q,h.c,hl,h.s,hw,h.sw⟩
theorem okP.len {K:Nat} {p:Zk} (h:okP K p):(prs p).length≤200:=by
 obtain ⟨q,c,F,S,T⟩:=p
 cases T with
 | true=>exact h.s
 | false=>exact h.f
abbrev ZuU (p:Zk):Int × List Rng × ByteArray × Int × List Bnd × List Zc × List Zc × Bool:=(p.Query.Kind,p.Query.Ranges,p.Query.Key,p.Query.Count,p.Cuts,p.First,p.Second,p.Turned)
abbrev Zu1 (p:Zk) (m:Bool):Int × List Rng × ByteArray × Int × List Bnd × List Zc × List Zc × Bool × Bool:=(p.Query.Kind,p.Query.Ranges,p.Query.Key,p.Query.Count,p.Cuts,p.First,p.Second,p.Turned,m)
theorem ZpL {l:List Zc} {j:Nat} {w:Zc} (h:l[j]?=some w):l.set j w=l:=by
 obtain ⟨h1,rfl⟩:=List.getElem?_eq_some_iff.1 h
 exact List.set_getElem_self h1
theorem Zte {K:Nat} {p:Zk} (h:okP K p) {j:Nat} {w:Zc} (hw:(prs p)[j]?=some w) (moved:Bool):∀ l:List Zt,(∀ v ∈ l,v.Rows.length≤10000) →
   XV p.Query.Kind p.Query.Ranges p.Query.Key p.Query.Count p.Cuts p.First p.Second p.Turned moved (j:Int) l=some (Zu1 (ZnG p ((prs p).set j (rnd l w))) (moved || can l w))
 | [],_=>by
  rw [XV,rnd,ZpL hw,Zjd]
  unfold can
  rw [List.any_nil,Bool.or_false]
 | v::l,hl=>by
  have ha:atP p (j:Int)=some w:=by unfold atP; rw [if_neg (by omega),Int.toNat_natCast]; exact hw
  have et:Zn7 p (j:Int) v=if (Xr w v).2=0 then (Zxq p j (Xr w v).1,0) else (PP0,(Xr w v).2):=by unfold Zn7; rw [ha]; simp only [Int.toNat_natCast]
  rw [XV,show (Zk.mk (Zg.mk p.Query.Kind p.Query.Ranges p.Query.Key p.Query.Count) p.Cuts p.First p.Second p.Turned)=p from rfl,(Zm2 h j v (hl v List.mem_cons_self)).1,Za,et]
  by_cases h0:(Xr w v).2=0
  ·have hc:can (v::l) w=true:=ZlL ⟨v,List.mem_cons_self,h0⟩
   rw [if_pos h0,decide_eq_true rfl,Zd,rnd,if_pos h0,← Zuh,hc,Bool.or_true]
  ·have hc:can (v::l) w=can l w:=by unfold can; rw [List.any_cons,decide_eq_false h0,Bool.false_or]
   rw [if_neg h0,decide_eq_false h0,Zb,Zte h hw moved l (fun x hx=>hl x (List.mem_cons_of_mem _ hx)),rnd,if_neg h0,hc]
theorem Zog {w:Zc} (h:okW w) (hn:w.Visits.length≤999):∀ l:List Zt,(∀ v ∈ l,v.Rows.length≤10000)→okW (rnd l w)∧(rnd l w).Visits.length≤w.Visits.length+1
 | [],_=>⟨h,by rw [rnd]; omega⟩
 | v::l,hl=>by
  rw [rnd]
  split
  ·exact Zus h hn v (hl v List.mem_cons_self)
  ·exact Zog h hn l fun x hx=>hl x (List.mem_cons_of_mem _ hx)
theorem ZsR {vs:List Zt} (hv:∀ v ∈ vs,v.Rows.length≤10000) {K:Nat} (hK:K≤999):∀ (xs C A:List Zc) (p:Zk) (moved:Bool),okP K p→prs p=A++C→xs.length=C.length→(∀ w ∈ C,w.Visits.length+1≤K) →
   YE vs xs (A.length:Int) p.Query.Kind p.Query.Ranges p.Query.Key p.Query.Count p.Cuts p.First p.Second p.Turned moved=some (Zu1 (ZnG p (A++C.map (rnd vs))) (moved || C.any (can vs)))
 | [],[],A,p,moved,_,hp,_,_=>by
  rw [YE,List.map_nil,← hp,Zjd,List.any_nil,Bool.or_false]
 | [],_::_,_,_,_,_,_,h,_=>by simp at h
 | _::_,[],_,_,_,_,_,h,_=>by simp at h
 | _::xs,w::C,A,p,moved,h,hp,hl,hC=>by
  have hw:(prs p)[A.length]?=some w:=by rw [hp]; simp
  have e:(prs p).set A.length (rnd vs w)=(A++[rnd vs w])++C:=by rw [hp]; simp
  have hlen:=h.len
  have hk:=h.now w (by rw [hp]; simp)
  have h1:=hC w List.mem_cons_self
  have hr:=Zog hk.1 (by omega) vs hv
  have h':okP K (ZnG p ((A++[rnd vs w])++C)):=ZoS h (by rw [hp] at hlen; simp at hlen ⊢; omega) fun x hx=>by
   rcases List.mem_append.1 hx with hx | hx
   ·rcases List.mem_append.1 hx with hx | hx
    ·exact h.now x (by rw [hp]; simp [hx])
    ·rw [List.mem_singleton.1 hx]; exact ⟨hr.1,by omega⟩
   ·exact h.now x (by rw [hp]; simp [hx])
  have ih:=ZsR hv hK xs C (A++[rnd vs w]) (ZnG p ((A++[rnd vs w])++C)) (moved || can vs w) h' (Zsk _ _) (by simpa using hl) fun x hx=>hC x (List.mem_cons_of_mem _ hx)
  rw [Zpt,show ((A++[rnd vs w]).length:Int)=(A.length:Int)+1 by simp,Bool.or_assoc,List.append_assoc,List.singleton_append] at ih
  rw [YE,Zte h hw moved vs hv,e]
  simp only [Za,Zu1]
  rw [List.map_cons,List.any_cons]
  rw [List.append_assoc,List.singleton_append] at ih ⊢
  exact ih
theorem Zjx {vs:List Zt} (hv:∀ v ∈ vs,v.Rows.length≤10000) {p:Zk} (h:okP 999 p) (hvis:∀ w ∈ prs p,w.Visits.length≤900) (hlen:p.First.length=(prs p).length) (fuel r:Nat) (hr:r<300) {P:Zk} (hP:ZnG p ((prs p).map (rnd vs))=P) :
   okP 999 P∧((Zdq P).2=0→ZG vs (fuel+1) p.Query.Kind p.Query.Ranges p.Query.Key p.Query.Count p.Cuts p.First p.Second p.Turned (r:Int)=ZG vs fuel (Zdq P).1.Query.Kind (Zdq P).1.Query.Ranges (Zdq P).1.Query.Key (Zdq P).1.Query.Count (Zdq P).1.Cuts (Zdq P).1.First (Zdq P).1.Second (Zdq P).1.Turned ((r+1:Nat):Int)) ∧
    ((Zdq P).2≠0→ZG vs (fuel+1) p.Query.Kind p.Query.Ranges p.Query.Key p.Query.Count p.Cuts p.First p.Second p.Turned (r:Int)=if (prs p).any (can vs)=true then ZG vs fuel P.Query.Kind P.Query.Ranges P.Query.Key P.Query.Count P.Cuts P.First P.Second P.Turned ((r+1:Nat):Int) else some (ZuU P)):=by
 have hl:=ZsR hv (K:=999) (Nat.le_refl _) p.First (prs p) [] p false h rfl hlen fun w hw=>by have:=hvis w hw; omega
 rw [show (([]:List Zc).length:Int)=0 from rfl,List.nil_append,hP,Bool.false_or] at hl
 have hok:okP 999 P:=by
  rw [← hP]
  refine ZoS h (by rw [List.length_map]; exact h.len) fun w hw=>?_
  obtain ⟨x,hx,rfl⟩:=List.mem_map.1 hw
  have h1:=hvis x hx
  have:=Zog (h.now x hx).1 (by omega) vs hv
  exact ⟨this.1,by omega⟩
 have hi:ZH ((r:Int)+1)=((r+1:Nat):Int):=by rw [ZA (by omega) (by omega)]; omega
 refine ⟨hok,fun h0=>?_,fun h0=>?_⟩
 ·rw [ZG,decide_eq_true (by omega),Zd,Za,Zy,hl]
  simp only [Za,Zu1,hi]
  rw [show (Zk.mk (Zg.mk P.Query.Kind P.Query.Ranges P.Query.Key P.Query.Count) P.Cuts P.First P.Second P.Turned)=P from rfl,(ZhH hok).1,Za,decide_eq_true h0,Zd,Bool.not_true,Zb,Za,Zy]
 ·rw [ZG,decide_eq_true (by omega),Zd,Za,Zy,hl]
  simp only [Za,Zu1,hi]
  rw [show (Zk.mk (Zg.mk P.Query.Kind P.Query.Ranges P.Query.Key P.Query.Count) P.Cuts P.First P.Second P.Turned)=P from rfl,(ZhH hok).1,Za,decide_eq_false h0,Zb]
  cases (prs p).any (can vs) with
  | true=>rw [Bool.not_true,Zb,Za,Zy,if_pos rfl]
  | false=>rw [Bool.not_false,Zd,Za,Yl,if_neg (by simp)]
theorem Zt3 {q:Zg} {t:List Kv} {vs:List Zt} (htl:Tl t zb vs Zdr) {n:Nat} {ws:List Zc} (h:CI q n ws) {w:Zc} (hw:w ∈ ws) (hd:Yy w=false):ws.any (can vs)=true :=
 List.any_eq_true.2 ⟨w,hw,ZlL (Zi7 htl hd fun r hr=>h.gd.ne r (List.mem_flatMap.2 ⟨w,hw,hr⟩))⟩
theorem Zgx {q:Zg} {t:List Kv} {vs:List Zt} (htl:Tl t zb vs Zdr) (hv:∀ v ∈ vs,v.Rows.length≤10000) {n:Nat} (hn:n≤900) {ws:List Zc} (h:CI q n ws) (hvol:vol vs ws≤n) {m:Nat} (hm:Zkd vs m ws):(∀ w ∈ ws,Yy w=true)∨∃ m',m=m' + 1∧Zkd vs m' (ws.map (rnd vs))∧ws.any (can vs)=true:=by
 by_cases hd:∀ w ∈ ws,Yy w=true
 ·exact .inl hd
 ·right
  obtain ⟨-,-,h3⟩:=h.rounds htl hv (by omega) hvol
  have hx:∃ w ∈ ws,Yy w=false:=Classical.byContradiction fun hh=>hd fun w hw=>by
   cases hd2:Yy w with
   | true=>rfl
   | false=>exact absurd ⟨w,hw,hd2⟩ hh
  obtain ⟨w,hw,hdw⟩:=hx
  have h4:Zed vs (rnd vs w).Todo<Zed vs w.Todo:=(h3 w hw).1.resolve_left (by simp [hdw])
  have h5:Zed vs w.Todo≤m:=(hm w hw).resolve_left (by simp [hdw])
  obtain ⟨m',rfl⟩:∃ m',m=m' + 1:=⟨m - 1,by omega⟩
  refine ⟨m',rfl,fun x hx=>?_,Zt3 htl h hw hdw⟩
  obtain ⟨y,hy,rfl⟩:=List.mem_map.1 hx
  cases hdy:Yy y with
  | true=>left; rw [ZdU hdy]; exact hdy
  | false =>
   right
   have h6:=(h3 y hy).1.resolve_left (by simp [hdy])
   have h7:=(hm y hy).resolve_left (by simp [hdy])
   omega
theorem CI.le900 {q:Zg} {n:Nat} {ws:List Zc} (h:CI q n ws) (hn:n≤900):∀ w ∈ ws,w.Visits.length≤900:=fun w hw=>by
 have:=ZfZ hw
 have:=h.vis
 omega
theorem ZyY {q:Zg} {t:List Kv} {vs:List Zt} (htl:Tl t zb vs Zdr) (hv:∀ v ∈ vs,v.Rows.length≤10000) {n:Nat} (hn:n≤900):∀ (m fuel r:Nat) (q0:Zg) (c:List Bnd) (F S:List Zc),okP 999 ⟨q0,c,F,S,true⟩→F.length=S.length→CI q n S→vol vs S≤n→Zkd vs m S→r+m≤298→m+1<fuel →
   ZG vs fuel q0.Kind q0.Ranges q0.Key q0.Count c F S true (r:Int)=some (ZuU ⟨q0,c,F,S.map (ZfB vs m),true⟩)
 | _,0,_,_,_,_,_,_,_,_,_,_,_,h=>by omega
 | m,fuel+1,r,q0,c,F,S,h,hl,hci,hvol,hm,hr,hf=>by
  have hnt:∀ L:List Zc,(Zdq ⟨q0,c,F,L,true⟩).2≠0:=fun L=>by show (7:Int)≠0; decide
  obtain ⟨g1,-,g3⟩:=Zjx hv h (hci.le900 hn) hl fuel r (by omega) (P:=⟨q0,c,F,S.map (rnd vs),true⟩) rfl
  have g3:=g3 (hnt _)
  simp only at g3
  rw [g3]
  show (if S.any (can vs)=true then _ else _)=_
  rcases Zgx htl hv hn hci hvol hm with hd | ⟨m',rfl,hm',hany⟩
  ·have:S.any (can vs)=false:=by
     rw [List.any_eq_false]
     intro w hw
     rw [Zr9 (hd w hw)]
     decide
   rw [if_neg (by simp [this]),Zip hd,ZgG hd]
  ·obtain ⟨i1,i2,-⟩:=hci.rounds htl hv (by omega) hvol
   rw [if_pos hany,← Zf0]
   exact ZyY htl hv hn m' fuel (r+1) q0 c F (S.map (rnd vs)) g1 (by rw [List.length_map]; exact hl) i1 i2 hm' (by omega) (by omega)
theorem ZrL {vs:List Zt} {ws:List Zc} (hd:∀ w ∈ ws.map (rnd vs),Yy w=true):∀ m:Nat,(m=0→∀ w ∈ ws,Yy w=true)→ws.map (ZfB vs m)=ws.map (rnd vs)
 | 0,h=>by rw [Zip (h rfl),ZgG (h rfl)]
 | m+1,_=>by rw [← Zf0,Zip hd]
theorem ZyN {q:Zg} {t:List Kv} {vs:List Zt} (htl:Tl t zb vs Zdr) (hv:∀ v ∈ vs,v.Rows.length≤10000) {n n2:Nat} (hn:n≤900) (hn2:n2≤900) (m2:Nat) (q0:Zg) (c:List Bnd) (S:List Zc) (hS:CI q n2 S) (hvS:vol vs S≤n2) (hmS:Zkd vs m2 S):∀ (m fuel r:Nat) (F:List Zc),okP 999 ⟨q0,c,F,S,false⟩→F.length=S.length→CI q n F→vol vs F≤n→Zkd vs m F→r+m+m2≤297→m+m2+2<fuel →
   ZG vs fuel q0.Kind q0.Ranges q0.Key q0.Count c F S false (r:Int)=some (ZuU ⟨q0,c,F.map (ZfB vs m),S.map (ZfB vs m2),true⟩)
 | _,0,_,_,_,_,_,_,_,_,h=>by omega
 | m,fuel+1,r,F,h,hl,hci,hvol,hm,hr,hf=>by
  obtain ⟨g1,g2,g3⟩:=Zjx hv h (hci.le900 hn) rfl fuel r (by omega) (P:=⟨q0,c,F.map (rnd vs),S,false⟩) rfl
  obtain ⟨i1,i2,-⟩:=hci.rounds htl hv (by omega) hvol
  have hls:(F.map (rnd vs)).length=S.length:=by rw [List.length_map]; exact hl
  cases hall:(F.map (rnd vs)).all Yy with
  | true =>
   have hd:∀ w ∈ F.map (rnd vs),Yy w=true:=fun w hw=>List.all_eq_true.1 hall w hw
   have et:Zdq ⟨q0,c,F.map (rnd vs),S,false⟩=(⟨q0,c,F.map (rnd vs),S,true⟩,0):=by
    unfold Zdq
    simp only [hall,Bool.not_true,Bool.or_false]
    rfl
   rw [et] at g2
   have g2:=g2 rfl
   simp only at g2
   rw [g2,ZyY htl hv hn2 m2 fuel (r+1) q0 c (F.map (rnd vs)) S ⟨g1.q,g1.c,g1.f,g1.s,g1.fw,g1.sw⟩ hls hS hvS hmS (by omega) (by omega)]
   rw [ZrL hd m fun h0 w hw=>by
    subst h0
    rcases Zgx htl hv hn hci hvol hm with hd0 | ⟨m',h0,-⟩
    ·exact hd0 w hw
    ·cases h0]
  | false =>
   have hnt:(Zdq ⟨q0,c,F.map (rnd vs),S,false⟩).2≠0:=by
    unfold Zdq
    simp only [hall,Bool.not_false,Bool.or_true]
    show (7:Int)≠0
    decide
   have g3:=g3 hnt
   simp only at g3
   rw [g3]
   show (if F.any (can vs)=true then _ else _)=_
   rcases Zgx htl hv hn hci hvol hm with hd | ⟨m',rfl,hm',hany⟩
   ·rw [ZgG hd,List.all_eq_true.2 hd] at hall; cases hall
   ·rw [if_pos hany,← Zf0]
    exact ZyN htl hv hn hn2 m2 q0 c S hS hvS hmS m' fuel (r+1) (F.map (rnd vs)) g1 hls i1 i2 hm' (by omega) (by omega)
theorem ZrB {p:Zk} {vs:List Zt} (h:okP 999 p) (hT:p.Turned=true) (hd:∀ w ∈ p.Second,Yy w=true) {x:Zk} (e:ZG vs FU x.Query.Kind x.Query.Ranges x.Query.Key x.Query.Count x.Cuts x.First x.Second x.Turned 0=some (ZuU p)):ZbD x vs=some (p,true):=by
 unfold ZbD
 rw [e]
 simp only [Za,ZuU]
 rw [show (Zk.mk (Zg.mk p.Query.Kind p.Query.Ranges p.Query.Key p.Query.Count) p.Cuts p.First p.Second p.Turned)=p from rfl,(ZgN h).1,Za]
 have:ZhP p=true:=by unfold ZhP; rw [hT,List.all_eq_true.2 hd]; rfl
 rw [this]
theorem CI.ok999 {q:Zg} {n:Nat} {ws:List Zc} (h:CI q n ws) (hn:n≤900):∀ w ∈ ws,okW w∧w.Visits.length≤999:=fun w hw=>⟨(h.wi w hw).ok,by have:=h.le900 hn w hw; omega⟩
theorem Znb {q:Zg} (hq:qok q) {n n2:Nat} (hn:n≤900) (hn2:n2≤900) {F S:List Zc} (hF:CI q n F) (hS:CI q n2 S) (hk:(q.Kind=1∨q.Kind=2)∨F.length≤1) (hl:F.length=S.length) (hdF:∀ w ∈ F,Yy w=true) (hdS:∀ w ∈ S,Yy w=true) :
   ∃ a,Zbr ⟨q,Zat F,Zat S⟩=some (a,if Zan (Zat F) (Zat S)=true then 0 else 11)∧(Zan (Zat F) (Zat S)=true→a.Rows=qtk q.Kind q.Count (YH (Zat F))∧Zbl a.Rows=some a.Fold):=by
 have g4:=hq.2.1
 have okc:∀ {m:Nat} {ws:List Zc},m≤900→CI q m ws→okC (Zat ws):=fun hm h=>⟨by have:=h.vis; omega,(ZhY (h.ok999 hm)).2⟩
 obtain ⟨a,-,e1,e2⟩:=Zr7 ⟨q,Zat F,Zat S⟩ (by simp only; omega) (okc hn hF) (okc hn2 hS)
 obtain ⟨t1,-⟩:=hF.tiled hq.1 hk hdF
 obtain ⟨t2,-⟩:=hS.tiled hq.1 (hk.imp_right fun h=>by omega) hdS
 have e0:Zhl ⟨q,Zat F,Zat S⟩=if Zan (Zat F) (Zat S)=true then 0 else 11:=by
  unfold Zhl
  simp only
  rw [t1,t2,if_neg (by simp),if_neg (by simp)]
 rw [e0] at e1 e2
 exact ⟨a,e1,fun h=>e2 (by rw [if_pos h])⟩
theorem ZrP {q:Zg} (hq:qok q) {zs:List (List Rng)} {cs:List Bnd} (hc:cs.length≤3) (hf:zs.flatten=Zd3 cs (qrg q)) (hz:∀ z ∈ zs,z.length≤128):CI q 0 (zs.map (mkw q))∧Zhi (zs.map (mkw q))≤7∧∀ t,∀ w ∈ zs.map (mkw q),RI t w:=by
 have h4:=Zr0 hq
 have h5:=Zim cs (qrg q) (ZdA q)
 obtain ⟨i1,i2⟩:=Zki cs (qrg q) (ZdA q)
 obtain ⟨i3,i4⟩:=Zin cs (qrg q)
 have hpt:∀ l:List (List Rng),(l.map (mkw q)).flatMap YJ=l.flatten∧Zhi (l.map (mkw q))=l.flatten.length∧Zat (l.map (mkw q))=[]:=fun l=>by
  induction l with
  | nil=>exact ⟨rfl,rfl,rfl⟩
  | cons z l ih =>
   obtain ⟨j1,j2,j3⟩:=ih
   have e:YJ (mkw q z)=z:=by unfold YJ; split <;> simp
   rw [List.map_cons,List.flatMap_cons,Zhi,ZcB,j1,j2,j3,e,List.flatten_cons,List.length_append]
   exact ⟨rfl,rfl,rfl⟩
 obtain ⟨j1,j2,j3⟩:=hpt zs
 rw [hf] at j1 j2
 refine ⟨⟨fun w hw=>⟨Zwr (by have:=hq.2.1; omega) hz w hw,?_,?_⟩,?_,by omega,by rw [j3]; simp⟩,by omega,fun t w hw=>?_⟩
 ·obtain ⟨z,-,rfl⟩:=List.mem_map.1 hw; rfl
 ·obtain ⟨z,-,rfl⟩:=List.mem_map.1 hw; intro u hu; simp at hu
 ·rw [j1]
  refine ⟨i3,i2,fun b hb=>?_⟩
  rw [i4 b hb,Zbi (ZdA q).ne]
 ·obtain ⟨z,-,rfl⟩:=List.mem_map.1 hw
  intro u hu; simp at hu
end Go.Proofs.YtkcmgbbopedacaaGreatDoor
namespace Go.Proofs.YtkcmgbbopedacaaGreatDoor
open Go.RowKit
attribute [local irreducible] Tot sel bnd Ze Yv app Yx lsl ZcT
theorem Zl8:∀ (l:List Zt) (out:List Kv),out.length+(l.flatMap (·.Rows)).length≤1000000→Y9 l out=some (out++l.flatMap (·.Rows))
 | [],out,_=>by rw [Y9]; simp
 | v::l,out,h=>by
  rw [List.flatMap_cons,List.length_append] at h
  rw [Y9,ZT (by omega),Za,Zl8 l _ (by rw [List.length_append]; omega)]
  simp
theorem Zmd (y3:Zg × ZI) (hq:qok y3.1) {t:List Kv} (ht:Yq t=true) (ht8:t.length≤8) {vs:List Zt} (htl:Tl t zb vs Zdr) (hvl:vs.length≤5) (y12:Yf × Int) (ha:ZaE t y3.1=some (y12.1,0)):∀ bs:List (List Bnd),(∀ b ∈ bs,b.length≤3)→YI y3 vs y12 bs=some (Ctl.nxt ())
 | [],_=>by rw [YI]
 | b::bs,h=>by
  have hb:=h b List.mem_cons_self
  have hq4:=hq.2.1
  have hgood:ZvN vs:=htl.good ht8 (by omega)
  have hv:∀ v ∈ vs,v.Rows.length≤10000:=fun v hv=>by have:=hgood.2.2 v hv; omega
  have next:=Zmd y3 hq ht ht8 htl hvl y12 ha bs fun x hx=>h x (List.mem_cons_of_mem _ hx)
  obtain ⟨l,e,c1,-,c3⟩:=ZjG y3.1 b (by omega) (by omega)
  rw [YI,Zar,c1,Za]
  by_cases he:e=0
  ·obtain ⟨-,-,zs,cs,k1,k2,k3,k4,k5,k6⟩:=c3 he
   subst he
   obtain ⟨s1,s2,s3⟩:=ZrP hq (by omega) k3 k5
   rw [← k6] at s1 s2 s3
   have hl:l.length≤200:=by rw [k6]; simpa using k2
   have hk:(y3.1.Kind=1∨y3.1.Kind=2)∨l.length≤1:=by
    by_cases hk:y3.1.Kind=1∨y3.1.Kind=2
    ·exact .inl hk
    ·right; rw [k6,List.length_map]; exact k4 hk
   have hok:∀ w ∈ l,okW w:=fun w hw=>(s1.wi w hw).ok
   rw [decide_eq_true rfl,Bool.not_true,Zb,X8 _ (by omega),Za,ZaR _ (by omega),Za,Zcu l (by omega) hok,Za,Za,decide_eq_true rfl,Bool.not_true,Zb]
   have hvol:vol vs l≤100:=by
    have h1:=Zs1 vs l
    have h2:Zhi l * vs.length≤7 * 5:=Nat.mul_le_mul s2 hvl
    have h3:=s1.vis
    omega
   have s1:=s1.mono (n':=100) (by omega)
   have hnr:=CI.near (q:=y3.1) hvol
   obtain ⟨r1,r2,r3,r4⟩:=s1.run htl hv (by omega) 100 hvol hnr
   have hP0:okP 999 ⟨y3.1,b,l,l,false⟩:=⟨by show y3.1.Ranges.length≤1000; omega,by show b.length≤1000; omega,hl,hl,s1.ok999 (by omega),s1.ok999 (by omega)⟩
   have hlm:(l.map (ZfB vs 100)).length≤200:=by rw [List.length_map]; exact hl
   have hP1:okP 999 ⟨y3.1,b,l.map (ZfB vs 100),l.map (ZfB vs 100),true⟩:=⟨hP0.q,hP0.c,hlm,hlm,r1.ok999 (by omega),r1.ok999 (by omega)⟩
   have hfin:=ZyN htl hv (n:=100) (n2:=100) (by omega) (by omega) 100 y3.1 b l s1 hvol hnr 100 FU 0 l hP0 rfl s1 hvol hnr (by omega) (by unfold FU; omega)
   have hfin:=ZrB (x:=⟨y3.1,b,l,l,false⟩) hP1 rfl r3 hfin
   have hrec:=(ZiK (by omega) hP1).1
   have hdp:ZhP ⟨y3.1,b,l.map (ZfB vs 100),l.map (ZfB vs 100),true⟩=true:=by unfold ZhP; simp only; rw [List.all_eq_true.2 r3]; rfl
   have hrp:ZeJ ⟨y3.1,b,l.map (ZfB vs 100),l.map (ZfB vs 100),true⟩=(⟨y3.1,Zat (l.map (ZfB vs 100)),Zat (l.map (ZfB vs 100))⟩,0):=by unfold ZeJ; rw [hdp]; rfl
   obtain ⟨a,a1,a2⟩:=Znb hq (n:=100) (n2:=100) (by omega) (by omega) r1 r1 (by rw [List.length_map]; exact hk) rfl r3 r3
   rw [Zeo,if_pos rfl] at a1
   obtain ⟨a3,a4⟩:=a2 (Zeo _)
   obtain ⟨b',e6,e7,-,e8⟩:=Zhv t y3.1 (by omega) hq.1 ht
   obtain ⟨-,hrows⟩:=r1.tiled hq.1 (by rw [List.length_map]; exact hk) r3
   have e9:qtk y3.1.Kind y3.1.Count (YH (Zat (l.map (ZfB vs 100))))=qtk y3.1.Kind y3.1.Count (Ye t (Yg y3.1.Kind y3.1.Ranges y3.1.Key y3.1.Count)):=hrows t ht (r4 (s3 t))
   have hb':b'=y12.1:=by
    rw [ha] at e6
    exact (congrArg Prod.fst (Option.some.inj e6)).symm
   have hra:a.Rows=b'.Rows:=by rw [a3,e7]; exact e9
   have hfa:a.Fold=b'.Fold:=by
    rw [hra,e8] at a4
    exact (Option.some.inj a4).symm
   have hab:a=y12.1:=by
    rw [← hb']
    cases a; cases b'
    simp only at hra hfa
    rw [hra,hfa]
   rw [hfin,Za,hrec,Za,hrp,a1,Za,Bool.not_true,Zb,decide_eq_true rfl,Bool.not_true,Zb,Zb,hab,ZgX,Za,Bool.not_true,Zb]
   exact next
  ·rw [decide_eq_false he,Bool.not_false,Zd,Za,decide_eq_false he,Bool.not_false,Zd]
   exact next
theorem ZjR (l:List Int):Q5 l=some true:=by
 suffices h:Tot (Q5 l) fun b=>b=true by
  obtain ⟨b,e,rfl⟩:=Zwn h
  exact e
 have aw:Tot (Ze Zbq fun y5=>some y5) fun b=>b=true:=ZzH ZpY (YK rfl)
 unfold Q5
 refine Z9 (ZuA l) fun τ hτ=>Z9 (ZpK hτ) fun y3 h3=>Zsn h3.1 (by omega) (by omega) fun y4 t vs k1 k2 k3 k4 k5=>?_
 have hq:=h3.2
 have e:=k5.rows k2
 rw [Zl8 vs [] (by rw [e]; simp; omega),Za,List.nil_append,e]
 obtain ⟨b,e6,-⟩:=Zhv t y3.1 (by have:=hq.2.1; omega) hq.1 k2
 rw [e6,Za,decide_eq_true rfl,Bool.not_true,Zb]
 refine Z9 (Zij k1 (by omega) (by omega)) fun y13 h13=>Z9 (Zij h13.1 (by omega) (by omega)) fun y14 h14=>?_
 rw [Zmd y3 hq k2 k3 k5 (by omega) (b,0) e6 _ (by
  have h1:=h13.2
  have h2:=h14.2
  simp
  omega),Za,Zy]
 exact aw
end Go.Proofs.YtkcmgbbopedacaaGreatDoor
