/-
  Lemmas: Arguments of the laws, opened, as values of a walk over stat
-/
import Derived.Test.YtkcmgbbopedacaaGreatDoorPZ12
import Derived.Test.YtkcmgbbopedacaaGreatDoorPZ8
import Derived.Test.YtkcmgbbopedacaaGreatDoorPZ10
import Derived.Handy
import Derived.Laws.IdiomStrings
import Derived.Laws.BytesArg
import Derived.Test.YtkcmgbbopedacaaGreatDoorPZ13
import Derived.Test.YtkcmgbbopedacaaGreatDoorCards
import Derived.Test.YtkcmgbbopedacaaGreatDoorTie
import Derived.WalkKit
import Derived.ProofKit
import Derived.OpenShut
import Derived.Deep.DeepHandedRow
import Derived.Lib.LaidTab
import Derived.Lib.SmallJoins
import Derived.Deep.Slices
set_option linter.unusedSimpArgs false
set_option linter.unusedVariables false
namespace Go.Proofs.YtkcmgbbopedacaaGreatDoor
open Go.RowKit
attribute [local irreducible] contains emp vld vb vk adj Yt ZtU proper greater lesser greatest least cmp Bnd.lt Op.bytesLess Calls Oper.wp wpList Code.wp Oper.upon
theorem ZiT {p:ByteArray} {c i:Nat} (hi:i<p.toList.length):(bytesRow p c)[i]?=some (.int .u8 (p.toList[i].toNat:Int)):=by
 have h:i<p.data.size:=by have:=hi; rwa [Zec] at this
 have e:p.toList[i]=p.data[i]:=by simp [ByteArray.toList_eq]
 rw [e,← Array.getElem?_toList]
 simp only [bytesRow,Array.toList_append,Array.toList_map,Array.toList_replicate]
 rw [List.getElem?_append_left (by simpa using h),List.getElem?_map]
 simp only [Array.getElem?_toList,Array.getElem?_eq_getElem h,Option.map_some]
theorem Zso (w:World) (C:Array Value) (T:TypeId) (f:Nat × Nat) (i:Nat):(w.alloc (.cells C T f)).cell? ⟨w.heap.size,i,none⟩=C[i]?:=by
 unfold World.alloc World.cell?; simp only [Array.getElem?_push_size]; rfl
theorem Znj (w:World) (C:Array Value) (T:TypeId) (a b i:Nat):(w.alloc (.cells C T (a,b))).frozen? ⟨w.heap.size,i,none⟩=decide (a≤i∧i<b):=by
 unfold World.alloc World.frozen?; simp only [Array.getElem?_push_size]; simp
structure ByB (w:World) (b:Nat) (l:List UInt8):Prop where
 lt:b<w.heap.size
 cell:∀ i (h:i<l.length),w.cell? ⟨b,i,none⟩=some (.int .u8 (l[i].toNat:Int))
 fz:∀ i,i<l.length→w.frozen? ⟨b,i,none⟩=false
theorem Rep.aside {w0 w:World} {X:Fr} {R:List Win} {S:List OB} (h:Rep w0 X R S w) {b o:Nat} (hb:w0.heap.size≤b) (hS:∀ e ∈ S,e.b≠b) (v:Value):Rep w0 X R S (w.setCell ⟨b,o,none⟩ v):=by
 have hk:∀ k,k≠b→(w.setCell ⟨b,o,none⟩ v).heap[k]?=w.heap[k]?:=fun k hk=>Below.heap_setCell _ _ _ _ (by simpa using hk)
 refine ⟨⟨h.kp.os,h.kp.tape,h.kp.output,by simpa [World.setCell] using h.kp.size,fun i hi hx=>?_⟩,fun e he=>?_,h.ne,h.new,h.win,?_,h.js,h.xl⟩
 ·rw [hk i (by omega)]; exact h.kp.block i hi hx
 ·rw [hk e.b (hS e he)]; exact h.own e he
 ·exact h.js w _ h.j fun k hk'=>hk k (by omega)
set_option maxRecDepth 100000 in
set_option maxHeartbeats 4000000 in
theorem Zr4 {p:ByteArray} {w:World} :
   Calls Tryz.prog 219 #[.string p] w fun e w'=>∃ m:Rng,e=.returned (.agg #[.string m.lo.key,.bool m.lo.top,.string m.hi.key,.bool m.hi.top])∧Hid (m=pfx p)∧Kp [] w w':=by
 have kc:=fun (w:World)=>run_bytes_of_string (P:=Tryz.prog) w 9 43 5 p Tryz.underlying9 Tryz.underlying43 Tryz.underlying5
 go_enter Tryz.func219,Tryz.ntmps219
 have hR:=Rep.refl w
 generalize w=w0 at hR
 cases hv:vk p
 ·go_wp2_with (first | (refine Xj hR ?_) | (refine Xk hR ?_; (try clear hF); clear hR; intro w hR; have hF:=hR.fx) | (refine Ym hR ?_; (try clear hF); clear hR; intro w B2 hR; have hF:=hR.fx) | (go_at_call 134; refine (ZfM).mono ?_; rintro e w ⟨rfl,rfl⟩))
  (exact Zd5 hR Tryz.results219 rfl UpI.at (by exact inferInstance) rfl ⟨zr,rfl,by simp [Hid,pfx,hv],hR.kp_nof⟩)
 ·go_upto_region 3 with (first | (refine Xj hR ?_) | (refine Xk hR ?_; (try clear hF); clear hR; intro w hR; have hF:=hR.fx) | (refine Ym hR ?_; (try clear hF); clear hR; intro w B2 hR; have hF:=hR.fx) | (go_at_call 134; refine (ZfM).mono ?_; rintro e w ⟨rfl,rfl⟩))
  go_upto_region 5 with (first | (refine Xj hR ?_) | (refine Xk hR ?_; (try clear hF); clear hR; intro w hR; have hF:=hR.fx) | (refine Ym hR ?_; (try clear hF); clear hR; intro w B3 hR; have hF:=hR.fx))
  have hW:∀ n,(bytesRow p n).size=p.size+(n - p.size):=fun n=>by simp only [bytesRow,Array.size_append,Array.size_map,Array.size_replicate]; rfl
  have hcap:=grownCap_ge w p.size 0 5
  generalize grownCap w p.size 0 5=c at hcap ⊢
  refine Zjt (fun W1=>Rep w0 nof [] [⟨B3,72,[.string p,.bool false,.string ⟨#[]⟩,.bool true]⟩,⟨B2,72,[.string ⟨#[]⟩,.bool false,.string ⟨#[]⟩,.bool false]⟩] W1∧ByB W1 w.heap.size p.toList∧w0.heap.size≤w.heap.size∧B3<w.heap.size∧B2<w.heap.size) ?_ ?_
  ·have hk2:Kp [] w ((w.alloc (Obj.cells (bytesRow p c) 5 ((bytesRow p c).size,(bytesRow p c).size+1))).drew):=by (repeat (first | exact Kp.refl _ _ | apply Kp.alloc | apply Kp.drew | apply Kp.drewN | (refine Kp.setCell ?_ (Or.inr (by dsimp only; omega)) _) | (refine Kp.trans ?_ (by assumption))))
   refine ⟨hR.kp0 hk2,⟨by simp,fun i hi=>(Zso _ _ _ _ i).trans (ZiT hi),fun i hi=>(Znj _ _ _ _ _ i).trans (decide_eq_false ?_)⟩,hR.kp.size,hR.lt (List.mem_cons_self),hR.lt (List.mem_cons_of_mem _ List.mem_cons_self)⟩
   rw [hW]; rw [Zec] at hi; omega
  clear hR hF kc hW
  rintro W1 ⟨hR,hB,hs0,hs3,hs2⟩
  generalize w.heap.size=BB at hB hs0 hs3 hs2 ⊢
  have hpl:=Zec p
  have hps:p.size≤64:=by simpa [vk] using hv
  have hF:=hR.fx
  have hc0:(0:Int)≤(c:Int):=by omega
  go_loop [4] (fun v=>∃ n:Nat,v=.slice (some ⟨BB,0,none⟩) n c∧n≤p.size∧Hid (upl (p.toList.take n)=upl p.toList)) (fun v=>match v with | .slice _ n _=>n | _=>0)
  case atStart=>exact ⟨p.size,rfl,Nat.le_refl _,Lib.hid (by rw [List.take_of_length_le (by omega)])⟩
  case round =>
   obtain ⟨n,rfl,hn,hu⟩:=hrel
   cases n with
   | zero =>
    have hu':=hu.out
    go_wp2_with (first | (refine Xj hR ?_) | (refine Xk hR ?_; (try clear hF); clear hR; intro w hR; have hF:=hR.fx) | (refine Ym hR ?_; (try clear hF); clear hR; intro w B hR; have hF:=hR.fx))
    have hup:pfx p=⟨⟨p,false⟩,⟨⟨#[]⟩,true⟩⟩:=by rw [pfx,if_pos hv,upb,← hu']; rfl
    (exact Zd5 hR Tryz.results219 rfl UpI.at (by exact inferInstance) rfl ⟨pfx p,by rw [hup],rfl,hR.kp_nof⟩)
   | succ m =>
    have hml:m<p.toList.length:=by omega
    have hx:=hB.cell m hml
    have hz:=hB.fz m hml
    have hm0:(0:Int)≤(m:Int):=by omega
    have hm1:((m:Int)+1≤(c:Int)):=by omega
    by_cases h255:p.toList[m]=255
    ·rw [h255] at hx
     go_wp2_with (first | (refine Xj hR ?_) | (refine Xk hR ?_; (try clear hF); clear hR; intro w hR; have hF:=hR.fx) | (refine Ym hR ?_; (try clear hF); clear hR; intro w B hR; have hF:=hR.fx))
     have e:=List.take_append_getElem hml
     go_round
     case rel=>exact ⟨m,rfl,by omega,Lib.hid (by rw [← hu.out,← e,h255,ZkP])⟩
     case measure=>simp
    ·have hlast:=ZlU (p.toList.take m) h255
     have e:=List.take_append_getElem hml
     rw [e,hu.out] at hlast
     have hx2:p.toList[m].toNat<255:=by
      have:=p.toList[m].toNat_lt
      have:p.toList[m].toNat≠255:=fun e=>h255 (UInt8.toNat_inj.1 (by simpa using e))
      omega
     have hbe:((p.toList[m].toNat:Int) == 255)=false:=beq_eq_false_iff_ne.2 (by omega)
     have hx3:((p.toList[m].toNat:Int)≤254):=by omega
     have hx4:(0:Int)≤(p.toList[m].toNat:Int):=by omega
     have Hl:=Lib.hid hlast
     clear hlast e hu
     generalize hxm:p.toList[m]=x at hx hx2 hbe hx3 hx4 Hl h255
     have Hxm:=Lib.hid hxm
     clear hxm h255 hx2
     go_upto_region 10 with (first | (refine Xj hR ?_) | (refine Xk hR ?_; (try clear hF); clear hR; intro w hR; have hF:=hR.fx) | (refine Ym hR ?_; (try clear hF); clear hR; intro w B hR; have hF:=hR.fx))
     have hlen:(p.toList.take m++[x+1]).length=m+1:=by simp; omega
     have hxn:(x+1).toNat=x.toNat+1:=by rw [UInt8.toNat_add]; have:(1:UInt8).toNat=1:=rfl; omega
     refine Zjt (fun W2=>Rep w0 nof [] [⟨B3,72,[.string p,.bool false,.string ⟨#[]⟩,.bool true]⟩,⟨B2,72,[.string ⟨#[]⟩,.bool false,.string ⟨#[]⟩,.bool false]⟩] W2∧(∀ j (h:j<(p.toList.take m++[x+1]).length),W2.cell? ⟨BB,j,none⟩=some (.int .u8 ((p.toList.take m++[x+1])[j].toNat:Int)))) ⟨hR.aside hs0 (by simp only [List.mem_cons,List.not_mem_nil,or_false,forall_eq_or_imp,forall_eq]; omega) _,?_⟩ ?_
     ·intro j h
      rw [hlen] at h
      by_cases hjm:j=m
      ·subst hjm
       rw [World.cell?_setCell_same (h:=hx)]
       rw [List.getElem_append_right (by simp; omega)]
       simp only [List.getElem_singleton,hxn]
       push_cast
       rfl
      ·rw [World.cell?_setCell_other (w:=W1) (a:=⟨BB,m,none⟩) (b:=⟨BB,j,none⟩) (h:=by simp <;> omega),hB.cell j (by omega),List.getElem_append_left (by simp; omega),List.getElem_take]
     clear hR hF hB hx hz
     rintro W2 ⟨hR,hB⟩
     have kb:=run_convert_bytes_back (P:=Tryz.prog) W2 43 9 5 ⟨BB,0,none⟩ c (p.toList.take m++[x+1]) Tryz.underlying43 Tryz.underlying5 Tryz.underlying9 (fun j hj=>by rw [addr_add,Nat.zero_add]; exact hB j hj)
     rw [hlen] at kb
     have hup:pfx p=⟨⟨p,false⟩,⟨⟨(p.toList.take m++[x+1]).toArray⟩,false⟩⟩:=by rw [pfx,if_pos hv,upb,Hl.out]
     generalize p.toList.take m++[x+1]=q at kb hup
     have Hup:=Lib.hid hup
     clear hup hB Hl Hxm hbe hx3 hx4 hxn hlen
     have hF:=hR.fx
     go_wp2_with (first | (refine Xj hR ?_) | (refine Xk hR ?_; (try clear hF); clear hR; intro w hR; have hF:=hR.fx) | (refine Ym hR ?_; (try clear hF); clear hR; intro w B hR; have hF:=hR.fx))
     (exact Zd5 hR Tryz.results219 rfl UpI.at (by exact inferInstance) rfl ⟨pfx p,by rw [Hup.out],rfl,hR.kp_nof⟩)
end Go.Proofs.YtkcmgbbopedacaaGreatDoor
namespace Go.Proofs.YtkcmgbbopedacaaGreatDoor
open Go.RowKit
attribute [local irreducible] contains emp vld vb vk adj Yt ZtU proper greater lesser greatest least cmp Bnd.lt Op.bytesLess Calls Oper.wp wpList Code.wp Oper.upon
theorem ZuY {P:Program} {L:List Oper} {w0:World} {X:Fr} {R:List Win} {im:List Nat} {Qf:Act→List OB→Prop} {i:Nat} {r:List Nat} {a a':Act} {S:List OB} {op:Oper} {s d:TypeId} {x:Operand} {v u:Value}
   (ho:nth L i=some op) (hi:im.contains i=false) (hw:Region.wanted op (yielded L.toArray a.tmps)=true) (hop:op.op=.convert s d x) (hx:a.eval x=v) (hr:∀ w,Rep w0 X R S w→(convert s d v).run P w=.ok u w) (ha:a.put op.dst u=a')
   (h:DC P L.toArray w0 X R im Qf r a' S):DC P L.toArray w0 X R im Qf (i::r) a S:=by
 refine ZfA ho hi hw (fun w hR=>?_) ha h
 unfold execOp
 rw [hop]
 simp [hx,hr w hR]
theorem ZwG {P:Program} {L:List Oper} {w0:World} {X:Fr} {R:List Win} {im:List Nat} {Qf:Act→List OB→Prop} {i:Nat} {r:List Nat} {a a':Act} {S:List OB} {op:Oper} {s d:TypeId} {x y:Operand} {s1 s2:ByteArray}
   (ho:nth L i=some op) (hi:im.contains i=false) (hw:Region.wanted op (yielded L.toArray a.tmps)=true) (hop:op.op=.binOp .add s x y d) (hx:a.eval x=.string s1) (hy:a.eval y=.string s2) (hs:s1.size+s2.size≤9223372036854775807) (ha:a.put op.dst (.string (s1++s2))=a')
   (h:DC P L.toArray w0 X R im Qf r a' S):DC P L.toArray w0 X R im Qf (i::r) a S:=by
 refine ZgE ho hi hw (fun w=>?_) ha h
 unfold execOp
 rw [hop]
 simp [hx,hy,eqGuard,binOp,run_string_add_sum w s1 s2 hs]
theorem Zyu {w:World} {B:Nat} {x:UInt8} {v:Int} (hc:∀ i,w.cell? ⟨B,i,none⟩=([.int .u8 v]:List Value)[i]?) (hv:v=(x.toNat:Int)):(convert 43 9 (.slice (some ⟨B,0,none⟩) 1 1)).run Tryz.prog w=.ok (.string ⟨#[x]⟩) w :=
 run_convert_bytes_back (P:=Tryz.prog) w 43 9 5 ⟨B,0,none⟩ 1 [x] Tryz.underlying43 Tryz.underlying5 Tryz.underlying9 fun j hj=>by
  obtain rfl:j=0:=by simp at hj; omega
  rw [addr_add,hc,hv]; rfl
set_option maxRecDepth 100000 in
set_option maxHeartbeats 4000000 in
theorem Zsw {p:ByteArray} {w:World} :
   Calls Tryz.prog 142 #[.string p] w fun e w'=>∃ m:Rng,e=.returned (.agg #[.string m.lo.key,.bool m.lo.top,.string m.hi.key,.bool m.hi.top])∧Hid (m=pfx p)∧Kp [] w w':=by
 go_enter Tryz.func142,Tryz.ntmps142
 have hR:=Rep.refl w
 generalize w=w0 at hR
 cases hv:vk p
 ·go_wp2_with (first | (refine Xj hR ?_) | (refine Xk hR ?_; (try clear hF); clear hR; intro w hR; have hF:=hR.fx) | (refine Ym hR ?_; (try clear hF); clear hR; intro w B2 hR; have hF:=hR.fx) | (go_at_call 127; refine (ZfD).mono ?_; rintro e w ⟨rfl,rfl⟩))
  (exact Zd5 hR Tryz.results142 rfl UpI.at (by exact inferInstance) rfl ⟨zr,rfl,by simp [Hid,pfx,hv],hR.kp_nof⟩)
 ·go_wp2_with (first | (refine Xj hR ?_) | (refine Xk hR ?_; (try clear hF); clear hR; intro w hR; have hF:=hR.fx) | (refine Ym hR ?_; (try clear hF); clear hR; intro w B2 hR; have hF:=hR.fx) | (go_at_call 127; refine (ZfD).mono ?_; rintro e w ⟨rfl,rfl⟩))
  have hpl:=Zec p
  have hps:p.size≤64:=by simpa [vk] using hv
  go_loopw [3] (fun v wr=>∃ n:Nat,v=.int .i64 n∧n≤p.size∧Hid (upl (p.toList.take n)=upl p.toList)∧Rep w0 nof [] [⟨B2,72,[.string ⟨#[]⟩,.bool false,.string ⟨#[]⟩,.bool false]⟩] wr) (fun v _=>(intOf v).toNat)
  case atStart=>exact ⟨p.size,rfl,Nat.le_refl _,Lib.hid (by rw [List.take_of_length_le (by omega)]),hR⟩
  case round =>
   obtain ⟨n,rfl,hn,hu,hR⟩:=hrel
   have hF:=hR.fx
   cases n with
   | zero =>
    have hu':=hu.out
    go_wp2_with (first | (refine Xj hR ?_) | (refine Xk hR ?_; (try clear hF); clear hR; intro w hR; have hF:=hR.fx) | (refine Ym hR ?_; (try clear hF); clear hR; intro w B hR; have hF:=hR.fx))
    have hup:pfx p=⟨⟨p,false⟩,⟨⟨#[]⟩,true⟩⟩:=by rw [pfx,if_pos hv,upb,← hu']; rfl
    (exact Zd5 hR Tryz.results142 rfl UpI.at (by exact inferInstance) rfl ⟨pfx p,by rw [hup],rfl,hR.kp_nof⟩)
   | succ m =>
    have hml:m<p.toList.length:=by omega
    have hm0:(0:Int)≤(m:Int):=by omega
    have hm1:((m:Int)<(p.size:Int)):=by omega
    have hm2:m<p.size:=by omega
    have hm3:((m:Int)≤(p.size:Int)):=by omega
    have hmp:(0:Int)<(m:Int)+1:=by omega
    have hwr:IntKind.i64.wrap (m:Int)=m:=IntWalk.i64_in _ (by omega)
    have hpm:p[m]=p.toList[m]:=by simp [ByteArray.toList_eq]; rfl
    have e:=List.take_append_getElem hml
    by_cases h255:p.toList[m]=255
    ·have hb:((p[m].toNat:Int) == 255)=true:=by rw [hpm,h255]; rfl
     clear hpm
     go_wp2_with (first | (refine Xj hR ?_) | (refine Xk hR ?_; (try clear hF); clear hR; intro w hR; have hF:=hR.fx) | (refine Ym hR ?_; (try clear hF); clear hR; intro w B hR; have hF:=hR.fx))
     go_roundw
     case rel=>exact ⟨m,rfl,by omega,Lib.hid (by rw [← hu.out,← e,h255,ZkP]),hR⟩
     case measure=>simp [intOf]
    ·have hlast:=ZlU (p.toList.take m) h255
     rw [e,hu.out] at hlast
     have hx2:p[m].toNat<255:=by
      rw [hpm]
      have:=p.toList[m].toNat_lt
      have:p.toList[m].toNat≠255:=fun e=>h255 (UInt8.toNat_inj.1 (by simpa using e))
      omega
     have hb:((p[m].toNat:Int) == 255)=false:=beq_eq_false_iff_ne.2 (by omega)
     have hx1:(p[m]+1).toNat=p[m].toNat+1:=by rw [UInt8.toNat_add]; have:(1:UInt8).toNat=1:=rfl; omega
     have H8:Hid (((p[m].toNat:Int)+1) % 256=((p[m]+1).toNat:Int)):=Lib.hid (by rw [hx1]; omega)
     have hup:pfx p=⟨⟨p,false⟩,⟨⟨(p.toList.take m++[p[m]+1]).toArray⟩,false⟩⟩:=by rw [pfx,if_pos hv,upb,hlast,hpm]
     have Hup:=Lib.hid hup
     clear hup hlast e hu hx1 hpm
     have Hex:Hid ((p.extract 0 m).size+(⟨#[p[m]+1]⟩:ByteArray).size≤9223372036854775807):=Lib.hid (by rw [ByteArray.size_extract]; show _+1≤_; omega)
     go_upto_region 8 with (first | (refine Xj hR ?_) | (refine Xk hR ?_; (try clear hF); clear hR; intro w hR; have hF:=hR.fx) | (refine Ym hR ?_; (try clear hF); clear hR; intro w B hR; have hF:=hR.fx))
     refine YJ 16 (0::1::2::3::4::5::6::7::8::9::10::11::12::13::14::15::[]) [11] hR mixed (by kernel_rfl) ?_; (try clear hF); clear hR; (repeat (first | (refine ZuY (v:=.slice (some ⟨B,0,none⟩) 1 1) rfl rfl rfl rfl rfl (fun w hR=>Zyu (B:=B) (x:=p[m]+1) (hR.cells List.mem_cons_self) H8.out) (by simp only [Act.put,List.setIfInBounds_toArray,List.set_cons_zero,List.set_cons_succ]; exact rfl) ?_) | (refine ZwG rfl rfl rfl rfl rfl rfl Hex.out (by simp only [Act.put,List.setIfInBounds_toArray,List.set_cons_zero,List.set_cons_succ]; exact rfl) ?_) | (refine dk ?_; intro B))); refine Zcg ?_; intro w hR; have hF:=hR.fx; try simp only [List.drop_succ_cons,List.drop_zero]
     go_wp2_with (first | (refine Xj hR ?_) | (refine Xk hR ?_; (try clear hF); clear hR; intro w hR; have hF:=hR.fx) | (refine Ym hR ?_; (try clear hF); clear hR; intro w B hR; have hF:=hR.fx))
     have hk:p.extract 0 m++(⟨#[p[m]+1]⟩:ByteArray)=⟨(p.toList.take m++[p[m]+1]).toArray⟩:=by
      apply ba_eq
      simp only [ByteArray.toList_eq,ByteArray.data_append,ByteArray.data_extract,Array.toList_append,Array.toList_extract,Nat.sub_zero,List.extract_eq_take_drop,List.drop_zero]
     (exact Zd5 hR Tryz.results142 rfl UpI.at (by exact inferInstance) rfl ⟨pfx p,by rw [Hup.out,← hk],rfl,hR.kp_nof⟩)
end Go.Proofs.YtkcmgbbopedacaaGreatDoor
namespace Go.Proofs.YtkcmgbbopedacaaGreatDoor
open Go.RowKit
theorem Step.ofKp {B:Nat→Prop} {H0:Hp} {ρ:Lc} {w w':World} (h:Kp [] w w'):Step B H0 [] ρ ρ w w' :=
 ⟨h.os,h.tape,h.output,h.size,fun _ _ h=>h,fun k l h=>.inl h,fun b hb _=>h.block b hb (by simp),fun k hk=>by simp [look] at hk,fun k blk hk=>by simp [look] at hk,fun k k' blk blk' l l' b hk=>by simp [look] at hk⟩
theorem ZtE {w:World} {ok:Nat→Prop}:∀ {ds:List D} {vs us:List Value},ds=vs.map D.c→RDs w ok ds us→us=vs
 | [],[],_,_,.nil=>rfl
 | [],_::_,_,h,_=>by simp at h
 | d::ds,[],_,h,_=>by simp at h
 | d::ds,v::vs,_,h,.cons h1 h2=>by
  simp only [List.map_cons,List.cons.injEq] at h
  obtain ⟨rfl,h⟩:=h
  cases h1
  rw [ZtE h h2]
theorem ZlW (l:List Rng):l.flatMap Rng.ds=(ZI l).map D.c:=by
 induction l with
 | nil=>rfl
 | cons r t ih=>simp only [List.flatMap_cons,ih,ZI,List.map_append]; rfl
theorem Ztp {w:World} {ok:Nat→Prop}:∀ {vs:List Value},vs.all Value.oneCell'=true→RDs w ok (vs.map D.c) vs
 | [],_=>.nil
 | v::vs,h=>by
  simp only [List.all_cons,Bool.and_eq_true] at h
  exact .cons (.c h.1) (Ztp h.2)
theorem ZnH (l:List Rng):(ZI l).all Value.oneCell'=true:=by
 rw [List.all_eq_true]
 intro v hv
 simp only [ZI,List.mem_flatMap] at hv
 obtain ⟨r,-,hr⟩:=hv
 exact List.all_eq_true.1 (show r.vals.all Value.oneCell'=true from rfl) v hr
theorem Zz3 {w:World} {ok:Nat→Prop} {n:Nat} {xs:List D} {v:Value} (h:RD w ok (.l n xs) v):(n=0∧xs=[]∧∃ p c,v=.slice p 0 c)∨∃ c b o vs,v=.slice (some ⟨b,o,none⟩) n c∧n≤c∧n≤maxLen∧ok b∧RDs w ok xs vs∧∀ j v,vs[j]?=some v→w.cell? ⟨b,o+j,none⟩=some v:=by
 cases h with
 | nil p c=>exact .inl ⟨rfl,rfl,p,c,rfl⟩
 | l g1 g0 g2 g3 g4=>exact .inr ⟨_,_,_,_,rfl,g1,g0,g2,g3,g4⟩
theorem Zl7 {f : FuncId} {fn : Func} (hf : Tryz.prog.funcs[f]? = some fn) (hn : (fn.name == "runtime.NumGoroutine") = false) (hb : fn.body.isNone = false) (l : List Rng) (hl : l.length ≤ 1000000)
   (hc:∀ {p:Option Addr} {n c:Nat} {w:World},Rd w 4 (.slice p n c) n (ZI l)→n≤1000000→Calls Tryz.prog f #[.slice p n c] w fun e w'=>∃ r sl,e=.returned r∧OS sl 72 4 r (union l).length (ZI (union l))∧Rep w nof [] sl w') :
   Spec Tryz.prog f [.d (lst Rng.ds l)] [] fun u h=>u=.d (lst Rng.ds (union l))∧h=[]:=by
 refine ⟨⟨fn,hf,hn,hb⟩,fun B w ρ vs hB hvs hr hlive=>?_⟩
 cases hvs with
 | cons h1 h2 =>
 cases h2
 cases h1 with
 | d h1 =>
 have hrl:(ZI l).length=l.length * 4:=by rw [ZR]; omega
 have hRd:∃ p c,(‹Value› : Value)=.slice p l.length c∧Rd w 4 (.slice p l.length c) l.length (ZI l):=by
  rcases Zz3 h1 with ⟨e1,e2,p,c,rfl⟩ | ⟨c,b,o,vs,rfl,g1,_,g2,g3,g4⟩
  ·exact ⟨p,c,by rw [e1],hrl,p,c,by rw [e1],by omega,.inl e1⟩
  ·have e3:=ZtE (ZlW l) g3
   subst e3
   exact ⟨_,_,rfl,hrl,_,_,rfl,g1,.inr ⟨_,_,rfl,g2.1,g4⟩⟩
 obtain ⟨p,c,rfl,hRd⟩:=hRd
 refine (hc hRd hl).mono ?_
 rintro e w' ⟨r,sl,rfl,hO,hR⟩
 refine ⟨r,_,[],ρ,rfl,⟨rfl,rfl⟩,Step.ofKp hR.kp_nof,?_,fun k hk=>by simp [look] at hk⟩
 obtain ⟨ho1,ho2⟩:=hO
 rcases ho2 with ⟨rfl,rfl,h0⟩ | ⟨g,cap,sp,rfl,rfl,h3,h4,h5⟩
 ·have:union l=[]:=List.eq_nil_of_length_eq_zero h0
  rw [this]; exact .d (.nil _ _)
 ·have hown:=hR.own _ List.mem_cons_self
  have hnew:=hR.new _ List.mem_cons_self
  simp only at hown hnew
  have hlt:=(Array.getElem?_eq_some_iff.1 hown).1
  refine .d ?_
  rw [lst,ZlW]
  refine .l h3 (Nat.le_trans h3 h4) ⟨hlt,hB _ hnew,fun k l' hk e=>?_⟩ (Ztp (ZnH _)) fun j v hv=>?_
  ·have:=hr.lt k l' g hk e; omega
  ·rw [World.cell?,hown]; simp [List.getElem?_append_left (List.getElem?_eq_some_iff.1 hv).1,hv]
instance ZxK (l:List Rng):Ct Tryz.prog 222 [.d (lst Rng.ds l)] (l.length≤1000000) (.d (lst Rng.ds (union l))):=⟨fun h=>Zl7 Tryz.func222 rfl rfl l h fun h1 h2=>Zus h1 h2⟩
instance ZxJ (l:List Rng):Ct Tryz.prog 19 [.d (lst Rng.ds l)] (l.length≤1000000) (.d (lst Rng.ds (union l))):=⟨fun h=>Zl7 Tryz.func19 rfl rfl l h fun h1 h2=>ZuI h1 h2⟩
theorem ZjK {f : FuncId} {fn : Func} (hf : Tryz.prog.funcs[f]? = some fn) (hn : (fn.name == "runtime.NumGoroutine") = false) (hb : fn.body.isNone = false) (p : ByteArray)
   (hc:∀ {w:World},Calls Tryz.prog f #[.string p] w fun e w'=>∃ m:Rng,e=.returned (.agg #[.string m.lo.key,.bool m.lo.top,.string m.hi.key,.bool m.hi.top])∧Hid (m=pfx p)∧Kp [] w w') :
   Spec Tryz.prog f [vS p] [] fun u h=>u=.a [vS (pfx p).lo.key,vB (pfx p).lo.top,vS (pfx p).hi.key,vB (pfx p).hi.top]∧h=[]:=by
 refine ⟨⟨fn,hf,hn,hb⟩,fun B w ρ vs hB hvs hr hlive=>?_⟩
 cases hvs with
 | cons h1 h2 =>
 cases h2
 cases ZbM h1
 refine hc.mono ?_
 rintro e w' ⟨m,rfl,hm,hk⟩
 have hm:=hm.out
 subst hm
 exact ⟨_,_,[],ρ,rfl,⟨rfl,rfl⟩,Step.ofKp hk,.a (.cons (.d (.c rfl)) (.cons (.d (.c rfl)) (.cons (.d (.c rfl)) (.cons (.d (.c rfl)) .nil)))),fun k hk=>by simp [look] at hk⟩
instance Zxi (p:ByteArray):Ct Tryz.prog 219 [vS p] True (.a [vS (pfx p).lo.key,vB (pfx p).lo.top,vS (pfx p).hi.key,vB (pfx p).hi.top]):=⟨fun _=>ZjK Tryz.func219 rfl rfl p Zr4⟩
instance Zxm (p:ByteArray):Ct Tryz.prog 142 [vS p] True (.a [vS (pfx p).lo.key,vB (pfx p).lo.top,vS (pfx p).hi.key,vB (pfx p).hi.top]):=⟨fun _=>ZjK Tryz.func142 rfl rfl p Zsw⟩
end Go.Proofs.YtkcmgbbopedacaaGreatDoor
namespace Go.Proofs.YtkcmgbbopedacaaGreatDoor
open Go.ChangeShapes Go.WideShapes Go.ChangeAt Go.RowKit Go.Joins
theorem own:ownKnob Tryz.prog.godebug=none:=by kernel_rfl
theorem laidOut:laidOutB Tryz.prog=true:=by kernel_rfl
theorem Zl2 : Tryz.prog.globalNamed "skipgraph/skipgraphworld.letters" = some 0 := by kernel_rfl
theorem Zkc:(Tryz.prog.globals[(0:Nat)]?).map (·.type)=some 195:=by kernel_rfl
theorem ZwT:Tryz.prog.cellsOf 195=6:=by kernel_rfl
theorem cellsS:Tryz.prog.cellsOf 9=1:=by kernel_rfl
theorem ZnF {W : World} (h : laidMetH Tryz.prog [("skipgraph/skipgraphworld.letters", Rows.laid_skipgraph_skipgraphworld_letters)] W) :
   ∀ e ∈ GL,e.1<W.heap.size∧∀ (j:Nat) (v:Value),e.2[j]?=some v→W.cell? ⟨e.1,j,none⟩=some v:=by
 obtain ⟨ps, ⟨g', t', cs, fuel, p, q, hg', ht', hvar, hd, _, _⟩, _⟩ := (h : laidMet Tryz.prog [("skipgraph/skipgraphworld.letters", Rows.laid_skipgraph_skipgraphworld_letters)] W)
 obtain rfl:=Option.some.inj (Zl2.symm.trans hg')
 obtain rfl:=Option.some.inj (Zkc.symm.trans ht')
 obtain ⟨xs,m,rfl,hx,hlen,hxl,hel⟩:=DataW.trod_array Tryz.underlying195 hd
 simp only [cellsS,ZwT,Nat.mul_one] at hlen hel
 have hxs:xs.map (·.1)=[.lit (.string [97]),.lit (.string [98]),.lit (.string [99]),.lit (.string [0]),.lit (.string [255]),.lit (.string [109])]:=by
  have:=congrArg Prod.fst hx
  simpa [Rows.laid_skipgraph_skipgraphworld_letters] using this.symm
 have key:∀ i,i<6→∃ s:ByteArray,cs[i]?=some (.string s)∧([.lit (.string [97]),.lit (.string [98]),.lit (.string [99]),.lit (.string [0]),.lit (.string [255]),.lit (.string [109])]:List (DataW Unit))[i]?=some (.lit (.string s.data.toList)):=by
  intro i hi
  have h1:=hel i hi
  obtain ⟨y,hy⟩:∃ y,xs[i]?=some y:=⟨xs[i],List.getElem?_eq_getElem (by omega)⟩
  rw [hy] at h1
  obtain ⟨s,e1,rfl,_⟩:=DataW.trod_string Tryz.underlying9 h1
  have h2:(xs.map (·.1))[i]?=some (.lit (.string s.data.toList)):=by simp [hy]
  rw [hxs] at h2
  refine ⟨s,?_,h2⟩
  have:=congrArg (·[0]?) e1
  simpa [List.getElem?_take,List.getElem?_drop] using this
 intro e he
 obtain rfl:e=_:=List.mem_singleton.1 he
 have cell:∀ i,i<6→W.cell? ⟨0,i,none⟩=cs[i]?:=fun i hi=>by
  obtain ⟨s,h1,_⟩:=key i hi
  exact World.var?_cell Zl2 hvar i
 have bs:∀ (s:ByteArray) (l:List UInt8),s.data.toList=l→s=⟨l.toArray⟩:=fun s l h=>by
  cases s with | mk a=>simp only at h; subst h; simp
 have all:∀ j v,([.string ⟨#[97]⟩,.string ⟨#[98]⟩,.string ⟨#[99]⟩,.string ⟨#[0]⟩,.string ⟨#[255]⟩,.string ⟨#[109]⟩]:List Value)[j]?=some v→W.cell? ⟨0,j,none⟩=some v:=fun j v hv=>by
  have hj:j<6:=(List.getElem?_eq_some_iff.1 hv).1
  obtain ⟨s,h1,h2⟩:=key j hj
  rw [cell j hj,h1]
  have:j=0∨j=1∨j=2∨j=3∨j=4∨j=5:=by omega
  rcases this with rfl | rfl | rfl | rfl | rfl | rfl <;> (simp at h2 hv; rw [← hv,bs s _ h2.symm])
 exact ⟨World.block_lt_of_cell? W ⟨0,0,none⟩ (all 0 _ rfl),all⟩
theorem ZiS {H:Type} {enc:TypeId × Value→H} {P:Program} (hl:laidOutB P=true) {W W':World} (hb:Below W.heap.size W W') (ts:List TypeId) :
   ∀ (vs:List Value) (ds:List (DataW H)) (ps:List MemPlace),(ts.all fun t=>P.readableRec t && decide (t<P.types.size))=true →
    DataW.TrodAll enc P W 0 (fun _=>true) true ts vs ds ps→(∀ x ∈ ps,x.block<W.heap.size)→DataW.TrodAll enc P W' 0 (fun b=>decide (b<W.heap.size)) true ts vs ds ps:=by
 induction ts with
 | nil =>
  intro vs ds ps _ h _
  cases vs <;> cases ds <;> first | exact h | exact h.elim
 | cons t ts ih =>
  intro vs ds ps hr h hlt
  cases vs with
  | nil=>exact h.elim
  | cons v vs =>
   cases ds with
   | nil=>exact h.elim
   | cons d ds =>
    simp only [List.all_cons,Bool.and_eq_true,decide_eq_true_eq] at hr
    obtain ⟨p,q,h1,h2,rfl⟩:=h
    exact ⟨p,q,Below.trod hl hr.1.1 hr.1.2 h1 hb (fun x hx=>hlt x (List.mem_append_left _ hx)),ih vs ds q (by simpa using hr.2) h2 (fun x hx=>hlt x (List.mem_append_right _ hx)),rfl⟩
theorem ZsP {H:Type} {enc:TypeId × Value→H} {f:Func} {s:ChangeSpec} {W W':World} {args:Array Value} {ds gs:List (DataW H)} {before:List MemPlace}
   (hvars:s.vars=[]) (hres:f.resultTypes=#[4]) (hr:(f.params.toList.all fun t=>Tryz.prog.readableRec t && decide (t<Tryz.prog.types.size))=true)
   (hfn:s.fn H (ds++gs)={ results:=[.lit (.bool true)],args:=ds }) (hW:DataW.Whole enc Tryz.prog f.params.toList s.vars false W args.toList ds gs before) (hk:Kp [] W W') :
   s.post enc Tryz.prog f false true false false W args (.bool true) W':=by
 have hb:=hk.below
 have hlt:∀ x ∈ before,x.block<W.heap.size:=fun x hx=>hW.lt x hx
 have hW':=hW
 obtain ⟨p,q,hA,hV,rfl,-,-⟩:=hW
 refine ⟨ds,gs,p++q,[],p,[],hW',?_,?_,?_,Below.frame hb _,fun h=>by cases h⟩
 ·rw [hfn,hres]
  exact trodAll_mk1 (shut_bool Tryz.underlying4 true)
 ·rw [hfn]
  exact ZiS laidOut hb _ _ _ _ hr hA (fun x hx=>hlt x (List.mem_append_left _ hx))
 ·rw [hfn,hvars]
  rfl
noncomputable def ZgM (os:Os):World :=
 { World.holding Tryz.prog os ⟨#[],#[],[]⟩ with heap:=(World.holding Tryz.prog os ⟨#[],#[],[]⟩).heap.modify 0 fun
  | .cells _ t frozen=>.cells #[.string ⟨#[97]⟩,.string ⟨#[98]⟩,.string ⟨#[99]⟩,.string ⟨#[0]⟩,.string ⟨#[255]⟩,.string ⟨#[109]⟩] t frozen
  | o=>o }
end Go.Proofs.YtkcmgbbopedacaaGreatDoor
namespace Go.Proofs.YtkcmgbbopedacaaGreatDoor
open Go.ChangeShapes Go.WideShapes Go.ChangeAt Go.RowKit Go.Joins
set_option maxRecDepth 100000
section
variable {H:Type} {enc:TypeId × Value→H} {W:World} {base:Nat} {fuel:Nat} {cs:List Value} {x:DataW H × List MemPlace}
end
theorem Zla {f:FuncId} {us:List V} (hs:Spec Tryz.prog f us [] fun u h=>u=vB true∧h=[]) {W:World} (hg:∀ e ∈ GL,e.1<W.heap.size∧∀ (j:Nat) (v:Value),e.2[j]?=some v→W.cell? ⟨e.1,j,none⟩=some v) {vs:List Value} (hvs:RVs W (fun b=>b<W.heap.size) (fun _=>none) us vs) :
   Calls Tryz.prog f vs.toArray W fun e W'=>e=.returned (.bool true)∧Kp [] W W':=by
 have hok:∀ b,b<W.heap.size→okb (fun _=>True) W (fun _=>none) b:=fun b hb=>⟨hb,trivial,fun k l h=>(by cases h)⟩
 refine (hs.run (fun _=>True) W (fun _=>none) vs (fun _ _=>trivial) (hvs.mono (fun b hb=>⟨hok b hb,rfl⟩) fun _ _ h=>h) ⟨fun k blk h=>(by simp [look] at h),fun k k' blk blk' l l' b h=>(by simp [look] at h),fun k l b h=>(by cases h),fun e he=>⟨hok _ (hg e he).1,(hg e he).2⟩⟩ (fun k l h=>(by cases h))).mono ?_
 rintro e W' ⟨r,u,h,ρ',rfl,⟨rfl,rfl⟩,hst,hrv,-⟩
 rw [ZbM hrv]
 exact ⟨rfl,hst.os,hst.tape,hst.output,hst.size,fun b hb _=>hst.keep b hb fun k l _ hk=>by cases hk⟩
end Go.Proofs.YtkcmgbbopedacaaGreatDoor
