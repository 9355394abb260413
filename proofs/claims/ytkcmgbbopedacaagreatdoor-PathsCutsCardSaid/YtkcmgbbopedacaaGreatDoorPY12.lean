/-
  Lemmas: Walks of the library's DeleteFunc at an own list of ranges.
-/
import Derived.Test.YtkcmgbbopedacaaGreatDoorPY11
import Derived.Test.YtkcmgbbopedacaaGreatDoorChecked
import Derived.Test.YtkcmgbbopedacaaGreatDoorPY1
import Derived.Test.YtkcmgbbopedacaaGreatDoorPY4
import Derived.Test.YtkcmgbbopedacaaGreatDoorPY10
import Derived.Test.YtkcmgbbopedacaaGreatDoorPY8
import Derived.Handy
set_option linter.unusedSimpArgs false
set_option linter.unusedVariables false
namespace Go.Proofs.YtkcmgbbopedacaaGreatDoor
open Go.RowKit
section
variable {P:Program} {o:Oper} {w0 w:World} {X:Fr} {R:List Win} {S:List OB} {a:Act} {a0:Act} {T T':TypeId} {x y:Operand} {b off n:Nat} {c:List Value} {ag:Bool}
def ZuP (P:Program) (w0:World) (X:Fr) (R:List Win) (o:Oper) (a:Act) (S:List OB) (a':Nat→Act) (S':Nat→List OB):Prop :=
 ∀ (ops:Array Oper) (Q:Exit→Act→World→Prop) (rest:List Oper) (w:World),Rep w0 X R S w→(∀ w' B,Rep w0 X R (S' B) w'→wpList P ops Q rest (a' B) w')→wpList P ops Q (o::rest) a w
theorem Zut {d:Tmp} {l:List Value} {a':Nat→Act} (hop:o.op=.box T x) (hd:o.dst=some d) (hg:o.guard=none) (hv:(a.eval x).cells=l.toArray) (ha:∀ B,a.put (some d) (.pointer (some ⟨B,0,none⟩))=a' B):ZuP P w0 X R o a S a' (fun B=>⟨B,T,l⟩::S) :=
 fun _ _ _ _ hR h=>Zm1 hR hop hd hg hv fun w' B hR'=>⟨_,ha B,h w' B hR'⟩
theorem ZpO {d:Tmp} {l:List Value} {a':Nat→Act} (hop:o.op=.alloc T) (hd:o.dst=some d) (hg:o.guard=none) (hz:Zr P T l) (ha:∀ B,a.put (some d) (.pointer (some ⟨B,0,none⟩))=a' B):ZuP P w0 X R o a S a' (fun B=>⟨B,T,l⟩::S) :=
 fun _ _ _ _ hR h=>ZjN hR hop hd hg hz fun w' B hR'=>⟨_,ha B,h w' B hR'⟩
theorem Zwt {t E:TypeId} {z bytes len:Nat} {parts:Array (Nat × Operand)} {d:Tmp} {l:List Value} {a':Nat→Act} (hop:o.op=.buildSlice t len parts) (hd:o.dst=some d) (hg:o.guard=none) (hS:Sl P t E z bytes)
   (hp:(Zg6 z 0 (parts.toList.map fun p=>(p.1,a.eval p.2)) && (parts.size == len) && decide (parts.size * z≤16777216))=true) (hl:flat (parts.toList.map fun p=>(p.1,a.eval p.2))=l) (ha:∀ B,a.put (some d) (.slice (some ⟨B,0,none⟩) len len)=a' B):ZuP P w0 X R o a S a' (fun B=>⟨B,E,l⟩::S) :=
 fun _ _ _ _ hR h=>ZpS hR hop hd hg hS hp hl fun w' B hR'=>⟨_,ha B,h w' B hR'⟩
theorem Zwq {vs c':List Value} {F:List Value→List OB} (hop:o.op=.store T x y) (hd:o.dst=none) (hg:o.guard=none) (hx:a.eval x=.pointer (some ⟨b,off,none⟩)) (hv:(a.eval y).cells=vs.toArray) (hA:UpI S b T' c F) (hT:Ty P T n ag) (hc:stL off vs c=c')
   (hl:(decide (off+n≤c.length) && (vs.length == n) && vs.all Value.oneCell')=true):ZuP P w0 X R o a S (fun _=>a) (fun _=>F c') :=
 fun _ _ _ _ hR h=>ZpR hR hop hd hg hx hv hA.at hT hc (hA.out c') hl fun w' hR'=>h w' 0 hR'
def LdS (P:Program) (w0:World) (X:Fr) (R:List Win) (o:Oper) (a:Act) (S:List OB) (a0:Act):Prop :=
 ∀ (ops:Array Oper) (Q:Exit→Act→World→Prop) (rest:List Oper) (w:World),Rep w0 X R S w→wpList P ops Q rest a0 w→wpList P ops Q (o::rest) a w
theorem Zwu {F:List Value→List OB} (hop:o.op=.load T x) (hg:o.guard=none) (hx:a.eval x=.pointer (some ⟨b,off,none⟩)) (hA:UpI S b T' c F) (hT:Ty P T n ag) (hl:(decide (off+n≤c.length) && (ag || n == 1))=true) (ha:a.put o.dst (ldV ag n off c)=a0) :
 LdS P w0 X R o a S a0:=fun _ _ _ _ hR h=>Zp0 hR hop hg hx hA.at hT hl ha h
class ZmM (R:List Win) (b off:Nat) (j:outParam Nat) (vs:outParam (List Value)):Prop where
 out:∃ o,(⟨b,o,vs⟩:Win) ∈ R∧off=o+j
instance (priority:=low) ZmM.there {x:Win} {R:List Win} {b off j:Nat} {vs:List Value} [h:ZmM R b off j vs]:ZmM (x::R) b off j vs:=by
 obtain ⟨o,h1,h2⟩:=h.out
 exact ⟨o,List.mem_cons_of_mem _ h1,h2⟩
instance (priority:=low) ZmM.skip {l R:List Win} {b off j:Nat} {vs:List Value} [h:ZmM R b off j vs]:ZmM (l++R) b off j vs:=by
 obtain ⟨o,h1,h2⟩:=h.out
 exact ⟨o,List.mem_append_right _ h1,h2⟩
instance ZmM.at {b o j:Nat} {vs:List Value} {R:List Win}:ZmM (⟨b,o,vs⟩::R) b (o+j) j vs:=⟨o,List.mem_cons_self,rfl⟩
instance ZmM.here {b o:Nat} {vs:List Value} {R:List Win}:ZmM (⟨b,o,vs⟩::R) b o 0 vs:=⟨o,List.mem_cons_self,rfl⟩
theorem ZoL {j:Nat} {vs:List Value} (hR:Rep w0 X R S w) (hT:Ty P T n ag) (hW:ZmM R b off j vs) (hl:j+n≤vs.length) (h1:ag=false→n=1):(loadVar T ⟨b,off,none⟩).run P w=.ok (ldV ag n j vs) w:=by
 obtain ⟨o,hm,rfl⟩:=hW.out
 obtain ⟨g1,g2,g3⟩:=hR.win _ hm
 have hc:∀ i v,vs[i]?=some v→w.cell? ⟨b,o+i,none⟩=some v:=fun i v hv=>by rw [hR.kp.cell (p:=⟨b,o+i,none⟩) g1 g2]; exact g3 i v hv
 unfold loadVar
 rw [Sem.run_bind,Zbu hT]
 cases ag with
 | true =>
  have:=run_loadCells_list (P:=P) w ⟨b,o+j,none⟩ ((vs.drop j).take n) fun i v hv=>by
   rw [addr_add,Nat.add_assoc]
   refine hc _ _ ?_
   rw [List.getElem?_take] at hv
   split at hv
   ·simpa using hv
   ·cases hv
  rw [List.length_take,List.length_drop,Nat.min_eq_left (by omega)] at this
  simp [XO hT,this,ldV]
 | false =>
  have hn:=h1 rfl
  have h:=hc j (vs[j]'(by omega)) (List.getElem?_eq_getElem _)
  simp [ldV,load,Sem.run,h,List.getD,List.getElem?_eq_getElem (show j<vs.length by omega)]
theorem ZtZ {j:Nat} {vs:List Value} (hop:o.op=.load T x) (hg:o.guard=none) (hx:a.eval x=.pointer (some ⟨b,off,none⟩)) (hW:ZmM R b off j vs) (hT:Ty P T n ag) (hl:(decide (j+n≤vs.length) && (ag || n == 1))=true) (ha:a.put o.dst (ldV ag n j vs)=a0) :
   LdS P w0 X R o a S a0:=fun ops Q rest w hR h=>by
 simp only [Bool.and_eq_true,decide_eq_true_eq,Bool.or_eq_true,beq_iff_eq] at hl
 have hr:=ZoL (P:=P) hR hT hW hl.1 (fun e=>hl.2.resolve_left (by simp [e]))
 refine BigFrame.wpList_want (by simp [Region.wanted,hg]) fun K hK=>?_
 unfold Oper.wp execOp
 rw [hop]
 simp only [hx,Instr.loadAt,Instr.sureAddr,Sem.run_bind,Sem.run_pure,Result.andThen_ok,hr,Oper.upon]
 subst ha
 exact hK _ _ h
theorem Xe {ops:Array Oper} {Q:Exit→Act→World→Prop} {rest:List Oper} (hR:Rep w0 X R S w) (h:wpList P ops Q rest a0 w)
 (hm:LdS P w0 X R o a S a0:=by
  first
   | exact Zwu rfl rfl rfl (by exact inferInstance) (by exact inferInstance) (by exact rfl) (by simp only [Act.put,List.setIfInBounds_toArray,List.set_cons_zero,List.set_cons_succ,ldV,List.drop_succ_cons,List.drop_zero,List.take_succ_cons,List.take_zero,List.getD_cons_zero,List.getD_cons_succ]; exact rfl)
   | exact ZtZ rfl rfl rfl (by exact inferInstance) (by exact inferInstance) (by exact rfl) (by simp only [Act.put,List.setIfInBounds_toArray,List.set_cons_zero,List.set_cons_succ,ldV,List.drop_succ_cons,List.drop_zero,List.take_succ_cons,List.take_zero,List.getD_cons_zero,List.getD_cons_succ]; exact rfl)):wpList P ops Q (o::rest) a w:=hm ops Q rest w hR h
theorem Xf {ops:Array Oper} {Q:Exit→Act→World→Prop} {rest:List Oper} {S':List OB} (hR:Rep w0 X R S w) (h:∀ w',Rep w0 X R S' w'→wpList P ops Q rest a w')
 (hm:ZuP P w0 X R o a S (fun _=>a) (fun _=>S'):=by exact Zwq rfl rfl rfl rfl rfl (by exact inferInstance) (by exact inferInstance) (by simp only [stL]; exact rfl) (by exact rfl)):wpList P ops Q (o::rest) a w:=hm ops Q rest w hR fun w' _ hR'=>h w' hR'
theorem Yj {ops:Array Oper} {Q:Exit→Act→World→Prop} {rest:List Oper} {a':Nat→Act} {S':Nat→List OB} (hR:Rep w0 X R S w) (h:∀ w' B,Rep w0 X R (S' B) w'→wpList P ops Q rest (a' B) w')
 (hm:ZuP P w0 X R o a S a' S':=by
  first
   | exact Zut rfl rfl rfl rfl (by intro B; simp only [Act.put,List.setIfInBounds_toArray,List.set_cons_zero,List.set_cons_succ]; exact rfl)
   | exact ZpO rfl rfl rfl (by exact Yd.out) (by intro B; simp only [Act.put,List.setIfInBounds_toArray,List.set_cons_zero,List.set_cons_succ]; exact rfl)
   | exact Zwt rfl rfl rfl (by exact inferInstance) (by exact rfl) (by simp only [List.map_cons,List.map_nil,flat,Zf8,Zf4,List.getD_cons_succ,List.getD_cons_zero,Zjr,Zhr,Zjf,Zjs,ZlH,Zjg,ZjC,ZlZ,List.cons_append,List.nil_append,List.append_nil]; exact rfl) (by intro B; simp only [Act.put,List.setIfInBounds_toArray,List.set_cons_zero,List.set_cons_succ]; exact rfl)):wpList P ops Q (o::rest) a w:=hm ops Q rest w hR h
def DS (P:Program) (L:Array Oper) (w0:World) (X:Fr) (R:List Win) (im:List Nat) (i:Nat) (a:Act) (S:List OB) (a':Nat→Act) (S':Nat→List OB):Prop :=
 ∀ (Qf:Act→List OB→Prop) (r:List Nat),(∀ B,DC P L w0 X R im Qf r (a' B) (S' B))→DC P L w0 X R im Qf (i::r) a S
variable {l:List Oper} {im:List Nat} {i:Nat} {v:Value}
theorem ZtK (ho:nth l i=some o) (hw:Region.wanted o (yielded l.toArray a.tmps)=false) (ha:a.put o.dst undef=a0):DS P l.toArray w0 X R im i a S (fun _=>a0) (fun _=>S):=fun _ _ h=>Zud ho hw ha (h 0)
theorem Zui (ho:nth l i=some o) (hi:im.contains i=false) (hw:Region.wanted o (yielded l.toArray a.tmps)=true) (hop:o.op=.move x) (ha:a.put o.dst (a.eval x)=a0):DS P l.toArray w0 X R im i a S (fun _=>a0) (fun _=>S):=fun _ _ h=>Zul ho hi hw hop ha (h 0)
theorem Zp3 (ho:nth l i=some o) (hi:im.contains i=false) (hw:Region.wanted o (yielded l.toArray a.tmps)=true) (hop:o.op=.assign x) (ha:a.put o.dst (a.eval x)=a0):DS P l.toArray w0 X R im i a S (fun _=>a0) (fun _=>S):=fun _ _ h=>Zp8 ho hi hw hop ha (h 0)
theorem ZxC {F:List Value→List OB} (ho:nth l i=some o) (hi:im.contains i=false) (hw:Region.wanted o (yielded l.toArray a.tmps)=true) (hop:o.op=.load T x) (hx:a.eval x=.pointer (some ⟨b,off,none⟩)) (hA:UpI S b T' c F) (hT:Ty P T n ag)
 (hl:(decide (off+n≤c.length) && (ag || n == 1))=true) (ha:a.put o.dst (ldV ag n off c)=a0):DS P l.toArray w0 X R im i a S (fun _=>a0) (fun _=>S):=fun _ _ h=>ZxH ho hi hw hop hx hA.at hT hl ha (h 0)
theorem ZwH {j:Nat} {vs:List Value} (ho:nth l i=some o) (hi:im.contains i=false) (hw:Region.wanted o (yielded l.toArray a.tmps)=true) (hop:o.op=.load T x) (hx:a.eval x=.pointer (some ⟨b,off,none⟩)) (hW:ZmM R b off j vs) (hT:Ty P T n ag)
   (hl:(decide (j+n≤vs.length) && (ag || n == 1))=true) (ha:a.put o.dst (ldV ag n j vs)=a0):DS P l.toArray w0 X R im i a S (fun _=>a0) (fun _=>S):=fun _ _ h=>by
 simp only [Bool.and_eq_true,decide_eq_true_eq,Bool.or_eq_true,beq_iff_eq] at hl
 refine Zfh ho hi hw (fun w hR=>?_) ha (h 0)
 have hr:=ZoL (P:=P) hR hT hW hl.1 (fun e=>hl.2.resolve_left (by simp [e]))
 unfold execOp
 rw [hop]
 simp only [hx,Instr.loadAt,Instr.sureAddr,Sem.run_bind,Sem.run_pure,Result.andThen_ok,hr]
theorem Zwi {d:Tmp} {vs:List Value} {a':Nat→Act} (ho:nth l i=some o) (hi:im.contains i=true) (hw:Region.wanted o (yielded l.toArray a.tmps)=true) (hop:o.op=.box T x) (hd:o.dst=some d) (hv:(a.eval x).cells=vs.toArray)
 (ha:∀ B,a.put (some d) (.pointer (some ⟨B,0,none⟩))=a' B):DS P l.toArray w0 X R im i a S a' (fun B=>⟨B,T,vs⟩::S):=fun _ _ h=>Zww ho hi hw hop hd hv fun B=>⟨_,ha B,h B⟩
theorem ZrX {d:Tmp} {vs:List Value} {a':Nat→Act} (ho:nth l i=some o) (hi:im.contains i=true) (hw:Region.wanted o (yielded l.toArray a.tmps)=true) (hop:o.op=.alloc T) (hd:o.dst=some d) (hz:Zr P T vs)
 (ha:∀ B,a.put (some d) (.pointer (some ⟨B,0,none⟩))=a' B):DS P l.toArray w0 X R im i a S a' (fun B=>⟨B,T,vs⟩::S):=fun _ _ h=>Zr5 ho hi hw hop hd hz fun B=>⟨_,ha B,h B⟩
theorem ZxJ {t E:TypeId} {z bytes len:Nat} {parts:Array (Nat × Operand)} {d:Tmp} {vs:List Value} {a':Nat→Act} (ho:nth l i=some o) (hi:im.contains i=true) (hw:Region.wanted o (yielded l.toArray a.tmps)=true) (hop:o.op=.buildSlice t len parts) (hd:o.dst=some d) (hS:Sl P t E z bytes)
   (hp:(Zg6 z 0 (parts.toList.map fun p=>(p.1,a.eval p.2)) && (parts.size == len) && decide (parts.size * z≤16777216))=true) (hl:flat (parts.toList.map fun p=>(p.1,a.eval p.2))=vs) (ha:∀ B,a.put (some d) (.slice (some ⟨B,0,none⟩) len len)=a' B):DS P l.toArray w0 X R im i a S a' (fun B=>⟨B,E,vs⟩::S) :=
 fun _ _ h=>ZxA ho hi hw hop hd hS hp hl fun B=>⟨_,ha B,h B⟩
theorem ZtS (ho:nth l i=some o) (hi:im.contains i=false) (hw:Region.wanted o (yielded l.toArray a.tmps)=true) (hv:∀ w,(execOp a.eval o).run P w=.ok (.value v) w) (ha:a.put o.dst v=a0):DS P l.toArray w0 X R im i a S (fun _=>a0) (fun _=>S):=fun _ _ h=>Zgq ho hi hw hv ha (h 0)
theorem Zsi (ho:nth l i=some o) (hi:im.contains i=false) (hw:Region.wanted o (yielded l.toArray a.tmps)=true) (hv:∀ w,Facts w R S→(execOp a.eval o).run P w=.ok (.value v) w) (ha:a.put o.dst v=a0):DS P l.toArray w0 X R im i a S (fun _=>a0) (fun _=>S):=fun _ _ h=>ZrW ho hi hw hv ha (h 0)
theorem dk {Qf:Act→List OB→Prop} {r:List Nat} {a':Nat→Act} {S':Nat→List OB} (h:∀ B,DC P l.toArray w0 X R im Qf r (a' B) (S' B))
 (hs:DS P l.toArray w0 X R im i a S a' S':=by
  first
   | exact ZtK rfl rfl (by simp only [Act.put,List.setIfInBounds_toArray,List.set_cons_zero,List.set_cons_succ]; exact rfl)
   | exact Zui rfl rfl rfl rfl (by simp only [Act.put,Zf8,Zf4,List.getD_cons_succ,List.getD_cons_zero,List.setIfInBounds_toArray,List.set_cons_zero,List.set_cons_succ]; exact rfl)
   | exact Zp3 rfl rfl rfl rfl (by simp only [Act.put,Zf8,Zf4,List.getD_cons_succ,List.getD_cons_zero,List.setIfInBounds_toArray,List.set_cons_zero,List.set_cons_succ]; exact rfl)
   | exact ZxC rfl rfl rfl rfl rfl (by exact inferInstance) (by exact inferInstance) (by exact rfl) (by simp only [Act.put,List.setIfInBounds_toArray,List.set_cons_zero,List.set_cons_succ,ldV,List.drop_succ_cons,List.drop_zero,List.take_succ_cons,List.take_zero,List.getD_cons_zero,List.getD_cons_succ]; exact rfl)
   | exact ZwH rfl rfl rfl rfl rfl (by exact inferInstance) (by exact inferInstance) (by exact rfl) (by simp only [Act.put,List.setIfInBounds_toArray,List.set_cons_zero,List.set_cons_succ,ldV,List.drop_succ_cons,List.drop_zero,List.take_succ_cons,List.take_zero,List.getD_cons_zero,List.getD_cons_succ]; exact rfl)
   | exact Zwi rfl rfl rfl rfl rfl rfl (by intro B; simp only [Act.put,List.setIfInBounds_toArray,List.set_cons_zero,List.set_cons_succ]; exact rfl)
   | exact ZrX rfl rfl rfl rfl rfl (by exact Yd.out) (by intro B; simp only [Act.put,List.setIfInBounds_toArray,List.set_cons_zero,List.set_cons_succ]; exact rfl)
   | exact ZxJ rfl rfl rfl rfl rfl (by exact inferInstance) (by exact rfl) (by simp only [List.map_cons,List.map_nil,flat,Zf8,Zf4,List.getD_cons_succ,List.getD_cons_zero,Zjr,Zhr,Zjf,Zjs,ZlH,Zjg,ZjC,ZlZ,List.cons_append,List.nil_append,List.append_nil]; exact rfl) (by intro B; simp only [Act.put,List.setIfInBounds_toArray,List.set_cons_zero,List.set_cons_succ]; exact rfl)
   | exact ZtS (by exact rfl) (by exact rfl) (by exact rfl) (by intro w; first | (go_simp; exact rfl) | (go_simp; done)) (by simp only [Act.put,List.setIfInBounds_toArray,List.set_cons_zero,List.set_cons_succ]; exact rfl)
   | exact Zsi (by exact rfl) (by exact rfl) (by exact rfl) (by intro w hF; simp only [Facts,Zgi,ZgB,and_true,Nat.reduceAdd] at hF; (first | (go_simp; done) | (go_simp; exact rfl))) (by simp only [Act.put,List.setIfInBounds_toArray,List.set_cons_zero,List.set_cons_succ]; exact rfl)):DC P l.toArray w0 X R im Qf (i::r) a S:=hs Qf r h
theorem dn {q:Act→Prop} {d:Option Tmp} {a':Act} (h:q a') (ha:a.put d v=a':=by simp only [Act.put,List.setIfInBounds_toArray,List.set_cons_zero,List.set_cons_succ]; exact rfl):∃ a',a.put d v=a'∧q a':=⟨a',ha,h⟩
section
variable {Qf:Act→List OB→Prop} {r:List Nat} {f:FuncId} {args:Array Value}
theorem Zaz (h:∀ w,Rep w0 X R S w→Calls P f args w fun e w'=>∃ v,e=.returned v∧Kp [] w w'∧∃ a',a.put o.dst v=a'∧DC P l.toArray w0 X R im Qf r a' S)
 (ho:nth l i=some o:=by exact rfl) (hi:im.contains i=true:=by exact rfl) (hw:Region.wanted o (yielded l.toArray a.tmps)=true:=by exact rfl) (hr:∀ w,(execOp a.eval o).run P w=.ok (.enter f args) w:=by intro w; go_simp; exact ⟨rfl,rfl⟩):DC P l.toArray w0 X R im Qf (i::r) a S:=ZrE ho hi hw hr h
end
class Zj9 (S sl:List OB) (G:outParam (List OB→List OB)):Prop where
 out:∃ pre post,Ctx S sl pre post∧∀ s,G s=pre++(s++post)
instance (priority:=low) Zj9.skip {l S sl:List OB} {G:List OB→List OB} [h:Zj9 S sl G]:Zj9 (l++S) sl (fun s=>l++G s):=by
 obtain ⟨p,q,h1,h2⟩:=h.out
 exact ⟨l++p,q,.skip h1,fun s=>by rw [h2]; simp⟩
instance (priority:=low) Zj9.there {x:OB} {S sl:List OB} {G:List OB→List OB} [h:Zj9 S sl G]:Zj9 (x::S) sl (fun s=>x::G s):=by
 obtain ⟨p,q,h1,h2⟩:=h.out
 exact ⟨x::p,q,.there h1,fun s=>by rw [h2]; simp⟩
instance Zj9.one {e:OB} {post:List OB}:Zj9 (e::post) [e] (fun s=>s++post):=⟨[],post,.one,fun _=>by simp⟩
instance Zj9.last {sl:List OB}:Zj9 sl sl (fun s=>s):=⟨[],[],.last,fun _=>by simp⟩
instance Zj9.here {sl post:List OB}:Zj9 (sl++post) sl (fun s=>s++post):=⟨[],post,.here,fun _=>by simp⟩
instance Zj9.empty {S:List OB}:Zj9 S [] (fun s=>s++S):=⟨[],S,.empty,fun _=>by simp⟩
theorem ZbS {ops:Array Oper} {Q:Exit→Act→World→Prop} {rest:List Oper} {t E:TypeId} {z bytes n m:Nat} {v x:Value} {xs news:List Value} {s y:Operand} {d:Tmp} {sl:List OB} {G:List OB→List OB} {a':Value→Act}
   (hR:Rep w0 X R S w) (hop:o.op=.call { callee:=.builtin .append,args:=#[s,y],argTypes:=#[t,t] }) (hd:o.dst=some d) (hg:o.guard=none) (hs:a.eval s=v) (hy:a.eval y=x) (ho:OS sl E z v n xs) (hx:Rd w z x m news) (h:∀ v' sl' w',OS sl' E z v' (n+m) (xs++news)→Rep w0 X R (G sl') w'→wpList P ops Q rest (a' v') w')
   [hS:Sl P t E z bytes] [hC:Zj9 S sl G]
   (h1:news.all Value.oneCell'=true:=by exact rfl) (hb:(n+m) * bytes≤140737488355328:=by omega) (hm:n+m≤9223372036854775807:=by omega) (ha:∀ v',a.put (some d) v'=a' v':=by intro v; simp only [Act.put,List.setIfInBounds_toArray,List.set_cons_zero,List.set_cons_succ]; exact rfl):wpList P ops Q (o::rest) a w:=by
 obtain ⟨p,q,h2,h3⟩:=hC.out
 exact ZiB hR hop hd hg hs hy hS ho h2 hx h1 hb hm fun v' sl' w' hO hR'=>⟨_,ha v',h v' sl' w' hO (by rw [h3]; exact hR')⟩
end
end Go.Proofs.YtkcmgbbopedacaaGreatDoor
namespace Go.Proofs.YtkcmgbbopedacaaGreatDoor
open Go.RowKit
theorem ZmU {a b:ByteArray} (h:Op.bytesLess a.toList b.toList=false) (k:(!a.toList == b.toList)=true):Op.bytesLess b.toList a.toList=true:=by
 cases e:Op.bytesLess b.toList a.toList with
 | true=>rfl
 | false=>have:=YQ h e; simp [this] at k
theorem Zrf {a b:ByteArray} (k:(!a.toList == b.toList)=false):Op.bytesLess b.toList a.toList=false:=by
 have:a.toList=b.toList:=by simpa using k
 rw [this]; exact Yu _
theorem Zop {a b:ByteArray} (h:(!Op.bytesLess a.toList b.toList)=false∨(!a.toList == b.toList)=false) (k:Op.bytesLess a.toList b.toList=false):Op.bytesLess b.toList a.toList=false:=by
 rcases h with h | h
 ·simp [k] at h
 ·exact Zrf h
theorem ZvV (s:ByteArray):decide ((s.size:Int)≤64)=vk s:=by
 simp only [vk]; congr 1; simp; omega
theorem Zfs {s:ByteArray} {w:World} :
   Calls Tryz.prog 134 #[.string s] w fun e w'=>e=.returned (.bool (vk s))∧w=w':=by
 go_enter Tryz.func134,Tryz.ntmps134
 go_wp2
 go_ret
 exact ⟨Zb9 (ZvV s),rfl⟩
theorem Ze1 {a b:ByteArray} {s t:Bool} {w:World} :
   Calls Tryz.prog 68 #[.agg #[.string a,.bool s],.agg #[.string b,.bool t]] w fun e w'=>e=.returned (.int .i64 (cmp ⟨a,s⟩ ⟨b,t⟩))∧Kp [] w w':=by
 go_enter Tryz.func68,Tryz.ntmps68
 go_wp2
 all_goals go_ret
 all_goals refine ⟨ZkG ?_,((Kp.refl _ _).alloc _).alloc _⟩
 all_goals first | (simp [cmp,Bnd.lt, *]; done) | (rename_i h1 h2; simp [cmp,Bnd.lt, *,ZmU h1 h2]; done) | (rename_i h1 h2; simp [cmp,Bnd.lt, *,Zrf h2]; done) | (rename_i h1; simp [cmp,Bnd.lt, *,ZmU (by simpa using h1.1) h1.2,show Op.bytesLess a.toList b.toList=false by simpa using h1.1]; done) | (rename_i h1 h2; simp [cmp,Bnd.lt, *,Zop h1 h2]; done)
theorem ZjT {a:ByteArray} {s:Bool} {w:World} :
   Calls Tryz.prog 70 #[.agg #[.string a,.bool s]] w fun e w'=>e=.returned (.bool (vb ⟨a,s⟩))∧Kp [] w w':=by
 go_enter Tryz.func70,Tryz.ntmps70
 go_wp2_with (go_at_call 134; refine (Zfs).mono ?_; rintro e w' ⟨rfl,rfl⟩)
 all_goals go_ret
 all_goals refine ⟨Zb9 ?_,((Kp.refl _ _).alloc _)⟩
 all_goals simp [vb, *]
theorem ZtV {a b:ByteArray} {s t:Bool} {w:World} :
   Calls Tryz.prog 133 #[.agg #[.string a,.bool s,.string b,.bool t]] w fun e w'=>e=.returned (.bool (vld ⟨⟨a,s⟩,⟨b,t⟩⟩))∧Kp [] w w':=by
 go_enter Tryz.func133,Tryz.ntmps133
 go_wp2_with (first | (go_at_call 70; refine (ZjT).mono ?_; rintro e w' ⟨rfl,hb⟩; obtain ⟨hc,hf,hz⟩:=Zg4 hb) | (go_at_call 68; refine (Ze1).mono ?_; rintro e w' ⟨rfl,hb⟩; obtain ⟨hc,hf,hz⟩:=Zg4 hb))
 all_goals go_ret
 all_goals refine ⟨Zb9 ?_,?_⟩
 all_goals first | (simp [vld, *]; done) | (repeat (first | exact Kp.refl _ _ | apply Kp.alloc | apply Kp.drew | apply Kp.drewN | (refine Kp.setCell ?_ (Or.inr (by dsimp only; omega)) _) | (refine Kp.trans ?_ (by assumption))))
theorem Zuu {a b:ByteArray} {s t:Bool} {w:World} :
   Calls Tryz.prog 69 #[.agg #[.string a,.bool s,.string b,.bool t]] w fun e w'=>e=.returned (.bool (emp ⟨⟨a,s⟩,⟨b,t⟩⟩))∧Kp [] w w':=by
 go_enter Tryz.func69,Tryz.ntmps69
 go_wp2_with (first | (go_at_call 133; refine (ZtV).mono ?_; rintro e w' ⟨rfl,hb⟩; obtain ⟨hc,hf,hz⟩:=Zg4 hb) | (go_at_call 68; refine (Ze1).mono ?_; rintro e w' ⟨rfl,hb⟩; obtain ⟨hc,hf,hz⟩:=Zg4 hb))
 all_goals go_ret
 all_goals refine ⟨Zb9 ?_,?_⟩
 all_goals first | (simp [emp, *]; done) | (repeat (first | exact Kp.refl _ _ | apply Kp.alloc | apply Kp.drew | apply Kp.drewN | (refine Kp.setCell ?_ (Or.inr (by dsimp only; omega)) _) | (refine Kp.trans ?_ (by assumption))))
theorem Zfp {s:ByteArray} {w:World} :
   Calls Tryz.prog 127 #[.string s] w fun e w'=>e=.returned (.bool (vk s))∧w=w':=by
 go_enter Tryz.func127,Tryz.ntmps127
 go_wp2
 go_ret
 exact ⟨Zb9 (ZvV s),rfl⟩
theorem ZeS {a b:ByteArray} {s t:Bool} {w:World} :
   Calls Tryz.prog 61 #[.agg #[.string a,.bool s],.agg #[.string b,.bool t]] w fun e w'=>e=.returned (.int .i64 (cmp ⟨a,s⟩ ⟨b,t⟩))∧Kp [] w w':=by
 go_enter Tryz.func61,Tryz.ntmps61
 go_wp2
 all_goals go_ret
 all_goals refine ⟨ZkG ?_,((Kp.refl _ _).alloc _).alloc _⟩
 all_goals first | (simp [cmp,Bnd.lt, *]; done) | (rename_i h1 h2; simp [cmp,Bnd.lt, *,ZmU h1 h2]; done) | (rename_i h1 h2; simp [cmp,Bnd.lt, *,Zrf h2]; done) | (rename_i h1; simp [cmp,Bnd.lt, *,ZmU (by simpa using h1.1) h1.2,show Op.bytesLess a.toList b.toList=false by simpa using h1.1]; done) | (rename_i h1 h2; simp [cmp,Bnd.lt, *,Zop h1 h2]; done)
theorem ZjL {a:ByteArray} {s:Bool} {w:World} :
   Calls Tryz.prog 62 #[.agg #[.string a,.bool s]] w fun e w'=>e=.returned (.bool (vb ⟨a,s⟩))∧Kp [] w w':=by
 go_enter Tryz.func62,Tryz.ntmps62
 go_wp2_with (go_at_call 127; refine (Zfp).mono ?_; rintro e w' ⟨rfl,rfl⟩)
 all_goals go_ret
 all_goals refine ⟨Zb9 ?_,((Kp.refl _ _).alloc _)⟩
 all_goals simp [vb, *]
theorem Zuc {a b:ByteArray} {s t:Bool} {w:World} :
   Calls Tryz.prog 135 #[.agg #[.string a,.bool s,.string b,.bool t]] w fun e w'=>e=.returned (.bool (vld ⟨⟨a,s⟩,⟨b,t⟩⟩))∧Kp [] w w':=by
 go_enter Tryz.func135,Tryz.ntmps135
 go_wp2_with (first | (go_at_call 62; refine (ZjL).mono ?_; rintro e w' ⟨rfl,hb⟩; obtain ⟨hc,hf,hz⟩:=Zg4 hb) | (go_at_call 61; refine (ZeS).mono ?_; rintro e w' ⟨rfl,hb⟩; obtain ⟨hc,hf,hz⟩:=Zg4 hb))
 all_goals go_ret
 all_goals refine ⟨Zb9 ?_,?_⟩
 all_goals first | (simp [vld, *]; done) | (repeat (first | exact Kp.refl _ _ | apply Kp.alloc | apply Kp.drew | apply Kp.drewN | (refine Kp.setCell ?_ (Or.inr (by dsimp only; omega)) _) | (refine Kp.trans ?_ (by assumption))))
theorem Zua {a b:ByteArray} {s t:Bool} {w:World} :
   Calls Tryz.prog 71 #[.agg #[.string a,.bool s,.string b,.bool t]] w fun e w'=>e=.returned (.bool (emp ⟨⟨a,s⟩,⟨b,t⟩⟩))∧Kp [] w w':=by
 go_enter Tryz.func71,Tryz.ntmps71
 go_wp2_with (first | (go_at_call 135; refine (Zuc).mono ?_; rintro e w' ⟨rfl,hb⟩; obtain ⟨hc,hf,hz⟩:=Zg4 hb) | (go_at_call 61; refine (ZeS).mono ?_; rintro e w' ⟨rfl,hb⟩; obtain ⟨hc,hf,hz⟩:=Zg4 hb))
 all_goals go_ret
 all_goals refine ⟨Zb9 ?_,?_⟩
 all_goals first | (simp [emp, *]; done) | (repeat (first | exact Kp.refl _ _ | apply Kp.alloc | apply Kp.drew | apply Kp.drewN | (refine Kp.setCell ?_ (Or.inr (by dsimp only; omega)) _) | (refine Kp.trans ?_ (by assumption))))
end Go.Proofs.YtkcmgbbopedacaaGreatDoor
namespace Go.Proofs.YtkcmgbbopedacaaGreatDoor
open Go.RowKit
theorem Zp1 {a b:ByteArray} {s t:Bool} {w:World} :
   Calls Tryz.prog 211 #[.agg #[.string a,.bool s],.agg #[.string b,.bool t]] w fun e w'=>∃ m:Bnd,e=.returned (.agg #[.string m.key,.bool m.top])∧Hid (m=greater ⟨a,s⟩ ⟨b,t⟩)∧Kp [] w w':=by
 go_enter Tryz.func211,Tryz.ntmps211
 go_wp2_with (first | (go_at_call 68; refine (Ze1).mono ?_; rintro e w' ⟨rfl,hb⟩; obtain ⟨hc,hf,hz⟩:=Zg4 hb))
 ·exact bodyPost_ret (v:=.agg #[.string b,.bool t]) (by simp [results,Tryz.results211,go_sem, *]) rfl ⟨⟨b,t⟩,rfl,by simp [Hid,greater, *],by (repeat (first | exact Kp.refl _ _ | apply Kp.alloc | apply Kp.drew | apply Kp.drewN | (refine Kp.setCell ?_ (Or.inr (by dsimp only; omega)) _) | (refine Kp.trans ?_ (by assumption))))⟩
 ·exact bodyPost_ret (v:=.agg #[.string a,.bool s]) (by simp [results,Tryz.results211,go_sem, *]) rfl ⟨⟨a,s⟩,rfl,by unfold Hid greater; rw [if_neg (by omega)],by (repeat (first | exact Kp.refl _ _ | apply Kp.alloc | apply Kp.drew | apply Kp.drewN | (refine Kp.setCell ?_ (Or.inr (by dsimp only; omega)) _) | (refine Kp.trans ?_ (by assumption))))⟩
theorem Zm0 {a b:ByteArray} {s t:Bool} {w:World} :
   Calls Tryz.prog 72 #[.agg #[.string a,.bool s],.agg #[.string b,.bool t]] w fun e w'=>∃ m:Bnd,e=.returned (.agg #[.string m.key,.bool m.top])∧Hid (m=greatest ⟨a,s⟩ ⟨b,t⟩)∧Kp [] w w':=by
 go_enter Tryz.func72,Tryz.ntmps72
 go_wp2_with (first | (go_at_call 61; refine (ZeS).mono ?_; rintro e w' ⟨rfl,hb⟩; obtain ⟨hc,hf,hz⟩:=Zg4 hb))
 ·exact bodyPost_ret (v:=.agg #[.string a,.bool s]) (by simp [results,Tryz.results72,go_sem, *]) rfl ⟨⟨a,s⟩,rfl,by simp [Hid,greatest, *],by (repeat (first | exact Kp.refl _ _ | apply Kp.alloc | apply Kp.drew | apply Kp.drewN | (refine Kp.setCell ?_ (Or.inr (by dsimp only; omega)) _) | (refine Kp.trans ?_ (by assumption))))⟩
 ·exact bodyPost_ret (v:=.agg #[.string b,.bool t]) (by simp [results,Tryz.results72,go_sem, *]) rfl ⟨⟨b,t⟩,rfl,by unfold Hid greatest; rw [if_neg (by omega)],by (repeat (first | exact Kp.refl _ _ | apply Kp.alloc | apply Kp.drew | apply Kp.drewN | (refine Kp.setCell ?_ (Or.inr (by dsimp only; omega)) _) | (refine Kp.trans ?_ (by assumption))))⟩
end Go.Proofs.YtkcmgbbopedacaaGreatDoor
namespace Go.Proofs.YtkcmgbbopedacaaGreatDoor
open Go.RowKit
theorem Zdb (r:Rng) (k:ByteArray):contains r k=(!emp r && vk k && !(Bnd.lt ⟨k,false⟩ r.lo) && Bnd.lt ⟨k,false⟩ r.hi):=by
 unfold contains
 have h1:=Xt r.lo ⟨k,false⟩
 have h2:=X9 ⟨k,false⟩ r.hi
 rw [Bool.eq_iff_iff]
 simp only [Bool.and_eq_true,decide_eq_true_eq,Bool.not_eq_true']
 constructor
 ·rintro ⟨⟨⟨a,b⟩,c⟩,d⟩
  refine ⟨⟨⟨a,b⟩,?_⟩,h2.1 d⟩
  cases e:Bnd.lt ⟨k,false⟩ r.lo with
  | false=>rfl
  | true=>have:=h1.2 e; omega
 ·rintro ⟨⟨⟨a,b⟩,c⟩,d⟩
  refine ⟨⟨⟨a,b⟩,?_⟩,h2.2 d⟩
  have:¬ 0<cmp r.lo ⟨k,false⟩:=fun g=>by rw [h1.1 g] at c; cases c
  omega
theorem ZkR {x y:Bnd} (hx:vb x=true) (hy:vb y=true) (k:ByteArray):contains ⟨x,y⟩ k=(vk k && !(Bnd.lt ⟨k,false⟩ x) && Bnd.lt ⟨k,false⟩ y):=by
 rw [Zdb]
 cases h:emp ⟨x,y⟩
 ·simp
 ·rw [Zd4 hx hy] at h
  simp only [Bool.not_eq_true'] at h
  simp only [Bool.not_true,Bool.false_and]
  cases hk:vk k
  ·rfl
  ·have hv:vb ⟨k,false⟩=true:=by simp [vb,hk]
   cases h1:Bnd.lt ⟨k,false⟩ x
   ·cases h2:Bnd.lt ⟨k,false⟩ y
    ·rfl
    ·have:=Zkf hv hx h1 h2
     rw [this] at h; cases h
   ·rfl
theorem Zeq (k:ByteArray):contains zr k=false:=by rw [Zdb,ZfC]; rfl
theorem Zbs {r:Rng} (h:emp r=true) (k:ByteArray):contains r k=false:=by rw [Zdb,h]; rfl
theorem Zem {r:Rng} (h:emp r=false) (k:ByteArray):contains r k=(vk k && !(Bnd.lt ⟨k,false⟩ r.lo) && Bnd.lt ⟨k,false⟩ r.hi):=by rw [Zdb,h]; rfl
theorem Zhc (a b:Rng) (k:ByteArray):contains (Yo a b) k=(contains a k && contains b k):=by
 cases ha:emp a
 ·cases hb:emp b
  ·have ha':=(ZB a).1 ha
   have hb':=(ZB b).1 hb
   have vg:=ZdZ ha'.1 hb'.1
   have vl:=Zgw ha'.2.1 hb'.2.1
   have e:contains (Yo a b) k=contains ⟨greater a.lo b.lo,lesser a.hi b.hi⟩ k:=by
    rw [ZcY ha hb]
    cases h:(greater a.lo b.lo).lt (lesser a.hi b.hi)
    ·rw [if_neg (by simp),Zeq,Zbs]
     rw [Zd4 vg vl,h]; rfl
    ·rw [if_pos rfl]
   rw [e,ZkR vg vl,Zem ha,Zem hb,X0,Zbf]
   cases hk:vk k
   ·simp
   ·have hv:vb ⟨k,false⟩=true:=by simp [vb,hk]
    grind [Qx,lt_trans,Yb]
  ·rw [Zmc hb,Zeq,Zbs hb,Bool.and_false]
 ·rw [Zit ha,Zeq,Zbs ha,Bool.false_and]
end Go.Proofs.YtkcmgbbopedacaaGreatDoor
namespace Go.Proofs.YtkcmgbbopedacaaGreatDoor
open Go.RowKit
inductive Cut (hi:Bnd):Bnd→List Rng→Prop
 | last {lo:Bnd}:Cut hi lo [⟨lo,hi⟩]
 | cons {lo b:Bnd} {l:List Rng}:lo.lt b=true→b.lt hi=true→vb b=true→Cut hi b l→Cut hi lo (⟨lo,b⟩::l)
def Zkc (lo hi x:Bnd) (out:List Rng):Prop:=∀ t,Cut hi x t→Cut hi lo (out++t)
theorem Zkc.nil {lo hi:Bnd}:Zkc lo hi lo []:=fun _ h=>h
theorem Zkc.snoc {lo hi x b:Bnd} {out:List Rng} (h:Zkc lo hi x out) (h1:x.lt b=true) (h2:b.lt hi=true) (h3:vb b=true):Zkc lo hi b (out++[⟨x,b⟩]):=fun t ht=>by
 rw [List.append_assoc]; exact h _ (.cons h1 h2 h3 ht)
theorem Zkc.done {lo hi x:Bnd} {out:List Rng} (h:Zkc lo hi x out):Cut hi lo (out++[⟨x,hi⟩]):=h _ .last
end Go.Proofs.YtkcmgbbopedacaaGreatDoor
namespace Go.Proofs.YtkcmgbbopedacaaGreatDoor
open Go.RowKit
def mrg:Rng→List Rng→List Rng
 | c,[]=>[c]
 | c,r::l=>if cmp r.lo c.hi≤0 then mrg ⟨c.lo,greater c.hi r.hi⟩ l else c::mrg r l
def Zdu:List Rng→List Rng
 | []=>[]
 | r::l=>mrg r l
def ne (r:Rng):Bool:=!emp r
def Zfe (x y:Rng):Bool:=!(y.lo.lt x.lo)
def union (l:List Rng):List Rng:=Zdu ((l.filter ne).mergeSort Zfe)
structure Nrm (l:List Rng):Prop where
 ne:∀ r ∈ l,emp r=false
 gap:l.Pairwise fun x y=>x.hi.lt y.lo=true
def Pt (l:List Rng) (b:Bnd):Prop:=∃ r ∈ l,b.lt r.lo=false∧b.lt r.hi=true
abbrev Srt (l:List Rng):Prop:=l.Pairwise fun x y=>y.lo.lt x.lo=false
theorem ZW {x:Rng} {l:List Rng} {b:Bnd}:Pt (x::l) b↔(b.lt x.lo=false∧b.lt x.hi=true)∨Pt l b:=by simp [Pt]
theorem ZfE {b:Bnd}:¬ Pt [] b:=by simp [Pt]
theorem Zo5 {l m:List Rng} (h:l.Perm m) {b:Bnd}:Pt l b↔Pt m b:=by simp only [Pt,h.mem_iff]
theorem Nrm.tail {x:Rng} {l:List Rng} (h:Nrm (x::l)):Nrm l:=⟨fun r hr=>h.ne r (List.mem_cons_of_mem _ hr),(List.pairwise_cons.1 h.gap).2⟩
theorem Nrm.far {x:Rng} {l:List Rng} (h:Nrm (x::l)) {b:Bnd} (hb:vb b=true) (hp:Pt l b):x.hi.lt b=true∧x.lo.lt b=true:=by
 obtain ⟨r,hr,h1,h2⟩:=hp
 have g:=(List.pairwise_cons.1 h.gap).1 r hr
 have a:=(ZB x).1 (h.ne x List.mem_cons_self)
 have c:=(ZB r).1 (h.ne r (List.mem_cons_of_mem _ hr))
 have k:=Zd2 c.1 hb g h1
 exact ⟨k,lt_trans a.2.2 k⟩
theorem ZkH:∀ {l m:List Rng},Nrm l→Nrm m→(∀ b,vb b=true→(Pt l b↔Pt m b))→l=m
 | [],[],_,_,_=>rfl
 | [],y::m,_,hm,h=>by
  have c:=(ZB y).1 (hm.ne y List.mem_cons_self)
  exact absurd ((h y.lo c.1).2 (ZW.2 (.inl ⟨lt_irrefl _,c.2.2⟩))) ZfE
 | x::l,[],hl,_,h=>by
  have c:=(ZB x).1 (hl.ne x List.mem_cons_self)
  exact absurd ((h x.lo c.1).1 (ZW.2 (.inl ⟨lt_irrefl _,c.2.2⟩))) ZfE
 | x::l,y::m,hl,hm,h=>by
  have a:=(ZB x).1 (hl.ne x List.mem_cons_self)
  have c:=(ZB y).1 (hm.ne y List.mem_cons_self)
  have hlo:x.lo=y.lo:=by
   refine Qx a.1 c.1 ?_ ?_
   ·rcases ZW.1 ((h x.lo a.1).1 (ZW.2 (.inl ⟨lt_irrefl _,a.2.2⟩))) with h1 | h1
    ·exact h1.1
    ·exact Yb (hm.far a.1 h1).2
   ·rcases ZW.1 ((h y.lo c.1).2 (ZW.2 (.inl ⟨lt_irrefl _,c.2.2⟩))) with h1 | h1
    ·exact h1.1
    ·exact Yb (hl.far c.1 h1).2
  have hhi:x.hi=y.hi:=by
   refine Qx a.2.1 c.2.1 ?_ ?_
   ·cases hh:x.hi.lt y.hi
    ·rfl
    ·rcases ZW.1 ((h x.hi a.2.1).2 (ZW.2 (.inl ⟨by rw [← hlo]; exact Yb a.2.2,hh⟩))) with h1 | h1
     ·rw [lt_irrefl] at h1; exact absurd h1.2 (by simp)
     ·have:=(hl.far a.2.1 h1).1; rw [lt_irrefl] at this; exact this.symm
   ·cases hh:y.hi.lt x.hi
    ·rfl
    ·rcases ZW.1 ((h y.hi c.2.1).1 (ZW.2 (.inl ⟨by rw [hlo]; exact Yb c.2.2,hh⟩))) with h1 | h1
     ·rw [lt_irrefl] at h1; exact absurd h1.2 (by simp)
     ·have:=(hm.far c.2.1 h1).1; rw [lt_irrefl] at this; exact this.symm
  obtain rfl:x=y:=by cases x; cases y; simp only at hlo hhi; rw [hlo,hhi]
  congr 1
  refine ZkH hl.tail hm.tail fun b hb=>⟨fun hp=>?_,fun hp=>?_⟩
  ·have f:=(hl.far hb hp).1
   rcases ZW.1 ((h b hb).1 (ZW.2 (.inr hp))) with h1 | h1
   ·rw [Yb f] at h1; exact absurd h1.2 (by simp)
   ·exact h1
  ·have f:=(hm.far hb hp).1
   rcases ZW.1 ((h b hb).2 (ZW.2 (.inr hp))) with h1 | h1
   ·rw [Yb f] at h1; exact absurd h1.2 (by simp)
   ·exact h1
theorem Zoc:∀ (l:List Rng) (c:Rng),(∀ r ∈ l,r.lo.lt c.lo=false)→Srt l→∀ r ∈ mrg c l,r.lo.lt c.lo=false
 | [],c,_,_,r,hr=>by simp [mrg] at hr; subst hr; exact lt_irrefl _
 | x::l,c,hc,hs,r,hr=>by
  have hs':=List.pairwise_cons.1 hs
  unfold mrg at hr
  split at hr
  ·exact Zoc l ⟨c.lo,greater c.hi x.hi⟩ (fun r hr=>hc r (List.mem_cons_of_mem _ hr)) hs'.2 r hr
  ·rcases List.mem_cons.1 hr with rfl | hr
   ·exact lt_irrefl _
   ·have h1:=Zoc l x hs'.1 hs'.2 r hr
    have h2:=hc x List.mem_cons_self
    cases h3:r.lo.lt c.lo
    ·rfl
    ·rename_i h4
     exfalso
     have h5:c.hi.lt x.lo=true:=(Xt _ _).1 (by omega)
     simp only [Bnd.lt,Bool.and_eq_true,Bool.or_eq_true,Bool.not_eq_true',Bool.and_eq_false_iff,Bool.not_eq_false',Bool.or_eq_false_iff] at *
     grind [Yr,YQ,Y7]
theorem Zky:∀ (l:List Rng) (c:Rng),emp c=false→(∀ r ∈ l,emp r=false)→(∀ r ∈ l,r.lo.lt c.lo=false)→Srt l→Nrm (mrg c l)∧∀ b,vb b=true→(Pt (mrg c l) b↔Pt (c::l) b)
 | [],c,h,_,_,_=>⟨⟨by simp [mrg,h],by simp [mrg]⟩,fun b _=>Iff.rfl⟩
 | x::l,c,h,hn,hc,hs=>by
  have hs':=List.pairwise_cons.1 hs
  have a:=(ZB c).1 h
  have hx:=(ZB x).1 (hn x List.mem_cons_self)
  have hlo:=hc x List.mem_cons_self
  unfold mrg
  split
  ·rename_i h1
   have h1':c.hi.lt x.lo=false:=by
    cases h2:c.hi.lt x.lo
    ·rfl
    ·have:=(Xt x.lo c.hi).2 h2; omega
   have hg:=ZdZ a.2.1 hx.2.1
   have hcg:emp ⟨c.lo,greater c.hi x.hi⟩=false:=by
    refine (ZB _).2 ⟨a.1,hg,?_⟩
    simp only [X0]; split
    ·rename_i h2; exact lt_trans a.2.2 h2
    ·exact a.2.2
   obtain ⟨g1,g2⟩:=Zky l ⟨c.lo,greater c.hi x.hi⟩ hcg (fun r hr=>hn r (List.mem_cons_of_mem _ hr)) (fun r hr=>hc r (List.mem_cons_of_mem _ hr)) hs'.2
   refine ⟨g1,fun b hb=>(g2 b hb).trans ?_⟩
   simp only [ZW]
   rw [← or_assoc]
   refine or_congr ?_ Iff.rfl
   have e1:=a.1; have e2:=a.2.1; have e3:=a.2.2; have e4:=hx.1; have e5:=hx.2.1; have e6:=hx.2.2
   simp only [X0]
   constructor
   ·rintro ⟨k1,k2⟩
    split at k2
    ·cases hbc:b.lt c.hi
     ·right; refine ⟨?_,k2⟩
      cases hq:b.lt x.lo
      ·rfl
      ·exfalso; have:=Zkf hb e2 hbc hq; rw [this] at h1'; cases h1'
     ·left; exact ⟨k1,rfl⟩
    ·left; exact ⟨k1,k2⟩
   ·rintro (⟨k1,k2⟩ | ⟨k1,k2⟩)
    ·refine ⟨k1,?_⟩
     split
     ·rename_i h2; exact lt_trans k2 h2
     ·exact k2
    ·refine ⟨?_,?_⟩
     ·cases hq:b.lt c.lo
      ·rfl
      ·exfalso; have:=Zd2 e1 e4 hq hlo; rw [this] at k1; cases k1
     ·split
      ·exact k2
      ·rename_i h2; exact Zd2 e5 e2 k2 (by simpa using h2)
  ·rename_i h1
   have h1':c.hi.lt x.lo=true:=(Xt _ _).1 (by omega)
   obtain ⟨g1,g2⟩:=Zky l x (hn x List.mem_cons_self) (fun r hr=>hn r (List.mem_cons_of_mem _ hr)) hs'.1 hs'.2
   refine ⟨⟨fun r hr=>?_,List.pairwise_cons.2 ⟨fun r hr=>?_,g1.gap⟩⟩,fun b hb=>?_⟩
   ·rcases List.mem_cons.1 hr with rfl | hr
    ·exact h
    ·exact g1.ne r hr
   ·exact Zd2 hx.1 ((ZB r).1 (g1.ne r hr)).1 h1' (Zoc l x hs'.1 hs'.2 r hr)
   ·rw [ZW,ZW,g2 b hb]
theorem Zfm {l:List Rng} (hn:∀ r ∈ l,emp r=false) (hs:Srt l):Nrm (Zdu l)∧∀ b,vb b=true→(Pt (Zdu l) b↔Pt l b):=by
 cases l with
 | nil=>exact ⟨⟨by simp [Zdu],by simp [Zdu]⟩,fun _ _=>Iff.rfl⟩
 | cons x l =>
  have hs':=List.pairwise_cons.1 hs
  exact Zky l x (hn x List.mem_cons_self) (fun r hr=>hn r (List.mem_cons_of_mem _ hr)) hs'.1 hs'.2
theorem Zlf {l:List Rng} {r:Rng} (h:r ∈ l.filter ne):emp r=false:=by simpa [ne] using (List.mem_filter.1 h).2
theorem ZhA (l:List Rng) (a b:Rng):(Zfe a b || Zfe b a)=true:=by
 simp only [Zfe,Bool.or_eq_true,Bool.not_eq_true']
 cases h:b.lo.lt a.lo
 ·exact .inl rfl
 ·exact .inr (Yb h)
theorem ZdY (a b c:Rng) (h:Zfe a b=true) (k:Zfe b c=true):Zfe a c=true:=by
 simp only [Zfe,Bool.not_eq_true'] at *
 simp only [Bnd.lt,Bool.and_eq_false_iff,Bool.not_eq_false',Bool.or_eq_false_iff] at *
 grind [Yr,YQ,Y7]
theorem ZdK {l s:List Rng} (hp:s.Perm (l.filter ne)) (hs:Srt s):Zdu s=union l:=by
 have hn:∀ r ∈ s,emp r=false:=fun r hr=>Zlf (hp.mem_iff.1 hr)
 have hp2:((l.filter ne).mergeSort Zfe).Perm (l.filter ne):=List.mergeSort_perm _ _
 have hs2:Srt ((l.filter ne).mergeSort Zfe):=by
  have:=List.pairwise_mergeSort (le:=Zfe) ZdY (ZhA l) (l.filter ne)
  exact this.imp fun h=>by simpa [Zfe] using h
 have g1:=Zfm hn hs
 have g2:=Zfm (fun r hr=>Zlf (hp2.mem_iff.1 hr)) hs2
 exact ZkH g1.1 g2.1 fun b hb=>(g1.2 b hb).trans ((Zo5 (hp.trans hp2.symm)).trans (g2.2 b hb).symm)
theorem Zgu (l:List Rng):Nrm (union l)∧∀ b,vb b=true→(Pt (union l) b↔Pt (l.filter ne) b):=by
 have hp2:((l.filter ne).mergeSort Zfe).Perm (l.filter ne):=List.mergeSort_perm _ _
 have hs2:Srt ((l.filter ne).mergeSort Zfe):=by
  have:=List.pairwise_mergeSort (le:=Zfe) ZdY (ZhA l) (l.filter ne)
  exact this.imp fun h=>by simpa [Zfe] using h
 have g2:=Zfm (fun r hr=>Zlf (hp2.mem_iff.1 hr)) hs2
 exact ⟨g2.1,fun b hb=>(g2.2 b hb).trans (Zo5 hp2)⟩
theorem Zbi {l:List Rng} (h:∀ r ∈ l,emp r=false):l.filter ne=l:=List.filter_eq_self.2 fun r hr=>by simp [ne,h r hr]
theorem ZlN {l m:List Rng} (hm:Nrm m) (h:∀ b,vb b=true→(Pt (l.filter ne) b↔Pt m b)):union l=m :=
 ZkH (Zgu l).1 hm fun b hb=>((Zgu l).2 b hb).trans (h b hb)
theorem ZtQ {r:Rng} (h:emp r=false):Nrm [r]:=⟨by simp [h],by simp⟩
theorem ZoG {hi:Bnd} (hh:vb hi=true):∀ {lo:Bnd} {l:List Rng},Cut hi lo l→vb lo=true→lo.lt hi=true→(∀ r ∈ l,emp r=false)∧∀ b,vb b=true→(Pt l b↔b.lt lo=false∧b.lt hi=true):=by
 intro lo l h
 induction h with
 | last=>intro hl hlt; exact ⟨by simp [ZB,hl,hh,hlt],fun b hb=>by simp [Pt]⟩
 | cons h1 h2 h3 hcut ih =>
  rename_i lo x l
  intro hl hlt
  obtain ⟨g1,g2⟩:=ih h3 h2
  refine ⟨fun r hr=>?_,fun b hb=>?_⟩
  ·rcases List.mem_cons.1 hr with rfl | hr
   ·exact (ZB _).2 ⟨hl,h3,h1⟩
   ·exact g1 r hr
  ·rw [ZW,g2 b hb]
   simp only
   constructor
   ·rintro (⟨k1,k2⟩ | ⟨k1,k2⟩)
    ·exact ⟨k1,lt_trans k2 h2⟩
    ·refine ⟨?_,k2⟩
     cases hq:b.lt lo
     ·rfl
     ·have:=lt_trans hq h1; rw [this] at k1; cases k1
   ·rintro ⟨k1,k2⟩
    cases hq:b.lt x
    ·exact .inr ⟨rfl,k2⟩
    ·exact .inl ⟨k1,rfl⟩
theorem Zpy {lo hi:Bnd} {l:List Rng} (h:Cut hi lo l) (he:emp ⟨lo,hi⟩=false):union l=[⟨lo,hi⟩]:=by
 have a:=(ZB _).1 he
 obtain ⟨g1,g2⟩:=ZoG a.2.1 h a.1 a.2.2
 exact ZlN (ZtQ he) fun b hb=>by rw [Zbi g1,g2 b hb]; simp [Pt]
theorem Zep {r:Rng} (h:emp r=false) (k:ByteArray):contains r k=true↔vk k=true∧Bnd.lt ⟨k,false⟩ r.lo=false∧Bnd.lt ⟨k,false⟩ r.hi=true:=by
 rw [Zem h]; simp [and_assoc]
theorem Zoq {l:List Rng} {k:ByteArray} (hk:vk k=true):l.any (contains · k)=true↔Pt (l.filter ne) ⟨k,false⟩:=by
 simp only [List.any_eq_true,Pt]
 constructor
 ·rintro ⟨r,hr,h⟩
  cases he:emp r
  ·exact ⟨r,List.mem_filter.2 ⟨hr,by simp [ne,he]⟩,((Zep he k).1 h).2⟩
  ·rw [Zbs he] at h; cases h
 ·rintro ⟨r,hr,h⟩
  exact ⟨r,(List.mem_filter.1 hr).1,(Zep (Zlf hr) k).2 ⟨hk,h⟩⟩
end Go.Proofs.YtkcmgbbopedacaaGreatDoor
namespace Go.Proofs.YtkcmgbbopedacaaGreatDoor
open Go.RowKit
attribute [local irreducible] contains emp vld vb vk adj Yo Ztt proper greater lesser greatest least cmp Bnd.lt Op.bytesLess Calls Oper.wp wpList Code.wp Oper.upon
theorem ZeQ (x:Rng) {w:World}:Calls Tryz.prog 69 #[.agg #[.string x.lo.key,.bool x.lo.top,.string x.hi.key,.bool x.hi.top]] w fun e w'=>e=.returned (.bool (emp x))∧Kp [] w w':=Zuu
def ZsJ (l:List Rng):Int:=if l.any emp then (l.findIdx emp:Int) else -1
set_option maxHeartbeats 1000000 in
theorem ZgK {p:Option Addr} {n c:Nat} {l:List Rng} {w:World} (h1:Rd w 4 (.slice p n c) n (ZE l)) (hn:n≤1000000) :
   Calls Tryz.prog 242 #[.slice p n c,.func (.func 69) #[] #[]] w fun e w'=>e=.returned (.int .i64 (ZsJ l))∧Kp [] w w':=by
 have hl:l.length=n:=h1.count rvz (by decide)
 have Hl:=Lib.hid hl
 clear hl
 obtain ⟨tt,htt⟩:∃ tt,tt=ZsJ l:=⟨_,rfl⟩
 rw [← htt]
 have Ht:=Lib.hid htt
 clear htt
 go_enter Tryz.func242,Tryz.ntmps242
 have hR:=Rep.refl w
 generalize w=w0 at hR h1
 go_wp2_with (first | (refine Xe hR ?_) | (refine Xf hR ?_; (try clear hF); clear hR; intro w hR; have hF:=hR.fx) | (refine Yj hR ?_; (try clear hF); clear hR; intro w B hR; have hF:=hR.fx))
 go_loopw [8] (fun i wr=>∃ k:Nat,i=.int .i64 k∧k≤n∧Hid (∀ j r,j<k→l[j]?=some r→emp r=false)∧Rep w0 nof [] [] wr) (fun i _=>n - (intOf i).toNat)
 case atStart=>exact ⟨0,rfl,Nat.zero_le _,Lib.hid (fun j r hj=>by omega),hR⟩
 case round =>
  obtain ⟨k,rfl,hk,hno,hR⟩:=hrel
  by_cases hlt:k<n
  ·have hlt':(k:Int)<(n:Int):=by omega
   obtain ⟨r,hr⟩:∃ r,l[k]?=some r:=⟨l[k]'(by rw [Hl.out]; exact hlt),List.getElem?_eq_getElem _⟩
   obtain ⟨b,o,rfl,hR⟩:=h1.rw.elem rvz (by decide) hr hR
   have Hr:=Lib.hid hr
   clear hr
   simp only [Rng.vals] at hR
   have hF:=hR.fx
   cases he:emp r
   ·go_wp2_with (first | (refine Xe hR ?_) | (refine Xf hR ?_; (try clear hF); clear hR; intro w hR; have hF:=hR.fx) | (refine Yj hR ?_; (try clear hF); clear hR; intro w B hR; have hF:=hR.fx) | (go_at_call 69; refine (ZeQ r).mono ?_; rintro e w ⟨rfl,hb⟩; replace hR:=hR.kp0 hb; (try clear hF); clear hb; have hF:=hR.fx))
    go_roundw
    case rel=>exact ⟨k+1,by go_num,by omega,Lib.hid (fun j x hj hx=>by
     by_cases hjk:j=k
     ·subst hjk; rw [Hr.out] at hx; obtain rfl:=Option.some.inj hx; exact he
     ·exact hno.out j x (by omega) hx),hR.sub YU YU⟩
    case measure=>simp [intOf]; omega
   ·go_wp2_with (first | (refine Xe hR ?_) | (refine Xf hR ?_; (try clear hF); clear hR; intro w hR; have hF:=hR.fx) | (refine Yj hR ?_; (try clear hF); clear hR; intro w B hR; have hF:=hR.fx) | (go_at_call 69; refine (ZeQ r).mono ?_; rintro e w ⟨rfl,hb⟩; replace hR:=hR.kp0 hb; (try clear hF); clear hb; have hF:=hR.fx))
    go_ret
    refine ⟨?_,hR.kp_nof⟩
    have h1:l.findIdx emp=k:=by
     rw [List.findIdx_eq (by rw [Hl.out]; exact hlt)]
     refine ⟨?_,fun j hj=>?_⟩
     ·rw [(List.getElem?_eq_some_iff.1 Hr.out).2]; exact he
     ·simpa using hno.out j _ hj (List.getElem?_eq_getElem (by rw [Hl.out]; omega))
    have h2:l.any emp=true:=List.any_eq_true.2 ⟨r,List.mem_of_getElem? Hr.out,he⟩
    rw [Ht.out]; simp [ZsJ,h1,h2]
  ·obtain rfl:k=n:=by omega
   go_wp2
   go_ret
   refine ⟨?_,hR.kp_nof⟩
   have h2:l.any emp=false:=by
    rw [List.any_eq_false]; intro x hx
    obtain ⟨j,hj,rfl⟩:=List.mem_iff_getElem.1 hx
    simpa using hno.out j _ (by rw [← Hl.out]; exact hj) (List.getElem?_eq_getElem hj)
   rw [Ht.out]; simp [ZsJ,h2]
end Go.Proofs.YtkcmgbbopedacaaGreatDoor
namespace Go.Proofs.YtkcmgbbopedacaaGreatDoor
open Go.RowKit
attribute [local irreducible] contains emp vld vb vk adj Yo Ztt proper greater lesser greatest least cmp Bnd.lt Op.bytesLess Calls Oper.wp wpList Code.wp Oper.upon
theorem filter_all {l:List Rng} (h:l.any emp=false):l.filter ne=l:=Zbi fun r hr=>by
 have:=List.any_eq_false.1 h r hr; simpa using this
theorem ZdE {l:List Rng} {j:Nat} {r:Rng} (h:l[j]?=some r):l.take (j+1)=l.take j++[r]:=by
 rw [List.take_add_one,h]; rfl
set_option maxRecDepth 100000 in
set_option maxHeartbeats 4000000 in
theorem ZjQ {w0 w:World} {X:Fr} {R:List Win} {S sl pre post:List OB} {v:Value} {n:Nat} {l:List Rng} (hR:Rep w0 X R S w) (hO:OS sl 72 4 v n (ZE l)) (hC:Ctx S sl pre post) (hn:n≤1000000) :
   Calls Tryz.prog 235 #[v,.func (.func 69) #[] #[]] w fun e w'=>∃ v' sl',e=.returned v'∧OS sl' 72 4 v' (l.filter ne).length (ZE (l.filter ne))∧Rep w0 X R (pre++(sl'++post)) w':=by
 have hl:l.length=n:=(hO.rdC hR hC).count rvz (by decide)
 have Hl:=Lib.hid hl
 clear hl
 obtain ⟨g0,c0,hv⟩:∃ p c,v=.slice p n c:=by obtain ⟨p,c,e,-⟩:=(hO.rdC hR hC).ex; exact ⟨p,c,e⟩
 have e:=hC.eq
 subst e
 clear hC
 subst hv
 cases ha:l.any emp
 ·have hf:ZsJ l=-1:=by simp [ZsJ,ha]
  have hff:=filter_all ha
  have H2:=ZgK (hO.rdC hR Zds.out) hn
  rw [hf] at H2
  rw [hff,Hl.out]
  clear hf hff ha
  go_enter Tryz.func235,Tryz.ntmps235
  go_wp2_with (first | (refine Xe hR ?_) | (refine Xf hR ?_; (try clear hF); clear hR; intro w hR; have hF:=hR.fx) | (refine Yj hR ?_; (try clear hF); clear hR; intro w B hR; have hF:=hR.fx) | (go_at_call 242; refine (H2).mono ?_; rintro e w ⟨rfl,hb⟩; replace hR:=hR.kp0 hb; (try clear hF); clear hb; have hF:=hR.fx))
  go_ret
  exact ⟨_,_,rfl,hO,hR⟩
 ·obtain ⟨i0,hi0⟩:∃ i0,l.findIdx emp=i0:=⟨_,rfl⟩
  have hi1:i0<l.length:=by rw [← hi0,List.findIdx_lt_length]; simpa using ha
  have hf:ZsJ l=(i0:Int):=by simp [ZsJ,ha,hi0]
  have hpre:(l.take (i0+1)).filter ne=l.take i0:=by
   have h1:ne l[i0]=false:=by
    have:=List.findIdx_getElem (p:=emp) (xs:=l) (w:=by rw [hi0]; exact hi1)
    simp only [hi0] at this; simp [ne,this]
   rw [ZdE (List.getElem?_eq_getElem hi1),List.filter_append,List.filter_cons,h1]
   simp only [Bool.false_eq_true,if_false,List.filter_nil,List.append_nil]
   refine Zbi fun r hr=>?_
   obtain ⟨j,hj,rfl⟩:=List.mem_iff_getElem.1 hr
   have hj':j<i0:=by simp at hj; omega
   have:=List.not_of_lt_findIdx (p:=emp) (xs:=l) (i:=j) (by rw [hi0]; exact hj')
   simpa using this
  have hin:i0<n:=by rw [← Hl.out]; exact hi1
  obtain ⟨g,rfl⟩:∃ g,g0=some ⟨g,0,none⟩:=by
   rcases hO.2 with ⟨-,-,h0⟩ | ⟨g,cap,sp,-,e,-⟩
   ·omega
   ·simp only [Value.slice.injEq] at e; exact ⟨g,e.1⟩
  have hcap:n≤c0:=by
   rcases hO.2 with ⟨-,-,h0⟩ | ⟨g,cap,sp,-,e,h2,-⟩
   ·omega
   ·simp only [Value.slice.injEq] at e; rw [e.2.2]; exact h2
  have H2:=ZgK (hO.rdC hR Zds.out) hn
  rw [hf] at H2
  have hne:¬ ((i0:Int)=-1):=by omega
  have Hp:=Lib.hid hpre
  clear hf hpre hi1 hi0 ha
  go_enter Tryz.func235,Tryz.ntmps235
  go_wp2_with (first | (refine Xe hR ?_) | (refine Xf hR ?_; (try clear hF); clear hR; intro w hR; have hF:=hR.fx) | (refine Yj hR ?_; (try clear hF); clear hR; intro w B hR; have hF:=hR.fx) | (go_at_call 242; refine (H2).mono ?_; rintro e w ⟨rfl,hb⟩; replace hR:=hR.kp0 hb; (try clear hF); clear hb; have hF:=hR.fx))
  have hb0:((i0:Int) == -1)=false:=by simp
  simp only [hb0]
  clear hb0
  rename (((i0:Int) == -1)=false)=>hb1
  clear hb1
  go_loopw [5,6] (fun i j wr=>∃ i' j':Nat,∃ cur sl,i=.int .i64 i'∧j=.int .i64 j'∧i' < j'∧j'≤n∧OS sl 72 4 (.slice (some ⟨g,0,none⟩) n c0) n (ZE cur)∧Hid (cur.length=n)∧Hid (cur.take i'=(l.take j').filter ne)∧Hid (cur.drop j'=l.drop j')∧Rep w0 X R (pre++(sl++post)) wr) (fun _ j _=>n - (intOf j).toNat)
  case atStart=>exact ⟨i0,i0+1,l,sl,rfl,by go_num,by omega,by omega,hO,Hl,Lib.hid Hp.out.symm,Lib.hid rfl,hR⟩
  case round =>
   obtain ⟨i,j,cur,sl,rfl,rfl,hij,hjn,hO,hcl,ht,hd,hR⟩:=hrel
   clear H2
   by_cases hlt:j<n
   ·have hlt':(j:Int)<(n:Int):=by omega
    obtain ⟨r,hr⟩:∃ r,l[j]?=some r:=⟨l[j]'(by rw [Hl.out]; exact hlt),List.getElem?_eq_getElem _⟩
    have hr2:cur[j]?=some r:=by
     have:=congrArg (fun x=>x[0]?) hd.out
     simpa [hr] using this
    have hv:((ZE cur).drop (j * 4)).take 4=[.string r.lo.key,.bool r.lo.top,.string r.hi.key,.bool r.hi.top]:=ZoT rvz hr2
    have hov:j * 4+4≤(ZE cur).length:=by rw [ZO,hcl.out]; omega
    have hoi:i * 4+4≤(ZE cur).length:=by rw [ZO,hcl.out]; omega
    have Hv:=Lib.hid hv
    have Hov:=Lib.hid hov
    have Hoi:=Lib.hid hoi
    have Hr:=Lib.hid hr
    clear hv hov hoi hr hr2
    have hi0:(0:Int)≤(i:Int):=by omega
    have hin':(i:Int)<(n:Int):=by omega
    cases he:emp r
    ·go_wp2_with (first | (refine ZfK hR rfl rfl hO Zds.out rfl (by exact inferInstance) (by exact rfl) Hov.out Hv.out (by simp only [Act.put,List.setIfInBounds_toArray,List.set_cons_zero,List.set_cons_succ,ldW,if_true,Bool.false_eq_true,if_false,List.headD_cons]; exact rfl) ?_) | (refine Zbo hR rfl rfl rfl hO Zds.out rfl rfl (by exact inferInstance) Hoi.out (by exact rfl) ?_; (try clear hF); clear hR; intro sl w hO hR; (try simp only [List.cons_append,List.nil_append] at hR); have hF:=hR.fx) | (refine Xe hR ?_) | (refine Xf hR ?_; (try clear hF); clear hR; intro w hR; have hF:=hR.fx) | (refine Yj hR ?_; (try clear hF); clear hR; intro w B hR; have hF:=hR.fx) | (go_at_call 69; refine (ZeQ r).mono ?_; rintro e w ⟨rfl,hb⟩; replace hR:=hR.kp0 hb; (try clear hF); clear hb; have hF:=hR.fx))
     have hst:stL (i * 4) [.string r.lo.key,.bool r.lo.top,.string r.hi.key,.bool r.hi.top] (ZE cur)=ZE (cur.set i r):=ZeX r cur i (by rw [hcl.out]; omega)
     rw [hst] at hO
     go_roundw
     case rel =>
      refine ⟨i+1,j+1,cur.set i r,sl,by go_num,by go_num,by omega,by omega,hO,Lib.hid (by rw [List.length_set]; exact hcl.out),Lib.hid ?_,Lib.hid ?_,by simpa only [List.append_nil] using hR.sub YU⟩
      ·rw [ZdE Hr.out,List.filter_append,List.filter_cons_of_pos (by simp [ne,he]),List.filter_nil,← ht.out]
       rw [ZdE (r:=r) (by rw [List.getElem?_set_self (by rw [hcl.out]; omega)]),List.take_set_of_le (Nat.le_refl _)]
      ·rw [List.drop_set_of_lt (by omega)]
       have:=congrArg (fun x=>x.drop 1) hd.out
       simpa [List.drop_drop,Nat.add_comm] using this
     case measure=>simp [intOf]; omega
    ·go_wp2_with (first | (refine ZfK hR rfl rfl hO Zds.out rfl (by exact inferInstance) (by exact rfl) Hov.out Hv.out (by simp only [Act.put,List.setIfInBounds_toArray,List.set_cons_zero,List.set_cons_succ,ldW,if_true,Bool.false_eq_true,if_false,List.headD_cons]; exact rfl) ?_) | (refine Xe hR ?_) | (refine Xf hR ?_; (try clear hF); clear hR; intro w hR; have hF:=hR.fx) | (refine Yj hR ?_; (try clear hF); clear hR; intro w B hR; have hF:=hR.fx) | (go_at_call 69; refine (ZeQ r).mono ?_; rintro e w ⟨rfl,hb⟩; replace hR:=hR.kp0 hb; (try clear hF); clear hb; have hF:=hR.fx))
     go_roundw
     case rel =>
      refine ⟨i,j+1,cur,sl,by go_num,by go_num,by omega,by omega,hO,hcl,Lib.hid ?_,Lib.hid ?_,hR.sub YU⟩
      ·rw [ZdE Hr.out,List.filter_append,List.filter_cons_of_neg (by simp [ne,he]),List.filter_nil,List.append_nil]; exact ht.out
      ·have:=congrArg (fun x=>x.drop 1) hd.out
       simpa [List.drop_drop,Nat.add_comm] using this
     case measure=>simp [intOf]; omega
   ·obtain rfl:j=n:=by omega
    go_wp2_with (first | (refine Xe hR ?_) | (refine Xf hR ?_; (try clear hF); clear hR; intro w hR; have hF:=hR.fx) | (refine Yj hR ?_; (try clear hF); clear hR; intro w B hR; have hF:=hR.fx) | (refine Zg0 hR rfl rfl rfl rfl (by exact inferInstance) Yd.out rfl hO Zds.out (by omega) (by omega) ?_; (try clear hF); clear hR; intro sl w hO hR; have hF:=hR.fx))
    have hst:(ZE cur).take (i * 4)=ZE (l.filter ne):=by
     rw [ZcC,ht.out,List.take_of_length_le (by rw [Hl.out]; exact Nat.le_refl _)]
    rw [hst] at hO
    have hli:(l.filter ne).length=i:=by
     have:=hO.1; rw [ZO] at this; omega
    rw [hli]
    go_ret
    exact ⟨_,_,rfl,hO,by simpa only [List.append_nil] using hR⟩
end Go.Proofs.YtkcmgbbopedacaaGreatDoor
