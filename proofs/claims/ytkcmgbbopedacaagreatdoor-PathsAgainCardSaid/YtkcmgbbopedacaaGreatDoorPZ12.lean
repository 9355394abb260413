/-
  Lemmas: Walks of the library's DeleteFunc at an own list of ranges.
-/
import Derived.Test.YtkcmgbbopedacaaGreatDoorPZ11
import Derived.Test.YtkcmgbbopedacaaGreatDoorChecked
import Derived.Test.YtkcmgbbopedacaaGreatDoorPZ1
import Derived.Test.YtkcmgbbopedacaaGreatDoorPZ4
import Derived.Test.YtkcmgbbopedacaaGreatDoorPZ10
import Derived.Test.YtkcmgbbopedacaaGreatDoorPZ8
import Derived.Handy
set_option linter.unusedSimpArgs false
set_option linter.unusedVariables false
namespace Go.Proofs.YtkcmgbbopedacaaGreatDoor
open Go.RowKit
section
variable {P:Program} {o:Oper} {w0 w:World} {X:Fr} {R:List Win} {S:List OB} {a:Act} {a0:Act} {T T':TypeId} {x y:Operand} {b off n:Nat} {c:List Value} {ag:Bool}
def Zvh (P:Program) (w0:World) (X:Fr) (R:List Win) (o:Oper) (a:Act) (S:List OB) (a':Nat→Act) (S':Nat→List OB):Prop :=
 ∀ (ops:Array Oper) (Q:Exit→Act→World→Prop) (rest:List Oper) (w:World),Rep w0 X R S w→(∀ w' B,Rep w0 X R (S' B) w'→wpList P ops Q rest (a' B) w')→wpList P ops Q (o::rest) a w
theorem Zui {d:Tmp} {l:List Value} {a':Nat→Act} (hop:o.op=.box T x) (hd:o.dst=some d) (hg:o.guard=none) (hv:(a.eval x).cells=l.toArray) (ha:∀ B,a.put (some d) (.pointer (some ⟨B,0,none⟩))=a' B):Zvh P w0 X R o a S a' (fun B=>⟨B,T,l⟩::S) :=
 fun _ _ _ _ hR h=>Znp hR hop hd hg hv fun w' B hR'=>⟨_,ha B,h w' B hR'⟩
theorem ZpP {d:Tmp} {l:List Value} {a':Nat→Act} (hop:o.op=.alloc T) (hd:o.dst=some d) (hg:o.guard=none) (hz:Zu P T l) (ha:∀ B,a.put (some d) (.pointer (some ⟨B,0,none⟩))=a' B):Zvh P w0 X R o a S a' (fun B=>⟨B,T,l⟩::S) :=
 fun _ _ _ _ hR h=>Zj9 hR hop hd hg hz fun w' B hR'=>⟨_,ha B,h w' B hR'⟩
theorem ZwC {t E:TypeId} {z bytes len:Nat} {parts:Array (Nat × Operand)} {d:Tmp} {l:List Value} {a':Nat→Act} (hop:o.op=.buildSlice t len parts) (hd:o.dst=some d) (hg:o.guard=none) (hS:Sl P t E z bytes)
   (hp:(Zho z 0 (parts.toList.map fun p=>(p.1,a.eval p.2)) && (parts.size == len) && decide (parts.size * z≤16777216))=true) (hl:flat (parts.toList.map fun p=>(p.1,a.eval p.2))=l) (ha:∀ B,a.put (some d) (.slice (some ⟨B,0,none⟩) len len)=a' B):Zvh P w0 X R o a S a' (fun B=>⟨B,E,l⟩::S) :=
 fun _ _ _ _ hR h=>Zqd hR hop hd hg hS hp hl fun w' B hR'=>⟨_,ha B,h w' B hR'⟩
theorem Zw2 {vs c':List Value} {F:List Value→List OB} (hop:o.op=.store T x y) (hd:o.dst=none) (hg:o.guard=none) (hx:a.eval x=.pointer (some ⟨b,off,none⟩)) (hv:(a.eval y).cells=vs.toArray) (hA:UpI S b T' c F) (hT:Ty P T n ag) (hc:stL off vs c=c')
   (hl:(decide (off+n≤c.length) && (vs.length == n) && vs.all Value.oneCell')=true):Zvh P w0 X R o a S (fun _=>a) (fun _=>F c') :=
 fun _ _ _ _ hR h=>Zqu hR hop hd hg hx hv hA.at hT hc (hA.out c') hl fun w' hR'=>h w' 0 hR'
def LdS (P:Program) (w0:World) (X:Fr) (R:List Win) (o:Oper) (a:Act) (S:List OB) (a0:Act):Prop :=
 ∀ (ops:Array Oper) (Q:Exit→Act→World→Prop) (rest:List Oper) (w:World),Rep w0 X R S w→wpList P ops Q rest a0 w→wpList P ops Q (o::rest) a w
theorem Zw4 {F:List Value→List OB} (hop:o.op=.load T x) (hg:o.guard=none) (hx:a.eval x=.pointer (some ⟨b,off,none⟩)) (hA:UpI S b T' c F) (hT:Ty P T n ag) (hl:(decide (off+n≤c.length) && (ag || n == 1))=true) (ha:a.put o.dst (ldV ag n off c)=a0) :
 LdS P w0 X R o a S a0:=fun _ _ _ _ hR h=>Zp9 hR hop hg hx hA.at hT hl ha h
class Zm8 (R:List Win) (b off:Nat) (j:outParam Nat) (vs:outParam (List Value)):Prop where
 out:∃ o,(⟨b,o,vs⟩:Win) ∈ R∧off=o+j
instance (priority:=low) Zm8.there {x:Win} {R:List Win} {b off j:Nat} {vs:List Value} [h:Zm8 R b off j vs]:Zm8 (x::R) b off j vs:=by
 obtain ⟨o,h1,h2⟩:=h.out
 exact ⟨o,List.mem_cons_of_mem _ h1,h2⟩
instance (priority:=low) Zm8.skip {l R:List Win} {b off j:Nat} {vs:List Value} [h:Zm8 R b off j vs]:Zm8 (l++R) b off j vs:=by
 obtain ⟨o,h1,h2⟩:=h.out
 exact ⟨o,List.mem_append_right _ h1,h2⟩
instance Zm8.at {b o j:Nat} {vs:List Value} {R:List Win}:Zm8 (⟨b,o,vs⟩::R) b (o+j) j vs:=⟨o,List.mem_cons_self,rfl⟩
instance Zm8.here {b o:Nat} {vs:List Value} {R:List Win}:Zm8 (⟨b,o,vs⟩::R) b o 0 vs:=⟨o,List.mem_cons_self,rfl⟩
theorem Zpr {j:Nat} {vs:List Value} (hR:Rep w0 X R S w) (hT:Ty P T n ag) (hW:Zm8 R b off j vs) (hl:j+n≤vs.length) (h1:ag=false→n=1):(loadVar T ⟨b,off,none⟩).run P w=.ok (ldV ag n j vs) w:=by
 obtain ⟨o,hm,rfl⟩:=hW.out
 obtain ⟨g1,g2,g3⟩:=hR.win _ hm
 have hc:∀ i v,vs[i]?=some v→w.cell? ⟨b,o+i,none⟩=some v:=fun i v hv=>by rw [hR.kp.cell (p:=⟨b,o+i,none⟩) g1 g2]; exact g3 i v hv
 unfold loadVar
 rw [Sem.run_bind,ZbG hT]
 cases ag with
 | true =>
  have:=run_loadCells_list (P:=P) w ⟨b,o+j,none⟩ ((vs.drop j).take n) fun i v hv=>by
   rw [addr_add,Nat.add_assoc]
   refine hc _ _ ?_
   rw [List.getElem?_take] at hv
   split at hv
   ·simpa using hv
   ·cases hv
  rw [List.length_take,List.length_drop,Nat.min_eq_left (by omega)] at this
  simp [XX hT,this,ldV]
 | false =>
  have hn:=h1 rfl
  have h:=hc j (vs[j]'(by omega)) (List.getElem?_eq_getElem _)
  simp [ldV,load,Sem.run,h,List.getD,List.getElem?_eq_getElem (show j<vs.length by omega)]
theorem Zux {j:Nat} {vs:List Value} (hop:o.op=.load T x) (hg:o.guard=none) (hx:a.eval x=.pointer (some ⟨b,off,none⟩)) (hW:Zm8 R b off j vs) (hT:Ty P T n ag) (hl:(decide (j+n≤vs.length) && (ag || n == 1))=true) (ha:a.put o.dst (ldV ag n j vs)=a0) :
   LdS P w0 X R o a S a0:=fun ops Q rest w hR h=>by
 simp only [Bool.and_eq_true,decide_eq_true_eq,Bool.or_eq_true,beq_iff_eq] at hl
 have hr:=Zpr (P:=P) hR hT hW hl.1 (fun e=>hl.2.resolve_left (by simp [e]))
 refine BigFrame.wpList_want (by simp [Region.wanted,hg]) fun K hK=>?_
 unfold Oper.wp execOp
 rw [hop]
 simp only [hx,Instr.loadAt,Instr.sureAddr,Sem.run_bind,Sem.run_pure,Result.andThen_ok,hr,Oper.upon]
 subst ha
 exact hK _ _ h
theorem Xj {ops:Array Oper} {Q:Exit→Act→World→Prop} {rest:List Oper} (hR:Rep w0 X R S w) (h:wpList P ops Q rest a0 w)
 (hm:LdS P w0 X R o a S a0:=by
  first
   | exact Zw4 rfl rfl rfl (by exact inferInstance) (by exact inferInstance) (by exact rfl) (by simp only [Act.put,List.setIfInBounds_toArray,List.set_cons_zero,List.set_cons_succ,ldV,List.drop_succ_cons,List.drop_zero,List.take_succ_cons,List.take_zero,List.getD_cons_zero,List.getD_cons_succ]; exact rfl)
   | exact Zux rfl rfl rfl (by exact inferInstance) (by exact inferInstance) (by exact rfl) (by simp only [Act.put,List.setIfInBounds_toArray,List.set_cons_zero,List.set_cons_succ,ldV,List.drop_succ_cons,List.drop_zero,List.take_succ_cons,List.take_zero,List.getD_cons_zero,List.getD_cons_succ]; exact rfl)):wpList P ops Q (o::rest) a w:=hm ops Q rest w hR h
theorem Xk {ops:Array Oper} {Q:Exit→Act→World→Prop} {rest:List Oper} {S':List OB} (hR:Rep w0 X R S w) (h:∀ w',Rep w0 X R S' w'→wpList P ops Q rest a w')
 (hm:Zvh P w0 X R o a S (fun _=>a) (fun _=>S'):=by exact Zw2 rfl rfl rfl rfl rfl (by exact inferInstance) (by exact inferInstance) (by simp only [stL]; exact rfl) (by exact rfl)):wpList P ops Q (o::rest) a w:=hm ops Q rest w hR fun w' _ hR'=>h w' hR'
theorem Ym {ops:Array Oper} {Q:Exit→Act→World→Prop} {rest:List Oper} {a':Nat→Act} {S':Nat→List OB} (hR:Rep w0 X R S w) (h:∀ w' B,Rep w0 X R (S' B) w'→wpList P ops Q rest (a' B) w')
 (hm:Zvh P w0 X R o a S a' S':=by
  first
   | exact Zui rfl rfl rfl rfl (by intro B; simp only [Act.put,List.setIfInBounds_toArray,List.set_cons_zero,List.set_cons_succ]; exact rfl)
   | exact ZpP rfl rfl rfl (by exact Yh.out) (by intro B; simp only [Act.put,List.setIfInBounds_toArray,List.set_cons_zero,List.set_cons_succ]; exact rfl)
   | exact ZwC rfl rfl rfl (by exact inferInstance) (by exact rfl) (by simp only [List.map_cons,List.map_nil,flat,Zgj,Zgr,List.getD_cons_succ,List.getD_cons_zero,ZjC,ZhO,Zjs,ZjY,Zmt,ZjS,Zjv,ZmD,List.cons_append,List.nil_append,List.append_nil]; exact rfl) (by intro B; simp only [Act.put,List.setIfInBounds_toArray,List.set_cons_zero,List.set_cons_succ]; exact rfl)):wpList P ops Q (o::rest) a w:=hm ops Q rest w hR h
def DS (P:Program) (L:Array Oper) (w0:World) (X:Fr) (R:List Win) (im:List Nat) (i:Nat) (a:Act) (S:List OB) (a':Nat→Act) (S':Nat→List OB):Prop :=
 ∀ (Qf:Act→List OB→Prop) (r:List Nat),(∀ B,DC P L w0 X R im Qf r (a' B) (S' B))→DC P L w0 X R im Qf (i::r) a S
variable {l:List Oper} {im:List Nat} {i:Nat} {v:Value}
theorem Zud (ho:nth l i=some o) (hw:Region.wanted o (yielded l.toArray a.tmps)=false) (ha:a.put o.dst undef=a0):DS P l.toArray w0 X R im i a S (fun _=>a0) (fun _=>S):=fun _ _ h=>Zup ho hw ha (h 0)
theorem Zuu (ho:nth l i=some o) (hi:im.contains i=false) (hw:Region.wanted o (yielded l.toArray a.tmps)=true) (hop:o.op=.move x) (ha:a.put o.dst (a.eval x)=a0):DS P l.toArray w0 X R im i a S (fun _=>a0) (fun _=>S):=fun _ _ h=>ZuH ho hi hw hop ha (h 0)
theorem Zqg (ho:nth l i=some o) (hi:im.contains i=false) (hw:Region.wanted o (yielded l.toArray a.tmps)=true) (hop:o.op=.assign x) (ha:a.put o.dst (a.eval x)=a0):DS P l.toArray w0 X R im i a S (fun _=>a0) (fun _=>S):=fun _ _ h=>ZpN ho hi hw hop ha (h 0)
theorem ZxY {F:List Value→List OB} (ho:nth l i=some o) (hi:im.contains i=false) (hw:Region.wanted o (yielded l.toArray a.tmps)=true) (hop:o.op=.load T x) (hx:a.eval x=.pointer (some ⟨b,off,none⟩)) (hA:UpI S b T' c F) (hT:Ty P T n ag)
 (hl:(decide (off+n≤c.length) && (ag || n == 1))=true) (ha:a.put o.dst (ldV ag n off c)=a0):DS P l.toArray w0 X R im i a S (fun _=>a0) (fun _=>S):=fun _ _ h=>Zx8 ho hi hw hop hx hA.at hT hl ha (h 0)
theorem ZwK {j:Nat} {vs:List Value} (ho:nth l i=some o) (hi:im.contains i=false) (hw:Region.wanted o (yielded l.toArray a.tmps)=true) (hop:o.op=.load T x) (hx:a.eval x=.pointer (some ⟨b,off,none⟩)) (hW:Zm8 R b off j vs) (hT:Ty P T n ag)
   (hl:(decide (j+n≤vs.length) && (ag || n == 1))=true) (ha:a.put o.dst (ldV ag n j vs)=a0):DS P l.toArray w0 X R im i a S (fun _=>a0) (fun _=>S):=fun _ _ h=>by
 simp only [Bool.and_eq_true,decide_eq_true_eq,Bool.or_eq_true,beq_iff_eq] at hl
 refine ZfA ho hi hw (fun w hR=>?_) ha (h 0)
 have hr:=Zpr (P:=P) hR hT hW hl.1 (fun e=>hl.2.resolve_left (by simp [e]))
 unfold execOp
 rw [hop]
 simp only [hx,Instr.loadAt,Instr.sureAddr,Sem.run_bind,Sem.run_pure,Result.andThen_ok,hr]
theorem ZwD {d:Tmp} {vs:List Value} {a':Nat→Act} (ho:nth l i=some o) (hi:im.contains i=true) (hw:Region.wanted o (yielded l.toArray a.tmps)=true) (hop:o.op=.box T x) (hd:o.dst=some d) (hv:(a.eval x).cells=vs.toArray)
 (ha:∀ B,a.put (some d) (.pointer (some ⟨B,0,none⟩))=a' B):DS P l.toArray w0 X R im i a S a' (fun B=>⟨B,T,vs⟩::S):=fun _ _ h=>Zw7 ho hi hw hop hd hv fun B=>⟨_,ha B,h B⟩
theorem Zsn {d:Tmp} {vs:List Value} {a':Nat→Act} (ho:nth l i=some o) (hi:im.contains i=true) (hw:Region.wanted o (yielded l.toArray a.tmps)=true) (hop:o.op=.alloc T) (hd:o.dst=some d) (hz:Zu P T vs)
 (ha:∀ B,a.put (some d) (.pointer (some ⟨B,0,none⟩))=a' B):DS P l.toArray w0 X R im i a S a' (fun B=>⟨B,T,vs⟩::S):=fun _ _ h=>ZsF ho hi hw hop hd hz fun B=>⟨_,ha B,h B⟩
theorem Zyh {t E:TypeId} {z bytes len:Nat} {parts:Array (Nat × Operand)} {d:Tmp} {vs:List Value} {a':Nat→Act} (ho:nth l i=some o) (hi:im.contains i=true) (hw:Region.wanted o (yielded l.toArray a.tmps)=true) (hop:o.op=.buildSlice t len parts) (hd:o.dst=some d) (hS:Sl P t E z bytes)
   (hp:(Zho z 0 (parts.toList.map fun p=>(p.1,a.eval p.2)) && (parts.size == len) && decide (parts.size * z≤16777216))=true) (hl:flat (parts.toList.map fun p=>(p.1,a.eval p.2))=vs) (ha:∀ B,a.put (some d) (.slice (some ⟨B,0,none⟩) len len)=a' B):DS P l.toArray w0 X R im i a S a' (fun B=>⟨B,E,vs⟩::S) :=
 fun _ _ h=>Zya ho hi hw hop hd hS hp hl fun B=>⟨_,ha B,h B⟩
theorem ZuN (ho:nth l i=some o) (hi:im.contains i=false) (hw:Region.wanted o (yielded l.toArray a.tmps)=true) (hv:∀ w,(execOp a.eval o).run P w=.ok (.value v) w) (ha:a.put o.dst v=a0):DS P l.toArray w0 X R im i a S (fun _=>a0) (fun _=>S):=fun _ _ h=>ZgE ho hi hw hv ha (h 0)
theorem ZsE (ho:nth l i=some o) (hi:im.contains i=false) (hw:Region.wanted o (yielded l.toArray a.tmps)=true) (hv:∀ w,Facts w R S→(execOp a.eval o).run P w=.ok (.value v) w) (ha:a.put o.dst v=a0):DS P l.toArray w0 X R im i a S (fun _=>a0) (fun _=>S):=fun _ _ h=>Zsg ho hi hw hv ha (h 0)
theorem dk {Qf:Act→List OB→Prop} {r:List Nat} {a':Nat→Act} {S':Nat→List OB} (h:∀ B,DC P l.toArray w0 X R im Qf r (a' B) (S' B))
 (hs:DS P l.toArray w0 X R im i a S a' S':=by
  first
   | exact Zud rfl rfl (by simp only [Act.put,List.setIfInBounds_toArray,List.set_cons_zero,List.set_cons_succ]; exact rfl)
   | exact Zuu rfl rfl rfl rfl (by simp only [Act.put,Zgj,Zgr,List.getD_cons_succ,List.getD_cons_zero,List.setIfInBounds_toArray,List.set_cons_zero,List.set_cons_succ]; exact rfl)
   | exact Zqg rfl rfl rfl rfl (by simp only [Act.put,Zgj,Zgr,List.getD_cons_succ,List.getD_cons_zero,List.setIfInBounds_toArray,List.set_cons_zero,List.set_cons_succ]; exact rfl)
   | exact ZxY rfl rfl rfl rfl rfl (by exact inferInstance) (by exact inferInstance) (by exact rfl) (by simp only [Act.put,List.setIfInBounds_toArray,List.set_cons_zero,List.set_cons_succ,ldV,List.drop_succ_cons,List.drop_zero,List.take_succ_cons,List.take_zero,List.getD_cons_zero,List.getD_cons_succ]; exact rfl)
   | exact ZwK rfl rfl rfl rfl rfl (by exact inferInstance) (by exact inferInstance) (by exact rfl) (by simp only [Act.put,List.setIfInBounds_toArray,List.set_cons_zero,List.set_cons_succ,ldV,List.drop_succ_cons,List.drop_zero,List.take_succ_cons,List.take_zero,List.getD_cons_zero,List.getD_cons_succ]; exact rfl)
   | exact ZwD rfl rfl rfl rfl rfl rfl (by intro B; simp only [Act.put,List.setIfInBounds_toArray,List.set_cons_zero,List.set_cons_succ]; exact rfl)
   | exact Zsn rfl rfl rfl rfl rfl (by exact Yh.out) (by intro B; simp only [Act.put,List.setIfInBounds_toArray,List.set_cons_zero,List.set_cons_succ]; exact rfl)
   | exact Zyh rfl rfl rfl rfl rfl (by exact inferInstance) (by exact rfl) (by simp only [List.map_cons,List.map_nil,flat,Zgj,Zgr,List.getD_cons_succ,List.getD_cons_zero,ZjC,ZhO,Zjs,ZjY,Zmt,ZjS,Zjv,ZmD,List.cons_append,List.nil_append,List.append_nil]; exact rfl) (by intro B; simp only [Act.put,List.setIfInBounds_toArray,List.set_cons_zero,List.set_cons_succ]; exact rfl)
   | exact ZuN (by exact rfl) (by exact rfl) (by exact rfl) (by intro w; first | (go_simp; exact rfl) | (go_simp; done)) (by simp only [Act.put,List.setIfInBounds_toArray,List.set_cons_zero,List.set_cons_succ]; exact rfl)
   | exact ZsE (by exact rfl) (by exact rfl) (by exact rfl) (by intro w hF; simp only [Facts,ZgB,ZgN,and_true,Nat.reduceAdd] at hF; (first | (go_simp; done) | (go_simp; exact rfl))) (by simp only [Act.put,List.setIfInBounds_toArray,List.set_cons_zero,List.set_cons_succ]; exact rfl)):DC P l.toArray w0 X R im Qf (i::r) a S:=hs Qf r h
theorem dn {q:Act→Prop} {d:Option Tmp} {a':Act} (h:q a') (ha:a.put d v=a':=by simp only [Act.put,List.setIfInBounds_toArray,List.set_cons_zero,List.set_cons_succ]; exact rfl):∃ a',a.put d v=a'∧q a':=⟨a',ha,h⟩
section
variable {Qf:Act→List OB→Prop} {r:List Nat} {f:FuncId} {args:Array Value}
theorem ZaK (h:∀ w,Rep w0 X R S w→Calls P f args w fun e w'=>∃ v,e=.returned v∧Kp [] w w'∧∃ a',a.put o.dst v=a'∧DC P l.toArray w0 X R im Qf r a' S)
 (ho:nth l i=some o:=by exact rfl) (hi:im.contains i=true:=by exact rfl) (hw:Region.wanted o (yielded l.toArray a.tmps)=true:=by exact rfl) (hr:∀ w,(execOp a.eval o).run P w=.ok (.enter f args) w:=by intro w; go_simp; exact ⟨rfl,rfl⟩):DC P l.toArray w0 X R im Qf (i::r) a S:=Zsr ho hi hw hr h
end
class Zkq (S sl:List OB) (G:outParam (List OB→List OB)):Prop where
 out:∃ pre post,Ctx S sl pre post∧∀ s,G s=pre++(s++post)
instance (priority:=low) Zkq.skip {l S sl:List OB} {G:List OB→List OB} [h:Zkq S sl G]:Zkq (l++S) sl (fun s=>l++G s):=by
 obtain ⟨p,q,h1,h2⟩:=h.out
 exact ⟨l++p,q,.skip h1,fun s=>by rw [h2]; simp⟩
instance (priority:=low) Zkq.there {x:OB} {S sl:List OB} {G:List OB→List OB} [h:Zkq S sl G]:Zkq (x::S) sl (fun s=>x::G s):=by
 obtain ⟨p,q,h1,h2⟩:=h.out
 exact ⟨x::p,q,.there h1,fun s=>by rw [h2]; simp⟩
instance Zkq.one {e:OB} {post:List OB}:Zkq (e::post) [e] (fun s=>s++post):=⟨[],post,.one,fun _=>by simp⟩
instance Zkq.last {sl:List OB}:Zkq sl sl (fun s=>s):=⟨[],[],.last,fun _=>by simp⟩
instance Zkq.here {sl post:List OB}:Zkq (sl++post) sl (fun s=>s++post):=⟨[],post,.here,fun _=>by simp⟩
instance Zkq.empty {S:List OB}:Zkq S [] (fun s=>s++S):=⟨[],S,.empty,fun _=>by simp⟩
theorem Zb1 {ops:Array Oper} {Q:Exit→Act→World→Prop} {rest:List Oper} {t E:TypeId} {z bytes n m:Nat} {v x:Value} {xs news:List Value} {s y:Operand} {d:Tmp} {sl:List OB} {G:List OB→List OB} {a':Value→Act}
   (hR:Rep w0 X R S w) (hop:o.op=.call { callee:=.builtin .append,args:=#[s,y],argTypes:=#[t,t] }) (hd:o.dst=some d) (hg:o.guard=none) (hs:a.eval s=v) (hy:a.eval y=x) (ho:OS sl E z v n xs) (hx:Rd w z x m news) (h:∀ v' sl' w',OS sl' E z v' (n+m) (xs++news)→Rep w0 X R (G sl') w'→wpList P ops Q rest (a' v') w')
   [hS:Sl P t E z bytes] [hC:Zkq S sl G]
   (h1:news.all Value.oneCell'=true:=by exact rfl) (hb:(n+m) * bytes≤140737488355328:=by omega) (hm:n+m≤9223372036854775807:=by omega) (ha:∀ v',a.put (some d) v'=a' v':=by intro v; simp only [Act.put,List.setIfInBounds_toArray,List.set_cons_zero,List.set_cons_succ]; exact rfl):wpList P ops Q (o::rest) a w:=by
 obtain ⟨p,q,h2,h3⟩:=hC.out
 exact Zi1 hR hop hd hg hs hy hS ho h2 hx h1 hb hm fun v' sl' w' hO hR'=>⟨_,ha v',h v' sl' w' hO (by rw [h3]; exact hR')⟩
end
end Go.Proofs.YtkcmgbbopedacaaGreatDoor
namespace Go.Proofs.YtkcmgbbopedacaaGreatDoor
open Go.RowKit
theorem Znf {a b:ByteArray} (h:Op.bytesLess a.toList b.toList=false) (k:(!a.toList == b.toList)=true):Op.bytesLess b.toList a.toList=true:=by
 cases e:Op.bytesLess b.toList a.toList with
 | true=>rfl
 | false=>have:=YW h e; simp [this] at k
theorem ZrY {a b:ByteArray} (k:(!a.toList == b.toList)=false):Op.bytesLess b.toList a.toList=false:=by
 have:a.toList=b.toList:=by simpa using k
 rw [this]; exact YA _
theorem ZoN {a b:ByteArray} (h:(!Op.bytesLess a.toList b.toList)=false∨(!a.toList == b.toList)=false) (k:Op.bytesLess a.toList b.toList=false):Op.bytesLess b.toList a.toList=false:=by
 rcases h with h | h
 ·simp [k] at h
 ·exact ZrY h
theorem ZvC (s:ByteArray):decide ((s.size:Int)≤64)=vk s:=by
 simp only [vk]; congr 1; simp; omega
theorem ZfM {s:ByteArray} {w:World} :
   Calls Tryz.prog 134 #[.string s] w fun e w'=>e=.returned (.bool (vk s))∧w=w':=by
 go_enter Tryz.func134,Tryz.ntmps134
 go_wp2
 go_ret
 exact ⟨Zch (ZvC s),rfl⟩
theorem Zfj {a b:ByteArray} {s t:Bool} {w:World} :
   Calls Tryz.prog 68 #[.agg #[.string a,.bool s],.agg #[.string b,.bool t]] w fun e w'=>e=.returned (.int .i64 (cmp ⟨a,s⟩ ⟨b,t⟩))∧Kp [] w w':=by
 go_enter Tryz.func68,Tryz.ntmps68
 go_wp2
 all_goals go_ret
 all_goals refine ⟨ZkZ ?_,((Kp.refl _ _).alloc _).alloc _⟩
 all_goals first | (simp [cmp,Bnd.lt, *]; done) | (rename_i h1 h2; simp [cmp,Bnd.lt, *,Znf h1 h2]; done) | (rename_i h1 h2; simp [cmp,Bnd.lt, *,ZrY h2]; done) | (rename_i h1; simp [cmp,Bnd.lt, *,Znf (by simpa using h1.1) h1.2,show Op.bytesLess a.toList b.toList=false by simpa using h1.1]; done) | (rename_i h1 h2; simp [cmp,Bnd.lt, *,ZoN h1 h2]; done)
theorem Zj3 {a:ByteArray} {s:Bool} {w:World} :
   Calls Tryz.prog 70 #[.agg #[.string a,.bool s]] w fun e w'=>e=.returned (.bool (vb ⟨a,s⟩))∧Kp [] w w':=by
 go_enter Tryz.func70,Tryz.ntmps70
 go_wp2_with (go_at_call 134; refine (ZfM).mono ?_; rintro e w' ⟨rfl,rfl⟩)
 all_goals go_ret
 all_goals refine ⟨Zch ?_,((Kp.refl _ _).alloc _)⟩
 all_goals simp [vb, *]
theorem Zun {a b:ByteArray} {s t:Bool} {w:World} :
   Calls Tryz.prog 133 #[.agg #[.string a,.bool s,.string b,.bool t]] w fun e w'=>e=.returned (.bool (vld ⟨⟨a,s⟩,⟨b,t⟩⟩))∧Kp [] w w':=by
 go_enter Tryz.func133,Tryz.ntmps133
 go_wp2_with (first | (go_at_call 70; refine (Zj3).mono ?_; rintro e w' ⟨rfl,hb⟩; obtain ⟨hc,hf,hz⟩:=Zhl hb) | (go_at_call 68; refine (Zfj).mono ?_; rintro e w' ⟨rfl,hb⟩; obtain ⟨hc,hf,hz⟩:=Zhl hb))
 all_goals go_ret
 all_goals refine ⟨Zch ?_,?_⟩
 all_goals first | (simp [vld, *]; done) | (repeat (first | exact Kp.refl _ _ | apply Kp.alloc | apply Kp.drew | apply Kp.drewN | (refine Kp.setCell ?_ (Or.inr (by dsimp only; omega)) _) | (refine Kp.trans ?_ (by assumption))))
theorem ZuO {a b:ByteArray} {s t:Bool} {w:World} :
   Calls Tryz.prog 69 #[.agg #[.string a,.bool s,.string b,.bool t]] w fun e w'=>e=.returned (.bool (emp ⟨⟨a,s⟩,⟨b,t⟩⟩))∧Kp [] w w':=by
 go_enter Tryz.func69,Tryz.ntmps69
 go_wp2_with (first | (go_at_call 133; refine (Zun).mono ?_; rintro e w' ⟨rfl,hb⟩; obtain ⟨hc,hf,hz⟩:=Zhl hb) | (go_at_call 68; refine (Zfj).mono ?_; rintro e w' ⟨rfl,hb⟩; obtain ⟨hc,hf,hz⟩:=Zhl hb))
 all_goals go_ret
 all_goals refine ⟨Zch ?_,?_⟩
 all_goals first | (simp [emp, *]; done) | (repeat (first | exact Kp.refl _ _ | apply Kp.alloc | apply Kp.drew | apply Kp.drewN | (refine Kp.setCell ?_ (Or.inr (by dsimp only; omega)) _) | (refine Kp.trans ?_ (by assumption))))
theorem ZfD {s:ByteArray} {w:World} :
   Calls Tryz.prog 127 #[.string s] w fun e w'=>e=.returned (.bool (vk s))∧w=w':=by
 go_enter Tryz.func127,Tryz.ntmps127
 go_wp2
 go_ret
 exact ⟨Zch (ZvC s),rfl⟩
theorem Ze9 {a b:ByteArray} {s t:Bool} {w:World} :
   Calls Tryz.prog 61 #[.agg #[.string a,.bool s],.agg #[.string b,.bool t]] w fun e w'=>e=.returned (.int .i64 (cmp ⟨a,s⟩ ⟨b,t⟩))∧Kp [] w w':=by
 go_enter Tryz.func61,Tryz.ntmps61
 go_wp2
 all_goals go_ret
 all_goals refine ⟨ZkZ ?_,((Kp.refl _ _).alloc _).alloc _⟩
 all_goals first | (simp [cmp,Bnd.lt, *]; done) | (rename_i h1 h2; simp [cmp,Bnd.lt, *,Znf h1 h2]; done) | (rename_i h1 h2; simp [cmp,Bnd.lt, *,ZrY h2]; done) | (rename_i h1; simp [cmp,Bnd.lt, *,Znf (by simpa using h1.1) h1.2,show Op.bytesLess a.toList b.toList=false by simpa using h1.1]; done) | (rename_i h1 h2; simp [cmp,Bnd.lt, *,ZoN h1 h2]; done)
theorem Zj4 {a:ByteArray} {s:Bool} {w:World} :
   Calls Tryz.prog 62 #[.agg #[.string a,.bool s]] w fun e w'=>e=.returned (.bool (vb ⟨a,s⟩))∧Kp [] w w':=by
 go_enter Tryz.func62,Tryz.ntmps62
 go_wp2_with (go_at_call 127; refine (ZfD).mono ?_; rintro e w' ⟨rfl,rfl⟩)
 all_goals go_ret
 all_goals refine ⟨Zch ?_,((Kp.refl _ _).alloc _)⟩
 all_goals simp [vb, *]
theorem Zuk {a b:ByteArray} {s t:Bool} {w:World} :
   Calls Tryz.prog 135 #[.agg #[.string a,.bool s,.string b,.bool t]] w fun e w'=>e=.returned (.bool (vld ⟨⟨a,s⟩,⟨b,t⟩⟩))∧Kp [] w w':=by
 go_enter Tryz.func135,Tryz.ntmps135
 go_wp2_with (first | (go_at_call 62; refine (Zj4).mono ?_; rintro e w' ⟨rfl,hb⟩; obtain ⟨hc,hf,hz⟩:=Zhl hb) | (go_at_call 61; refine (Ze9).mono ?_; rintro e w' ⟨rfl,hb⟩; obtain ⟨hc,hf,hz⟩:=Zhl hb))
 all_goals go_ret
 all_goals refine ⟨Zch ?_,?_⟩
 all_goals first | (simp [vld, *]; done) | (repeat (first | exact Kp.refl _ _ | apply Kp.alloc | apply Kp.drew | apply Kp.drewN | (refine Kp.setCell ?_ (Or.inr (by dsimp only; omega)) _) | (refine Kp.trans ?_ (by assumption))))
theorem Zug {a b:ByteArray} {s t:Bool} {w:World} :
   Calls Tryz.prog 71 #[.agg #[.string a,.bool s,.string b,.bool t]] w fun e w'=>e=.returned (.bool (emp ⟨⟨a,s⟩,⟨b,t⟩⟩))∧Kp [] w w':=by
 go_enter Tryz.func71,Tryz.ntmps71
 go_wp2_with (first | (go_at_call 135; refine (Zuk).mono ?_; rintro e w' ⟨rfl,hb⟩; obtain ⟨hc,hf,hz⟩:=Zhl hb) | (go_at_call 61; refine (Ze9).mono ?_; rintro e w' ⟨rfl,hb⟩; obtain ⟨hc,hf,hz⟩:=Zhl hb))
 all_goals go_ret
 all_goals refine ⟨Zch ?_,?_⟩
 all_goals first | (simp [emp, *]; done) | (repeat (first | exact Kp.refl _ _ | apply Kp.alloc | apply Kp.drew | apply Kp.drewN | (refine Kp.setCell ?_ (Or.inr (by dsimp only; omega)) _) | (refine Kp.trans ?_ (by assumption))))
end Go.Proofs.YtkcmgbbopedacaaGreatDoor
namespace Go.Proofs.YtkcmgbbopedacaaGreatDoor
open Go.RowKit
theorem Zqt {a b:ByteArray} {s t:Bool} {w:World} :
   Calls Tryz.prog 211 #[.agg #[.string a,.bool s],.agg #[.string b,.bool t]] w fun e w'=>∃ m:Bnd,e=.returned (.agg #[.string m.key,.bool m.top])∧Hid (m=greater ⟨a,s⟩ ⟨b,t⟩)∧Kp [] w w':=by
 go_enter Tryz.func211,Tryz.ntmps211
 go_wp2_with (first | (go_at_call 68; refine (Zfj).mono ?_; rintro e w' ⟨rfl,hb⟩; obtain ⟨hc,hf,hz⟩:=Zhl hb))
 ·exact bodyPost_ret (v:=.agg #[.string b,.bool t]) (by simp [results,Tryz.results211,go_sem, *]) rfl ⟨⟨b,t⟩,rfl,by simp [Hid,greater, *],by (repeat (first | exact Kp.refl _ _ | apply Kp.alloc | apply Kp.drew | apply Kp.drewN | (refine Kp.setCell ?_ (Or.inr (by dsimp only; omega)) _) | (refine Kp.trans ?_ (by assumption))))⟩
 ·exact bodyPost_ret (v:=.agg #[.string a,.bool s]) (by simp [results,Tryz.results211,go_sem, *]) rfl ⟨⟨a,s⟩,rfl,by unfold Hid greater; rw [if_neg (by omega)],by (repeat (first | exact Kp.refl _ _ | apply Kp.alloc | apply Kp.drew | apply Kp.drewN | (refine Kp.setCell ?_ (Or.inr (by dsimp only; omega)) _) | (refine Kp.trans ?_ (by assumption))))⟩
theorem Zni {a b:ByteArray} {s t:Bool} {w:World} :
   Calls Tryz.prog 72 #[.agg #[.string a,.bool s],.agg #[.string b,.bool t]] w fun e w'=>∃ m:Bnd,e=.returned (.agg #[.string m.key,.bool m.top])∧Hid (m=greatest ⟨a,s⟩ ⟨b,t⟩)∧Kp [] w w':=by
 go_enter Tryz.func72,Tryz.ntmps72
 go_wp2_with (first | (go_at_call 61; refine (Ze9).mono ?_; rintro e w' ⟨rfl,hb⟩; obtain ⟨hc,hf,hz⟩:=Zhl hb))
 ·exact bodyPost_ret (v:=.agg #[.string a,.bool s]) (by simp [results,Tryz.results72,go_sem, *]) rfl ⟨⟨a,s⟩,rfl,by simp [Hid,greatest, *],by (repeat (first | exact Kp.refl _ _ | apply Kp.alloc | apply Kp.drew | apply Kp.drewN | (refine Kp.setCell ?_ (Or.inr (by dsimp only; omega)) _) | (refine Kp.trans ?_ (by assumption))))⟩
 ·exact bodyPost_ret (v:=.agg #[.string b,.bool t]) (by simp [results,Tryz.results72,go_sem, *]) rfl ⟨⟨b,t⟩,rfl,by unfold Hid greatest; rw [if_neg (by omega)],by (repeat (first | exact Kp.refl _ _ | apply Kp.alloc | apply Kp.drew | apply Kp.drewN | (refine Kp.setCell ?_ (Or.inr (by dsimp only; omega)) _) | (refine Kp.trans ?_ (by assumption))))⟩
end Go.Proofs.YtkcmgbbopedacaaGreatDoor
namespace Go.Proofs.YtkcmgbbopedacaaGreatDoor
open Go.RowKit
theorem Zdf (r:Rng) (k:ByteArray):contains r k=(!emp r && vk k && !(Bnd.lt ⟨k,false⟩ r.lo) && Bnd.lt ⟨k,false⟩ r.hi):=by
 unfold contains
 have h1:=Xw r.lo ⟨k,false⟩
 have h2:=XW ⟨k,false⟩ r.hi
 rw [Bool.eq_iff_iff]
 simp only [Bool.and_eq_true,decide_eq_true_eq,Bool.not_eq_true']
 constructor
 ·rintro ⟨⟨⟨a,b⟩,c⟩,d⟩
  refine ⟨⟨⟨a,b⟩,?_⟩,h2.1 d⟩
  cases e:Bnd.lt ⟨k,false⟩ r.lo with
  | false=>rfl
  | true=>have:=h1.2 e; omega
 ·rintro ⟨⟨⟨a,b⟩,c⟩,d⟩
  refine ⟨⟨⟨a,b⟩,?_⟩,h2.2 d⟩
  have:¬ 0<cmp r.lo ⟨k,false⟩:=fun g=>by rw [h1.1 g] at c; cases c
  omega
theorem Zle {x y:Bnd} (hx:vb x=true) (hy:vb y=true) (k:ByteArray):contains ⟨x,y⟩ k=(vk k && !(Bnd.lt ⟨k,false⟩ x) && Bnd.lt ⟨k,false⟩ y):=by
 rw [Zdf]
 cases h:emp ⟨x,y⟩
 ·simp
 ·rw [Zei hx hy] at h
  simp only [Bool.not_eq_true'] at h
  simp only [Bool.not_true,Bool.false_and]
  cases hk:vk k
  ·rfl
  ·have hv:vb ⟨k,false⟩=true:=by simp [vb,hk]
   cases h1:Bnd.lt ⟨k,false⟩ x
   ·cases h2:Bnd.lt ⟨k,false⟩ y
    ·rfl
    ·have:=Zku hv hx h1 h2
     rw [this] at h; cases h
   ·rfl
theorem ZeD (k:ByteArray):contains zr k=false:=by rw [Zdf,ZfU]; rfl
theorem ZbC {r:Rng} (h:emp r=true) (k:ByteArray):contains r k=false:=by rw [Zdf,h]; rfl
theorem ZeI {r:Rng} (h:emp r=false) (k:ByteArray):contains r k=(vk k && !(Bnd.lt ⟨k,false⟩ r.lo) && Bnd.lt ⟨k,false⟩ r.hi):=by rw [Zdf,h]; rfl
theorem Zhs (a b:Rng) (k:ByteArray):contains (Yt a b) k=(contains a k && contains b k):=by
 cases ha:emp a
 ·cases hb:emp b
  ·have ha':=(ZE a).1 ha
   have hb':=(ZE b).1 hb
   have vg:=Zd8 ha'.1 hb'.1
   have vl:=ZgW ha'.2.1 hb'.2.1
   have e:contains (Yt a b) k=contains ⟨greater a.lo b.lo,lesser a.hi b.hi⟩ k:=by
    rw [Zc6 ha hb]
    cases h:(greater a.lo b.lo).lt (lesser a.hi b.hi)
    ·rw [if_neg (by simp),ZeD,ZbC]
     rw [Zei vg vl,h]; rfl
    ·rw [if_pos rfl]
   rw [e,Zle vg vl,ZeI ha,ZeI hb,Qh,Zby]
   cases hk:vk k
   ·simp
   ·have hv:vb ⟨k,false⟩=true:=by simp [vb,hk]
    grind [QH,lt_trans,Yd]
  ·rw [Zme hb,ZeD,ZbC hb,Bool.and_false]
 ·rw [ZiI ha,ZeD,ZbC ha,Bool.false_and]
end Go.Proofs.YtkcmgbbopedacaaGreatDoor
namespace Go.Proofs.YtkcmgbbopedacaaGreatDoor
open Go.RowKit
inductive Cut (hi:Bnd):Bnd→List Rng→Prop
 | last {lo:Bnd}:Cut hi lo [⟨lo,hi⟩]
 | cons {lo b:Bnd} {l:List Rng}:lo.lt b=true→b.lt hi=true→vb b=true→Cut hi b l→Cut hi lo (⟨lo,b⟩::l)
def Zkw (lo hi x:Bnd) (out:List Rng):Prop:=∀ t,Cut hi x t→Cut hi lo (out++t)
theorem Zkw.nil {lo hi:Bnd}:Zkw lo hi lo []:=fun _ h=>h
theorem Zkw.snoc {lo hi x b:Bnd} {out:List Rng} (h:Zkw lo hi x out) (h1:x.lt b=true) (h2:b.lt hi=true) (h3:vb b=true):Zkw lo hi b (out++[⟨x,b⟩]):=fun t ht=>by
 rw [List.append_assoc]; exact h _ (.cons h1 h2 h3 ht)
theorem Zkw.done {lo hi x:Bnd} {out:List Rng} (h:Zkw lo hi x out):Cut hi lo (out++[⟨x,hi⟩]):=h _ .last
end Go.Proofs.YtkcmgbbopedacaaGreatDoor
namespace Go.Proofs.YtkcmgbbopedacaaGreatDoor
open Go.RowKit
def mrg:Rng→List Rng→List Rng
 | c,[]=>[c]
 | c,r::l=>if cmp r.lo c.hi≤0 then mrg ⟨c.lo,greater c.hi r.hi⟩ l else c::mrg r l
def ZdF:List Rng→List Rng
 | []=>[]
 | r::l=>mrg r l
def ne (r:Rng):Bool:=!emp r
def Zfx (x y:Rng):Bool:=!(y.lo.lt x.lo)
def union (l:List Rng):List Rng:=ZdF ((l.filter ne).mergeSort Zfx)
structure Nrm (l:List Rng):Prop where
 ne:∀ r ∈ l,emp r=false
 gap:l.Pairwise fun x y=>x.hi.lt y.lo=true
def Pt (l:List Rng) (b:Bnd):Prop:=∃ r ∈ l,b.lt r.lo=false∧b.lt r.hi=true
abbrev Srt (l:List Rng):Prop:=l.Pairwise fun x y=>y.lo.lt x.lo=false
theorem Z0 {x:Rng} {l:List Rng} {b:Bnd}:Pt (x::l) b↔(b.lt x.lo=false∧b.lt x.hi=true)∨Pt l b:=by simp [Pt]
theorem ZfV {b:Bnd}:¬ Pt [] b:=by simp [Pt]
theorem ZpA {l m:List Rng} (h:l.Perm m) {b:Bnd}:Pt l b↔Pt m b:=by simp only [Pt,h.mem_iff]
theorem Nrm.tail {x:Rng} {l:List Rng} (h:Nrm (x::l)):Nrm l:=⟨fun r hr=>h.ne r (List.mem_cons_of_mem _ hr),(List.pairwise_cons.1 h.gap).2⟩
theorem Nrm.far {x:Rng} {l:List Rng} (h:Nrm (x::l)) {b:Bnd} (hb:vb b=true) (hp:Pt l b):x.hi.lt b=true∧x.lo.lt b=true:=by
 obtain ⟨r,hr,h1,h2⟩:=hp
 have g:=(List.pairwise_cons.1 h.gap).1 r hr
 have a:=(ZE x).1 (h.ne x List.mem_cons_self)
 have c:=(ZE r).1 (h.ne r (List.mem_cons_of_mem _ hr))
 have k:=Zee c.1 hb g h1
 exact ⟨k,lt_trans a.2.2 k⟩
theorem ZkE:∀ {l m:List Rng},Nrm l→Nrm m→(∀ b,vb b=true→(Pt l b↔Pt m b))→l=m
 | [],[],_,_,_=>rfl
 | [],y::m,_,hm,h=>by
  have c:=(ZE y).1 (hm.ne y List.mem_cons_self)
  exact absurd ((h y.lo c.1).2 (Z0.2 (.inl ⟨lt_irrefl _,c.2.2⟩))) ZfV
 | x::l,[],hl,_,h=>by
  have c:=(ZE x).1 (hl.ne x List.mem_cons_self)
  exact absurd ((h x.lo c.1).1 (Z0.2 (.inl ⟨lt_irrefl _,c.2.2⟩))) ZfV
 | x::l,y::m,hl,hm,h=>by
  have a:=(ZE x).1 (hl.ne x List.mem_cons_self)
  have c:=(ZE y).1 (hm.ne y List.mem_cons_self)
  have hlo:x.lo=y.lo:=by
   refine QH a.1 c.1 ?_ ?_
   ·rcases Z0.1 ((h x.lo a.1).1 (Z0.2 (.inl ⟨lt_irrefl _,a.2.2⟩))) with h1 | h1
    ·exact h1.1
    ·exact Yd (hm.far a.1 h1).2
   ·rcases Z0.1 ((h y.lo c.1).2 (Z0.2 (.inl ⟨lt_irrefl _,c.2.2⟩))) with h1 | h1
    ·exact h1.1
    ·exact Yd (hl.far c.1 h1).2
  have hhi:x.hi=y.hi:=by
   refine QH a.2.1 c.2.1 ?_ ?_
   ·cases hh:x.hi.lt y.hi
    ·rfl
    ·rcases Z0.1 ((h x.hi a.2.1).2 (Z0.2 (.inl ⟨by rw [← hlo]; exact Yd a.2.2,hh⟩))) with h1 | h1
     ·rw [lt_irrefl] at h1; exact absurd h1.2 (by simp)
     ·have:=(hl.far a.2.1 h1).1; rw [lt_irrefl] at this; exact this.symm
   ·cases hh:y.hi.lt x.hi
    ·rfl
    ·rcases Z0.1 ((h y.hi c.2.1).1 (Z0.2 (.inl ⟨by rw [hlo]; exact Yd c.2.2,hh⟩))) with h1 | h1
     ·rw [lt_irrefl] at h1; exact absurd h1.2 (by simp)
     ·have:=(hm.far c.2.1 h1).1; rw [lt_irrefl] at this; exact this.symm
  obtain rfl:x=y:=by cases x; cases y; simp only at hlo hhi; rw [hlo,hhi]
  congr 1
  refine ZkE hl.tail hm.tail fun b hb=>⟨fun hp=>?_,fun hp=>?_⟩
  ·have f:=(hl.far hb hp).1
   rcases Z0.1 ((h b hb).1 (Z0.2 (.inr hp))) with h1 | h1
   ·rw [Yd f] at h1; exact absurd h1.2 (by simp)
   ·exact h1
  ·have f:=(hm.far hb hp).1
   rcases Z0.1 ((h b hb).2 (Z0.2 (.inr hp))) with h1 | h1
   ·rw [Yd f] at h1; exact absurd h1.2 (by simp)
   ·exact h1
theorem ZoM:∀ (l:List Rng) (c:Rng),(∀ r ∈ l,r.lo.lt c.lo=false)→Srt l→∀ r ∈ mrg c l,r.lo.lt c.lo=false
 | [],c,_,_,r,hr=>by simp [mrg] at hr; subst hr; exact lt_irrefl _
 | x::l,c,hc,hs,r,hr=>by
  have hs':=List.pairwise_cons.1 hs
  unfold mrg at hr
  split at hr
  ·exact ZoM l ⟨c.lo,greater c.hi x.hi⟩ (fun r hr=>hc r (List.mem_cons_of_mem _ hr)) hs'.2 r hr
  ·rcases List.mem_cons.1 hr with rfl | hr
   ·exact lt_irrefl _
   ·have h1:=ZoM l x hs'.1 hs'.2 r hr
    have h2:=hc x List.mem_cons_self
    cases h3:r.lo.lt c.lo
    ·rfl
    ·rename_i h4
     exfalso
     have h5:c.hi.lt x.lo=true:=(Xw _ _).1 (by omega)
     simp only [Bnd.lt,Bool.and_eq_true,Bool.or_eq_true,Bool.not_eq_true',Bool.and_eq_false_iff,Bool.not_eq_false',Bool.or_eq_false_iff] at *
     grind [Yx,YW,Xd]
theorem ZkQ:∀ (l:List Rng) (c:Rng),emp c=false→(∀ r ∈ l,emp r=false)→(∀ r ∈ l,r.lo.lt c.lo=false)→Srt l→Nrm (mrg c l)∧∀ b,vb b=true→(Pt (mrg c l) b↔Pt (c::l) b)
 | [],c,h,_,_,_=>⟨⟨by simp [mrg,h],by simp [mrg]⟩,fun b _=>Iff.rfl⟩
 | x::l,c,h,hn,hc,hs=>by
  have hs':=List.pairwise_cons.1 hs
  have a:=(ZE c).1 h
  have hx:=(ZE x).1 (hn x List.mem_cons_self)
  have hlo:=hc x List.mem_cons_self
  unfold mrg
  split
  ·rename_i h1
   have h1':c.hi.lt x.lo=false:=by
    cases h2:c.hi.lt x.lo
    ·rfl
    ·have:=(Xw x.lo c.hi).2 h2; omega
   have hg:=Zd8 a.2.1 hx.2.1
   have hcg:emp ⟨c.lo,greater c.hi x.hi⟩=false:=by
    refine (ZE _).2 ⟨a.1,hg,?_⟩
    simp only [Qh]; split
    ·rename_i h2; exact lt_trans a.2.2 h2
    ·exact a.2.2
   obtain ⟨g1,g2⟩:=ZkQ l ⟨c.lo,greater c.hi x.hi⟩ hcg (fun r hr=>hn r (List.mem_cons_of_mem _ hr)) (fun r hr=>hc r (List.mem_cons_of_mem _ hr)) hs'.2
   refine ⟨g1,fun b hb=>(g2 b hb).trans ?_⟩
   simp only [Z0]
   rw [← or_assoc]
   refine or_congr ?_ Iff.rfl
   have e1:=a.1; have e2:=a.2.1; have e3:=a.2.2; have e4:=hx.1; have e5:=hx.2.1; have e6:=hx.2.2
   simp only [Qh]
   constructor
   ·rintro ⟨k1,k2⟩
    split at k2
    ·cases hbc:b.lt c.hi
     ·right; refine ⟨?_,k2⟩
      cases hq:b.lt x.lo
      ·rfl
      ·exfalso; have:=Zku hb e2 hbc hq; rw [this] at h1'; cases h1'
     ·left; exact ⟨k1,rfl⟩
    ·left; exact ⟨k1,k2⟩
   ·rintro (⟨k1,k2⟩ | ⟨k1,k2⟩)
    ·refine ⟨k1,?_⟩
     split
     ·rename_i h2; exact lt_trans k2 h2
     ·exact k2
    ·refine ⟨?_,?_⟩
     ·cases hq:b.lt c.lo
      ·rfl
      ·exfalso; have:=Zee e1 e4 hq hlo; rw [this] at k1; cases k1
     ·split
      ·exact k2
      ·rename_i h2; exact Zee e5 e2 k2 (by simpa using h2)
  ·rename_i h1
   have h1':c.hi.lt x.lo=true:=(Xw _ _).1 (by omega)
   obtain ⟨g1,g2⟩:=ZkQ l x (hn x List.mem_cons_self) (fun r hr=>hn r (List.mem_cons_of_mem _ hr)) hs'.1 hs'.2
   refine ⟨⟨fun r hr=>?_,List.pairwise_cons.2 ⟨fun r hr=>?_,g1.gap⟩⟩,fun b hb=>?_⟩
   ·rcases List.mem_cons.1 hr with rfl | hr
    ·exact h
    ·exact g1.ne r hr
   ·exact Zee hx.1 ((ZE r).1 (g1.ne r hr)).1 h1' (ZoM l x hs'.1 hs'.2 r hr)
   ·rw [Z0,Z0,g2 b hb]
theorem ZfG {l:List Rng} (hn:∀ r ∈ l,emp r=false) (hs:Srt l):Nrm (ZdF l)∧∀ b,vb b=true→(Pt (ZdF l) b↔Pt l b):=by
 cases l with
 | nil=>exact ⟨⟨by simp [ZdF],by simp [ZdF]⟩,fun _ _=>Iff.rfl⟩
 | cons x l =>
  have hs':=List.pairwise_cons.1 hs
  exact ZkQ l x (hn x List.mem_cons_self) (fun r hr=>hn r (List.mem_cons_of_mem _ hr)) hs'.1 hs'.2
theorem ZlC {l:List Rng} {r:Rng} (h:r ∈ l.filter ne):emp r=false:=by simpa [ne] using (List.mem_filter.1 h).2
theorem ZhN (l:List Rng) (a b:Rng):(Zfx a b || Zfx b a)=true:=by
 simp only [Zfx,Bool.or_eq_true,Bool.not_eq_true']
 cases h:b.lo.lt a.lo
 ·exact .inl rfl
 ·exact .inr (Yd h)
theorem Zea (a b c:Rng) (h:Zfx a b=true) (k:Zfx b c=true):Zfx a c=true:=by
 simp only [Zfx,Bool.not_eq_true'] at *
 simp only [Bnd.lt,Bool.and_eq_false_iff,Bool.not_eq_false',Bool.or_eq_false_iff] at *
 grind [Yx,YW,Xd]
theorem Zd0 {l s:List Rng} (hp:s.Perm (l.filter ne)) (hs:Srt s):ZdF s=union l:=by
 have hn:∀ r ∈ s,emp r=false:=fun r hr=>ZlC (hp.mem_iff.1 hr)
 have hp2:((l.filter ne).mergeSort Zfx).Perm (l.filter ne):=List.mergeSort_perm _ _
 have hs2:Srt ((l.filter ne).mergeSort Zfx):=by
  have:=List.pairwise_mergeSort (le:=Zfx) Zea (ZhN l) (l.filter ne)
  exact this.imp fun h=>by simpa [Zfx] using h
 have g1:=ZfG hn hs
 have g2:=ZfG (fun r hr=>ZlC (hp2.mem_iff.1 hr)) hs2
 exact ZkE g1.1 g2.1 fun b hb=>(g1.2 b hb).trans ((ZpA (hp.trans hp2.symm)).trans (g2.2 b hb).symm)
theorem ZgJ (l:List Rng):Nrm (union l)∧∀ b,vb b=true→(Pt (union l) b↔Pt (l.filter ne) b):=by
 have hp2:((l.filter ne).mergeSort Zfx).Perm (l.filter ne):=List.mergeSort_perm _ _
 have hs2:Srt ((l.filter ne).mergeSort Zfx):=by
  have:=List.pairwise_mergeSort (le:=Zfx) Zea (ZhN l) (l.filter ne)
  exact this.imp fun h=>by simpa [Zfx] using h
 have g2:=ZfG (fun r hr=>ZlC (hp2.mem_iff.1 hr)) hs2
 exact ⟨g2.1,fun b hb=>(g2.2 b hb).trans (ZpA hp2)⟩
theorem Zbu {l:List Rng} (h:∀ r ∈ l,emp r=false):l.filter ne=l:=List.filter_eq_self.2 fun r hr=>by simp [ne,h r hr]
theorem ZlZ {l m:List Rng} (hm:Nrm m) (h:∀ b,vb b=true→(Pt (l.filter ne) b↔Pt m b)):union l=m :=
 ZkE (ZgJ l).1 hm fun b hb=>((ZgJ l).2 b hb).trans (h b hb)
theorem ZuA {r:Rng} (h:emp r=false):Nrm [r]:=⟨by simp [h],by simp⟩
theorem ZpG {hi:Bnd} (hh:vb hi=true):∀ {lo:Bnd} {l:List Rng},Cut hi lo l→vb lo=true→lo.lt hi=true→(∀ r ∈ l,emp r=false)∧∀ b,vb b=true→(Pt l b↔b.lt lo=false∧b.lt hi=true):=by
 intro lo l h
 induction h with
 | last=>intro hl hlt; exact ⟨by simp [ZE,hl,hh,hlt],fun b hb=>by simp [Pt]⟩
 | cons h1 h2 h3 hcut ih =>
  rename_i lo x l
  intro hl hlt
  obtain ⟨g1,g2⟩:=ih h3 h2
  refine ⟨fun r hr=>?_,fun b hb=>?_⟩
  ·rcases List.mem_cons.1 hr with rfl | hr
   ·exact (ZE _).2 ⟨hl,h3,h1⟩
   ·exact g1 r hr
  ·rw [Z0,g2 b hb]
   simp only
   constructor
   ·rintro (⟨k1,k2⟩ | ⟨k1,k2⟩)
    ·exact ⟨k1,lt_trans k2 h2⟩
    ·refine ⟨?_,k2⟩
     cases hq:b.lt lo
     ·rfl
     ·have:=lt_trans hq h1; rw [this] at k1; cases k1
   ·rintro ⟨k1,k2⟩
    cases hq:b.lt x
    ·exact .inr ⟨rfl,k2⟩
    ·exact .inl ⟨k1,rfl⟩
theorem ZpM {lo hi:Bnd} {l:List Rng} (h:Cut hi lo l) (he:emp ⟨lo,hi⟩=false):union l=[⟨lo,hi⟩]:=by
 have a:=(ZE _).1 he
 obtain ⟨g1,g2⟩:=ZpG a.2.1 h a.1 a.2.2
 exact ZlZ (ZuA he) fun b hb=>by rw [Zbu g1,g2 b hb]; simp [Pt]
theorem ZeB {r:Rng} (h:emp r=false) (k:ByteArray):contains r k=true↔vk k=true∧Bnd.lt ⟨k,false⟩ r.lo=false∧Bnd.lt ⟨k,false⟩ r.hi=true:=by
 rw [ZeI h]; simp [and_assoc]
theorem ZoC {l:List Rng} {k:ByteArray} (hk:vk k=true):l.any (contains · k)=true↔Pt (l.filter ne) ⟨k,false⟩:=by
 simp only [List.any_eq_true,Pt]
 constructor
 ·rintro ⟨r,hr,h⟩
  cases he:emp r
  ·exact ⟨r,List.mem_filter.2 ⟨hr,by simp [ne,he]⟩,((ZeB he k).1 h).2⟩
  ·rw [ZbC he] at h; cases h
 ·rintro ⟨r,hr,h⟩
  exact ⟨r,(List.mem_filter.1 hr).1,(ZeB (ZlC hr) k).2 ⟨hk,h⟩⟩
end Go.Proofs.YtkcmgbbopedacaaGreatDoor
namespace Go.Proofs.YtkcmgbbopedacaaGreatDoor
open Go.RowKit
attribute [local irreducible] contains emp vld vb vk adj Yt ZtU proper greater lesser greatest least cmp Bnd.lt Op.bytesLess Calls Oper.wp wpList Code.wp Oper.upon
theorem Zfc (x:Rng) {w:World}:Calls Tryz.prog 69 #[.agg #[.string x.lo.key,.bool x.lo.top,.string x.hi.key,.bool x.hi.top]] w fun e w'=>e=.returned (.bool (emp x))∧Kp [] w w':=ZuO
def Zs7 (l:List Rng):Int:=if l.any emp then (l.findIdx emp:Int) else -1
set_option maxHeartbeats 1000000 in
theorem Zg5 {p:Option Addr} {n c:Nat} {l:List Rng} {w:World} (h1:Rd w 4 (.slice p n c) n (ZI l)) (hn:n≤1000000) :
   Calls Tryz.prog 242 #[.slice p n c,.func (.func 69) #[] #[]] w fun e w'=>e=.returned (.int .i64 (Zs7 l))∧Kp [] w w':=by
 have hl:l.length=n:=h1.count rvz (by decide)
 have Hl:=Lib.hid hl
 clear hl
 obtain ⟨tt,htt⟩:∃ tt,tt=Zs7 l:=⟨_,rfl⟩
 rw [← htt]
 have Ht:=Lib.hid htt
 clear htt
 go_enter Tryz.func242,Tryz.ntmps242
 have hR:=Rep.refl w
 generalize w=w0 at hR h1
 go_wp2_with (first | (refine Xj hR ?_) | (refine Xk hR ?_; (try clear hF); clear hR; intro w hR; have hF:=hR.fx) | (refine Ym hR ?_; (try clear hF); clear hR; intro w B hR; have hF:=hR.fx))
 go_loopw [8] (fun i wr=>∃ k:Nat,i=.int .i64 k∧k≤n∧Hid (∀ j r,j<k→l[j]?=some r→emp r=false)∧Rep w0 nof [] [] wr) (fun i _=>n - (intOf i).toNat)
 case atStart=>exact ⟨0,rfl,Nat.zero_le _,Lib.hid (fun j r hj=>by omega),hR⟩
 case round =>
  obtain ⟨k,rfl,hk,hno,hR⟩:=hrel
  by_cases hlt:k<n
  ·have hlt':(k:Int)<(n:Int):=by omega
   obtain ⟨r,hr⟩:∃ r,l[k]?=some r:=⟨l[k]'(by rw [Hl.out]; exact hlt),List.getElem?_eq_getElem _⟩
   obtain ⟨b,o,rfl,hR⟩:=h1.rw.elem rvz (by decide) hr hR
   have Hr:=Lib.hid hr
   clear hr
   simp only [Rng.vals] at hR
   have hF:=hR.fx
   cases he:emp r
   ·go_wp2_with (first | (refine Xj hR ?_) | (refine Xk hR ?_; (try clear hF); clear hR; intro w hR; have hF:=hR.fx) | (refine Ym hR ?_; (try clear hF); clear hR; intro w B hR; have hF:=hR.fx) | (go_at_call 69; refine (Zfc r).mono ?_; rintro e w ⟨rfl,hb⟩; replace hR:=hR.kp0 hb; (try clear hF); clear hb; have hF:=hR.fx))
    go_roundw
    case rel=>exact ⟨k+1,by go_num,by omega,Lib.hid (fun j x hj hx=>by
     by_cases hjk:j=k
     ·subst hjk; rw [Hr.out] at hx; obtain rfl:=Option.some.inj hx; exact he
     ·exact hno.out j x (by omega) hx),hR.sub Y1 Y1⟩
    case measure=>simp [intOf]; omega
   ·go_wp2_with (first | (refine Xj hR ?_) | (refine Xk hR ?_; (try clear hF); clear hR; intro w hR; have hF:=hR.fx) | (refine Ym hR ?_; (try clear hF); clear hR; intro w B hR; have hF:=hR.fx) | (go_at_call 69; refine (Zfc r).mono ?_; rintro e w ⟨rfl,hb⟩; replace hR:=hR.kp0 hb; (try clear hF); clear hb; have hF:=hR.fx))
    go_ret
    refine ⟨?_,hR.kp_nof⟩
    have h1:l.findIdx emp=k:=by
     rw [List.findIdx_eq (by rw [Hl.out]; exact hlt)]
     refine ⟨?_,fun j hj=>?_⟩
     ·rw [(List.getElem?_eq_some_iff.1 Hr.out).2]; exact he
     ·simpa using hno.out j _ hj (List.getElem?_eq_getElem (by rw [Hl.out]; omega))
    have h2:l.any emp=true:=List.any_eq_true.2 ⟨r,List.mem_of_getElem? Hr.out,he⟩
    rw [Ht.out]; simp [Zs7,h1,h2]
  ·obtain rfl:k=n:=by omega
   go_wp2
   go_ret
   refine ⟨?_,hR.kp_nof⟩
   have h2:l.any emp=false:=by
    rw [List.any_eq_false]; intro x hx
    obtain ⟨j,hj,rfl⟩:=List.mem_iff_getElem.1 hx
    simpa using hno.out j _ (by rw [← Hl.out]; exact hj) (List.getElem?_eq_getElem hj)
   rw [Ht.out]; simp [Zs7,h2]
end Go.Proofs.YtkcmgbbopedacaaGreatDoor
namespace Go.Proofs.YtkcmgbbopedacaaGreatDoor
open Go.RowKit
attribute [local irreducible] contains emp vld vb vk adj Yt ZtU proper greater lesser greatest least cmp Bnd.lt Op.bytesLess Calls Oper.wp wpList Code.wp Oper.upon
theorem filter_all {l:List Rng} (h:l.any emp=false):l.filter ne=l:=Zbu fun r hr=>by
 have:=List.any_eq_false.1 h r hr; simpa using this
theorem ZdN {l:List Rng} {j:Nat} {r:Rng} (h:l[j]?=some r):l.take (j+1)=l.take j++[r]:=by
 rw [List.take_add_one,h]; rfl
set_option maxRecDepth 100000 in
set_option maxHeartbeats 4000000 in
theorem Zka {w0 w:World} {X:Fr} {R:List Win} {S sl pre post:List OB} {v:Value} {n:Nat} {l:List Rng} (hR:Rep w0 X R S w) (hO:OS sl 72 4 v n (ZI l)) (hC:Ctx S sl pre post) (hn:n≤1000000) :
   Calls Tryz.prog 235 #[v,.func (.func 69) #[] #[]] w fun e w'=>∃ v' sl',e=.returned v'∧OS sl' 72 4 v' (l.filter ne).length (ZI (l.filter ne))∧Rep w0 X R (pre++(sl'++post)) w':=by
 have hl:l.length=n:=(hO.rdC hR hC).count rvz (by decide)
 have Hl:=Lib.hid hl
 clear hl
 obtain ⟨g0,c0,hv⟩:∃ p c,v=.slice p n c:=by obtain ⟨p,c,e,-⟩:=(hO.rdC hR hC).ex; exact ⟨p,c,e⟩
 have e:=hC.eq
 subst e
 clear hC
 subst hv
 cases ha:l.any emp
 ·have hf:Zs7 l=-1:=by simp [Zs7,ha]
  have hff:=filter_all ha
  have H2:=Zg5 (hO.rdC hR ZdA.out) hn
  rw [hf] at H2
  rw [hff,Hl.out]
  clear hf hff ha
  go_enter Tryz.func235,Tryz.ntmps235
  go_wp2_with (first | (refine Xj hR ?_) | (refine Xk hR ?_; (try clear hF); clear hR; intro w hR; have hF:=hR.fx) | (refine Ym hR ?_; (try clear hF); clear hR; intro w B hR; have hF:=hR.fx) | (go_at_call 242; refine (H2).mono ?_; rintro e w ⟨rfl,hb⟩; replace hR:=hR.kp0 hb; (try clear hF); clear hb; have hF:=hR.fx))
  go_ret
  exact ⟨_,_,rfl,hO,hR⟩
 ·obtain ⟨i0,hi0⟩:∃ i0,l.findIdx emp=i0:=⟨_,rfl⟩
  have hi1:i0<l.length:=by rw [← hi0,List.findIdx_lt_length]; simpa using ha
  have hf:Zs7 l=(i0:Int):=by simp [Zs7,ha,hi0]
  have hpre:(l.take (i0+1)).filter ne=l.take i0:=by
   have h1:ne l[i0]=false:=by
    have:=List.findIdx_getElem (p:=emp) (xs:=l) (w:=by rw [hi0]; exact hi1)
    simp only [hi0] at this; simp [ne,this]
   rw [ZdN (List.getElem?_eq_getElem hi1),List.filter_append,List.filter_cons,h1]
   simp only [Bool.false_eq_true,if_false,List.filter_nil,List.append_nil]
   refine Zbu fun r hr=>?_
   obtain ⟨j,hj,rfl⟩:=List.mem_iff_getElem.1 hr
   have hj':j<i0:=by simp at hj; omega
   have:=List.not_of_lt_findIdx (p:=emp) (xs:=l) (i:=j) (by rw [hi0]; exact hj')
   simpa using this
  have hin:i0<n:=by rw [← Hl.out]; exact hi1
  obtain ⟨g,rfl⟩:∃ g,g0=some ⟨g,0,none⟩:=by
   rcases hO.2 with ⟨-,-,h0⟩ | ⟨g,cap,sp,-,e,-⟩
   ·omega
   ·simp only [Value.slice.injEq] at e; exact ⟨g,e.1⟩
  have hcap:n≤c0:=by
   rcases hO.2 with ⟨-,-,h0⟩ | ⟨g,cap,sp,-,e,h2,-⟩
   ·omega
   ·simp only [Value.slice.injEq] at e; rw [e.2.2]; exact h2
  have H2:=Zg5 (hO.rdC hR ZdA.out) hn
  rw [hf] at H2
  have hne:¬ ((i0:Int)=-1):=by omega
  have Hp:=Lib.hid hpre
  clear hf hpre hi1 hi0 ha
  go_enter Tryz.func235,Tryz.ntmps235
  go_wp2_with (first | (refine Xj hR ?_) | (refine Xk hR ?_; (try clear hF); clear hR; intro w hR; have hF:=hR.fx) | (refine Ym hR ?_; (try clear hF); clear hR; intro w B hR; have hF:=hR.fx) | (go_at_call 242; refine (H2).mono ?_; rintro e w ⟨rfl,hb⟩; replace hR:=hR.kp0 hb; (try clear hF); clear hb; have hF:=hR.fx))
  have hb0:((i0:Int) == -1)=false:=by simp
  simp only [hb0]
  clear hb0
  rename (((i0:Int) == -1)=false)=>hb1
  clear hb1
  go_loopw [5,6] (fun i j wr=>∃ i' j':Nat,∃ cur sl,i=.int .i64 i'∧j=.int .i64 j'∧i' < j'∧j'≤n∧OS sl 72 4 (.slice (some ⟨g,0,none⟩) n c0) n (ZI cur)∧Hid (cur.length=n)∧Hid (cur.take i'=(l.take j').filter ne)∧Hid (cur.drop j'=l.drop j')∧Rep w0 X R (pre++(sl++post)) wr) (fun _ j _=>n - (intOf j).toNat)
  case atStart=>exact ⟨i0,i0+1,l,sl,rfl,by go_num,by omega,by omega,hO,Hl,Lib.hid Hp.out.symm,Lib.hid rfl,hR⟩
  case round =>
   obtain ⟨i,j,cur,sl,rfl,rfl,hij,hjn,hO,hcl,ht,hd,hR⟩:=hrel
   clear H2
   by_cases hlt:j<n
   ·have hlt':(j:Int)<(n:Int):=by omega
    obtain ⟨r,hr⟩:∃ r,l[j]?=some r:=⟨l[j]'(by rw [Hl.out]; exact hlt),List.getElem?_eq_getElem _⟩
    have hr2:cur[j]?=some r:=by
     have:=congrArg (fun x=>x[0]?) hd.out
     simpa [hr] using this
    have hv:((ZI cur).drop (j * 4)).take 4=[.string r.lo.key,.bool r.lo.top,.string r.hi.key,.bool r.hi.top]:=ZoX rvz hr2
    have hov:j * 4+4≤(ZI cur).length:=by rw [ZR,hcl.out]; omega
    have hoi:i * 4+4≤(ZI cur).length:=by rw [ZR,hcl.out]; omega
    have Hv:=Lib.hid hv
    have Hov:=Lib.hid hov
    have Hoi:=Lib.hid hoi
    have Hr:=Lib.hid hr
    clear hv hov hoi hr hr2
    have hi0:(0:Int)≤(i:Int):=by omega
    have hin':(i:Int)<(n:Int):=by omega
    cases he:emp r
    ·go_wp2_with (first | (refine Zf5 hR rfl rfl hO ZdA.out rfl (by exact inferInstance) (by exact rfl) Hov.out Hv.out (by simp only [Act.put,List.setIfInBounds_toArray,List.set_cons_zero,List.set_cons_succ,ldW,if_true,Bool.false_eq_true,if_false,List.headD_cons]; exact rfl) ?_) | (refine ZbA hR rfl rfl rfl hO ZdA.out rfl rfl (by exact inferInstance) Hoi.out (by exact rfl) ?_; (try clear hF); clear hR; intro sl w hO hR; (try simp only [List.cons_append,List.nil_append] at hR); have hF:=hR.fx) | (refine Xj hR ?_) | (refine Xk hR ?_; (try clear hF); clear hR; intro w hR; have hF:=hR.fx) | (refine Ym hR ?_; (try clear hF); clear hR; intro w B hR; have hF:=hR.fx) | (go_at_call 69; refine (Zfc r).mono ?_; rintro e w ⟨rfl,hb⟩; replace hR:=hR.kp0 hb; (try clear hF); clear hb; have hF:=hR.fx))
     have hst:stL (i * 4) [.string r.lo.key,.bool r.lo.top,.string r.hi.key,.bool r.hi.top] (ZI cur)=ZI (cur.set i r):=Zfg r cur i (by rw [hcl.out]; omega)
     rw [hst] at hO
     go_roundw
     case rel =>
      refine ⟨i+1,j+1,cur.set i r,sl,by go_num,by go_num,by omega,by omega,hO,Lib.hid (by rw [List.length_set]; exact hcl.out),Lib.hid ?_,Lib.hid ?_,by simpa only [List.append_nil] using hR.sub Y1⟩
      ·rw [ZdN Hr.out,List.filter_append,List.filter_cons_of_pos (by simp [ne,he]),List.filter_nil,← ht.out]
       rw [ZdN (r:=r) (by rw [List.getElem?_set_self (by rw [hcl.out]; omega)]),List.take_set_of_le (Nat.le_refl _)]
      ·rw [List.drop_set_of_lt (by omega)]
       have:=congrArg (fun x=>x.drop 1) hd.out
       simpa [List.drop_drop,Nat.add_comm] using this
     case measure=>simp [intOf]; omega
    ·go_wp2_with (first | (refine Zf5 hR rfl rfl hO ZdA.out rfl (by exact inferInstance) (by exact rfl) Hov.out Hv.out (by simp only [Act.put,List.setIfInBounds_toArray,List.set_cons_zero,List.set_cons_succ,ldW,if_true,Bool.false_eq_true,if_false,List.headD_cons]; exact rfl) ?_) | (refine Xj hR ?_) | (refine Xk hR ?_; (try clear hF); clear hR; intro w hR; have hF:=hR.fx) | (refine Ym hR ?_; (try clear hF); clear hR; intro w B hR; have hF:=hR.fx) | (go_at_call 69; refine (Zfc r).mono ?_; rintro e w ⟨rfl,hb⟩; replace hR:=hR.kp0 hb; (try clear hF); clear hb; have hF:=hR.fx))
     go_roundw
     case rel =>
      refine ⟨i,j+1,cur,sl,by go_num,by go_num,by omega,by omega,hO,hcl,Lib.hid ?_,Lib.hid ?_,hR.sub Y1⟩
      ·rw [ZdN Hr.out,List.filter_append,List.filter_cons_of_neg (by simp [ne,he]),List.filter_nil,List.append_nil]; exact ht.out
      ·have:=congrArg (fun x=>x.drop 1) hd.out
       simpa [List.drop_drop,Nat.add_comm] using this
     case measure=>simp [intOf]; omega
   ·obtain rfl:j=n:=by omega
    go_wp2_with (first | (refine Xj hR ?_) | (refine Xk hR ?_; (try clear hF); clear hR; intro w hR; have hF:=hR.fx) | (refine Ym hR ?_; (try clear hF); clear hR; intro w B hR; have hF:=hR.fx) | (refine Zhg hR rfl rfl rfl rfl (by exact inferInstance) Yh.out rfl hO ZdA.out (by omega) (by omega) ?_; (try clear hF); clear hR; intro sl w hO hR; have hF:=hR.fx))
    have hst:(ZI cur).take (i * 4)=ZI (l.filter ne):=by
     rw [ZcN,ht.out,List.take_of_length_le (by rw [Hl.out]; exact Nat.le_refl _)]
    rw [hst] at hO
    have hli:(l.filter ne).length=i:=by
     have:=hO.1; rw [ZR] at this; omega
    rw [hli]
    go_ret
    exact ⟨_,_,rfl,hO,by simpa only [List.append_nil] using hR⟩
end Go.Proofs.YtkcmgbbopedacaaGreatDoor
