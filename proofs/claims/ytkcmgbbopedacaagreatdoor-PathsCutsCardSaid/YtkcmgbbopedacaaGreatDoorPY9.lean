/-
  Lemmas: Contracts
-/
import Derived.Test.YtkcmgbbopedacaaGreatDoorPY8
set_option linter.unusedSimpArgs false
set_option linter.unusedVariables false
namespace Go.Proofs.YtkcmgbbopedacaaGreatDoor
open Go.RowKit
attribute [local simp] Sem.run_bind Sem.run_pure Result.andThen_ok
class Ct (P:Program) (f:FuncId) (us:List V) (pre:outParam Prop) (u:outParam V):Prop where
 out:pre→Spec P f us [] fun u1 h1=>u1=u∧h1=[]
structure Tape where
 l:List Int
 pos:Nat
 h1:pos≤l.length
 h2:l.length≤600
 h3:∀ z ∈ l,-9223372036854775808≤z∧z≤9223372036854775807
def tpb (τ:Tape):Blk:=.box 126 [.d (Zxr τ.l),vI τ.pos]
theorem Xc {H:Hp} {f:List (Nat × Nat)} {τ:Tape}:Vb H f (tpb τ) (tpb τ):=.box (.cons (.d _) (.cons (.d _) .nil))
def ZxM (P:Program) (f:FuncId) (us:List V) {α:Type} (val:α→V) (φ:α→Prop):Prop:=∀ τ:Tape,Spec P f (.p 0 0::us) [(0,some (tpb τ))] fun u h=>∃ x τ',φ x∧u=val x∧h=[(0,some (tpb τ'))]
class Tc (P:Program) (f:FuncId) (us:List V) {α:outParam Type} (pre:outParam Prop) (val:outParam (α→V)) (φ:outParam (α→Prop)):Prop where
 out:pre→ZxM P f us val φ
 ren:∀ x g,(val x).ren g=val x
section
variable {P:Program} {o:Oper} {H:Hp} {sl:List (Nat × V)} {x y:Operand} {T E:TypeId} {i:Int} {m:Nat}
def letter:Nat→ByteArray
 | 0=>⟨#[97]⟩
 | 1=>⟨#[98]⟩
 | 2=>⟨#[99]⟩
 | 3=>⟨#[0]⟩
 | 4=>⟨#[255]⟩
 | 5=>⟨#[109]⟩
 | _=>⟨#[]⟩
theorem ZdC (m:Nat):(letter m).size≤1:=by unfold letter; split <;> decide
theorem ZtG (hop:o.op=.indexAddr T (.global 0) y) (hy:ev sl y=some (vI i)) (hTE:Ar P T 6 E) (hE:Ty P E 1 false) (hm:i=(m:Int)) (hl:m<6):OpD P o H sl 0 0 (.q [dS (letter m)]) []:=.read fun B a w ρ hs hr=>by
 have hT:=hTE.out
 have hy':=ZbB (Zq hs hy)
 obtain ⟨g1,g2⟩:=hr.gl _ List.mem_cons_self
 subst hm
 have h1:(0:Int)≤(m:Int)∧(m:Int)<6:=by omega
 have hsz:=XO (w:=w) hE
 unfold execOp; rw [hop]
 refine ⟨.pointer (some ⟨0,m,none⟩),?_,.q g1 (.cons (.c rfl) .nil) (vs:=[.string (letter m)]) fun j v hv=>?_⟩
 ·have hg:a.eval (.global 0)=.pointer (some ⟨0,0,none⟩):=rfl
  simp [hy',hg,Instr.indexAt,asIntOf,run_underlying hT,h1,Instr.sureAddr,hsz,addr_add]
  exact fun h=>absurd hl (by omega)
 ·cases j with
  | succ j=>simp at hv
  | zero =>
   simp only [List.getElem?_cons_zero,Option.some.injEq] at hv
   subst hv
   refine g2 m _ ?_
   have:m=0∨m=1∨m=2∨m=3∨m=4∨m=5:=by omega
   rcases this with rfl | rfl | rfl | rfl | rfl | rfl <;> rfl
end
section
variable {Γ:Cx} {k:ZbK} {sl:List (Nat × V)} {hp:Hp} {o:Oper} {ops:Array Oper} {i an d kt:Nat} {ts:List Nat} {r:List PI} {F:List Ft} {f:FuncId} {us uc:List V} {x:Operand} {xs:Array Operand} {ats:Array TypeId} {u u':V} {rest:List Oper} {pre:Prop}
theorem Zx0 (hop:o.op=.call { callee:=.value x,args:=xs,argTypes:=ats }) (hx:ev sl x=some (.d (.c (.func (.func f) #[] #[])))) (ha:evl sl xs.toList=some uc) (hv:Vws [] [] uc us) (hc:Ct Γ.P f us pre u) (hp':pre) (hu:u.ren (rn [] 100000)=u')
 (hg:o.guard=none) (hd:o.dst=some d) (hdl:Nat.blt d Γ.nt=true) (hf:ZV hp 100000 100=true) (hk:WL Γ ops rest k ⟨(d,u')::sl,hp⟩):WL Γ ops (o::rest) k ⟨sl,hp⟩:=ZtA (ZhX 100000 (hc.out hp') hop hx ha hv hu) hg hd hdl hf hk
theorem ZxR (hop:o.op=.call { callee:=.value x,args:=xs,argTypes:=ats }) (hx:ev (keep ts sl) x=some (.d (.c (.func (.func f) #[] #[])))) (ha:evl (keep ts sl) xs.toList=some uc) (hv:Vws [] [] uc us) (hc:Ct Γ.P f us pre u) (hp':pre) (hu:u.ren (rn [] 100000)=u')
 (hd:o.dst=some d) (hw:Wt ops o (keep ts sl) true) (hdl:Nat.blt d Γ.nt=true) (hfr:ZV hp 100000 100=true) (hf:okF ⟨⟨i,an,ts⟩,[],[],100000,100⟩ F=true)
 (hk:WD Γ ops k r (⟨⟨i,an,ts⟩,[],[],100000,100⟩::F) ⟨(d,u')::sl,hp⟩):WO Γ ops k o i an ts r F ⟨sl,hp⟩:=Zvh [] (ZhX 100000 (hc.out hp') hop hx ha hv hu) hd hw hdl hfr hf hk
theorem ZyS {P:Program} {H:Hp} {α:Type} {val:α→V} {φ:α→Prop} {τ:Tape} (hop:o.op=.call { callee:=.value x,args:=xs,argTypes:=ats }) (hx:ev sl x=some (.d (.c (.func (.func f) #[] #[])))) (ha:evl sl xs.toList=some (.p kt 0::uc)) (hH:look H kt=some (some (tpb τ))) (hv:Vws [] [(0,kt)] uc us) (hc:Tc P f us pre val φ) (hp':pre) :
   OpV P o H sl 100000 100 fun u h=>∃ x τ',φ x∧u=val x∧h=[(kt,some (tpb τ'))]:=by
 have hal:Qj H [(0,kt)]=true:=by simp only [Qj,List.all_cons,List.all_nil,Bool.and_true,hH]
 have h0:look [(0,kt)] 0=some kt:=rfl
 refine (Zlr 100000 [(0,kt)] (hc.out hp' τ) hop hx ha (.cons (.p h0) hv) (VH.cons h0 hH (by
  refine Vb.box (.cons (.d _) (.cons (.d _) .nil))) .nil) hal rfl (by rfl)).mono ?_
 rintro u h ⟨u0,h0',⟨y,τ',h1,rfl,rfl⟩,rfl,rfl⟩
 exact ⟨y,τ',h1,hc.ren _ _,rfl⟩
theorem ZxO {α:Type} {val:α→V} {φ:α→Prop} {τ:Tape} (hop:o.op=.call { callee:=.value x,args:=xs,argTypes:=ats }) (hx:ev sl x=some (.d (.c (.func (.func f) #[] #[])))) (ha:evl sl xs.toList=some (.p kt 0::uc)) (hH:look hp kt=some (some (tpb τ))) (hv:Vws [] [(0,kt)] uc us) (hc:Tc Γ.P f us pre val φ) (hp':pre)
   (hg:o.guard=none) (hd:o.dst=some d) (hdl:Nat.blt d Γ.nt=true) (hf:ZV hp 100000 100=true) (hk:∀ x τ,φ x→WL Γ ops rest k ⟨(d,val x)::sl,(kt,some (tpb τ))::hp⟩):WL Γ ops (o::rest) k ⟨sl,hp⟩ :=
 ZsF (ZyS hop hx ha hH hv hc hp') hg hd hdl hf (by rintro _ _ ⟨x,τ',h1,rfl,rfl⟩; exact hk x τ' h1)
theorem ZxX {α:Type} {val:α→V} {φ:α→Prop} {τ:Tape} (hop:o.op=.call { callee:=.value x,args:=xs,argTypes:=ats }) (hx:ev (keep ts sl) x=some (.d (.c (.func (.func f) #[] #[])))) (ha:evl (keep ts sl) xs.toList=some (.p kt 0::uc)) (hH:look hp kt=some (some (tpb τ))) (hv:Vws [] [(0,kt)] uc us) (hc:Tc Γ.P f us pre val φ) (hp':pre)
   (hd:o.dst=some d) (hw:Wt ops o (keep ts sl) true) (hdl:Nat.blt d Γ.nt=true) (hfr:ZV hp 100000 100=true) (hf:okF ⟨⟨i,an,ts⟩,[kt],[kt],100000,100⟩ F=true) (hnd:(r.all fun q=>Zdk q.an i)=true)
   (hk:∀ x τ,φ x→WD Γ ops k r (⟨⟨i,an,ts⟩,[kt],[kt],100000,100⟩::F) ⟨(d,val x)::sl,(kt,some (tpb τ))::hp⟩):WO Γ ops k o i an ts r F ⟨sl,hp⟩ :=
 Zxw [kt] [kt] (ZyS hop hx ha (by rw [ZfT]; exact hH) hv hc hp') hd hw hdl hfr hf hnd (by rintro _ _ ⟨_,_,_,rfl,rfl⟩; exact Zrp _ _) (by rintro _ _ ⟨x,τ',h1,rfl,rfl⟩; exact hk x τ' h1)
end
section
variable {P:Program} {o:Oper} {H:Hp} {sl:List (Nat × V)} {x y:Operand} {T U:TypeId} {k:IntKind} {a b z:Int}
theorem ZtB (hop:o.op=.binOp .rem T x y U) (hx:ev sl x=some (.d (.c (.int k a)))) (hy:ev sl y=some (.d (.c (.int k b)))) (hb:b≠0) (hz:a.tmod b=z):OpD P o H sl 0 0 (.d (.c (.int k z))) []:=Zcn hop hx hy (fun w=>by subst hz; simp [binOp,Op.intDiv,hb]) rfl rfl
theorem ZgD {t E:TypeId} {len:Nat} {us:List V} {u:V} {i:Int} (hop:o.op=.index t x y) (hx:ev sl x=some (.a us)) (hy:ev sl y=some (vI i)) (hTE:Ar P t len E) (hE:Ty P E 1 false) (h0:0≤i) (hl:i<len) (hu:us[i.toNat]?=some u):OpD P o H sl 0 0 u []:=.read fun B a w ρ hs _=>by
 have ht:=hTE.out
 obtain ⟨vs,e,h2⟩:=ZqZ (Zq hs hx)
 have hy':=ZbB (Zq hs hy)
 obtain ⟨v,h3,h4⟩:=h2.get hu
 refine ⟨v,?_,h4⟩
 have hsz:=XO (w:=w) hE
 have hag:=Zbu (w:=w) hE
 unfold execOp; rw [hop]
 have h1:0≤i∧i<(len:Int):=⟨h0,hl⟩
 simp [Instr.index,e,hy',asIntOf,run_underlying ht,h1,hsz,part,hag,h3]
theorem Ztw (hop:o.op=.binOp .quo T x y U) (hx:ev sl x=some (.d (.c (.int k a)))) (hy:ev sl y=some (.d (.c (.int k b)))) (hb:b≠0) (hz:k.wrap (a.tdiv b)=z):OpD P o H sl 0 0 (.d (.c (.int k z))) []:=Zcn hop hx hy (fun w=>by subst hz; simp [binOp,Op.intDiv,hb]) rfl rfl
end
section
variable {Γ:Cx} {k:ZbK} {sl:List (Nat × V)} {hp:Hp} {o:Oper} {ops:Array Oper} {i an d z bytes len:Nat} {ts:List Nat} {r:List PI} {F:List Ft} {t E:TypeId} {parts:Array (Nat × Operand)} {l:List (Nat × V)} {cs:List V} {rest:List Oper} {α:Type}
theorem Zag (f:α→List D) (es:List α) [hS:Sl Γ.P t E z bytes] (hop:o.op=.buildSlice t len parts) (hl:evs sl parts.toList=some l) (hf:Yp z 0 l=some cs) (hn:(parts.size == len && Nat.ble (len * z) 16777216 && Nat.ble len 16777216)=true) (hd':(es.flatMap f).map V.d=cs) (hlen:es.length=len)
   (hg:o.guard=none) (hd:o.dst=some d) (hdl:Nat.blt d Γ.nt=true) (hk:WL Γ ops rest k ⟨(d,.d (lst f es))::sl,hp⟩):WL Γ ops (o::rest) k ⟨sl,hp⟩:=by
 subst hlen
 exact ZsF (Ztz hop hl hf hn hd') hg hd hdl (QJ _ _) (by rintro _ _ ⟨rfl,rfl⟩; exact hk)
theorem Zey (f:α→List D) (es:List α) [hS:Sl Γ.P t E z bytes] (hop:o.op=.buildSlice t len parts) (hl:evs (keep ts sl) parts.toList=some l) (hf:Yp z 0 l=some cs) (hn:(parts.size == len && Nat.ble (len * z) 16777216 && Nat.ble len 16777216)=true) (hd':(es.flatMap f).map V.d=cs) (hlen:es.length=len)
   (hd:o.dst=some d) (hw:Wt ops o (keep ts sl) true) (hdl:Nat.blt d Γ.nt=true) (hfo:okF ⟨⟨i,an,ts⟩,[],[],0,0⟩ F=true) (hk:WD Γ ops k r (⟨⟨i,an,ts⟩,[],[],0,0⟩::F) ⟨(d,.d (lst f es))::sl,hp⟩):WO Γ ops k o i an ts r F ⟨sl,hp⟩:=by
 subst hlen
 exact Ztr (h:=[]) (Ztz hop hl hf hn hd') hd hw hdl rfl (QJ _ _) hfo hk
end
def unI:List V→Option (List Int)
 | []=>some []
 | .d (.c (.int .i64 a))::r=>(unI r).map (a::·)
 | _::_=>none
theorem Zid:∀ {cs:List V} {es:List Int},unI cs=some es→(es.flatMap dsI).map V.d=cs
 | [],es,h=>by simp only [unI,Option.some.injEq] at h; subst h; rfl
 | v::r,es,h=>by
  unfold unI at h
  split at h
  ·rename_i e; cases e
  ·rename_i e
   cases e
   cases hr:unI r with
   | none=>rw [hr] at h; cases h
   | some l=>rw [hr] at h; simp only [Option.map_some,Option.some.injEq] at h; subst h; simp [dsI,Zid hr]
  ·cases h
section
variable {Γ:Cx} {k:ZbK} {sl:List (Nat × V)} {hp:Hp} {o:Oper} {ops:Array Oper} {i an d z bytes len:Nat} {ts:List Nat} {r:List PI} {F:List Ft} {t E:TypeId} {parts:Array (Nat × Operand)} {l:List (Nat × V)} {cs:List V} {rest:List Oper} {es:List Int}
theorem ZwB [hS:Sl Γ.P t E z bytes] (hop:o.op=.buildSlice t len parts) (hl:evs sl parts.toList=some l) (hf:Yp z 0 l=some cs) (hn:(parts.size == len && Nat.ble (len * z) 16777216 && Nat.ble len 16777216)=true) (hd':unI cs=some es) (hlen:es.length=len)
 (hg:o.guard=none) (hd:o.dst=some d) (hdl:Nat.blt d Γ.nt=true) (hk:WL Γ ops rest k ⟨(d,.d (Zxr es))::sl,hp⟩):WL Γ ops (o::rest) k ⟨sl,hp⟩:=Zag dsI es hop hl hf hn (Zid hd') hlen hg hd hdl hk
theorem Zwg [hS:Sl Γ.P t E z bytes] (hop:o.op=.buildSlice t len parts) (hl:evs (keep ts sl) parts.toList=some l) (hf:Yp z 0 l=some cs) (hn:(parts.size == len && Nat.ble (len * z) 16777216 && Nat.ble len 16777216)=true) (hd':unI cs=some es) (hlen:es.length=len)
 (hd:o.dst=some d) (hw:Wt ops o (keep ts sl) true) (hdl:Nat.blt d Γ.nt=true) (hfo:okF ⟨⟨i,an,ts⟩,[],[],0,0⟩ F=true) (hk:WD Γ ops k r (⟨⟨i,an,ts⟩,[],[],0,0⟩::F) ⟨(d,.d (Zxr es))::sl,hp⟩):WO Γ ops k o i an ts r F ⟨sl,hp⟩:=Zey dsI es hop hl hf hn (Zid hd') hlen hd hw hdl hfo hk
end
class Eqs (P:Program) (T:TypeId) (vs us:List Value) (b:outParam Bool):Prop where
 g:P.eqGuardType P.depth T=false
 out:∀ w,(Op.equalIn 10000 T (.agg vs.toArray) (.agg us.toArray)).run P w=.ok b w
section
variable {P:Program} {o:Oper} {H:Hp} {sl:List (Nat × V)} {x y:Operand} {T U:TypeId} {xs ys:List V} {vs us:List Value} {b:Bool}
theorem Zru (hop:o.op=.binOp .eql T x y U) (hx:ev sl x=some (.a xs)) (hy:ev sl y=some (.a ys)) (hc:ccV xs=some vs) (hc':ccV ys=some us) (hq:Eqs P T vs us b):OpD P o H sl 0 0 (vB b) []:=ZxE hop hx hy hc hc' hq.g hq.out
theorem Zq8 (hop:o.op=.binOp .neq T x y U) (hx:ev sl x=some (.a xs)) (hy:ev sl y=some (.a ys)) (hc:ccV xs=some vs) (hc':ccV ys=some us) (hq:Eqs P T vs us b):OpD P o H sl 0 0 (vB (!b)) []:=ZxG hop hx hy hc hc' hq.g hq.out
end
section
variable {P:Program} {o:Oper} {H:Hp} {sl:List (Nat × V)} {x:Operand} {t E:TypeId} {z bytes:Nat}
theorem Zfl {α:Type} {f:α→List D} {lo hi:Option Operand} {il ih:Int} {xs ys:List α} [hS:Sl P t E z bytes] (hop:o.op=.slice t x lo hi none) (hx:ev sl x=some (.d (lst f xs))) (hlo:evo sl 0 lo=some (vI il)) (hhi:evo sl (xs.length:Int) hi=some (vI ih)) (h0:0≤il) (h1:il≤ih) (h2:ih≤xs.length) (hf:∀ a,(f a).length=z) (hd:(xs.drop il.toNat).take (ih.toNat - il.toNat)=ys):OpD P o H sl 0 0 (.d (lst f ys)) [] :=
 ZpA (il:=il.toNat) (ih:=ih.toNat) hop hx (by rw [hlo,Int.toNat_of_nonneg h0]) (by rw [hhi,Int.toNat_of_nonneg (by omega)]) (by omega) (by omega) hf hd
end
section
variable {P:Program} {o:Oper} {H:Hp} {sl:List (Nat × V)} {x y:Operand} {t:TypeId} {s s':ByteArray}
theorem ZrD {s:ByteArray} {m:Nat} (h:m<s.size):s[m]?=some (s.get! m):=by
 have:s[m]?=some s[m]:=by simp [h]
 rw [this]
 congr 1
 simp [ByteArray.get!,ByteArray.getElem_eq_getElem_data,h]
theorem Zfn {i:Int} (hop:o.op=.index t x y) (hx:ev sl x=some (vS s)) (hy:ev sl y=some (vI i)) (ht:P.underlying t=some .string) (h0:0≤i) (h1:i<s.size):OpD P o H sl 0 0 (.d (.c (.int .u8 (s.get! i.toNat).toNat))) [] :=
 ZpF hop hx hy ht (Int.toNat_of_nonneg h0).symm (ZrD (by omega))
theorem Zfr {lo hi:Option Operand} {il ih:Int} (hop:o.op=.slice t x lo hi none) (hx:ev sl x=some (vS s)) (ht:P.underlying t=some .string) (hlo:evo sl 0 lo=some (vI il)) (hhi:evo sl (s.size:Int) hi=some (vI ih)) (h0:0≤il) (h1:il≤ih) (h2:ih≤s.size) (hd:s.extract il.toNat ih.toNat=s'):OpD P o H sl 0 0 (vS s') []:=by
 subst hd
 exact Zp6 hop hx ht (by rw [hlo,Int.toNat_of_nonneg h0]) (by rw [hhi,Int.toNat_of_nonneg (by omega)]) (by omega) (by omega)
end
theorem wu8 {a:Int} (h1:0≤a) (h2:a≤255):IntKind.u8.wrap a=a:=by
 simp [IntKind.wrap,IntKind.bits,IntKind.signed]; omega
theorem ZuX {a:Int} (h1 : -2147483648≤a) (h2:a≤2147483647):IntKind.i32.wrap a=a:=by
 simp [IntKind.wrap,IntKind.bits,IntKind.signed]; split <;> omega
section
variable {Γ:Cx} {k:ZbK} {st:St} {ops:Array Oper} {rest:List Oper} {d:Option Tmp} {ty:TypeId} {ps:String} {af:Array Edge} {g:Option (Nat × Bool)} {gg:Nat × Bool} {T T':TypeId} {x y z:Operand} {n i an:Nat} {bo:BinOp} {uo:UnOp} {bb:Builtin} {xs:Array Operand} {ts:Array TypeId} {pa:Array (Nat × Operand)} {tl:List Nat} {r:List PI} {F:List Ft} {o:Oper} {c:Code} {e:Exit} {op:Op}
theorem ZzI {q:Prop} (h:q→WC Γ c k st):q→WC Γ c k st:=h
theorem ZyZ {q:Prop} (h:q→WK Γ k e st):q→WK Γ k e st:=h
theorem ZyP {q:Prop} (h:q→WL Γ ops rest k st):q→WL Γ ops rest k st:=h
theorem ZyR {q:Prop} (h:q→WO Γ ops k o i an tl r F st):q→WO Γ ops k o i an tl r F st:=h
theorem Zy0 {q:Prop} (h:q→WL Γ ops (⟨d,op,ty,ps,af,some gg⟩::rest) k st):q→WL Γ ops (⟨d,op,ty,ps,af,some gg⟩::rest) k st:=h
theorem ZvC {q:Prop} (h:q→WL Γ ops (⟨d,.load T x,ty,ps,af,g⟩::rest) k st):q→WL Γ ops (⟨d,.load T x,ty,ps,af,g⟩::rest) k st:=h
theorem ZvR {q:Prop} (h:q→WO Γ ops k ⟨d,.load T x,ty,ps,af,g⟩ i an tl r F st):q→WO Γ ops k ⟨d,.load T x,ty,ps,af,g⟩ i an tl r F st:=h
theorem Zvj {q:Prop} (h:q→WL Γ ops (⟨d,.fieldAddr T x n,ty,ps,af,g⟩::rest) k st):q→WL Γ ops (⟨d,.fieldAddr T x n,ty,ps,af,g⟩::rest) k st:=h
theorem ZvB {q:Prop} (h:q→WO Γ ops k ⟨d,.fieldAddr T x n,ty,ps,af,g⟩ i an tl r F st):q→WO Γ ops k ⟨d,.fieldAddr T x n,ty,ps,af,g⟩ i an tl r F st:=h
theorem Zvq {q:Prop} (h:q→WL Γ ops (⟨d,.move x,ty,ps,af,g⟩::rest) k st):q→WL Γ ops (⟨d,.move x,ty,ps,af,g⟩::rest) k st:=h
theorem Zvt {q:Prop} (h:q→WO Γ ops k ⟨d,.move x,ty,ps,af,g⟩ i an tl r F st):q→WO Γ ops k ⟨d,.move x,ty,ps,af,g⟩ i an tl r F st:=h
theorem ZvA {q:Prop} (h:q→WL Γ ops (⟨d,.assign x,ty,ps,af,g⟩::rest) k st):q→WL Γ ops (⟨d,.assign x,ty,ps,af,g⟩::rest) k st:=h
theorem Zvl {q:Prop} (h:q→WO Γ ops k ⟨d,.assign x,ty,ps,af,g⟩ i an tl r F st):q→WO Γ ops k ⟨d,.assign x,ty,ps,af,g⟩ i an tl r F st:=h
theorem ZvM {q:Prop} (h:q→WL Γ ops (⟨d,.pick x y z,ty,ps,af,g⟩::rest) k st):q→WL Γ ops (⟨d,.pick x y z,ty,ps,af,g⟩::rest) k st:=h
theorem Zu4 {q:Prop} (h:q→WO Γ ops k ⟨d,.pick x y z,ty,ps,af,g⟩ i an tl r F st):q→WO Γ ops k ⟨d,.pick x y z,ty,ps,af,g⟩ i an tl r F st:=h
theorem ZvO {q:Prop} (h:q→WL Γ ops (⟨d,.binOp bo T x y T',ty,ps,af,g⟩::rest) k st):q→WL Γ ops (⟨d,.binOp bo T x y T',ty,ps,af,g⟩::rest) k st:=h
theorem Zvd {q:Prop} (h:q→WO Γ ops k ⟨d,.binOp bo T x y T',ty,ps,af,g⟩ i an tl r F st):q→WO Γ ops k ⟨d,.binOp bo T x y T',ty,ps,af,g⟩ i an tl r F st:=h
theorem Zvb {q:Prop} (h:q→WL Γ ops (⟨d,.unOp uo T x,ty,ps,af,g⟩::rest) k st):q→WL Γ ops (⟨d,.unOp uo T x,ty,ps,af,g⟩::rest) k st:=h
theorem ZvW {q:Prop} (h:q→WO Γ ops k ⟨d,.unOp uo T x,ty,ps,af,g⟩ i an tl r F st):q→WO Γ ops k ⟨d,.unOp uo T x,ty,ps,af,g⟩ i an tl r F st:=h
theorem ZvI {q:Prop} (h:q→WL Γ ops (⟨d,.call { callee:=.builtin bb,args:=xs,argTypes:=ts },ty,ps,af,g⟩::rest) k st):q→WL Γ ops (⟨d,.call { callee:=.builtin bb,args:=xs,argTypes:=ts },ty,ps,af,g⟩::rest) k st:=h
theorem Zvv {q:Prop} (h:q→WO Γ ops k ⟨d,.call { callee:=.builtin bb,args:=xs,argTypes:=ts },ty,ps,af,g⟩ i an tl r F st):q→WO Γ ops k ⟨d,.call { callee:=.builtin bb,args:=xs,argTypes:=ts },ty,ps,af,g⟩ i an tl r F st:=h
theorem ZxT {q:Prop} (h:q→WL Γ ops (⟨d,.call { callee:=.value x,args:=xs,argTypes:=ts },ty,ps,af,g⟩::rest) k st):q→WL Γ ops (⟨d,.call { callee:=.value x,args:=xs,argTypes:=ts },ty,ps,af,g⟩::rest) k st:=h
theorem Zx3 {q:Prop} (h:q→WO Γ ops k ⟨d,.call { callee:=.value x,args:=xs,argTypes:=ts },ty,ps,af,g⟩ i an tl r F st):q→WO Γ ops k ⟨d,.call { callee:=.value x,args:=xs,argTypes:=ts },ty,ps,af,g⟩ i an tl r F st:=h
theorem ZvG {q:Prop} (h:q→WL Γ ops (⟨d,.store T x y,ty,ps,af,g⟩::rest) k st):q→WL Γ ops (⟨d,.store T x y,ty,ps,af,g⟩::rest) k st:=h
theorem Zvx {q:Prop} (h:q→WO Γ ops k ⟨d,.store T x y,ty,ps,af,g⟩ i an tl r F st):q→WO Γ ops k ⟨d,.store T x y,ty,ps,af,g⟩ i an tl r F st:=h
theorem Zvz {q:Prop} (h:q→WL Γ ops (⟨d,.alloc T,ty,ps,af,g⟩::rest) k st):q→WL Γ ops (⟨d,.alloc T,ty,ps,af,g⟩::rest) k st:=h
theorem Zvi {q:Prop} (h:q→WO Γ ops k ⟨d,.alloc T,ty,ps,af,g⟩ i an tl r F st):q→WO Γ ops k ⟨d,.alloc T,ty,ps,af,g⟩ i an tl r F st:=h
theorem Zva {q:Prop} (h:q→WL Γ ops (⟨d,.box T x,ty,ps,af,g⟩::rest) k st):q→WL Γ ops (⟨d,.box T x,ty,ps,af,g⟩::rest) k st:=h
theorem Zvu {q:Prop} (h:q→WO Γ ops k ⟨d,.box T x,ty,ps,af,g⟩ i an tl r F st):q→WO Γ ops k ⟨d,.box T x,ty,ps,af,g⟩ i an tl r F st:=h
theorem ZvD {q:Prop} (h:q→WL Γ ops (⟨d,.extract x n,ty,ps,af,g⟩::rest) k st):q→WL Γ ops (⟨d,.extract x n,ty,ps,af,g⟩::rest) k st:=h
theorem ZvK {q:Prop} (h:q→WO Γ ops k ⟨d,.extract x n,ty,ps,af,g⟩ i an tl r F st):q→WO Γ ops k ⟨d,.extract x n,ty,ps,af,g⟩ i an tl r F st:=h
theorem ZxV {q:Prop} (h:q→WL Γ ops (⟨d,.indexAddr T x y,ty,ps,af,g⟩::rest) k st):q→WL Γ ops (⟨d,.indexAddr T x y,ty,ps,af,g⟩::rest) k st:=h
theorem ZxI {q:Prop} (h:q→WO Γ ops k ⟨d,.indexAddr T x y,ty,ps,af,g⟩ i an tl r F st):q→WO Γ ops k ⟨d,.indexAddr T x y,ty,ps,af,g⟩ i an tl r F st:=h
theorem Zx1 {q:Prop} (h:q→WL Γ ops (⟨d,.buildSlice T n pa,ty,ps,af,g⟩::rest) k st):q→WL Γ ops (⟨d,.buildSlice T n pa,ty,ps,af,g⟩::rest) k st:=h
theorem ZxD {q:Prop} (h:q→WO Γ ops k ⟨d,.buildSlice T n pa,ty,ps,af,g⟩ i an tl r F st):q→WO Γ ops k ⟨d,.buildSlice T n pa,ty,ps,af,g⟩ i an tl r F st:=h
theorem Zvc {q:Prop} (h:q→WL Γ ops (⟨d,.build T pa,ty,ps,af,g⟩::rest) k st):q→WL Γ ops (⟨d,.build T pa,ty,ps,af,g⟩::rest) k st:=h
theorem ZvP {q:Prop} (h:q→WO Γ ops k ⟨d,.build T pa,ty,ps,af,g⟩ i an tl r F st):q→WO Γ ops k ⟨d,.build T pa,ty,ps,af,g⟩ i an tl r F st:=h
end
theorem sw {g h:Prop} (k:h) (f:h→g:=by (first | (apply ZyZ; first | exact Zs4 | exact Zhm | exact ZlK | exact ZhD | exact Zju | exact Zmf | exact ZhB | exact Zhs rfl | exact ZjA | exact ZlV | exact Zl7) | (apply ZzI; first | exact Zh | exact ZaC | exact Zl | exact ZeB | exact ZcU | exact XM | exact YW rfl | exact YX rfl) | (apply ZyP; first | (apply Zy0; first | exact ZvQ rfl rfl rfl | exact Ztg rfl rfl rfl rfl rfl rfl rfl | exact ZvL rfl rfl rfl rfl rfl rfl) | exact ZsZ | (apply Zvq; first | exact ZK (Zli rfl rfl) rfl rfl rfl) | (apply ZvA; first | exact ZK (Zf6 rfl rfl) rfl rfl rfl) | (apply ZvC; first | exact ZK (o_load rfl rfl rfl (by exact inferInstance) rfl (by simp only [Qv,stV,Zp,ldC,ldE,cond_true,cond_false,List.map_cons,List.map_nil,List.drop_zero,List.drop_succ_cons,List.take_succ_cons,List.take_zero,List.getElem?_cons_zero,List.getElem?_cons_succ,Nat.reduceAdd,Option.map_some]; exact rfl)) rfl rfl rfl | exact ZK (Zh4 rfl rfl (by exact inferInstance) rfl (by simp only [Qv,stV,Zp,ldC,ldE,cond_true,cond_false,List.map_cons,List.map_nil,List.drop_zero,List.drop_succ_cons,List.take_succ_cons,List.take_zero,List.getElem?_cons_zero,List.getElem?_cons_succ,Nat.reduceAdd,Option.map_some]; exact rfl)) rfl rfl rfl | exact ZK (ZhW rfl rfl rfl (by exact inferInstance) rfl (by simp only [Qv,stV,Zp,ldC,ldE,cond_true,cond_false,List.map_cons,List.map_nil,List.drop_zero,List.drop_succ_cons,List.take_succ_cons,List.take_zero,List.getElem?_cons_zero,List.getElem?_cons_succ,Nat.reduceAdd,Option.map_some]; exact rfl)) rfl rfl rfl) | (apply Zvj; first | exact ZK (Zw2 rfl rfl) rfl rfl rfl | exact ZK (Zrk rfl rfl (by first | (simp only [List.drop_zero,List.drop_succ_cons]; exact rfl) | (conv=>lhs; whnf))) rfl rfl rfl | exact ZK (Zq9 rfl rfl) rfl rfl rfl) | (apply ZvM; first | exact ZK (Zlq rfl rfl rfl) rfl rfl rfl) | (apply ZvO; first | exact ZK (Zq4 rfl rfl rfl) rfl rfl rfl | exact ZK (Zrn rfl rfl rfl) rfl rfl rfl | exact ZK (Zra rfl rfl rfl) rfl rfl rfl | exact ZK (Zrb rfl rfl rfl) rfl rfl rfl | exact ZK (Zrc rfl rfl rfl) rfl rfl rfl | exact ZK (Zre rfl rfl rfl) rfl rfl rfl | exact ZK (Zrl rfl rfl rfl) rfl rfl rfl | exact ZK (Zq5 rfl rfl rfl) rfl rfl rfl | exact ZK (Zrg rfl rfl rfl) rfl rfl rfl | exact ZK (Zrv rfl rfl rfl) rfl rfl rfl | exact ZK (Zrw rfl rfl rfl) rfl rfl rfl | exact ZK (Zrh rfl rfl rfl) rfl rfl rfl | exact ZK (Y0 rfl rfl rfl (w64 (by omega) (by omega))) rfl rfl rfl | exact ZK (Y0 rfl rfl rfl (wu8 (by omega) (by omega))) rfl rfl rfl | exact ZK (Y0 rfl rfl rfl (ZuX (by omega) (by omega))) rfl rfl rfl | exact ZK (ZiX rfl rfl rfl (w64 (by omega) (by omega))) rfl rfl rfl | exact ZK (ZiX rfl rfl rfl (wu8 (by omega) (by omega))) rfl rfl rfl | exact ZK (ZiX rfl rfl rfl (ZuX (by omega) (by omega))) rfl rfl rfl | exact ZK (Zrx rfl rfl rfl (by kernel_rfl)) rfl rfl rfl | exact ZK (Zri rfl rfl rfl (by kernel_rfl)) rfl rfl rfl | exact ZK (Zrz rfl rfl rfl (w64 (by omega) (by omega))) rfl rfl rfl | exact ZK (ZtB rfl rfl rfl (by omega) rfl) rfl rfl rfl | exact ZK (Ztw rfl rfl rfl (by omega) (w64 (by omega) (by omega))) rfl rfl rfl | exact ZK (Zoo rfl rfl rfl (by omega)) rfl rfl rfl | exact ZK (Zru rfl rfl rfl (by simp only [ccV,Option.map_some]; exact rfl) (by simp only [ccV,Option.map_some]; exact rfl) (by exact inferInstance)) rfl rfl rfl | exact ZK (Zq8 rfl rfl rfl (by simp only [ccV,Option.map_some]; exact rfl) (by simp only [ccV,Option.map_some]; exact rfl) (by exact inferInstance)) rfl rfl rfl) | (apply Zvb; first | exact ZK (ZrA rfl rfl) rfl rfl rfl) | (apply ZvD; first | exact ZK (ZeY rfl rfl rfl) rfl rfl rfl) | (apply Zvc; first | exact ZK (ZhU rfl rfl rfl (by simp only [Qv,stV,Zp,ldC,ldE,cond_true,cond_false,List.map_cons,List.map_nil,List.drop_zero,List.drop_succ_cons,List.take_succ_cons,List.take_zero,List.getElem?_cons_zero,List.getElem?_cons_succ,Nat.reduceAdd,Option.map_some]; exact rfl)) rfl rfl rfl | exact ZK (Zgd rfl rfl rfl (by simp only [Qv,stV,Zp,ldC,ldE,cond_true,cond_false,List.map_cons,List.map_nil,List.drop_zero,List.drop_succ_cons,List.take_succ_cons,List.take_zero,List.getElem?_cons_zero,List.getElem?_cons_succ,Nat.reduceAdd,Option.map_some]; exact rfl)) rfl rfl rfl) | (apply ZxV; first | exact ZK (Zob rfl rfl rfl Len.len rfl (by omega) (by first | (simp only [Rng.ds,Kv.ds,dsI]; exact rfl) | exact rfl)) rfl rfl rfl | exact ZK (Zob rfl rfl rfl Len.len (Int.toNat_of_nonneg (by omega)).symm (by omega) (by first | (simp only [Rng.ds,Kv.ds,dsI]; exact rfl) | exact rfl)) rfl rfl rfl | exact ZK (ZtG rfl rfl (by exact inferInstance) (by exact inferInstance) (Int.toNat_of_nonneg (by omega)).symm (by omega)) rfl rfl rfl) | (apply ZxT; exact Zx0 rfl rfl rfl (by repeat (first | exact Vws.nil | apply Vws.cons | exact Vw.nil | exact Vw.d _ | exact Vw.q _ | apply Vw.a)) (by exact inferInstance) (by first | exact trivial | omega | assumption | exact ⟨ZdC _,by omega⟩ | exact ⟨by decide,by omega⟩ | (simp only [List.length_append,List.length_take,List.length_drop,List.length_cons,List.length_nil]; omega)) (by simp only [V.ren,V.rens]; exact rfl) rfl rfl rfl rfl) | (apply ZvI; first | exact ZK (ZhR rfl rfl) rfl rfl rfl | exact ZK (ZkN rfl rfl rfl) rfl rfl rfl | exact ZK (Zh7 rfl rfl (by kernel_rfl)) rfl rfl rfl | exact ZK (ZhS rfl rfl) rfl rfl rfl | exact ZK (Zh6 rfl rfl) rfl rfl rfl | exact ZK (Zrt rfl rfl rfl) rfl rfl rfl | exact ZK (Zrm rfl rfl rfl) rfl rfl rfl | exact Zld (Zes rfl rfl (by simp only [Nat.reduceAdd]; exact rfl) rfl rfl Len.len (by first | omega | (simp only [List.length_append,List.length_take,List.length_drop,List.length_cons,List.length_nil]; omega)) (by first | omega | (simp only [List.length_append,List.length_take,List.length_drop,List.length_cons,List.length_nil]; omega))) rfl rfl rfl rfl | exact ZyL (Zhz rfl rfl (by simp only [Nat.reduceAdd]; exact rfl) rfl rfl rfl Len.len (by first | omega | (simp only [List.length_append,List.length_take,List.length_drop,List.length_cons,List.length_nil]; omega)) (by first | omega | (simp only [List.length_append,List.length_take,List.length_drop,List.length_cons,List.length_nil]; omega)) rfl) rfl rfl rfl rfl) | (apply ZvG; exact Zqw (lo:=0) (nn:=0) (Zkm rfl rfl rfl rfl (by exact inferInstance) rfl (by simp only [Qv,stV,Zp,ldC,ldE,cond_true,cond_false,List.map_cons,List.map_nil,List.drop_zero,List.drop_succ_cons,List.take_succ_cons,List.take_zero,List.getElem?_cons_zero,List.getElem?_cons_succ,Nat.reduceAdd,Option.map_some]; exact rfl)) rfl rfl (QJ _ _)) | (apply Zvz; exact Zld (Zia rfl rfl (by simp only [Nat.reduceAdd]; exact rfl) (by exact Yd.out) rfl rfl) rfl rfl rfl rfl) | (apply Zva; exact Zld (Zq7 rfl rfl (by simp only [Nat.reduceAdd]; exact rfl) rfl rfl (by simp only [Zp]; exact rfl)) rfl rfl rfl rfl) | (apply Zx1; first | exact ZwB rfl rfl (by simp only [Yp,Zp,List.cons_append,List.nil_append,List.append_nil]; exact rfl) rfl (by simp only [unI,Option.map_some]; exact rfl) rfl rfl rfl rfl | exact Zld (Zxo rfl rfl (by simp only [Nat.reduceAdd]; exact rfl) rfl (by simp only [Yp,Zp,List.cons_append,List.nil_append,List.append_nil]; exact rfl) rfl) rfl rfl rfl rfl) | exact ZK (Zh5 rfl rfl rfl (by simp only [Qv,stV,Zp,ldC,ldE,cond_true,cond_false,List.map_cons,List.map_nil,List.drop_zero,List.drop_succ_cons,List.take_succ_cons,List.take_zero,List.getElem?_cons_zero,List.getElem?_cons_succ,Nat.reduceAdd,Option.map_some]; exact rfl)) rfl rfl rfl | exact ZK (Zlj rfl rfl) rfl rfl rfl | exact ZK (Zlw (z:=.nilFunc) rfl rfl rfl (by exact inferInstance) (by kernel_rfl) (by kernel_rfl) rfl rfl) rfl rfl rfl | exact ZK (Zrq rfl rfl rfl (by kernel_rfl) (by first | exact rfl | assumption)) rfl rfl rfl | exact ZK (ZmQ rfl rfl (by kernel_rfl) (by kernel_rfl) rfl) rfl rfl rfl | exact ZK (Zrd rfl rfl (w64 (by omega) (by omega))) rfl rfl rfl | exact ZK (Zfl rfl rfl rfl rfl (by omega) (by omega) (by omega) Len.len rfl) rfl rfl rfl | exact ZK (Zfn rfl rfl rfl (by kernel_rfl) (by omega) (by omega)) rfl rfl rfl | exact ZK (Zfr rfl rfl (by kernel_rfl) rfl rfl (by omega) (by omega) (by omega) rfl) rfl rfl rfl | exact ZK (ZmQ (k2:=.i64) rfl rfl (by kernel_rfl) (by kernel_rfl) (w64 (by omega) (by omega))) rfl rfl rfl | exact ZK (ZgD rfl rfl rfl (by exact inferInstance) (by exact inferInstance) (by omega) (by omega) rfl) rfl rfl rfl | exact Zld (Zun rfl rfl (by simp only [Nat.reduceAdd]; exact rfl)) rfl rfl rfl rfl | exact Zqw (lo:=0) (nn:=0) (ZrT rfl rfl rfl rfl rfl (by exact inferInstance) (by kernel_rfl) rfl) rfl rfl (QJ _ _) | exact Zld (Zpe rfl rfl (by simp only [Nat.reduceAdd]; exact rfl) rfl (by kernel_rfl)) rfl rfl rfl rfl | exact Zld (lo:=0) (nn:=0) (Zmp rfl rfl rfl (by assumption) (by assumption)) rfl rfl rfl (QJ _ _) | exact ZK (Zl4 rfl rfl rfl (by assumption)) rfl rfl rfl) | (apply ZyR; first | exact ZyO rfl rfl (by first | exact .n rfl rfl rfl rfl rfl | exact .u rfl rfl rfl rfl) (hf:=rfl) | (apply Zvt; first | exact Ym [] (Zli rfl rfl) rfl (by first | exact .no rfl | exact .y rfl rfl rfl rfl) rfl rfl) | (apply Zvl; first | exact Ym [] (Zf6 rfl rfl) rfl (by first | exact .no rfl | exact .y rfl rfl rfl rfl) rfl rfl) | (apply ZvR; first | exact Ym [] (Zh4 rfl rfl (by exact inferInstance) rfl (by simp only [Qv,stV,Zp,ldC,ldE,cond_true,cond_false,List.map_cons,List.map_nil,List.drop_zero,List.drop_succ_cons,List.take_succ_cons,List.take_zero,List.getElem?_cons_zero,List.getElem?_cons_succ,Nat.reduceAdd,Option.map_some]; exact rfl)) rfl (by first | exact .no rfl | exact .y rfl rfl rfl rfl) rfl rfl | exact Zvm rfl rfl rfl (by exact inferInstance) rfl (by simp only [Qv,stV,Zp,ldC,ldE,cond_true,cond_false,List.map_cons,List.map_nil,List.drop_zero,List.drop_succ_cons,List.take_succ_cons,List.take_zero,List.getElem?_cons_zero,List.getElem?_cons_succ,Nat.reduceAdd,Option.map_some]; exact rfl) rfl (by first | exact .no rfl | exact .y rfl rfl rfl rfl) rfl rfl | exact Ztl rfl rfl rfl (by exact inferInstance) rfl (by simp only [Qv,stV,Zp,ldC,ldE,cond_true,cond_false,List.map_cons,List.map_nil,List.drop_zero,List.drop_succ_cons,List.take_succ_cons,List.take_zero,List.getElem?_cons_zero,List.getElem?_cons_succ,Nat.reduceAdd,Option.map_some]; exact rfl) rfl (by first | exact .no rfl | exact .y rfl rfl rfl rfl) rfl rfl) | (apply ZvB; first | exact Ym [] (Zw2 rfl rfl) rfl (by first | exact .no rfl | exact .y rfl rfl rfl rfl) rfl rfl | exact Ym [] (Zrk rfl rfl (by first | (simp only [List.drop_zero,List.drop_succ_cons]; exact rfl) | (conv=>lhs; whnf))) rfl (by first | exact .no rfl | exact .y rfl rfl rfl rfl) rfl rfl | exact Ym [] (Zq9 rfl rfl) rfl (by first | exact .no rfl | exact .y rfl rfl rfl rfl) rfl rfl) | (apply Zu4; first | exact Ym [] (Zlq rfl rfl rfl) rfl (by first | exact .no rfl | exact .y rfl rfl rfl rfl) rfl rfl) | (apply Zvd; first | exact Ym [] (Zq4 rfl rfl rfl) rfl (by first | exact .no rfl | exact .y rfl rfl rfl rfl) rfl rfl | exact Ym [] (Zrn rfl rfl rfl) rfl (by first | exact .no rfl | exact .y rfl rfl rfl rfl) rfl rfl | exact Ym [] (Zra rfl rfl rfl) rfl (by first | exact .no rfl | exact .y rfl rfl rfl rfl) rfl rfl | exact Ym [] (Zrb rfl rfl rfl) rfl (by first | exact .no rfl | exact .y rfl rfl rfl rfl) rfl rfl | exact Ym [] (Zrc rfl rfl rfl) rfl (by first | exact .no rfl | exact .y rfl rfl rfl rfl) rfl rfl | exact Ym [] (Zre rfl rfl rfl) rfl (by first | exact .no rfl | exact .y rfl rfl rfl rfl) rfl rfl | exact Ym [] (Zrl rfl rfl rfl) rfl (by first | exact .no rfl | exact .y rfl rfl rfl rfl) rfl rfl | exact Ym [] (Zq5 rfl rfl rfl) rfl (by first | exact .no rfl | exact .y rfl rfl rfl rfl) rfl rfl | exact Ym [] (Zrg rfl rfl rfl) rfl (by first | exact .no rfl | exact .y rfl rfl rfl rfl) rfl rfl | exact Ym [] (Zrv rfl rfl rfl) rfl (by first | exact .no rfl | exact .y rfl rfl rfl rfl) rfl rfl | exact Ym [] (Zrw rfl rfl rfl) rfl (by first | exact .no rfl | exact .y rfl rfl rfl rfl) rfl rfl | exact Ym [] (Zrh rfl rfl rfl) rfl (by first | exact .no rfl | exact .y rfl rfl rfl rfl) rfl rfl | exact Ym [] (Y0 rfl rfl rfl (w64 (by omega) (by omega))) rfl (by first | exact .no rfl | exact .y rfl rfl rfl rfl) rfl rfl | exact Ym [] (Y0 rfl rfl rfl (wu8 (by omega) (by omega))) rfl (by first | exact .no rfl | exact .y rfl rfl rfl rfl) rfl rfl | exact Ym [] (Y0 rfl rfl rfl (ZuX (by omega) (by omega))) rfl (by first | exact .no rfl | exact .y rfl rfl rfl rfl) rfl rfl | exact Ym [] (ZiX rfl rfl rfl (w64 (by omega) (by omega))) rfl (by first | exact .no rfl | exact .y rfl rfl rfl rfl) rfl rfl | exact Ym [] (ZiX rfl rfl rfl (wu8 (by omega) (by omega))) rfl (by first | exact .no rfl | exact .y rfl rfl rfl rfl) rfl rfl | exact Ym [] (ZiX rfl rfl rfl (ZuX (by omega) (by omega))) rfl (by first | exact .no rfl | exact .y rfl rfl rfl rfl) rfl rfl | exact Ym [] (Zrx rfl rfl rfl (by kernel_rfl)) rfl (by first | exact .no rfl | exact .y rfl rfl rfl rfl) rfl rfl | exact Ym [] (Zri rfl rfl rfl (by kernel_rfl)) rfl (by first | exact .no rfl | exact .y rfl rfl rfl rfl) rfl rfl | exact Ym [] (Zrz rfl rfl rfl (w64 (by omega) (by omega))) rfl (by first | exact .no rfl | exact .y rfl rfl rfl rfl) rfl rfl | exact Ym [] (ZtB rfl rfl rfl (by omega) rfl) rfl (by first | exact .no rfl | exact .y rfl rfl rfl rfl) rfl rfl | exact Ym [] (Ztw rfl rfl rfl (by omega) (w64 (by omega) (by omega))) rfl (by first | exact .no rfl | exact .y rfl rfl rfl rfl) rfl rfl | exact Ym [] (Zoo rfl rfl rfl (by omega)) rfl (by first | exact .no rfl | exact .y rfl rfl rfl rfl) rfl rfl | exact Ym [] (Zru rfl rfl rfl (by simp only [ccV,Option.map_some]; exact rfl) (by simp only [ccV,Option.map_some]; exact rfl) (by exact inferInstance)) rfl (by first | exact .no rfl | exact .y rfl rfl rfl rfl) rfl rfl | exact Ym [] (Zq8 rfl rfl rfl (by simp only [ccV,Option.map_some]; exact rfl) (by simp only [ccV,Option.map_some]; exact rfl) (by exact inferInstance)) rfl (by first | exact .no rfl | exact .y rfl rfl rfl rfl) rfl rfl) | (apply ZvW; first | exact Ym [] (ZrA rfl rfl) rfl (by first | exact .no rfl | exact .y rfl rfl rfl rfl) rfl rfl) | (apply ZvK; first | exact Ym [] (ZeY rfl rfl rfl) rfl (by first | exact .no rfl | exact .y rfl rfl rfl rfl) rfl rfl) | (apply ZvP; first | exact Ym [] (ZhU rfl rfl rfl (by simp only [Qv,stV,Zp,ldC,ldE,cond_true,cond_false,List.map_cons,List.map_nil,List.drop_zero,List.drop_succ_cons,List.take_succ_cons,List.take_zero,List.getElem?_cons_zero,List.getElem?_cons_succ,Nat.reduceAdd,Option.map_some]; exact rfl)) rfl (by first | exact .no rfl | exact .y rfl rfl rfl rfl) rfl rfl | exact Ym [] (Zgd rfl rfl rfl (by simp only [Qv,stV,Zp,ldC,ldE,cond_true,cond_false,List.map_cons,List.map_nil,List.drop_zero,List.drop_succ_cons,List.take_succ_cons,List.take_zero,List.getElem?_cons_zero,List.getElem?_cons_succ,Nat.reduceAdd,Option.map_some]; exact rfl)) rfl (by first | exact .no rfl | exact .y rfl rfl rfl rfl) rfl rfl) | (apply ZxI; first | exact Ym [] (Zob rfl rfl rfl Len.len rfl (by omega) (by first | (simp only [Rng.ds,Kv.ds,dsI]; exact rfl) | exact rfl)) rfl (by first | exact .no rfl | exact .y rfl rfl rfl rfl) rfl rfl | exact Ym [] (Zob rfl rfl rfl Len.len (Int.toNat_of_nonneg (by omega)).symm (by omega) (by first | (simp only [Rng.ds,Kv.ds,dsI]; exact rfl) | exact rfl)) rfl (by first | exact .no rfl | exact .y rfl rfl rfl rfl) rfl rfl | exact Ym [] (ZtG rfl rfl (by exact inferInstance) (by exact inferInstance) (Int.toNat_of_nonneg (by omega)).symm (by omega)) rfl (by first | exact .no rfl | exact .y rfl rfl rfl rfl) rfl rfl) | (apply Zvv; first | exact Ym [] (ZhR rfl rfl) rfl (by first | exact .no rfl | exact .y rfl rfl rfl rfl) rfl rfl | exact Ym [] (Zh7 rfl rfl (by kernel_rfl)) rfl (by first | exact .no rfl | exact .y rfl rfl rfl rfl) rfl rfl | exact Ym [] (ZhS rfl rfl) rfl (by first | exact .no rfl | exact .y rfl rfl rfl rfl) rfl rfl | exact Ym [] (Zh6 rfl rfl) rfl (by first | exact .no rfl | exact .y rfl rfl rfl rfl) rfl rfl | exact Ym [] (Zrt rfl rfl rfl) rfl (by first | exact .no rfl | exact .y rfl rfl rfl rfl) rfl rfl | exact Ym [] (Zrm rfl rfl rfl) rfl (by first | exact .no rfl | exact .y rfl rfl rfl rfl) rfl rfl | exact ZoM rfl rfl rfl rfl (by first | exact .no rfl | exact .y rfl rfl rfl rfl) rfl rfl | exact Ztu [] (Zes rfl rfl (by simp only [Nat.reduceAdd]; exact rfl) rfl rfl Len.len (by first | omega | (simp only [List.length_append,List.length_take,List.length_drop,List.length_cons,List.length_nil]; omega)) (by first | omega | (simp only [List.length_append,List.length_take,List.length_drop,List.length_cons,List.length_nil]; omega))) rfl (by first | exact .no rfl | exact .y rfl rfl rfl rfl) rfl rfl rfl | exact ZgU rfl rfl (by simp only [Nat.reduceAdd]; exact rfl) rfl rfl rfl Len.len (by first | omega | (simp only [List.length_append,List.length_take,List.length_drop,List.length_cons,List.length_nil]; omega)) (by first | omega | (simp only [List.length_append,List.length_take,List.length_drop,List.length_cons,List.length_nil]; omega)) rfl (by first | exact .no rfl | exact .y rfl rfl rfl rfl) rfl rfl rfl) | (apply Zvx; first | exact ZvE rfl rfl rfl rfl (by exact inferInstance) rfl (by simp only [Qv,stV,Zp,ldC,ldE,cond_true,cond_false,List.map_cons,List.map_nil,List.drop_zero,List.drop_succ_cons,List.take_succ_cons,List.take_zero,List.getElem?_cons_zero,List.getElem?_cons_succ,Nat.reduceAdd,Option.map_some]; exact rfl) rfl (by first | exact .no rfl | exact .y rfl rfl rfl rfl) rfl) | (apply Zvi; first | exact Ztu [] (Zia rfl rfl (by simp only [Nat.reduceAdd]; exact rfl) (by exact Yd.out) rfl rfl) rfl (by first | exact .no rfl | exact .y rfl rfl rfl rfl) rfl rfl rfl) | (apply Zvu; first | exact Ztu [] (Zq7 rfl rfl (by simp only [Nat.reduceAdd]; exact rfl) rfl rfl (by simp only [Zp]; exact rfl)) rfl (by first | exact .no rfl | exact .y rfl rfl rfl rfl) rfl rfl rfl) | (apply ZxD; first | exact Zwg rfl rfl (by simp only [Yp,Zp,List.cons_append,List.nil_append,List.append_nil]; exact rfl) rfl (by simp only [unI,Option.map_some]; exact rfl) rfl rfl (by first | exact .no rfl | exact .y rfl rfl rfl rfl) rfl rfl | exact Ztu [] (Zxo rfl rfl (by simp only [Nat.reduceAdd]; exact rfl) rfl (by simp only [Yp,Zp,List.cons_append,List.nil_append,List.append_nil]; exact rfl) rfl) rfl (by first | exact .no rfl | exact .y rfl rfl rfl rfl) rfl rfl rfl) | (apply Zx3; first | exact ZxR rfl rfl rfl (by repeat (first | exact Vws.nil | apply Vws.cons | exact Vw.nil | exact Vw.d _ | exact Vw.q _ | apply Vw.a)) (by exact inferInstance) (by first | exact trivial | omega | assumption | exact ⟨ZdC _,by omega⟩ | exact ⟨by decide,by omega⟩ | (simp only [List.length_append,List.length_take,List.length_drop,List.length_cons,List.length_nil]; omega)) (by simp only [V.ren,V.rens]; exact rfl) rfl (by first | exact .no rfl | exact .y rfl rfl rfl rfl) rfl rfl rfl) | exact Ym [] (Zh5 rfl rfl rfl (by simp only [Qv,stV,Zp,ldC,ldE,cond_true,cond_false,List.map_cons,List.map_nil,List.drop_zero,List.drop_succ_cons,List.take_succ_cons,List.take_zero,List.getElem?_cons_zero,List.getElem?_cons_succ,Nat.reduceAdd,Option.map_some]; exact rfl)) rfl (by first | exact .no rfl | exact .y rfl rfl rfl rfl) rfl rfl | exact Ym [] (Zlj rfl rfl) rfl (by first | exact .no rfl | exact .y rfl rfl rfl rfl) rfl rfl | exact Ym [] (Zlw (z:=.nilFunc) rfl rfl rfl (by exact inferInstance) (by kernel_rfl) (by kernel_rfl) rfl rfl) rfl (by first | exact .no rfl | exact .y rfl rfl rfl rfl) rfl rfl | exact Ym [] (Zrq rfl rfl rfl (by kernel_rfl) (by first | exact rfl | assumption)) rfl (by first | exact .no rfl | exact .y rfl rfl rfl rfl) rfl rfl | exact Ym [] (ZmQ rfl rfl (by kernel_rfl) (by kernel_rfl) rfl) rfl (by first | exact .no rfl | exact .y rfl rfl rfl rfl) rfl rfl | exact Ym [] (Zrd rfl rfl (w64 (by omega) (by omega))) rfl (by first | exact .no rfl | exact .y rfl rfl rfl rfl) rfl rfl | exact Ym [] (Zfl rfl rfl rfl rfl (by omega) (by omega) (by omega) Len.len rfl) rfl (by first | exact .no rfl | exact .y rfl rfl rfl rfl) rfl rfl | exact Ym [] (Zfn rfl rfl rfl (by kernel_rfl) (by omega) (by omega)) rfl (by first | exact .no rfl | exact .y rfl rfl rfl rfl) rfl rfl | exact Ym [] (Zfr rfl rfl (by kernel_rfl) rfl rfl (by omega) (by omega) (by omega) rfl) rfl (by first | exact .no rfl | exact .y rfl rfl rfl rfl) rfl rfl | exact Ym [] (ZmQ (k2:=.i64) rfl rfl (by kernel_rfl) (by kernel_rfl) (w64 (by omega) (by omega))) rfl (by first | exact .no rfl | exact .y rfl rfl rfl rfl) rfl rfl | exact Ym [] (ZgD rfl rfl rfl (by exact inferInstance) (by exact inferInstance) (by omega) (by omega) rfl) rfl (by first | exact .no rfl | exact .y rfl rfl rfl rfl) rfl rfl) | exact Ztj | exact Zu5 rfl)):g:=f k
theorem swt {g h:Prop} (k:h) (f:h→g:=by (first | exact ZxO rfl rfl rfl rfl (by repeat (first | exact Vws.nil | apply Vws.cons | exact Vw.nil | exact Vw.d _ | exact Vw.q _ | apply Vw.a)) (by exact inferInstance) (by first | exact trivial | omega | assumption | exact ⟨ZdC _,by omega⟩ | exact ⟨by decide,by omega⟩ | (simp only [List.length_append,List.length_take,List.length_drop,List.length_cons,List.length_nil]; omega)) rfl rfl rfl rfl | exact ZxX rfl rfl rfl rfl (by repeat (first | exact Vws.nil | apply Vws.cons | exact Vw.nil | exact Vw.d _ | exact Vw.q _ | apply Vw.a)) (by exact inferInstance) (by first | exact trivial | omega | assumption | exact ⟨ZdC _,by omega⟩ | exact ⟨by decide,by omega⟩ | (simp only [List.length_append,List.length_take,List.length_drop,List.length_cons,List.length_nil]; omega)) rfl (by first | exact .no rfl | exact .y rfl rfl rfl rfl) rfl rfl rfl rfl)):g:=f k
theorem sp {g a b:Prop} (k1:a) (k2:b) (f:a→b→g:=by (intro h1 h2; first | exact ZpT rfl h1 h2 | exact Zeg rfl h1 h2 | exact Zvk rfl rfl rfl rfl h1 h2 | exact Zkb rfl rfl rfl rfl h1 h2)):g:=f k1 k2
end Go.Proofs.YtkcmgbbopedacaaGreatDoor
namespace Go.Proofs.YtkcmgbbopedacaaGreatDoor
open Go.RowKit
def md (v n:Int):Int:=if v.tmod n<0 then v.tmod n+n else v.tmod n
attribute [local irreducible] WK WC WL Wk Rel OpD OpV WD WO Op.bytesLess cmp vk vb vld emp contains
attribute [local irreducible] tpb
end Go.Proofs.YtkcmgbbopedacaaGreatDoor
namespace Go.Proofs.YtkcmgbbopedacaaGreatDoor
open Go.RowKit
theorem Zs6 (k:ByteArray):decide (k=⟨#[]⟩)=k.toList.isEmpty:=by
 rw [← ZeE]; rw [show (⟨#[]⟩:ByteArray).toList=[] by kernel_rfl]; cases k.toList <;> rfl
attribute [local irreducible] WK WC WL Wk Rel OpD OpV WD WO Op.bytesLess cmp vk vb vld emp contains
instance ZuQ (ak bk:ByteArray) (ax bx:Bool):Ct Tryz.prog 61 [.a [vS ak,vB ax],.a [vS bk,vB bx]] True (vI (cmp ⟨ak,ax⟩ ⟨bk,bx⟩)):=⟨fun _=>by
 refine Spec.intro Tryz.func61 rfl rfl Tryz.ntmps61 Tryz.results61 rfl fun B w0 ρ0=>?_; simp only [slots,List.map_nil,List.map_cons,Nat.reduceAdd]
 (repeat' (first | refine sw ?_ | (refine swt ?_; intro x τ hx) | (refine sp ?_ ?_ <;> (intro h; (first | (have h2:(_:Bool)=_:=h; clear h2; subst h) | skip); (try simp only [decide_eq_true_eq,decide_eq_false_iff_not,Bool.not_eq_true',Bool.not_eq_false',Kv.eta,Bnd.eta,Rng.eta,Xo] at h); (first | (have h2:(_:Bool)=_:=h; clear h2; subst h) | skip))) | fail))
 all_goals (first | refine Xg rfl (by first | exact trivial | exact Zv rfl rfl (by exact inferInstance) trivial) rfl (by first | exact Vw.fmp rfl rfl rfl | exact Vw.nil | exact Vw.d _ | (repeat (first | exact Vws.nil | apply Vws.cons | exact Vw.nil | exact Vw.d _ | apply Vw.a | apply Vw.t | exact Vw.fh rfl rfl (Zi _) | exact Vw.fh rfl rfl Vws.nil)); done) ?_ | refine Yk rfl (by first | exact trivial | exact Zv rfl rfl (by exact inferInstance) trivial) rfl (by first | exact Vw.fmp rfl rfl rfl | exact Vw.nil | exact Vw.d _ | (repeat (first | exact Vws.nil | apply Vws.cons | exact Vw.nil | exact Vw.d _ | apply Vw.a | apply Vw.t | exact Vw.fh rfl rfl (Zi _) | exact Vw.fh rfl rfl Vws.nil)); done) ?_)
 all_goals simp_all [cmp,Bnd.lt,Y7]⟩
instance ZuH (k:ByteArray):Ct Tryz.prog 127 [vS k] True (vB (vk k)):=⟨fun _=>by
 refine Spec.intro Tryz.func127 rfl rfl Tryz.ntmps127 Tryz.results127 rfl fun B w0 ρ0=>?_; simp only [slots,List.map_nil,List.map_cons,Nat.reduceAdd]
 (repeat' (first | refine sw ?_ | (refine swt ?_; intro x τ hx) | (refine sp ?_ ?_ <;> (intro h; (first | (have h2:(_:Bool)=_:=h; clear h2; subst h) | skip); (try simp only [decide_eq_true_eq,decide_eq_false_iff_not,Bool.not_eq_true',Bool.not_eq_false',Kv.eta,Bnd.eta,Rng.eta,Xo] at h); (first | (have h2:(_:Bool)=_:=h; clear h2; subst h) | skip))) | fail))
 all_goals (first | refine Xg rfl (by first | exact trivial | exact Zv rfl rfl (by exact inferInstance) trivial) rfl (by first | exact Vw.fmp rfl rfl rfl | exact Vw.nil | exact Vw.d _ | (repeat (first | exact Vws.nil | apply Vws.cons | exact Vw.nil | exact Vw.d _ | apply Vw.a | apply Vw.t | exact Vw.fh rfl rfl (Zi _) | exact Vw.fh rfl rfl Vws.nil)); done) ?_ | refine Yk rfl (by first | exact trivial | exact Zv rfl rfl (by exact inferInstance) trivial) rfl (by first | exact Vw.fmp rfl rfl rfl | exact Vw.nil | exact Vw.d _ | (repeat (first | exact Vws.nil | apply Vws.cons | exact Vw.nil | exact Vw.d _ | apply Vw.a | apply Vw.t | exact Vw.fh rfl rfl (Zi _) | exact Vw.fh rfl rfl Vws.nil)); done) ?_)
 all_goals (refine ⟨?_,rfl⟩; simp [vk]; omega)⟩
instance Zsw (k:ByteArray) (t:Bool):Ct Tryz.prog 62 [.a [vS k,vB t]] True (vB (vb ⟨k,t⟩)):=⟨fun _=>by
 refine Spec.intro Tryz.func62 rfl rfl Tryz.ntmps62 Tryz.results62 rfl fun B w0 ρ0=>?_; simp only [slots,List.map_nil,List.map_cons,Nat.reduceAdd]
 (repeat' (first | refine sw ?_ | (refine swt ?_; intro x τ hx) | (refine sp ?_ ?_ <;> (intro h; (first | (have h2:(_:Bool)=_:=h; clear h2; subst h) | skip); (try simp only [decide_eq_true_eq,decide_eq_false_iff_not,Bool.not_eq_true',Bool.not_eq_false',Kv.eta,Bnd.eta,Rng.eta,Xo] at h); (first | (have h2:(_:Bool)=_:=h; clear h2; subst h) | skip))) | fail))
 all_goals (first | refine Xg rfl (by first | exact trivial | exact Zv rfl rfl (by exact inferInstance) trivial) rfl (by first | exact Vw.fmp rfl rfl rfl | exact Vw.nil | exact Vw.d _ | (repeat (first | exact Vws.nil | apply Vws.cons | exact Vw.nil | exact Vw.d _ | apply Vw.a | apply Vw.t | exact Vw.fh rfl rfl (Zi _) | exact Vw.fh rfl rfl Vws.nil)); done) ?_ | refine Yk rfl (by first | exact trivial | exact Zv rfl rfl (by exact inferInstance) trivial) rfl (by first | exact Vw.fmp rfl rfl rfl | exact Vw.nil | exact Vw.d _ | (repeat (first | exact Vws.nil | apply Vws.cons | exact Vw.nil | exact Vw.d _ | apply Vw.a | apply Vw.t | exact Vw.fh rfl rfl (Zi _) | exact Vw.fh rfl rfl Vws.nil)); done) ?_)
 all_goals simp_all [vb,Zs6]⟩
instance Zxi (ak bk:ByteArray) (ax bx:Bool):Ct Tryz.prog 135 [.a [vS ak,vB ax,vS bk,vB bx]] True (vB (vld ⟨⟨ak,ax⟩,⟨bk,bx⟩⟩)):=⟨fun _=>by
 refine Spec.intro Tryz.func135 rfl rfl Tryz.ntmps135 Tryz.results135 rfl fun B w0 ρ0=>?_; simp only [slots,List.map_nil,List.map_cons,Nat.reduceAdd]
 (repeat' (first | refine sw ?_ | (refine swt ?_; intro x τ hx) | (refine sp ?_ ?_ <;> (intro h; (first | (have h2:(_:Bool)=_:=h; clear h2; subst h) | skip); (try simp only [decide_eq_true_eq,decide_eq_false_iff_not,Bool.not_eq_true',Bool.not_eq_false',Kv.eta,Bnd.eta,Rng.eta,Xo] at h); (first | (have h2:(_:Bool)=_:=h; clear h2; subst h) | skip))) | fail))
 all_goals (first | refine Xg rfl (by first | exact trivial | exact Zv rfl rfl (by exact inferInstance) trivial) rfl (by first | exact Vw.fmp rfl rfl rfl | exact Vw.nil | exact Vw.d _ | (repeat (first | exact Vws.nil | apply Vws.cons | exact Vw.nil | exact Vw.d _ | apply Vw.a | apply Vw.t | exact Vw.fh rfl rfl (Zi _) | exact Vw.fh rfl rfl Vws.nil)); done) ?_ | refine Yk rfl (by first | exact trivial | exact Zv rfl rfl (by exact inferInstance) trivial) rfl (by first | exact Vw.fmp rfl rfl rfl | exact Vw.nil | exact Vw.d _ | (repeat (first | exact Vws.nil | apply Vws.cons | exact Vw.nil | exact Vw.d _ | apply Vw.a | apply Vw.t | exact Vw.fh rfl rfl (Zi _) | exact Vw.fh rfl rfl Vws.nil)); done) ?_)
 all_goals simp_all [vld]⟩
instance ZuR (ak bk:ByteArray) (ax bx:Bool):Ct Tryz.prog 68 [.a [vS ak,vB ax],.a [vS bk,vB bx]] True (vI (cmp ⟨ak,ax⟩ ⟨bk,bx⟩)):=⟨fun _=>by
 refine Spec.intro Tryz.func68 rfl rfl Tryz.ntmps68 Tryz.results68 rfl fun B w0 ρ0=>?_; simp only [slots,List.map_nil,List.map_cons,Nat.reduceAdd]
 (repeat' (first | refine sw ?_ | (refine swt ?_; intro x τ hx) | (refine sp ?_ ?_ <;> (intro h; (first | (have h2:(_:Bool)=_:=h; clear h2; subst h) | skip); (try simp only [decide_eq_true_eq,decide_eq_false_iff_not,Bool.not_eq_true',Bool.not_eq_false',Kv.eta,Bnd.eta,Rng.eta,Xo] at h); (first | (have h2:(_:Bool)=_:=h; clear h2; subst h) | skip))) | fail))
 all_goals (first | refine Xg rfl (by first | exact trivial | exact Zv rfl rfl (by exact inferInstance) trivial) rfl (by first | exact Vw.fmp rfl rfl rfl | exact Vw.nil | exact Vw.d _ | (repeat (first | exact Vws.nil | apply Vws.cons | exact Vw.nil | exact Vw.d _ | apply Vw.a | apply Vw.t | exact Vw.fh rfl rfl (Zi _) | exact Vw.fh rfl rfl Vws.nil)); done) ?_ | refine Yk rfl (by first | exact trivial | exact Zv rfl rfl (by exact inferInstance) trivial) rfl (by first | exact Vw.fmp rfl rfl rfl | exact Vw.nil | exact Vw.d _ | (repeat (first | exact Vws.nil | apply Vws.cons | exact Vw.nil | exact Vw.d _ | apply Vw.a | apply Vw.t | exact Vw.fh rfl rfl (Zi _) | exact Vw.fh rfl rfl Vws.nil)); done) ?_)
 all_goals simp_all [cmp,Bnd.lt,Y7]⟩
instance ZuI (k:ByteArray):Ct Tryz.prog 134 [vS k] True (vB (vk k)):=⟨fun _=>by
 refine Spec.intro Tryz.func134 rfl rfl Tryz.ntmps134 Tryz.results134 rfl fun B w0 ρ0=>?_; simp only [slots,List.map_nil,List.map_cons,Nat.reduceAdd]
 (repeat' (first | refine sw ?_ | (refine swt ?_; intro x τ hx) | (refine sp ?_ ?_ <;> (intro h; (first | (have h2:(_:Bool)=_:=h; clear h2; subst h) | skip); (try simp only [decide_eq_true_eq,decide_eq_false_iff_not,Bool.not_eq_true',Bool.not_eq_false',Kv.eta,Bnd.eta,Rng.eta,Xo] at h); (first | (have h2:(_:Bool)=_:=h; clear h2; subst h) | skip))) | fail))
 all_goals (first | refine Xg rfl (by first | exact trivial | exact Zv rfl rfl (by exact inferInstance) trivial) rfl (by first | exact Vw.fmp rfl rfl rfl | exact Vw.nil | exact Vw.d _ | (repeat (first | exact Vws.nil | apply Vws.cons | exact Vw.nil | exact Vw.d _ | apply Vw.a | apply Vw.t | exact Vw.fh rfl rfl (Zi _) | exact Vw.fh rfl rfl Vws.nil)); done) ?_ | refine Yk rfl (by first | exact trivial | exact Zv rfl rfl (by exact inferInstance) trivial) rfl (by first | exact Vw.fmp rfl rfl rfl | exact Vw.nil | exact Vw.d _ | (repeat (first | exact Vws.nil | apply Vws.cons | exact Vw.nil | exact Vw.d _ | apply Vw.a | apply Vw.t | exact Vw.fh rfl rfl (Zi _) | exact Vw.fh rfl rfl Vws.nil)); done) ?_)
 all_goals (refine ⟨?_,rfl⟩; simp [vk]; omega)⟩
instance Zsx (k:ByteArray) (t:Bool):Ct Tryz.prog 70 [.a [vS k,vB t]] True (vB (vb ⟨k,t⟩)):=⟨fun _=>by
 refine Spec.intro Tryz.func70 rfl rfl Tryz.ntmps70 Tryz.results70 rfl fun B w0 ρ0=>?_; simp only [slots,List.map_nil,List.map_cons,Nat.reduceAdd]
 (repeat' (first | refine sw ?_ | (refine swt ?_; intro x τ hx) | (refine sp ?_ ?_ <;> (intro h; (first | (have h2:(_:Bool)=_:=h; clear h2; subst h) | skip); (try simp only [decide_eq_true_eq,decide_eq_false_iff_not,Bool.not_eq_true',Bool.not_eq_false',Kv.eta,Bnd.eta,Rng.eta,Xo] at h); (first | (have h2:(_:Bool)=_:=h; clear h2; subst h) | skip))) | fail))
 all_goals (first | refine Xg rfl (by first | exact trivial | exact Zv rfl rfl (by exact inferInstance) trivial) rfl (by first | exact Vw.fmp rfl rfl rfl | exact Vw.nil | exact Vw.d _ | (repeat (first | exact Vws.nil | apply Vws.cons | exact Vw.nil | exact Vw.d _ | apply Vw.a | apply Vw.t | exact Vw.fh rfl rfl (Zi _) | exact Vw.fh rfl rfl Vws.nil)); done) ?_ | refine Yk rfl (by first | exact trivial | exact Zv rfl rfl (by exact inferInstance) trivial) rfl (by first | exact Vw.fmp rfl rfl rfl | exact Vw.nil | exact Vw.d _ | (repeat (first | exact Vws.nil | apply Vws.cons | exact Vw.nil | exact Vw.d _ | apply Vw.a | apply Vw.t | exact Vw.fh rfl rfl (Zi _) | exact Vw.fh rfl rfl Vws.nil)); done) ?_)
 all_goals simp_all [vb,Zs6]⟩
instance Zxa (ak bk:ByteArray) (ax bx:Bool):Ct Tryz.prog 133 [.a [vS ak,vB ax,vS bk,vB bx]] True (vB (vld ⟨⟨ak,ax⟩,⟨bk,bx⟩⟩)):=⟨fun _=>by
 refine Spec.intro Tryz.func133 rfl rfl Tryz.ntmps133 Tryz.results133 rfl fun B w0 ρ0=>?_; simp only [slots,List.map_nil,List.map_cons,Nat.reduceAdd]
 (repeat' (first | refine sw ?_ | (refine swt ?_; intro x τ hx) | (refine sp ?_ ?_ <;> (intro h; (first | (have h2:(_:Bool)=_:=h; clear h2; subst h) | skip); (try simp only [decide_eq_true_eq,decide_eq_false_iff_not,Bool.not_eq_true',Bool.not_eq_false',Kv.eta,Bnd.eta,Rng.eta,Xo] at h); (first | (have h2:(_:Bool)=_:=h; clear h2; subst h) | skip))) | fail))
 all_goals (first | refine Xg rfl (by first | exact trivial | exact Zv rfl rfl (by exact inferInstance) trivial) rfl (by first | exact Vw.fmp rfl rfl rfl | exact Vw.nil | exact Vw.d _ | (repeat (first | exact Vws.nil | apply Vws.cons | exact Vw.nil | exact Vw.d _ | apply Vw.a | apply Vw.t | exact Vw.fh rfl rfl (Zi _) | exact Vw.fh rfl rfl Vws.nil)); done) ?_ | refine Yk rfl (by first | exact trivial | exact Zv rfl rfl (by exact inferInstance) trivial) rfl (by first | exact Vw.fmp rfl rfl rfl | exact Vw.nil | exact Vw.d _ | (repeat (first | exact Vws.nil | apply Vws.cons | exact Vw.nil | exact Vw.d _ | apply Vw.a | apply Vw.t | exact Vw.fh rfl rfl (Zi _) | exact Vw.fh rfl rfl Vws.nil)); done) ?_)
 all_goals simp_all [vld]⟩
end Go.Proofs.YtkcmgbbopedacaaGreatDoor
namespace Go.Proofs.YtkcmgbbopedacaaGreatDoor
open Go.RowKit
attribute [local irreducible] tpb
def rep:Nat→ByteArray→ByteArray
 | 0,_=>⟨#[]⟩
 | n+1,s=>rep n s++s
attribute [local irreducible] WK WC WL Wk Rel OpD OpV WD WO Op.bytesLess cmp vk vb vld emp contains
end Go.Proofs.YtkcmgbbopedacaaGreatDoor
