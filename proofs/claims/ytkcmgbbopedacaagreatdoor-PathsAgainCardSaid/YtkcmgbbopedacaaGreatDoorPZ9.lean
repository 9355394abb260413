/-
  Lemmas: Contracts
-/
import Derived.Test.YtkcmgbbopedacaaGreatDoorPZ8
set_option linter.unusedSimpArgs false
set_option linter.unusedVariables false
namespace Go.Proofs.YtkcmgbbopedacaaGreatDoor
open Go.RowKit
attribute [local simp] Sem.run_bind Sem.run_pure Result.andThen_ok
class Ct (P:Program) (f:FuncId) (us:List V) (pre:outParam Prop) (u:outParam V):Prop where
 out:pre→Spec P f us [] fun u1 h1=>u1=u∧h1=[]
structure Tape where
 l:List Int
 pos:Nat
 h1:pos≤l.length
 h2:l.length≤600
 h3:∀ z ∈ l,-9223372036854775808≤z∧z≤9223372036854775807
def tpb (τ:Tape):Blk:=.box 126 [.d (ZxW τ.l),vI τ.pos]
theorem Xh {H:Hp} {f:List (Nat × Nat)} {τ:Tape}:Vb H f (tpb τ) (tpb τ):=.box (.cons (.d _) (.cons (.d _) .nil))
def Zx3 (P:Program) (f:FuncId) (us:List V) {α:Type} (val:α→V) (φ:α→Prop):Prop:=∀ τ:Tape,Spec P f (.p 0 0::us) [(0,some (tpb τ))] fun u h=>∃ x τ',φ x∧u=val x∧h=[(0,some (tpb τ'))]
class Tc (P:Program) (f:FuncId) (us:List V) {α:outParam Type} (pre:outParam Prop) (val:outParam (α→V)) (φ:outParam (α→Prop)):Prop where
 out:pre→Zx3 P f us val φ
 ren:∀ x g,(val x).ren g=val x
section
variable {P:Program} {o:Oper} {H:Hp} {sl:List (Nat × V)} {x y:Operand} {T E:TypeId} {i:Int} {m:Nat}
def letter:Nat→ByteArray
 | 0=>⟨#[97]⟩
 | 1=>⟨#[98]⟩
 | 2=>⟨#[99]⟩
 | 3=>⟨#[0]⟩
 | 4=>⟨#[255]⟩
 | 5=>⟨#[109]⟩
 | _=>⟨#[]⟩
theorem ZdM (m:Nat):(letter m).size≤1:=by unfold letter; split <;> decide
theorem Zt8 (hop:o.op=.indexAddr T (.global 0) y) (hy:ev sl y=some (vI i)) (hTE:Ar P T 6 E) (hE:Ty P E 1 false) (hm:i=(m:Int)) (hl:m<6):OpD P o H sl 0 0 (.q [dS (letter m)]) []:=.read fun B a w ρ hs hr=>by
 have hT:=hTE.out
 have hy':=ZbM (Zp hs hy)
 obtain ⟨g1,g2⟩:=hr.gl _ List.mem_cons_self
 subst hm
 have h1:(0:Int)≤(m:Int)∧(m:Int)<6:=by omega
 have hsz:=XX (w:=w) hE
 unfold execOp; rw [hop]
 refine ⟨.pointer (some ⟨0,m,none⟩),?_,.q g1 (.cons (.c rfl) .nil) (vs:=[.string (letter m)]) fun j v hv=>?_⟩
 ·have hg:a.eval (.global 0)=.pointer (some ⟨0,0,none⟩):=rfl
  simp [hy',hg,Instr.indexAt,asIntOf,run_underlying hT,h1,Instr.sureAddr,hsz,addr_add]
  exact fun h=>absurd hl (by omega)
 ·cases j with
  | succ j=>simp at hv
  | zero =>
   simp only [List.getElem?_cons_zero,Option.some.injEq] at hv
   subst hv
   refine g2 m _ ?_
   have:m=0∨m=1∨m=2∨m=3∨m=4∨m=5:=by omega
   rcases this with rfl | rfl | rfl | rfl | rfl | rfl <;> rfl
end
section
variable {Γ:Cx} {k:Zcc} {sl:List (Nat × V)} {hp:Hp} {o:Oper} {ops:Array Oper} {i an d kt:Nat} {ts:List Nat} {r:List PI} {F:List Ft} {f:FuncId} {us uc:List V} {x:Operand} {xs:Array Operand} {ats:Array TypeId} {u u':V} {rest:List Oper} {pre:Prop}
theorem Zyo (hop:o.op=.call { callee:=.value x,args:=xs,argTypes:=ats }) (hx:ev sl x=some (.d (.c (.func (.func f) #[] #[])))) (ha:evl sl xs.toList=some uc) (hv:Vws [] [] uc us) (hc:Ct Γ.P f us pre u) (hp':pre) (hu:u.ren (rn [] 100000)=u')
 (hg:o.guard=none) (hd:o.dst=some d) (hdl:Nat.blt d Γ.nt=true) (hf:ZZ hp 100000 100=true) (hk:WL Γ ops rest k ⟨(d,u')::sl,hp⟩):WL Γ ops (o::rest) k ⟨sl,hp⟩:=Zt6 (Zig 100000 (hc.out hp') hop hx ha hv hu) hg hd hdl hf hk
theorem Zyv (hop:o.op=.call { callee:=.value x,args:=xs,argTypes:=ats }) (hx:ev (keep ts sl) x=some (.d (.c (.func (.func f) #[] #[])))) (ha:evl (keep ts sl) xs.toList=some uc) (hv:Vws [] [] uc us) (hc:Ct Γ.P f us pre u) (hp':pre) (hu:u.ren (rn [] 100000)=u')
 (hd:o.dst=some d) (hw:Wt ops o (keep ts sl) true) (hdl:Nat.blt d Γ.nt=true) (hfr:ZZ hp 100000 100=true) (hf:okF ⟨⟨i,an,ts⟩,[],[],100000,100⟩ F=true)
 (hk:WD Γ ops k r (⟨⟨i,an,ts⟩,[],[],100000,100⟩::F) ⟨(d,u')::sl,hp⟩):WO Γ ops k o i an ts r F ⟨sl,hp⟩:=ZvI [] (Zig 100000 (hc.out hp') hop hx ha hv hu) hd hw hdl hfr hf hk
theorem Zzn {P:Program} {H:Hp} {α:Type} {val:α→V} {φ:α→Prop} {τ:Tape} (hop:o.op=.call { callee:=.value x,args:=xs,argTypes:=ats }) (hx:ev sl x=some (.d (.c (.func (.func f) #[] #[])))) (ha:evl sl xs.toList=some (.p kt 0::uc)) (hH:look H kt=some (some (tpb τ))) (hv:Vws [] [(0,kt)] uc us) (hc:Tc P f us pre val φ) (hp':pre) :
   OpV P o H sl 100000 100 fun u h=>∃ x τ',φ x∧u=val x∧h=[(kt,some (tpb τ'))]:=by
 have hal:Qs H [(0,kt)]=true:=by simp only [Qs,List.all_cons,List.all_nil,Bool.and_true,hH]
 have h0:look [(0,kt)] 0=some kt:=rfl
 refine (ZlK 100000 [(0,kt)] (hc.out hp' τ) hop hx ha (.cons (.p h0) hv) (VH.cons h0 hH (by
  refine Vb.box (.cons (.d _) (.cons (.d _) .nil))) .nil) hal rfl (by rfl)).mono ?_
 rintro u h ⟨u0,h0',⟨y,τ',h1,rfl,rfl⟩,rfl,rfl⟩
 exact ⟨y,τ',h1,hc.ren _ _,rfl⟩
theorem Zyx {α:Type} {val:α→V} {φ:α→Prop} {τ:Tape} (hop:o.op=.call { callee:=.value x,args:=xs,argTypes:=ats }) (hx:ev sl x=some (.d (.c (.func (.func f) #[] #[])))) (ha:evl sl xs.toList=some (.p kt 0::uc)) (hH:look hp kt=some (some (tpb τ))) (hv:Vws [] [(0,kt)] uc us) (hc:Tc Γ.P f us pre val φ) (hp':pre)
   (hg:o.guard=none) (hd:o.dst=some d) (hdl:Nat.blt d Γ.nt=true) (hf:ZZ hp 100000 100=true) (hk:∀ x τ,φ x→WL Γ ops rest k ⟨(d,val x)::sl,(kt,some (tpb τ))::hp⟩):WL Γ ops (o::rest) k ⟨sl,hp⟩ :=
 ZtW (Zzn hop hx ha hH hv hc hp') hg hd hdl hf (by rintro _ _ ⟨x,τ',h1,rfl,rfl⟩; exact hk x τ' h1)
theorem Zx2 {α:Type} {val:α→V} {φ:α→Prop} {τ:Tape} (hop:o.op=.call { callee:=.value x,args:=xs,argTypes:=ats }) (hx:ev (keep ts sl) x=some (.d (.c (.func (.func f) #[] #[])))) (ha:evl (keep ts sl) xs.toList=some (.p kt 0::uc)) (hH:look hp kt=some (some (tpb τ))) (hv:Vws [] [(0,kt)] uc us) (hc:Tc Γ.P f us pre val φ) (hp':pre)
   (hd:o.dst=some d) (hw:Wt ops o (keep ts sl) true) (hdl:Nat.blt d Γ.nt=true) (hfr:ZZ hp 100000 100=true) (hf:okF ⟨⟨i,an,ts⟩,[kt],[kt],100000,100⟩ F=true) (hnd:(r.all fun q=>Zdu q.an i)=true)
   (hk:∀ x τ,φ x→WD Γ ops k r (⟨⟨i,an,ts⟩,[kt],[kt],100000,100⟩::F) ⟨(d,val x)::sl,(kt,some (tpb τ))::hp⟩):WO Γ ops k o i an ts r F ⟨sl,hp⟩ :=
 ZxR [kt] [kt] (Zzn hop hx ha (by rw [Zge]; exact hH) hv hc hp') hd hw hdl hfr hf hnd (by rintro _ _ ⟨_,_,_,rfl,rfl⟩; exact ZrK _ _) (by rintro _ _ ⟨x,τ',h1,rfl,rfl⟩; exact hk x τ' h1)
end
section
variable {P:Program} {o:Oper} {H:Hp} {sl:List (Nat × V)} {x y:Operand} {T U:TypeId} {k:IntKind} {a b z:Int}
theorem Zt1 (hop:o.op=.binOp .rem T x y U) (hx:ev sl x=some (.d (.c (.int k a)))) (hy:ev sl y=some (.d (.c (.int k b)))) (hb:b≠0) (hz:a.tmod b=z):OpD P o H sl 0 0 (.d (.c (.int k z))) []:=Zcv hop hx hy (fun w=>by subst hz; simp [binOp,Op.intDiv,hb]) rfl rfl
theorem ZgV {t E:TypeId} {len:Nat} {us:List V} {u:V} {i:Int} (hop:o.op=.index t x y) (hx:ev sl x=some (.a us)) (hy:ev sl y=some (vI i)) (hTE:Ar P t len E) (hE:Ty P E 1 false) (h0:0≤i) (hl:i<len) (hu:us[i.toNat]?=some u):OpD P o H sl 0 0 u []:=.read fun B a w ρ hs _=>by
 have ht:=hTE.out
 obtain ⟨vs,e,h2⟩:=Zrr (Zp hs hx)
 have hy':=ZbM (Zp hs hy)
 obtain ⟨v,h3,h4⟩:=h2.get hu
 refine ⟨v,?_,h4⟩
 have hsz:=XX (w:=w) hE
 have hag:=ZbG (w:=w) hE
 unfold execOp; rw [hop]
 have h1:0≤i∧i<(len:Int):=⟨h0,hl⟩
 simp [Instr.index,e,hy',asIntOf,run_underlying ht,h1,hsz,part,hag,h3]
theorem Zt7 (hop:o.op=.binOp .quo T x y U) (hx:ev sl x=some (.d (.c (.int k a)))) (hy:ev sl y=some (.d (.c (.int k b)))) (hb:b≠0) (hz:k.wrap (a.tdiv b)=z):OpD P o H sl 0 0 (.d (.c (.int k z))) []:=Zcv hop hx hy (fun w=>by subst hz; simp [binOp,Op.intDiv,hb]) rfl rfl
end
section
variable {Γ:Cx} {k:Zcc} {sl:List (Nat × V)} {hp:Hp} {o:Oper} {ops:Array Oper} {i an d z bytes len:Nat} {ts:List Nat} {r:List PI} {F:List Ft} {t E:TypeId} {parts:Array (Nat × Operand)} {l:List (Nat × V)} {cs:List V} {rest:List Oper} {α:Type}
theorem Zaq (f:α→List D) (es:List α) [hS:Sl Γ.P t E z bytes] (hop:o.op=.buildSlice t len parts) (hl:evs sl parts.toList=some l) (hf:YB z 0 l=some cs) (hn:(parts.size == len && Nat.ble (len * z) 16777216 && Nat.ble len 16777216)=true) (hd':(es.flatMap f).map V.d=cs) (hlen:es.length=len)
   (hg:o.guard=none) (hd:o.dst=some d) (hdl:Nat.blt d Γ.nt=true) (hk:WL Γ ops rest k ⟨(d,.d (lst f es))::sl,hp⟩):WL Γ ops (o::rest) k ⟨sl,hp⟩:=by
 subst hlen
 exact ZtW (Zv2 hop hl hf hn hd') hg hd hdl (QX _ _) (by rintro _ _ ⟨rfl,rfl⟩; exact hk)
theorem ZeP (f:α→List D) (es:List α) [hS:Sl Γ.P t E z bytes] (hop:o.op=.buildSlice t len parts) (hl:evs (keep ts sl) parts.toList=some l) (hf:YB z 0 l=some cs) (hn:(parts.size == len && Nat.ble (len * z) 16777216 && Nat.ble len 16777216)=true) (hd':(es.flatMap f).map V.d=cs) (hlen:es.length=len)
   (hd:o.dst=some d) (hw:Wt ops o (keep ts sl) true) (hdl:Nat.blt d Γ.nt=true) (hfo:okF ⟨⟨i,an,ts⟩,[],[],0,0⟩ F=true) (hk:WD Γ ops k r (⟨⟨i,an,ts⟩,[],[],0,0⟩::F) ⟨(d,.d (lst f es))::sl,hp⟩):WO Γ ops k o i an ts r F ⟨sl,hp⟩:=by
 subst hlen
 exact ZtR (h:=[]) (Zv2 hop hl hf hn hd') hd hw hdl rfl (QX _ _) hfo hk
end
def unI:List V→Option (List Int)
 | []=>some []
 | .d (.c (.int .i64 a))::r=>(unI r).map (a::·)
 | _::_=>none
theorem ZiM:∀ {cs:List V} {es:List Int},unI cs=some es→(es.flatMap dsI).map V.d=cs
 | [],es,h=>by simp only [unI,Option.some.injEq] at h; subst h; rfl
 | v::r,es,h=>by
  unfold unI at h
  split at h
  ·rename_i e; cases e
  ·rename_i e
   cases e
   cases hr:unI r with
   | none=>rw [hr] at h; cases h
   | some l=>rw [hr] at h; simp only [Option.map_some,Option.some.injEq] at h; subst h; simp [dsI,ZiM hr]
  ·cases h
section
variable {Γ:Cx} {k:Zcc} {sl:List (Nat × V)} {hp:Hp} {o:Oper} {ops:Array Oper} {i an d z bytes len:Nat} {ts:List Nat} {r:List PI} {F:List Ft} {t E:TypeId} {parts:Array (Nat × Operand)} {l:List (Nat × V)} {cs:List V} {rest:List Oper} {es:List Int}
theorem ZwX [hS:Sl Γ.P t E z bytes] (hop:o.op=.buildSlice t len parts) (hl:evs sl parts.toList=some l) (hf:YB z 0 l=some cs) (hn:(parts.size == len && Nat.ble (len * z) 16777216 && Nat.ble len 16777216)=true) (hd':unI cs=some es) (hlen:es.length=len)
 (hg:o.guard=none) (hd:o.dst=some d) (hdl:Nat.blt d Γ.nt=true) (hk:WL Γ ops rest k ⟨(d,.d (ZxW es))::sl,hp⟩):WL Γ ops (o::rest) k ⟨sl,hp⟩:=Zaq dsI es hop hl hf hn (ZiM hd') hlen hg hd hdl hk
theorem ZwA [hS:Sl Γ.P t E z bytes] (hop:o.op=.buildSlice t len parts) (hl:evs (keep ts sl) parts.toList=some l) (hf:YB z 0 l=some cs) (hn:(parts.size == len && Nat.ble (len * z) 16777216 && Nat.ble len 16777216)=true) (hd':unI cs=some es) (hlen:es.length=len)
 (hd:o.dst=some d) (hw:Wt ops o (keep ts sl) true) (hdl:Nat.blt d Γ.nt=true) (hfo:okF ⟨⟨i,an,ts⟩,[],[],0,0⟩ F=true) (hk:WD Γ ops k r (⟨⟨i,an,ts⟩,[],[],0,0⟩::F) ⟨(d,.d (ZxW es))::sl,hp⟩):WO Γ ops k o i an ts r F ⟨sl,hp⟩:=ZeP dsI es hop hl hf hn (ZiM hd') hlen hd hw hdl hfo hk
end
class Eqs (P:Program) (T:TypeId) (vs us:List Value) (b:outParam Bool):Prop where
 g:P.eqGuardType P.depth T=false
 out:∀ w,(Op.equalIn 10000 T (.agg vs.toArray) (.agg us.toArray)).run P w=.ok b w
section
variable {P:Program} {o:Oper} {H:Hp} {sl:List (Nat × V)} {x y:Operand} {T U:TypeId} {xs ys:List V} {vs us:List Value} {b:Bool}
theorem ZrH (hop:o.op=.binOp .eql T x y U) (hx:ev sl x=some (.a xs)) (hy:ev sl y=some (.a ys)) (hc:ccV xs=some vs) (hc':ccV ys=some us) (hq:Eqs P T vs us b):OpD P o H sl 0 0 (vB b) []:=Zx5 hop hx hy hc hc' hq.g hq.out
theorem ZrE (hop:o.op=.binOp .neq T x y U) (hx:ev sl x=some (.a xs)) (hy:ev sl y=some (.a ys)) (hc:ccV xs=some vs) (hc':ccV ys=some us) (hq:Eqs P T vs us b):OpD P o H sl 0 0 (vB (!b)) []:=Zye hop hx hy hc hc' hq.g hq.out
end
section
variable {P:Program} {o:Oper} {H:Hp} {sl:List (Nat × V)} {x:Operand} {t E:TypeId} {z bytes:Nat}
theorem ZfH {α:Type} {f:α→List D} {lo hi:Option Operand} {il ih:Int} {xs ys:List α} [hS:Sl P t E z bytes] (hop:o.op=.slice t x lo hi none) (hx:ev sl x=some (.d (lst f xs))) (hlo:evo sl 0 lo=some (vI il)) (hhi:evo sl (xs.length:Int) hi=some (vI ih)) (h0:0≤il) (h1:il≤ih) (h2:ih≤xs.length) (hf:∀ a,(f a).length=z) (hd:(xs.drop il.toNat).take (ih.toNat - il.toNat)=ys):OpD P o H sl 0 0 (.d (lst f ys)) [] :=
 ZpY (il:=il.toNat) (ih:=ih.toNat) hop hx (by rw [hlo,Int.toNat_of_nonneg h0]) (by rw [hhi,Int.toNat_of_nonneg (by omega)]) (by omega) (by omega) hf hd
end
section
variable {P:Program} {o:Oper} {H:Hp} {sl:List (Nat × V)} {x y:Operand} {t:TypeId} {s s':ByteArray}
theorem Zsx {s:ByteArray} {m:Nat} (h:m<s.size):s[m]?=some (s.get! m):=by
 have:s[m]?=some s[m]:=by simp [h]
 rw [this]
 congr 1
 simp [ByteArray.get!,ByteArray.getElem_eq_getElem_data,h]
theorem ZfJ {i:Int} (hop:o.op=.index t x y) (hx:ev sl x=some (vS s)) (hy:ev sl y=some (vI i)) (ht:P.underlying t=some .string) (h0:0≤i) (h1:i<s.size):OpD P o H sl 0 0 (.d (.c (.int .u8 (s.get! i.toNat).toNat))) [] :=
 Zqf hop hx hy ht (Int.toNat_of_nonneg h0).symm (Zsx (by omega))
theorem ZfI {lo hi:Option Operand} {il ih:Int} (hop:o.op=.slice t x lo hi none) (hx:ev sl x=some (vS s)) (ht:P.underlying t=some .string) (hlo:evo sl 0 lo=some (vI il)) (hhi:evo sl (s.size:Int) hi=some (vI ih)) (h0:0≤il) (h1:il≤ih) (h2:ih≤s.size) (hd:s.extract il.toNat ih.toNat=s'):OpD P o H sl 0 0 (vS s') []:=by
 subst hd
 exact Zqh hop hx ht (by rw [hlo,Int.toNat_of_nonneg h0]) (by rw [hhi,Int.toNat_of_nonneg (by omega)]) (by omega) (by omega)
end
theorem wu8 {a:Int} (h1:0≤a) (h2:a≤255):IntKind.u8.wrap a=a:=by
 simp [IntKind.wrap,IntKind.bits,IntKind.signed]; omega
theorem Zvo {a:Int} (h1 : -2147483648≤a) (h2:a≤2147483647):IntKind.i32.wrap a=a:=by
 simp [IntKind.wrap,IntKind.bits,IntKind.signed]; split <;> omega
section
variable {Γ:Cx} {k:Zcc} {st:St} {ops:Array Oper} {rest:List Oper} {d:Option Tmp} {ty:TypeId} {ps:String} {af:Array Edge} {g:Option (Nat × Bool)} {gg:Nat × Bool} {T T':TypeId} {x y z:Operand} {n i an:Nat} {bo:BinOp} {uo:UnOp} {bb:Builtin} {xs:Array Operand} {ts:Array TypeId} {pa:Array (Nat × Operand)} {tl:List Nat} {r:List PI} {F:List Ft} {o:Oper} {c:Code} {e:Exit} {op:Op}
theorem Zz9 {q:Prop} (h:q→WC Γ c k st):q→WC Γ c k st:=h
theorem Zzg {q:Prop} (h:q→WK Γ k e st):q→WK Γ k e st:=h
theorem Zzj {q:Prop} (h:q→WL Γ ops rest k st):q→WL Γ ops rest k st:=h
theorem Zzl {q:Prop} (h:q→WO Γ ops k o i an tl r F st):q→WO Γ ops k o i an tl r F st:=h
theorem Zza {q:Prop} (h:q→WL Γ ops (⟨d,op,ty,ps,af,some gg⟩::rest) k st):q→WL Γ ops (⟨d,op,ty,ps,af,some gg⟩::rest) k st:=h
theorem Zwf {q:Prop} (h:q→WL Γ ops (⟨d,.load T x,ty,ps,af,g⟩::rest) k st):q→WL Γ ops (⟨d,.load T x,ty,ps,af,g⟩::rest) k st:=h
theorem Zwn {q:Prop} (h:q→WO Γ ops k ⟨d,.load T x,ty,ps,af,g⟩ i an tl r F st):q→WO Γ ops k ⟨d,.load T x,ty,ps,af,g⟩ i an tl r F st:=h
theorem Zv1 {q:Prop} (h:q→WL Γ ops (⟨d,.fieldAddr T x n,ty,ps,af,g⟩::rest) k st):q→WL Γ ops (⟨d,.fieldAddr T x n,ty,ps,af,g⟩::rest) k st:=h
theorem ZvH {q:Prop} (h:q→WO Γ ops k ⟨d,.fieldAddr T x n,ty,ps,af,g⟩ i an tl r F st):q→WO Γ ops k ⟨d,.fieldAddr T x n,ty,ps,af,g⟩ i an tl r F st:=h
theorem Zv9 {q:Prop} (h:q→WL Γ ops (⟨d,.move x,ty,ps,af,g⟩::rest) k st):q→WL Γ ops (⟨d,.move x,ty,ps,af,g⟩::rest) k st:=h
theorem ZvU {q:Prop} (h:q→WO Γ ops k ⟨d,.move x,ty,ps,af,g⟩ i an tl r F st):q→WO Γ ops k ⟨d,.move x,ty,ps,af,g⟩ i an tl r F st:=h
theorem ZvZ {q:Prop} (h:q→WL Γ ops (⟨d,.assign x,ty,ps,af,g⟩::rest) k st):q→WL Γ ops (⟨d,.assign x,ty,ps,af,g⟩::rest) k st:=h
theorem Zwk {q:Prop} (h:q→WO Γ ops k ⟨d,.assign x,ty,ps,af,g⟩ i an tl r F st):q→WO Γ ops k ⟨d,.assign x,ty,ps,af,g⟩ i an tl r F st:=h
theorem ZvF {q:Prop} (h:q→WL Γ ops (⟨d,.pick x y z,ty,ps,af,g⟩::rest) k st):q→WL Γ ops (⟨d,.pick x y z,ty,ps,af,g⟩::rest) k st:=h
theorem ZvR {q:Prop} (h:q→WO Γ ops k ⟨d,.pick x y z,ty,ps,af,g⟩ i an tl r F st):q→WO Γ ops k ⟨d,.pick x y z,ty,ps,af,g⟩ i an tl r F st:=h
theorem Zvy {q:Prop} (h:q→WL Γ ops (⟨d,.binOp bo T x y T',ty,ps,af,g⟩::rest) k st):q→WL Γ ops (⟨d,.binOp bo T x y T',ty,ps,af,g⟩::rest) k st:=h
theorem Zwm {q:Prop} (h:q→WO Γ ops k ⟨d,.binOp bo T x y T',ty,ps,af,g⟩ i an tl r F st):q→WO Γ ops k ⟨d,.binOp bo T x y T',ty,ps,af,g⟩ i an tl r F st:=h
theorem ZvB {q:Prop} (h:q→WL Γ ops (⟨d,.unOp uo T x,ty,ps,af,g⟩::rest) k st):q→WL Γ ops (⟨d,.unOp uo T x,ty,ps,af,g⟩::rest) k st:=h
theorem ZvO {q:Prop} (h:q→WO Γ ops k ⟨d,.unOp uo T x,ty,ps,af,g⟩ i an tl r F st):q→WO Γ ops k ⟨d,.unOp uo T x,ty,ps,af,g⟩ i an tl r F st:=h
theorem Zwb {q:Prop} (h:q→WL Γ ops (⟨d,.call { callee:=.builtin bb,args:=xs,argTypes:=ts },ty,ps,af,g⟩::rest) k st):q→WL Γ ops (⟨d,.call { callee:=.builtin bb,args:=xs,argTypes:=ts },ty,ps,af,g⟩::rest) k st:=h
theorem Zv8 {q:Prop} (h:q→WO Γ ops k ⟨d,.call { callee:=.builtin bb,args:=xs,argTypes:=ts },ty,ps,af,g⟩ i an tl r F st):q→WO Γ ops k ⟨d,.call { callee:=.builtin bb,args:=xs,argTypes:=ts },ty,ps,af,g⟩ i an tl r F st:=h
theorem Zyk {q:Prop} (h:q→WL Γ ops (⟨d,.call { callee:=.value x,args:=xs,argTypes:=ts },ty,ps,af,g⟩::rest) k st):q→WL Γ ops (⟨d,.call { callee:=.value x,args:=xs,argTypes:=ts },ty,ps,af,g⟩::rest) k st:=h
theorem Zyi {q:Prop} (h:q→WO Γ ops k ⟨d,.call { callee:=.value x,args:=xs,argTypes:=ts },ty,ps,af,g⟩ i an tl r F st):q→WO Γ ops k ⟨d,.call { callee:=.value x,args:=xs,argTypes:=ts },ty,ps,af,g⟩ i an tl r F st:=h
theorem Zv4 {q:Prop} (h:q→WL Γ ops (⟨d,.store T x y,ty,ps,af,g⟩::rest) k st):q→WL Γ ops (⟨d,.store T x y,ty,ps,af,g⟩::rest) k st:=h
theorem Zwl {q:Prop} (h:q→WO Γ ops k ⟨d,.store T x y,ty,ps,af,g⟩ i an tl r F st):q→WO Γ ops k ⟨d,.store T x y,ty,ps,af,g⟩ i an tl r F st:=h
theorem Zwp {q:Prop} (h:q→WL Γ ops (⟨d,.alloc T,ty,ps,af,g⟩::rest) k st):q→WL Γ ops (⟨d,.alloc T,ty,ps,af,g⟩::rest) k st:=h
theorem Zwd {q:Prop} (h:q→WO Γ ops k ⟨d,.alloc T,ty,ps,af,g⟩ i an tl r F st):q→WO Γ ops k ⟨d,.alloc T,ty,ps,af,g⟩ i an tl r F st:=h
theorem Zv0 {q:Prop} (h:q→WL Γ ops (⟨d,.box T x,ty,ps,af,g⟩::rest) k st):q→WL Γ ops (⟨d,.box T x,ty,ps,af,g⟩::rest) k st:=h
theorem Zvz {q:Prop} (h:q→WO Γ ops k ⟨d,.box T x,ty,ps,af,g⟩ i an tl r F st):q→WO Γ ops k ⟨d,.box T x,ty,ps,af,g⟩ i an tl r F st:=h
theorem Zwi {q:Prop} (h:q→WL Γ ops (⟨d,.extract x n,ty,ps,af,g⟩::rest) k st):q→WL Γ ops (⟨d,.extract x n,ty,ps,af,g⟩::rest) k st:=h
theorem ZvM {q:Prop} (h:q→WO Γ ops k ⟨d,.extract x n,ty,ps,af,g⟩ i an tl r F st):q→WO Γ ops k ⟨d,.extract x n,ty,ps,af,g⟩ i an tl r F st:=h
theorem Zyq {q:Prop} (h:q→WL Γ ops (⟨d,.indexAddr T x y,ty,ps,af,g⟩::rest) k st):q→WL Γ ops (⟨d,.indexAddr T x y,ty,ps,af,g⟩::rest) k st:=h
theorem Zyf {q:Prop} (h:q→WO Γ ops k ⟨d,.indexAddr T x y,ty,ps,af,g⟩ i an tl r F st):q→WO Γ ops k ⟨d,.indexAddr T x y,ty,ps,af,g⟩ i an tl r F st:=h
theorem Zx1 {q:Prop} (h:q→WL Γ ops (⟨d,.buildSlice T n pa,ty,ps,af,g⟩::rest) k st):q→WL Γ ops (⟨d,.buildSlice T n pa,ty,ps,af,g⟩::rest) k st:=h
theorem Zyt {q:Prop} (h:q→WO Γ ops k ⟨d,.buildSlice T n pa,ty,ps,af,g⟩ i an tl r F st):q→WO Γ ops k ⟨d,.buildSlice T n pa,ty,ps,af,g⟩ i an tl r F st:=h
theorem ZvQ {q:Prop} (h:q→WL Γ ops (⟨d,.build T pa,ty,ps,af,g⟩::rest) k st):q→WL Γ ops (⟨d,.build T pa,ty,ps,af,g⟩::rest) k st:=h
theorem ZvL {q:Prop} (h:q→WO Γ ops k ⟨d,.build T pa,ty,ps,af,g⟩ i an tl r F st):q→WO Γ ops k ⟨d,.build T pa,ty,ps,af,g⟩ i an tl r F st:=h
end
theorem sw {g h:Prop} (k:h) (f:h→g:=by (first | (apply Zzg; first | exact ZtA | exact ZhT | exact Zl3 | exact ZhS | exact ZjW | exact Zl6 | exact ZhP | exact ZhK rfl | exact ZjA | exact ZmJ | exact ZlS) | (apply Zz9; first | exact Zg | exact ZaN | exact Zm | exact ZeR | exact Zc4 | exact XA | exact Xn rfl | exact Yf rfl) | (apply Zzj; first | (apply Zza; first | exact ZvS rfl rfl rfl | exact Ztu rfl rfl rfl rfl rfl rfl rfl | exact ZvK rfl rfl rfl rfl rfl rfl) | exact Ztm | (apply Zv9; first | exact ZL (ZlL rfl rfl) rfl rfl rfl) | (apply ZvZ; first | exact ZL (Zgq rfl rfl) rfl rfl rfl) | (apply Zwf; first | exact ZL (o_load rfl rfl rfl (by exact inferInstance) rfl (by simp only [QF,stV,Zq,ldC,ldE,cond_true,cond_false,List.map_cons,List.map_nil,List.drop_zero,List.drop_succ_cons,List.take_succ_cons,List.take_zero,List.getElem?_cons_zero,List.getElem?_cons_succ,Nat.reduceAdd,Option.map_some]; exact rfl)) rfl rfl rfl | exact ZL (Zif rfl rfl (by exact inferInstance) rfl (by simp only [QF,stV,Zq,ldC,ldE,cond_true,cond_false,List.map_cons,List.map_nil,List.drop_zero,List.drop_succ_cons,List.take_succ_cons,List.take_zero,List.getElem?_cons_zero,List.getElem?_cons_succ,Nat.reduceAdd,Option.map_some]; exact rfl)) rfl rfl rfl | exact ZL (Zie rfl rfl rfl (by exact inferInstance) rfl (by simp only [QF,stV,Zq,ldC,ldE,cond_true,cond_false,List.map_cons,List.map_nil,List.drop_zero,List.drop_succ_cons,List.take_succ_cons,List.take_zero,List.getElem?_cons_zero,List.getElem?_cons_succ,Nat.reduceAdd,Option.map_some]; exact rfl)) rfl rfl rfl) | (apply Zv1; first | exact ZL (Zxp rfl rfl) rfl rfl rfl | exact ZL (ZrT rfl rfl (by first | (simp only [List.drop_zero,List.drop_succ_cons]; exact rfl) | (conv=>lhs; whnf))) rfl rfl rfl | exact ZL (ZrG rfl rfl) rfl rfl rfl) | (apply ZvF; first | exact ZL (ZlD rfl rfl rfl) rfl rfl rfl) | (apply Zvy; first | exact ZL (ZrL rfl rfl rfl) rfl rfl rfl | exact ZL (ZrU rfl rfl rfl) rfl rfl rfl | exact ZL (Zrx rfl rfl rfl) rfl rfl rfl | exact ZL (ZrA rfl rfl rfl) rfl rfl rfl | exact ZL (ZrX rfl rfl rfl) rfl rfl rfl | exact ZL (Zrv rfl rfl rfl) rfl rfl rfl | exact ZL (Zrw rfl rfl rfl) rfl rfl rfl | exact ZL (ZrV rfl rfl rfl) rfl rfl rfl | exact ZL (ZrW rfl rfl rfl) rfl rfl rfl | exact ZL (ZrJ rfl rfl rfl) rfl rfl rfl | exact ZL (ZrP rfl rfl rfl) rfl rfl rfl | exact ZL (Zry rfl rfl rfl) rfl rfl rfl | exact ZL (YZ rfl rfl rfl (w64 (by omega) (by omega))) rfl rfl rfl | exact ZL (YZ rfl rfl rfl (wu8 (by omega) (by omega))) rfl rfl rfl | exact ZL (YZ rfl rfl rfl (Zvo (by omega) (by omega))) rfl rfl rfl | exact ZL (Zjd rfl rfl rfl (w64 (by omega) (by omega))) rfl rfl rfl | exact ZL (Zjd rfl rfl rfl (wu8 (by omega) (by omega))) rfl rfl rfl | exact ZL (Zjd rfl rfl rfl (Zvo (by omega) (by omega))) rfl rfl rfl | exact ZL (ZrF rfl rfl rfl (by kernel_rfl)) rfl rfl rfl | exact ZL (ZrR rfl rfl rfl (by kernel_rfl)) rfl rfl rfl | exact ZL (Zr1 rfl rfl rfl (w64 (by omega) (by omega))) rfl rfl rfl | exact ZL (Zt1 rfl rfl rfl (by omega) rfl) rfl rfl rfl | exact ZL (Zt7 rfl rfl rfl (by omega) (w64 (by omega) (by omega))) rfl rfl rfl | exact ZL (ZoI rfl rfl rfl (by omega)) rfl rfl rfl | exact ZL (ZrH rfl rfl rfl (by simp only [ccV,Option.map_some]; exact rfl) (by simp only [ccV,Option.map_some]; exact rfl) (by exact inferInstance)) rfl rfl rfl | exact ZL (ZrE rfl rfl rfl (by simp only [ccV,Option.map_some]; exact rfl) (by simp only [ccV,Option.map_some]; exact rfl) (by exact inferInstance)) rfl rfl rfl) | (apply ZvB; first | exact ZL (Zrz rfl rfl) rfl rfl rfl) | (apply Zwi; first | exact ZL (Zfd rfl rfl rfl) rfl rfl rfl) | (apply ZvQ; first | exact ZL (Zic rfl rfl rfl (by simp only [QF,stV,Zq,ldC,ldE,cond_true,cond_false,List.map_cons,List.map_nil,List.drop_zero,List.drop_succ_cons,List.take_succ_cons,List.take_zero,List.getElem?_cons_zero,List.getElem?_cons_succ,Nat.reduceAdd,Option.map_some]; exact rfl)) rfl rfl rfl | exact ZL (Zgu rfl rfl rfl (by simp only [QF,stV,Zq,ldC,ldE,cond_true,cond_false,List.map_cons,List.map_nil,List.drop_zero,List.drop_succ_cons,List.take_succ_cons,List.take_zero,List.getElem?_cons_zero,List.getElem?_cons_succ,Nat.reduceAdd,Option.map_some]; exact rfl)) rfl rfl rfl) | (apply Zyq; first | exact ZL (Zov rfl rfl rfl Len.len rfl (by omega) (by first | (simp only [Rng.ds,Kv.ds,dsI]; exact rfl) | exact rfl)) rfl rfl rfl | exact ZL (Zov rfl rfl rfl Len.len (Int.toNat_of_nonneg (by omega)).symm (by omega) (by first | (simp only [Rng.ds,Kv.ds,dsI]; exact rfl) | exact rfl)) rfl rfl rfl | exact ZL (Zt8 rfl rfl (by exact inferInstance) (by exact inferInstance) (Int.toNat_of_nonneg (by omega)).symm (by omega)) rfl rfl rfl) | (apply Zyk; exact Zyo rfl rfl rfl (by repeat (first | exact Vws.nil | apply Vws.cons | exact Vw.nil | exact Vw.d _ | exact Vw.q _ | apply Vw.a)) (by exact inferInstance) (by first | exact trivial | omega | assumption | exact ⟨ZdM _,by omega⟩ | exact ⟨by decide,by omega⟩ | (simp only [List.length_append,List.length_take,List.length_drop,List.length_cons,List.length_nil]; omega)) (by simp only [V.ren,V.rens]; exact rfl) rfl rfl rfl rfl) | (apply Zwb; first | exact ZL (Zip rfl rfl) rfl rfl rfl | exact ZL (Zk1 rfl rfl rfl) rfl rfl rfl | exact ZL (Zid rfl rfl (by kernel_rfl)) rfl rfl rfl | exact ZL (Zir rfl rfl) rfl rfl rfl | exact ZL (Zia rfl rfl) rfl rfl rfl | exact ZL (ZrN rfl rfl rfl) rfl rfl rfl | exact ZL (ZrM rfl rfl rfl) rfl rfl rfl | exact Zlw (ZeA rfl rfl (by simp only [Nat.reduceAdd]; exact rfl) rfl rfl Len.len (by first | omega | (simp only [List.length_append,List.length_take,List.length_drop,List.length_cons,List.length_nil]; omega)) (by first | omega | (simp only [List.length_append,List.length_take,List.length_drop,List.length_cons,List.length_nil]; omega))) rfl rfl rfl rfl | exact Zy9 (ZhV rfl rfl (by simp only [Nat.reduceAdd]; exact rfl) rfl rfl rfl Len.len (by first | omega | (simp only [List.length_append,List.length_take,List.length_drop,List.length_cons,List.length_nil]; omega)) (by first | omega | (simp only [List.length_append,List.length_take,List.length_drop,List.length_cons,List.length_nil]; omega)) rfl) rfl rfl rfl rfl) | (apply Zv4; exact ZqW (lo:=0) (nn:=0) (Zk4 rfl rfl rfl rfl (by exact inferInstance) rfl (by simp only [QF,stV,Zq,ldC,ldE,cond_true,cond_false,List.map_cons,List.map_nil,List.drop_zero,List.drop_succ_cons,List.take_succ_cons,List.take_zero,List.getElem?_cons_zero,List.getElem?_cons_succ,Nat.reduceAdd,Option.map_some]; exact rfl)) rfl rfl (QX _ _)) | (apply Zwp; exact Zlw (Zh9 rfl rfl (by simp only [Nat.reduceAdd]; exact rfl) (by exact Yh.out) rfl rfl) rfl rfl rfl rfl) | (apply Zv0; exact Zlw (ZrB rfl rfl (by simp only [Nat.reduceAdd]; exact rfl) rfl rfl (by simp only [Zq]; exact rfl)) rfl rfl rfl rfl) | (apply Zx1; first | exact ZwX rfl rfl (by simp only [YB,Zq,List.cons_append,List.nil_append,List.append_nil]; exact rfl) rfl (by simp only [unI,Option.map_some]; exact rfl) rfl rfl rfl rfl | exact Zlw (ZxV rfl rfl (by simp only [Nat.reduceAdd]; exact rfl) rfl (by simp only [YB,Zq,List.cons_append,List.nil_append,List.append_nil]; exact rfl) rfl) rfl rfl rfl rfl) | exact ZL (Zio rfl rfl rfl (by simp only [QF,stV,Zq,ldC,ldE,cond_true,cond_false,List.map_cons,List.map_nil,List.drop_zero,List.drop_succ_cons,List.take_succ_cons,List.take_zero,List.getElem?_cons_zero,List.getElem?_cons_succ,Nat.reduceAdd,Option.map_some]; exact rfl)) rfl rfl rfl | exact ZL (ZlE rfl rfl) rfl rfl rfl | exact ZL (Zl1 (z:=.nilFunc) rfl rfl rfl (by exact inferInstance) (by kernel_rfl) (by kernel_rfl) rfl rfl) rfl rfl rfl | exact ZL (ZrC rfl rfl rfl (by kernel_rfl) (by first | exact rfl | assumption)) rfl rfl rfl | exact ZL (Zne rfl rfl (by kernel_rfl) (by kernel_rfl) rfl) rfl rfl rfl | exact ZL (Zr0 rfl rfl (w64 (by omega) (by omega))) rfl rfl rfl | exact ZL (ZfH rfl rfl rfl rfl (by omega) (by omega) (by omega) Len.len rfl) rfl rfl rfl | exact ZL (ZfJ rfl rfl rfl (by kernel_rfl) (by omega) (by omega)) rfl rfl rfl | exact ZL (ZfI rfl rfl (by kernel_rfl) rfl rfl (by omega) (by omega) (by omega) rfl) rfl rfl rfl | exact ZL (Zne (k2:=.i64) rfl rfl (by kernel_rfl) (by kernel_rfl) (w64 (by omega) (by omega))) rfl rfl rfl | exact ZL (ZgV rfl rfl rfl (by exact inferInstance) (by exact inferInstance) (by omega) (by omega) rfl) rfl rfl rfl | exact Zlw (Zum rfl rfl (by simp only [Nat.reduceAdd]; exact rfl)) rfl rfl rfl rfl | exact ZqW (lo:=0) (nn:=0) (Zr6 rfl rfl rfl rfl rfl (by exact inferInstance) (by kernel_rfl) rfl) rfl rfl (QX _ _) | exact Zlw (Zo1 rfl rfl (by simp only [Nat.reduceAdd]; exact rfl) rfl (by kernel_rfl)) rfl rfl rfl rfl | exact Zlw (lo:=0) (nn:=0) (ZmN rfl rfl rfl (by assumption) (by assumption)) rfl rfl rfl (QX _ _) | exact ZL (ZmP rfl rfl rfl (by assumption)) rfl rfl rfl) | (apply Zzl; first | exact Zzi rfl rfl (by first | exact .n rfl rfl rfl rfl rfl | exact .u rfl rfl rfl rfl) (hf:=rfl) | (apply ZvU; first | exact Yp [] (ZlL rfl rfl) rfl (by first | exact .no rfl | exact .y rfl rfl rfl rfl) rfl rfl) | (apply Zwk; first | exact Yp [] (Zgq rfl rfl) rfl (by first | exact .no rfl | exact .y rfl rfl rfl rfl) rfl rfl) | (apply Zwn; first | exact Yp [] (Zif rfl rfl (by exact inferInstance) rfl (by simp only [QF,stV,Zq,ldC,ldE,cond_true,cond_false,List.map_cons,List.map_nil,List.drop_zero,List.drop_succ_cons,List.take_succ_cons,List.take_zero,List.getElem?_cons_zero,List.getElem?_cons_succ,Nat.reduceAdd,Option.map_some]; exact rfl)) rfl (by first | exact .no rfl | exact .y rfl rfl rfl rfl) rfl rfl | exact ZvE rfl rfl rfl (by exact inferInstance) rfl (by simp only [QF,stV,Zq,ldC,ldE,cond_true,cond_false,List.map_cons,List.map_nil,List.drop_zero,List.drop_succ_cons,List.take_succ_cons,List.take_zero,List.getElem?_cons_zero,List.getElem?_cons_succ,Nat.reduceAdd,Option.map_some]; exact rfl) rfl (by first | exact .no rfl | exact .y rfl rfl rfl rfl) rfl rfl | exact Zth rfl rfl rfl (by exact inferInstance) rfl (by simp only [QF,stV,Zq,ldC,ldE,cond_true,cond_false,List.map_cons,List.map_nil,List.drop_zero,List.drop_succ_cons,List.take_succ_cons,List.take_zero,List.getElem?_cons_zero,List.getElem?_cons_succ,Nat.reduceAdd,Option.map_some]; exact rfl) rfl (by first | exact .no rfl | exact .y rfl rfl rfl rfl) rfl rfl) | (apply ZvH; first | exact Yp [] (Zxp rfl rfl) rfl (by first | exact .no rfl | exact .y rfl rfl rfl rfl) rfl rfl | exact Yp [] (ZrT rfl rfl (by first | (simp only [List.drop_zero,List.drop_succ_cons]; exact rfl) | (conv=>lhs; whnf))) rfl (by first | exact .no rfl | exact .y rfl rfl rfl rfl) rfl rfl | exact Yp [] (ZrG rfl rfl) rfl (by first | exact .no rfl | exact .y rfl rfl rfl rfl) rfl rfl) | (apply ZvR; first | exact Yp [] (ZlD rfl rfl rfl) rfl (by first | exact .no rfl | exact .y rfl rfl rfl rfl) rfl rfl) | (apply Zwm; first | exact Yp [] (ZrL rfl rfl rfl) rfl (by first | exact .no rfl | exact .y rfl rfl rfl rfl) rfl rfl | exact Yp [] (ZrU rfl rfl rfl) rfl (by first | exact .no rfl | exact .y rfl rfl rfl rfl) rfl rfl | exact Yp [] (Zrx rfl rfl rfl) rfl (by first | exact .no rfl | exact .y rfl rfl rfl rfl) rfl rfl | exact Yp [] (ZrA rfl rfl rfl) rfl (by first | exact .no rfl | exact .y rfl rfl rfl rfl) rfl rfl | exact Yp [] (ZrX rfl rfl rfl) rfl (by first | exact .no rfl | exact .y rfl rfl rfl rfl) rfl rfl | exact Yp [] (Zrv rfl rfl rfl) rfl (by first | exact .no rfl | exact .y rfl rfl rfl rfl) rfl rfl | exact Yp [] (Zrw rfl rfl rfl) rfl (by first | exact .no rfl | exact .y rfl rfl rfl rfl) rfl rfl | exact Yp [] (ZrV rfl rfl rfl) rfl (by first | exact .no rfl | exact .y rfl rfl rfl rfl) rfl rfl | exact Yp [] (ZrW rfl rfl rfl) rfl (by first | exact .no rfl | exact .y rfl rfl rfl rfl) rfl rfl | exact Yp [] (ZrJ rfl rfl rfl) rfl (by first | exact .no rfl | exact .y rfl rfl rfl rfl) rfl rfl | exact Yp [] (ZrP rfl rfl rfl) rfl (by first | exact .no rfl | exact .y rfl rfl rfl rfl) rfl rfl | exact Yp [] (Zry rfl rfl rfl) rfl (by first | exact .no rfl | exact .y rfl rfl rfl rfl) rfl rfl | exact Yp [] (YZ rfl rfl rfl (w64 (by omega) (by omega))) rfl (by first | exact .no rfl | exact .y rfl rfl rfl rfl) rfl rfl | exact Yp [] (YZ rfl rfl rfl (wu8 (by omega) (by omega))) rfl (by first | exact .no rfl | exact .y rfl rfl rfl rfl) rfl rfl | exact Yp [] (YZ rfl rfl rfl (Zvo (by omega) (by omega))) rfl (by first | exact .no rfl | exact .y rfl rfl rfl rfl) rfl rfl | exact Yp [] (Zjd rfl rfl rfl (w64 (by omega) (by omega))) rfl (by first | exact .no rfl | exact .y rfl rfl rfl rfl) rfl rfl | exact Yp [] (Zjd rfl rfl rfl (wu8 (by omega) (by omega))) rfl (by first | exact .no rfl | exact .y rfl rfl rfl rfl) rfl rfl | exact Yp [] (Zjd rfl rfl rfl (Zvo (by omega) (by omega))) rfl (by first | exact .no rfl | exact .y rfl rfl rfl rfl) rfl rfl | exact Yp [] (ZrF rfl rfl rfl (by kernel_rfl)) rfl (by first | exact .no rfl | exact .y rfl rfl rfl rfl) rfl rfl | exact Yp [] (ZrR rfl rfl rfl (by kernel_rfl)) rfl (by first | exact .no rfl | exact .y rfl rfl rfl rfl) rfl rfl | exact Yp [] (Zr1 rfl rfl rfl (w64 (by omega) (by omega))) rfl (by first | exact .no rfl | exact .y rfl rfl rfl rfl) rfl rfl | exact Yp [] (Zt1 rfl rfl rfl (by omega) rfl) rfl (by first | exact .no rfl | exact .y rfl rfl rfl rfl) rfl rfl | exact Yp [] (Zt7 rfl rfl rfl (by omega) (w64 (by omega) (by omega))) rfl (by first | exact .no rfl | exact .y rfl rfl rfl rfl) rfl rfl | exact Yp [] (ZoI rfl rfl rfl (by omega)) rfl (by first | exact .no rfl | exact .y rfl rfl rfl rfl) rfl rfl | exact Yp [] (ZrH rfl rfl rfl (by simp only [ccV,Option.map_some]; exact rfl) (by simp only [ccV,Option.map_some]; exact rfl) (by exact inferInstance)) rfl (by first | exact .no rfl | exact .y rfl rfl rfl rfl) rfl rfl | exact Yp [] (ZrE rfl rfl rfl (by simp only [ccV,Option.map_some]; exact rfl) (by simp only [ccV,Option.map_some]; exact rfl) (by exact inferInstance)) rfl (by first | exact .no rfl | exact .y rfl rfl rfl rfl) rfl rfl) | (apply ZvO; first | exact Yp [] (Zrz rfl rfl) rfl (by first | exact .no rfl | exact .y rfl rfl rfl rfl) rfl rfl) | (apply ZvM; first | exact Yp [] (Zfd rfl rfl rfl) rfl (by first | exact .no rfl | exact .y rfl rfl rfl rfl) rfl rfl) | (apply ZvL; first | exact Yp [] (Zic rfl rfl rfl (by simp only [QF,stV,Zq,ldC,ldE,cond_true,cond_false,List.map_cons,List.map_nil,List.drop_zero,List.drop_succ_cons,List.take_succ_cons,List.take_zero,List.getElem?_cons_zero,List.getElem?_cons_succ,Nat.reduceAdd,Option.map_some]; exact rfl)) rfl (by first | exact .no rfl | exact .y rfl rfl rfl rfl) rfl rfl | exact Yp [] (Zgu rfl rfl rfl (by simp only [QF,stV,Zq,ldC,ldE,cond_true,cond_false,List.map_cons,List.map_nil,List.drop_zero,List.drop_succ_cons,List.take_succ_cons,List.take_zero,List.getElem?_cons_zero,List.getElem?_cons_succ,Nat.reduceAdd,Option.map_some]; exact rfl)) rfl (by first | exact .no rfl | exact .y rfl rfl rfl rfl) rfl rfl) | (apply Zyf; first | exact Yp [] (Zov rfl rfl rfl Len.len rfl (by omega) (by first | (simp only [Rng.ds,Kv.ds,dsI]; exact rfl) | exact rfl)) rfl (by first | exact .no rfl | exact .y rfl rfl rfl rfl) rfl rfl | exact Yp [] (Zov rfl rfl rfl Len.len (Int.toNat_of_nonneg (by omega)).symm (by omega) (by first | (simp only [Rng.ds,Kv.ds,dsI]; exact rfl) | exact rfl)) rfl (by first | exact .no rfl | exact .y rfl rfl rfl rfl) rfl rfl | exact Yp [] (Zt8 rfl rfl (by exact inferInstance) (by exact inferInstance) (Int.toNat_of_nonneg (by omega)).symm (by omega)) rfl (by first | exact .no rfl | exact .y rfl rfl rfl rfl) rfl rfl) | (apply Zv8; first | exact Yp [] (Zip rfl rfl) rfl (by first | exact .no rfl | exact .y rfl rfl rfl rfl) rfl rfl | exact Yp [] (Zid rfl rfl (by kernel_rfl)) rfl (by first | exact .no rfl | exact .y rfl rfl rfl rfl) rfl rfl | exact Yp [] (Zir rfl rfl) rfl (by first | exact .no rfl | exact .y rfl rfl rfl rfl) rfl rfl | exact Yp [] (Zia rfl rfl) rfl (by first | exact .no rfl | exact .y rfl rfl rfl rfl) rfl rfl | exact Yp [] (ZrN rfl rfl rfl) rfl (by first | exact .no rfl | exact .y rfl rfl rfl rfl) rfl rfl | exact Yp [] (ZrM rfl rfl rfl) rfl (by first | exact .no rfl | exact .y rfl rfl rfl rfl) rfl rfl | exact ZoV rfl rfl rfl rfl (by first | exact .no rfl | exact .y rfl rfl rfl rfl) rfl rfl | exact ZtX [] (ZeA rfl rfl (by simp only [Nat.reduceAdd]; exact rfl) rfl rfl Len.len (by first | omega | (simp only [List.length_append,List.length_take,List.length_drop,List.length_cons,List.length_nil]; omega)) (by first | omega | (simp only [List.length_append,List.length_take,List.length_drop,List.length_cons,List.length_nil]; omega))) rfl (by first | exact .no rfl | exact .y rfl rfl rfl rfl) rfl rfl rfl | exact Zha rfl rfl (by simp only [Nat.reduceAdd]; exact rfl) rfl rfl rfl Len.len (by first | omega | (simp only [List.length_append,List.length_take,List.length_drop,List.length_cons,List.length_nil]; omega)) (by first | omega | (simp only [List.length_append,List.length_take,List.length_drop,List.length_cons,List.length_nil]; omega)) rfl (by first | exact .no rfl | exact .y rfl rfl rfl rfl) rfl rfl rfl) | (apply Zwl; first | exact ZvX rfl rfl rfl rfl (by exact inferInstance) rfl (by simp only [QF,stV,Zq,ldC,ldE,cond_true,cond_false,List.map_cons,List.map_nil,List.drop_zero,List.drop_succ_cons,List.take_succ_cons,List.take_zero,List.getElem?_cons_zero,List.getElem?_cons_succ,Nat.reduceAdd,Option.map_some]; exact rfl) rfl (by first | exact .no rfl | exact .y rfl rfl rfl rfl) rfl) | (apply Zwd; first | exact ZtX [] (Zh9 rfl rfl (by simp only [Nat.reduceAdd]; exact rfl) (by exact Yh.out) rfl rfl) rfl (by first | exact .no rfl | exact .y rfl rfl rfl rfl) rfl rfl rfl) | (apply Zvz; first | exact ZtX [] (ZrB rfl rfl (by simp only [Nat.reduceAdd]; exact rfl) rfl rfl (by simp only [Zq]; exact rfl)) rfl (by first | exact .no rfl | exact .y rfl rfl rfl rfl) rfl rfl rfl) | (apply Zyt; first | exact ZwA rfl rfl (by simp only [YB,Zq,List.cons_append,List.nil_append,List.append_nil]; exact rfl) rfl (by simp only [unI,Option.map_some]; exact rfl) rfl rfl (by first | exact .no rfl | exact .y rfl rfl rfl rfl) rfl rfl | exact ZtX [] (ZxV rfl rfl (by simp only [Nat.reduceAdd]; exact rfl) rfl (by simp only [YB,Zq,List.cons_append,List.nil_append,List.append_nil]; exact rfl) rfl) rfl (by first | exact .no rfl | exact .y rfl rfl rfl rfl) rfl rfl rfl) | (apply Zyi; first | exact Zyv rfl rfl rfl (by repeat (first | exact Vws.nil | apply Vws.cons | exact Vw.nil | exact Vw.d _ | exact Vw.q _ | apply Vw.a)) (by exact inferInstance) (by first | exact trivial | omega | assumption | exact ⟨ZdM _,by omega⟩ | exact ⟨by decide,by omega⟩ | (simp only [List.length_append,List.length_take,List.length_drop,List.length_cons,List.length_nil]; omega)) (by simp only [V.ren,V.rens]; exact rfl) rfl (by first | exact .no rfl | exact .y rfl rfl rfl rfl) rfl rfl rfl) | exact Yp [] (Zio rfl rfl rfl (by simp only [QF,stV,Zq,ldC,ldE,cond_true,cond_false,List.map_cons,List.map_nil,List.drop_zero,List.drop_succ_cons,List.take_succ_cons,List.take_zero,List.getElem?_cons_zero,List.getElem?_cons_succ,Nat.reduceAdd,Option.map_some]; exact rfl)) rfl (by first | exact .no rfl | exact .y rfl rfl rfl rfl) rfl rfl | exact Yp [] (ZlE rfl rfl) rfl (by first | exact .no rfl | exact .y rfl rfl rfl rfl) rfl rfl | exact Yp [] (Zl1 (z:=.nilFunc) rfl rfl rfl (by exact inferInstance) (by kernel_rfl) (by kernel_rfl) rfl rfl) rfl (by first | exact .no rfl | exact .y rfl rfl rfl rfl) rfl rfl | exact Yp [] (ZrC rfl rfl rfl (by kernel_rfl) (by first | exact rfl | assumption)) rfl (by first | exact .no rfl | exact .y rfl rfl rfl rfl) rfl rfl | exact Yp [] (Zne rfl rfl (by kernel_rfl) (by kernel_rfl) rfl) rfl (by first | exact .no rfl | exact .y rfl rfl rfl rfl) rfl rfl | exact Yp [] (Zr0 rfl rfl (w64 (by omega) (by omega))) rfl (by first | exact .no rfl | exact .y rfl rfl rfl rfl) rfl rfl | exact Yp [] (ZfH rfl rfl rfl rfl (by omega) (by omega) (by omega) Len.len rfl) rfl (by first | exact .no rfl | exact .y rfl rfl rfl rfl) rfl rfl | exact Yp [] (ZfJ rfl rfl rfl (by kernel_rfl) (by omega) (by omega)) rfl (by first | exact .no rfl | exact .y rfl rfl rfl rfl) rfl rfl | exact Yp [] (ZfI rfl rfl (by kernel_rfl) rfl rfl (by omega) (by omega) (by omega) rfl) rfl (by first | exact .no rfl | exact .y rfl rfl rfl rfl) rfl rfl | exact Yp [] (Zne (k2:=.i64) rfl rfl (by kernel_rfl) (by kernel_rfl) (w64 (by omega) (by omega))) rfl (by first | exact .no rfl | exact .y rfl rfl rfl rfl) rfl rfl | exact Yp [] (ZgV rfl rfl rfl (by exact inferInstance) (by exact inferInstance) (by omega) (by omega) rfl) rfl (by first | exact .no rfl | exact .y rfl rfl rfl rfl) rfl rfl) | exact Ztd | exact ZvW rfl)):g:=f k
theorem swt {g h:Prop} (k:h) (f:h→g:=by (first | exact Zyx rfl rfl rfl rfl (by repeat (first | exact Vws.nil | apply Vws.cons | exact Vw.nil | exact Vw.d _ | exact Vw.q _ | apply Vw.a)) (by exact inferInstance) (by first | exact trivial | omega | assumption | exact ⟨ZdM _,by omega⟩ | exact ⟨by decide,by omega⟩ | (simp only [List.length_append,List.length_take,List.length_drop,List.length_cons,List.length_nil]; omega)) rfl rfl rfl rfl | exact Zx2 rfl rfl rfl rfl (by repeat (first | exact Vws.nil | apply Vws.cons | exact Vw.nil | exact Vw.d _ | exact Vw.q _ | apply Vw.a)) (by exact inferInstance) (by first | exact trivial | omega | assumption | exact ⟨ZdM _,by omega⟩ | exact ⟨by decide,by omega⟩ | (simp only [List.length_append,List.length_take,List.length_drop,List.length_cons,List.length_nil]; omega)) rfl (by first | exact .no rfl | exact .y rfl rfl rfl rfl) rfl rfl rfl rfl)):g:=f k
theorem sp {g a b:Prop} (k1:a) (k2:b) (f:a→b→g:=by (intro h1 h2; first | exact Zp2 rfl h1 h2 | exact Zez rfl h1 h2 | exact Zwc rfl rfl rfl rfl h1 h2 | exact Zkv rfl rfl rfl rfl h1 h2)):g:=f k1 k2
end Go.Proofs.YtkcmgbbopedacaaGreatDoor
namespace Go.Proofs.YtkcmgbbopedacaaGreatDoor
open Go.RowKit
def md (v n:Int):Int:=if v.tmod n<0 then v.tmod n+n else v.tmod n
attribute [local irreducible] WK WC WL Wk Rel OpD OpV WD WO Op.bytesLess cmp vk vb vld emp contains
attribute [local irreducible] tpb
end Go.Proofs.YtkcmgbbopedacaaGreatDoor
namespace Go.Proofs.YtkcmgbbopedacaaGreatDoor
open Go.RowKit
theorem ZtK (k:ByteArray):decide (k=⟨#[]⟩)=k.toList.isEmpty:=by
 rw [← ZeQ]; rw [show (⟨#[]⟩:ByteArray).toList=[] by kernel_rfl]; cases k.toList <;> rfl
attribute [local irreducible] WK WC WL Wk Rel OpD OpV WD WO Op.bytesLess cmp vk vb vld emp contains
instance Zvj (ak bk:ByteArray) (ax bx:Bool):Ct Tryz.prog 61 [.a [vS ak,vB ax],.a [vS bk,vB bx]] True (vI (cmp ⟨ak,ax⟩ ⟨bk,bx⟩)):=⟨fun _=>by
 refine Spec.intro Tryz.func61 rfl rfl Tryz.ntmps61 Tryz.results61 rfl fun B w0 ρ0=>?_; simp only [slots,List.map_nil,List.map_cons,Nat.reduceAdd]
 (repeat' (first | refine sw ?_ | (refine swt ?_; intro x τ hx) | (refine sp ?_ ?_ <;> (intro h; (first | (have h2:(_:Bool)=_:=h; clear h2; subst h) | skip); (try simp only [decide_eq_true_eq,decide_eq_false_iff_not,Bool.not_eq_true',Bool.not_eq_false',Kv.eta,Bnd.eta,Rng.eta,Xx] at h); (first | (have h2:(_:Bool)=_:=h; clear h2; subst h) | skip))) | fail))
 all_goals (first | refine Xl rfl (by first | exact trivial | exact Zv rfl rfl (by exact inferInstance) trivial) rfl (by first | exact Vw.fmp rfl rfl rfl | exact Vw.nil | exact Vw.d _ | (repeat (first | exact Vws.nil | apply Vws.cons | exact Vw.nil | exact Vw.d _ | apply Vw.a | apply Vw.t | exact Vw.fh rfl rfl (Zj _) | exact Vw.fh rfl rfl Vws.nil)); done) ?_ | refine Yn rfl (by first | exact trivial | exact Zv rfl rfl (by exact inferInstance) trivial) rfl (by first | exact Vw.fmp rfl rfl rfl | exact Vw.nil | exact Vw.d _ | (repeat (first | exact Vws.nil | apply Vws.cons | exact Vw.nil | exact Vw.d _ | apply Vw.a | apply Vw.t | exact Vw.fh rfl rfl (Zj _) | exact Vw.fh rfl rfl Vws.nil)); done) ?_)
 all_goals simp_all [cmp,Bnd.lt,Xd]⟩
instance Zvc (k:ByteArray):Ct Tryz.prog 127 [vS k] True (vB (vk k)):=⟨fun _=>by
 refine Spec.intro Tryz.func127 rfl rfl Tryz.ntmps127 Tryz.results127 rfl fun B w0 ρ0=>?_; simp only [slots,List.map_nil,List.map_cons,Nat.reduceAdd]
 (repeat' (first | refine sw ?_ | (refine swt ?_; intro x τ hx) | (refine sp ?_ ?_ <;> (intro h; (first | (have h2:(_:Bool)=_:=h; clear h2; subst h) | skip); (try simp only [decide_eq_true_eq,decide_eq_false_iff_not,Bool.not_eq_true',Bool.not_eq_false',Kv.eta,Bnd.eta,Rng.eta,Xx] at h); (first | (have h2:(_:Bool)=_:=h; clear h2; subst h) | skip))) | fail))
 all_goals (first | refine Xl rfl (by first | exact trivial | exact Zv rfl rfl (by exact inferInstance) trivial) rfl (by first | exact Vw.fmp rfl rfl rfl | exact Vw.nil | exact Vw.d _ | (repeat (first | exact Vws.nil | apply Vws.cons | exact Vw.nil | exact Vw.d _ | apply Vw.a | apply Vw.t | exact Vw.fh rfl rfl (Zj _) | exact Vw.fh rfl rfl Vws.nil)); done) ?_ | refine Yn rfl (by first | exact trivial | exact Zv rfl rfl (by exact inferInstance) trivial) rfl (by first | exact Vw.fmp rfl rfl rfl | exact Vw.nil | exact Vw.d _ | (repeat (first | exact Vws.nil | apply Vws.cons | exact Vw.nil | exact Vw.d _ | apply Vw.a | apply Vw.t | exact Vw.fh rfl rfl (Zj _) | exact Vw.fh rfl rfl Vws.nil)); done) ?_)
 all_goals (refine ⟨?_,rfl⟩; simp [vk]; omega)⟩
instance ZsY (k:ByteArray) (t:Bool):Ct Tryz.prog 62 [.a [vS k,vB t]] True (vB (vb ⟨k,t⟩)):=⟨fun _=>by
 refine Spec.intro Tryz.func62 rfl rfl Tryz.ntmps62 Tryz.results62 rfl fun B w0 ρ0=>?_; simp only [slots,List.map_nil,List.map_cons,Nat.reduceAdd]
 (repeat' (first | refine sw ?_ | (refine swt ?_; intro x τ hx) | (refine sp ?_ ?_ <;> (intro h; (first | (have h2:(_:Bool)=_:=h; clear h2; subst h) | skip); (try simp only [decide_eq_true_eq,decide_eq_false_iff_not,Bool.not_eq_true',Bool.not_eq_false',Kv.eta,Bnd.eta,Rng.eta,Xx] at h); (first | (have h2:(_:Bool)=_:=h; clear h2; subst h) | skip))) | fail))
 all_goals (first | refine Xl rfl (by first | exact trivial | exact Zv rfl rfl (by exact inferInstance) trivial) rfl (by first | exact Vw.fmp rfl rfl rfl | exact Vw.nil | exact Vw.d _ | (repeat (first | exact Vws.nil | apply Vws.cons | exact Vw.nil | exact Vw.d _ | apply Vw.a | apply Vw.t | exact Vw.fh rfl rfl (Zj _) | exact Vw.fh rfl rfl Vws.nil)); done) ?_ | refine Yn rfl (by first | exact trivial | exact Zv rfl rfl (by exact inferInstance) trivial) rfl (by first | exact Vw.fmp rfl rfl rfl | exact Vw.nil | exact Vw.d _ | (repeat (first | exact Vws.nil | apply Vws.cons | exact Vw.nil | exact Vw.d _ | apply Vw.a | apply Vw.t | exact Vw.fh rfl rfl (Zj _) | exact Vw.fh rfl rfl Vws.nil)); done) ?_)
 all_goals simp_all [vb,ZtK]⟩
instance ZxM (ak bk:ByteArray) (ax bx:Bool):Ct Tryz.prog 135 [.a [vS ak,vB ax,vS bk,vB bx]] True (vB (vld ⟨⟨ak,ax⟩,⟨bk,bx⟩⟩)):=⟨fun _=>by
 refine Spec.intro Tryz.func135 rfl rfl Tryz.ntmps135 Tryz.results135 rfl fun B w0 ρ0=>?_; simp only [slots,List.map_nil,List.map_cons,Nat.reduceAdd]
 (repeat' (first | refine sw ?_ | (refine swt ?_; intro x τ hx) | (refine sp ?_ ?_ <;> (intro h; (first | (have h2:(_:Bool)=_:=h; clear h2; subst h) | skip); (try simp only [decide_eq_true_eq,decide_eq_false_iff_not,Bool.not_eq_true',Bool.not_eq_false',Kv.eta,Bnd.eta,Rng.eta,Xx] at h); (first | (have h2:(_:Bool)=_:=h; clear h2; subst h) | skip))) | fail))
 all_goals (first | refine Xl rfl (by first | exact trivial | exact Zv rfl rfl (by exact inferInstance) trivial) rfl (by first | exact Vw.fmp rfl rfl rfl | exact Vw.nil | exact Vw.d _ | (repeat (first | exact Vws.nil | apply Vws.cons | exact Vw.nil | exact Vw.d _ | apply Vw.a | apply Vw.t | exact Vw.fh rfl rfl (Zj _) | exact Vw.fh rfl rfl Vws.nil)); done) ?_ | refine Yn rfl (by first | exact trivial | exact Zv rfl rfl (by exact inferInstance) trivial) rfl (by first | exact Vw.fmp rfl rfl rfl | exact Vw.nil | exact Vw.d _ | (repeat (first | exact Vws.nil | apply Vws.cons | exact Vw.nil | exact Vw.d _ | apply Vw.a | apply Vw.t | exact Vw.fh rfl rfl (Zj _) | exact Vw.fh rfl rfl Vws.nil)); done) ?_)
 all_goals simp_all [vld]⟩
instance Zvk (ak bk:ByteArray) (ax bx:Bool):Ct Tryz.prog 68 [.a [vS ak,vB ax],.a [vS bk,vB bx]] True (vI (cmp ⟨ak,ax⟩ ⟨bk,bx⟩)):=⟨fun _=>by
 refine Spec.intro Tryz.func68 rfl rfl Tryz.ntmps68 Tryz.results68 rfl fun B w0 ρ0=>?_; simp only [slots,List.map_nil,List.map_cons,Nat.reduceAdd]
 (repeat' (first | refine sw ?_ | (refine swt ?_; intro x τ hx) | (refine sp ?_ ?_ <;> (intro h; (first | (have h2:(_:Bool)=_:=h; clear h2; subst h) | skip); (try simp only [decide_eq_true_eq,decide_eq_false_iff_not,Bool.not_eq_true',Bool.not_eq_false',Kv.eta,Bnd.eta,Rng.eta,Xx] at h); (first | (have h2:(_:Bool)=_:=h; clear h2; subst h) | skip))) | fail))
 all_goals (first | refine Xl rfl (by first | exact trivial | exact Zv rfl rfl (by exact inferInstance) trivial) rfl (by first | exact Vw.fmp rfl rfl rfl | exact Vw.nil | exact Vw.d _ | (repeat (first | exact Vws.nil | apply Vws.cons | exact Vw.nil | exact Vw.d _ | apply Vw.a | apply Vw.t | exact Vw.fh rfl rfl (Zj _) | exact Vw.fh rfl rfl Vws.nil)); done) ?_ | refine Yn rfl (by first | exact trivial | exact Zv rfl rfl (by exact inferInstance) trivial) rfl (by first | exact Vw.fmp rfl rfl rfl | exact Vw.nil | exact Vw.d _ | (repeat (first | exact Vws.nil | apply Vws.cons | exact Vw.nil | exact Vw.d _ | apply Vw.a | apply Vw.t | exact Vw.fh rfl rfl (Zj _) | exact Vw.fh rfl rfl Vws.nil)); done) ?_)
 all_goals simp_all [cmp,Bnd.lt,Xd]⟩
instance Zva (k:ByteArray):Ct Tryz.prog 134 [vS k] True (vB (vk k)):=⟨fun _=>by
 refine Spec.intro Tryz.func134 rfl rfl Tryz.ntmps134 Tryz.results134 rfl fun B w0 ρ0=>?_; simp only [slots,List.map_nil,List.map_cons,Nat.reduceAdd]
 (repeat' (first | refine sw ?_ | (refine swt ?_; intro x τ hx) | (refine sp ?_ ?_ <;> (intro h; (first | (have h2:(_:Bool)=_:=h; clear h2; subst h) | skip); (try simp only [decide_eq_true_eq,decide_eq_false_iff_not,Bool.not_eq_true',Bool.not_eq_false',Kv.eta,Bnd.eta,Rng.eta,Xx] at h); (first | (have h2:(_:Bool)=_:=h; clear h2; subst h) | skip))) | fail))
 all_goals (first | refine Xl rfl (by first | exact trivial | exact Zv rfl rfl (by exact inferInstance) trivial) rfl (by first | exact Vw.fmp rfl rfl rfl | exact Vw.nil | exact Vw.d _ | (repeat (first | exact Vws.nil | apply Vws.cons | exact Vw.nil | exact Vw.d _ | apply Vw.a | apply Vw.t | exact Vw.fh rfl rfl (Zj _) | exact Vw.fh rfl rfl Vws.nil)); done) ?_ | refine Yn rfl (by first | exact trivial | exact Zv rfl rfl (by exact inferInstance) trivial) rfl (by first | exact Vw.fmp rfl rfl rfl | exact Vw.nil | exact Vw.d _ | (repeat (first | exact Vws.nil | apply Vws.cons | exact Vw.nil | exact Vw.d _ | apply Vw.a | apply Vw.t | exact Vw.fh rfl rfl (Zj _) | exact Vw.fh rfl rfl Vws.nil)); done) ?_)
 all_goals (refine ⟨?_,rfl⟩; simp [vk]; omega)⟩
instance ZsU (k:ByteArray) (t:Bool):Ct Tryz.prog 70 [.a [vS k,vB t]] True (vB (vb ⟨k,t⟩)):=⟨fun _=>by
 refine Spec.intro Tryz.func70 rfl rfl Tryz.ntmps70 Tryz.results70 rfl fun B w0 ρ0=>?_; simp only [slots,List.map_nil,List.map_cons,Nat.reduceAdd]
 (repeat' (first | refine sw ?_ | (refine swt ?_; intro x τ hx) | (refine sp ?_ ?_ <;> (intro h; (first | (have h2:(_:Bool)=_:=h; clear h2; subst h) | skip); (try simp only [decide_eq_true_eq,decide_eq_false_iff_not,Bool.not_eq_true',Bool.not_eq_false',Kv.eta,Bnd.eta,Rng.eta,Xx] at h); (first | (have h2:(_:Bool)=_:=h; clear h2; subst h) | skip))) | fail))
 all_goals (first | refine Xl rfl (by first | exact trivial | exact Zv rfl rfl (by exact inferInstance) trivial) rfl (by first | exact Vw.fmp rfl rfl rfl | exact Vw.nil | exact Vw.d _ | (repeat (first | exact Vws.nil | apply Vws.cons | exact Vw.nil | exact Vw.d _ | apply Vw.a | apply Vw.t | exact Vw.fh rfl rfl (Zj _) | exact Vw.fh rfl rfl Vws.nil)); done) ?_ | refine Yn rfl (by first | exact trivial | exact Zv rfl rfl (by exact inferInstance) trivial) rfl (by first | exact Vw.fmp rfl rfl rfl | exact Vw.nil | exact Vw.d _ | (repeat (first | exact Vws.nil | apply Vws.cons | exact Vw.nil | exact Vw.d _ | apply Vw.a | apply Vw.t | exact Vw.fh rfl rfl (Zj _) | exact Vw.fh rfl rfl Vws.nil)); done) ?_)
 all_goals simp_all [vb,ZtK]⟩
instance ZxE (ak bk:ByteArray) (ax bx:Bool):Ct Tryz.prog 133 [.a [vS ak,vB ax,vS bk,vB bx]] True (vB (vld ⟨⟨ak,ax⟩,⟨bk,bx⟩⟩)):=⟨fun _=>by
 refine Spec.intro Tryz.func133 rfl rfl Tryz.ntmps133 Tryz.results133 rfl fun B w0 ρ0=>?_; simp only [slots,List.map_nil,List.map_cons,Nat.reduceAdd]
 (repeat' (first | refine sw ?_ | (refine swt ?_; intro x τ hx) | (refine sp ?_ ?_ <;> (intro h; (first | (have h2:(_:Bool)=_:=h; clear h2; subst h) | skip); (try simp only [decide_eq_true_eq,decide_eq_false_iff_not,Bool.not_eq_true',Bool.not_eq_false',Kv.eta,Bnd.eta,Rng.eta,Xx] at h); (first | (have h2:(_:Bool)=_:=h; clear h2; subst h) | skip))) | fail))
 all_goals (first | refine Xl rfl (by first | exact trivial | exact Zv rfl rfl (by exact inferInstance) trivial) rfl (by first | exact Vw.fmp rfl rfl rfl | exact Vw.nil | exact Vw.d _ | (repeat (first | exact Vws.nil | apply Vws.cons | exact Vw.nil | exact Vw.d _ | apply Vw.a | apply Vw.t | exact Vw.fh rfl rfl (Zj _) | exact Vw.fh rfl rfl Vws.nil)); done) ?_ | refine Yn rfl (by first | exact trivial | exact Zv rfl rfl (by exact inferInstance) trivial) rfl (by first | exact Vw.fmp rfl rfl rfl | exact Vw.nil | exact Vw.d _ | (repeat (first | exact Vws.nil | apply Vws.cons | exact Vw.nil | exact Vw.d _ | apply Vw.a | apply Vw.t | exact Vw.fh rfl rfl (Zj _) | exact Vw.fh rfl rfl Vws.nil)); done) ?_)
 all_goals simp_all [vld]⟩
end Go.Proofs.YtkcmgbbopedacaaGreatDoor
namespace Go.Proofs.YtkcmgbbopedacaaGreatDoor
open Go.RowKit
attribute [local irreducible] tpb
def rep:Nat→ByteArray→ByteArray
 | 0,_=>⟨#[]⟩
 | n+1,s=>rep n s++s
attribute [local irreducible] WK WC WL Wk Rel OpD OpV WD WO Op.bytesLess cmp vk vb vld emp contains
end Go.Proofs.YtkcmgbbopedacaaGreatDoor
