/-
  Lemmas: Contracts
-/
import Derived.Test.YtkcmgbbopedacaaGreatDoorPX8
set_option linter.unusedSimpArgs false
set_option linter.unusedVariables false
namespace Go.Proofs.YtkcmgbbopedacaaGreatDoor
open Go.RowKit
attribute [local simp] Sem.run_bind Sem.run_pure Result.andThen_ok
class Ct (P:Program) (f:FuncId) (us:List V) (pre:outParam Prop) (u:outParam V):Prop where
 out:pre→Spec P f us [] fun u1 h1=>u1=u∧h1=[]
structure Tape where
 l:List Int
 pos:Nat
 h1:pos≤l.length
 h2:l.length≤600
 h3:∀ z ∈ l,-9223372036854775808≤z∧z≤9223372036854775807
def tpb (τ:Tape):Blk:=.box 126 [.d (ZuR τ.l),vI τ.pos]
theorem YX {H:Hp} {f:List (Nat × Nat)} {τ:Tape}:Vb H f (tpb τ) (tpb τ):=.box (.cons (.d _) (.cons (.d _) .nil))
def ZuU (P:Program) (f:FuncId) (us:List V) {α:Type} (val:α→V) (φ:α→Prop):Prop:=∀ τ:Tape,Spec P f (.p 0 0::us) [(0,some (tpb τ))] fun u h=>∃ x τ',φ x∧u=val x∧h=[(0,some (tpb τ'))]
class Tc (P:Program) (f:FuncId) (us:List V) {α:outParam Type} (pre:outParam Prop) (val:outParam (α→V)) (φ:outParam (α→Prop)):Prop where
 out:pre→ZuU P f us val φ
 ren:∀ x g,(val x).ren g=val x
section
variable {P:Program} {o:Oper} {H:Hp} {sl:List (Nat × V)} {x y:Operand} {T E:TypeId} {i:Int} {m:Nat}
def letter:Nat→ByteArray
 | 0=>⟨#[97]⟩
 | 1=>⟨#[98]⟩
 | 2=>⟨#[99]⟩
 | 3=>⟨#[0]⟩
 | 4=>⟨#[255]⟩
 | 5=>⟨#[109]⟩
 | _=>⟨#[]⟩
theorem ZcL (m:Nat):(letter m).size≤1:=by unfold letter; split <;> decide
theorem Zrh (hop:o.op=.indexAddr T (.global 0) y) (hy:ev sl y=some (vI i)) (hTE:Ar P T 6 E) (hE:Ty P E 1 false) (hm:i=(m:Int)) (hl:m<6):OpD P o H sl 0 0 (.q [dS (letter m)]) []:=.read fun B a w ρ hs hr=>by
 have hT:=hTE.out
 have hy':=Za7 (Zp hs hy)
 obtain ⟨g1,g2⟩:=hr.gl _ List.mem_cons_self
 subst hm
 have h1:(0:Int)≤(m:Int)∧(m:Int)<6:=by omega
 have hsz:=XC (w:=w) hE
 unfold execOp; rw [hop]
 refine ⟨.pointer (some ⟨0,m,none⟩),?_,.q g1 (.cons (.c rfl) .nil) (vs:=[.string (letter m)]) fun j v hv=>?_⟩
 ·have hg:a.eval (.global 0)=.pointer (some ⟨0,0,none⟩):=rfl
  simp [hy',hg,Instr.indexAt,asIntOf,run_underlying hT,h1,Instr.sureAddr,hsz,addr_add]
  exact fun h=>absurd hl (by omega)
 ·cases j with
  | succ j=>simp at hv
  | zero =>
   simp only [List.getElem?_cons_zero,Option.some.injEq] at hv
   subst hv
   refine g2 m _ ?_
   have:m=0∨m=1∨m=2∨m=3∨m=4∨m=5:=by omega
   rcases this with rfl | rfl | rfl | rfl | rfl | rfl <;> rfl
end
section
variable {Γ:Cx} {k:Zbw} {sl:List (Nat × V)} {hp:Hp} {o:Oper} {ops:Array Oper} {i an d kt:Nat} {ts:List Nat} {r:List PI} {F:List Ft} {f:FuncId} {us uc:List V} {x:Operand} {xs:Array Operand} {ats:Array TypeId} {u u':V} {rest:List Oper} {pre:Prop}
theorem ZuY (hop:o.op=.call { callee:=.value x,args:=xs,argTypes:=ats }) (hx:ev sl x=some (.d (.c (.func (.func f) #[] #[])))) (ha:evl sl xs.toList=some uc) (hv:Vws [] [] uc us) (hc:Ct Γ.P f us pre u) (hp':pre) (hu:u.ren (rn [] 100000)=u')
 (hg:o.guard=none) (hd:o.dst=some d) (hdl:Nat.blt d Γ.nt=true) (hf:ZR hp 100000 100=true) (hk:WL Γ ops rest k ⟨(d,u')::sl,hp⟩):WL Γ ops (o::rest) k ⟨sl,hp⟩:=Zrd (Zg1 100000 (hc.out hp') hop hx ha hv hu) hg hd hdl hf hk
theorem Zvg (hop:o.op=.call { callee:=.value x,args:=xs,argTypes:=ats }) (hx:ev (keep ts sl) x=some (.d (.c (.func (.func f) #[] #[])))) (ha:evl (keep ts sl) xs.toList=some uc) (hv:Vws [] [] uc us) (hc:Ct Γ.P f us pre u) (hp':pre) (hu:u.ren (rn [] 100000)=u')
 (hd:o.dst=some d) (hw:Wt ops o (keep ts sl) true) (hdl:Nat.blt d Γ.nt=true) (hfr:ZR hp 100000 100=true) (hf:okF ⟨⟨i,an,ts⟩,[],[],100000,100⟩ F=true)
 (hk:WD Γ ops k r (⟨⟨i,an,ts⟩,[],[],100000,100⟩::F) ⟨(d,u')::sl,hp⟩):WO Γ ops k o i an ts r F ⟨sl,hp⟩:=Ztn [] (Zg1 100000 (hc.out hp') hop hx ha hv hu) hd hw hdl hfr hf hk
theorem Zv1 {P:Program} {H:Hp} {α:Type} {val:α→V} {φ:α→Prop} {τ:Tape} (hop:o.op=.call { callee:=.value x,args:=xs,argTypes:=ats }) (hx:ev sl x=some (.d (.c (.func (.func f) #[] #[])))) (ha:evl sl xs.toList=some (.p kt 0::uc)) (hH:look H kt=some (some (tpb τ))) (hv:Vws [] [(0,kt)] uc us) (hc:Tc P f us pre val φ) (hp':pre) :
   OpV P o H sl 100000 100 fun u h=>∃ x τ',φ x∧u=val x∧h=[(kt,some (tpb τ'))]:=by
 have hal:XW H [(0,kt)]=true:=by simp only [XW,List.all_cons,List.all_nil,Bool.and_true,hH]
 have h0:look [(0,kt)] 0=some kt:=rfl
 refine (Zj4 100000 [(0,kt)] (hc.out hp' τ) hop hx ha (.cons (.p h0) hv) (VH.cons h0 hH (by
  refine Vb.box (.cons (.d _) (.cons (.d _) .nil))) .nil) hal rfl (by rfl)).mono ?_
 rintro u h ⟨u0,h0',⟨y,τ',h1,rfl,rfl⟩,rfl,rfl⟩
 exact ⟨y,τ',h1,hc.ren _ _,rfl⟩
theorem Zu8 {α:Type} {val:α→V} {φ:α→Prop} {τ:Tape} (hop:o.op=.call { callee:=.value x,args:=xs,argTypes:=ats }) (hx:ev sl x=some (.d (.c (.func (.func f) #[] #[])))) (ha:evl sl xs.toList=some (.p kt 0::uc)) (hH:look hp kt=some (some (tpb τ))) (hv:Vws [] [(0,kt)] uc us) (hc:Tc Γ.P f us pre val φ) (hp':pre)
   (hg:o.guard=none) (hd:o.dst=some d) (hdl:Nat.blt d Γ.nt=true) (hf:ZR hp 100000 100=true) (hk:∀ x τ,φ x→WL Γ ops rest k ⟨(d,val x)::sl,(kt,some (tpb τ))::hp⟩):WL Γ ops (o::rest) k ⟨sl,hp⟩ :=
 Zq8 (Zv1 hop hx ha hH hv hc hp') hg hd hdl hf (by rintro _ _ ⟨x,τ',h1,rfl,rfl⟩; exact hk x τ' h1)
theorem Zvp {α:Type} {val:α→V} {φ:α→Prop} {τ:Tape} (hop:o.op=.call { callee:=.value x,args:=xs,argTypes:=ats }) (hx:ev (keep ts sl) x=some (.d (.c (.func (.func f) #[] #[])))) (ha:evl (keep ts sl) xs.toList=some (.p kt 0::uc)) (hH:look hp kt=some (some (tpb τ))) (hv:Vws [] [(0,kt)] uc us) (hc:Tc Γ.P f us pre val φ) (hp':pre)
   (hd:o.dst=some d) (hw:Wt ops o (keep ts sl) true) (hdl:Nat.blt d Γ.nt=true) (hfr:ZR hp 100000 100=true) (hf:okF ⟨⟨i,an,ts⟩,[kt],[kt],100000,100⟩ F=true) (hnd:(r.all fun q=>Zcx q.an i)=true)
   (hk:∀ x τ,φ x→WD Γ ops k r (⟨⟨i,an,ts⟩,[kt],[kt],100000,100⟩::F) ⟨(d,val x)::sl,(kt,some (tpb τ))::hp⟩):WO Γ ops k o i an ts r F ⟨sl,hp⟩ :=
 ZuT [kt] [kt] (Zv1 hop hx ha (by rw [ZeT]; exact hH) hv hc hp') hd hw hdl hfr hf hnd (by rintro _ _ ⟨_,_,_,rfl,rfl⟩; exact Zpv _ _) (by rintro _ _ ⟨x,τ',h1,rfl,rfl⟩; exact hk x τ' h1)
end
section
variable {P:Program} {o:Oper} {H:Hp} {sl:List (Nat × V)} {x y:Operand} {T U:TypeId} {k:IntKind} {a b z:Int}
theorem Zri (hop:o.op=.binOp .rem T x y U) (hx:ev sl x=some (.d (.c (.int k a)))) (hy:ev sl y=some (.d (.c (.int k b)))) (hb:b≠0) (hz:a.tmod b=z):OpD P o H sl 0 0 (.d (.c (.int k z))) []:=ZbP hop hx hy (fun w=>by subst hz; simp [binOp,Op.intDiv,hb]) rfl rfl
theorem ZfG {t E:TypeId} {len:Nat} {us:List V} {u:V} {i:Int} (hop:o.op=.index t x y) (hx:ev sl x=some (.a us)) (hy:ev sl y=some (vI i)) (hTE:Ar P t len E) (hE:Ty P E 1 false) (h0:0≤i) (hl:i<len) (hu:us[i.toNat]?=some u):OpD P o H sl 0 0 u []:=.read fun B a w ρ hs _=>by
 have ht:=hTE.out
 obtain ⟨vs,e,h2⟩:=Zo3 (Zp hs hx)
 have hy':=Za7 (Zp hs hy)
 obtain ⟨v,h3,h4⟩:=h2.get hu
 refine ⟨v,?_,h4⟩
 have hsz:=XC (w:=w) hE
 have hag:=Za3 (w:=w) hE
 unfold execOp; rw [hop]
 have h1:0≤i∧i<(len:Int):=⟨h0,hl⟩
 simp [Instr.index,e,hy',asIntOf,run_underlying ht,h1,hsz,part,hag,h3]
theorem Zrn (hop:o.op=.binOp .quo T x y U) (hx:ev sl x=some (.d (.c (.int k a)))) (hy:ev sl y=some (.d (.c (.int k b)))) (hb:b≠0) (hz:k.wrap (a.tdiv b)=z):OpD P o H sl 0 0 (.d (.c (.int k z))) []:=ZbP hop hx hy (fun w=>by subst hz; simp [binOp,Op.intDiv,hb]) rfl rfl
end
section
variable {Γ:Cx} {k:Zbw} {sl:List (Nat × V)} {hp:Hp} {o:Oper} {ops:Array Oper} {i an d z bytes len:Nat} {ts:List Nat} {r:List PI} {F:List Ft} {t E:TypeId} {parts:Array (Nat × Operand)} {l:List (Nat × V)} {cs:List V} {rest:List Oper} {α:Type}
theorem XL (f:α→List D) (es:List α) [hS:Sl Γ.P t E z bytes] (hop:o.op=.buildSlice t len parts) (hl:evs sl parts.toList=some l) (hf:Z8 z 0 l=some cs) (hn:(parts.size == len && Nat.ble (len * z) 16777216 && Nat.ble len 16777216)=true) (hd':(es.flatMap f).map V.d=cs) (hlen:es.length=len)
   (hg:o.guard=none) (hd:o.dst=some d) (hdl:Nat.blt d Γ.nt=true) (hk:WL Γ ops rest k ⟨(d,.d (lst f es))::sl,hp⟩):WL Γ ops (o::rest) k ⟨sl,hp⟩:=by
 subst hlen
 exact Zq8 (ZsQ hop hl hf hn hd') hg hd hdl (Q5 _ _) (by rintro _ _ ⟨rfl,rfl⟩; exact hk)
theorem Zdv (f:α→List D) (es:List α) [hS:Sl Γ.P t E z bytes] (hop:o.op=.buildSlice t len parts) (hl:evs (keep ts sl) parts.toList=some l) (hf:Z8 z 0 l=some cs) (hn:(parts.size == len && Nat.ble (len * z) 16777216 && Nat.ble len 16777216)=true) (hd':(es.flatMap f).map V.d=cs) (hlen:es.length=len)
   (hd:o.dst=some d) (hw:Wt ops o (keep ts sl) true) (hdl:Nat.blt d Γ.nt=true) (hfo:okF ⟨⟨i,an,ts⟩,[],[],0,0⟩ F=true) (hk:WD Γ ops k r (⟨⟨i,an,ts⟩,[],[],0,0⟩::F) ⟨(d,.d (lst f es))::sl,hp⟩):WO Γ ops k o i an ts r F ⟨sl,hp⟩:=by
 subst hlen
 exact Zq7 (h:=[]) (ZsQ hop hl hf hn hd') hd hw hdl rfl (Q5 _ _) hfo hk
end
def unI:List V→Option (List Int)
 | []=>some []
 | .d (.c (.int .i64 a))::r=>(unI r).map (a::·)
 | _::_=>none
theorem Zhb:∀ {cs:List V} {es:List Int},unI cs=some es→(es.flatMap dsI).map V.d=cs
 | [],es,h=>by simp only [unI,Option.some.injEq] at h; subst h; rfl
 | v::r,es,h=>by
  unfold unI at h
  split at h
  ·rename_i e; cases e
  ·rename_i e
   cases e
   cases hr:unI r with
   | none=>rw [hr] at h; cases h
   | some l=>rw [hr] at h; simp only [Option.map_some,Option.some.injEq] at h; subst h; simp [dsI,Zhb hr]
  ·cases h
section
variable {Γ:Cx} {k:Zbw} {sl:List (Nat × V)} {hp:Hp} {o:Oper} {ops:Array Oper} {i an d z bytes len:Nat} {ts:List Nat} {r:List PI} {F:List Ft} {t E:TypeId} {parts:Array (Nat × Operand)} {l:List (Nat × V)} {cs:List V} {rest:List Oper} {es:List Int}
theorem Zua [hS:Sl Γ.P t E z bytes] (hop:o.op=.buildSlice t len parts) (hl:evs sl parts.toList=some l) (hf:Z8 z 0 l=some cs) (hn:(parts.size == len && Nat.ble (len * z) 16777216 && Nat.ble len 16777216)=true) (hd':unI cs=some es) (hlen:es.length=len)
 (hg:o.guard=none) (hd:o.dst=some d) (hdl:Nat.blt d Γ.nt=true) (hk:WL Γ ops rest k ⟨(d,.d (ZuR es))::sl,hp⟩):WL Γ ops (o::rest) k ⟨sl,hp⟩:=XL dsI es hop hl hf hn (Zhb hd') hlen hg hd hdl hk
theorem ZtO [hS:Sl Γ.P t E z bytes] (hop:o.op=.buildSlice t len parts) (hl:evs (keep ts sl) parts.toList=some l) (hf:Z8 z 0 l=some cs) (hn:(parts.size == len && Nat.ble (len * z) 16777216 && Nat.ble len 16777216)=true) (hd':unI cs=some es) (hlen:es.length=len)
 (hd:o.dst=some d) (hw:Wt ops o (keep ts sl) true) (hdl:Nat.blt d Γ.nt=true) (hfo:okF ⟨⟨i,an,ts⟩,[],[],0,0⟩ F=true) (hk:WD Γ ops k r (⟨⟨i,an,ts⟩,[],[],0,0⟩::F) ⟨(d,.d (ZuR es))::sl,hp⟩):WO Γ ops k o i an ts r F ⟨sl,hp⟩:=Zdv dsI es hop hl hf hn (Zhb hd') hlen hd hw hdl hfo hk
end
class Eqs (P:Program) (T:TypeId) (vs us:List Value) (b:outParam Bool):Prop where
 g:P.eqGuardType P.depth T=false
 out:∀ w,(Op.equalIn 10000 T (.agg vs.toArray) (.agg us.toArray)).run P w=.ok b w
section
variable {P:Program} {o:Oper} {H:Hp} {sl:List (Nat × V)} {x y:Operand} {T U:TypeId} {xs ys:List V} {vs us:List Value} {b:Bool}
theorem Zpi (hop:o.op=.binOp .eql T x y U) (hx:ev sl x=some (.a xs)) (hy:ev sl y=some (.a ys)) (hc:ccV xs=some vs) (hc':ccV ys=some us) (hq:Eqs P T vs us b):OpD P o H sl 0 0 (vB b) []:=Zu4 hop hx hy hc hc' hq.g hq.out
theorem Zpq (hop:o.op=.binOp .neq T x y U) (hx:ev sl x=some (.a xs)) (hy:ev sl y=some (.a ys)) (hc:ccV xs=some vs) (hc':ccV ys=some us) (hq:Eqs P T vs us b):OpD P o H sl 0 0 (vB (!b)) []:=Zvj hop hx hy hc hc' hq.g hq.out
end
section
variable {P:Program} {o:Oper} {H:Hp} {sl:List (Nat × V)} {x:Operand} {t E:TypeId} {z bytes:Nat}
theorem Zeo {α:Type} {f:α→List D} {lo hi:Option Operand} {il ih:Int} {xs ys:List α} [hS:Sl P t E z bytes] (hop:o.op=.slice t x lo hi none) (hx:ev sl x=some (.d (lst f xs))) (hlo:evo sl 0 lo=some (vI il)) (hhi:evo sl (xs.length:Int) hi=some (vI ih)) (h0:0≤il) (h1:il≤ih) (h2:ih≤xs.length) (hf:∀ a,(f a).length=z) (hd:(xs.drop il.toNat).take (ih.toNat - il.toNat)=ys):OpD P o H sl 0 0 (.d (lst f ys)) [] :=
 ZnL (il:=il.toNat) (ih:=ih.toNat) hop hx (by rw [hlo,Int.toNat_of_nonneg h0]) (by rw [hhi,Int.toNat_of_nonneg (by omega)]) (by omega) (by omega) hf hd
end
section
variable {P:Program} {o:Oper} {H:Hp} {sl:List (Nat × V)} {x y:Operand} {t:TypeId} {s s':ByteArray}
theorem ZpW {s:ByteArray} {m:Nat} (h:m<s.size):s[m]?=some (s.get! m):=by
 have:s[m]?=some s[m]:=by simp [h]
 rw [this]
 congr 1
 simp [ByteArray.get!,ByteArray.getElem_eq_getElem_data,h]
theorem Zeq {i:Int} (hop:o.op=.index t x y) (hx:ev sl x=some (vS s)) (hy:ev sl y=some (vI i)) (ht:P.underlying t=some .string) (h0:0≤i) (h1:i<s.size):OpD P o H sl 0 0 (.d (.c (.int .u8 (s.get! i.toNat).toNat))) [] :=
 ZnU hop hx hy ht (Int.toNat_of_nonneg h0).symm (ZpW (by omega))
theorem Zek {lo hi:Option Operand} {il ih:Int} (hop:o.op=.slice t x lo hi none) (hx:ev sl x=some (vS s)) (ht:P.underlying t=some .string) (hlo:evo sl 0 lo=some (vI il)) (hhi:evo sl (s.size:Int) hi=some (vI ih)) (h0:0≤il) (h1:il≤ih) (h2:ih≤s.size) (hd:s.extract il.toNat ih.toNat=s'):OpD P o H sl 0 0 (vS s') []:=by
 subst hd
 exact ZnD hop hx ht (by rw [hlo,Int.toNat_of_nonneg h0]) (by rw [hhi,Int.toNat_of_nonneg (by omega)]) (by omega) (by omega)
end
theorem wu8 {a:Int} (h1:0≤a) (h2:a≤255):IntKind.u8.wrap a=a:=by
 simp [IntKind.wrap,IntKind.bits,IntKind.signed]; omega
theorem Zuv {a:Int} (h1 : -2147483648≤a) (h2:a≤2147483647):IntKind.i32.wrap a=a:=by
 simp [IntKind.wrap,IntKind.bits,IntKind.signed]; split <;> omega
section
variable {Γ:Cx} {k:Zbw} {st:St} {ops:Array Oper} {rest:List Oper} {d:Option Tmp} {ty:TypeId} {ps:String} {af:Array Edge} {g:Option (Nat × Bool)} {gg:Nat × Bool} {T T':TypeId} {x y z:Operand} {n i an:Nat} {bo:BinOp} {uo:UnOp} {bb:Builtin} {xs:Array Operand} {ts:Array TypeId} {pa:Array (Nat × Operand)} {tl:List Nat} {r:List PI} {F:List Ft} {o:Oper} {c:Code} {e:Exit} {op:Op}
theorem ZwS {q:Prop} (h:q→WC Γ c k st):q→WC Γ c k st:=h
theorem ZvX {q:Prop} (h:q→WK Γ k e st):q→WK Γ k e st:=h
theorem Zwb {q:Prop} (h:q→WL Γ ops rest k st):q→WL Γ ops rest k st:=h
theorem Zv6 {q:Prop} (h:q→WO Γ ops k o i an tl r F st):q→WO Γ ops k o i an tl r F st:=h
theorem Zv7 {q:Prop} (h:q→WL Γ ops (⟨d,op,ty,ps,af,some gg⟩::rest) k st):q→WL Γ ops (⟨d,op,ty,ps,af,some gg⟩::rest) k st:=h
theorem Zts {q:Prop} (h:q→WL Γ ops (⟨d,.load T x,ty,ps,af,g⟩::rest) k st):q→WL Γ ops (⟨d,.load T x,ty,ps,af,g⟩::rest) k st:=h
theorem Ztp {q:Prop} (h:q→WO Γ ops k ⟨d,.load T x,ty,ps,af,g⟩ i an tl r F st):q→WO Γ ops k ⟨d,.load T x,ty,ps,af,g⟩ i an tl r F st:=h
theorem Zs0 {q:Prop} (h:q→WL Γ ops (⟨d,.fieldAddr T x n,ty,ps,af,g⟩::rest) k st):q→WL Γ ops (⟨d,.fieldAddr T x n,ty,ps,af,g⟩::rest) k st:=h
theorem ZsB {q:Prop} (h:q→WO Γ ops k ⟨d,.fieldAddr T x n,ty,ps,af,g⟩ i an tl r F st):q→WO Γ ops k ⟨d,.fieldAddr T x n,ty,ps,af,g⟩ i an tl r F st:=h
theorem Zs9 {q:Prop} (h:q→WL Γ ops (⟨d,.move x,ty,ps,af,g⟩::rest) k st):q→WL Γ ops (⟨d,.move x,ty,ps,af,g⟩::rest) k st:=h
theorem Zs1 {q:Prop} (h:q→WO Γ ops k ⟨d,.move x,ty,ps,af,g⟩ i an tl r F st):q→WO Γ ops k ⟨d,.move x,ty,ps,af,g⟩ i an tl r F st:=h
theorem Zs3 {q:Prop} (h:q→WL Γ ops (⟨d,.assign x,ty,ps,af,g⟩::rest) k st):q→WL Γ ops (⟨d,.assign x,ty,ps,af,g⟩::rest) k st:=h
theorem ZsE {q:Prop} (h:q→WO Γ ops k ⟨d,.assign x,ty,ps,af,g⟩ i an tl r F st):q→WO Γ ops k ⟨d,.assign x,ty,ps,af,g⟩ i an tl r F st:=h
theorem ZsZ {q:Prop} (h:q→WL Γ ops (⟨d,.pick x y z,ty,ps,af,g⟩::rest) k st):q→WL Γ ops (⟨d,.pick x y z,ty,ps,af,g⟩::rest) k st:=h
theorem Zte {q:Prop} (h:q→WO Γ ops k ⟨d,.pick x y z,ty,ps,af,g⟩ i an tl r F st):q→WO Γ ops k ⟨d,.pick x y z,ty,ps,af,g⟩ i an tl r F st:=h
theorem Zs8 {q:Prop} (h:q→WL Γ ops (⟨d,.binOp bo T x y T',ty,ps,af,g⟩::rest) k st):q→WL Γ ops (⟨d,.binOp bo T x y T',ty,ps,af,g⟩::rest) k st:=h
theorem ZsM {q:Prop} (h:q→WO Γ ops k ⟨d,.binOp bo T x y T',ty,ps,af,g⟩ i an tl r F st):q→WO Γ ops k ⟨d,.binOp bo T x y T',ty,ps,af,g⟩ i an tl r F st:=h
theorem Ztq {q:Prop} (h:q→WL Γ ops (⟨d,.unOp uo T x,ty,ps,af,g⟩::rest) k st):q→WL Γ ops (⟨d,.unOp uo T x,ty,ps,af,g⟩::rest) k st:=h
theorem ZsV {q:Prop} (h:q→WO Γ ops k ⟨d,.unOp uo T x,ty,ps,af,g⟩ i an tl r F st):q→WO Γ ops k ⟨d,.unOp uo T x,ty,ps,af,g⟩ i an tl r F st:=h
theorem ZsC {q:Prop} (h:q→WL Γ ops (⟨d,.call { callee:=.builtin bb,args:=xs,argTypes:=ts },ty,ps,af,g⟩::rest) k st):q→WL Γ ops (⟨d,.call { callee:=.builtin bb,args:=xs,argTypes:=ts },ty,ps,af,g⟩::rest) k st:=h
theorem ZsD {q:Prop} (h:q→WO Γ ops k ⟨d,.call { callee:=.builtin bb,args:=xs,argTypes:=ts },ty,ps,af,g⟩ i an tl r F st):q→WO Γ ops k ⟨d,.call { callee:=.builtin bb,args:=xs,argTypes:=ts },ty,ps,af,g⟩ i an tl r F st:=h
theorem Zvo {q:Prop} (h:q→WL Γ ops (⟨d,.call { callee:=.value x,args:=xs,argTypes:=ts },ty,ps,af,g⟩::rest) k st):q→WL Γ ops (⟨d,.call { callee:=.value x,args:=xs,argTypes:=ts },ty,ps,af,g⟩::rest) k st:=h
theorem Zvt {q:Prop} (h:q→WO Γ ops k ⟨d,.call { callee:=.value x,args:=xs,argTypes:=ts },ty,ps,af,g⟩ i an tl r F st):q→WO Γ ops k ⟨d,.call { callee:=.value x,args:=xs,argTypes:=ts },ty,ps,af,g⟩ i an tl r F st:=h
theorem Zth {q:Prop} (h:q→WL Γ ops (⟨d,.store T x y,ty,ps,af,g⟩::rest) k st):q→WL Γ ops (⟨d,.store T x y,ty,ps,af,g⟩::rest) k st:=h
theorem Zs5 {q:Prop} (h:q→WO Γ ops k ⟨d,.store T x y,ty,ps,af,g⟩ i an tl r F st):q→WO Γ ops k ⟨d,.store T x y,ty,ps,af,g⟩ i an tl r F st:=h
theorem Zto {q:Prop} (h:q→WL Γ ops (⟨d,.alloc T,ty,ps,af,g⟩::rest) k st):q→WL Γ ops (⟨d,.alloc T,ty,ps,af,g⟩::rest) k st:=h
theorem ZsI {q:Prop} (h:q→WO Γ ops k ⟨d,.alloc T,ty,ps,af,g⟩ i an tl r F st):q→WO Γ ops k ⟨d,.alloc T,ty,ps,af,g⟩ i an tl r F st:=h
theorem Zs2 {q:Prop} (h:q→WL Γ ops (⟨d,.box T x,ty,ps,af,g⟩::rest) k st):q→WL Γ ops (⟨d,.box T x,ty,ps,af,g⟩::rest) k st:=h
theorem ZsP {q:Prop} (h:q→WO Γ ops k ⟨d,.box T x,ty,ps,af,g⟩ i an tl r F st):q→WO Γ ops k ⟨d,.box T x,ty,ps,af,g⟩ i an tl r F st:=h
theorem Ztr {q:Prop} (h:q→WL Γ ops (⟨d,.extract x n,ty,ps,af,g⟩::rest) k st):q→WL Γ ops (⟨d,.extract x n,ty,ps,af,g⟩::rest) k st:=h
theorem ZsF {q:Prop} (h:q→WO Γ ops k ⟨d,.extract x n,ty,ps,af,g⟩ i an tl r F st):q→WO Γ ops k ⟨d,.extract x n,ty,ps,af,g⟩ i an tl r F st:=h
theorem ZuW {q:Prop} (h:q→WL Γ ops (⟨d,.indexAddr T x y,ty,ps,af,g⟩::rest) k st):q→WL Γ ops (⟨d,.indexAddr T x y,ty,ps,af,g⟩::rest) k st:=h
theorem Zu3 {q:Prop} (h:q→WO Γ ops k ⟨d,.indexAddr T x y,ty,ps,af,g⟩ i an tl r F st):q→WO Γ ops k ⟨d,.indexAddr T x y,ty,ps,af,g⟩ i an tl r F st:=h
theorem Zve {q:Prop} (h:q→WL Γ ops (⟨d,.buildSlice T n pa,ty,ps,af,g⟩::rest) k st):q→WL Γ ops (⟨d,.buildSlice T n pa,ty,ps,af,g⟩::rest) k st:=h
theorem Zvk {q:Prop} (h:q→WO Γ ops k ⟨d,.buildSlice T n pa,ty,ps,af,g⟩ i an tl r F st):q→WO Γ ops k ⟨d,.buildSlice T n pa,ty,ps,af,g⟩ i an tl r F st:=h
theorem ZsS {q:Prop} (h:q→WL Γ ops (⟨d,.build T pa,ty,ps,af,g⟩::rest) k st):q→WL Γ ops (⟨d,.build T pa,ty,ps,af,g⟩::rest) k st:=h
theorem Ztd {q:Prop} (h:q→WO Γ ops k ⟨d,.build T pa,ty,ps,af,g⟩ i an tl r F st):q→WO Γ ops k ⟨d,.build T pa,ty,ps,af,g⟩ i an tl r F st:=h
end
theorem sw {g h:Prop} (k:h) (f:h→g:=by (first | (apply ZvX; first | exact ZqX | exact Zgo | exact ZkR | exact Zgm | exact Ziq | exact Zkz | exact Zgj | exact Zgp rfl | exact Zin | exact ZkF | exact Zkw) | (apply ZwS; first | exact Zg | exact Zaf | exact Zq | exact ZdA | exact Zcd | exact XM | exact Xi rfl | exact Yi rfl) | (apply Zwb; first | (apply Zv7; first | exact ZsK rfl rfl rfl | exact ZqM rfl rfl rfl rfl rfl rfl rfl | exact ZsO rfl rfl rfl rfl rfl rfl) | exact ZqS | (apply Zs9; first | exact ZJ (Zj2 rfl rfl) rfl rfl rfl) | (apply Zs3; first | exact ZJ (Ze9 rfl rfl) rfl rfl rfl) | (apply Zts; first | exact ZJ (o_load rfl rfl rfl (by exact inferInstance) rfl (by simp only [Qd,stV,Zn,ldC,ldE,cond_true,cond_false,List.map_cons,List.map_nil,List.drop_zero,List.drop_succ_cons,List.take_succ_cons,List.take_zero,List.getElem?_cons_zero,List.getElem?_cons_succ,Nat.reduceAdd,Option.map_some]; exact rfl)) rfl rfl rfl | exact ZJ (ZgV rfl rfl (by exact inferInstance) rfl (by simp only [Qd,stV,Zn,ldC,ldE,cond_true,cond_false,List.map_cons,List.map_nil,List.drop_zero,List.drop_succ_cons,List.take_succ_cons,List.take_zero,List.getElem?_cons_zero,List.getElem?_cons_succ,Nat.reduceAdd,Option.map_some]; exact rfl)) rfl rfl rfl | exact ZJ (ZgT rfl rfl rfl (by exact inferInstance) rfl (by simp only [Qd,stV,Zn,ldC,ldE,cond_true,cond_false,List.map_cons,List.map_nil,List.drop_zero,List.drop_succ_cons,List.take_succ_cons,List.take_zero,List.getElem?_cons_zero,List.getElem?_cons_succ,Nat.reduceAdd,Option.map_some]; exact rfl)) rfl rfl rfl) | (apply Zs0; first | exact ZJ (Zuj rfl rfl) rfl rfl rfl | exact ZJ (Zo8 rfl rfl (by first | (simp only [List.drop_zero,List.drop_succ_cons]; exact rfl) | (conv=>lhs; whnf))) rfl rfl rfl | exact ZJ (Zpc rfl rfl) rfl rfl rfl) | (apply ZsZ; first | exact ZJ (Zj9 rfl rfl rfl) rfl rfl rfl) | (apply Zs8; first | exact ZJ (Zpa rfl rfl rfl) rfl rfl rfl | exact ZJ (ZpD rfl rfl rfl) rfl rfl rfl | exact ZJ (ZpC rfl rfl rfl) rfl rfl rfl | exact ZJ (Zpp rfl rfl rfl) rfl rfl rfl | exact ZJ (Zpf rfl rfl rfl) rfl rfl rfl | exact ZJ (Zpt rfl rfl rfl) rfl rfl rfl | exact ZJ (Zpn rfl rfl rfl) rfl rfl rfl | exact ZJ (Zpm rfl rfl rfl) rfl rfl rfl | exact ZJ (Zpd rfl rfl rfl) rfl rfl rfl | exact ZJ (ZpA rfl rfl rfl) rfl rfl rfl | exact ZJ (Zpl rfl rfl rfl) rfl rfl rfl | exact ZJ (Zpb rfl rfl rfl) rfl rfl rfl | exact ZJ (YJ rfl rfl rfl (w64 (by omega) (by omega))) rfl rfl rfl | exact ZJ (YJ rfl rfl rfl (wu8 (by omega) (by omega))) rfl rfl rfl | exact ZJ (YJ rfl rfl rfl (Zuv (by omega) (by omega))) rfl rfl rfl | exact ZJ (ZhO rfl rfl rfl (w64 (by omega) (by omega))) rfl rfl rfl | exact ZJ (ZhO rfl rfl rfl (wu8 (by omega) (by omega))) rfl rfl rfl | exact ZJ (ZhO rfl rfl rfl (Zuv (by omega) (by omega))) rfl rfl rfl | exact ZJ (Zpz rfl rfl rfl (by kernel_rfl)) rfl rfl rfl | exact ZJ (Zpy rfl rfl rfl (by kernel_rfl)) rfl rfl rfl | exact ZJ (Zpe rfl rfl rfl (w64 (by omega) (by omega))) rfl rfl rfl | exact ZJ (Zri rfl rfl rfl (by omega) rfl) rfl rfl rfl | exact ZJ (Zrn rfl rfl rfl (by omega) (w64 (by omega) (by omega))) rfl rfl rfl | exact ZJ (ZmV rfl rfl rfl (by omega)) rfl rfl rfl | exact ZJ (Zpi rfl rfl rfl (by simp only [ccV,Option.map_some]; exact rfl) (by simp only [ccV,Option.map_some]; exact rfl) (by exact inferInstance)) rfl rfl rfl | exact ZJ (Zpq rfl rfl rfl (by simp only [ccV,Option.map_some]; exact rfl) (by simp only [ccV,Option.map_some]; exact rfl) (by exact inferInstance)) rfl rfl rfl) | (apply Ztq; first | exact ZJ (Zo9 rfl rfl) rfl rfl rfl) | (apply Ztr; first | exact ZJ (ZdM rfl rfl rfl) rfl rfl rfl) | (apply ZsS; first | exact ZJ (Zg7 rfl rfl rfl (by simp only [Qd,stV,Zn,ldC,ldE,cond_true,cond_false,List.map_cons,List.map_nil,List.drop_zero,List.drop_succ_cons,List.take_succ_cons,List.take_zero,List.getElem?_cons_zero,List.getElem?_cons_succ,Nat.reduceAdd,Option.map_some]; exact rfl)) rfl rfl rfl | exact ZJ (Zfd rfl rfl rfl (by simp only [Qd,stV,Zn,ldC,ldE,cond_true,cond_false,List.map_cons,List.map_nil,List.drop_zero,List.drop_succ_cons,List.take_succ_cons,List.take_zero,List.getElem?_cons_zero,List.getElem?_cons_succ,Nat.reduceAdd,Option.map_some]; exact rfl)) rfl rfl rfl) | (apply ZuW; first | exact ZJ (ZmB rfl rfl rfl Len.len rfl (by omega) (by first | (simp only [Rng.ds,Kv.ds,dsI]; exact rfl) | exact rfl)) rfl rfl rfl | exact ZJ (ZmB rfl rfl rfl Len.len (Int.toNat_of_nonneg (by omega)).symm (by omega) (by first | (simp only [Rng.ds,Kv.ds,dsI]; exact rfl) | exact rfl)) rfl rfl rfl | exact ZJ (Zrh rfl rfl (by exact inferInstance) (by exact inferInstance) (Int.toNat_of_nonneg (by omega)).symm (by omega)) rfl rfl rfl) | (apply Zvo; exact ZuY rfl rfl rfl (by repeat (first | exact Vws.nil | apply Vws.cons | exact Vw.nil | exact Vw.d _ | exact Vw.q _ | apply Vw.a)) (by exact inferInstance) (by first | exact trivial | omega | assumption | exact ⟨ZcL _,by omega⟩ | exact ⟨by decide,by omega⟩ | (simp only [List.length_append,List.length_take,List.length_drop,List.length_cons,List.length_nil]; omega)) (by simp only [V.ren,V.rens]; exact rfl) rfl rfl rfl rfl) | (apply ZsC; first | exact ZJ (ZgS rfl rfl) rfl rfl rfl | exact ZJ (Zjs rfl rfl rfl) rfl rfl rfl | exact ZJ (Zg3 rfl rfl (by kernel_rfl)) rfl rfl rfl | exact ZJ (ZgR rfl rfl) rfl rfl rfl | exact ZJ (ZgL rfl rfl) rfl rfl rfl | exact ZJ (Zps rfl rfl rfl) rfl rfl rfl | exact ZJ (Zo7 rfl rfl rfl) rfl rfl rfl | exact Zmg (Zdo rfl rfl (by simp only [Nat.reduceAdd]; exact rfl) rfl rfl Len.len (by first | omega | (simp only [List.length_append,List.length_take,List.length_drop,List.length_cons,List.length_nil]; omega)) (by first | omega | (simp only [List.length_append,List.length_take,List.length_drop,List.length_cons,List.length_nil]; omega))) rfl rfl rfl rfl | exact Zv3 (Zgy rfl rfl (by simp only [Nat.reduceAdd]; exact rfl) rfl rfl rfl Len.len (by first | omega | (simp only [List.length_append,List.length_take,List.length_drop,List.length_cons,List.length_nil]; omega)) (by first | omega | (simp only [List.length_append,List.length_take,List.length_drop,List.length_cons,List.length_nil]; omega)) rfl) rfl rfl rfl rfl) | (apply Zth; exact Zoz (lo:=0) (nn:=0) (Zjj rfl rfl rfl rfl (by exact inferInstance) rfl (by simp only [Qd,stV,Zn,ldC,ldE,cond_true,cond_false,List.map_cons,List.map_nil,List.drop_zero,List.drop_succ_cons,List.take_succ_cons,List.take_zero,List.getElem?_cons_zero,List.getElem?_cons_succ,Nat.reduceAdd,Option.map_some]; exact rfl)) rfl rfl (Q5 _ _)) | (apply Zto; exact Zmg (ZgK rfl rfl (by simp only [Nat.reduceAdd]; exact rfl) (by exact Yb.out) rfl rfl) rfl rfl rfl rfl) | (apply Zs2; exact Zmg (ZpB rfl rfl (by simp only [Nat.reduceAdd]; exact rfl) rfl rfl (by simp only [Zn]; exact rfl)) rfl rfl rfl rfl) | (apply Zve; first | exact Zua rfl rfl (by simp only [Z8,Zn,List.cons_append,List.nil_append,List.append_nil]; exact rfl) rfl (by simp only [unI,Option.map_some]; exact rfl) rfl rfl rfl rfl | exact Zmg (ZuS rfl rfl (by simp only [Nat.reduceAdd]; exact rfl) rfl (by simp only [Z8,Zn,List.cons_append,List.nil_append,List.append_nil]; exact rfl) rfl) rfl rfl rfl rfl) | exact ZJ (Zg0 rfl rfl rfl (by simp only [Qd,stV,Zn,ldC,ldE,cond_true,cond_false,List.map_cons,List.map_nil,List.drop_zero,List.drop_succ_cons,List.take_succ_cons,List.take_zero,List.getElem?_cons_zero,List.getElem?_cons_succ,Nat.reduceAdd,Option.map_some]; exact rfl)) rfl rfl rfl | exact ZJ (Zka rfl rfl) rfl rfl rfl | exact ZJ (ZkM (z:=.nilFunc) rfl rfl rfl (by exact inferInstance) (by kernel_rfl) (by kernel_rfl) rfl rfl) rfl rfl rfl | exact ZJ (Zpo rfl rfl rfl (by kernel_rfl) (by first | exact rfl | assumption)) rfl rfl rfl | exact ZJ (Zpx rfl rfl (by kernel_rfl) (by kernel_rfl) rfl) rfl rfl rfl | exact ZJ (Zpk rfl rfl (w64 (by omega) (by omega))) rfl rfl rfl | exact ZJ (Zeo rfl rfl rfl rfl (by omega) (by omega) (by omega) Len.len rfl) rfl rfl rfl | exact ZJ (Zeq rfl rfl rfl (by kernel_rfl) (by omega) (by omega)) rfl rfl rfl | exact ZJ (Zek rfl rfl (by kernel_rfl) rfl rfl (by omega) (by omega) (by omega) rfl) rfl rfl rfl | exact ZJ (Zpx (k2:=.i64) rfl rfl (by kernel_rfl) (by kernel_rfl) (w64 (by omega) (by omega))) rfl rfl rfl | exact ZJ (ZfG rfl rfl rfl (by exact inferInstance) (by exact inferInstance) (by omega) (by omega) rfl) rfl rfl rfl | exact Zmg (Zr0 rfl rfl (by simp only [Nat.reduceAdd]; exact rfl)) rfl rfl rfl rfl | exact Zoz (lo:=0) (nn:=0) (ZpS rfl rfl rfl rfl rfl (by exact inferInstance) (by kernel_rfl) rfl) rfl rfl (Q5 _ _) | exact Zmg (Zsa rfl rfl (by simp only [Nat.reduceAdd]; exact rfl) rfl (by kernel_rfl)) rfl rfl rfl rfl | exact Zmg (lo:=0) (nn:=0) (ZpJ rfl rfl rfl (by assumption) (by assumption)) rfl rfl rfl (Q5 _ _) | exact ZJ (ZpT rfl rfl rfl (by assumption)) rfl rfl rfl) | (apply Zv6; first | exact Zv2 rfl rfl (by first | exact .n rfl rfl rfl rfl rfl | exact .u rfl rfl rfl rfl) (hf:=rfl) | (apply Zs1; first | exact Ye [] (Zj2 rfl rfl) rfl (by first | exact .no rfl | exact .y rfl rfl rfl rfl) rfl rfl) | (apply ZsE; first | exact Ye [] (Ze9 rfl rfl) rfl (by first | exact .no rfl | exact .y rfl rfl rfl rfl) rfl rfl) | (apply Ztp; first | exact Ye [] (ZgV rfl rfl (by exact inferInstance) rfl (by simp only [Qd,stV,Zn,ldC,ldE,cond_true,cond_false,List.map_cons,List.map_nil,List.drop_zero,List.drop_succ_cons,List.take_succ_cons,List.take_zero,List.getElem?_cons_zero,List.getElem?_cons_succ,Nat.reduceAdd,Option.map_some]; exact rfl)) rfl (by first | exact .no rfl | exact .y rfl rfl rfl rfl) rfl rfl | exact Ztl rfl rfl rfl (by exact inferInstance) rfl (by simp only [Qd,stV,Zn,ldC,ldE,cond_true,cond_false,List.map_cons,List.map_nil,List.drop_zero,List.drop_succ_cons,List.take_succ_cons,List.take_zero,List.getElem?_cons_zero,List.getElem?_cons_succ,Nat.reduceAdd,Option.map_some]; exact rfl) rfl (by first | exact .no rfl | exact .y rfl rfl rfl rfl) rfl rfl | exact Zq3 rfl rfl rfl (by exact inferInstance) rfl (by simp only [Qd,stV,Zn,ldC,ldE,cond_true,cond_false,List.map_cons,List.map_nil,List.drop_zero,List.drop_succ_cons,List.take_succ_cons,List.take_zero,List.getElem?_cons_zero,List.getElem?_cons_succ,Nat.reduceAdd,Option.map_some]; exact rfl) rfl (by first | exact .no rfl | exact .y rfl rfl rfl rfl) rfl rfl) | (apply ZsB; first | exact Ye [] (Zuj rfl rfl) rfl (by first | exact .no rfl | exact .y rfl rfl rfl rfl) rfl rfl | exact Ye [] (Zo8 rfl rfl (by first | (simp only [List.drop_zero,List.drop_succ_cons]; exact rfl) | (conv=>lhs; whnf))) rfl (by first | exact .no rfl | exact .y rfl rfl rfl rfl) rfl rfl | exact Ye [] (Zpc rfl rfl) rfl (by first | exact .no rfl | exact .y rfl rfl rfl rfl) rfl rfl) | (apply Zte; first | exact Ye [] (Zj9 rfl rfl rfl) rfl (by first | exact .no rfl | exact .y rfl rfl rfl rfl) rfl rfl) | (apply ZsM; first | exact Ye [] (Zpa rfl rfl rfl) rfl (by first | exact .no rfl | exact .y rfl rfl rfl rfl) rfl rfl | exact Ye [] (ZpD rfl rfl rfl) rfl (by first | exact .no rfl | exact .y rfl rfl rfl rfl) rfl rfl | exact Ye [] (ZpC rfl rfl rfl) rfl (by first | exact .no rfl | exact .y rfl rfl rfl rfl) rfl rfl | exact Ye [] (Zpp rfl rfl rfl) rfl (by first | exact .no rfl | exact .y rfl rfl rfl rfl) rfl rfl | exact Ye [] (Zpf rfl rfl rfl) rfl (by first | exact .no rfl | exact .y rfl rfl rfl rfl) rfl rfl | exact Ye [] (Zpt rfl rfl rfl) rfl (by first | exact .no rfl | exact .y rfl rfl rfl rfl) rfl rfl | exact Ye [] (Zpn rfl rfl rfl) rfl (by first | exact .no rfl | exact .y rfl rfl rfl rfl) rfl rfl | exact Ye [] (Zpm rfl rfl rfl) rfl (by first | exact .no rfl | exact .y rfl rfl rfl rfl) rfl rfl | exact Ye [] (Zpd rfl rfl rfl) rfl (by first | exact .no rfl | exact .y rfl rfl rfl rfl) rfl rfl | exact Ye [] (ZpA rfl rfl rfl) rfl (by first | exact .no rfl | exact .y rfl rfl rfl rfl) rfl rfl | exact Ye [] (Zpl rfl rfl rfl) rfl (by first | exact .no rfl | exact .y rfl rfl rfl rfl) rfl rfl | exact Ye [] (Zpb rfl rfl rfl) rfl (by first | exact .no rfl | exact .y rfl rfl rfl rfl) rfl rfl | exact Ye [] (YJ rfl rfl rfl (w64 (by omega) (by omega))) rfl (by first | exact .no rfl | exact .y rfl rfl rfl rfl) rfl rfl | exact Ye [] (YJ rfl rfl rfl (wu8 (by omega) (by omega))) rfl (by first | exact .no rfl | exact .y rfl rfl rfl rfl) rfl rfl | exact Ye [] (YJ rfl rfl rfl (Zuv (by omega) (by omega))) rfl (by first | exact .no rfl | exact .y rfl rfl rfl rfl) rfl rfl | exact Ye [] (ZhO rfl rfl rfl (w64 (by omega) (by omega))) rfl (by first | exact .no rfl | exact .y rfl rfl rfl rfl) rfl rfl | exact Ye [] (ZhO rfl rfl rfl (wu8 (by omega) (by omega))) rfl (by first | exact .no rfl | exact .y rfl rfl rfl rfl) rfl rfl | exact Ye [] (ZhO rfl rfl rfl (Zuv (by omega) (by omega))) rfl (by first | exact .no rfl | exact .y rfl rfl rfl rfl) rfl rfl | exact Ye [] (Zpz rfl rfl rfl (by kernel_rfl)) rfl (by first | exact .no rfl | exact .y rfl rfl rfl rfl) rfl rfl | exact Ye [] (Zpy rfl rfl rfl (by kernel_rfl)) rfl (by first | exact .no rfl | exact .y rfl rfl rfl rfl) rfl rfl | exact Ye [] (Zpe rfl rfl rfl (w64 (by omega) (by omega))) rfl (by first | exact .no rfl | exact .y rfl rfl rfl rfl) rfl rfl | exact Ye [] (Zri rfl rfl rfl (by omega) rfl) rfl (by first | exact .no rfl | exact .y rfl rfl rfl rfl) rfl rfl | exact Ye [] (Zrn rfl rfl rfl (by omega) (w64 (by omega) (by omega))) rfl (by first | exact .no rfl | exact .y rfl rfl rfl rfl) rfl rfl | exact Ye [] (ZmV rfl rfl rfl (by omega)) rfl (by first | exact .no rfl | exact .y rfl rfl rfl rfl) rfl rfl | exact Ye [] (Zpi rfl rfl rfl (by simp only [ccV,Option.map_some]; exact rfl) (by simp only [ccV,Option.map_some]; exact rfl) (by exact inferInstance)) rfl (by first | exact .no rfl | exact .y rfl rfl rfl rfl) rfl rfl | exact Ye [] (Zpq rfl rfl rfl (by simp only [ccV,Option.map_some]; exact rfl) (by simp only [ccV,Option.map_some]; exact rfl) (by exact inferInstance)) rfl (by first | exact .no rfl | exact .y rfl rfl rfl rfl) rfl rfl) | (apply ZsV; first | exact Ye [] (Zo9 rfl rfl) rfl (by first | exact .no rfl | exact .y rfl rfl rfl rfl) rfl rfl) | (apply ZsF; first | exact Ye [] (ZdM rfl rfl rfl) rfl (by first | exact .no rfl | exact .y rfl rfl rfl rfl) rfl rfl) | (apply Ztd; first | exact Ye [] (Zg7 rfl rfl rfl (by simp only [Qd,stV,Zn,ldC,ldE,cond_true,cond_false,List.map_cons,List.map_nil,List.drop_zero,List.drop_succ_cons,List.take_succ_cons,List.take_zero,List.getElem?_cons_zero,List.getElem?_cons_succ,Nat.reduceAdd,Option.map_some]; exact rfl)) rfl (by first | exact .no rfl | exact .y rfl rfl rfl rfl) rfl rfl | exact Ye [] (Zfd rfl rfl rfl (by simp only [Qd,stV,Zn,ldC,ldE,cond_true,cond_false,List.map_cons,List.map_nil,List.drop_zero,List.drop_succ_cons,List.take_succ_cons,List.take_zero,List.getElem?_cons_zero,List.getElem?_cons_succ,Nat.reduceAdd,Option.map_some]; exact rfl)) rfl (by first | exact .no rfl | exact .y rfl rfl rfl rfl) rfl rfl) | (apply Zu3; first | exact Ye [] (ZmB rfl rfl rfl Len.len rfl (by omega) (by first | (simp only [Rng.ds,Kv.ds,dsI]; exact rfl) | exact rfl)) rfl (by first | exact .no rfl | exact .y rfl rfl rfl rfl) rfl rfl | exact Ye [] (ZmB rfl rfl rfl Len.len (Int.toNat_of_nonneg (by omega)).symm (by omega) (by first | (simp only [Rng.ds,Kv.ds,dsI]; exact rfl) | exact rfl)) rfl (by first | exact .no rfl | exact .y rfl rfl rfl rfl) rfl rfl | exact Ye [] (Zrh rfl rfl (by exact inferInstance) (by exact inferInstance) (Int.toNat_of_nonneg (by omega)).symm (by omega)) rfl (by first | exact .no rfl | exact .y rfl rfl rfl rfl) rfl rfl) | (apply ZsD; first | exact Ye [] (ZgS rfl rfl) rfl (by first | exact .no rfl | exact .y rfl rfl rfl rfl) rfl rfl | exact Ye [] (Zg3 rfl rfl (by kernel_rfl)) rfl (by first | exact .no rfl | exact .y rfl rfl rfl rfl) rfl rfl | exact Ye [] (ZgR rfl rfl) rfl (by first | exact .no rfl | exact .y rfl rfl rfl rfl) rfl rfl | exact Ye [] (ZgL rfl rfl) rfl (by first | exact .no rfl | exact .y rfl rfl rfl rfl) rfl rfl | exact Ye [] (Zps rfl rfl rfl) rfl (by first | exact .no rfl | exact .y rfl rfl rfl rfl) rfl rfl | exact Ye [] (Zo7 rfl rfl rfl) rfl (by first | exact .no rfl | exact .y rfl rfl rfl rfl) rfl rfl | exact ZmZ rfl rfl rfl rfl (by first | exact .no rfl | exact .y rfl rfl rfl rfl) rfl rfl | exact Zrc [] (Zdo rfl rfl (by simp only [Nat.reduceAdd]; exact rfl) rfl rfl Len.len (by first | omega | (simp only [List.length_append,List.length_take,List.length_drop,List.length_cons,List.length_nil]; omega)) (by first | omega | (simp only [List.length_append,List.length_take,List.length_drop,List.length_cons,List.length_nil]; omega))) rfl (by first | exact .no rfl | exact .y rfl rfl rfl rfl) rfl rfl rfl | exact ZfJ rfl rfl (by simp only [Nat.reduceAdd]; exact rfl) rfl rfl rfl Len.len (by first | omega | (simp only [List.length_append,List.length_take,List.length_drop,List.length_cons,List.length_nil]; omega)) (by first | omega | (simp only [List.length_append,List.length_take,List.length_drop,List.length_cons,List.length_nil]; omega)) rfl (by first | exact .no rfl | exact .y rfl rfl rfl rfl) rfl rfl rfl) | (apply Zs5; first | exact Ztt rfl rfl rfl rfl (by exact inferInstance) rfl (by simp only [Qd,stV,Zn,ldC,ldE,cond_true,cond_false,List.map_cons,List.map_nil,List.drop_zero,List.drop_succ_cons,List.take_succ_cons,List.take_zero,List.getElem?_cons_zero,List.getElem?_cons_succ,Nat.reduceAdd,Option.map_some]; exact rfl) rfl (by first | exact .no rfl | exact .y rfl rfl rfl rfl) rfl) | (apply ZsI; first | exact Zrc [] (ZgK rfl rfl (by simp only [Nat.reduceAdd]; exact rfl) (by exact Yb.out) rfl rfl) rfl (by first | exact .no rfl | exact .y rfl rfl rfl rfl) rfl rfl rfl) | (apply ZsP; first | exact Zrc [] (ZpB rfl rfl (by simp only [Nat.reduceAdd]; exact rfl) rfl rfl (by simp only [Zn]; exact rfl)) rfl (by first | exact .no rfl | exact .y rfl rfl rfl rfl) rfl rfl rfl) | (apply Zvk; first | exact ZtO rfl rfl (by simp only [Z8,Zn,List.cons_append,List.nil_append,List.append_nil]; exact rfl) rfl (by simp only [unI,Option.map_some]; exact rfl) rfl rfl (by first | exact .no rfl | exact .y rfl rfl rfl rfl) rfl rfl | exact Zrc [] (ZuS rfl rfl (by simp only [Nat.reduceAdd]; exact rfl) rfl (by simp only [Z8,Zn,List.cons_append,List.nil_append,List.append_nil]; exact rfl) rfl) rfl (by first | exact .no rfl | exact .y rfl rfl rfl rfl) rfl rfl rfl) | (apply Zvt; first | exact Zvg rfl rfl rfl (by repeat (first | exact Vws.nil | apply Vws.cons | exact Vw.nil | exact Vw.d _ | exact Vw.q _ | apply Vw.a)) (by exact inferInstance) (by first | exact trivial | omega | assumption | exact ⟨ZcL _,by omega⟩ | exact ⟨by decide,by omega⟩ | (simp only [List.length_append,List.length_take,List.length_drop,List.length_cons,List.length_nil]; omega)) (by simp only [V.ren,V.rens]; exact rfl) rfl (by first | exact .no rfl | exact .y rfl rfl rfl rfl) rfl rfl rfl) | exact Ye [] (Zg0 rfl rfl rfl (by simp only [Qd,stV,Zn,ldC,ldE,cond_true,cond_false,List.map_cons,List.map_nil,List.drop_zero,List.drop_succ_cons,List.take_succ_cons,List.take_zero,List.getElem?_cons_zero,List.getElem?_cons_succ,Nat.reduceAdd,Option.map_some]; exact rfl)) rfl (by first | exact .no rfl | exact .y rfl rfl rfl rfl) rfl rfl | exact Ye [] (Zka rfl rfl) rfl (by first | exact .no rfl | exact .y rfl rfl rfl rfl) rfl rfl | exact Ye [] (ZkM (z:=.nilFunc) rfl rfl rfl (by exact inferInstance) (by kernel_rfl) (by kernel_rfl) rfl rfl) rfl (by first | exact .no rfl | exact .y rfl rfl rfl rfl) rfl rfl | exact Ye [] (Zpo rfl rfl rfl (by kernel_rfl) (by first | exact rfl | assumption)) rfl (by first | exact .no rfl | exact .y rfl rfl rfl rfl) rfl rfl | exact Ye [] (Zpx rfl rfl (by kernel_rfl) (by kernel_rfl) rfl) rfl (by first | exact .no rfl | exact .y rfl rfl rfl rfl) rfl rfl | exact Ye [] (Zpk rfl rfl (w64 (by omega) (by omega))) rfl (by first | exact .no rfl | exact .y rfl rfl rfl rfl) rfl rfl | exact Ye [] (Zeo rfl rfl rfl rfl (by omega) (by omega) (by omega) Len.len rfl) rfl (by first | exact .no rfl | exact .y rfl rfl rfl rfl) rfl rfl | exact Ye [] (Zeq rfl rfl rfl (by kernel_rfl) (by omega) (by omega)) rfl (by first | exact .no rfl | exact .y rfl rfl rfl rfl) rfl rfl | exact Ye [] (Zek rfl rfl (by kernel_rfl) rfl rfl (by omega) (by omega) (by omega) rfl) rfl (by first | exact .no rfl | exact .y rfl rfl rfl rfl) rfl rfl | exact Ye [] (Zpx (k2:=.i64) rfl rfl (by kernel_rfl) (by kernel_rfl) (w64 (by omega) (by omega))) rfl (by first | exact .no rfl | exact .y rfl rfl rfl rfl) rfl rfl | exact Ye [] (ZfG rfl rfl rfl (by exact inferInstance) (by exact inferInstance) (by omega) (by omega) rfl) rfl (by first | exact .no rfl | exact .y rfl rfl rfl rfl) rfl rfl) | exact Zq1 | exact Zs6 rfl)):g:=f k
theorem swt {g h:Prop} (k:h) (f:h→g:=by (first | exact Zu8 rfl rfl rfl rfl (by repeat (first | exact Vws.nil | apply Vws.cons | exact Vw.nil | exact Vw.d _ | exact Vw.q _ | apply Vw.a)) (by exact inferInstance) (by first | exact trivial | omega | assumption | exact ⟨ZcL _,by omega⟩ | exact ⟨by decide,by omega⟩ | (simp only [List.length_append,List.length_take,List.length_drop,List.length_cons,List.length_nil]; omega)) rfl rfl rfl rfl | exact Zvp rfl rfl rfl rfl (by repeat (first | exact Vws.nil | apply Vws.cons | exact Vw.nil | exact Vw.d _ | exact Vw.q _ | apply Vw.a)) (by exact inferInstance) (by first | exact trivial | omega | assumption | exact ⟨ZcL _,by omega⟩ | exact ⟨by decide,by omega⟩ | (simp only [List.length_append,List.length_take,List.length_drop,List.length_cons,List.length_nil]; omega)) rfl (by first | exact .no rfl | exact .y rfl rfl rfl rfl) rfl rfl rfl rfl)):g:=f k
theorem sp {g a b:Prop} (k1:a) (k2:b) (f:a→b→g:=by (intro h1 h2; first | exact ZnT rfl h1 h2 | exact Zdn rfl h1 h2 | exact ZsT rfl rfl rfl rfl h1 h2 | exact Zi4 rfl rfl rfl rfl h1 h2)):g:=f k1 k2
end Go.Proofs.YtkcmgbbopedacaaGreatDoor
namespace Go.Proofs.YtkcmgbbopedacaaGreatDoor
open Go.RowKit
def md (v n:Int):Int:=if v.tmod n<0 then v.tmod n+n else v.tmod n
attribute [local irreducible] WK WC WL Wk Rel OpD OpV WD WO Op.bytesLess cmp vk vb vld emp contains
attribute [local irreducible] tpb
end Go.Proofs.YtkcmgbbopedacaaGreatDoor
namespace Go.Proofs.YtkcmgbbopedacaaGreatDoor
open Go.RowKit
theorem Zq0 (k:ByteArray):decide (k=⟨#[]⟩)=k.toList.isEmpty:=by
 rw [← Zdy]; rw [show (⟨#[]⟩:ByteArray).toList=[] by kernel_rfl]; cases k.toList <;> rfl
attribute [local irreducible] WK WC WL Wk Rel OpD OpV WD WO Op.bytesLess cmp vk vb vld emp contains
instance Zsq (ak bk:ByteArray) (ax bx:Bool):Ct Tryz.prog 61 [.a [vS ak,vB ax],.a [vS bk,vB bx]] True (vI (cmp ⟨ak,ax⟩ ⟨bk,bx⟩)):=⟨fun _=>by
 refine Spec.intro Tryz.func61 rfl rfl Tryz.ntmps61 Tryz.results61 rfl fun B w0 ρ0=>?_; simp only [slots,List.map_nil,List.map_cons,Nat.reduceAdd]
 (repeat' (first | refine sw ?_ | (refine swt ?_; intro x τ hx) | (refine sp ?_ ?_ <;> (intro h; (first | (have h2:(_:Bool)=_:=h; clear h2; subst h) | skip); (try simp only [decide_eq_true_eq,decide_eq_false_iff_not,Bool.not_eq_true',Bool.not_eq_false',Kv.eta,Bnd.eta,Rng.eta,Xc] at h); (first | (have h2:(_:Bool)=_:=h; clear h2; subst h) | skip))) | fail))
 all_goals (first | refine Y0 rfl (by first | exact trivial | exact Zv rfl rfl (by exact inferInstance) trivial) rfl (by first | exact Vw.fmp rfl rfl rfl | exact Vw.nil | exact Vw.d _ | (repeat (first | exact Vws.nil | apply Vws.cons | exact Vw.nil | exact Vw.d _ | apply Vw.a | apply Vw.t | exact Vw.fh rfl rfl (Zd _) | exact Vw.fh rfl rfl Vws.nil)); done) ?_ | refine Yd rfl (by first | exact trivial | exact Zv rfl rfl (by exact inferInstance) trivial) rfl (by first | exact Vw.fmp rfl rfl rfl | exact Vw.nil | exact Vw.d _ | (repeat (first | exact Vws.nil | apply Vws.cons | exact Vw.nil | exact Vw.d _ | apply Vw.a | apply Vw.t | exact Vw.fh rfl rfl (Zd _) | exact Vw.fh rfl rfl Vws.nil)); done) ?_)
 all_goals simp_all [cmp,Bnd.lt,YQ]⟩
instance Zsi (k:ByteArray):Ct Tryz.prog 127 [vS k] True (vB (vk k)):=⟨fun _=>by
 refine Spec.intro Tryz.func127 rfl rfl Tryz.ntmps127 Tryz.results127 rfl fun B w0 ρ0=>?_; simp only [slots,List.map_nil,List.map_cons,Nat.reduceAdd]
 (repeat' (first | refine sw ?_ | (refine swt ?_; intro x τ hx) | (refine sp ?_ ?_ <;> (intro h; (first | (have h2:(_:Bool)=_:=h; clear h2; subst h) | skip); (try simp only [decide_eq_true_eq,decide_eq_false_iff_not,Bool.not_eq_true',Bool.not_eq_false',Kv.eta,Bnd.eta,Rng.eta,Xc] at h); (first | (have h2:(_:Bool)=_:=h; clear h2; subst h) | skip))) | fail))
 all_goals (first | refine Y0 rfl (by first | exact trivial | exact Zv rfl rfl (by exact inferInstance) trivial) rfl (by first | exact Vw.fmp rfl rfl rfl | exact Vw.nil | exact Vw.d _ | (repeat (first | exact Vws.nil | apply Vws.cons | exact Vw.nil | exact Vw.d _ | apply Vw.a | apply Vw.t | exact Vw.fh rfl rfl (Zd _) | exact Vw.fh rfl rfl Vws.nil)); done) ?_ | refine Yd rfl (by first | exact trivial | exact Zv rfl rfl (by exact inferInstance) trivial) rfl (by first | exact Vw.fmp rfl rfl rfl | exact Vw.nil | exact Vw.d _ | (repeat (first | exact Vws.nil | apply Vws.cons | exact Vw.nil | exact Vw.d _ | apply Vw.a | apply Vw.t | exact Vw.fh rfl rfl (Zd _) | exact Vw.fh rfl rfl Vws.nil)); done) ?_)
 all_goals (refine ⟨?_,rfl⟩; simp [vk]; omega)⟩
instance Zqp (k:ByteArray) (t:Bool):Ct Tryz.prog 62 [.a [vS k,vB t]] True (vB (vb ⟨k,t⟩)):=⟨fun _=>by
 refine Spec.intro Tryz.func62 rfl rfl Tryz.ntmps62 Tryz.results62 rfl fun B w0 ρ0=>?_; simp only [slots,List.map_nil,List.map_cons,Nat.reduceAdd]
 (repeat' (first | refine sw ?_ | (refine swt ?_; intro x τ hx) | (refine sp ?_ ?_ <;> (intro h; (first | (have h2:(_:Bool)=_:=h; clear h2; subst h) | skip); (try simp only [decide_eq_true_eq,decide_eq_false_iff_not,Bool.not_eq_true',Bool.not_eq_false',Kv.eta,Bnd.eta,Rng.eta,Xc] at h); (first | (have h2:(_:Bool)=_:=h; clear h2; subst h) | skip))) | fail))
 all_goals (first | refine Y0 rfl (by first | exact trivial | exact Zv rfl rfl (by exact inferInstance) trivial) rfl (by first | exact Vw.fmp rfl rfl rfl | exact Vw.nil | exact Vw.d _ | (repeat (first | exact Vws.nil | apply Vws.cons | exact Vw.nil | exact Vw.d _ | apply Vw.a | apply Vw.t | exact Vw.fh rfl rfl (Zd _) | exact Vw.fh rfl rfl Vws.nil)); done) ?_ | refine Yd rfl (by first | exact trivial | exact Zv rfl rfl (by exact inferInstance) trivial) rfl (by first | exact Vw.fmp rfl rfl rfl | exact Vw.nil | exact Vw.d _ | (repeat (first | exact Vws.nil | apply Vws.cons | exact Vw.nil | exact Vw.d _ | apply Vw.a | apply Vw.t | exact Vw.fh rfl rfl (Zd _) | exact Vw.fh rfl rfl Vws.nil)); done) ?_)
 all_goals simp_all [vb,Zq0]⟩
instance Zuy (ak bk:ByteArray) (ax bx:Bool):Ct Tryz.prog 135 [.a [vS ak,vB ax,vS bk,vB bx]] True (vB (vld ⟨⟨ak,ax⟩,⟨bk,bx⟩⟩)):=⟨fun _=>by
 refine Spec.intro Tryz.func135 rfl rfl Tryz.ntmps135 Tryz.results135 rfl fun B w0 ρ0=>?_; simp only [slots,List.map_nil,List.map_cons,Nat.reduceAdd]
 (repeat' (first | refine sw ?_ | (refine swt ?_; intro x τ hx) | (refine sp ?_ ?_ <;> (intro h; (first | (have h2:(_:Bool)=_:=h; clear h2; subst h) | skip); (try simp only [decide_eq_true_eq,decide_eq_false_iff_not,Bool.not_eq_true',Bool.not_eq_false',Kv.eta,Bnd.eta,Rng.eta,Xc] at h); (first | (have h2:(_:Bool)=_:=h; clear h2; subst h) | skip))) | fail))
 all_goals (first | refine Y0 rfl (by first | exact trivial | exact Zv rfl rfl (by exact inferInstance) trivial) rfl (by first | exact Vw.fmp rfl rfl rfl | exact Vw.nil | exact Vw.d _ | (repeat (first | exact Vws.nil | apply Vws.cons | exact Vw.nil | exact Vw.d _ | apply Vw.a | apply Vw.t | exact Vw.fh rfl rfl (Zd _) | exact Vw.fh rfl rfl Vws.nil)); done) ?_ | refine Yd rfl (by first | exact trivial | exact Zv rfl rfl (by exact inferInstance) trivial) rfl (by first | exact Vw.fmp rfl rfl rfl | exact Vw.nil | exact Vw.d _ | (repeat (first | exact Vws.nil | apply Vws.cons | exact Vw.nil | exact Vw.d _ | apply Vw.a | apply Vw.t | exact Vw.fh rfl rfl (Zd _) | exact Vw.fh rfl rfl Vws.nil)); done) ?_)
 all_goals simp_all [vld]⟩
instance Zsr (ak bk:ByteArray) (ax bx:Bool):Ct Tryz.prog 68 [.a [vS ak,vB ax],.a [vS bk,vB bx]] True (vI (cmp ⟨ak,ax⟩ ⟨bk,bx⟩)):=⟨fun _=>by
 refine Spec.intro Tryz.func68 rfl rfl Tryz.ntmps68 Tryz.results68 rfl fun B w0 ρ0=>?_; simp only [slots,List.map_nil,List.map_cons,Nat.reduceAdd]
 (repeat' (first | refine sw ?_ | (refine swt ?_; intro x τ hx) | (refine sp ?_ ?_ <;> (intro h; (first | (have h2:(_:Bool)=_:=h; clear h2; subst h) | skip); (try simp only [decide_eq_true_eq,decide_eq_false_iff_not,Bool.not_eq_true',Bool.not_eq_false',Kv.eta,Bnd.eta,Rng.eta,Xc] at h); (first | (have h2:(_:Bool)=_:=h; clear h2; subst h) | skip))) | fail))
 all_goals (first | refine Y0 rfl (by first | exact trivial | exact Zv rfl rfl (by exact inferInstance) trivial) rfl (by first | exact Vw.fmp rfl rfl rfl | exact Vw.nil | exact Vw.d _ | (repeat (first | exact Vws.nil | apply Vws.cons | exact Vw.nil | exact Vw.d _ | apply Vw.a | apply Vw.t | exact Vw.fh rfl rfl (Zd _) | exact Vw.fh rfl rfl Vws.nil)); done) ?_ | refine Yd rfl (by first | exact trivial | exact Zv rfl rfl (by exact inferInstance) trivial) rfl (by first | exact Vw.fmp rfl rfl rfl | exact Vw.nil | exact Vw.d _ | (repeat (first | exact Vws.nil | apply Vws.cons | exact Vw.nil | exact Vw.d _ | apply Vw.a | apply Vw.t | exact Vw.fh rfl rfl (Zd _) | exact Vw.fh rfl rfl Vws.nil)); done) ?_)
 all_goals simp_all [cmp,Bnd.lt,YQ]⟩
instance Zsg (k:ByteArray):Ct Tryz.prog 134 [vS k] True (vB (vk k)):=⟨fun _=>by
 refine Spec.intro Tryz.func134 rfl rfl Tryz.ntmps134 Tryz.results134 rfl fun B w0 ρ0=>?_; simp only [slots,List.map_nil,List.map_cons,Nat.reduceAdd]
 (repeat' (first | refine sw ?_ | (refine swt ?_; intro x τ hx) | (refine sp ?_ ?_ <;> (intro h; (first | (have h2:(_:Bool)=_:=h; clear h2; subst h) | skip); (try simp only [decide_eq_true_eq,decide_eq_false_iff_not,Bool.not_eq_true',Bool.not_eq_false',Kv.eta,Bnd.eta,Rng.eta,Xc] at h); (first | (have h2:(_:Bool)=_:=h; clear h2; subst h) | skip))) | fail))
 all_goals (first | refine Y0 rfl (by first | exact trivial | exact Zv rfl rfl (by exact inferInstance) trivial) rfl (by first | exact Vw.fmp rfl rfl rfl | exact Vw.nil | exact Vw.d _ | (repeat (first | exact Vws.nil | apply Vws.cons | exact Vw.nil | exact Vw.d _ | apply Vw.a | apply Vw.t | exact Vw.fh rfl rfl (Zd _) | exact Vw.fh rfl rfl Vws.nil)); done) ?_ | refine Yd rfl (by first | exact trivial | exact Zv rfl rfl (by exact inferInstance) trivial) rfl (by first | exact Vw.fmp rfl rfl rfl | exact Vw.nil | exact Vw.d _ | (repeat (first | exact Vws.nil | apply Vws.cons | exact Vw.nil | exact Vw.d _ | apply Vw.a | apply Vw.t | exact Vw.fh rfl rfl (Zd _) | exact Vw.fh rfl rfl Vws.nil)); done) ?_)
 all_goals (refine ⟨?_,rfl⟩; simp [vk]; omega)⟩
instance Zqq (k:ByteArray) (t:Bool):Ct Tryz.prog 70 [.a [vS k,vB t]] True (vB (vb ⟨k,t⟩)):=⟨fun _=>by
 refine Spec.intro Tryz.func70 rfl rfl Tryz.ntmps70 Tryz.results70 rfl fun B w0 ρ0=>?_; simp only [slots,List.map_nil,List.map_cons,Nat.reduceAdd]
 (repeat' (first | refine sw ?_ | (refine swt ?_; intro x τ hx) | (refine sp ?_ ?_ <;> (intro h; (first | (have h2:(_:Bool)=_:=h; clear h2; subst h) | skip); (try simp only [decide_eq_true_eq,decide_eq_false_iff_not,Bool.not_eq_true',Bool.not_eq_false',Kv.eta,Bnd.eta,Rng.eta,Xc] at h); (first | (have h2:(_:Bool)=_:=h; clear h2; subst h) | skip))) | fail))
 all_goals (first | refine Y0 rfl (by first | exact trivial | exact Zv rfl rfl (by exact inferInstance) trivial) rfl (by first | exact Vw.fmp rfl rfl rfl | exact Vw.nil | exact Vw.d _ | (repeat (first | exact Vws.nil | apply Vws.cons | exact Vw.nil | exact Vw.d _ | apply Vw.a | apply Vw.t | exact Vw.fh rfl rfl (Zd _) | exact Vw.fh rfl rfl Vws.nil)); done) ?_ | refine Yd rfl (by first | exact trivial | exact Zv rfl rfl (by exact inferInstance) trivial) rfl (by first | exact Vw.fmp rfl rfl rfl | exact Vw.nil | exact Vw.d _ | (repeat (first | exact Vws.nil | apply Vws.cons | exact Vw.nil | exact Vw.d _ | apply Vw.a | apply Vw.t | exact Vw.fh rfl rfl (Zd _) | exact Vw.fh rfl rfl Vws.nil)); done) ?_)
 all_goals simp_all [vb,Zq0]⟩
instance ZuE (ak bk:ByteArray) (ax bx:Bool):Ct Tryz.prog 133 [.a [vS ak,vB ax,vS bk,vB bx]] True (vB (vld ⟨⟨ak,ax⟩,⟨bk,bx⟩⟩)):=⟨fun _=>by
 refine Spec.intro Tryz.func133 rfl rfl Tryz.ntmps133 Tryz.results133 rfl fun B w0 ρ0=>?_; simp only [slots,List.map_nil,List.map_cons,Nat.reduceAdd]
 (repeat' (first | refine sw ?_ | (refine swt ?_; intro x τ hx) | (refine sp ?_ ?_ <;> (intro h; (first | (have h2:(_:Bool)=_:=h; clear h2; subst h) | skip); (try simp only [decide_eq_true_eq,decide_eq_false_iff_not,Bool.not_eq_true',Bool.not_eq_false',Kv.eta,Bnd.eta,Rng.eta,Xc] at h); (first | (have h2:(_:Bool)=_:=h; clear h2; subst h) | skip))) | fail))
 all_goals (first | refine Y0 rfl (by first | exact trivial | exact Zv rfl rfl (by exact inferInstance) trivial) rfl (by first | exact Vw.fmp rfl rfl rfl | exact Vw.nil | exact Vw.d _ | (repeat (first | exact Vws.nil | apply Vws.cons | exact Vw.nil | exact Vw.d _ | apply Vw.a | apply Vw.t | exact Vw.fh rfl rfl (Zd _) | exact Vw.fh rfl rfl Vws.nil)); done) ?_ | refine Yd rfl (by first | exact trivial | exact Zv rfl rfl (by exact inferInstance) trivial) rfl (by first | exact Vw.fmp rfl rfl rfl | exact Vw.nil | exact Vw.d _ | (repeat (first | exact Vws.nil | apply Vws.cons | exact Vw.nil | exact Vw.d _ | apply Vw.a | apply Vw.t | exact Vw.fh rfl rfl (Zd _) | exact Vw.fh rfl rfl Vws.nil)); done) ?_)
 all_goals simp_all [vld]⟩
end Go.Proofs.YtkcmgbbopedacaaGreatDoor
namespace Go.Proofs.YtkcmgbbopedacaaGreatDoor
open Go.RowKit
attribute [local irreducible] tpb
def rep:Nat→ByteArray→ByteArray
 | 0,_=>⟨#[]⟩
 | n+1,s=>rep n s++s
attribute [local irreducible] WK WC WL Wk Rel OpD OpV WD WO Op.bytesLess cmp vk vb vld emp contains
end Go.Proofs.YtkcmgbbopedacaaGreatDoor
