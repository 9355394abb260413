/-
  Lemmas: Functions as models
-/
import Derived.Test.YtkcmgbbopedacaaGreatDoorPX9
import Derived.Test.YtkcmgbbopedacaaGreatDoorPX10
set_option linter.unusedSimpArgs false
set_option linter.unusedVariables false
namespace Go.Proofs.YtkcmgbbopedacaaGreatDoor
open Go.RowKit
abbrev Z6 (x:Int):Int:=IntKind.i64.wrap x
def sel {α:Type} (b:Bool) (x y:α):α:=match b with
 | true=>x
 | false=>y
def bnd {α β:Type} (x:α) (k:α→β):β:=k x
def Zc {α β:Type} (x:Option α) (k:α→Option β):Option β:=match x with
 | some a=>k a
 | none=>none
inductive Ctl (R S:Type) where
 | ret (r:R)
 | nxt (s:S)
def Zqu {R S:Type} (m:Ctl R S) (k:S→R):R:=match m with
 | .ret r=>r
 | .nxt s=>k s
def YB {R S:Type} (m:Ctl R S) (k:S→Option R):Option R:=match m with
 | .ret r=>some r
 | .nxt s=>k s
section
variable {α β R S:Type}
theorem ZgI {b:Bool} {x y z:α} (h:b=true) (hm:sel b x y=z):x=z:=by subst h; exact hm
theorem ZgJ {b:Bool} {x y z:α} (h:b=false) (hm:sel b x y=z):y=z:=by subst h; exact hm
theorem Qs {x:α} {k:α→β} {z:β} (hm:bnd x k=z):∃ y,x=y∧k y=z:=⟨x,rfl,hm⟩
theorem ZK {x:Option α} {k:α→Option β} {z:β} (hm:Zc x k=some z):∃ y,x=some y∧k y=some z:=by
 cases x with
 | none=>cases hm
 | some a=>exact ⟨a,rfl,hm⟩
theorem Xv {r:R} {k:S→R} {z:R} (hm:Zqu (.ret r) k=z):r=z:=hm
theorem Ym {r:R} {k:S→Option R} {z:R} (hm:YB (.ret r) k=some z):some r=some z:=hm
theorem Znf {s:S} {k:S→Option R} {z:R} (hm:YB (.nxt s) k=some z):k s=some z:=hm
theorem ZL (b:Bool) (x y:α):sel b x y=if b=true then x else y:=by cases b <;> rfl
theorem Zr (x:α) (k:α→β):bnd x k=k x:=rfl
theorem Za (x:α) (k:α→Option β):Zc (some x) k=k x:=rfl
theorem ZdS (k:α→Option β):Zc none k=none:=rfl
theorem Zp2 (r:R) (k:S→R):Zqu (.ret r) k=r:=rfl
theorem ZcY (s:S) (k:S→R):Zqu (.nxt s) k=k s:=rfl
theorem Y6 (r:R) (k:S→Option R):YB (.ret r) k=some r:=rfl
theorem ZN (s:S) (k:S→Option R):YB (.nxt s) k=k s:=rfl
end
def Yn {α:Type} (xs:List α) (i:Int):Option α:=if 0≤i then xs[i.toNat]? else none
def lsl {α:Type} (xs:List α) (lo hi:Int):Option (List α):=if 0≤lo∧lo≤hi∧hi≤xs.length then some ((xs.drop lo.toNat).take (hi.toNat - lo.toNat)) else none
def app {α:Type} (xs ys:List α):Option (List α):=if xs.length+ys.length≤4294967296 then some (xs++ys) else none
def ZiR (s:ByteArray) (i:Int):Option Int:=if 0≤i∧i<s.size then some (s.get! i.toNat).toNat else none
def ssl (s:ByteArray) (lo hi:Int):Option ByteArray:=if 0≤lo∧lo≤hi∧hi≤s.size then some (s.extract lo.toNat hi.toNat) else none
def ZgG (s t:ByteArray):Option ByteArray:=if s.size+t.size≤9223372036854775807 then some (s++t) else none
def ZfZ (i:Int):Option ByteArray:=if 0≤i∧i<6 then some (letter i.toNat) else none
def ZiQ (k:IntKind) (a b:Int):Option Int:=if b=0 then none else some (k.wrap (a.tdiv b))
def ZhF (a b:Int):Option Int:=if b=0 then none else some (a.tmod b)
def dsB (b:Bool):List D:=[dB b]
instance : Len dsB 1:=⟨fun _=>rfl⟩
def dsS (b:ByteArray):List D:=[dS b]
instance : Len dsS 1:=⟨fun _=>rfl⟩
def dsK (k:IntKind) (z:Int):List D:=[.c (.int k z)]
instance {k:IntKind}:Len (dsK k) 1:=⟨fun _=>rfl⟩
def dsL {α:Type} (f:α→List D) (l:List α):List D:=[lst f l]
instance {α:Type} {f:α→List D}:Len (dsL f) 1:=⟨fun _=>rfl⟩
def FU:Nat:=4294967296
theorem Zc9 {α:Type} {xs:List α} {i:Int} {x:α} (h:Yn xs i=some x):∃ m:Nat,i=m∧xs[m]?=some x:=by
 unfold Yn at h
 split at h
 ·exact ⟨i.toNat,by omega,h⟩
 ·cases h
theorem Zdx {α:Type} {l:List α} {m:Nat} (h:m<l.length):∃ x,l[m]?=some x∧l.drop m=x::l.drop (m+1):=⟨l[m],List.getElem?_eq_getElem h,List.drop_eq_getElem_cons h⟩
theorem ZeA {α:Type} {l:List α} {m:Nat} (h:l.length≤m):l.drop m=[]:=List.drop_eq_nil_of_le h
section
variable {Γ:Cx} {k:Zbw} {st st':St} {x y:Code} {c:Operand} {b:Bool} {id:Nat}
theorem YP (I:St→Prop) (h:WC Γ x (.cut I k) st) (hk:∀ st,I st→WK Γ k .normal st):WC Γ x k st:=fun a w hr=>wp_mono (h a w hr) (by
 rintro e a w ⟨st,hk',hr⟩
 cases e with
 | normal=>obtain ⟨st',h1,h2⟩:=hk'; exact ⟨st',hk st' h2,h1 a w hr⟩
 | _=>exact ⟨st,hk',hr⟩)
theorem Q6 (hb:b=true) (hc:ev st.sl c=some (vB b)) (h:WC Γ x k st):WC Γ (.cond c x y) k st:=Zdn hc (fun _=>h) (fun e=>by rw [hb] at e; cases e)
theorem Q7 (hb:b=false) (hc:ev st.sl c=some (vB b)) (h:WC Γ y k st):WC Γ (.cond c x y) k st:=Zdn hc (fun e=>by rw [hb] at e; cases e) (fun _=>h)
theorem Zqw {m n:Nat} (h:m<n):decide ((m:Int)<(n:Int))=true:=by simpa using h
theorem Zqv {m n:Nat} (h:n≤m):decide ((m:Int)<(n:Int))=false:=by simpa using h
theorem ZeE (t:Nat) {n:Nat} {xs:List D} (h:look st.sl t=some (.d (.l n xs))) (hk:n≤9223372036854775807→WC Γ x k st):WC Γ x k st:=fun a w hr=>by
 refine hk ?_ a w hr
 obtain ⟨ρ,hr⟩:=hr
 obtain ⟨v,-,h2⟩:=hr.sr t _ h
 cases h2 with
 | d h2 =>
  cases h2 with
  | nil=>omega
  | l _ h3=>exact h3
end
section
variable {P:Program} {o:Oper} {H:Hp} {sl:List (Nat × V)} {x y z:Operand} {T U E t:TypeId} {zz bytes:Nat} {i j:Int} {s s':ByteArray} {kk:IntKind} {k d k':Nat}
theorem ZeW {m n:Nat} (hm:m<n) (hn:n≤9223372036854775807) (hop:o.op=.binOp .add T x y U) (hx:ev sl x=some (vI (m:Int))) (hy:ev sl y=some (vI 1)):OpD P o H sl 0 0 (vI ((m+1:Nat):Int)) []:=YJ hop hx hy (by rw [w64 (by omega) (by omega)]; omega)
theorem Zdi {α:Type} {f:α→List D} {xs:List α} {ys:List D} {m:Nat} {a:α} (hg:xs[m]?=some a) [hS:Sl P t E zz bytes] [hL:Len f zz] (hop:o.op=.indexAddr t x y) (hx:ev sl x=some (.d (lst f xs))) (hy:ev sl y=some (vI (m:Int))) (hz:f a=ys):OpD P o H sl 0 0 (.q ys) []:=by
 obtain ⟨h1,h2⟩:=List.getElem?_eq_some_iff.1 hg
 exact ZmB hop hx hy hL.len rfl h1 (by rw [h2]; exact hz)
theorem ZhP {α:Type} {f:α→List D} {xs:List α} {ys:List D} {a:α} (hg:Yn xs i=some a) [hS:Sl P t E zz bytes] [hL:Len f zz] (hop:o.op=.indexAddr t x y) (hx:ev sl x=some (.d (lst f xs))) (hy:ev sl y=some (vI i)) (hz:f a=ys):OpD P o H sl 0 0 (.q ys) []:=by
 obtain ⟨m,rfl,h1⟩:=Zc9 hg
 exact Zdi h1 hop hx hy hz
theorem ZsU {α:Type} {f:α→List D} {lo hi:Option Operand} {xs ys:List α} (hg:lsl xs i j=some ys) [hS:Sl P t E zz bytes] [hL:Len f zz] (hop:o.op=.slice t x lo hi none) (hx:ev sl x=some (.d (lst f xs))) (hlo:evo sl 0 lo=some (vI i)) (hhi:evo sl (xs.length:Int) hi=some (vI j)):OpD P o H sl 0 0 (.d (lst f ys)) []:=by
 unfold lsl at hg
 split at hg
 ·rename_i h
  exact Zeo hop hx hlo hhi h.1 h.2.1 h.2.2 hL.len (Option.some.inj hg)
 ·cases hg
theorem ZqL {n:Int} (hg:ZiR s i=some n) (hop:o.op=.index t x y) (hx:ev sl x=some (vS s)) (hy:ev sl y=some (vI i)) (ht:P.underlying t=some .string):OpD P o H sl 0 0 (.d (.c (.int .u8 n))) []:=by
 unfold ZiR at hg
 split at hg
 ·rename_i h
  rw [← Option.some.inj hg]
  exact Zeq hop hx hy ht h.1 h.2
 ·cases hg
theorem Ztk {lo hi:Option Operand} (hg:ssl s i j=some s') (hop:o.op=.slice t x lo hi none) (hx:ev sl x=some (vS s)) (ht:P.underlying t=some .string) (hlo:evo sl 0 lo=some (vI i)) (hhi:evo sl (s.size:Int) hi=some (vI j)):OpD P o H sl 0 0 (vS s') []:=by
 unfold ssl at hg
 split at hg
 ·rename_i h
  exact Zek hop hx ht hlo hhi h.1 h.2.1 h.2.2 (Option.some.inj hg)
 ·cases hg
theorem ZqY {r:ByteArray} (hg:ZgG s s'=some r) (hop:o.op=.binOp .add T x y U) (hx:ev sl x=some (vS s)) (hy:ev sl y=some (vS s')):OpD P o H sl 0 0 (vS r) []:=by
 unfold ZgG at hg
 split at hg
 ·rename_i h
  rw [← Option.some.inj hg]
  exact ZmV hop hx hy h
 ·cases hg
theorem Zt0 {r:ByteArray} (hg:ZfZ i=some r) (hop:o.op=.indexAddr T (.global 0) y) (hy:ev sl y=some (vI i)) (hTE:Ar P T 6 E) (hE:Ty P E 1 false):OpD P o H sl 0 0 (.q [dS r]) []:=by
 unfold ZfZ at hg
 split at hg
 ·rename_i h
  rw [← Option.some.inj hg]
  exact Zrh hop hy hTE hE (Int.toNat_of_nonneg h.1).symm (by omega)
 ·cases hg
theorem ZqA {n:Int} (hg:ZhF i j=some n) (hop:o.op=.binOp .rem T x y U) (hx:ev sl x=some (.d (.c (.int kk i)))) (hy:ev sl y=some (.d (.c (.int kk j)))):OpD P o H sl 0 0 (.d (.c (.int kk n))) []:=by
 unfold ZhF at hg
 split at hg
 ·cases hg
 ·exact Zri hop hx hy (by assumption) (Option.some.inj hg)
theorem Zq2 {n:Int} (hg:ZiQ kk i j=some n) (hop:o.op=.binOp .quo T x y U) (hx:ev sl x=some (.d (.c (.int kk i)))) (hy:ev sl y=some (.d (.c (.int kk j)))):OpD P o H sl 0 0 (.d (.c (.int kk n))) []:=by
 unfold ZiQ at hg
 split at hg
 ·cases hg
 ·exact Zrn hop hx hy (by assumption) (Option.some.inj hg)
theorem Zvf {α:Type} {f:α→V} {es:List α} {a:α} {len:Nat} (hg:Yn es i=some a) (hop:o.op=.index t x y) (hx:ev sl x=some (.a (es.map f))) (hy:ev sl y=some (vI i)) (hTE:Ar P t len E) (hE:Ty P E 1 false) (hl:es.length=len):OpD P o H sl 0 0 (f a) []:=by
 obtain ⟨m,rfl,h1⟩:=Zc9 hg
 have h2:=(List.getElem?_eq_some_iff.1 h1).1
 refine ZfG hop hx hy hTE hE (by omega) (by omega) ?_
 rw [List.getElem?_map,Int.toNat_natCast,h1]; rfl
theorem Zph {α:Type} {xs ys r:List α} (h:app xs ys=some r):xs.length+ys.length≤4294967296∧r=xs++ys:=by
 unfold app at h
 split at h
 ·exact ⟨by assumption,(Option.some.inj h).symm⟩
 ·cases h
theorem Zpg {n bytes:Nat} (h:n≤4294967296) (hb:Nat.ble bytes 32768=true):n * bytes≤140737488355328:=by
 have:=Nat.mul_le_mul h (Nat.le_of_ble_eq_true hb); omega
theorem ZqB {α:Type} {f:α→List D} {ys r:List α} (hg:app [] ys=some r) [hS:Sl P t E zz bytes] [hL:Len f zz] (hop:o.op=.call { callee:=.builtin .append,args:=#[x,y],argTypes:=#[t,t] }) (hd:o.dst=some d) (hk:d+100=k) (hx:ev sl x=some (.d (.c (.slice none 0 0)))) (hy:ev sl y=some (.d (lst f ys))) (hb:Nat.ble bytes 32768=true):OpD P o H sl k 1 (.h k) [(k,some (YH E zz f r))]:=by
 obtain ⟨h1,rfl⟩:=Zph hg
 simp only [List.length_nil,Nat.zero_add] at h1
 exact Zdo hop hd hk hx hy hL.len (Zpg h1 hb) (by omega)
theorem Zvu {α:Type} {f:α→List D} {xs ys r:List α} (hg:app xs ys=some r) [hS:Sl P t E zz bytes] [hL:Len f zz] (hop:o.op=.call { callee:=.builtin .append,args:=#[x,y],argTypes:=#[t,t] }) (hd:o.dst=some d) (hk:d+100=k') (hx:ev sl x=some (.h k)) (hy:ev sl y=some (.d (lst f ys))) (hH:look H k=some (some (YH E zz f xs))) (hb:Nat.ble bytes 32768=true) (hkk:(!Nat.beq k k')=true):OpD P o H sl k' 1 (.h k') [(k,none),(k',some (YH E zz f r))]:=by
 obtain ⟨h1,rfl⟩:=Zph hg
 exact Zgy hop hd hk hx hy hH hL.len (Zpg h1 hb) (by omega) hkk
def apd {α:Type} (xs l1 l2:List α):Option (List α):=if 0<xs.length∧l1.length+l2.length≤xs.length then some (l1++l2) else none
theorem Zrg {α:Type} {xs ys:List α} {i j:Int} (hg:lsl xs i j=some ys):∃ a b:Nat,i=(a:Int)∧j=(b:Int)∧a≤b∧b≤xs.length∧ys=(xs.drop a).take (b - a)∧ys.length=b - a:=by
 unfold lsl at hg
 split at hg
 ·rename_i h
  refine ⟨i.toNat,j.toNat,by omega,by omega,by omega,by omega,(Option.some.inj hg).symm,?_⟩
  rw [← Option.some.inj hg,List.length_take,List.length_drop]; omega
 ·cases hg
theorem ZsA {α:Type} {f:α→List D} {lo hi:Option Operand} {xs ys:List α} {i j:Int} (hg:lsl xs i j=some ys) [hS:Sl P t E zz bytes] [hL:Len f zz] (hop:o.op=.slice t x lo hi none) (hx:ev sl x=some (.h k)) (hH:look H k=some (some (YH E zz f xs))) (hlo:evo sl 0 lo=some (vI i)) (hhi:evo sl (xs.length:Int) hi=some (vI j)):OpD P o H sl 0 0 (.s k i.toNat ys.length zz) []:=by
 obtain ⟨a,b,rfl,rfl,h1,h2,-,h4⟩:=Zrg hg
 rw [h4]
 exact ZnI hop hx hH hlo hhi h1 h2
theorem Zvh {α:Type} {f:α→List D} {xs l1 l2 r:List α} {i j b:Int} (ha:apd xs l1 l2=some r) (h1:lsl xs 0 b=some l1) (h2:lsl xs i j=some l2) [hS:Sl P t E zz bytes] [hL:Len f zz] (hop:o.op=.call { callee:=.builtin .append,args:=#[x,y],argTypes:=#[t,t] }) (hd:o.dst=some d) (hk:d+100=k') (hx:ev sl x=some (.s k 0 l1.length zz)) (hy:ev sl y=some (.s k i.toNat l2.length zz)) (hH:look H k=some (some (YH E zz f xs))) (hkk:(!Nat.beq k k')=true):OpD P o H sl k' 1 (.h k') [(k,none),(k',some (YH E zz f r))]:=by
 obtain ⟨a1,b1,e1,rfl,p1,p2,p3,p4⟩:=Zrg h1
 obtain rfl:a1=0:=by omega
 obtain ⟨a2,b2,rfl,rfl,q1,q2,q3,q4⟩:=Zrg h2
 unfold apd at ha
 split at ha
 ·rename_i hf
  obtain rfl:=Option.some.inj ha
  have hw:(((((xs.flatMap f).map V.d).drop (a2 * zz)).take (l2.length * zz)):List V)=(l2.flatMap f).map V.d:=by
   rw [← List.map_drop,← List.map_take,ZfE hL.len,ZdT hL.len,q4,← q3]
  have hx1:(((xs.flatMap f).map V.d).take (l1.length * zz):List V)=(l1.flatMap f).map V.d:=by
   rw [← List.map_take,ZdT hL.len,p4,p3]; simp
  have key:=Zly (P:=P) (H:=H) (cs:=(xs.flatMap f).map V.d) (ws:=(l2.flatMap f).map V.d) (m:=l2.length) k' hop hx hy hH (by simp only [ZiS,Int.toNat_natCast]; unfold YH at hH; rw [hH]; simp only [hw]) (by rw [List.length_map,Ze4 hL.len]) hf.1 hf.2 hkk
  rw [hx1,← List.map_append,← List.flatMap_append,← List.length_append] at key
  exact key
 ·cases ha
theorem ZsW {α:Type} (f:α→List D) (es:List α) {parts:Array (Nat × Operand)} {len:Nat} {l:List (Nat × V)} [hS:Sl P t E zz bytes] (hop:o.op=.buildSlice t len parts) (hd:o.dst=some d) (hk:d+100=k) (hl:evs sl parts.toList=some l) (hf:Z8 zz 0 l=some ((es.flatMap f).map V.d)) (hlen:es.length=len) (hn:(parts.size == len && Nat.ble (len * zz) 16777216 && Nat.ble len 16777216)=true):OpD P o H sl k 1 (.h k) [(k,some (YH E zz f es))]:=by
 subst hlen
 exact ZuS hop hd hk hl hf hn
end
section
variable {Γ:Cx} {P:Program} {k:Zbw} {sl:List (Nat × V)} {H hp:Hp} {o:Oper} {ops:Array Oper} {i an d kt:Nat} {ts:List Nat} {r:List PI} {F:List Ft} {f:FuncId} {us uc:List V} {x:Operand} {xs:Array Operand} {ats:Array TypeId} {u u':V} {rest:List Oper} {blk blk0 blk' blk1:Blk}
theorem Zt5 {α:Type} {f:α→List D} {xs ys rr:List α} {kk k' E z bytes t:Nat} {y:Operand} (hg':app xs ys=some rr) [hS:Sl Γ.P t E z bytes] [hL:Len f z] (hop:o.op=.call { callee:=.builtin .append,args:=#[x,y],argTypes:=#[t,t] }) (hd:o.dst=some d) (hkd:d+100=k') (hx:ev (keep ts sl) x=some (.h kk)) (hy:ev (keep ts sl) y=some (.d (lst f ys))) (hH:look hp kk=some (some (YH E z f xs))) (hb:Nat.ble bytes 32768=true)
   (hkk:(!Nat.beq kk k')=true) (hw:Wt ops o (keep ts sl) true) (hdl:Nat.blt d Γ.nt=true) (hfr:ZR hp k' 1=true) (hfo:okF ⟨⟨i,an,ts⟩,[kk],[kk,k'],k',1⟩ F=true)
   (hk:WD Γ ops k r (⟨⟨i,an,ts⟩,[kk],[kk,k'],k',1⟩::F) ⟨(d,.h k')::sl,(kk,none)::(k',some (YH E z f rr))::hp⟩):WO Γ ops k o i an ts r F ⟨sl,hp⟩:=by
 obtain ⟨h1,rfl⟩:=Zph hg'
 exact ZfJ hop hd hkd hx hy hH hL.len (Zpg h1 hb) (by omega) hkk hw hdl hfr hfo hk
theorem Zvd (hs:Spec Γ.P f us [] fun u1 h1=>u1=u∧h1=[]) (hop:o.op=.call { callee:=.value x,args:=xs,argTypes:=ats }) (hx:ev sl x=some (.d (.c (.func (.func f) #[] #[])))) (ha:evl sl xs.toList=some uc) (hv:Vws [] [] uc us) (hu:u.ren (rn [] 100000)=u)
 (hg:o.guard=none) (hd:o.dst=some d) (hdl:Nat.blt d Γ.nt=true) (hf:ZR hp 100000 100=true) (hk:WL Γ ops rest k ⟨(d,u)::sl,hp⟩):WL Γ ops (o::rest) k ⟨sl,hp⟩:=Zrd (Zg1 100000 hs hop hx ha hv hu) hg hd hdl hf hk
theorem Zu0 (hs:Spec Γ.P f us [] fun u1 h1=>u1=u∧h1=[]) (hop:o.op=.call { callee:=.value x,args:=xs,argTypes:=ats }) (hx:ev (keep ts sl) x=some (.d (.c (.func (.func f) #[] #[])))) (ha:evl (keep ts sl) xs.toList=some uc) (hv:Vws [] [] uc us) (hu:u.ren (rn [] 100000)=u)
 (hd:o.dst=some d) (hw:Wt ops o (keep ts sl) true) (hdl:Nat.blt d Γ.nt=true) (hfr:ZR hp 100000 100=true) (hf:okF ⟨⟨i,an,ts⟩,[],[],100000,100⟩ F=true)
 (hk:WD Γ ops k r (⟨⟨i,an,ts⟩,[],[],100000,100⟩::F) ⟨(d,u)::sl,hp⟩):WO Γ ops k o i an ts r F ⟨sl,hp⟩:=Ztn [] (Zg1 100000 hs hop hx ha hv hu) hd hw hdl hfr hf hk
mutual
inductive ClV:V→Prop
 | c (v:Value):ClV (.d (.c v))
 | a {xs:List V}:Zmh xs→ClV (.a xs)
 | t {xs:List V}:Zmh xs→ClV (.t xs)
inductive Zmh:List V→Prop
 | nil:Zmh []
 | cons {x:V} {xs:List V}:ClV x→Zmh xs→Zmh (x::xs)
end
mutual
theorem ClV.rv {w w':World} {ok ok':Nat→Prop} {ρ ρ':Lc}:∀ {u:V} {v:Value},ClV u→RV w ok ρ u v→RV w' ok' ρ' u v
 | _,_,.c _,h=>by
  have:=Za7 h
  subst this
  cases h with
  | d h=>cases h with
   | c h=>exact .d (.c h)
 | _,_,.a h1,h=>by
  obtain ⟨vs,rfl,h2⟩:=Zo3 h
  exact .a (Zmh.rv h1 h2)
 | _,_,.t h1,h=>by
  obtain ⟨vs,rfl,h2⟩:=Zum h
  exact .t (Zmh.rv h1 h2)
theorem Zmh.rv {w w':World} {ok ok':Nat→Prop} {ρ ρ':Lc}:∀ {us:List V} {vs:List Value},Zmh us→RVs w ok ρ us vs→RVs w' ok' ρ' us vs
 | _,_,.nil,.nil=>.nil
 | _,_,.cons h1 h2,.cons h3 h4=>.cons (ClV.rv h1 h3) (Zmh.rv h2 h4)
end
theorem Ztz (hs:Spec P f us [] fun u1 h1=>u1=u∧h1=[]) (hop:o.op=.call { callee:=.value x,args:=xs,argTypes:=ats }) (hx:ev sl x=some (.d (.c (.func (.func f) #[] #[])))) (ha:evl sl xs.toList=some uc) (hv:Vws H [] uc us) (hu:ClV u):OpV P o H sl 100000 100 fun u' h'=>u'=u∧h'=[]:=fun B a w ρ hup hd hsr hr hfr=>by
 have hargs:=ZdC hsr ha
 have hs0:∀ i,sub ρ [] i=none:=fun i=>rfl
 have hargs':=Vws.rvs (ok':=okb (fun _=>True) w (sub ρ [])) hr (fun b ⟨h1,_,_⟩=>⟨h1,trivial,fun i l hi=>by rw [hs0] at hi; cases hi⟩) (fun k blk l b _ h1 h2 h3=>⟨hr.lt k l b h2 h3,trivial,fun i l hi=>by rw [hs0] at hi; cases hi⟩) hv hargs
 have hview:HR (fun _=>True) [] (sub ρ []) w:=⟨fun k blk h=>by simp [look] at h,fun k k' blk blk' l l' b h=>by simp [look] at h,fun i l b hi=>(by rw [hs0] at hi; cases hi),fun e he=>⟨⟨(hr.gl e he).1.1,trivial,fun i l hi=>by rw [hs0] at hi; cases hi⟩,(hr.gl e he).2⟩⟩
 have hcall:=hs.run (fun _=>True) w (sub ρ []) _ (fun b hb=>trivial) hargs' hview (fun i l hi=>by rw [hs0] at hi; cases hi)
 obtain ⟨fn,hf1,hf2,hf3⟩:=hs.fn
 have hrun:(execOp a.eval o).run P w=.ok (.enter f (xs.toList.map a.eval).toArray) w:=by
  have hx':=Za7 (Zp hsr hx)
  unfold execOp; rw [hop]
  have e:xs.map a.eval=(xs.toList.map a.eval).toArray:=by apply Array.ext'; simp
  have h1 : ¬ fn.name = "runtime.NumGoroutine" := by simpa using hf2
  have h2:¬ fn.body=none:=fun e=>by rw [e] at hf3; cases hf3
  simp [resolve,hx',Deferred.ofValue,invoke,callFunc,program,Sem.run,hf1,h1,h2,e]
 unfold Oper.wp
 rw [hrun,Oper.upon_enter]
 refine hcall.mono ?_
 rintro e w' ⟨r,u1,h1,ρ1,rfl,⟨rfl,rfl⟩,hst,hrv,hlt⟩
 exact ⟨r,u1,[],ρ,rfl,⟨rfl,rfl⟩,⟨hst.os,hst.tape,hst.output,hst.size,fun _ _ h=>h,fun k l h=>.inl h,fun b hb _=>hst.keep b hb (fun k l hk=>by simp [look] at hk),fun k hk=>by simp [look] at hk,fun k blk hk=>by simp [look] at hk,fun k k' blk blk' l l' b hk=>by simp [look] at hk⟩,hu.rv hrv⟩
theorem Zv0 (hs:Spec P f us [(0,some blk)] fun u1 h1=>u1=u∧h1=[(0,some blk')]) (kt:Nat) (hop:o.op=.call { callee:=.value x,args:=xs,argTypes:=ats }) (hx:ev sl x=some (.d (.c (.func (.func f) #[] #[])))) (ha:evl sl xs.toList=some uc) (hv:Vws [] [(0,kt)] uc us)
   (hH:look H kt=some (some blk0)) (hb:Vb [] [(0,kt)] blk0 blk) (hu:u.ren (rn [(0,kt)] 100000)=u) (hb':blk'.ren (rn [(0,kt)] 100000)=blk'):OpV P o H sl 100000 100 fun u' h'=>u'=u∧h'=[(kt,some blk')]:=by
 have hal:XW H [(0,kt)]=true:=by simp only [XW,List.all_cons,List.all_nil,Bool.and_true,hH]
 have h0:look [(0,kt)] 0=some kt:=rfl
 refine (Zj4 100000 [(0,kt)] hs hop hx ha hv (VH.cons h0 hH hb VH.nil) hal rfl (by rfl)).mono ?_
 rintro u1 h1 ⟨u0,h0',⟨rfl,rfl⟩,rfl,rfl⟩
 refine ⟨hu,?_⟩
 simp only [Zec,Option.map_some,hb']
 rfl
theorem Zvm (hs:Spec Γ.P f us [(0,some blk)] fun u1 h1=>u1=u∧h1=[(0,some blk')]) (kt:Nat) (hop:o.op=.call { callee:=.value x,args:=xs,argTypes:=ats }) (hx:ev sl x=some (.d (.c (.func (.func f) #[] #[])))) (ha:evl sl xs.toList=some uc) (hv:Vws [] [(0,kt)] uc us)
   (hH:look hp kt=some (some blk0)) (hb:Vb [] [(0,kt)] blk0 blk) (hu:u.ren (rn [(0,kt)] 100000)=u) (hb':blk'.ren (rn [(0,kt)] 100000)=blk')
   (hg:o.guard=none) (hd:o.dst=some d) (hdl:Nat.blt d Γ.nt=true) (hf:ZR hp 100000 100=true) (hk:WL Γ ops rest k ⟨(d,u)::sl,(kt,some blk')::hp⟩):WL Γ ops (o::rest) k ⟨sl,hp⟩ :=
 Zq8 (Zv0 hs kt hop hx ha hv hH hb hu hb') hg hd hdl hf (by rintro _ _ ⟨rfl,rfl⟩; exact hk)
theorem Zvq (hs:Spec Γ.P f us [(0,some blk)] fun u1 h1=>u1=u∧h1=[(0,some blk')]) (kt:Nat) (hop:o.op=.call { callee:=.value x,args:=xs,argTypes:=ats }) (hx:ev (keep ts sl) x=some (.d (.c (.func (.func f) #[] #[])))) (ha:evl (keep ts sl) xs.toList=some uc) (hv:Vws [] [(0,kt)] uc us)
   (hH:look hp kt=some (some blk0)) (hb:Vb [] [(0,kt)] blk0 blk) (hu:u.ren (rn [(0,kt)] 100000)=u) (hb':blk'.ren (rn [(0,kt)] 100000)=blk')
   (hd:o.dst=some d) (hw:Wt ops o (keep ts sl) true) (hdl:Nat.blt d Γ.nt=true) (hfr:ZR hp 100000 100=true) (hf:okF ⟨⟨i,an,ts⟩,[kt],[kt],100000,100⟩ F=true) (hnd:(r.all fun q=>Zcx q.an i)=true)
   (hk:WD Γ ops k r (⟨⟨i,an,ts⟩,[kt],[kt],100000,100⟩::F) ⟨(d,u)::sl,(kt,some blk')::hp⟩):WO Γ ops k o i an ts r F ⟨sl,hp⟩ :=
 ZuT [kt] [kt] (Zv0 hs kt hop hx ha hv (by rw [ZeT]; exact hH) hb hu hb') hd hw hdl hfr hf hnd (by rintro _ _ ⟨rfl,rfl⟩; exact Zpv _ _) (by rintro _ _ ⟨rfl,rfl⟩; exact hk)
end
section
variable {Γ:Cx} {P:Program} {k:Zbw} {sl:List (Nat × V)} {H hp h h':Hp} {o:Oper} {ops:Array Oper} {i an d kt:Nat} {ts:List Nat} {r:List PI} {F:List Ft} {f:FuncId} {us uc:List V} {x:Operand} {xs:Array Operand} {ats:Array TypeId} {u u':V} {rest:List Oper}
theorem ZsH (hs:Spec P f us [] fun u1 h1=>u1=u∧h1=h) (M:Nat) (hop:o.op=.call { callee:=.value x,args:=xs,argTypes:=ats }) (hx:ev sl x=some (.d (.c (.func (.func f) #[] #[])))) (ha:evl sl xs.toList=some uc) (hv:Vws [] [] uc us)
   (hu:u.ren (rn [] M)=u') (hh:Zec (rn [] M) h=h'):OpV P o H sl M 100 fun u1 h1=>u1=u'∧h1=h':=by
 refine (Zj4 M [] hs hop hx ha hv VH.nil rfl rfl rfl).mono ?_
 rintro u1 h1 ⟨u0,h0',⟨rfl,rfl⟩,rfl,rfl⟩
 exact ⟨hu,hh⟩
theorem ZeC (hs:Spec Γ.P f us [] fun u1 h1=>u1=u∧h1=h) (M:Nat) (hop:o.op=.call { callee:=.value x,args:=xs,argTypes:=ats }) (hx:ev sl x=some (.d (.c (.func (.func f) #[] #[])))) (ha:evl sl xs.toList=some uc) (hv:Vws [] [] uc us)
   (hu:u.ren (rn [] M)=u') (hh:Zec (rn [] M) h=h') (hg:o.guard=none) (hd:o.dst=some d) (hdl:Nat.blt d Γ.nt=true) (hf:ZR hp M 100=true) (hk:WL Γ ops rest k ⟨(d,u')::sl,h'++hp⟩):WL Γ ops (o::rest) k ⟨sl,hp⟩ :=
 Zq8 (ZsH hs M hop hx ha hv hu hh) hg hd hdl hf (by rintro _ _ ⟨rfl,rfl⟩; exact hk)
theorem Zj6 (hs:Spec Γ.P f us [] fun u1 h1=>u1=u∧h1=h) (M:Nat) (ws:List Nat) (hws:h'.map (·.1)=ws) (hop:o.op=.call { callee:=.value x,args:=xs,argTypes:=ats }) (hx:ev (keep ts sl) x=some (.d (.c (.func (.func f) #[] #[])))) (ha:evl (keep ts sl) xs.toList=some uc) (hv:Vws [] [] uc us)
   (hu:u.ren (rn [] M)=u') (hh:Zec (rn [] M) h=h') (hd:o.dst=some d) (hw:Wt ops o (keep ts sl) true) (hdl:Nat.blt d Γ.nt=true) (hin:inW h' ws=true) (hfr:ZR hp M 100=true) (hf:okF ⟨⟨i,an,ts⟩,[],ws,M,100⟩ F=true) (hnd:(r.all fun q=>Zcx q.an i)=true)
   (hk:WD Γ ops k r (⟨⟨i,an,ts⟩,[],ws,M,100⟩::F) ⟨(d,u')::sl,h'++hp⟩):WO Γ ops k o i an ts r F ⟨sl,hp⟩ :=
 ZuT [] ws (ZsH hs M hop hx ha hv hu hh) hd hw hdl hfr hf hnd (by rintro _ _ ⟨rfl,rfl⟩; exact hin) (by rintro _ _ ⟨rfl,rfl⟩; exact hk)
end
section
variable {P:Program} {o:Oper} {H:Hp} {sl:List (Nat × V)} {x y:Operand} {T U E t:TypeId} {zz bytes n off k:Nat} {i:Int} {ag:Bool} {α:Type} {f:α→List D} {xs:List α} {a a':α} {u:V}
theorem Qg (h:Yn xs i=some a) (b:α):Yn (xs.set i.toNat b) i=some b:=by
 obtain ⟨m,rfl,h1⟩:=Zc9 h
 have:=(List.getElem?_eq_some_iff.1 h1).1
 unfold Yn
 rw [if_pos (by omega)]
 simp [this]
theorem Zti (hg:Yn xs i=some a) [hS:Sl P t E zz bytes] (hop:o.op=.indexAddr t x y) (hx:ev sl x=some (.h k)) (hy:ev sl y=some (vI i)) (hH:look H k=some (some (YH E zz f xs))):OpD P o H sl 0 0 (.e k (i.toNat * zz)) []:=by
 obtain ⟨m,rfl,h1⟩:=Zc9 hg
 exact Zvb hop hx hy hH rfl (List.getElem?_eq_some_iff.1 h1).1
theorem flat_get {z:Nat} (hf:∀ a,(f a).length=z) (hg:Yn xs i=some a) (j:Nat) (hj:j<z):(xs.flatMap f)[i.toNat * z+j]?=(f a)[j]?:=by
 obtain ⟨m,rfl,h1⟩:=Zc9 hg
 have h2:=List.getElem?_eq_getElem (l:=f a) (i:=j) (by rw [hf]; exact hj)
 rw [h2]
 exact Zjg hf h1 j _ h2
theorem Zm7 {z:Nat} (hf:∀ a,(f a).length=z) (hg:Yn xs i=some a):i.toNat * z+z≤(xs.flatMap f).length:=by
 obtain ⟨m,rfl,h1⟩:=Zc9 hg
 have h2:=(List.getElem?_eq_some_iff.1 h1).1
 have h3:(xs.flatMap f).length=xs.length * z:=by
  clear hg h1 h2
  induction xs with
  | nil=>simp
  | cons b l ih=>rw [List.flatMap_cons,List.length_append,hf,ih,List.length_cons,Nat.add_mul]; omega
 rw [h3,Int.toNat_natCast,← Nat.succ_mul]
 exact Nat.mul_le_mul_right _ h2
theorem QV {z:Nat} [hL:Len f z] (hg:Yn xs i=some a):((xs.flatMap f).drop (i.toNat * z+0)).take z=f a:=by
 apply List.ext_getElem?
 intro j
 rw [List.getElem?_take]
 split
 ·rw [List.getElem?_drop,Nat.add_zero]
  exact flat_get hL.len hg j (by assumption)
 ·rename_i hj
  have:=hL.len a
  exact (List.getElem?_eq_none (by omega)).symm
theorem YW {z:Nat} [hL:Len f z] (hg:Yn xs i=some a):((xs.flatMap f).drop (i.toNat * z)).take z=f a:=QV hg
theorem ZhL (hg:Yn xs i=some a) [hL:Len f zz] (hop:o.op=.load T x) (hx:ev sl x=some (.e k (i.toNat * zz+off))) (hH:look H k=some (some (YH E zz f xs))) (hT:Ty P T n ag) (hl:(Nat.ble (off+n) zz && (ag || n == 1))=true) (hu:ldE ag n off (f a)=some u):OpD P o H sl 0 0 u []:=by
 simp only [Bool.and_eq_true,Nat.ble_eq] at hl
 have h1:=Zm7 hL.len hg
 refine ZgT hop hx hH hT ?_ ?_
 ·simp only [Bool.and_eq_true,Nat.ble_eq,List.length_map]
  exact ⟨by omega,hl.2⟩
 ·unfold ldC
  unfold ldE at hu
  cases ag with
  | true =>
   simp only [cond_true] at hu ⊢
   rw [← hu]
   congr 2
   apply List.ext_getElem?
   intro j
   simp only [List.getElem?_take,List.getElem?_drop,List.getElem?_map]
   split
   ·rw [Nat.add_assoc,flat_get hL.len hg _ (by omega)]
   ·rfl
  | false =>
   simp only [cond_false] at hu ⊢
   rw [List.getElem?_map,flat_get hL.len hg _ (by simp at hl; omega)]
   exact hu
theorem Zm0:∀ (o:Nat) (vs c e:List V),stV (c.length+o) vs (c++e)=c++stV o vs e
 | o,[],c,e=>by simp [stV]
 | o,v::vs,[],e=>by simp
 | o,v::vs,x::c,e=>by
  rw [List.length_cons,show c.length+1+o=(c.length+o)+1 by omega,List.cons_append,stV,Zm0 o (v::vs) c e,List.cons_append]
theorem Zhi:∀ (o:Nat) (vs c e:List V),o+vs.length≤c.length→stV o vs (c++e)=stV o vs c++e
 | _,[],c,e,_=>by simp [stV]
 | 0,v::vs,[],e,h=>by simp at h
 | 0,v::vs,x::c,e,h=>by
  simp only [List.cons_append,stV]
  rw [Zhi 0 vs c e (by simp at h; omega)]
 | o+1,v::vs,[],e,h=>by simp at h
 | o+1,v::vs,x::c,e,h=>by
  simp only [List.cons_append,stV]
  rw [Zhi o (v::vs) c e (by simp at h ⊢; omega)]
theorem Zk4 {z:Nat} (hf:∀ a,(f a).length=z) (vs:List V) (ho:off+vs.length≤z) (a':α) (hc:stV off vs ((f a).map V.d)=(f a').map V.d):∀ (xs:List α) (m:Nat),xs[m]?=some a→stV (m * z+off) vs ((xs.flatMap f).map V.d)=((xs.set m a').flatMap f).map V.d
 | [],m,h=>by simp at h
 | b::l,0,h=>by
  obtain rfl:b=a:=by simpa using h
  rw [Nat.zero_mul,Nat.zero_add,List.flatMap_cons,List.map_append,Zhi _ _ _ _ (by rw [List.length_map,hf]; exact ho),hc,List.set_cons_zero,List.flatMap_cons,List.map_append]
 | b::l,m+1,h=>by
  have ih:=Zk4 hf vs ho a' hc l m (by simpa using h)
  have e:(m+1) * z+off=((f b).map V.d).length+(m * z+off):=by rw [List.length_map,hf,Nat.succ_mul]; omega
  rw [List.flatMap_cons,List.map_append,e,Zm0,ih,List.set_cons_succ,List.flatMap_cons,List.map_append]
theorem ZhQ {ys:List α} (hg:Yn xs i=some a) (he:xs.set i.toNat a'=ys) [hL:Len f zz] (hop:o.op=.store T x y) (hx:ev sl x=some (.e k (i.toNat * zz+off))) (hy:ev sl y=some u) (hH:look H k=some (some (YH E zz f xs))) (hT:Ty P T n ag) (hl:(Nat.ble (off+n) zz && (Zn u).length == n && (Zn u).all cellV && Nat.blt 0 n)=true)
   (hc:stV off (Zn u) ((f a).map V.d)=(f a').map V.d):OpD P o H sl 0 0 .un [(k,some (YH E zz f ys))]:=by
 subst he
 simp only [Bool.and_eq_true,Nat.ble_eq,beq_iff_eq] at hl
 obtain ⟨⟨⟨h1,h2⟩,h3⟩,h4⟩:=hl
 have h5:=Zm7 hL.len hg
 obtain ⟨m,rfl,h6⟩:=Zc9 hg
 have hs:=Zk4 hL.len (Zn u) (by rw [h2]; exact h1) a' hc xs m h6
 rw [Int.toNat_natCast] at hx h5
 have hst:=Zp3 (H:=H) (sl:=sl) hop hx hy hH hT (by rw [List.length_map]; omega) (by simp [h2,h3]) (Zcy h4) hs
 unfold YH
 rw [List.length_set,Int.toNat_natCast]
 exact hst
end
section
variable {Γ:Cx} {k:Zbw} {sl:List (Nat × V)} {hp:Hp} {o:Oper} {ops:Array Oper} {i an d:Nat} {ts:List Nat} {r:List PI} {F:List Ft} {x y:Operand} {T E t:TypeId} {zz bytes n off kk:Nat} {j:Int} {ag:Bool} {α:Type} {f:α→List D} {xs ys:List α} {a a':α} {u:V}
theorem ZtP (hg:Yn xs j=some a) [hS:Sl Γ.P t E zz bytes] (hop:o.op=.indexAddr t x y) (hx:ev (keep ts sl) x=some (.h kk)) (hy:ev (keep ts sl) y=some (vI j)) (hH:look hp kk=some (some (YH E zz f xs))) (hd:o.dst=some d) (hw:Wt ops o (keep ts sl) true) (hdl:Nat.blt d Γ.nt=true) (hf:okF ⟨⟨i,an,ts⟩,[kk],[],0,0⟩ F=true)
   (hk:WD Γ ops k r (⟨⟨i,an,ts⟩,[kk],[],0,0⟩::F) ⟨(d,.e kk (j.toNat * zz))::sl,hp⟩):WO Γ ops k o i an ts r F ⟨sl,hp⟩ :=
 Ye [kk] (Zti hg hop hx hy (by rw [ZeT]; exact hH)) hd hw hdl hf hk
theorem ZhT (hg:Yn xs j=some a) [hL:Len f zz] (hop:o.op=.load T x) (hx:ev (keep ts sl) x=some (.e kk (j.toNat * zz+off))) (hH:look hp kk=some (some (YH E zz f xs))) (hT:Ty Γ.P T n ag) (hl:(Nat.ble (off+n) zz && (ag || n == 1))=true) (hu:ldE ag n off (f a)=some u) (hd:o.dst=some d) (hw:Wt ops o (keep ts sl) true) (hdl:Nat.blt d Γ.nt=true) (hf:okF ⟨⟨i,an,ts⟩,[kk],[],0,0⟩ F=true)
   (hk:WD Γ ops k r (⟨⟨i,an,ts⟩,[kk],[],0,0⟩::F) ⟨(d,u)::sl,hp⟩):WO Γ ops k o i an ts r F ⟨sl,hp⟩ :=
 Ye [kk] (ZhL hg hop hx (by rw [ZeT]; exact hH) hT hl hu) hd hw hdl hf hk
theorem ZtR {lo hi:Option Operand} {l1:List α} {j2:Int} (hg:lsl xs j j2=some l1) [hS:Sl Γ.P t E zz bytes] [hL:Len f zz] (hop:o.op=.slice t x lo hi none) (hx:ev (keep ts sl) x=some (.h kk)) (hH:look hp kk=some (some (YH E zz f xs))) (hlo:evo (keep ts sl) 0 lo=some (vI j)) (hhi:evo (keep ts sl) (xs.length:Int) hi=some (vI j2)) (hd:o.dst=some d) (hw:Wt ops o (keep ts sl) true) (hdl:Nat.blt d Γ.nt=true) (hf:okF ⟨⟨i,an,ts⟩,[kk],[],0,0⟩ F=true)
   (hk:WD Γ ops k r (⟨⟨i,an,ts⟩,[kk],[],0,0⟩::F) ⟨(d,.s kk j.toNat l1.length zz)::sl,hp⟩):WO Γ ops k o i an ts r F ⟨sl,hp⟩ :=
 Ye [kk] (ZsA hg hop hx (by rw [ZeT]; exact hH) hlo hhi) hd hw hdl hf hk
theorem Zt4 {l1 l2 rr:List α} {j2 b:Int} {k':Nat} (ha:apd xs l1 l2=some rr) (h1:lsl xs 0 b=some l1) (h2:lsl xs j j2=some l2) [hS:Sl Γ.P t E zz bytes] [hL:Len f zz] (hop:o.op=.call { callee:=.builtin .append,args:=#[x,y],argTypes:=#[t,t] }) (hd:o.dst=some d) (hkd:d+100=k') (hx:ev (keep ts sl) x=some (.s kk 0 l1.length zz)) (hy:ev (keep ts sl) y=some (.s kk j.toNat l2.length zz)) (hH:look hp kk=some (some (YH E zz f xs)))
   (hkk:(!Nat.beq kk k')=true) (hw:Wt ops o (keep ts sl) true) (hdl:Nat.blt d Γ.nt=true) (hfr:ZR hp k' 1=true) (hfo:okF ⟨⟨i,an,ts⟩,[kk],[kk,k'],k',1⟩ F=true)
   (hk:WD Γ ops k r (⟨⟨i,an,ts⟩,[kk],[kk,k'],k',1⟩::F) ⟨(d,.h k')::sl,(kk,none)::(k',some (YH E zz f rr))::hp⟩):WO Γ ops k o i an ts r F ⟨sl,hp⟩ :=
 Zwa [kk] (Zvh ha h1 h2 hop hd hkd hx hy (by rw [ZeT]; exact hH) hkk) hd hw hdl hfr hfo hk
theorem Zj1 (hg:Yn xs j=some a) (he:xs.set j.toNat a'=ys) [hL:Len f zz] (hop:o.op=.store T x y) (hx:ev (keep ts sl) x=some (.e kk (j.toNat * zz+off))) (hy:ev (keep ts sl) y=some u) (hH:look hp kk=some (some (YH E zz f xs))) (hT:Ty Γ.P T n ag) (hl:(Nat.ble (off+n) zz && (Zn u).length == n && (Zn u).all cellV && Nat.blt 0 n)=true)
   (hc:stV off (Zn u) ((f a).map V.d)=(f a').map V.d) (hd:o.dst=none) (hw:Wt ops o (keep ts sl) true) (hf:okF ⟨⟨i,an,ts⟩,[kk],[kk],0,0⟩ F=true)
   (hk:WD Γ ops k r (⟨⟨i,an,ts⟩,[kk],[kk],0,0⟩::F) ⟨sl,(kk,some (YH E zz f ys))::hp⟩):WO Γ ops k o i an ts r F ⟨sl,hp⟩ :=
 Zv4 [kk] (ZhQ hg he hop hx hy (by rw [ZeT]; exact hH) hT hl hc) hd hw hf hk
end
theorem Vw.fp0 {H:Hp} {f:List (Nat × Nat)} {k:Nat} {T:TypeId} {cs:List V} {xs:List D} (hk:(f.map (·.2)).contains k=false) (hH:look H k=some (some (.box T cs))) (hc:Vws H f cs (xs.map .d)):Vw H f (.p k 0) (.q xs):=.fp hk hH hc rfl
theorem si {P:Program} {f:FuncId} {us:List V} {H0:Hp} {Ψ:V→Hp→Prop} {fn:Func} {c:Code} {rs:List ResultVar} {nt:Nat} {sl:List (Nat × V)} {ks:List Nat} (hf:P.funcs[f]?=some fn) (hnt:fn.ntmps=nt) (hrs:fn.results=rs.toArray) (hw:∀ B w0 ρ0,WC ⟨P,B,w0,ρ0,ks,nt⟩ c (.fn (ZeU P ks rs Ψ)) ⟨sl,H0⟩)
   (hsl : slots 0 us = sl := by simp only [slots, Nat.reduceAdd]; exact rfl) (hks : H0.map (·.1) = ks := by simp only [List.map_nil, List.map_cons]; exact rfl) (hn : (fn.name == "runtime.NumGoroutine") = false := by rfl) (hb : fn.body = some c := by rfl) (hl : Nat.ble us.length nt = true := by rfl) : Spec P f us H0 Ψ := by
 subst hsl hks
 exact Spec.intro hf hn hb hnt hrs hl hw
section
variable {Γ:Cx} {P:Program} {ks:List Nat} {rs:List ResultVar} {Ψ:V→Hp→Prop} {st st':St} {us:List V} {u:V} {h:Hp} {k:Zbw} {n m:Nat}
theorem Zi0 (h1:ZhG st rs=some us:=by rfl) (h2:ZhI P st rs:=by (repeat (first | exact trivial | refine Zv rfl rfl (by exact inferInstance) ?_))) (hp:ZeV ks st [] []=true:=by rfl) (h3:Vw st.hp [] (one us) u:=by (first | exact Vw.nil | exact Vw.d _ | (repeat (first | exact Vws.nil | apply Vws.cons | exact Vw.nil | exact Vw.d _ | apply Vw.a | apply Vw.t | exact Vw.fh rfl rfl (Zd _) | exact Vw.fh rfl rfl Vws.nil)); done)):WK Γ (.fn (ZeU P ks rs fun u' h'=>u'=u∧h'=[])) .ret st:=Y0 h1 h2 hp h3 ⟨rfl,rfl⟩
theorem ZhM (h1:ZhG st rs=some us:=by rfl) (h2:ZhI P st rs:=by (repeat (first | exact trivial | refine Zv rfl rfl (by exact inferInstance) ?_))) (hp:ZeV ks st [] []=true:=by rfl) (h3:Vw st.hp [] (one us) u:=by (first | exact Vw.nil | exact Vw.d _ | (repeat (first | exact Vws.nil | apply Vws.cons | exact Vw.nil | exact Vw.d _ | apply Vw.a | apply Vw.t | exact Vw.fh rfl rfl (Zd _) | exact Vw.fh rfl rfl Vws.nil)); done)):WK Γ (.fn (ZeU P ks rs fun u' h'=>u'=u∧h'=[])) .normal st:=Yd h1 h2 hp h3 ⟨rfl,rfl⟩
theorem Zr7 (f:List (Nat × Nat)) (h4:Ψ u h) (h1:ZhG st rs=some us:=by rfl) (h2:ZhI P st rs:=by (repeat (first | exact trivial | refine Zv rfl rfl (by exact inferInstance) ?_))) (hp:ZeV ks st f h=true:=by rfl) (h3:Vw st.hp f (one us) u:=by (first | exact Vw.nil | exact Vw.d _ | (repeat (first | exact Vws.nil | apply Vws.cons | exact Vw.nil | exact Vw.d _ | exact Vw.h rfl | exact Vw.p rfl | apply Vw.a | apply Vw.t | exact Vw.fh rfl rfl (Zd _) | exact Vw.fh rfl rfl Vws.nil)); done)) (h5:VH st.hp st.hp f h:=by repeat (first | refine VH.cons rfl rfl YX ?_ | refine VH.cons0 ?_ | refine VH.cons rfl rfl (Vb.ob _) ?_ | exact VS.nil | exact VH.nil | exact Vws.nil | refine VS.cons rfl ?_ ?_ | refine VH.cons rfl rfl (Vb.box ?_) ?_ | refine VH.cons rfl rfl (Vb.arr ?_) ?_ | exact Zd _ | refine Vws.cons ?_ ?_ | exact Vw.d _ | exact Vw.p rfl | exact Vw.h rfl | exact Vw.e rfl | exact Vw.s rfl | exact Vw.q _ | refine Vw.a ?_ | refine Vw.t ?_ | exact Vw.nil | exact Vw.fh rfl rfl (Zd _) | exact Vw.fe rfl rfl (Zd _) (QV (by assumption)) | exact Vw.fe rfl rfl (Zd _) (YW (by assumption)) | refine Vw.fp0 rfl rfl ?_ | exact Vw.mp rfl | refine VH.cons rfl rfl (Vb.mt _ _) ?_ | exact Vw.sc rfl | exact Vw.un _)):WK Γ (.fn (ZeU P ks rs Ψ)) .ret st:=ZmQ f h1 h2 hp h3 h5 h4
theorem ZnK (f:List (Nat × Nat)) (h4:Ψ u h) (h1:ZhG st rs=some us:=by rfl) (h2:ZhI P st rs:=by (repeat (first | exact trivial | refine Zv rfl rfl (by exact inferInstance) ?_))) (hp:ZeV ks st f h=true:=by rfl) (h3:Vw st.hp f (one us) u:=by (first | exact Vw.nil | exact Vw.d _ | (repeat (first | exact Vws.nil | apply Vws.cons | exact Vw.nil | exact Vw.d _ | exact Vw.h rfl | exact Vw.p rfl | apply Vw.a | apply Vw.t | exact Vw.fh rfl rfl (Zd _) | exact Vw.fh rfl rfl Vws.nil)); done)) (h5:VH st.hp st.hp f h:=by repeat (first | refine VH.cons rfl rfl YX ?_ | refine VH.cons0 ?_ | refine VH.cons rfl rfl (Vb.ob _) ?_ | exact VS.nil | exact VH.nil | exact Vws.nil | refine VS.cons rfl ?_ ?_ | refine VH.cons rfl rfl (Vb.box ?_) ?_ | refine VH.cons rfl rfl (Vb.arr ?_) ?_ | exact Zd _ | refine Vws.cons ?_ ?_ | exact Vw.d _ | exact Vw.p rfl | exact Vw.h rfl | exact Vw.e rfl | exact Vw.s rfl | exact Vw.q _ | refine Vw.a ?_ | refine Vw.t ?_ | exact Vw.nil | exact Vw.fh rfl rfl (Zd _) | exact Vw.fe rfl rfl (Zd _) (QV (by assumption)) | exact Vw.fe rfl rfl (Zd _) (YW (by assumption)) | refine Vw.fp0 rfl rfl ?_ | exact Vw.mp rfl | refine VH.cons rfl rfl (Vb.mt _ _) ?_ | exact Vw.sc rfl | exact Vw.un _)):WK Γ (.fn (ZeU P ks rs Ψ)) .normal st:=Zi7 (Wk.refl _ _) ⟨us,f,u,h,h1,h2,hp,h3,h5,h4⟩
theorem Zef {I:St→Prop} (f:List (Nat × Nat)) (h:I st') (hal:XW st.hp f=true:=by rfl) (hol:olds f=true:=by rfl) (hks:(Γ.ks.all fun k=>match look f k with | some k'=>Nat.beq k k' | none=>false)=true:=by rfl) (hd:(f.all fun e=>(look st'.hp e.1).isSome)=true:=by rfl) (hs:VS st.hp f st.sl st'.sl:=by repeat (first | refine VH.cons rfl rfl YX ?_ | refine VH.cons0 ?_ | refine VH.cons rfl rfl (Vb.ob _) ?_ | exact VS.nil | exact VH.nil | exact Vws.nil | refine VS.cons rfl ?_ ?_ | refine VH.cons rfl rfl (Vb.box ?_) ?_ | refine VH.cons rfl rfl (Vb.arr ?_) ?_ | exact Zd _ | refine Vws.cons ?_ ?_ | exact Vw.d _ | exact Vw.p rfl | exact Vw.h rfl | exact Vw.e rfl | exact Vw.s rfl | exact Vw.q _ | refine Vw.a ?_ | refine Vw.t ?_ | exact Vw.nil | exact Vw.fh rfl rfl (Zd _) | exact Vw.fe rfl rfl (Zd _) (QV (by assumption)) | exact Vw.fe rfl rfl (Zd _) (YW (by assumption)) | refine Vw.fp0 rfl rfl ?_ | exact Vw.mp rfl | refine VH.cons rfl rfl (Vb.mt _ _) ?_ | exact Vw.sc rfl | exact Vw.un _)) (hh:VH st.hp st.hp f st'.hp:=by repeat (first | refine VH.cons rfl rfl YX ?_ | refine VH.cons0 ?_ | refine VH.cons rfl rfl (Vb.ob _) ?_ | exact VS.nil | exact VH.nil | exact Vws.nil | refine VS.cons rfl ?_ ?_ | refine VH.cons rfl rfl (Vb.box ?_) ?_ | refine VH.cons rfl rfl (Vb.arr ?_) ?_ | exact Zd _ | refine Vws.cons ?_ ?_ | exact Vw.d _ | exact Vw.p rfl | exact Vw.h rfl | exact Vw.e rfl | exact Vw.s rfl | exact Vw.q _ | refine Vw.a ?_ | refine Vw.t ?_ | exact Vw.nil | exact Vw.fh rfl rfl (Zd _) | exact Vw.fe rfl rfl (Zd _) (QV (by assumption)) | exact Vw.fe rfl rfl (Zd _) (YW (by assumption)) | refine Vw.fp0 rfl rfl ?_ | exact Vw.mp rfl | refine VH.cons rfl rfl (Vb.mt _ _) ?_ | exact Vw.sc rfl | exact Vw.un _)):WK Γ (.cut I k) .normal st:=Ze7 (wk f hal hol hks hd hs hh) h
theorem ZaE {I:Nat→St→Prop} (f:List (Nat × Nat)) (h:I m st') (hm:m<n) (hal:XW st.hp f=true:=by rfl) (hol:olds f=true:=by rfl) (hks:(Γ.ks.all fun k=>match look f k with | some k'=>Nat.beq k k' | none=>false)=true:=by rfl) (hd:(f.all fun e=>(look st'.hp e.1).isSome)=true:=by rfl) (hs:VS st.hp f st.sl st'.sl:=by repeat (first | refine VH.cons rfl rfl YX ?_ | refine VH.cons0 ?_ | refine VH.cons rfl rfl (Vb.ob _) ?_ | exact VS.nil | exact VH.nil | exact Vws.nil | refine VS.cons rfl ?_ ?_ | refine VH.cons rfl rfl (Vb.box ?_) ?_ | refine VH.cons rfl rfl (Vb.arr ?_) ?_ | exact Zd _ | refine Vws.cons ?_ ?_ | exact Vw.d _ | exact Vw.p rfl | exact Vw.h rfl | exact Vw.e rfl | exact Vw.s rfl | exact Vw.q _ | refine Vw.a ?_ | refine Vw.t ?_ | exact Vw.nil | exact Vw.fh rfl rfl (Zd _) | exact Vw.fe rfl rfl (Zd _) (QV (by assumption)) | exact Vw.fe rfl rfl (Zd _) (YW (by assumption)) | refine Vw.fp0 rfl rfl ?_ | exact Vw.mp rfl | refine VH.cons rfl rfl (Vb.mt _ _) ?_ | exact Vw.sc rfl | exact Vw.un _)) (hh:VH st.hp st.hp f st'.hp:=by repeat (first | refine VH.cons rfl rfl YX ?_ | refine VH.cons0 ?_ | refine VH.cons rfl rfl (Vb.ob _) ?_ | exact VS.nil | exact VH.nil | exact Vws.nil | refine VS.cons rfl ?_ ?_ | refine VH.cons rfl rfl (Vb.box ?_) ?_ | refine VH.cons rfl rfl (Vb.arr ?_) ?_ | exact Zd _ | refine Vws.cons ?_ ?_ | exact Vw.d _ | exact Vw.p rfl | exact Vw.h rfl | exact Vw.e rfl | exact Vw.s rfl | exact Vw.q _ | refine Vw.a ?_ | refine Vw.t ?_ | exact Vw.nil | exact Vw.fh rfl rfl (Zd _) | exact Vw.fe rfl rfl (Zd _) (QV (by assumption)) | exact Vw.fe rfl rfl (Zd _) (YW (by assumption)) | refine Vw.fp0 rfl rfl ?_ | exact Vw.mp rfl | refine VH.cons rfl rfl (Vb.mt _ _) ?_ | exact Vw.sc rfl | exact Vw.un _)):WK Γ (.loop I n k) .normal st:=ZaS m (wk f hal hol hks hd hs hh) hm h
theorem Zky (I:Nat→St→Prop) {x:Code} (f:List (Nat × Nat)) (h0:I n st') (hr:∀ n st,I n st→WC Γ x (.loop I n k) st) (hal:XW st.hp f=true:=by rfl) (hol:olds f=true:=by rfl) (hks:(Γ.ks.all fun k=>match look f k with | some k'=>Nat.beq k k' | none=>false)=true:=by rfl) (hd:(f.all fun e=>(look st'.hp e.1).isSome)=true:=by rfl) (hs:VS st.hp f st.sl st'.sl:=by repeat (first | refine VH.cons rfl rfl YX ?_ | refine VH.cons0 ?_ | refine VH.cons rfl rfl (Vb.ob _) ?_ | exact VS.nil | exact VH.nil | exact Vws.nil | refine VS.cons rfl ?_ ?_ | refine VH.cons rfl rfl (Vb.box ?_) ?_ | refine VH.cons rfl rfl (Vb.arr ?_) ?_ | exact Zd _ | refine Vws.cons ?_ ?_ | exact Vw.d _ | exact Vw.p rfl | exact Vw.h rfl | exact Vw.e rfl | exact Vw.s rfl | exact Vw.q _ | refine Vw.a ?_ | refine Vw.t ?_ | exact Vw.nil | exact Vw.fh rfl rfl (Zd _) | exact Vw.fe rfl rfl (Zd _) (QV (by assumption)) | exact Vw.fe rfl rfl (Zd _) (YW (by assumption)) | refine Vw.fp0 rfl rfl ?_ | exact Vw.mp rfl | refine VH.cons rfl rfl (Vb.mt _ _) ?_ | exact Vw.sc rfl | exact Vw.un _)) (hh:VH st.hp st.hp f st'.hp:=by repeat (first | refine VH.cons rfl rfl YX ?_ | refine VH.cons0 ?_ | refine VH.cons rfl rfl (Vb.ob _) ?_ | exact VS.nil | exact VH.nil | exact Vws.nil | refine VS.cons rfl ?_ ?_ | refine VH.cons rfl rfl (Vb.box ?_) ?_ | refine VH.cons rfl rfl (Vb.arr ?_) ?_ | exact Zd _ | refine Vws.cons ?_ ?_ | exact Vw.d _ | exact Vw.p rfl | exact Vw.h rfl | exact Vw.e rfl | exact Vw.s rfl | exact Vw.q _ | refine Vw.a ?_ | refine Vw.t ?_ | exact Vw.nil | exact Vw.fh rfl rfl (Zd _) | exact Vw.fe rfl rfl (Zd _) (QV (by assumption)) | exact Vw.fe rfl rfl (Zd _) (YW (by assumption)) | refine Vw.fp0 rfl rfl ?_ | exact Vw.mp rfl | refine VH.cons rfl rfl (Vb.mt _ _) ?_ | exact Vw.sc rfl | exact Vw.un _)):WC Γ (.loop x) k st:=Za2 I n st' (wk f hal hol hks hd hs hh) h0 hr
end
section
variable {Γ:Cx} {k:Zbw} {x:Code} {st st':St} {sl:List (Nat × V)} {hp:Hp} {o:Oper} {ops:Array Oper} {d:Nat} {f:FuncId} {us uc:List V} {y:Operand} {xs:Array Operand} {ats:Array TypeId} {u:V} {rest:List Oper} {blk blk0 blk':Blk}
theorem Zub (f:List (Nat × Nat)) (st':St) (h:WC Γ x k st') (hal:XW st.hp f=true:=by rfl) (hol:olds f=true:=by rfl) (hks:(Γ.ks.all fun k=>match look f k with | some k'=>Nat.beq k k' | none=>false)=true:=by rfl) (hd:(f.all fun e=>(look st'.hp e.1).isSome)=true:=by rfl) (hs:VS st.hp f st.sl st'.sl:=by repeat (first | refine VH.cons rfl rfl YX ?_ | refine VH.cons0 ?_ | refine VH.cons rfl rfl (Vb.ob _) ?_ | exact VS.nil | exact VH.nil | exact Vws.nil | refine VS.cons rfl ?_ ?_ | refine VH.cons rfl rfl (Vb.box ?_) ?_ | refine VH.cons rfl rfl (Vb.arr ?_) ?_ | exact Zd _ | refine Vws.cons ?_ ?_ | exact Vw.d _ | exact Vw.p rfl | exact Vw.h rfl | exact Vw.e rfl | exact Vw.s rfl | exact Vw.q _ | refine Vw.a ?_ | refine Vw.t ?_ | exact Vw.nil | exact Vw.fh rfl rfl (Zd _) | exact Vw.fe rfl rfl (Zd _) (QV (by assumption)) | exact Vw.fe rfl rfl (Zd _) (YW (by assumption)) | refine Vw.fp0 rfl rfl ?_ | exact Vw.mp rfl | refine VH.cons rfl rfl (Vb.mt _ _) ?_ | exact Vw.sc rfl | exact Vw.un _)) (hh:VH st.hp st.hp f st'.hp:=by repeat (first | refine VH.cons rfl rfl YX ?_ | refine VH.cons0 ?_ | refine VH.cons rfl rfl (Vb.ob _) ?_ | exact VS.nil | exact VH.nil | exact Vws.nil | refine VS.cons rfl ?_ ?_ | refine VH.cons rfl rfl (Vb.box ?_) ?_ | refine VH.cons rfl rfl (Vb.arr ?_) ?_ | exact Zd _ | refine Vws.cons ?_ ?_ | exact Vw.d _ | exact Vw.p rfl | exact Vw.h rfl | exact Vw.e rfl | exact Vw.s rfl | exact Vw.q _ | refine Vw.a ?_ | refine Vw.t ?_ | exact Vw.nil | exact Vw.fh rfl rfl (Zd _) | exact Vw.fe rfl rfl (Zd _) (QV (by assumption)) | exact Vw.fe rfl rfl (Zd _) (YW (by assumption)) | refine Vw.fp0 rfl rfl ?_ | exact Vw.mp rfl | refine VH.cons rfl rfl (Vb.mt _ _) ?_ | exact Vw.sc rfl | exact Vw.un _)):WC Γ x k st:=ZbQ (wk f hal hol hks hd hs hh) h
theorem Zi6 (hs:Spec Γ.P f us [] fun u1 h1=>u1=u∧h1=[]) (hk:WL Γ ops rest k ⟨(d,u)::sl,hp⟩) (hop:o.op=.call { callee:=.value y,args:=xs,argTypes:=ats }:=by rfl) (hx:ev sl y=some (.d (.c (.func (.func f) #[] #[]))):=by rfl) (ha:evl sl xs.toList=some uc:=by rfl) (hv:Vws [] [] uc us:=by ((repeat (first | exact Vws.nil | apply Vws.cons | exact Vw.nil | exact Vw.d _ | exact Vw.q _ | apply Vw.a)); first | done | fail)) (hu:u.ren (rn [] 100000)=u:=by rfl)
 (hg:o.guard=none:=by rfl) (hd:o.dst=some d:=by rfl) (hdl:Nat.blt d Γ.nt=true:=by rfl) (hf:ZR hp 100000 100=true:=by rfl):WL Γ ops (o::rest) k ⟨sl,hp⟩:=Zvd hs hop hx ha hv hu hg hd hdl hf hk
theorem Znm (hs:Spec Γ.P f us [] fun u1 h1=>u1=u∧h1=[]) (hk:WL Γ ops rest k ⟨(d,u)::sl,hp⟩) (hop:o.op=.call { callee:=.value y,args:=xs,argTypes:=ats }:=by rfl) (hx:ev sl y=some (.d (.c (.func (.func f) #[] #[]))):=by rfl) (ha:evl sl xs.toList=some uc:=by rfl) (hv:Vws hp [] uc us:=by ((repeat (first | exact Vws.nil | apply Vws.cons | exact Vw.nil | exact Vw.d _ | exact Vw.q _ | apply Vw.a | exact Vw.fh rfl rfl (Zd _) | exact Vw.fh rfl rfl Vws.nil)); first | done | fail)) (hu:ClV u:=by ((repeat (first | exact Zmh.nil | apply Zmh.cons | exact ClV.c _ | apply ClV.a | apply ClV.t)); first | done | fail))
 (hg:o.guard=none:=by rfl) (hd:o.dst=some d:=by rfl) (hdl:Nat.blt d Γ.nt=true:=by rfl) (hf:ZR hp 100000 100=true:=by rfl):WL Γ ops (o::rest) k ⟨sl,hp⟩:=Zrd (Ztz hs hop hx ha hv hu) hg hd hdl hf hk
theorem Zs7 (hs:Spec Γ.P f us [(0,some blk)] fun u1 h1=>u1=u∧h1=[(0,some blk')]) (kt:Nat) (hk:WL Γ ops rest k ⟨(d,u)::sl,(kt,some blk')::hp⟩) (hop:o.op=.call { callee:=.value y,args:=xs,argTypes:=ats }:=by rfl) (hx:ev sl y=some (.d (.c (.func (.func f) #[] #[]))):=by rfl) (ha:evl sl xs.toList=some uc:=by rfl) (hv:Vws [] [(0,kt)] uc us:=by ((repeat (first | exact Vws.nil | apply Vws.cons | exact Vw.nil | exact Vw.d _ | exact Vw.q _ | exact Vw.p rfl | apply Vw.a)); first | done | fail))
 (hH:look hp kt=some (some blk0):=by rfl) (hb:Vb [] [(0,kt)] blk0 blk:=by (refine Vb.box ?_; (repeat (first | exact Vws.nil | apply Vws.cons | exact Vw.nil | exact Vw.d _ | exact Vw.q _ | exact Vw.p rfl | apply Vw.a)); first | done | fail)) (hu:u.ren (rn [(0,kt)] 100000)=u:=by rfl) (hb':blk'.ren (rn [(0,kt)] 100000)=blk':=by rfl)
 (hg:o.guard=none:=by rfl) (hd:o.dst=some d:=by rfl) (hdl:Nat.blt d Γ.nt=true:=by rfl) (hf:ZR hp 100000 100=true:=by rfl):WL Γ ops (o::rest) k ⟨sl,hp⟩:=Zvm hs kt hop hx ha hv hH hb hu hb' hg hd hdl hf hk
end
theorem sl {g h:Prop} (k:h) (f:h→g:=by (first | (apply ZvX; first | exact ZqX | exact Zgo | exact ZkR | exact Zgm | exact Ziq | exact Zkz | exact Zgj | exact Zgp rfl | exact Zin | exact ZkF | exact Zkw) | (apply Zwb; first | (apply Zv7; first | exact ZsK rfl rfl rfl | exact ZqM rfl rfl rfl rfl rfl rfl rfl | exact ZsO rfl rfl rfl rfl rfl rfl) | exact ZqS | (apply Zs9; first | exact ZJ (Zj2 rfl rfl) rfl rfl rfl) | (apply Zs3; first | exact ZJ (Ze9 rfl rfl) rfl rfl rfl) | (apply Zts; first | exact ZJ (o_load rfl rfl rfl (by exact inferInstance) rfl (by simp only [Qd,stV,Zn,ldC,ldE,cond_true,cond_false,List.map_cons,List.map_nil,List.drop_zero,List.drop_succ_cons,List.take_succ_cons,List.take_zero,List.getElem?_cons_zero,List.getElem?_cons_succ,Nat.reduceAdd,Option.map_some]; exact rfl)) rfl rfl rfl | exact ZJ (ZgV rfl rfl (by exact inferInstance) rfl (by simp only [Qd,stV,Zn,ldC,ldE,cond_true,cond_false,List.map_cons,List.map_nil,List.drop_zero,List.drop_succ_cons,List.take_succ_cons,List.take_zero,List.getElem?_cons_zero,List.getElem?_cons_succ,Nat.reduceAdd,Option.map_some]; exact rfl)) rfl rfl rfl | exact ZJ (ZgT rfl rfl rfl (by exact inferInstance) rfl (by simp only [Qd,stV,Zn,ldC,ldE,cond_true,cond_false,List.map_cons,List.map_nil,List.drop_zero,List.drop_succ_cons,List.take_succ_cons,List.take_zero,List.getElem?_cons_zero,List.getElem?_cons_succ,Nat.reduceAdd,Option.map_some]; exact rfl)) rfl rfl rfl) | (apply Zs0; first | exact ZJ (Zuj rfl rfl) rfl rfl rfl | exact ZJ (Zo8 rfl rfl (by first | (simp only [List.drop_zero,List.drop_succ_cons]; exact rfl) | (conv=>lhs; whnf))) rfl rfl rfl | exact ZJ (Zpc rfl rfl) rfl rfl rfl) | (apply ZsZ; first | exact ZJ (Zj9 rfl rfl rfl) rfl rfl rfl) | (apply Zs8; first | exact ZJ (ZhO rfl rfl rfl rfl) rfl rfl rfl | exact ZJ (Zpe rfl rfl rfl rfl) rfl rfl rfl | exact ZJ (Zpa rfl rfl rfl) rfl rfl rfl | exact ZJ (ZpD rfl rfl rfl) rfl rfl rfl | exact ZJ (ZpC rfl rfl rfl) rfl rfl rfl | exact ZJ (Zpp rfl rfl rfl) rfl rfl rfl | exact ZJ (Zpf rfl rfl rfl) rfl rfl rfl | exact ZJ (Zpt rfl rfl rfl) rfl rfl rfl | exact ZJ (Zpn rfl rfl rfl) rfl rfl rfl | exact ZJ (Zpm rfl rfl rfl) rfl rfl rfl | exact ZJ (Zpd rfl rfl rfl) rfl rfl rfl | exact ZJ (ZpA rfl rfl rfl) rfl rfl rfl | exact ZJ (Zpl rfl rfl rfl) rfl rfl rfl | exact ZJ (Zpb rfl rfl rfl) rfl rfl rfl | exact ZJ (Zpz rfl rfl rfl (by kernel_rfl)) rfl rfl rfl | exact ZJ (Zpy rfl rfl rfl (by kernel_rfl)) rfl rfl rfl | exact ZJ (Zpi rfl rfl rfl (by simp only [ccV,Option.map_some]; exact rfl) (by simp only [ccV,Option.map_some]; exact rfl) (by exact inferInstance)) rfl rfl rfl | exact ZJ (Zpq rfl rfl rfl (by simp only [ccV,Option.map_some]; exact rfl) (by simp only [ccV,Option.map_some]; exact rfl) (by exact inferInstance)) rfl rfl rfl) | (apply Ztq; first | exact ZJ (Zo9 rfl rfl) rfl rfl rfl | exact ZJ (Zpk rfl rfl rfl) rfl rfl rfl) | (apply Ztr; first | exact ZJ (ZdM rfl rfl rfl) rfl rfl rfl) | (apply ZsS; first | exact ZJ (Zg7 rfl rfl rfl (by simp only [Qd,stV,Zn,ldC,ldE,cond_true,cond_false,List.map_cons,List.map_nil,List.drop_zero,List.drop_succ_cons,List.take_succ_cons,List.take_zero,List.getElem?_cons_zero,List.getElem?_cons_succ,Nat.reduceAdd,Option.map_some]; exact rfl)) rfl rfl rfl | exact ZJ (Zfd rfl rfl rfl (by simp only [Qd,stV,Zn,ldC,ldE,cond_true,cond_false,List.map_cons,List.map_nil,List.drop_zero,List.drop_succ_cons,List.take_succ_cons,List.take_zero,List.getElem?_cons_zero,List.getElem?_cons_succ,Nat.reduceAdd,Option.map_some]; exact rfl)) rfl rfl rfl) | (apply ZsC; first | exact ZJ (ZgS rfl rfl) rfl rfl rfl | exact ZJ (Zjs rfl rfl rfl) rfl rfl rfl | exact ZJ (Zg3 rfl rfl (by kernel_rfl)) rfl rfl rfl | exact ZJ (ZgR rfl rfl) rfl rfl rfl | exact ZJ (ZgL rfl rfl) rfl rfl rfl | exact ZJ (Zps rfl rfl rfl) rfl rfl rfl | exact ZJ (Zo7 rfl rfl rfl) rfl rfl rfl) | (apply Zth; first | exact Zoz (lo:=0) (nn:=0) (Zjj rfl rfl rfl rfl (by exact inferInstance) rfl (by simp only [Qd,stV,Zn,ldC,ldE,cond_true,cond_false,List.map_cons,List.map_nil,List.drop_zero,List.drop_succ_cons,List.take_succ_cons,List.take_zero,List.getElem?_cons_zero,List.getElem?_cons_succ,Nat.reduceAdd,Option.map_some]; exact rfl)) rfl rfl (Q5 _ _)) | (apply Zto; exact Zmg (ZgK rfl rfl (by simp only [Nat.reduceAdd]; exact rfl) (by exact Yb.out) rfl rfl) rfl rfl rfl rfl) | (apply Zs2; exact Zmg (ZpB rfl rfl (by simp only [Nat.reduceAdd]; exact rfl) rfl rfl (by simp only [Zn]; exact rfl)) rfl rfl rfl rfl) | exact ZJ (Zg0 rfl rfl rfl (by simp only [Qd,stV,Zn,ldC,ldE,cond_true,cond_false,List.map_cons,List.map_nil,List.drop_zero,List.drop_succ_cons,List.take_succ_cons,List.take_zero,List.getElem?_cons_zero,List.getElem?_cons_succ,Nat.reduceAdd,Option.map_some]; exact rfl)) rfl rfl rfl | exact ZJ (Zka rfl rfl) rfl rfl rfl | exact ZJ (Zpo rfl rfl rfl (by kernel_rfl) (by first | exact rfl | assumption)) rfl rfl rfl) | (apply Zv6; first | exact Zv2 rfl rfl (by first | exact .n rfl rfl rfl rfl rfl | exact .u rfl rfl rfl rfl) (hf:=rfl) | (apply Zs1; first | exact Ye [] (Zj2 rfl rfl) rfl (by first | exact .no rfl | exact .y rfl rfl rfl rfl) rfl rfl) | (apply ZsE; first | exact Ye [] (Ze9 rfl rfl) rfl (by first | exact .no rfl | exact .y rfl rfl rfl rfl) rfl rfl) | (apply Ztp; first | exact Ye [] (ZgV rfl rfl (by exact inferInstance) rfl (by simp only [Qd,stV,Zn,ldC,ldE,cond_true,cond_false,List.map_cons,List.map_nil,List.drop_zero,List.drop_succ_cons,List.take_succ_cons,List.take_zero,List.getElem?_cons_zero,List.getElem?_cons_succ,Nat.reduceAdd,Option.map_some]; exact rfl)) rfl (by first | exact .no rfl | exact .y rfl rfl rfl rfl) rfl rfl | exact Ztl rfl rfl rfl (by exact inferInstance) rfl (by simp only [Qd,stV,Zn,ldC,ldE,cond_true,cond_false,List.map_cons,List.map_nil,List.drop_zero,List.drop_succ_cons,List.take_succ_cons,List.take_zero,List.getElem?_cons_zero,List.getElem?_cons_succ,Nat.reduceAdd,Option.map_some]; exact rfl) rfl (by first | exact .no rfl | exact .y rfl rfl rfl rfl) rfl rfl | exact Zq3 rfl rfl rfl (by exact inferInstance) rfl (by simp only [Qd,stV,Zn,ldC,ldE,cond_true,cond_false,List.map_cons,List.map_nil,List.drop_zero,List.drop_succ_cons,List.take_succ_cons,List.take_zero,List.getElem?_cons_zero,List.getElem?_cons_succ,Nat.reduceAdd,Option.map_some]; exact rfl) rfl (by first | exact .no rfl | exact .y rfl rfl rfl rfl) rfl rfl) | (apply ZsB; first | exact Ye [] (Zuj rfl rfl) rfl (by first | exact .no rfl | exact .y rfl rfl rfl rfl) rfl rfl | exact Ye [] (Zo8 rfl rfl (by first | (simp only [List.drop_zero,List.drop_succ_cons]; exact rfl) | (conv=>lhs; whnf))) rfl (by first | exact .no rfl | exact .y rfl rfl rfl rfl) rfl rfl | exact Ye [] (Zpc rfl rfl) rfl (by first | exact .no rfl | exact .y rfl rfl rfl rfl) rfl rfl) | (apply Zte; first | exact Ye [] (Zj9 rfl rfl rfl) rfl (by first | exact .no rfl | exact .y rfl rfl rfl rfl) rfl rfl) | (apply ZsM; first | exact Ye [] (ZhO rfl rfl rfl rfl) rfl (by first | exact .no rfl | exact .y rfl rfl rfl rfl) rfl rfl | exact Ye [] (Zpe rfl rfl rfl rfl) rfl (by first | exact .no rfl | exact .y rfl rfl rfl rfl) rfl rfl | exact Ye [] (Zpa rfl rfl rfl) rfl (by first | exact .no rfl | exact .y rfl rfl rfl rfl) rfl rfl | exact Ye [] (ZpD rfl rfl rfl) rfl (by first | exact .no rfl | exact .y rfl rfl rfl rfl) rfl rfl | exact Ye [] (ZpC rfl rfl rfl) rfl (by first | exact .no rfl | exact .y rfl rfl rfl rfl) rfl rfl | exact Ye [] (Zpp rfl rfl rfl) rfl (by first | exact .no rfl | exact .y rfl rfl rfl rfl) rfl rfl | exact Ye [] (Zpf rfl rfl rfl) rfl (by first | exact .no rfl | exact .y rfl rfl rfl rfl) rfl rfl | exact Ye [] (Zpt rfl rfl rfl) rfl (by first | exact .no rfl | exact .y rfl rfl rfl rfl) rfl rfl | exact Ye [] (Zpn rfl rfl rfl) rfl (by first | exact .no rfl | exact .y rfl rfl rfl rfl) rfl rfl | exact Ye [] (Zpm rfl rfl rfl) rfl (by first | exact .no rfl | exact .y rfl rfl rfl rfl) rfl rfl | exact Ye [] (Zpd rfl rfl rfl) rfl (by first | exact .no rfl | exact .y rfl rfl rfl rfl) rfl rfl | exact Ye [] (ZpA rfl rfl rfl) rfl (by first | exact .no rfl | exact .y rfl rfl rfl rfl) rfl rfl | exact Ye [] (Zpl rfl rfl rfl) rfl (by first | exact .no rfl | exact .y rfl rfl rfl rfl) rfl rfl | exact Ye [] (Zpb rfl rfl rfl) rfl (by first | exact .no rfl | exact .y rfl rfl rfl rfl) rfl rfl | exact Ye [] (Zpz rfl rfl rfl (by kernel_rfl)) rfl (by first | exact .no rfl | exact .y rfl rfl rfl rfl) rfl rfl | exact Ye [] (Zpy rfl rfl rfl (by kernel_rfl)) rfl (by first | exact .no rfl | exact .y rfl rfl rfl rfl) rfl rfl | exact Ye [] (Zpi rfl rfl rfl (by simp only [ccV,Option.map_some]; exact rfl) (by simp only [ccV,Option.map_some]; exact rfl) (by exact inferInstance)) rfl (by first | exact .no rfl | exact .y rfl rfl rfl rfl) rfl rfl | exact Ye [] (Zpq rfl rfl rfl (by simp only [ccV,Option.map_some]; exact rfl) (by simp only [ccV,Option.map_some]; exact rfl) (by exact inferInstance)) rfl (by first | exact .no rfl | exact .y rfl rfl rfl rfl) rfl rfl) | (apply ZsV; first | exact Ye [] (Zo9 rfl rfl) rfl (by first | exact .no rfl | exact .y rfl rfl rfl rfl) rfl rfl | exact Ye [] (Zpk rfl rfl rfl) rfl (by first | exact .no rfl | exact .y rfl rfl rfl rfl) rfl rfl) | (apply ZsF; first | exact Ye [] (ZdM rfl rfl rfl) rfl (by first | exact .no rfl | exact .y rfl rfl rfl rfl) rfl rfl) | (apply Ztd; first | exact Ye [] (Zg7 rfl rfl rfl (by simp only [Qd,stV,Zn,ldC,ldE,cond_true,cond_false,List.map_cons,List.map_nil,List.drop_zero,List.drop_succ_cons,List.take_succ_cons,List.take_zero,List.getElem?_cons_zero,List.getElem?_cons_succ,Nat.reduceAdd,Option.map_some]; exact rfl)) rfl (by first | exact .no rfl | exact .y rfl rfl rfl rfl) rfl rfl | exact Ye [] (Zfd rfl rfl rfl (by simp only [Qd,stV,Zn,ldC,ldE,cond_true,cond_false,List.map_cons,List.map_nil,List.drop_zero,List.drop_succ_cons,List.take_succ_cons,List.take_zero,List.getElem?_cons_zero,List.getElem?_cons_succ,Nat.reduceAdd,Option.map_some]; exact rfl)) rfl (by first | exact .no rfl | exact .y rfl rfl rfl rfl) rfl rfl) | (apply ZsD; first | exact Ye [] (ZgS rfl rfl) rfl (by first | exact .no rfl | exact .y rfl rfl rfl rfl) rfl rfl | exact Ye [] (Zg3 rfl rfl (by kernel_rfl)) rfl (by first | exact .no rfl | exact .y rfl rfl rfl rfl) rfl rfl | exact Ye [] (ZgR rfl rfl) rfl (by first | exact .no rfl | exact .y rfl rfl rfl rfl) rfl rfl | exact Ye [] (ZgL rfl rfl) rfl (by first | exact .no rfl | exact .y rfl rfl rfl rfl) rfl rfl | exact Ye [] (Zps rfl rfl rfl) rfl (by first | exact .no rfl | exact .y rfl rfl rfl rfl) rfl rfl | exact Ye [] (Zo7 rfl rfl rfl) rfl (by first | exact .no rfl | exact .y rfl rfl rfl rfl) rfl rfl | exact ZmZ rfl rfl rfl rfl (by first | exact .no rfl | exact .y rfl rfl rfl rfl) rfl rfl) | (apply Zs5; first | exact Ztt rfl rfl rfl rfl (by exact inferInstance) rfl (by simp only [Qd,stV,Zn,ldC,ldE,cond_true,cond_false,List.map_cons,List.map_nil,List.drop_zero,List.drop_succ_cons,List.take_succ_cons,List.take_zero,List.getElem?_cons_zero,List.getElem?_cons_succ,Nat.reduceAdd,Option.map_some]; exact rfl) rfl (by first | exact .no rfl | exact .y rfl rfl rfl rfl) rfl) | (apply ZsI; first | exact Zrc [] (ZgK rfl rfl (by simp only [Nat.reduceAdd]; exact rfl) (by exact Yb.out) rfl rfl) rfl (by first | exact .no rfl | exact .y rfl rfl rfl rfl) rfl rfl rfl) | (apply ZsP; first | exact Zrc [] (ZpB rfl rfl (by simp only [Nat.reduceAdd]; exact rfl) rfl rfl (by simp only [Zn]; exact rfl)) rfl (by first | exact .no rfl | exact .y rfl rfl rfl rfl) rfl rfl rfl) | exact Ye [] (Zg0 rfl rfl rfl (by simp only [Qd,stV,Zn,ldC,ldE,cond_true,cond_false,List.map_cons,List.map_nil,List.drop_zero,List.drop_succ_cons,List.take_succ_cons,List.take_zero,List.getElem?_cons_zero,List.getElem?_cons_succ,Nat.reduceAdd,Option.map_some]; exact rfl)) rfl (by first | exact .no rfl | exact .y rfl rfl rfl rfl) rfl rfl | exact Ye [] (Zka rfl rfl) rfl (by first | exact .no rfl | exact .y rfl rfl rfl rfl) rfl rfl | exact Ye [] (Zpo rfl rfl rfl (by kernel_rfl) (by first | exact rfl | assumption)) rfl (by first | exact .no rfl | exact .y rfl rfl rfl rfl) rfl rfl) | exact Zq1 | exact Zs6 rfl)):g:=f k
structure Wr (p:Prop):Prop where
 out:p
theorem ss {g h:Prop} (k:h) (f:Wr h→g:=by (intro k; (repeat (refine sl ?_)); exact k.out)):g:=f ⟨k⟩
theorem sr {g h:Prop} (k:h) (f:Wr h→g:=by (intro k; (repeat (refine sl ?_)); (repeat (first | refine Zg ?_ | refine Zq ?_)); refine Zaf ?_; (repeat (refine sl ?_)); exact k.out)):g:=f ⟨k⟩
theorem sx {g h:Prop} (k:h) (f:Wr h→g:=by (intro k; (repeat (refine sl ?_)); (first | refine ZdA ?_ | refine Zcd ?_); (repeat (refine sl ?_)); exact k.out)):g:=f ⟨k⟩
section
variable {Γ:Cx} {k:Zbw} {x y:Code} {st:St} {sl:List (Nat × V)} {hp:Hp} {o oj:Oper} {ops:Array Oper} {rest:List Oper} {c:Operand} {α:Type} {b:Bool} {m n z:α} {j t:Nat} {e:Bool}
theorem Zlr (hm:sel b m n=z) (h1:m=z→WL Γ ops (o::rest) k ⟨(t,vB true)::sl,hp⟩) (h2:n=z→WL Γ ops (o::rest) k ⟨(t,vB false)::sl,hp⟩) (hg:o.guard=some (j,e):=by rfl) (hj:ops[j]?=some oj:=by rfl) (ht:oj.dst=some t:=by rfl) (hb:look sl t=some (vB b):=by rfl):WL Γ ops (o::rest) k ⟨sl,hp⟩ :=
 ZsT hg hj ht hb (fun h=>h1 (ZgI h hm)) (fun h=>h2 (ZgJ h hm))
theorem Zlt (hm:sel b m n=z) (ht:m=z→WC Γ x k st) (hf:n=z→WC Γ y k st) (hc:ev st.sl c=some (vB b):=by rfl):WC Γ (.cond c x y) k st :=
 Zdn hc (fun h=>ht (ZgI h hm)) (fun h=>hf (ZgJ h hm))
end
def Bnd.ds (b:Bnd):List D:=[dS b.key,dB b.top]
instance : Len Bnd.ds 2:=⟨fun _=>rfl⟩
end Go.Proofs.YtkcmgbbopedacaaGreatDoor
