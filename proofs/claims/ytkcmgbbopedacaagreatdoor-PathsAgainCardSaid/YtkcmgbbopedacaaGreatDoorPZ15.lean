/-
  Lemmas: Functions as models
-/
import Derived.Test.YtkcmgbbopedacaaGreatDoorPZ9
import Derived.Test.YtkcmgbbopedacaaGreatDoorPZ10
set_option linter.unusedSimpArgs false
set_option linter.unusedVariables false
namespace Go.Proofs.YtkcmgbbopedacaaGreatDoor
open Go.RowKit
abbrev ZJ (x:Int):Int:=IntKind.i64.wrap x
def sel {α:Type} (b:Bool) (x y:α):α:=match b with
 | true=>x
 | false=>y
def bnd {α β:Type} (x:α) (k:α→β):β:=k x
def Ze {α β:Type} (x:Option α) (k:α→Option β):Option β:=match x with
 | some a=>k a
 | none=>none
inductive Ctl (R S:Type) where
 | ret (r:R)
 | nxt (s:S)
def Zs5 {R S:Type} (m:Ctl R S) (k:S→R):R:=match m with
 | .ret r=>r
 | .nxt s=>k s
def Yz {R S:Type} (m:Ctl R S) (k:S→Option R):Option R:=match m with
 | .ret r=>some r
 | .nxt s=>k s
section
variable {α β R S:Type}
theorem Zhq {b:Bool} {x y z:α} (h:b=true) (hm:sel b x y=z):x=z:=by subst h; exact hm
theorem Zhn {b:Bool} {x y z:α} (h:b=false) (hm:sel b x y=z):y=z:=by subst h; exact hm
theorem Zao {x:α} {k:α→β} {z:β} (hm:bnd x k=z):∃ y,x=y∧k y=z:=⟨x,rfl,hm⟩
theorem ZH {x:Option α} {k:α→Option β} {z:β} (hm:Ze x k=some z):∃ y,x=some y∧k y=some z:=by
 cases x with
 | none=>cases hm
 | some a=>exact ⟨a,rfl,hm⟩
theorem XQ {r:R} {k:S→R} {z:R} (hm:Zs5 (.ret r) k=z):r=z:=hm
theorem YI {r:R} {k:S→Option R} {z:R} (hm:Yz (.ret r) k=some z):some r=some z:=hm
theorem Zub {s:S} {k:S→Option R} {z:R} (hm:Yz (.nxt s) k=some z):k s=some z:=hm
theorem ZM (b:Bool) (x y:α):sel b x y=if b=true then x else y:=by cases b <;> rfl
theorem Zn (x:α) (k:α→β):bnd x k=k x:=rfl
theorem Za (x:α) (k:α→Option β):Ze (some x) k=k x:=rfl
theorem Zfh (k:α→Option β):Ze none k=none:=rfl
theorem Zsa (r:R) (k:S→R):Zs5 (.ret r) k=r:=rfl
theorem Zd6 (s:S) (k:S→R):Zs5 (.nxt s) k=k s:=rfl
theorem Yo (r:R) (k:S→Option R):Yz (.ret r) k=some r:=rfl
theorem ZB (s:S) (k:S→Option R):Yz (.nxt s) k=k s:=rfl
end
theorem ZwH {p g:Prop} [Decidable p] (h1:decide p=true→g) (h2:decide p=false→g):g:=by
 cases h:decide p with
 | true=>exact h1 h
 | false=>exact h2 h
def YD {α:Type} (xs:List α) (i:Int):Option α:=if 0≤i then xs[i.toNat]? else none
def lsl {α:Type} (xs:List α) (lo hi:Int):Option (List α):=if 0≤lo∧lo≤hi∧hi≤xs.length then some ((xs.drop lo.toNat).take (hi.toNat - lo.toNat)) else none
def app {α:Type} (xs ys:List α):Option (List α):=if xs.length+ys.length≤4294967296 then some (xs++ys) else none
def ZeM (s:ByteArray) (i:Int):Option Int:=if 0≤i∧i<s.size then some (s.get! i.toNat).toNat else none
def ssl (s:ByteArray) (lo hi:Int):Option ByteArray:=if 0≤lo∧lo≤hi∧hi≤s.size then some (s.extract lo.toNat hi.toNat) else none
def ZhA (s t:ByteArray):Option ByteArray:=if s.size+t.size≤9223372036854775807 then some (s++t) else none
def Zhi (i:Int):Option ByteArray:=if 0≤i∧i<6 then some (letter i.toNat) else none
def Zi9 (k:IntKind) (a b:Int):Option Int:=if b=0 then none else some (k.wrap (a.tdiv b))
def Zh4 (a b:Int):Option Int:=if b=0 then none else some (a.tmod b)
def dsB (b:Bool):List D:=[dB b]
instance : Len dsB 1:=⟨fun _=>rfl⟩
def dsS (b:ByteArray):List D:=[dS b]
instance : Len dsS 1:=⟨fun _=>rfl⟩
def dsK (k:IntKind) (z:Int):List D:=[.c (.int k z)]
instance {k:IntKind}:Len (dsK k) 1:=⟨fun _=>rfl⟩
def dsL {α:Type} (f:α→List D) (l:List α):List D:=[lst f l]
instance {α:Type} {f:α→List D}:Len (dsL f) 1:=⟨fun _=>rfl⟩
def FU:Nat:=4294967296
theorem Zej {α:Type} {xs:List α} {i:Int} {x:α} (h:YD xs i=some x):∃ m:Nat,i=m∧xs[m]?=some x:=by
 unfold YD at h
 split at h
 ·exact ⟨i.toNat,by omega,h⟩
 ·cases h
theorem Zdw {α:Type} {l:List α} {m:Nat} (h:m<l.length):∃ x,l[m]?=some x∧l.drop m=x::l.drop (m+1):=⟨l[m],List.getElem?_eq_getElem h,List.drop_eq_getElem_cons h⟩
theorem ZdG {α:Type} {l:List α} {m:Nat} (h:l.length≤m):l.drop m=[]:=List.drop_eq_nil_of_le h
section
variable {Γ:Cx} {k:Zcc} {st st':St} {x y:Code} {c:Operand} {b:Bool} {id:Nat}
theorem YQ (I:St→Prop) (h:WC Γ x (.cut I k) st) (hk:∀ st,I st→WK Γ k .normal st):WC Γ x k st:=fun a w hr=>wp_mono (h a w hr) (by
 rintro e a w ⟨st,hk',hr⟩
 cases e with
 | normal=>obtain ⟨st',h1,h2⟩:=hk'; exact ⟨st',hk st' h2,h1 a w hr⟩
 | _=>exact ⟨st,hk',hr⟩)
theorem XB (hb:b=true) (hc:ev st.sl c=some (vB b)) (h:WC Γ x k st):WC Γ (.cond c x y) k st:=Zez hc (fun _=>h) (fun e=>by rw [hb] at e; cases e)
theorem XD (hb:b=false) (hc:ev st.sl c=some (vB b)) (h:WC Γ y k st):WC Γ (.cond c x y) k st:=Zez hc (fun e=>by rw [hb] at e; cases e) (fun _=>h)
theorem Zos {m n:Nat} (h:m<n):decide ((m:Int)<(n:Int))=true:=by simpa using h
theorem Zor {m n:Nat} (h:n≤m):decide ((m:Int)<(n:Int))=false:=by simpa using h
theorem ZdE (t:Nat) {n:Nat} {xs:List D} (h:look st.sl t=some (.d (.l n xs))) (hk:n≤9223372036854775807→WC Γ x k st):WC Γ x k st:=fun a w hr=>by
 refine hk ?_ a w hr
 obtain ⟨ρ,hr⟩:=hr
 obtain ⟨v,-,h2⟩:=hr.sr t _ h
 cases h2 with
 | d h2 =>
  cases h2 with
  | nil=>omega
  | l _ h3=>exact h3
end
section
variable {P:Program} {o:Oper} {H:Hp} {sl:List (Nat × V)} {x y z:Operand} {T U E t:TypeId} {zz bytes:Nat} {i j:Int} {s s':ByteArray} {kk:IntKind} {k d k':Nat}
theorem ZeO {m n:Nat} (hm:m<n) (hn:n≤9223372036854775807) (hop:o.op=.binOp .add T x y U) (hx:ev sl x=some (vI (m:Int))) (hy:ev sl y=some (vI 1)):OpD P o H sl 0 0 (vI ((m+1:Nat):Int)) []:=YZ hop hx hy (by rw [w64 (by omega) (by omega)]; omega)
theorem Zc3 {α:Type} {f:α→List D} {xs:List α} {ys:List D} {m:Nat} {a:α} (hg:xs[m]?=some a) [hS:Sl P t E zz bytes] [hL:Len f zz] (hop:o.op=.indexAddr t x y) (hx:ev sl x=some (.d (lst f xs))) (hy:ev sl y=some (vI (m:Int))) (hz:f a=ys):OpD P o H sl 0 0 (.q ys) []:=by
 obtain ⟨h1,h2⟩:=List.getElem?_eq_some_iff.1 hg
 exact Zov hop hx hy hL.len rfl h1 (by rw [h2]; exact hz)
theorem Zjb {α:Type} {f:α→List D} {xs:List α} {ys:List D} {a:α} (hg:YD xs i=some a) [hS:Sl P t E zz bytes] [hL:Len f zz] (hop:o.op=.indexAddr t x y) (hx:ev sl x=some (.d (lst f xs))) (hy:ev sl y=some (vI i)) (hz:f a=ys):OpD P o H sl 0 0 (.q ys) []:=by
 obtain ⟨m,rfl,h1⟩:=Zej hg
 exact Zc3 h1 hop hx hy hz
theorem Zwj {α:Type} {f:α→List D} {lo hi:Option Operand} {xs ys:List α} (hg:lsl xs i j=some ys) [hS:Sl P t E zz bytes] [hL:Len f zz] (hop:o.op=.slice t x lo hi none) (hx:ev sl x=some (.d (lst f xs))) (hlo:evo sl 0 lo=some (vI i)) (hhi:evo sl (xs.length:Int) hi=some (vI j)):OpD P o H sl 0 0 (.d (lst f ys)) []:=by
 unfold lsl at hg
 split at hg
 ·rename_i h
  exact ZfH hop hx hlo hhi h.1 h.2.1 h.2.2 hL.len (Option.some.inj hg)
 ·cases hg
theorem Ztb {n:Int} (hg:ZeM s i=some n) (hop:o.op=.index t x y) (hx:ev sl x=some (vS s)) (hy:ev sl y=some (vI i)) (ht:P.underlying t=some .string):OpD P o H sl 0 0 (.d (.c (.int .u8 n))) []:=by
 unfold ZeM at hg
 split at hg
 ·rename_i h
  rw [← Option.some.inj hg]
  exact ZfJ hop hx hy ht h.1 h.2
 ·cases hg
theorem ZvG {lo hi:Option Operand} (hg:ssl s i j=some s') (hop:o.op=.slice t x lo hi none) (hx:ev sl x=some (vS s)) (ht:P.underlying t=some .string) (hlo:evo sl 0 lo=some (vI i)) (hhi:evo sl (s.size:Int) hi=some (vI j)):OpD P o H sl 0 0 (vS s') []:=by
 unfold ssl at hg
 split at hg
 ·rename_i h
  exact ZfI hop hx ht hlo hhi h.1 h.2.1 h.2.2 (Option.some.inj hg)
 ·cases hg
theorem ZtI {r:ByteArray} (hg:ZhA s s'=some r) (hop:o.op=.binOp .add T x y U) (hx:ev sl x=some (vS s)) (hy:ev sl y=some (vS s')):OpD P o H sl 0 0 (vS r) []:=by
 unfold ZhA at hg
 split at hg
 ·rename_i h
  rw [← Option.some.inj hg]
  exact ZoI hop hx hy h
 ·cases hg
theorem Zxd {r:ByteArray} (hg:Zhi i=some r) (hop:o.op=.indexAddr T (.global 0) y) (hy:ev sl y=some (vI i)) (hTE:Ar P T 6 E) (hE:Ty P E 1 false):OpD P o H sl 0 0 (.q [dS r]) []:=by
 unfold Zhi at hg
 split at hg
 ·rename_i h
  rw [← Option.some.inj hg]
  exact Zt8 hop hy hTE hE (Int.toNat_of_nonneg h.1).symm (by omega)
 ·cases hg
theorem Ztc {n:Int} (hg:Zh4 i j=some n) (hop:o.op=.binOp .rem T x y U) (hx:ev sl x=some (.d (.c (.int kk i)))) (hy:ev sl y=some (.d (.c (.int kk j)))):OpD P o H sl 0 0 (.d (.c (.int kk n))) []:=by
 unfold Zh4 at hg
 split at hg
 ·cases hg
 ·exact Zt1 hop hx hy (by assumption) (Option.some.inj hg)
theorem Ztt {n:Int} (hg:Zi9 kk i j=some n) (hop:o.op=.binOp .quo T x y U) (hx:ev sl x=some (.d (.c (.int kk i)))) (hy:ev sl y=some (.d (.c (.int kk j)))):OpD P o H sl 0 0 (.d (.c (.int kk n))) []:=by
 unfold Zi9 at hg
 split at hg
 ·cases hg
 ·exact Zt7 hop hx hy (by assumption) (Option.some.inj hg)
theorem Zyn {α:Type} {f:α→V} {es:List α} {a:α} {len:Nat} (hg:YD es i=some a) (hop:o.op=.index t x y) (hx:ev sl x=some (.a (es.map f))) (hy:ev sl y=some (vI i)) (hTE:Ar P t len E) (hE:Ty P E 1 false) (hl:es.length=len):OpD P o H sl 0 0 (f a) []:=by
 obtain ⟨m,rfl,h1⟩:=Zej hg
 have h2:=(List.getElem?_eq_some_iff.1 h1).1
 refine ZgV hop hx hy hTE hE (by omega) (by omega) ?_
 rw [List.getElem?_map,Int.toNat_natCast,h1]; rfl
theorem ZrD {α:Type} {xs ys r:List α} (h:app xs ys=some r):xs.length+ys.length≤4294967296∧r=xs++ys:=by
 unfold app at h
 split at h
 ·exact ⟨by assumption,(Option.some.inj h).symm⟩
 ·cases h
theorem ZrI {n bytes:Nat} (h:n≤4294967296) (hb:Nat.ble bytes 32768=true):n * bytes≤140737488355328:=by
 have:=Nat.mul_le_mul h (Nat.le_of_ble_eq_true hb); omega
theorem Zte {α:Type} {f:α→List D} {ys r:List α} (hg:app [] ys=some r) [hS:Sl P t E zz bytes] [hL:Len f zz] (hop:o.op=.call { callee:=.builtin .append,args:=#[x,y],argTypes:=#[t,t] }) (hd:o.dst=some d) (hk:d+100=k) (hx:ev sl x=some (.d (.c (.slice none 0 0)))) (hy:ev sl y=some (.d (lst f ys))) (hb:Nat.ble bytes 32768=true):OpD P o H sl k 1 (.h k) [(k,some (YY E zz f r))]:=by
 obtain ⟨h1,rfl⟩:=ZrD hg
 simp only [List.length_nil,Nat.zero_add] at h1
 exact ZeA hop hd hk hx hy hL.len (ZrI h1 hb) (by omega)
theorem Zx4 {α:Type} {f:α→List D} {xs ys r:List α} (hg:app xs ys=some r) [hS:Sl P t E zz bytes] [hL:Len f zz] (hop:o.op=.call { callee:=.builtin .append,args:=#[x,y],argTypes:=#[t,t] }) (hd:o.dst=some d) (hk:d+100=k') (hx:ev sl x=some (.h k)) (hy:ev sl y=some (.d (lst f ys))) (hH:look H k=some (some (YY E zz f xs))) (hb:Nat.ble bytes 32768=true) (hkk:(!Nat.beq k k')=true):OpD P o H sl k' 1 (.h k') [(k,none),(k',some (YY E zz f r))]:=by
 obtain ⟨h1,rfl⟩:=ZrD hg
 exact ZhV hop hd hk hx hy hH hL.len (ZrI h1 hb) (by omega) hkk
def apd {α:Type} (xs l1 l2:List α):Option (List α):=if 0<xs.length∧l1.length+l2.length≤xs.length then some (l1++l2) else none
theorem ZtY {α:Type} {xs ys:List α} {i j:Int} (hg:lsl xs i j=some ys):∃ a b:Nat,i=(a:Int)∧j=(b:Int)∧a≤b∧b≤xs.length∧ys=(xs.drop a).take (b - a)∧ys.length=b - a:=by
 unfold lsl at hg
 split at hg
 ·rename_i h
  refine ⟨i.toNat,j.toNat,by omega,by omega,by omega,by omega,(Option.some.inj hg).symm,?_⟩
  rw [← Option.some.inj hg,List.length_take,List.length_drop]; omega
 ·cases hg
theorem Zwe {α:Type} {f:α→List D} {lo hi:Option Operand} {xs ys:List α} {i j:Int} (hg:lsl xs i j=some ys) [hS:Sl P t E zz bytes] [hL:Len f zz] (hop:o.op=.slice t x lo hi none) (hx:ev sl x=some (.h k)) (hH:look H k=some (some (YY E zz f xs))) (hlo:evo sl 0 lo=some (vI i)) (hhi:evo sl (xs.length:Int) hi=some (vI j)):OpD P o H sl 0 0 (.s k i.toNat ys.length zz) []:=by
 obtain ⟨a,b,rfl,rfl,h1,h2,-,h4⟩:=ZtY hg
 rw [h4]
 exact Zp8 hop hx hH hlo hhi h1 h2
theorem Zyc {α:Type} {f:α→List D} {xs l1 l2 r:List α} {i j b:Int} (ha:apd xs l1 l2=some r) (h1:lsl xs 0 b=some l1) (h2:lsl xs i j=some l2) [hS:Sl P t E zz bytes] [hL:Len f zz] (hop:o.op=.call { callee:=.builtin .append,args:=#[x,y],argTypes:=#[t,t] }) (hd:o.dst=some d) (hk:d+100=k') (hx:ev sl x=some (.s k 0 l1.length zz)) (hy:ev sl y=some (.s k i.toNat l2.length zz)) (hH:look H k=some (some (YY E zz f xs))) (hkk:(!Nat.beq k k')=true):OpD P o H sl k' 1 (.h k') [(k,none),(k',some (YY E zz f r))]:=by
 obtain ⟨a1,b1,e1,rfl,p1,p2,p3,p4⟩:=ZtY h1
 obtain rfl:a1=0:=by omega
 obtain ⟨a2,b2,rfl,rfl,q1,q2,q3,q4⟩:=ZtY h2
 unfold apd at ha
 split at ha
 ·rename_i hf
  obtain rfl:=Option.some.inj ha
  have hw:(((((xs.flatMap f).map V.d).drop (a2 * zz)).take (l2.length * zz)):List V)=(l2.flatMap f).map V.d:=by
   rw [← List.map_drop,← List.map_take,Zg0 hL.len,Zfb hL.len,q4,← q3]
  have hx1:(((xs.flatMap f).map V.d).take (l1.length * zz):List V)=(l1.flatMap f).map V.d:=by
   rw [← List.map_take,Zfb hL.len,p4,p3]; simp
  have key:=Znx (P:=P) (H:=H) (cs:=(xs.flatMap f).map V.d) (ws:=(l2.flatMap f).map V.d) (m:=l2.length) k' hop hx hy hH (by simp only [Zki,Int.toNat_natCast]; unfold YY at hH; rw [hH]; simp only [hw]) (by rw [List.length_map,Zgl hL.len]) hf.1 hf.2 hkk
  rw [hx1,← List.map_append,← List.flatMap_append,← List.length_append] at key
  exact key
 ·cases ha
theorem Zwo {α:Type} (f:α→List D) (es:List α) {parts:Array (Nat × Operand)} {len:Nat} {l:List (Nat × V)} [hS:Sl P t E zz bytes] (hop:o.op=.buildSlice t len parts) (hd:o.dst=some d) (hk:d+100=k) (hl:evs sl parts.toList=some l) (hf:YB zz 0 l=some ((es.flatMap f).map V.d)) (hlen:es.length=len) (hn:(parts.size == len && Nat.ble (len * zz) 16777216 && Nat.ble len 16777216)=true):OpD P o H sl k 1 (.h k) [(k,some (YY E zz f es))]:=by
 subst hlen
 exact ZxV hop hd hk hl hf hn
end
section
variable {Γ:Cx} {P:Program} {k:Zcc} {sl:List (Nat × V)} {H hp:Hp} {o:Oper} {ops:Array Oper} {i an d kt:Nat} {ts:List Nat} {r:List PI} {F:List Ft} {f:FuncId} {us uc:List V} {x:Operand} {xs:Array Operand} {ats:Array TypeId} {u u':V} {rest:List Oper} {blk blk0 blk' blk1:Blk}
theorem ZwR {α:Type} {f:α→List D} {xs ys rr:List α} {kk k' E z bytes t:Nat} {y:Operand} (hg':app xs ys=some rr) [hS:Sl Γ.P t E z bytes] [hL:Len f z] (hop:o.op=.call { callee:=.builtin .append,args:=#[x,y],argTypes:=#[t,t] }) (hd:o.dst=some d) (hkd:d+100=k') (hx:ev (keep ts sl) x=some (.h kk)) (hy:ev (keep ts sl) y=some (.d (lst f ys))) (hH:look hp kk=some (some (YY E z f xs))) (hb:Nat.ble bytes 32768=true)
   (hkk:(!Nat.beq kk k')=true) (hw:Wt ops o (keep ts sl) true) (hdl:Nat.blt d Γ.nt=true) (hfr:ZZ hp k' 1=true) (hfo:okF ⟨⟨i,an,ts⟩,[kk],[kk,k'],k',1⟩ F=true)
   (hk:WD Γ ops k r (⟨⟨i,an,ts⟩,[kk],[kk,k'],k',1⟩::F) ⟨(d,.h k')::sl,(kk,none)::(k',some (YY E z f rr))::hp⟩):WO Γ ops k o i an ts r F ⟨sl,hp⟩:=by
 obtain ⟨h1,rfl⟩:=ZrD hg'
 exact Zha hop hd hkd hx hy hH hL.len (ZrI h1 hb) (by omega) hkk hw hdl hfr hfo hk
theorem Zx6 (hs:Spec Γ.P f us [] fun u1 h1=>u1=u∧h1=[]) (hop:o.op=.call { callee:=.value x,args:=xs,argTypes:=ats }) (hx:ev sl x=some (.d (.c (.func (.func f) #[] #[])))) (ha:evl sl xs.toList=some uc) (hv:Vws [] [] uc us) (hu:u.ren (rn [] 100000)=u)
 (hg:o.guard=none) (hd:o.dst=some d) (hdl:Nat.blt d Γ.nt=true) (hf:ZZ hp 100000 100=true) (hk:WL Γ ops rest k ⟨(d,u)::sl,hp⟩):WL Γ ops (o::rest) k ⟨sl,hp⟩:=Zt6 (Zig 100000 hs hop hx ha hv hu) hg hd hdl hf hk
theorem Zyb (hs:Spec Γ.P f us [] fun u1 h1=>u1=u∧h1=[]) (hop:o.op=.call { callee:=.value x,args:=xs,argTypes:=ats }) (hx:ev (keep ts sl) x=some (.d (.c (.func (.func f) #[] #[])))) (ha:evl (keep ts sl) xs.toList=some uc) (hv:Vws [] [] uc us) (hu:u.ren (rn [] 100000)=u)
 (hd:o.dst=some d) (hw:Wt ops o (keep ts sl) true) (hdl:Nat.blt d Γ.nt=true) (hfr:ZZ hp 100000 100=true) (hf:okF ⟨⟨i,an,ts⟩,[],[],100000,100⟩ F=true)
 (hk:WD Γ ops k r (⟨⟨i,an,ts⟩,[],[],100000,100⟩::F) ⟨(d,u)::sl,hp⟩):WO Γ ops k o i an ts r F ⟨sl,hp⟩:=ZvI [] (Zig 100000 hs hop hx ha hv hu) hd hw hdl hfr hf hk
mutual
inductive ClV:V→Prop
 | c (v:Value):ClV (.d (.c v))
 | a {xs:List V}:Zn5 xs→ClV (.a xs)
 | t {xs:List V}:Zn5 xs→ClV (.t xs)
inductive Zn5:List V→Prop
 | nil:Zn5 []
 | cons {x:V} {xs:List V}:ClV x→Zn5 xs→Zn5 (x::xs)
end
mutual
theorem ClV.rv {w w':World} {ok ok':Nat→Prop} {ρ ρ':Lc}:∀ {u:V} {v:Value},ClV u→RV w ok ρ u v→RV w' ok' ρ' u v
 | _,_,.c _,h=>by
  have:=ZbM h
  subst this
  cases h with
  | d h=>cases h with
   | c h=>exact .d (.c h)
 | _,_,.a h1,h=>by
  obtain ⟨vs,rfl,h2⟩:=Zrr h
  exact .a (Zn5.rv h1 h2)
 | _,_,.t h1,h=>by
  obtain ⟨vs,rfl,h2⟩:=Zxq h
  exact .t (Zn5.rv h1 h2)
theorem Zn5.rv {w w':World} {ok ok':Nat→Prop} {ρ ρ':Lc}:∀ {us:List V} {vs:List Value},Zn5 us→RVs w ok ρ us vs→RVs w' ok' ρ' us vs
 | _,_,.nil,.nil=>.nil
 | _,_,.cons h1 h2,.cons h3 h4=>.cons (ClV.rv h1 h3) (Zn5.rv h2 h4)
end
theorem Zwx (hs:Spec P f us [] fun u1 h1=>u1=u∧h1=[]) (hop:o.op=.call { callee:=.value x,args:=xs,argTypes:=ats }) (hx:ev sl x=some (.d (.c (.func (.func f) #[] #[])))) (ha:evl sl xs.toList=some uc) (hv:Vws H [] uc us) (hu:ClV u):OpV P o H sl 100000 100 fun u' h'=>u'=u∧h'=[]:=fun B a w ρ hup hd hsr hr hfr=>by
 have hargs:=ZeW hsr ha
 have hs0:∀ i,sub ρ [] i=none:=fun i=>rfl
 have hargs':=Vws.rvs (ok':=okb (fun _=>True) w (sub ρ [])) hr (fun b ⟨h1,_,_⟩=>⟨h1,trivial,fun i l hi=>by rw [hs0] at hi; cases hi⟩) (fun k blk l b _ h1 h2 h3=>⟨hr.lt k l b h2 h3,trivial,fun i l hi=>by rw [hs0] at hi; cases hi⟩) hv hargs
 have hview:HR (fun _=>True) [] (sub ρ []) w:=⟨fun k blk h=>by simp [look] at h,fun k k' blk blk' l l' b h=>by simp [look] at h,fun i l b hi=>(by rw [hs0] at hi; cases hi),fun e he=>⟨⟨(hr.gl e he).1.1,trivial,fun i l hi=>by rw [hs0] at hi; cases hi⟩,(hr.gl e he).2⟩⟩
 have hcall:=hs.run (fun _=>True) w (sub ρ []) _ (fun b hb=>trivial) hargs' hview (fun i l hi=>by rw [hs0] at hi; cases hi)
 obtain ⟨fn,hf1,hf2,hf3⟩:=hs.fn
 have hrun:(execOp a.eval o).run P w=.ok (.enter f (xs.toList.map a.eval).toArray) w:=by
  have hx':=ZbM (Zp hsr hx)
  unfold execOp; rw [hop]
  have e:xs.map a.eval=(xs.toList.map a.eval).toArray:=by apply Array.ext'; simp
  have h1 : ¬ fn.name = "runtime.NumGoroutine" := by simpa using hf2
  have h2:¬ fn.body=none:=fun e=>by rw [e] at hf3; cases hf3
  simp [resolve,hx',Deferred.ofValue,invoke,callFunc,program,Sem.run,hf1,h1,h2,e]
 unfold Oper.wp
 rw [hrun,Oper.upon_enter]
 refine hcall.mono ?_
 rintro e w' ⟨r,u1,h1,ρ1,rfl,⟨rfl,rfl⟩,hst,hrv,hlt⟩
 exact ⟨r,u1,[],ρ,rfl,⟨rfl,rfl⟩,⟨hst.os,hst.tape,hst.output,hst.size,fun _ _ h=>h,fun k l h=>.inl h,fun b hb _=>hst.keep b hb (fun k l hk=>by simp [look] at hk),fun k hk=>by simp [look] at hk,fun k blk hk=>by simp [look] at hk,fun k k' blk blk' l l' b hk=>by simp [look] at hk⟩,hu.rv hrv⟩
theorem Zy8 (hs:Spec P f us [(0,some blk)] fun u1 h1=>u1=u∧h1=[(0,some blk')]) (kt:Nat) (hop:o.op=.call { callee:=.value x,args:=xs,argTypes:=ats }) (hx:ev sl x=some (.d (.c (.func (.func f) #[] #[])))) (ha:evl sl xs.toList=some uc) (hv:Vws [] [(0,kt)] uc us)
   (hH:look H kt=some (some blk0)) (hb:Vb [] [(0,kt)] blk0 blk) (hu:u.ren (rn [(0,kt)] 100000)=u) (hb':blk'.ren (rn [(0,kt)] 100000)=blk'):OpV P o H sl 100000 100 fun u' h'=>u'=u∧h'=[(kt,some blk')]:=by
 have hal:Qs H [(0,kt)]=true:=by simp only [Qs,List.all_cons,List.all_nil,Bool.and_true,hH]
 have h0:look [(0,kt)] 0=some kt:=rfl
 refine (ZlK 100000 [(0,kt)] hs hop hx ha hv (VH.cons h0 hH hb VH.nil) hal rfl (by rfl)).mono ?_
 rintro u1 h1 ⟨u0,h0',⟨rfl,rfl⟩,rfl,rfl⟩
 refine ⟨hu,?_⟩
 simp only [Zfw,Option.map_some,hb']
 rfl
theorem Zyw (hs:Spec Γ.P f us [(0,some blk)] fun u1 h1=>u1=u∧h1=[(0,some blk')]) (kt:Nat) (hop:o.op=.call { callee:=.value x,args:=xs,argTypes:=ats }) (hx:ev sl x=some (.d (.c (.func (.func f) #[] #[])))) (ha:evl sl xs.toList=some uc) (hv:Vws [] [(0,kt)] uc us)
   (hH:look hp kt=some (some blk0)) (hb:Vb [] [(0,kt)] blk0 blk) (hu:u.ren (rn [(0,kt)] 100000)=u) (hb':blk'.ren (rn [(0,kt)] 100000)=blk')
   (hg:o.guard=none) (hd:o.dst=some d) (hdl:Nat.blt d Γ.nt=true) (hf:ZZ hp 100000 100=true) (hk:WL Γ ops rest k ⟨(d,u)::sl,(kt,some blk')::hp⟩):WL Γ ops (o::rest) k ⟨sl,hp⟩ :=
 ZtW (Zy8 hs kt hop hx ha hv hH hb hu hb') hg hd hdl hf (by rintro _ _ ⟨rfl,rfl⟩; exact hk)
theorem Zx7 (hs:Spec Γ.P f us [(0,some blk)] fun u1 h1=>u1=u∧h1=[(0,some blk')]) (kt:Nat) (hop:o.op=.call { callee:=.value x,args:=xs,argTypes:=ats }) (hx:ev (keep ts sl) x=some (.d (.c (.func (.func f) #[] #[])))) (ha:evl (keep ts sl) xs.toList=some uc) (hv:Vws [] [(0,kt)] uc us)
   (hH:look hp kt=some (some blk0)) (hb:Vb [] [(0,kt)] blk0 blk) (hu:u.ren (rn [(0,kt)] 100000)=u) (hb':blk'.ren (rn [(0,kt)] 100000)=blk')
   (hd:o.dst=some d) (hw:Wt ops o (keep ts sl) true) (hdl:Nat.blt d Γ.nt=true) (hfr:ZZ hp 100000 100=true) (hf:okF ⟨⟨i,an,ts⟩,[kt],[kt],100000,100⟩ F=true) (hnd:(r.all fun q=>Zdu q.an i)=true)
   (hk:WD Γ ops k r (⟨⟨i,an,ts⟩,[kt],[kt],100000,100⟩::F) ⟨(d,u)::sl,(kt,some blk')::hp⟩):WO Γ ops k o i an ts r F ⟨sl,hp⟩ :=
 ZxR [kt] [kt] (Zy8 hs kt hop hx ha hv (by rw [Zge]; exact hH) hb hu hb') hd hw hdl hfr hf hnd (by rintro _ _ ⟨rfl,rfl⟩; exact ZrK _ _) (by rintro _ _ ⟨rfl,rfl⟩; exact hk)
end
section
variable {Γ:Cx} {P:Program} {k:Zcc} {sl:List (Nat × V)} {H hp h h':Hp} {o:Oper} {ops:Array Oper} {i an d kt:Nat} {ts:List Nat} {r:List PI} {F:List Ft} {f:FuncId} {us uc:List V} {x:Operand} {xs:Array Operand} {ats:Array TypeId} {u u':V} {rest:List Oper}
theorem Zwq (hs:Spec P f us [] fun u1 h1=>u1=u∧h1=h) (M:Nat) (hop:o.op=.call { callee:=.value x,args:=xs,argTypes:=ats }) (hx:ev sl x=some (.d (.c (.func (.func f) #[] #[])))) (ha:evl sl xs.toList=some uc) (hv:Vws [] [] uc us)
   (hu:u.ren (rn [] M)=u') (hh:Zfw (rn [] M) h=h'):OpV P o H sl M 100 fun u1 h1=>u1=u'∧h1=h':=by
 refine (ZlK M [] hs hop hx ha hv VH.nil rfl rfl rfl).mono ?_
 rintro u1 h1 ⟨u0,h0',⟨rfl,rfl⟩,rfl,rfl⟩
 exact ⟨hu,hh⟩
theorem ZfY (hs:Spec Γ.P f us [] fun u1 h1=>u1=u∧h1=h) (M:Nat) (hop:o.op=.call { callee:=.value x,args:=xs,argTypes:=ats }) (hx:ev sl x=some (.d (.c (.func (.func f) #[] #[])))) (ha:evl sl xs.toList=some uc) (hv:Vws [] [] uc us)
   (hu:u.ren (rn [] M)=u') (hh:Zfw (rn [] M) h=h') (hg:o.guard=none) (hd:o.dst=some d) (hdl:Nat.blt d Γ.nt=true) (hf:ZZ hp M 100=true) (hk:WL Γ ops rest k ⟨(d,u')::sl,h'++hp⟩):WL Γ ops (o::rest) k ⟨sl,hp⟩ :=
 ZtW (Zwq hs M hop hx ha hv hu hh) hg hd hdl hf (by rintro _ _ ⟨rfl,rfl⟩; exact hk)
theorem ZlH (hs:Spec Γ.P f us [] fun u1 h1=>u1=u∧h1=h) (M:Nat) (ws:List Nat) (hws:h'.map (·.1)=ws) (hop:o.op=.call { callee:=.value x,args:=xs,argTypes:=ats }) (hx:ev (keep ts sl) x=some (.d (.c (.func (.func f) #[] #[])))) (ha:evl (keep ts sl) xs.toList=some uc) (hv:Vws [] [] uc us)
   (hu:u.ren (rn [] M)=u') (hh:Zfw (rn [] M) h=h') (hd:o.dst=some d) (hw:Wt ops o (keep ts sl) true) (hdl:Nat.blt d Γ.nt=true) (hin:inW h' ws=true) (hfr:ZZ hp M 100=true) (hf:okF ⟨⟨i,an,ts⟩,[],ws,M,100⟩ F=true) (hnd:(r.all fun q=>Zdu q.an i)=true)
   (hk:WD Γ ops k r (⟨⟨i,an,ts⟩,[],ws,M,100⟩::F) ⟨(d,u')::sl,h'++hp⟩):WO Γ ops k o i an ts r F ⟨sl,hp⟩ :=
 ZxR [] ws (Zwq hs M hop hx ha hv hu hh) hd hw hdl hfr hf hnd (by rintro _ _ ⟨rfl,rfl⟩; exact hin) (by rintro _ _ ⟨rfl,rfl⟩; exact hk)
end
section
variable {P:Program} {o:Oper} {H:Hp} {sl:List (Nat × V)} {x y:Operand} {T U E t:TypeId} {zz bytes n off k:Nat} {i:Int} {ag:Bool} {α:Type} {f:α→List D} {xs:List α} {a a':α} {u:V}
theorem ZaI (h:YD xs i=some a) (b:α):YD (xs.set i.toNat b) i=some b:=by
 obtain ⟨m,rfl,h1⟩:=Zej h
 have:=(List.getElem?_eq_some_iff.1 h1).1
 unfold YD
 rw [if_pos (by omega)]
 simp [this]
theorem ZvV (hg:YD xs i=some a) [hS:Sl P t E zz bytes] (hop:o.op=.indexAddr t x y) (hx:ev sl x=some (.h k)) (hy:ev sl y=some (vI i)) (hH:look H k=some (some (YY E zz f xs))):OpD P o H sl 0 0 (.e k (i.toNat * zz)) []:=by
 obtain ⟨m,rfl,h1⟩:=Zej hg
 exact Zyd hop hx hy hH rfl (List.getElem?_eq_some_iff.1 h1).1
theorem flat_get {z:Nat} (hf:∀ a,(f a).length=z) (hg:YD xs i=some a) (j:Nat) (hj:j<z):(xs.flatMap f)[i.toNat * z+j]?=(f a)[j]?:=by
 obtain ⟨m,rfl,h1⟩:=Zej hg
 have h2:=List.getElem?_eq_getElem (l:=f a) (i:=j) (by rw [hf]; exact hj)
 rw [h2]
 exact ZkA hf h1 j _ h2
theorem Zpu {z:Nat} (hf:∀ a,(f a).length=z) (hg:YD xs i=some a):i.toNat * z+z≤(xs.flatMap f).length:=by
 obtain ⟨m,rfl,h1⟩:=Zej hg
 have h2:=(List.getElem?_eq_some_iff.1 h1).1
 have h3:(xs.flatMap f).length=xs.length * z:=by
  clear hg h1 h2
  induction xs with
  | nil=>simp
  | cons b l ih=>rw [List.flatMap_cons,List.length_append,hf,ih,List.length_cons,Nat.add_mul]; omega
 rw [h3,Int.toNat_natCast,← Nat.succ_mul]
 exact Nat.mul_le_mul_right _ h2
theorem Zap {z:Nat} [hL:Len f z] (hg:YD xs i=some a):((xs.flatMap f).drop (i.toNat * z+0)).take z=f a:=by
 apply List.ext_getElem?
 intro j
 rw [List.getElem?_take]
 split
 ·rw [List.getElem?_drop,Nat.add_zero]
  exact flat_get hL.len hg j (by assumption)
 ·rename_i hj
  have:=hL.len a
  exact (List.getElem?_eq_none (by omega)).symm
theorem Xi {z:Nat} [hL:Len f z] (hg:YD xs i=some a):((xs.flatMap f).drop (i.toNat * z)).take z=f a:=Zap hg
theorem Zkz (hg:YD xs i=some a) [hL:Len f zz] (hop:o.op=.load T x) (hx:ev sl x=some (.e k (i.toNat * zz+off))) (hH:look H k=some (some (YY E zz f xs))) (hT:Ty P T n ag) (hl:(Nat.ble (off+n) zz && (ag || n == 1))=true) (hu:ldE ag n off (f a)=some u):OpD P o H sl 0 0 u []:=by
 simp only [Bool.and_eq_true,Nat.ble_eq] at hl
 have h1:=Zpu hL.len hg
 refine Zie hop hx hH hT ?_ ?_
 ·simp only [Bool.and_eq_true,Nat.ble_eq,List.length_map]
  exact ⟨by omega,hl.2⟩
 ·unfold ldC
  unfold ldE at hu
  cases ag with
  | true =>
   simp only [cond_true] at hu ⊢
   rw [← hu]
   congr 2
   apply List.ext_getElem?
   intro j
   simp only [List.getElem?_take,List.getElem?_drop,List.getElem?_map]
   split
   ·rw [Nat.add_assoc,flat_get hL.len hg _ (by omega)]
   ·rfl
  | false =>
   simp only [cond_false] at hu ⊢
   rw [List.getElem?_map,flat_get hL.len hg _ (by simp at hl; omega)]
   exact hu
theorem Zpw:∀ (o:Nat) (vs c e:List V),stV (c.length+o) vs (c++e)=c++stV o vs e
 | o,[],c,e=>by simp [stV]
 | o,v::vs,[],e=>by simp
 | o,v::vs,x::c,e=>by
  rw [List.length_cons,show c.length+1+o=(c.length+o)+1 by omega,List.cons_append,stV,Zpw o (v::vs) c e,List.cons_append]
theorem Zit:∀ (o:Nat) (vs c e:List V),o+vs.length≤c.length→stV o vs (c++e)=stV o vs c++e
 | _,[],c,e,_=>by simp [stV]
 | 0,v::vs,[],e,h=>by simp at h
 | 0,v::vs,x::c,e,h=>by
  simp only [List.cons_append,stV]
  rw [Zit 0 vs c e (by simp at h; omega)]
 | o+1,v::vs,[],e,h=>by simp at h
 | o+1,v::vs,x::c,e,h=>by
  simp only [List.cons_append,stV]
  rw [Zit o (v::vs) c e (by simp at h ⊢; omega)]
theorem Zmd {z:Nat} (hf:∀ a,(f a).length=z) (vs:List V) (ho:off+vs.length≤z) (a':α) (hc:stV off vs ((f a).map V.d)=(f a').map V.d):∀ (xs:List α) (m:Nat),xs[m]?=some a→stV (m * z+off) vs ((xs.flatMap f).map V.d)=((xs.set m a').flatMap f).map V.d
 | [],m,h=>by simp at h
 | b::l,0,h=>by
  obtain rfl:b=a:=by simpa using h
  rw [Nat.zero_mul,Nat.zero_add,List.flatMap_cons,List.map_append,Zit _ _ _ _ (by rw [List.length_map,hf]; exact ho),hc,List.set_cons_zero,List.flatMap_cons,List.map_append]
 | b::l,m+1,h=>by
  have ih:=Zmd hf vs ho a' hc l m (by simpa using h)
  have e:(m+1) * z+off=((f b).map V.d).length+(m * z+off):=by rw [List.length_map,hf,Nat.succ_mul]; omega
  rw [List.flatMap_cons,List.map_append,e,Zpw,ih,List.set_cons_succ,List.flatMap_cons,List.map_append]
theorem Zje {ys:List α} (hg:YD xs i=some a) (he:xs.set i.toNat a'=ys) [hL:Len f zz] (hop:o.op=.store T x y) (hx:ev sl x=some (.e k (i.toNat * zz+off))) (hy:ev sl y=some u) (hH:look H k=some (some (YY E zz f xs))) (hT:Ty P T n ag) (hl:(Nat.ble (off+n) zz && (Zq u).length == n && (Zq u).all cellV && Nat.blt 0 n)=true)
   (hc:stV off (Zq u) ((f a).map V.d)=(f a').map V.d):OpD P o H sl 0 0 .un [(k,some (YY E zz f ys))]:=by
 subst he
 simp only [Bool.and_eq_true,Nat.ble_eq,beq_iff_eq] at hl
 obtain ⟨⟨⟨h1,h2⟩,h3⟩,h4⟩:=hl
 have h5:=Zpu hL.len hg
 obtain ⟨m,rfl,h6⟩:=Zej hg
 have hs:=Zmd hL.len (Zq u) (by rw [h2]; exact h1) a' hc xs m h6
 rw [Int.toNat_natCast] at hx h5
 have hst:=Zsb (H:=H) (sl:=sl) hop hx hy hH hT (by rw [List.length_map]; omega) (by simp [h2,h3]) (Zdv h4) hs
 unfold YY
 rw [List.length_set,Int.toNat_natCast]
 exact hst
end
section
variable {Γ:Cx} {k:Zcc} {sl:List (Nat × V)} {hp:Hp} {o:Oper} {ops:Array Oper} {i an d:Nat} {ts:List Nat} {r:List PI} {F:List Ft} {x y:Operand} {T E t:TypeId} {zz bytes n off kk:Nat} {j:Int} {ag:Bool} {α:Type} {f:α→List D} {xs ys:List α} {a a':α} {u:V}
theorem ZwM (hg:YD xs j=some a) [hS:Sl Γ.P t E zz bytes] (hop:o.op=.indexAddr t x y) (hx:ev (keep ts sl) x=some (.h kk)) (hy:ev (keep ts sl) y=some (vI j)) (hH:look hp kk=some (some (YY E zz f xs))) (hd:o.dst=some d) (hw:Wt ops o (keep ts sl) true) (hdl:Nat.blt d Γ.nt=true) (hf:okF ⟨⟨i,an,ts⟩,[kk],[],0,0⟩ F=true)
   (hk:WD Γ ops k r (⟨⟨i,an,ts⟩,[kk],[],0,0⟩::F) ⟨(d,.e kk (j.toNat * zz))::sl,hp⟩):WO Γ ops k o i an ts r F ⟨sl,hp⟩ :=
 Yp [kk] (ZvV hg hop hx hy (by rw [Zge]; exact hH)) hd hw hdl hf hk
theorem ZoD (hg:YD xs j=some a) [hL:Len f zz] (hop:o.op=.load T x) (hx:ev (keep ts sl) x=some (.e kk (j.toNat * zz+off))) (hH:look hp kk=some (some (YY E zz f xs))) (hT:Ty Γ.P T n ag) (hl:(Nat.ble (off+n) zz && (ag || n == 1))=true) (hu:ldE ag n off (f a)=some u) (hd:o.dst=some d) (hw:Wt ops o (keep ts sl) true) (hdl:Nat.blt d Γ.nt=true) (hf:okF ⟨⟨i,an,ts⟩,[kk],[],0,0⟩ F=true)
   (hk:WD Γ ops k r (⟨⟨i,an,ts⟩,[kk],[],0,0⟩::F) ⟨(d,u)::sl,hp⟩):WO Γ ops k o i an ts r F ⟨sl,hp⟩ :=
 Yp [kk] (Zkz hg hop hx (by rw [Zge]; exact hH) hT hl hu) hd hw hdl hf hk
theorem ZwS {lo hi:Option Operand} {l1:List α} {j2:Int} (hg:lsl xs j j2=some l1) [hS:Sl Γ.P t E zz bytes] [hL:Len f zz] (hop:o.op=.slice t x lo hi none) (hx:ev (keep ts sl) x=some (.h kk)) (hH:look hp kk=some (some (YY E zz f xs))) (hlo:evo (keep ts sl) 0 lo=some (vI j)) (hhi:evo (keep ts sl) (xs.length:Int) hi=some (vI j2)) (hd:o.dst=some d) (hw:Wt ops o (keep ts sl) true) (hdl:Nat.blt d Γ.nt=true) (hf:okF ⟨⟨i,an,ts⟩,[kk],[],0,0⟩ F=true)
   (hk:WD Γ ops k r (⟨⟨i,an,ts⟩,[kk],[],0,0⟩::F) ⟨(d,.s kk j.toNat l1.length zz)::sl,hp⟩):WO Γ ops k o i an ts r F ⟨sl,hp⟩ :=
 Yp [kk] (Zwe hg hop hx (by rw [Zge]; exact hH) hlo hhi) hd hw hdl hf hk
theorem ZwF {l1 l2 rr:List α} {j2 b:Int} {k':Nat} (ha:apd xs l1 l2=some rr) (h1:lsl xs 0 b=some l1) (h2:lsl xs j j2=some l2) [hS:Sl Γ.P t E zz bytes] [hL:Len f zz] (hop:o.op=.call { callee:=.builtin .append,args:=#[x,y],argTypes:=#[t,t] }) (hd:o.dst=some d) (hkd:d+100=k') (hx:ev (keep ts sl) x=some (.s kk 0 l1.length zz)) (hy:ev (keep ts sl) y=some (.s kk j.toNat l2.length zz)) (hH:look hp kk=some (some (YY E zz f xs)))
   (hkk:(!Nat.beq kk k')=true) (hw:Wt ops o (keep ts sl) true) (hdl:Nat.blt d Γ.nt=true) (hfr:ZZ hp k' 1=true) (hfo:okF ⟨⟨i,an,ts⟩,[kk],[kk,k'],k',1⟩ F=true)
   (hk:WD Γ ops k r (⟨⟨i,an,ts⟩,[kk],[kk,k'],k',1⟩::F) ⟨(d,.h k')::sl,(kk,none)::(k',some (YY E zz f rr))::hp⟩):WO Γ ops k o i an ts r F ⟨sl,hp⟩ :=
 Zy7 [kk] (Zyc ha h1 h2 hop hd hkd hx hy (by rw [Zge]; exact hH) hkk) hd hw hdl hfr hfo hk
theorem Ztk (hg:YD xs j=some a) (he:xs.set j.toNat a'=ys) [hL:Len f zz] (hop:o.op=.store T x y) (hx:ev (keep ts sl) x=some (.e kk (j.toNat * zz+off))) (hy:ev (keep ts sl) y=some u) (hH:look hp kk=some (some (YY E zz f xs))) (hT:Ty Γ.P T n ag) (hl:(Nat.ble (off+n) zz && (Zq u).length == n && (Zq u).all cellV && Nat.blt 0 n)=true)
   (hc:stV off (Zq u) ((f a).map V.d)=(f a').map V.d) (hd:o.dst=none) (hw:Wt ops o (keep ts sl) true) (hf:okF ⟨⟨i,an,ts⟩,[kk],[kk],0,0⟩ F=true)
   (hk:WD Γ ops k r (⟨⟨i,an,ts⟩,[kk],[kk],0,0⟩::F) ⟨sl,(kk,some (YY E zz f ys))::hp⟩):WO Γ ops k o i an ts r F ⟨sl,hp⟩ :=
 Zzh [kk] (Zje hg he hop hx hy (by rw [Zge]; exact hH) hT hl hc) hd hw hf hk
end
theorem Vw.fp0 {H:Hp} {f:List (Nat × Nat)} {k:Nat} {T:TypeId} {cs:List V} {xs:List D} (hk:(f.map (·.2)).contains k=false) (hH:look H k=some (some (.box T cs))) (hc:Vws H f cs (xs.map .d)):Vw H f (.p k 0) (.q xs):=.fp hk hH hc rfl
theorem si {P:Program} {f:FuncId} {us:List V} {H0:Hp} {Ψ:V→Hp→Prop} {fn:Func} {c:Code} {rs:List ResultVar} {nt:Nat} {sl:List (Nat × V)} {ks:List Nat} (hf:P.funcs[f]?=some fn) (hnt:fn.ntmps=nt) (hrs:fn.results=rs.toArray) (hw:∀ B w0 ρ0,WC ⟨P,B,w0,ρ0,ks,nt⟩ c (.fn (Zgd P ks rs Ψ)) ⟨sl,H0⟩)
   (hsl : slots 0 us = sl := by simp only [slots, Nat.reduceAdd]; exact rfl) (hks : H0.map (·.1) = ks := by simp only [List.map_nil, List.map_cons]; exact rfl) (hn : (fn.name == "runtime.NumGoroutine") = false := by rfl) (hb : fn.body = some c := by rfl) (hl : Nat.ble us.length nt = true := by rfl) : Spec P f us H0 Ψ := by
 subst hsl hks
 exact Spec.intro hf hn hb hnt hrs hl hw
section
variable {Γ:Cx} {P:Program} {ks:List Nat} {rs:List ResultVar} {Ψ:V→Hp→Prop} {st st':St} {us:List V} {u:V} {h:Hp} {k:Zcc} {n m:Nat}
theorem Zkr (h1:Zi6 st rs=some us:=by rfl) (h2:Zja P st rs:=by (repeat (first | exact trivial | refine Zv rfl rfl (by exact inferInstance) ?_))) (hp:Zgb ks st [] []=true:=by rfl) (h3:Vw st.hp [] (one us) u:=by (first | exact Vw.nil | exact Vw.d _ | (repeat (first | exact Vws.nil | apply Vws.cons | exact Vw.nil | exact Vw.d _ | apply Vw.a | apply Vw.t | exact Vw.fh rfl rfl (Zj _) | exact Vw.fh rfl rfl Vws.nil)); done)):WK Γ (.fn (Zgd P ks rs fun u' h'=>u'=u∧h'=[])) .ret st:=Xl h1 h2 hp h3 ⟨rfl,rfl⟩
theorem Zjc (h1:Zi6 st rs=some us:=by rfl) (h2:Zja P st rs:=by (repeat (first | exact trivial | refine Zv rfl rfl (by exact inferInstance) ?_))) (hp:Zgb ks st [] []=true:=by rfl) (h3:Vw st.hp [] (one us) u:=by (first | exact Vw.nil | exact Vw.d _ | (repeat (first | exact Vws.nil | apply Vws.cons | exact Vw.nil | exact Vw.d _ | apply Vw.a | apply Vw.t | exact Vw.fh rfl rfl (Zj _) | exact Vw.fh rfl rfl Vws.nil)); done)):WK Γ (.fn (Zgd P ks rs fun u' h'=>u'=u∧h'=[])) .normal st:=Yn h1 h2 hp h3 ⟨rfl,rfl⟩
theorem Zuy (f:List (Nat × Nat)) (h4:Ψ u h) (h1:Zi6 st rs=some us:=by rfl) (h2:Zja P st rs:=by (repeat (first | exact trivial | refine Zv rfl rfl (by exact inferInstance) ?_))) (hp:Zgb ks st f h=true:=by rfl) (h3:Vw st.hp f (one us) u:=by (first | exact Vw.nil | exact Vw.d _ | (repeat (first | exact Vws.nil | apply Vws.cons | exact Vw.nil | exact Vw.d _ | exact Vw.h rfl | exact Vw.p rfl | apply Vw.a | apply Vw.t | exact Vw.fh rfl rfl (Zj _) | exact Vw.fh rfl rfl Vws.nil)); done)) (h5:VH st.hp st.hp f h:=by repeat (first | refine VH.cons rfl rfl Xh ?_ | refine VH.cons0 ?_ | refine VH.cons rfl rfl (Vb.ob _) ?_ | exact VS.nil | exact VH.nil | exact Vws.nil | refine VS.cons rfl ?_ ?_ | refine VH.cons rfl rfl (Vb.box ?_) ?_ | refine VH.cons rfl rfl (Vb.arr ?_) ?_ | exact Zj _ | refine Vws.cons ?_ ?_ | exact Vw.d _ | exact Vw.p rfl | exact Vw.h rfl | exact Vw.e rfl | exact Vw.s rfl | exact Vw.q _ | refine Vw.a ?_ | refine Vw.t ?_ | exact Vw.nil | exact Vw.fh rfl rfl (Zj _) | exact Vw.fe rfl rfl (Zj _) (Zap (by assumption)) | exact Vw.fe rfl rfl (Zj _) (Xi (by assumption)) | refine Vw.fp0 rfl rfl ?_ | exact Vw.mp rfl | refine VH.cons rfl rfl (Vb.mt _ _) ?_ | exact Vw.sc rfl | exact Vw.un _)):WK Γ (.fn (Zgd P ks rs Ψ)) .ret st:=ZoK f h1 h2 hp h3 h5 h4
theorem ZpZ (f:List (Nat × Nat)) (h4:Ψ u h) (h1:Zi6 st rs=some us:=by rfl) (h2:Zja P st rs:=by (repeat (first | exact trivial | refine Zv rfl rfl (by exact inferInstance) ?_))) (hp:Zgb ks st f h=true:=by rfl) (h3:Vw st.hp f (one us) u:=by (first | exact Vw.nil | exact Vw.d _ | (repeat (first | exact Vws.nil | apply Vws.cons | exact Vw.nil | exact Vw.d _ | exact Vw.h rfl | exact Vw.p rfl | apply Vw.a | apply Vw.t | exact Vw.fh rfl rfl (Zj _) | exact Vw.fh rfl rfl Vws.nil)); done)) (h5:VH st.hp st.hp f h:=by repeat (first | refine VH.cons rfl rfl Xh ?_ | refine VH.cons0 ?_ | refine VH.cons rfl rfl (Vb.ob _) ?_ | exact VS.nil | exact VH.nil | exact Vws.nil | refine VS.cons rfl ?_ ?_ | refine VH.cons rfl rfl (Vb.box ?_) ?_ | refine VH.cons rfl rfl (Vb.arr ?_) ?_ | exact Zj _ | refine Vws.cons ?_ ?_ | exact Vw.d _ | exact Vw.p rfl | exact Vw.h rfl | exact Vw.e rfl | exact Vw.s rfl | exact Vw.q _ | refine Vw.a ?_ | refine Vw.t ?_ | exact Vw.nil | exact Vw.fh rfl rfl (Zj _) | exact Vw.fe rfl rfl (Zj _) (Zap (by assumption)) | exact Vw.fe rfl rfl (Zj _) (Xi (by assumption)) | refine Vw.fp0 rfl rfl ?_ | exact Vw.mp rfl | refine VH.cons rfl rfl (Vb.mt _ _) ?_ | exact Vw.sc rfl | exact Vw.un _)):WK Γ (.fn (Zgd P ks rs Ψ)) .normal st:=ZkU (Wk.refl _ _) ⟨us,f,u,h,h1,h2,hp,h3,h5,h4⟩
theorem Zey {I:St→Prop} (f:List (Nat × Nat)) (h:I st') (hal:Qs st.hp f=true:=by rfl) (hol:olds f=true:=by rfl) (hks:(Γ.ks.all fun k=>match look f k with | some k'=>Nat.beq k k' | none=>false)=true:=by rfl) (hd:(f.all fun e=>(look st'.hp e.1).isSome)=true:=by rfl) (hs:VS st.hp f st.sl st'.sl:=by repeat (first | refine VH.cons rfl rfl Xh ?_ | refine VH.cons0 ?_ | refine VH.cons rfl rfl (Vb.ob _) ?_ | exact VS.nil | exact VH.nil | exact Vws.nil | refine VS.cons rfl ?_ ?_ | refine VH.cons rfl rfl (Vb.box ?_) ?_ | refine VH.cons rfl rfl (Vb.arr ?_) ?_ | exact Zj _ | refine Vws.cons ?_ ?_ | exact Vw.d _ | exact Vw.p rfl | exact Vw.h rfl | exact Vw.e rfl | exact Vw.s rfl | exact Vw.q _ | refine Vw.a ?_ | refine Vw.t ?_ | exact Vw.nil | exact Vw.fh rfl rfl (Zj _) | exact Vw.fe rfl rfl (Zj _) (Zap (by assumption)) | exact Vw.fe rfl rfl (Zj _) (Xi (by assumption)) | refine Vw.fp0 rfl rfl ?_ | exact Vw.mp rfl | refine VH.cons rfl rfl (Vb.mt _ _) ?_ | exact Vw.sc rfl | exact Vw.un _)) (hh:VH st.hp st.hp f st'.hp:=by repeat (first | refine VH.cons rfl rfl Xh ?_ | refine VH.cons0 ?_ | refine VH.cons rfl rfl (Vb.ob _) ?_ | exact VS.nil | exact VH.nil | exact Vws.nil | refine VS.cons rfl ?_ ?_ | refine VH.cons rfl rfl (Vb.box ?_) ?_ | refine VH.cons rfl rfl (Vb.arr ?_) ?_ | exact Zj _ | refine Vws.cons ?_ ?_ | exact Vw.d _ | exact Vw.p rfl | exact Vw.h rfl | exact Vw.e rfl | exact Vw.s rfl | exact Vw.q _ | refine Vw.a ?_ | refine Vw.t ?_ | exact Vw.nil | exact Vw.fh rfl rfl (Zj _) | exact Vw.fe rfl rfl (Zj _) (Zap (by assumption)) | exact Vw.fe rfl rfl (Zj _) (Xi (by assumption)) | refine Vw.fp0 rfl rfl ?_ | exact Vw.mp rfl | refine VH.cons rfl rfl (Vb.mt _ _) ?_ | exact Vw.sc rfl | exact Vw.un _)):WK Γ (.cut I k) .normal st:=Zgv (wk f hal hol hks hd hs hh) h
theorem Zbk {I:Nat→St→Prop} (f:List (Nat × Nat)) (h:I m st') (hm:m<n) (hal:Qs st.hp f=true:=by rfl) (hol:olds f=true:=by rfl) (hks:(Γ.ks.all fun k=>match look f k with | some k'=>Nat.beq k k' | none=>false)=true:=by rfl) (hd:(f.all fun e=>(look st'.hp e.1).isSome)=true:=by rfl) (hs:VS st.hp f st.sl st'.sl:=by repeat (first | refine VH.cons rfl rfl Xh ?_ | refine VH.cons0 ?_ | refine VH.cons rfl rfl (Vb.ob _) ?_ | exact VS.nil | exact VH.nil | exact Vws.nil | refine VS.cons rfl ?_ ?_ | refine VH.cons rfl rfl (Vb.box ?_) ?_ | refine VH.cons rfl rfl (Vb.arr ?_) ?_ | exact Zj _ | refine Vws.cons ?_ ?_ | exact Vw.d _ | exact Vw.p rfl | exact Vw.h rfl | exact Vw.e rfl | exact Vw.s rfl | exact Vw.q _ | refine Vw.a ?_ | refine Vw.t ?_ | exact Vw.nil | exact Vw.fh rfl rfl (Zj _) | exact Vw.fe rfl rfl (Zj _) (Zap (by assumption)) | exact Vw.fe rfl rfl (Zj _) (Xi (by assumption)) | refine Vw.fp0 rfl rfl ?_ | exact Vw.mp rfl | refine VH.cons rfl rfl (Vb.mt _ _) ?_ | exact Vw.sc rfl | exact Vw.un _)) (hh:VH st.hp st.hp f st'.hp:=by repeat (first | refine VH.cons rfl rfl Xh ?_ | refine VH.cons0 ?_ | refine VH.cons rfl rfl (Vb.ob _) ?_ | exact VS.nil | exact VH.nil | exact Vws.nil | refine VS.cons rfl ?_ ?_ | refine VH.cons rfl rfl (Vb.box ?_) ?_ | refine VH.cons rfl rfl (Vb.arr ?_) ?_ | exact Zj _ | refine Vws.cons ?_ ?_ | exact Vw.d _ | exact Vw.p rfl | exact Vw.h rfl | exact Vw.e rfl | exact Vw.s rfl | exact Vw.q _ | refine Vw.a ?_ | refine Vw.t ?_ | exact Vw.nil | exact Vw.fh rfl rfl (Zj _) | exact Vw.fe rfl rfl (Zj _) (Zap (by assumption)) | exact Vw.fe rfl rfl (Zj _) (Xi (by assumption)) | refine Vw.fp0 rfl rfl ?_ | exact Vw.mp rfl | refine VH.cons rfl rfl (Vb.mt _ _) ?_ | exact Vw.sc rfl | exact Vw.un _)):WK Γ (.loop I n k) .normal st:=Zbs m (wk f hal hol hks hd hs hh) hm h
theorem ZiL (I:Nat→St→Prop) {x:Code} (f:List (Nat × Nat)) (h0:I n st') (hr:∀ n st,I n st→WC Γ x (.loop I n k) st) (hal:Qs st.hp f=true:=by rfl) (hol:olds f=true:=by rfl) (hks:(Γ.ks.all fun k=>match look f k with | some k'=>Nat.beq k k' | none=>false)=true:=by rfl) (hd:(f.all fun e=>(look st'.hp e.1).isSome)=true:=by rfl) (hs:VS st.hp f st.sl st'.sl:=by repeat (first | refine VH.cons rfl rfl Xh ?_ | refine VH.cons0 ?_ | refine VH.cons rfl rfl (Vb.ob _) ?_ | exact VS.nil | exact VH.nil | exact Vws.nil | refine VS.cons rfl ?_ ?_ | refine VH.cons rfl rfl (Vb.box ?_) ?_ | refine VH.cons rfl rfl (Vb.arr ?_) ?_ | exact Zj _ | refine Vws.cons ?_ ?_ | exact Vw.d _ | exact Vw.p rfl | exact Vw.h rfl | exact Vw.e rfl | exact Vw.s rfl | exact Vw.q _ | refine Vw.a ?_ | refine Vw.t ?_ | exact Vw.nil | exact Vw.fh rfl rfl (Zj _) | exact Vw.fe rfl rfl (Zj _) (Zap (by assumption)) | exact Vw.fe rfl rfl (Zj _) (Xi (by assumption)) | refine Vw.fp0 rfl rfl ?_ | exact Vw.mp rfl | refine VH.cons rfl rfl (Vb.mt _ _) ?_ | exact Vw.sc rfl | exact Vw.un _)) (hh:VH st.hp st.hp f st'.hp:=by repeat (first | refine VH.cons rfl rfl Xh ?_ | refine VH.cons0 ?_ | refine VH.cons rfl rfl (Vb.ob _) ?_ | exact VS.nil | exact VH.nil | exact Vws.nil | refine VS.cons rfl ?_ ?_ | refine VH.cons rfl rfl (Vb.box ?_) ?_ | refine VH.cons rfl rfl (Vb.arr ?_) ?_ | exact Zj _ | refine Vws.cons ?_ ?_ | exact Vw.d _ | exact Vw.p rfl | exact Vw.h rfl | exact Vw.e rfl | exact Vw.s rfl | exact Vw.q _ | refine Vw.a ?_ | refine Vw.t ?_ | exact Vw.nil | exact Vw.fh rfl rfl (Zj _) | exact Vw.fe rfl rfl (Zj _) (Zap (by assumption)) | exact Vw.fe rfl rfl (Zj _) (Xi (by assumption)) | refine Vw.fp0 rfl rfl ?_ | exact Vw.mp rfl | refine VH.cons rfl rfl (Vb.mt _ _) ?_ | exact Vw.sc rfl | exact Vw.un _)):WC Γ (.loop x) k st:=ZaE I n st' (wk f hal hol hks hd hs hh) h0 hr
end
section
variable {Γ:Cx} {k:Zcc} {x:Code} {st st':St} {sl:List (Nat × V)} {hp:Hp} {o:Oper} {ops:Array Oper} {d:Nat} {f:FuncId} {us uc:List V} {y:Operand} {xs:Array Operand} {ats:Array TypeId} {u:V} {rest:List Oper} {blk blk0 blk':Blk}
theorem ZwN (f:List (Nat × Nat)) (st':St) (h:WC Γ x k st') (hal:Qs st.hp f=true:=by rfl) (hol:olds f=true:=by rfl) (hks:(Γ.ks.all fun k=>match look f k with | some k'=>Nat.beq k k' | none=>false)=true:=by rfl) (hd:(f.all fun e=>(look st'.hp e.1).isSome)=true:=by rfl) (hs:VS st.hp f st.sl st'.sl:=by repeat (first | refine VH.cons rfl rfl Xh ?_ | refine VH.cons0 ?_ | refine VH.cons rfl rfl (Vb.ob _) ?_ | exact VS.nil | exact VH.nil | exact Vws.nil | refine VS.cons rfl ?_ ?_ | refine VH.cons rfl rfl (Vb.box ?_) ?_ | refine VH.cons rfl rfl (Vb.arr ?_) ?_ | exact Zj _ | refine Vws.cons ?_ ?_ | exact Vw.d _ | exact Vw.p rfl | exact Vw.h rfl | exact Vw.e rfl | exact Vw.s rfl | exact Vw.q _ | refine Vw.a ?_ | refine Vw.t ?_ | exact Vw.nil | exact Vw.fh rfl rfl (Zj _) | exact Vw.fe rfl rfl (Zj _) (Zap (by assumption)) | exact Vw.fe rfl rfl (Zj _) (Xi (by assumption)) | refine Vw.fp0 rfl rfl ?_ | exact Vw.mp rfl | refine VH.cons rfl rfl (Vb.mt _ _) ?_ | exact Vw.sc rfl | exact Vw.un _)) (hh:VH st.hp st.hp f st'.hp:=by repeat (first | refine VH.cons rfl rfl Xh ?_ | refine VH.cons0 ?_ | refine VH.cons rfl rfl (Vb.ob _) ?_ | exact VS.nil | exact VH.nil | exact Vws.nil | refine VS.cons rfl ?_ ?_ | refine VH.cons rfl rfl (Vb.box ?_) ?_ | refine VH.cons rfl rfl (Vb.arr ?_) ?_ | exact Zj _ | refine Vws.cons ?_ ?_ | exact Vw.d _ | exact Vw.p rfl | exact Vw.h rfl | exact Vw.e rfl | exact Vw.s rfl | exact Vw.q _ | refine Vw.a ?_ | refine Vw.t ?_ | exact Vw.nil | exact Vw.fh rfl rfl (Zj _) | exact Vw.fe rfl rfl (Zj _) (Zap (by assumption)) | exact Vw.fe rfl rfl (Zj _) (Xi (by assumption)) | refine Vw.fp0 rfl rfl ?_ | exact Vw.mp rfl | refine VH.cons rfl rfl (Vb.mt _ _) ?_ | exact Vw.sc rfl | exact Vw.un _)):WC Γ x k st:=ZbW (wk f hal hol hks hd hs hh) h
theorem Zhp (hs:Spec Γ.P f us [] fun u1 h1=>u1=u∧h1=[]) (hk:WL Γ ops rest k ⟨(d,u)::sl,hp⟩) (hop:o.op=.call { callee:=.value y,args:=xs,argTypes:=ats }:=by rfl) (hx:ev sl y=some (.d (.c (.func (.func f) #[] #[]))):=by rfl) (ha:evl sl xs.toList=some uc:=by rfl) (hv:Vws [] [] uc us:=by ((repeat (first | exact Vws.nil | apply Vws.cons | exact Vw.nil | exact Vw.d _ | exact Vw.q _ | apply Vw.a)); first | done | fail)) (hu:u.ren (rn [] 100000)=u:=by rfl)
 (hg:o.guard=none:=by rfl) (hd:o.dst=some d:=by rfl) (hdl:Nat.blt d Γ.nt=true:=by rfl) (hf:ZZ hp 100000 100=true:=by rfl):WL Γ ops (o::rest) k ⟨sl,hp⟩:=Zx6 hs hop hx ha hv hu hg hd hdl hf hk
theorem Zo7 (hs:Spec Γ.P f us [] fun u1 h1=>u1=u∧h1=[]) (hk:WL Γ ops rest k ⟨(d,u)::sl,hp⟩) (hop:o.op=.call { callee:=.value y,args:=xs,argTypes:=ats }:=by rfl) (hx:ev sl y=some (.d (.c (.func (.func f) #[] #[]))):=by rfl) (ha:evl sl xs.toList=some uc:=by rfl) (hv:Vws hp [] uc us:=by ((repeat (first | exact Vws.nil | apply Vws.cons | exact Vw.nil | exact Vw.d _ | exact Vw.q _ | apply Vw.a | exact Vw.fh rfl rfl (Zj _) | exact Vw.fh rfl rfl Vws.nil)); first | done | fail)) (hu:ClV u:=by ((repeat (first | exact Zn5.nil | apply Zn5.cons | exact ClV.c _ | apply ClV.a | apply ClV.t)); first | done | fail))
 (hg:o.guard=none:=by rfl) (hd:o.dst=some d:=by rfl) (hdl:Nat.blt d Γ.nt=true:=by rfl) (hf:ZZ hp 100000 100=true:=by rfl):WL Γ ops (o::rest) k ⟨sl,hp⟩:=Zt6 (Zwx hs hop hx ha hv hu) hg hd hdl hf hk
theorem ZvA (hs:Spec Γ.P f us [(0,some blk)] fun u1 h1=>u1=u∧h1=[(0,some blk')]) (kt:Nat) (hk:WL Γ ops rest k ⟨(d,u)::sl,(kt,some blk')::hp⟩) (hop:o.op=.call { callee:=.value y,args:=xs,argTypes:=ats }:=by rfl) (hx:ev sl y=some (.d (.c (.func (.func f) #[] #[]))):=by rfl) (ha:evl sl xs.toList=some uc:=by rfl) (hv:Vws [] [(0,kt)] uc us:=by ((repeat (first | exact Vws.nil | apply Vws.cons | exact Vw.nil | exact Vw.d _ | exact Vw.q _ | exact Vw.p rfl | apply Vw.a)); first | done | fail))
 (hH:look hp kt=some (some blk0):=by rfl) (hb:Vb [] [(0,kt)] blk0 blk:=by (refine Vb.box ?_; (repeat (first | exact Vws.nil | apply Vws.cons | exact Vw.nil | exact Vw.d _ | exact Vw.q _ | exact Vw.p rfl | apply Vw.a)); first | done | fail)) (hu:u.ren (rn [(0,kt)] 100000)=u:=by rfl) (hb':blk'.ren (rn [(0,kt)] 100000)=blk':=by rfl)
 (hg:o.guard=none:=by rfl) (hd:o.dst=some d:=by rfl) (hdl:Nat.blt d Γ.nt=true:=by rfl) (hf:ZZ hp 100000 100=true:=by rfl):WL Γ ops (o::rest) k ⟨sl,hp⟩:=Zyw hs kt hop hx ha hv hH hb hu hb' hg hd hdl hf hk
end
theorem sl {g h:Prop} (k:h) (f:h→g:=by (first | (apply Zzg; first | exact ZtA | exact ZhT | exact Zl3 | exact ZhS | exact ZjW | exact Zl6 | exact ZhP | exact ZhK rfl | exact ZjA | exact ZmJ | exact ZlS) | (apply Zzj; first | (apply Zza; first | exact ZvS rfl rfl rfl | exact Ztu rfl rfl rfl rfl rfl rfl rfl | exact ZvK rfl rfl rfl rfl rfl rfl) | exact Ztm | (apply Zv9; first | exact ZL (ZlL rfl rfl) rfl rfl rfl) | (apply ZvZ; first | exact ZL (Zgq rfl rfl) rfl rfl rfl) | (apply Zwf; first | exact ZL (o_load rfl rfl rfl (by exact inferInstance) rfl (by simp only [QF,stV,Zq,ldC,ldE,cond_true,cond_false,List.map_cons,List.map_nil,List.drop_zero,List.drop_succ_cons,List.take_succ_cons,List.take_zero,List.getElem?_cons_zero,List.getElem?_cons_succ,Nat.reduceAdd,Option.map_some]; exact rfl)) rfl rfl rfl | exact ZL (Zif rfl rfl (by exact inferInstance) rfl (by simp only [QF,stV,Zq,ldC,ldE,cond_true,cond_false,List.map_cons,List.map_nil,List.drop_zero,List.drop_succ_cons,List.take_succ_cons,List.take_zero,List.getElem?_cons_zero,List.getElem?_cons_succ,Nat.reduceAdd,Option.map_some]; exact rfl)) rfl rfl rfl | exact ZL (Zie rfl rfl rfl (by exact inferInstance) rfl (by simp only [QF,stV,Zq,ldC,ldE,cond_true,cond_false,List.map_cons,List.map_nil,List.drop_zero,List.drop_succ_cons,List.take_succ_cons,List.take_zero,List.getElem?_cons_zero,List.getElem?_cons_succ,Nat.reduceAdd,Option.map_some]; exact rfl)) rfl rfl rfl) | (apply Zv1; first | exact ZL (Zxp rfl rfl) rfl rfl rfl | exact ZL (ZrT rfl rfl (by first | (simp only [List.drop_zero,List.drop_succ_cons]; exact rfl) | (conv=>lhs; whnf))) rfl rfl rfl | exact ZL (ZrG rfl rfl) rfl rfl rfl) | (apply ZvF; first | exact ZL (ZlD rfl rfl rfl) rfl rfl rfl) | (apply Zvy; first | exact ZL (Zjd rfl rfl rfl rfl) rfl rfl rfl | exact ZL (Zr1 rfl rfl rfl rfl) rfl rfl rfl | exact ZL (ZrL rfl rfl rfl) rfl rfl rfl | exact ZL (ZrU rfl rfl rfl) rfl rfl rfl | exact ZL (Zrx rfl rfl rfl) rfl rfl rfl | exact ZL (ZrA rfl rfl rfl) rfl rfl rfl | exact ZL (ZrX rfl rfl rfl) rfl rfl rfl | exact ZL (Zrv rfl rfl rfl) rfl rfl rfl | exact ZL (Zrw rfl rfl rfl) rfl rfl rfl | exact ZL (ZrV rfl rfl rfl) rfl rfl rfl | exact ZL (ZrW rfl rfl rfl) rfl rfl rfl | exact ZL (ZrJ rfl rfl rfl) rfl rfl rfl | exact ZL (ZrP rfl rfl rfl) rfl rfl rfl | exact ZL (Zry rfl rfl rfl) rfl rfl rfl | exact ZL (ZrF rfl rfl rfl (by kernel_rfl)) rfl rfl rfl | exact ZL (ZrR rfl rfl rfl (by kernel_rfl)) rfl rfl rfl | exact ZL (ZrH rfl rfl rfl (by simp only [ccV,Option.map_some]; exact rfl) (by simp only [ccV,Option.map_some]; exact rfl) (by exact inferInstance)) rfl rfl rfl | exact ZL (ZrE rfl rfl rfl (by simp only [ccV,Option.map_some]; exact rfl) (by simp only [ccV,Option.map_some]; exact rfl) (by exact inferInstance)) rfl rfl rfl) | (apply ZvB; first | exact ZL (Zrz rfl rfl) rfl rfl rfl | exact ZL (Zr0 rfl rfl rfl) rfl rfl rfl) | (apply Zwi; first | exact ZL (Zfd rfl rfl rfl) rfl rfl rfl) | (apply ZvQ; first | exact ZL (Zic rfl rfl rfl (by simp only [QF,stV,Zq,ldC,ldE,cond_true,cond_false,List.map_cons,List.map_nil,List.drop_zero,List.drop_succ_cons,List.take_succ_cons,List.take_zero,List.getElem?_cons_zero,List.getElem?_cons_succ,Nat.reduceAdd,Option.map_some]; exact rfl)) rfl rfl rfl | exact ZL (Zgu rfl rfl rfl (by simp only [QF,stV,Zq,ldC,ldE,cond_true,cond_false,List.map_cons,List.map_nil,List.drop_zero,List.drop_succ_cons,List.take_succ_cons,List.take_zero,List.getElem?_cons_zero,List.getElem?_cons_succ,Nat.reduceAdd,Option.map_some]; exact rfl)) rfl rfl rfl) | (apply Zwb; first | exact ZL (Zip rfl rfl) rfl rfl rfl | exact ZL (Zk1 rfl rfl rfl) rfl rfl rfl | exact ZL (Zid rfl rfl (by kernel_rfl)) rfl rfl rfl | exact ZL (Zir rfl rfl) rfl rfl rfl | exact ZL (Zia rfl rfl) rfl rfl rfl | exact ZL (ZrN rfl rfl rfl) rfl rfl rfl | exact ZL (ZrM rfl rfl rfl) rfl rfl rfl) | (apply Zv4; first | exact ZqW (lo:=0) (nn:=0) (Zk4 rfl rfl rfl rfl (by exact inferInstance) rfl (by simp only [QF,stV,Zq,ldC,ldE,cond_true,cond_false,List.map_cons,List.map_nil,List.drop_zero,List.drop_succ_cons,List.take_succ_cons,List.take_zero,List.getElem?_cons_zero,List.getElem?_cons_succ,Nat.reduceAdd,Option.map_some]; exact rfl)) rfl rfl (QX _ _)) | (apply Zwp; exact Zlw (Zh9 rfl rfl (by simp only [Nat.reduceAdd]; exact rfl) (by exact Yh.out) rfl rfl) rfl rfl rfl rfl) | (apply Zv0; exact Zlw (ZrB rfl rfl (by simp only [Nat.reduceAdd]; exact rfl) rfl rfl (by simp only [Zq]; exact rfl)) rfl rfl rfl rfl) | exact ZL (Zio rfl rfl rfl (by simp only [QF,stV,Zq,ldC,ldE,cond_true,cond_false,List.map_cons,List.map_nil,List.drop_zero,List.drop_succ_cons,List.take_succ_cons,List.take_zero,List.getElem?_cons_zero,List.getElem?_cons_succ,Nat.reduceAdd,Option.map_some]; exact rfl)) rfl rfl rfl | exact ZL (ZlE rfl rfl) rfl rfl rfl | exact ZL (ZrC rfl rfl rfl (by kernel_rfl) (by first | exact rfl | assumption)) rfl rfl rfl) | (apply Zzl; first | exact Zzi rfl rfl (by first | exact .n rfl rfl rfl rfl rfl | exact .u rfl rfl rfl rfl) (hf:=rfl) | (apply ZvU; first | exact Yp [] (ZlL rfl rfl) rfl (by first | exact .no rfl | exact .y rfl rfl rfl rfl) rfl rfl) | (apply Zwk; first | exact Yp [] (Zgq rfl rfl) rfl (by first | exact .no rfl | exact .y rfl rfl rfl rfl) rfl rfl) | (apply Zwn; first | exact Yp [] (Zif rfl rfl (by exact inferInstance) rfl (by simp only [QF,stV,Zq,ldC,ldE,cond_true,cond_false,List.map_cons,List.map_nil,List.drop_zero,List.drop_succ_cons,List.take_succ_cons,List.take_zero,List.getElem?_cons_zero,List.getElem?_cons_succ,Nat.reduceAdd,Option.map_some]; exact rfl)) rfl (by first | exact .no rfl | exact .y rfl rfl rfl rfl) rfl rfl | exact ZvE rfl rfl rfl (by exact inferInstance) rfl (by simp only [QF,stV,Zq,ldC,ldE,cond_true,cond_false,List.map_cons,List.map_nil,List.drop_zero,List.drop_succ_cons,List.take_succ_cons,List.take_zero,List.getElem?_cons_zero,List.getElem?_cons_succ,Nat.reduceAdd,Option.map_some]; exact rfl) rfl (by first | exact .no rfl | exact .y rfl rfl rfl rfl) rfl rfl | exact Zth rfl rfl rfl (by exact inferInstance) rfl (by simp only [QF,stV,Zq,ldC,ldE,cond_true,cond_false,List.map_cons,List.map_nil,List.drop_zero,List.drop_succ_cons,List.take_succ_cons,List.take_zero,List.getElem?_cons_zero,List.getElem?_cons_succ,Nat.reduceAdd,Option.map_some]; exact rfl) rfl (by first | exact .no rfl | exact .y rfl rfl rfl rfl) rfl rfl) | (apply ZvH; first | exact Yp [] (Zxp rfl rfl) rfl (by first | exact .no rfl | exact .y rfl rfl rfl rfl) rfl rfl | exact Yp [] (ZrT rfl rfl (by first | (simp only [List.drop_zero,List.drop_succ_cons]; exact rfl) | (conv=>lhs; whnf))) rfl (by first | exact .no rfl | exact .y rfl rfl rfl rfl) rfl rfl | exact Yp [] (ZrG rfl rfl) rfl (by first | exact .no rfl | exact .y rfl rfl rfl rfl) rfl rfl) | (apply ZvR; first | exact Yp [] (ZlD rfl rfl rfl) rfl (by first | exact .no rfl | exact .y rfl rfl rfl rfl) rfl rfl) | (apply Zwm; first | exact Yp [] (Zjd rfl rfl rfl rfl) rfl (by first | exact .no rfl | exact .y rfl rfl rfl rfl) rfl rfl | exact Yp [] (Zr1 rfl rfl rfl rfl) rfl (by first | exact .no rfl | exact .y rfl rfl rfl rfl) rfl rfl | exact Yp [] (ZrL rfl rfl rfl) rfl (by first | exact .no rfl | exact .y rfl rfl rfl rfl) rfl rfl | exact Yp [] (ZrU rfl rfl rfl) rfl (by first | exact .no rfl | exact .y rfl rfl rfl rfl) rfl rfl | exact Yp [] (Zrx rfl rfl rfl) rfl (by first | exact .no rfl | exact .y rfl rfl rfl rfl) rfl rfl | exact Yp [] (ZrA rfl rfl rfl) rfl (by first | exact .no rfl | exact .y rfl rfl rfl rfl) rfl rfl | exact Yp [] (ZrX rfl rfl rfl) rfl (by first | exact .no rfl | exact .y rfl rfl rfl rfl) rfl rfl | exact Yp [] (Zrv rfl rfl rfl) rfl (by first | exact .no rfl | exact .y rfl rfl rfl rfl) rfl rfl | exact Yp [] (Zrw rfl rfl rfl) rfl (by first | exact .no rfl | exact .y rfl rfl rfl rfl) rfl rfl | exact Yp [] (ZrV rfl rfl rfl) rfl (by first | exact .no rfl | exact .y rfl rfl rfl rfl) rfl rfl | exact Yp [] (ZrW rfl rfl rfl) rfl (by first | exact .no rfl | exact .y rfl rfl rfl rfl) rfl rfl | exact Yp [] (ZrJ rfl rfl rfl) rfl (by first | exact .no rfl | exact .y rfl rfl rfl rfl) rfl rfl | exact Yp [] (ZrP rfl rfl rfl) rfl (by first | exact .no rfl | exact .y rfl rfl rfl rfl) rfl rfl | exact Yp [] (Zry rfl rfl rfl) rfl (by first | exact .no rfl | exact .y rfl rfl rfl rfl) rfl rfl | exact Yp [] (ZrF rfl rfl rfl (by kernel_rfl)) rfl (by first | exact .no rfl | exact .y rfl rfl rfl rfl) rfl rfl | exact Yp [] (ZrR rfl rfl rfl (by kernel_rfl)) rfl (by first | exact .no rfl | exact .y rfl rfl rfl rfl) rfl rfl | exact Yp [] (ZrH rfl rfl rfl (by simp only [ccV,Option.map_some]; exact rfl) (by simp only [ccV,Option.map_some]; exact rfl) (by exact inferInstance)) rfl (by first | exact .no rfl | exact .y rfl rfl rfl rfl) rfl rfl | exact Yp [] (ZrE rfl rfl rfl (by simp only [ccV,Option.map_some]; exact rfl) (by simp only [ccV,Option.map_some]; exact rfl) (by exact inferInstance)) rfl (by first | exact .no rfl | exact .y rfl rfl rfl rfl) rfl rfl) | (apply ZvO; first | exact Yp [] (Zrz rfl rfl) rfl (by first | exact .no rfl | exact .y rfl rfl rfl rfl) rfl rfl | exact Yp [] (Zr0 rfl rfl rfl) rfl (by first | exact .no rfl | exact .y rfl rfl rfl rfl) rfl rfl) | (apply ZvM; first | exact Yp [] (Zfd rfl rfl rfl) rfl (by first | exact .no rfl | exact .y rfl rfl rfl rfl) rfl rfl) | (apply ZvL; first | exact Yp [] (Zic rfl rfl rfl (by simp only [QF,stV,Zq,ldC,ldE,cond_true,cond_false,List.map_cons,List.map_nil,List.drop_zero,List.drop_succ_cons,List.take_succ_cons,List.take_zero,List.getElem?_cons_zero,List.getElem?_cons_succ,Nat.reduceAdd,Option.map_some]; exact rfl)) rfl (by first | exact .no rfl | exact .y rfl rfl rfl rfl) rfl rfl | exact Yp [] (Zgu rfl rfl rfl (by simp only [QF,stV,Zq,ldC,ldE,cond_true,cond_false,List.map_cons,List.map_nil,List.drop_zero,List.drop_succ_cons,List.take_succ_cons,List.take_zero,List.getElem?_cons_zero,List.getElem?_cons_succ,Nat.reduceAdd,Option.map_some]; exact rfl)) rfl (by first | exact .no rfl | exact .y rfl rfl rfl rfl) rfl rfl) | (apply Zv8; first | exact Yp [] (Zip rfl rfl) rfl (by first | exact .no rfl | exact .y rfl rfl rfl rfl) rfl rfl | exact Yp [] (Zid rfl rfl (by kernel_rfl)) rfl (by first | exact .no rfl | exact .y rfl rfl rfl rfl) rfl rfl | exact Yp [] (Zir rfl rfl) rfl (by first | exact .no rfl | exact .y rfl rfl rfl rfl) rfl rfl | exact Yp [] (Zia rfl rfl) rfl (by first | exact .no rfl | exact .y rfl rfl rfl rfl) rfl rfl | exact Yp [] (ZrN rfl rfl rfl) rfl (by first | exact .no rfl | exact .y rfl rfl rfl rfl) rfl rfl | exact Yp [] (ZrM rfl rfl rfl) rfl (by first | exact .no rfl | exact .y rfl rfl rfl rfl) rfl rfl | exact ZoV rfl rfl rfl rfl (by first | exact .no rfl | exact .y rfl rfl rfl rfl) rfl rfl) | (apply Zwl; first | exact ZvX rfl rfl rfl rfl (by exact inferInstance) rfl (by simp only [QF,stV,Zq,ldC,ldE,cond_true,cond_false,List.map_cons,List.map_nil,List.drop_zero,List.drop_succ_cons,List.take_succ_cons,List.take_zero,List.getElem?_cons_zero,List.getElem?_cons_succ,Nat.reduceAdd,Option.map_some]; exact rfl) rfl (by first | exact .no rfl | exact .y rfl rfl rfl rfl) rfl) | (apply Zwd; first | exact ZtX [] (Zh9 rfl rfl (by simp only [Nat.reduceAdd]; exact rfl) (by exact Yh.out) rfl rfl) rfl (by first | exact .no rfl | exact .y rfl rfl rfl rfl) rfl rfl rfl) | (apply Zvz; first | exact ZtX [] (ZrB rfl rfl (by simp only [Nat.reduceAdd]; exact rfl) rfl rfl (by simp only [Zq]; exact rfl)) rfl (by first | exact .no rfl | exact .y rfl rfl rfl rfl) rfl rfl rfl) | exact Yp [] (Zio rfl rfl rfl (by simp only [QF,stV,Zq,ldC,ldE,cond_true,cond_false,List.map_cons,List.map_nil,List.drop_zero,List.drop_succ_cons,List.take_succ_cons,List.take_zero,List.getElem?_cons_zero,List.getElem?_cons_succ,Nat.reduceAdd,Option.map_some]; exact rfl)) rfl (by first | exact .no rfl | exact .y rfl rfl rfl rfl) rfl rfl | exact Yp [] (ZlE rfl rfl) rfl (by first | exact .no rfl | exact .y rfl rfl rfl rfl) rfl rfl | exact Yp [] (ZrC rfl rfl rfl (by kernel_rfl) (by first | exact rfl | assumption)) rfl (by first | exact .no rfl | exact .y rfl rfl rfl rfl) rfl rfl) | exact Ztd | exact ZvW rfl)):g:=f k
structure Wr (p:Prop):Prop where
 out:p
theorem ss {g h:Prop} (k:h) (f:Wr h→g:=by (intro k; (repeat (refine sl ?_)); exact k.out)):g:=f ⟨k⟩
theorem sr {g h:Prop} (k:h) (f:Wr h→g:=by (intro k; (repeat (refine sl ?_)); (repeat (first | refine Zg ?_ | refine Zm ?_)); refine ZaN ?_; (repeat (refine sl ?_)); exact k.out)):g:=f ⟨k⟩
theorem sx {g h:Prop} (k:h) (f:Wr h→g:=by (intro k; (repeat (refine sl ?_)); (first | refine ZeR ?_ | refine Zc4 ?_); (repeat (refine sl ?_)); exact k.out)):g:=f ⟨k⟩
section
variable {Γ:Cx} {k:Zcc} {x y:Code} {st:St} {sl:List (Nat × V)} {hp:Hp} {o oj:Oper} {ops:Array Oper} {rest:List Oper} {c:Operand} {α:Type} {b:Bool} {m n z:α} {j t:Nat} {e:Bool}
theorem Znd (hm:sel b m n=z) (h1:m=z→WL Γ ops (o::rest) k ⟨(t,vB true)::sl,hp⟩) (h2:n=z→WL Γ ops (o::rest) k ⟨(t,vB false)::sl,hp⟩) (hg:o.guard=some (j,e):=by rfl) (hj:ops[j]?=some oj:=by rfl) (ht:oj.dst=some t:=by rfl) (hb:look sl t=some (vB b):=by rfl):WL Γ ops (o::rest) k ⟨sl,hp⟩ :=
 Zwc hg hj ht hb (fun h=>h1 (Zhq h hm)) (fun h=>h2 (Zhn h hm))
theorem Znc (hm:sel b m n=z) (ht:m=z→WC Γ x k st) (hf:n=z→WC Γ y k st) (hc:ev st.sl c=some (vB b):=by rfl):WC Γ (.cond c x y) k st :=
 Zez hc (fun h=>ht (Zhq h hm)) (fun h=>hf (Zhn h hm))
end
def Bnd.ds (b:Bnd):List D:=[dS b.key,dB b.top]
instance : Len Bnd.ds 2:=⟨fun _=>rfl⟩
end Go.Proofs.YtkcmgbbopedacaaGreatDoor
