/-
  Lemmas: sort.insertionSort_func, walked over any row.
-/
import Derived.Shelf.GgSortMore.Stable
import Derived.Lib.SlicesSearch
import Derived.Deep.LoopGhost
import Derived.Deep.Draws
set_option linter.unusedSimpArgs false
set_option linter.unusedVariables false
namespace Go.Proofs.YtkcmgbbopedacaaGreatDoor.SM
variable {α:Type}
def sw (l:List α) (i j:Nat):List α:=match l[i]?,l[j]? with
 | some a,some b=>(l.set i b).set j a
 | _,_=>l
theorem ZeT (l:List α) (i j:Nat):(sw l i j).length=l.length:=by
 unfold sw; split <;> simp
theorem ZfW {l:List α} {i j:Nat} (hi:i<l.length) (hj:j<l.length) (k:Nat):(sw l i j)[k]?=if k=j then l[i]? else if k=i then l[j]? else l[k]?:=by
 unfold sw
 rw [List.getElem?_eq_getElem hi,List.getElem?_eq_getElem hj]
 simp only
 rw [List.getElem?_set,List.getElem?_set]
 rw [List.length_set]
 by_cases h1:k=j
 ·subst h1; simp [hj,List.getElem?_eq_getElem hi]
 ·rw [if_neg (fun h=>h1 h.symm),if_neg h1]
  by_cases h2:k=i
  ·subst h2; simp [hi,List.getElem?_eq_getElem hj]
  ·rw [if_neg (fun h=>h2 h.symm),if_neg h2]
theorem Zu4 (l:List α) (i j:Nat):(sw l i j).Perm l:=by
 unfold sw
 split
 ·rename_i a b ha hb
  obtain ⟨hi,rfl⟩:=List.getElem?_eq_some_iff.1 ha
  obtain ⟨hj,rfl⟩:=List.getElem?_eq_some_iff.1 hb
  have:=(Array.swap_perm (xs:=l.toArray) (i:=i) (j:=j) (by simpa using hi) (by simpa using hj))
  have h:=Array.perm_iff_toList_perm.1 this
  simpa [Array.swap] using h
 ·exact List.Perm.refl _
structure R (a b:Nat) (d d':List α):Prop where
 perm:d'.Perm d
 out:∀ k,k<a∨b≤k→d'[k]?=d[k]?
 src:∀ k,a≤k→k<b→∃ k',a≤k'∧k' < b∧d'[k]?=d[k']?
theorem R.refl (a b:Nat) (d:List α):R a b d d:=⟨.refl _,fun _ _=>rfl,fun k h1 h2=>⟨k,h1,h2,rfl⟩⟩
theorem R.trans {a b:Nat} {d e f:List α} (h:R a b d e) (g:R a b e f):R a b d f:=⟨g.perm.trans h.perm,fun k hk=>(g.out k hk).trans (h.out k hk),fun k h1 h2=>by
 obtain ⟨k',q1,q2,q3⟩:=g.src k h1 h2
 obtain ⟨k2,p1,p2,p3⟩:=h.src k' q1 q2
 exact ⟨k2,p1,p2,q3.trans p3⟩⟩
theorem R.wide {a b a' b':Nat} {d e:List α} (h:R a b d e) (ha:a'≤a) (hb:b≤b'):R a' b' d e:=⟨h.perm,fun k hk=>h.out k (by omega),fun k h1 h2=>by
 by_cases hk:a≤k∧k<b
 ·obtain ⟨k',q1,q2,q3⟩:=h.src k hk.1 hk.2
  exact ⟨k',by omega,by omega,q3⟩
 ·exact ⟨k,h1,h2,h.out k (by omega)⟩⟩
theorem R.len {a b:Nat} {d e:List α} (h:R a b d e):e.length=d.length:=h.perm.length_eq
theorem Zxx {a b:Nat} {d:List α} {i j:Nat} (hb:b≤d.length) (h1:a≤i) (h2:i<b) (h3:a≤j) (h4:j<b):R a b d (sw d i j):=⟨Zu4 _ _ _,fun k hk=>by
 rw [ZfW (by omega) (by omega),if_neg (by omega),if_neg (by omega)],fun k q1 q2=>by
 rw [ZfW (by omega) (by omega)]
 split
 ·exact ⟨i,h1,h2,rfl⟩
 ·split
  ·exact ⟨j,h3,h4,rfl⟩
  ·exact ⟨k,q1,q2,rfl⟩⟩
def swr:Nat→List α→Nat→Nat→List α
 | 0,d,_,_=>d
 | n+1,d,a,b=>swr n (sw d a b) (a+1) (b+1)
theorem ZgF:∀ (n:Nat) (d:List α) (a b:Nat),(swr n d a b).length=d.length
 | 0,_,_,_=>rfl
 | n+1,d,a,b=>by rw [swr,ZgF,ZeT]
theorem ZrO {lo hi:Nat}:∀ (n:Nat) (d:List α) (a b:Nat),hi≤d.length→lo≤a→a+n≤hi→lo≤b→b+n≤hi→R lo hi d (swr n d a b)
 | 0,d,_,_,_,_,_,_,_=>R.refl _ _ _
 | n+1,d,a,b,h,h1,h2,h3,h4=>by
  rw [swr]
  exact (Zxx h h1 (by omega) h3 (by omega)).trans (ZrO n _ _ _ (by rw [ZeT]; exact h) (by omega) (by omega) (by omega) (by omega))
theorem Zis:∀ (n:Nat) (d:List α) (a b:Nat),a+n≤b→b+n≤d.length→∀ k,(swr n d a b)[k]?=if a≤k∧k<a+n then d[k - a+b]? else if b≤k∧k<b+n then d[k - b+a]? else d[k]?
 | 0,d,a,b,_,_,k=>by rw [swr,if_neg (by omega),if_neg (by omega)]
 | n+1,d,a,b,h1,h2,k=>by
  rw [swr,Zis n _ _ _ (by omega) (by rw [ZeT]; omega),ZfW (by omega) (by omega),ZfW (by omega) (by omega),ZfW (by omega) (by omega)]
  by_cases c1:k=a
  ·subst c1
   rw [if_neg (by omega),if_neg (by omega),if_neg (by omega),if_pos rfl,if_pos (by omega)]
   congr 1; omega
  by_cases c2:k=b
  ·subst c2
   rw [if_neg (by omega),if_neg (by omega),if_pos rfl,if_neg (by omega),if_pos (by omega)]
   congr 1; omega
  by_cases c3:a≤k∧k<a+(n+1)
  ·rw [if_pos (by omega),if_neg (by omega),if_neg (by omega),if_pos c3]
   congr 1; omega
  by_cases c4:b≤k∧k<b+(n+1)
  ·rw [if_neg (by omega),if_pos (by omega),if_neg (by omega),if_neg (by omega),if_neg c3,if_pos c4]
   congr 1; omega
  rw [if_neg (by omega),if_neg (by omega),if_neg c2,if_neg c1,if_neg c3,if_neg c4]
def rot:Nat→List α→Nat→Nat→Nat→List α
 | 0,d,_,_,_=>d
 | f+1,d,m,i,j=>if i=j then swr i d (m - i) m else if j<i then rot f (swr j d (m - i) m) m (i - j) j else rot f (swr i d (m - i) (m+j - i)) m i (j - i)
theorem Zt3 {lo hi:Nat}:∀ (f:Nat) (d:List α) (m i j:Nat),hi≤d.length→lo+i≤m→m+j≤hi→R lo hi d (rot f d m i j)
 | 0,d,_,_,_,_,_,_=>R.refl _ _ _
 | f+1,d,m,i,j,h,h1,h2=>by
  rw [rot]
  split
  ·exact ZrO _ _ _ _ h (by omega) (by omega) (by omega) (by omega)
  split
  ·exact (ZrO j d (m - i) m h (by omega) (by omega) (by omega) (by omega)).trans (Zt3 f _ _ _ _ (by rw [ZgF]; exact h) (by omega) (by omega))
  ·exact (ZrO i d (m - i) (m+j - i) h (by omega) (by omega) (by omega) (by omega)).trans (Zt3 f _ _ _ _ (by rw [ZgF]; exact h) (by omega) (by omega))
theorem ZkX:∀ (f:Nat) (d:List α) (m i j:Nat),0<i→0<j→i+j≤f→i≤m→m+j≤d.length→∀ k,(rot f d m i j)[k]?=if m - i≤k∧k<m - i+j then d[k+i]? else if m - i+j≤k∧k<m+j then d[k - j]? else d[k]?
 | 0,_,_,_,_,_,_,h,_,_,_=>by omega
 | f+1,d,m,i,j,hi,hj,hf,h1,h2,k=>by
  rw [rot]
  split
  ·rename_i e
   subst e
   rw [Zis _ _ _ _ (by omega) (by omega)]
   by_cases c1:m - i≤k∧k<m - i+i
   ·rw [if_pos c1,if_pos c1]; congr 1; omega
   ·rw [if_neg c1,if_neg c1]
    by_cases c2:m≤k∧k<m+i
    ·rw [if_pos c2,if_pos (by omega)]; congr 1; omega
    ·rw [if_neg c2,if_neg (by omega)]
  split
  ·rw [ZkX f _ _ _ _ (by omega) hj (by omega) (by omega) (by rw [ZgF]; exact h2)]
   simp only [Zis _ d (m - i) m (show m - i+j≤m by omega) (by omega)]
   repeat' split
   all_goals first | rfl | (exfalso; omega) | (congr 1; omega) | (subst_vars; first | rfl | (exfalso; omega) | (congr 1; omega)) | exact absurd trivial (by assumption)
  ·rw [ZkX f _ _ _ _ hi (by omega) (by omega) (by omega) (by rw [ZgF]; omega)]
   simp only [Zis _ d (m - i) (m+j - i) (show m - i+i≤m+j - i by omega) (by omega)]
   repeat' split
   all_goals first | rfl | (exfalso; omega) | (congr 1; omega) | (subst_vars; first | rfl | (exfalso; omega) | (congr 1; omega)) | exact absurd trivial (by assumption)
section
variable (lt:α→α→Bool)
def Srt (d:List α) (a b:Nat):Prop:=∀ i j x y,a≤i→i<j→j<b→d[i]?=some x→d[j]?=some y→lt y x=false
structure Wo:Prop where
 asym:∀ x y,lt x y=true→lt y x=false
 tr:∀ x y z,lt y x=false→lt z y=false→lt z x=false
def Le (d:List α) (i j:Nat):Prop:=∀ x y,d[i]?=some x→d[j]?=some y→lt y x=false
def lsi (d:List α) (i j:Nat):Bool:=match d[i]?,d[j]? with | some x,some y=>lt x y | _,_=>false
def bs (p:Nat→Bool):Nat→Nat→Nat→Nat
 | 0,i,_=>i
 | f+1,i,j=>if i<j then (if p ((i+j) / 2)=true then bs p f ((i+j) / 2+1) j else bs p f i ((i+j) / 2)) else i
variable {lt}
theorem ZgD (p:Nat→Bool):∀ (f i j:Nat) (i0 j0:Nat),j - i<f→i≤j→i0≤i→j≤j0→(i0<i→p (i - 1)=true)→(j<j0→p j=false)→i0≤bs p f i j∧bs p f i j≤j0∧(i0<bs p f i j→p (bs p f i j - 1)=true)∧(bs p f i j<j0→p (bs p f i j)=false)
 | 0,_,_,_,_,h,_,_,_,_,_=>by omega
 | f+1,i,j,i0,j0,h,h1,h2,h3,h4,h5=>by
  rw [bs]
  by_cases hij:i<j
  ·rw [if_pos hij]
   by_cases hp:p ((i+j) / 2)=true
   ·rw [if_pos hp]
    exact ZgD p f _ j i0 j0 (by omega) (by omega) (by omega) h3 (fun _=>by simpa using hp) h5
   ·rw [if_neg hp]
    exact ZgD p f i _ i0 j0 (by omega) (by omega) h2 (by omega) h4 (fun _=>by simpa using hp)
  ·rw [if_neg hij]
   have:i=j:=by omega
   subst this
   exact ⟨h2,h3,h4,h5⟩
theorem Zfi {W:Wo lt} {d:List α} {i j:Nat} (h:lsi lt d i j=true):Le lt d i j:=fun x y hx hy=>by
 unfold lsi at h
 rw [hx,hy] at h
 exact W.asym _ _ h
theorem ZcP {d:List α} {i j:Nat} (h:lsi lt d i j=false):Le lt d j i:=fun x y hx hy=>by
 unfold lsi at h
 rw [hx,hy] at h
 exact h
theorem Le.tr (W:Wo lt) {d:List α} {i j k:Nat} (hj:j<d.length) (h:Le lt d i j) (g:Le lt d j k):Le lt d i k:=fun x z hx hz=>by
 obtain ⟨y,hy⟩:∃ y,d[j]?=some y:=⟨_,List.getElem?_eq_getElem hj⟩
 exact W.tr x y z (h x y hx hy) (g y z hy hz)
theorem Le.refl (W:Wo lt) (d:List α) (i:Nat):Le lt d i i:=fun x y hx hy=>by
 rw [hx] at hy
 cases hy
 cases h:lt x x
 ·rfl
 ·have:=W.asym _ _ h; rw [h] at this; exact this
theorem Srt.le (W:Wo lt) {d:List α} {a b i j:Nat} (h:Srt lt d a b) (h1:a≤i) (h2:i≤j) (h3:j<b):Le lt d i j:=by
 by_cases e:i=j
 ·subst e; exact Le.refl W d i
 ·exact fun x y hx hy=>h i j x y h1 (by omega) h3 hx hy
theorem Srt.of {d:List α} {a b:Nat} (h:∀ i j,a≤i→i<j→j<b→Le lt d i j):Srt lt d a b:=fun i j x y h1 h2 h3 hx hy=>h i j h1 h2 h3 x y hx hy
theorem Srt.sub {d:List α} {a b a' b':Nat} (h:Srt lt d a b) (ha:a≤a') (hb:b'≤b):Srt lt d a' b':=fun i j x y h1 h2 h3 hx hy=>h i j x y (by omega) h2 (by omega) hx hy
theorem Le.at {d e:List α} {i j i' j':Nat} (h:Le lt d i' j') (hi:e[i]?=d[i']?) (hj:e[j]?=d[j']?):Le lt e i j:=fun x y hx hy=>h x y (by rw [← hi]; exact hx) (by rw [← hj]; exact hy)
def shl:Nat→List α→Nat→List α
 | 0,d,_=>d
 | n+1,d,k=>shl n (sw d k (k+1)) (k+1)
theorem ZvP {lo hi:Nat}:∀ (n:Nat) (d:List α) (k:Nat),hi≤d.length→lo≤k→k+n<hi→R lo hi d (shl n d k)
 | 0,d,_,_,_,_=>R.refl _ _ _
 | n+1,d,k,h,h1,h2=>by
  rw [shl]
  exact (Zxx h h1 (by omega) (by omega) (by omega)).trans (ZvP n _ _ (by rw [ZeT]; exact h) (by omega) (by omega))
theorem Zpy:∀ (n:Nat) (d:List α) (k:Nat),k+n<d.length→∀ i,(shl n d k)[i]?=if k≤i∧i<k+n then d[i+1]? else if i=k+n then d[k]? else d[i]?
 | 0,d,k,h,i=>by
  rw [shl,if_neg (by omega)]
  split
  ·rename_i e; rw [e]; rfl
  ·rfl
 | n+1,d,k,h,i=>by
  rw [shl,Zpy n _ _ (by rw [ZeT]; omega)]
  simp only [ZfW (show k<d.length by omega) (show k+1<d.length by omega)]
  repeat' split
  all_goals first | rfl | (exfalso; omega) | (congr 1; omega) | (subst_vars; first | rfl | (exfalso; omega) | (congr 1; omega)) | exact absurd trivial (by assumption)
def shr:Nat→List α→Nat→List α
 | 0,d,_=>d
 | n+1,d,k=>shr n (sw d k (k - 1)) (k - 1)
theorem Zv6 {lo hi:Nat}:∀ (n:Nat) (d:List α) (k:Nat),hi≤d.length→lo+n≤k→k<hi→R lo hi d (shr n d k)
 | 0,d,_,_,_,_=>R.refl _ _ _
 | n+1,d,k,h,h1,h2=>by
  rw [shr]
  exact (Zxx h (by omega) (by omega) (by omega) (by omega)).trans (Zv6 n _ _ (by rw [ZeT]; exact h) (by omega) (by omega))
theorem Zpz:∀ (n:Nat) (d:List α) (k:Nat),n≤k→k<d.length→∀ i,(shr n d k)[i]?=if k - n<i∧i≤k then d[i - 1]? else if i=k - n then d[k]? else d[i]?
 | 0,d,k,_,h,i=>by
  rw [shr,if_neg (by omega)]
  split
  ·rename_i e; rw [e]; rfl
  ·rfl
 | n+1,d,k,h0,h,i=>by
  rw [shr,Zpz n _ _ (by omega) (by rw [ZeT]; omega)]
  simp only [ZfW (show k<d.length by omega) (show k - 1<d.length by omega)]
  repeat' split
  all_goals first | rfl | (exfalso; omega) | (congr 1; omega) | (subst_vars; first | rfl | (exfalso; omega) | (congr 1; omega)) | exact absurd trivial (by assumption)
variable (lt)
def smg:Nat→List α→Nat→Nat→Nat→List α
 | 0,d,_,_,_=>d
 | f+1,d,a,m,b =>
  if m - a=1 then shl (bs (fun h=>lsi lt d h a) (b - m+1) m b - 1 - a) d a
  else if b - m=1 then shr (m - bs (fun h=>!lsi lt d m h) (m - a+1) a m) d m
  else
   let mid:=(a+b) / 2
   let n:=mid+m
   let start:=bs (fun c=>!lsi lt d (n - 1 - c) c) (b+1) (if mid<m then n - b else a) (if mid<m then mid else m)
   let e:=n - start
   let d1:=if start<m∧m<e then rot (b+1) d m (m - start) (e - m) else d
   let d2:=if a<start∧start<mid then smg f d1 a start mid else d1
   if mid<e∧e<b then smg f d2 mid e b else d2
variable {lt}
theorem Zu2 (W:Wo lt) {d:List α} {a m b:Nat} (hm:m - a=1) (h1:a≤m) (h2:m<b) (hb:b≤d.length) (s2:Srt lt d m b):R a b d (shl (bs (fun h=>lsi lt d h a) (b - m+1) m b - 1 - a) d a)∧Srt lt (shl (bs (fun h=>lsi lt d h a) (b - m+1) m b - 1 - a) d a) a b:=by
 obtain ⟨q1,q2,q3,q4⟩:=ZgD (fun h=>lsi lt d h a) (b - m+1) m b m b (by omega) (by omega) (Nat.le_refl _) (Nat.le_refl _) (fun h=>by omega) (fun h=>by omega)
 generalize bs (fun h=>lsi lt d h a) (b - m+1) m b=s at q1 q2 q3 q4 ⊢
 have hR:R a b d (shl (s - 1 - a) d a):=ZvP _ _ _ hb (Nat.le_refl _) (by omega)
 refine ⟨hR,Srt.of fun i j g1 g2 g3=>?_⟩
 have lo:∀ c,m≤c→c<s→Le lt d c a:=fun c p1 p2=>Le.tr W (by omega) (s2.le W p1 (show c≤s - 1 by omega) (by omega)) (Zfi (W:=W) (q3 (by omega)))
 have hi:∀ c,s≤c→c<b→Le lt d a c:=fun c p1 p2=>Le.tr W (by omega) (ZcP (q4 (by omega))) (s2.le W (show m≤s by omega) p1 p2)
 have G:=Zpy (s - 1 - a) d a (by omega)
 have Gi:=G i
 have Gj:=G j
 by_cases c1:i<s - 1
 ·rw [if_pos (by omega)] at Gi
  by_cases c2:j<s - 1
  ·rw [if_pos (by omega)] at Gj
   exact (s2.le W (by omega) (show i+1≤j+1 by omega) (by omega)).at Gi Gj
  ·rw [if_neg (by omega)] at Gj
   by_cases c3:j=s - 1
   ·rw [if_pos (by omega)] at Gj
    exact (lo (i+1) (by omega) (by omega)).at Gi Gj
   ·rw [if_neg (by omega)] at Gj
    exact (s2.le W (by omega) (show i+1≤j by omega) (by omega)).at Gi Gj
 ·rw [if_neg (by omega)] at Gi
  rw [if_neg (by omega),if_neg (by omega)] at Gj
  by_cases c3:i=s - 1
  ·rw [if_pos (by omega)] at Gi
   exact (hi j (by omega) g3).at Gi Gj
  ·rw [if_neg (by omega)] at Gi
   exact (s2.le W (by omega) (show i≤j by omega) (by omega)).at Gi Gj
theorem Zse (W:Wo lt) {d:List α} {a m b:Nat} (hm:b - m=1) (h1:a<m) (hb:b≤d.length) (s1:Srt lt d a m):R a b d (shr (m - bs (fun h=>!lsi lt d m h) (m - a+1) a m) d m)∧Srt lt (shr (m - bs (fun h=>!lsi lt d m h) (m - a+1) a m) d m) a b:=by
 obtain ⟨q1,q2,q3,q4⟩:=ZgD (fun h=>!lsi lt d m h) (m - a+1) a m a m (by omega) (by omega) (Nat.le_refl _) (Nat.le_refl _) (fun h=>by omega) (fun h=>by omega)
 generalize bs (fun h=>!lsi lt d m h) (m - a+1) a m=s at q1 q2 q3 q4 ⊢
 have hR:R a b d (shr (m - s) d m):=Zv6 _ _ _ hb (by omega) (by omega)
 refine ⟨hR,Srt.of fun i j g1 g2 g3=>?_⟩
 have lo:∀ c,a≤c→c<s→Le lt d c m:=fun c p1 p2=>Le.tr W (by omega) (s1.le W p1 (show c≤s - 1 by omega) (by omega)) (ZcP (by have:=q3 (by omega); simpa using this))
 have hi:∀ c,s≤c→c<m→Le lt d m c:=fun c p1 p2=>Le.tr W (by omega) (Zfi (W:=W) (by have:=q4 (by omega); simpa using this)) (s1.le W q1 p1 p2)
 have G:=Zpz (m - s) d m (by omega) (by omega)
 have Gi:=G i
 have Gj:=G j
 by_cases c1:i<s
 ·rw [if_neg (by omega),if_neg (by omega)] at Gi
  by_cases c2:s<j
  ·rw [if_pos (by omega)] at Gj
   exact (s1.le W g1 (show i≤j - 1 by omega) (by omega)).at Gi Gj
  ·rw [if_neg (by omega)] at Gj
   by_cases c3:j=s
   ·rw [if_pos (by omega)] at Gj
    exact (lo i g1 c1).at Gi Gj
   ·rw [if_neg (by omega)] at Gj
    exact (s1.le W g1 (show i≤j by omega) (by omega)).at Gi Gj
 ·rw [if_pos (by omega)] at Gj
  by_cases c3:i=s
  ·rw [if_neg (by omega),if_pos (by omega)] at Gi
   exact (hi (j - 1) (by omega) (by omega)).at Gi Gj
  ·rw [if_pos (by omega)] at Gi
   exact (s1.le W (by omega) (show i - 1≤j - 1 by omega) (by omega)).at Gi Gj
set_option maxHeartbeats 1000000 in
theorem Zgm (W:Wo lt):∀ (f:Nat) (d:List α) (a m b:Nat),a<m→m<b→b≤d.length→b - a≤f→Srt lt d a m→Srt lt d m b→R a b d (smg lt f d a m b)∧Srt lt (smg lt f d a m b) a b
 | 0,_,_,_,_,_,_,_,h,_,_=>by omega
 | f+1,d,a,m,b,h1,h2,hb,hf,s1,s2=>by
  rw [smg]
  by_cases c1:m - a=1
  ·rw [if_pos c1]; exact Zu2 W c1 (by omega) h2 hb s2
  rw [if_neg c1]
  by_cases c2:b - m=1
  ·rw [if_pos c2]; exact Zse W c2 h1 hb s1
  rw [if_neg c2]
  simp only
  generalize hmid:(a+b) / 2=mid
  have m1:a<mid:=by omega
  have m2:mid<b:=by omega
  generalize hlo:(if mid<m then mid+m - b else a)=lo
  generalize hhi:(if mid<m then mid else m)=hi
  have l1:a≤lo∧lo≤hi∧hi≤mid∧hi≤m:=by subst hlo hhi; split <;> omega
  obtain ⟨q1,q2,q3,q4⟩:=ZgD (fun c=>!lsi lt d (mid+m - 1 - c) c) (b+1) lo hi lo hi (by omega) (by omega) (Nat.le_refl _) (Nat.le_refl _) (fun h=>by omega) (fun h=>by omega)
  generalize bs (fun c=>!lsi lt d (mid+m - 1 - c) c) (b+1) lo hi=s at q1 q2 q3 q4 ⊢
  generalize he:mid+m - s=e
  have e1:m≤e∧e≤b:=by subst hlo; split at q1 <;> omega
  have e2:mid≤e:=by omega
  -- the halves
  have X:∀ c c',s≤c→c<m→m≤c'→c' < e→Le lt d c' c:=fun c c' p1 p2 p3 p4=>by
   have hs:s<hi:=by
    by_cases hh:s<hi
    ·exact hh
    ·exfalso
     subst hhi
     split at hh <;> omega
   have:=q4 hs
   have hl:lsi lt d (mid+m - 1 - s) s=true:=by simpa using this
   exact Le.tr W (by omega) (Le.tr W (by omega) (s2.le W p3 (show c'≤mid+m - 1 - s by omega) (by omega)) (Zfi (W:=W) hl)) (s1.le W (by omega) p1 p2)
  have Y:∀ c c',a≤c→c<s→e≤c'→c' < b→Le lt d c c':=fun c c' p1 p2 p3 p4=>by
   have hs:lo<s:=by
    by_cases hh:lo<s
    ·exact hh
    ·exfalso
     have:s=lo:=by omega
     subst hlo
     split at this <;> omega
   have:=q3 hs
   have hl:lsi lt d (mid+m - 1 - (s - 1)) (s - 1)=false:=by simpa using this
   rw [show mid+m - 1 - (s - 1)=e by omega] at hl
   exact Le.tr W (by omega) (Le.tr W (by omega) (s1.le W p1 (show c≤s - 1 by omega) (by omega)) (ZcP hl)) (s2.le W (by omega) p3 p4)
  -- turned
  have T:∃ d1,(if s<m∧m<e then rot (b+1) d m (m - s) (e - m) else d)=d1∧R a b d d1∧∀ k,d1[k]?=if s≤k∧k<mid then d[k+(m - s)]? else if mid≤k∧k<e then d[k - (e - m)]? else d[k]?:=by
   refine ⟨_,rfl,?_,fun k=>?_⟩
   ·split
    ·exact Zt3 _ _ _ _ _ hb (by omega) (by omega)
    ·exact R.refl _ _ _
   ·split
    ·rw [ZkX _ _ _ _ _ (by omega) (by omega) (by omega) (by omega) (by omega)]
     repeat' split
     all_goals first | rfl | (exfalso; omega) | (congr 1; omega)
    ·repeat' split
     all_goals first | rfl | (exfalso; omega) | (congr 1; omega)
  obtain ⟨d1,hd1,r1,g1⟩:=T
  rw [hd1]
  clear hd1
  have len1:=r1.len
  have sA:Srt lt d1 a s:=Srt.of fun i j p1 p2 p3=>by
   have gi:=g1 i; have gj:=g1 j
   rw [if_neg (by omega),if_neg (by omega)] at gi gj
   exact (s1.le W p1 (by omega) (show j<m by omega)).at gi gj
  have sB:Srt lt d1 s mid:=Srt.of fun i j p1 p2 p3=>by
   have gi:=g1 i; have gj:=g1 j
   rw [if_pos (by omega)] at gi gj
   exact (s2.le W (by omega) (show i+(m - s)≤j+(m - s) by omega) (by omega)).at gi gj
  have sC:Srt lt d1 mid e:=Srt.of fun i j p1 p2 p3=>by
   have gi:=g1 i; have gj:=g1 j
   rw [if_neg (by omega),if_pos (by omega)] at gi gj
   exact (s1.le W (show a≤i - (e - m) by omega) (show i - (e - m)≤j - (e - m) by omega) (by omega)).at gi gj
  have sD:Srt lt d1 e b:=Srt.of fun i j p1 p2 p3=>by
   have gi:=g1 i; have gj:=g1 j
   rw [if_neg (by omega),if_neg (by omega)] at gi gj
   exact (s2.le W (by omega) (show i≤j by omega) (by omega)).at gi gj
  have cross:∀ i j,a≤i→i<mid→mid≤j→j<b→Le lt d1 i j:=fun i j p1 p2 p3 p4=>by
   have gi:=g1 i; have gj:=g1 j
   by_cases k1:s≤i
   ·rw [if_pos (by omega)] at gi
    by_cases k2:j<e
    ·rw [if_neg (by omega),if_pos (by omega)] at gj
     exact (X (j - (e - m)) (i+(m - s)) (by omega) (by omega) (by omega) (by omega)).at gi gj
    ·rw [if_neg (by omega),if_neg (by omega)] at gj
     exact (s2.le W (by omega) (show i+(m - s)≤j by omega) p4).at gi gj
   ·rw [if_neg (by omega),if_neg (by omega)] at gi
    by_cases k2:j<e
    ·rw [if_neg (by omega),if_pos (by omega)] at gj
     exact (s1.le W p1 (show i≤j - (e - m) by omega) (by omega)).at gi gj
    ·rw [if_neg (by omega),if_neg (by omega)] at gj
     exact (Y i j p1 (by omega) (by omega) p4).at gi gj
  -- the left half
  have L:∃ d2,(if a<s∧s<mid then smg lt f d1 a s mid else d1)=d2∧R a mid d1 d2∧Srt lt d2 a mid:=by
   refine ⟨_,rfl,?_⟩
   split
   ·rename_i hc
    exact Zgm W f d1 a s mid hc.1 hc.2 (by omega) (by omega) sA sB
   ·refine ⟨R.refl _ _ _,?_⟩
    by_cases k:s≤a
    ·exact sB.sub (by omega) (Nat.le_refl _)
    ·exact sA.sub (Nat.le_refl _) (by omega)
  obtain ⟨d2,hd2,r2,sL⟩:=L
  rw [hd2]
  clear hd2
  have len2:=r2.len
  have same2:∀ k,mid≤k→d2[k]?=d1[k]?:=fun k hk=>r2.out k (.inr hk)
  have keep2:∀ x y,mid≤x→Srt lt d1 x y→Srt lt d2 x y:=fun x y hx h=>Srt.of fun i j p1 p2 p3=>(h.le W p1 (by omega) p3).at (same2 i (by omega)) (same2 j (by omega))
  have M:∃ d3,(if mid<e∧e<b then smg lt f d2 mid e b else d2)=d3∧R mid b d2 d3∧Srt lt d3 mid b:=by
   refine ⟨_,rfl,?_⟩
   split
   ·rename_i hc
    exact Zgm W f d2 mid e b hc.1 hc.2 (by omega) (by omega) (keep2 _ _ (Nat.le_refl _) sC) (keep2 _ _ e2 sD)
   ·refine ⟨R.refl _ _ _,?_⟩
    by_cases k:e≤mid
    ·exact (keep2 _ _ e2 sD).sub (by omega) (Nat.le_refl _)
    ·exact (keep2 _ _ (Nat.le_refl _) sC).sub (Nat.le_refl _) (by omega)
  obtain ⟨d3,hd3,r3,sR⟩:=M
  rw [hd3]
  clear hd3
  refine ⟨(r1.trans (r2.wide (Nat.le_refl _) (by omega))).trans (r3.wide (by omega) (Nat.le_refl _)),Srt.of fun i j p1 p2 p3=>?_⟩
  by_cases k1:j<mid
  ·exact (sL.le W p1 (by omega) k1).at (r3.out i (.inl (by omega))) (r3.out j (.inl k1))
  ·by_cases k2:mid≤i
   ·exact sR.le W k2 (by omega) p3
   ·obtain ⟨j',w1,w2,w3⟩:=r3.src j (by omega) p3
    obtain ⟨i',v1,v2,v3⟩:=r2.src i p1 (by omega)
    exact (cross i' j' v1 v2 w1 w2).at ((r3.out i (.inl (by omega))).trans v3) (w3.trans (same2 j' w1))
variable (lt)
def Zop:Nat→List α→Nat→Nat→List α
 | 0,d,_,_=>d
 | f+1,d,a,j=>if a<j then (if lsi lt d j (j - 1)=true then Zop f (sw d j (j - 1)) a (j - 1) else d) else d
def Zh6:Nat→List α→Nat→Nat→Nat→List α
 | 0,d,_,_,_=>d
 | f+1,d,a,i,b=>if i<b then Zh6 f (Zop lt (i+1) d a i) a (i+1) b else d
def blk:Nat→List α→Nat→Nat→List α
 | 0,d,_,_=>d
 | f+1,d,a,n=>if a+20≤n then blk f (Zh6 lt 21 d a (a+1) (a+20)) (a+20) n else Zh6 lt 21 d a (a+1) n
def mrg:Nat→List α→Nat→Nat→Nat→List α
 | 0,d,_,_,_=>d
 | f+1,d,w,a,n=>if a+2 * w≤n then mrg f (smg lt (2 * w) d a (a+w) (a+2 * w)) w (a+2 * w) n else if a+w<n then smg lt (n - a) d a (a+w) n else d
def stb:Nat→List α→Nat→Nat→List α
 | 0,d,_,_=>d
 | f+1,d,w,n=>if w<n then stb f (mrg lt (n+1) d w 0 n) (2 * w) n else d
def stab (d:List α):List α:=stb lt (d.length+1) (blk lt (d.length+1) d 0 d.length) 20 d.length
variable {lt}
theorem ZjG (W:Wo lt) {a top:Nat}:∀ (f:Nat) (d:List α) (j:Nat),top<d.length→a≤j→j≤top→j<f→(∀ p q,a≤p→p<q→q≤top→p≠j→q≠j→Le lt d p q)→(∀ q,j<q→q≤top→Le lt d j q)→R a (top+1) d (Zop lt f d a j)∧Srt lt (Zop lt f d a j) a (top+1)
 | 0,_,_,_,_,_,h,_,_=>by omega
 | f+1,d,j,hl,h1,h2,hf,hp,hq=>by
  rw [Zop]
  by_cases c1:a<j
  ·rw [if_pos c1]
   cases c2:lsi lt d j (j - 1) with
   | true =>
    rw [if_pos rfl]
    have G:=ZfW (l:=d) (i:=j) (j:=j - 1) (by omega) (by omega)
    obtain ⟨r1,r2⟩:=ZjG W (a:=a) (top:=top) f (sw d j (j - 1)) (j - 1) (by rw [ZeT]; exact hl) (by omega) (by omega) (by omega) (fun p q p1 p2 p3 p4 p5=>by
     have gp:=G p; have gq:=G q
     rw [if_neg p4] at gp
     rw [if_neg p5] at gq
     by_cases e1:p=j
     ·rw [if_pos e1] at gp
      rw [if_neg (by omega)] at gq
      exact (hp (j - 1) q (by omega) (by omega) p3 (by omega) (by omega)).at gp gq
     ·rw [if_neg e1] at gp
      by_cases e2:q=j
      ·rw [if_pos e2] at gq
       exact (hp p (j - 1) p1 (by omega) (by omega) e1 (by omega)).at gp gq
      ·rw [if_neg e2] at gq
       exact (hp p q p1 p2 p3 e1 e2).at gp gq) (fun q p1 p2=>by
     have gp:=G (j - 1); have gq:=G q
     rw [if_pos rfl] at gp
     rw [if_neg (by omega)] at gq
     by_cases e2:q=j
     ·rw [if_pos e2] at gq
      exact (Zfi (W:=W) c2).at gp gq
     ·rw [if_neg e2] at gq
      exact (hq q (by omega) p2).at gp gq)
    exact ⟨(Zxx (by omega) (by omega) (by omega) (by omega) (by omega)).trans r1,r2⟩
   | false =>
    rw [if_neg (by simp)]
    refine ⟨R.refl _ _ _,Srt.of fun p q p1 p2 p3=>?_⟩
    by_cases e1:p=j
    ·subst e1; exact hq q p2 (by omega)
    by_cases e2:q=j
    ·subst e2
     by_cases e3:p=q - 1
     ·rw [e3]; exact ZcP c2
     ·exact Le.tr W (j:=q - 1) (by omega) (hp p (q - 1) p1 (by omega) (by omega) e1 (by omega)) (ZcP c2)
    exact hp p q p1 p2 (by omega) e1 e2
  ·rw [if_neg c1]
   have:a=j:=by omega
   subst this
   refine ⟨R.refl _ _ _,Srt.of fun p q p1 p2 p3=>?_⟩
   by_cases e1:p=a
   ·rw [e1]; exact hq q (by omega) (by omega)
   ·exact hp p q p1 p2 (by omega) e1 (by omega)
theorem ZgP (W:Wo lt) {a b:Nat}:∀ (f:Nat) (d:List α) (i:Nat),b≤d.length→a<i→b - i<f→Srt lt d a i→R a b d (Zh6 lt f d a i b)∧Srt lt (Zh6 lt f d a i b) a b
 | 0,_,_,_,_,h,_=>by omega
 | f+1,d,i,hb,h1,hf,s=>by
  rw [Zh6]
  split
  ·rename_i c
   obtain ⟨r1,r2⟩:=ZjG W (top:=i) (i+1) d i (by omega) (by omega) (Nat.le_refl _) (by omega) (fun p q p1 p2 p3 p4 p5=>s.le W p1 (by omega) (by omega)) (fun q p1 p2=>by omega)
   obtain ⟨q1,q2⟩:=ZgP W f _ (i+1) (by rw [r1.len]; exact hb) (by omega) (by omega) r2
   exact ⟨(r1.wide (Nat.le_refl _) (by omega)).trans q1,q2⟩
  ·exact ⟨R.refl _ _ _,s.sub (Nat.le_refl _) (by omega)⟩
theorem ZpD (d:List α) (a:Nat):Srt lt d a (a+1):=fun i j x y h1 h2 h3=>by omega
def Bk (lt:α→α→Bool) (d:List α) (w n:Nat):Prop:=∀ k,Srt lt d (k * w) (min ((k+1) * w) n)
theorem R.srt {a b:Nat} {d e:List α} (W:Wo lt) (h:R a b d e) {x y:Nat} (hs:Srt lt d x y) (ho:y≤a∨b≤x):Srt lt e x y:=Srt.of fun i j p1 p2 p3=>(hs.le W p1 (by omega) p3).at (h.out i (by omega)) (h.out j (by omega))
theorem Zmw (W:Wo lt) {n:Nat}:∀ (f:Nat) (d:List α) (k:Nat),n=d.length→n<k * 20+f→(∀ c,c<k→Srt lt d (c * 20) (min ((c+1) * 20) n))→R 0 n d (blk lt f d (k * 20) n)∧Bk lt (blk lt f d (k * 20) n) 20 n
 | 0,d,k,hn,h,hs=>⟨R.refl _ _ _,fun c=>by
  by_cases hc:c<k
  ·exact hs c hc
  ·intro i j x y p1 p2 p3
   exfalso
   have:k * 20≤c * 20:=Nat.mul_le_mul_right _ (by omega)
   omega⟩
 | f+1,d,k,hn,h,hs=>by
  rw [blk]
  split
  ·rename_i c
   obtain ⟨r1,r2⟩:=ZgP W (a:=k * 20) (b:=k * 20+20) 21 d (k * 20+1) (by omega) (by omega) (by omega) (ZpD _ _)
   have:=Zmw W (n:=n) f (Zh6 lt 21 d (k * 20) (k * 20+1) (k * 20+20)) (k+1) (by rw [r1.len]; exact hn) (by omega) (fun c hc=>by
    by_cases e:c=k
    ·subst e; exact r2.sub (Nat.le_refl _) (by omega)
    ·exact r1.srt W (hs c (by omega)) (.inl (by omega)))
   rw [show (k+1) * 20=k * 20+20 by omega] at this
   exact ⟨(r1.wide (by omega) c).trans this.1,this.2⟩
  ·by_cases c0:k * 20<n
   ·obtain ⟨r1,r2⟩:=ZgP W (a:=k * 20) (b:=n) 21 d (k * 20+1) (by omega) (by omega) (by omega) (ZpD _ _)
    refine ⟨r1.wide (by omega) (Nat.le_refl _),fun c=>?_⟩
    by_cases e:c=k
    ·subst e; exact r2.sub (Nat.le_refl _) (by omega)
    ·by_cases e2:c<k
     ·exact r1.srt W (hs c e2) (.inl (by omega))
     ·intro i j x y p1 p2 p3
      exfalso
      omega
   ·have e:Zh6 lt 21 d (k * 20) (k * 20+1) n=d:=by rw [Zh6,if_neg (by omega)]
    rw [e]
    refine ⟨R.refl _ _ _,fun c=>?_⟩
    by_cases e2:c<k
    ·exact hs c e2
    ·intro i j x y p1 p2 p3
     exfalso
     omega
theorem Zmx (W:Wo lt) {n w:Nat} (hw:0<w):∀ (f:Nat) (d:List α) (k:Nat),n=d.length→n<k * (2 * w)+f→(∀ c,c<k→Srt lt d (c * (2 * w)) (min ((c+1) * (2 * w)) n))→(∀ c,k * 2≤c→Srt lt d (c * w) (min ((c+1) * w) n))→R 0 n d (mrg lt f d w (k * (2 * w)) n)∧Bk lt (mrg lt f d w (k * (2 * w)) n) (2 * w) n
 | 0,d,k,hn,h,hs,_=>⟨R.refl _ _ _,fun c=>by
  by_cases hc:c<k
  ·exact hs c hc
  ·intro i j x y p1 p2 p3
   exfalso
   have:k * (2 * w)≤c * (2 * w):=Nat.mul_le_mul_right _ (by omega)
   omega⟩
 | f+1,d,k,hn,h,hs,hr=>by
  have ek:k * (2 * w)=(k * 2) * w:=by rw [Nat.mul_assoc]
  have e1:(k * 2+1) * w=k * (2 * w)+w:=by rw [Nat.add_mul,ek]; omega
  have e2:(k * 2+1+1) * w=k * (2 * w)+2 * w:=by rw [Nat.add_mul,e1]; omega
  have e3:(k+1) * (2 * w)=k * (2 * w)+2 * w:=by rw [Nat.add_mul,Nat.one_mul]
  have far:∀ c,k+1≤c→k * (2 * w)+2 * w≤c * (2 * w):=fun c hc=>by
   have:(k+1) * (2 * w)≤c * (2 * w):=Nat.mul_le_mul_right _ hc
   omega
  have near:∀ c,c<k→(c+1) * (2 * w)≤k * (2 * w):=fun c hc=>Nat.mul_le_mul_right _ hc
  have s1:Srt lt d (k * (2 * w)) (min (k * (2 * w)+w) n):=by
   have:=hr (k * 2) (Nat.le_refl _)
   rw [e1,← ek] at this; exact this
  have s2:Srt lt d (k * (2 * w)+w) (min (k * (2 * w)+2 * w) n):=by
   have:=hr (k * 2+1) (by omega)
   rw [e2,e1] at this; exact this
  rw [mrg]
  split
  ·rename_i c
   obtain ⟨r1,r2⟩:=Zgm W (2 * w) d (k * (2 * w)) (k * (2 * w)+w) (k * (2 * w)+2 * w) (by omega) (by omega) (by omega) (by omega) (s1.sub (Nat.le_refl _) (by omega)) (s2.sub (Nat.le_refl _) (by omega))
   have:=Zmx W (n:=n) hw f (smg lt (2 * w) d (k * (2 * w)) (k * (2 * w)+w) (k * (2 * w)+2 * w)) (k+1) (by rw [r1.len]; exact hn) (by omega) (fun c hc=>by
    by_cases e:c=k
    ·subst e; exact r2.sub (Nat.le_refl _) (by omega)
    ·exact r1.srt W (hs c (by omega)) (.inl (by have:=near c (by omega); omega))) (fun c hc=>r1.srt W (hr c (by omega)) (.inr (by
     have:(k * 2+1+1) * w≤c * w:=Nat.mul_le_mul_right _ (by omega)
     omega)))
   rw [e3] at this
   exact ⟨(r1.wide (by omega) c).trans this.1,this.2⟩
  ·split
   ·rename_i c0 c
    obtain ⟨r1,r2⟩:=Zgm W (n - k * (2 * w)) d (k * (2 * w)) (k * (2 * w)+w) n (by omega) (by omega) (by omega) (by omega) (s1.sub (Nat.le_refl _) (by omega)) (s2.sub (Nat.le_refl _) (by omega))
    refine ⟨r1.wide (by omega) (Nat.le_refl _),fun c=>?_⟩
    by_cases e:c=k
    ·subst e; exact r2.sub (Nat.le_refl _) (by omega)
    ·by_cases e2:c<k
     ·exact r1.srt W (hs c e2) (.inl (by have:=near c e2; omega))
     ·intro i j x y p1 p2 p3
      exfalso
      have:=far c (by omega)
      omega
   ·rename_i c0 c
    refine ⟨R.refl _ _ _,fun c=>?_⟩
    by_cases e:c=k
    ·subst e; exact s1.sub (Nat.le_refl _) (by omega)
    ·by_cases e2:c<k
     ·exact hs c e2
     ·intro i j x y p1 p2 p3
      exfalso
      have:=far c (by omega)
      omega
theorem Zl8 (W:Wo lt) {n:Nat}:∀ (f:Nat) (d:List α) (w:Nat),n=d.length→0<w→n<w+f→Bk lt d w n→R 0 n d (stb lt f d w n)∧Srt lt (stb lt f d w n) 0 n
 | 0,d,w,_,_,h,hs=>⟨R.refl _ _ _,by
  have:=hs 0
  rw [Nat.zero_mul,Nat.zero_add,Nat.one_mul] at this
  exact this.sub (Nat.le_refl _) (by omega)⟩
 | f+1,d,w,hn,hw,h,hs=>by
  rw [stb]
  split
  ·have:=Zmx W (n:=n) hw (n+1) d 0 hn (by omega) (fun c hc=>by omega) (fun c _=>hs c)
   rw [Nat.zero_mul] at this
   obtain ⟨r1,r2⟩:=this
   obtain ⟨q1,q2⟩:=Zl8 W (n:=n) f _ (2 * w) (by rw [r1.len]; exact hn) (by omega) (by omega) r2
   exact ⟨r1.trans q1,q2⟩
  ·refine ⟨R.refl _ _ _,?_⟩
   have:=hs 0
   rw [Nat.zero_mul,Nat.zero_add,Nat.one_mul] at this
   exact this.sub (Nat.le_refl _) (by omega)
theorem stab_spec (W:Wo lt) (d:List α):(stab lt d).Perm d∧Srt lt (stab lt d) 0 d.length:=by
 unfold stab
 have:=Zmw W (n:=d.length) (d.length+1) d 0 rfl (by omega) (fun c hc=>by omega)
 rw [Nat.zero_mul] at this
 obtain ⟨r1,r2⟩:=this
 obtain ⟨q1,q2⟩:=Zl8 W (d.length+1) _ 20 r1.len.symm (by omega) (by omega) r2
 exact ⟨q1.perm.trans r1.perm,q2⟩
end
end Go.Proofs.YtkcmgbbopedacaaGreatDoor.SM
namespace Go.Proofs.YtkcmgbbopedacaaGreatDoor.SM
open Go Go.Proofs Go.Shelf Go.RowKit Go.Lib Go.Sort
variable {P:Program} {ρ:Ren} {α:Type}
def Kpb (bk:Nat) (W W':World):Prop:=W.heap.size≤W'.heap.size∧∀ b k,b<W.heap.size→b≠bk→W'.cell? ⟨b,k,none⟩=W.cell? ⟨b,k,none⟩
theorem Kpb.refl (bk:Nat) (W:World):Kpb bk W W:=⟨Nat.le_refl _,fun _ _ _ _=>rfl⟩
theorem Kpb.trans {bk:Nat} {U V W:World} (h:Kpb bk U V) (g:Kpb bk V W):Kpb bk U W:=⟨Nat.le_trans h.1 g.1,fun b k h1 h2=>(g.2 b k (Nat.lt_of_lt_of_le h1 h.1) h2).trans (h.2 b k h1 h2)⟩
theorem Kpb.drewN (bk:Nat) (W:World) (q:Nat):Kpb bk W (W.drewN q):=⟨Nat.le_refl _,fun _ _ _ _=>rfl⟩
theorem Kpb.alloc (bk:Nat) (W:World) (o:Obj):Kpb bk W (W.alloc o):=⟨by simp,fun b k h _=>by
 rw [alloc_eq_grow,cell?_grow _ _ _ h]⟩
structure Fam (P:Program) (S:List α→World→Prop) (bk:Nat) (lt:α→α→Bool) (g:Nat) (lb:Array Value) (sf:Nat) (sb:Array Value) (size:Nat):Prop where
 sz:∀ {d W},S d W→d.length=size
 hb:∀ {d W},S d W→bk<W.heap.size
 drew:∀ {d W} (q:Nat),S d W→S d (W.drewN q)
 alloc:∀ {d W} (o:Obj),S d W→S d (W.alloc o)
 eg:∀ args w,(callFunc g args).run P w=.ok (.enter g args) w
 less:∀ {d W},S d W→∀ i j:Nat,i<size→j<size→Calls P g (#[.int .i64 i,.int .i64 j]++lb) W fun e w'=>e=.returned (.bool (lsi lt d i j))∧S d w'∧Kpb bk W w'
 swap:∀ {d W},S d W→∀ i j:Nat,i<size→j<size→∃ W',(callFunc sf (#[.int .i64 i,.int .i64 j]++sb)).run P W=.ok (.value (.tuple #[])) W'∧S (sw d i j) W'∧Kpb bk W W'
 top:size<4611686018427387904
theorem Zl4:∀ (n:Nat) (d:List α) (a b:Nat),swr (n+1) d a b=sw (swr n d a b) (a+n) (b+n)
 | 0,d,a,b=>rfl
 | n+1,d,a,b=>by
  rw [swr,Zl4 n,swr,show a+1+n=a+(n+1) by omega,show b+1+n=b+(n+1) by omega]
section
variable {S:List α→World→Prop} {bk:Nat} {lt:α→α→Bool} {g:Nat} {lb:Array Value} {sf:Nat} {sb:Array Value} {size:Nat}
abbrev dat (g:Nat) (lb:Array Value) (sf:Nat) (sb:Array Value):Value:=.agg #[.func (.func g) #[] lb,.func (.func sf) #[] sb]
set_option maxHeartbeats 2000000 in
set_option maxRecDepth 100000 in
theorem Zds (L:LaysGt.n49 P ρ) (F:Fam P S bk lt g lb sf sb size) (a b n:Nat) (d:List α) (w:World) (hS:S d w) (ha:a+n≤size) (hb:b+n≤size) :
   Calls P (ρ.f 49) #[dat g lb sf sb,.int .i64 a,.int .i64 b,.int .i64 n] w fun e w'=>e=.returned (.tuple #[])∧S (swr n d a b) w'∧Kpb bk w w':=by
 have mixed:=L.mixed; have t0:=L.t0; have a0:=L.a0; have z0:=L.z0; have v0:=L.v0; have t3:=L.t3; have a3:=L.a3; have z3:=L.z3; have v3:=L.v3; have t4:=L.t4; have a4:=L.a4; have z4:=L.z4; have v4:=L.v4; have t38:=L.t38; have a38:=L.a38; have z38:=L.z38; have v38:=L.v38; have t42:=L.t42; have a42:=L.a42; have z42:=L.z42; have v42:=L.v42
 have u42:=run_underlying L.t42
 have hblk:=F.hb hS
 have htop:=F.top
 have hS1:=F.alloc (.cells #[.func (.func g) #[] lb,.func (.func sf) #[] sb] (ρ.t 42)) hS
 go_enter L.f49,BodyGt.n49_ntmps ρ
 go_wp2
 go_loopw [8] (fun vi wr=>∃ (i:Nat),vi=.int .i64 i∧i≤n∧S (swr i d a b) wr∧Kpb bk (w.alloc (.cells #[.func (.func g) #[] lb,.func (.func sf) #[] sb] (ρ.t 42))) wr) (fun vi _=>n - (intOf vi).toNat)
 case atStart=>exact ⟨0,rfl,by omega,hS1,Kpb.refl _ _⟩
 case round =>
  obtain ⟨i,rfl,hi,hSi,hK⟩:=hrel
  have c0:wr.cell? ⟨w.heap.size,0,none⟩=some (.func (.func g) #[] lb):=by rw [hK.2 _ _ (by simp) (by omega)]; simp
  have c1:wr.cell? ⟨w.heap.size,1,none⟩=some (.func (.func sf) #[] sb):=by rw [hK.2 _ _ (by simp) (by omega)]; simp
  have HK:Hid (Kpb bk (w.alloc (.cells #[.func (.func g) #[] lb,.func (.func sf) #[] sb] (ρ.t 42))) wr):=hK
  clear hK hS hS1
  by_cases hin:i<n
  ·obtain ⟨W',hs,hS',hK'⟩:=F.swap hSi (a+i) (b+i) (by omega) (by omega)
   rw [show (((a+i:Nat)):Int)=(a:Int)+i by omega,show (((b+i:Nat)):Int)=(b:Int)+i by omega] at hs
   go_wp2
   exact ⟨⟨i+1,by go_num,by omega,by rw [Zl4]; exact hS',HK.out.trans hK'⟩,by simp [intOf]; omega⟩
  ·go_wp2
   have hn:i=n:=by omega
   subst hn
   go_end0
   exact ⟨rfl,hSi,(Kpb.alloc _ _ _).trans HK.out⟩
set_option maxHeartbeats 2000000 in
set_option maxRecDepth 100000 in
theorem Znq (L:LaysGt.n42 P ρ) (F:Fam P S bk lt g lb sf sb size) (a m b f0:Nat) (d:List α) (w:World) (hS:S d w) (ham:a<m) (hmb:m<b) (hb:b≤size) (hf0:b - a≤f0) :
   Calls P (ρ.f 42) #[dat g lb sf sb,.int .i64 a,.int .i64 m,.int .i64 b] w fun e w'=>e=.returned (.tuple #[])∧S (rot f0 d m (m - a) (b - m)) w'∧Kpb bk w w':=by
 have mixed:=L.mixed; have t0:=L.t0; have a0:=L.a0; have z0:=L.z0; have v0:=L.v0; have t3:=L.t3; have a3:=L.a3; have z3:=L.z3; have v3:=L.v3; have t4:=L.t4; have a4:=L.a4; have z4:=L.z4; have v4:=L.v4; have t38:=L.t38; have a38:=L.a38; have z38:=L.z38; have v38:=L.v38; have t42:=L.t42; have a42:=L.a42; have z42:=L.z42; have v42:=L.v42
 have u42:=run_underlying L.t42
 have e49:∀ args w,(callFunc (ρ.f 49) args).run P w=.ok (.enter (ρ.f 49) args) w:=enters_of L.f49 (by kernel_rfl) rfl
 have L49:LaysGt.n49 P ρ:={ L with }
 have hblk:=F.hb hS
 have htop:=F.top
 have hS1:=F.alloc (.cells #[.func (.func g) #[] lb,.func (.func sf) #[] sb] (ρ.t 42)) hS
 go_enter L.f42,BodyGt.n42_ntmps ρ
 go_wp2
 go_loopw [8,9] (fun vi vj wr=>∃ (i j f:Nat) (dk:List α),vi=.int .i64 i∧vj=.int .i64 j∧0<i∧0<j∧i≤m - a∧j≤b - m∧i+j≤f∧rot f dk m i j=rot f0 d m (m - a) (b - m)∧S dk wr∧Kpb bk (w.alloc (.cells #[.func (.func g) #[] lb,.func (.func sf) #[] sb] (ρ.t 42))) wr) (fun vi vj _=>(intOf vi).toNat+(intOf vj).toNat)
 case atStart=>exact ⟨m - a,b - m,f0,d,by go_num,by go_num,by omega,by omega,Nat.le_refl _,Nat.le_refl _,by omega,rfl,hS1,Kpb.refl _ _⟩
 case round =>
  obtain ⟨i,j,f,dk,rfl,rfl,i0,j0,i1,j1,hf,hA,hSi,hK⟩:=hrel
  have c0:wr.cell? ⟨w.heap.size,0,none⟩=some (.func (.func g) #[] lb):=by rw [hK.2 _ _ (by simp) (by omega)]; simp
  have c1:wr.cell? ⟨w.heap.size,1,none⟩=some (.func (.func sf) #[] sb):=by rw [hK.2 _ _ (by simp) (by omega)]; simp
  have HK:Hid (Kpb bk (w.alloc (.cells #[.func (.func g) #[] lb,.func (.func sf) #[] sb] (ρ.t 42))) wr):=hK
  have HA:Hid (rot f dk m i j=rot f0 d m (m - a) (b - m)):=hA
  clear hK hS hS1 hA
  obtain ⟨f,rfl⟩:∃ f',f=f' + 1:=⟨f - 1,by omega⟩
  by_cases hij:i=j
  ·subst hij
   have hc:=Zds L49 F (m - i) m i dk wr hSi (by omega) (by omega)
   rw [show (((m - i:Nat)):Int)=(m:Int) - i by omega] at hc
   go_wp2_with (go_at_fn (ρ.f 49); refine hc.mono ?_; rintro e w1 ⟨rfl,hS2,hK2⟩)
   go_end0
   exact ⟨rfl,by rw [← HA.out,rot,if_pos rfl]; exact hS2,(Kpb.alloc _ _ _).trans (HK.out.trans hK2)⟩
  ·by_cases hgt:j<i
   ·have hc:=Zds L49 F (m - i) m j dk wr hSi (by omega) (by omega)
    rw [show (((m - i:Nat)):Int)=(m:Int) - i by omega] at hc
    go_wp2_with (go_at_fn (ρ.f 49); refine hc.mono ?_; rintro e w1 ⟨rfl,hS2,hK2⟩)
    exact ⟨⟨i - j,j,f,_,by go_num,rfl,by omega,by omega,by omega,by omega,by omega,by rw [← HA.out,rot,if_neg hij,if_pos hgt],hS2,HK.out.trans hK2⟩,by simp [intOf]; omega⟩
   ·have hc:=Zds L49 F (m - i) (m+j - i) i dk wr hSi (by omega) (by omega)
    rw [show (((m - i:Nat)):Int)=(m:Int) - i by omega,show (((m+j - i:Nat)):Int)=(m:Int)+j - i by omega] at hc
    go_wp2_with (go_at_fn (ρ.f 49); refine hc.mono ?_; rintro e w1 ⟨rfl,hS2,hK2⟩)
    exact ⟨⟨i,j - i,f,_,rfl,by go_num,by omega,by omega,by omega,by omega,by omega,by rw [← HA.out,rot,if_neg hij,if_neg hgt],hS2,HK.out.trans hK2⟩,by simp [intOf]; omega⟩
end
end Go.Proofs.YtkcmgbbopedacaaGreatDoor.SM
namespace Go.Proofs.YtkcmgbbopedacaaGreatDoor.SM
open Go Go.Proofs Go.Shelf Go.RowKit Go.Lib Go.Sort
variable {P:Program} {ρ:Ren} {α:Type}
section
variable {S:List α→World→Prop} {bk:Nat} {lt:α→α→Bool} {g:Nat} {lb:Array Value} {sf:Nat} {sb:Array Value} {size:Nat}
set_option maxHeartbeats 2000000 in
set_option maxRecDepth 100000 in
theorem ZcX (L:LaysGt.n29 P ρ) (F:Fam P S bk lt g lb sf sb size) (a b f:Nat) (d:List α) (w:World) (hS:S d w) (hab:a≤b) (hb:b≤size) (hf:b - (a+1)<f) :
   Calls P (ρ.f 29) #[dat g lb sf sb,.int .i64 a,.int .i64 b] w fun e w'=>e=.returned (.tuple #[])∧S (Zh6 lt f d a (a+1) b) w'∧Kpb bk w w':=by
 have mixed:=L.mixed; have t0:=L.t0; have a0:=L.a0; have z0:=L.z0; have v0:=L.v0; have t3:=L.t3; have a3:=L.a3; have z3:=L.z3; have v3:=L.v3; have t4:=L.t4; have a4:=L.a4; have z4:=L.z4; have v4:=L.v4; have t26:=L.t26; have a26:=L.a26; have z26:=L.z26; have v26:=L.v26; have t38:=L.t38; have a38:=L.a38; have z38:=L.z38; have v38:=L.v38; have t42:=L.t42; have a42:=L.a42; have z42:=L.z42; have v42:=L.v42
 have u42:=run_underlying L.t42
 have hbk:=F.hb hS
 have htop:=F.top
 have hS1:=F.alloc (.cells #[.func (.func g) #[] lb,.func (.func sf) #[] sb] (ρ.t 42)) hS
 have eg:=F.eg
 go_enter L.f29,BodyGt.n29_ntmps ρ
 go_wp2
 go_loopw [6] (fun vi wr=>∃ (i f':Nat) (dk:List α),vi=.int .i64 i∧a<i∧i≤b+1∧b - i<f'∧S dk wr∧Kpb bk (w.alloc (.cells #[.func (.func g) #[] lb,.func (.func sf) #[] sb] (ρ.t 42))) wr ∧
  Zh6 lt f' dk a i b=Zh6 lt f d a (a+1) b) (fun vi _=>b+1 - (intOf vi).toNat)
 case atStart=>exact ⟨a+1,f,d,by go_num,by omega,by omega,hf,hS1,Kpb.refl _ _,rfl⟩
 case round =>
  obtain ⟨i,f',dk,rfl,hai,hib,hf',hSk,hK,hO⟩:=hrel
  obtain ⟨f',rfl⟩:∃ f2,f'=f2+1:=⟨f' - 1,by omega⟩
  have HO:Hid (Zh6 lt (f' + 1) dk a i b=Zh6 lt f d a (a+1) b):=hO
  have HK0:Hid (Kpb bk (w.alloc (.cells #[.func (.func g) #[] lb,.func (.func sf) #[] sb] (ρ.t 42))) wr):=hK
  clear hO hK hS hS1
  go_wp2
  ·go_loopw [7] (fun vj wr2=>∃ (j q:Nat) (dj:List α),vj=.int .i64 j∧a≤j∧j≤i∧j<q∧S dj wr2∧Kpb bk (w.alloc (.cells #[.func (.func g) #[] lb,.func (.func sf) #[] sb] (ρ.t 42))) wr2 ∧
       Zop lt q dj a j=Zop lt (i+1) dk a i) (fun vj _=>(intOf vj).toNat)
   case atStart=>exact ⟨i,i+1,dk,rfl,by omega,Nat.le_refl _,by omega,hSk,HK0.out,rfl⟩
   case round =>
    obtain ⟨j,q,dj,rfl,haj,hji,hq,hSj,hK2,hI⟩:=hrel
    obtain ⟨q,rfl⟩:∃ q2,q=q2+1:=⟨q - 1,by omega⟩
    have hlt:i<b:=by assumption
    have c0:wr.cell? ⟨w.heap.size,0,none⟩=some (.func (.func g) #[] lb):=by rw [hK2.2 _ _ (by simp) (by omega)]; simp
    have c1:wr.cell? ⟨w.heap.size,1,none⟩=some (.func (.func sf) #[] sb):=by rw [hK2.2 _ _ (by simp) (by omega)]; simp
    have hz:w.heap.size<wr.heap.size:=by
     have:=hK2.1
     simp only [World.size_alloc] at this; omega
    have hne:w.heap.size≠bk:=by omega
    have HK:Hid (Kpb bk (w.alloc (.cells #[.func (.func g) #[] lb,.func (.func sf) #[] sb] (ρ.t 42))) wr):=hK2
    have HI:Hid (Zop lt (q+1) dj a j=Zop lt (i+1) dk a i):=hI
    clear hK2 hI hSk
    have OUT:Hid ((j≤a∨lsi lt dj j (j - 1)=false)→∀ w3,S dj w3→Kpb bk wr w3→∃ i' f2 dk',Value.int .i64 ((i:Int)+1)=.int .i64 (i':Nat)∧a<i'∧i'≤b+1∧b - i' < f2∧S dk' w3∧Kpb bk (w.alloc (.cells #[.func (.func g) #[] lb,.func (.func sf) #[] sb] (ρ.t 42))) w3 ∧
       Zh6 lt f2 dk' a i' b=Zh6 lt f d a (a+1) b):=fun hs w3 hS3 hK3 =>
     ⟨i+1,f',dj,by go_num,by omega,by omega,by omega,hS3,HK.out.trans hK3,
      by
       rw [← HO.out,Zh6,if_pos hlt,← HI.out,Zop]
       rcases hs with hs | hs
       ·rw [if_neg (by omega)]
       ·rw [hs]; simp⟩
    by_cases hja:a<j
    ·have hl:=F.less hSj j (j - 1) (by omega) (by omega)
     rw [show (((j - 1:Nat):Int))=(j:Int) - 1 by omega] at hl
     cases hlv:lsi lt dj j (j - 1) with
     | true =>
      rw [hlv] at hl
      go_wp2_with (go_at_fn g; refine hl.mono ?_; rintro e w' ⟨rfl,hSw,hKw⟩; have c1w:=(hKw.2 w.heap.size 1 hz hne).trans c1)
      obtain ⟨W',hs,hS',hK'⟩:=F.swap hSw j (j - 1) (by omega) (by omega)
      rw [show (((j - 1:Nat):Int))=(j:Int) - 1 by omega] at hs
      rw [hs,Oper.upon_value]
      go_wp2
      go_roundw
      case rel =>
       (repeat apply Exists.intro)
       refine ⟨⟨j - 1,q,sw dj j (j - 1),by congr 1 <;> omega,by omega,by omega,by omega,hS',HK.out.trans (hKw.trans hK'),?_⟩,by rw [decide_eq_true hlt,show ((j - 1:Nat):Int)=(j:Int) - 1 by omega]⟩
       rw [← HI.out,Zop,if_pos hja,hlv,if_pos rfl]
      case measure=>simp [intOf]; omega
     | false =>
      rw [hlv] at hl
      go_wp2_with (go_at_fn g; refine hl.mono ?_; rintro e w' ⟨rfl,hSw,hKw⟩)
      go_roundw
      case rel=>exact OUT.out (Or.inr hlv) w' hSw hKw
      case measure=>simp [intOf]; omega
    ·go_wp2
     go_roundw
     case rel=>exact OUT.out (Or.inl (by omega)) wr hSj (Kpb.refl _ _)
     case measure=>simp [intOf]; omega
  ·have hge:¬ i<b:=by assumption
   go_end0
   refine ⟨rfl,?_,(Kpb.alloc _ _ _).trans HK0.out⟩
   rw [← HO.out,Zh6,if_neg hge]; exact hSk
end
end Go.Proofs.YtkcmgbbopedacaaGreatDoor.SM
