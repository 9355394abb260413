/-
  Lemmas: sort.SliceStable at a row of structs of any length.
-/
import Derived.Test.YtkcmgbbopedacaaGreatDoorPZ29
import Derived.Deep.Cut
import Derived.Deep.CutRange
import Derived.Lib.ReflectliteSwap
import Derived.Shelf.GgSortFunc.SmallK
set_option linter.unusedSimpArgs false
set_option linter.unusedVariables false
namespace Go.Proofs.YtkcmgbbopedacaaGreatDoor.SM
open Go Go.Proofs Go.Shelf Go.RowKit Go.Lib Go.Sort
variable {P:Program} {ρ:Ren} {α:Type}
section
variable {S:List α→World→Prop} {bk:Nat} {lt:α→α→Bool} {g:Nat} {lb:Array Value} {sf:Nat} {sb:Array Value} {size:Nat}
theorem Kpb.box {w wr:World} {x y:Value} {t:TypeId} (h:Kpb bk (w.alloc (.cells #[x,y] t)) wr) (hb:bk<w.heap.size):wr.cell? ⟨w.heap.size,0,none⟩=some x∧wr.cell? ⟨w.heap.size,1,none⟩=some y:=by
 constructor
 ·rw [h.2 _ _ (by simp) (by omega)]; simp
 ·rw [h.2 _ _ (by simp) (by omega)]; simp
set_option maxHeartbeats 2000000 in
set_option maxRecDepth 100000 in
theorem Zj2 (L:LaysGt.n30 P ρ) (F:Fam P S bk lt g lb sf sb size) (a b:Nat) (d:List α) (w:World) (hS:S d w) (hab:a+1<b) (hb:b≤size) :
   Calls P (ρ.f 30) #[dat g lb sf sb,.int .i64 a,.int .i64 (a+1:Nat),.int .i64 b] w fun e w'=>e=.returned (.tuple #[])∧S (shl (bs (fun h=>lsi lt d h a) (b - (a+1)+1) (a+1) b - 1 - a) d a) w'∧Kpb bk w w':=by
 have mixed:=L.mixed; have t0:=L.t0; have a0:=L.a0; have z0:=L.z0; have v0:=L.v0; have t3:=L.t3; have a3:=L.a3; have z3:=L.z3; have v3:=L.v3; have t4:=L.t4; have a4:=L.a4; have z4:=L.z4; have v4:=L.v4; have t26:=L.t26; have a26:=L.a26; have z26:=L.z26; have v26:=L.v26; have t38:=L.t38; have a38:=L.a38; have z38:=L.z38; have v38:=L.v38; have t42:=L.t42; have a42:=L.a42; have z42:=L.z42; have v42:=L.v42; have t47:=L.t47; have a47:=L.a47; have z47:=L.z47; have v47:=L.v47
 have u42:=run_underlying L.t42
 have hbk:=F.hb hS
 have htop:=F.top
 have hS1:=F.alloc (.cells #[.func (.func g) #[] lb,.func (.func sf) #[] sb] (ρ.t 42)) hS
 have eg:=F.eg
 go_enter L.f30,BodyGt.n30_ntmps ρ
 go_wp2
 go_loopw [8,9] (fun vi vj wr=>∃ (i j k:Nat),vi=.int .i64 i∧vj=.int .i64 j∧a+1≤i∧i≤j∧j≤b∧j - i<k∧S d wr∧Kpb bk (w.alloc (.cells #[.func (.func g) #[] lb,.func (.func sf) #[] sb] (ρ.t 42))) wr ∧
  bs (fun h=>lsi lt d h a) k i j=bs (fun h=>lsi lt d h a) (b - (a+1)+1) (a+1) b) (fun vi vj _=>(intOf vj).toNat - (intOf vi).toNat)
 case atStart=>exact ⟨a+1,b,b - (a+1)+1,by go_num,by go_num,Nat.le_refl _,by omega,Nat.le_refl _,by omega,hS1,Kpb.refl _ _,rfl⟩
 case round =>
  obtain ⟨i,j,k,rfl,rfl,h1,h2,h3,hk,hSi,hK,hE⟩:=hrel
  obtain ⟨k,rfl⟩:∃ k',k=k' + 1:=⟨k - 1,by omega⟩
  have HE:Hid (bs (fun h=>lsi lt d h a) (k+1) i j=bs (fun h=>lsi lt d h a) (b - (a+1)+1) (a+1) b):=hE
  have HK:Hid (Kpb bk (w.alloc (.cells #[.func (.func g) #[] lb,.func (.func sf) #[] sb] (ρ.t 42))) wr):=hK
  obtain ⟨c0,c1⟩:=hK.box hbk
  clear hE hK hS hS1
  by_cases hij:i<j
  ·have hl:=F.less hSi ((i+j) / 2) a (by omega) (by omega)
   rw [show ((((i+j) / 2:Nat):Int))=((i:Int)+j) / 2 by omega] at hl
   cases hlv:lsi lt d ((i+j) / 2) a with
   | true =>
    rw [hlv] at hl
    go_wp2_with (go_at_fn g; refine hl.mono ?_; rintro e w' ⟨rfl,hSw,hKw⟩)
    go_roundw
    case rel =>
     (repeat apply Exists.intro)
     refine ⟨⟨(i+j) / 2+1,j,k,rfl,rfl,by omega,by omega,by omega,by omega,hSw,HK.out.trans hKw,?_⟩,by rw [show (((i+j) / 2+1:Nat):Int)=((i:Int)+j) / 2+1 by omega,show ((a+1:Nat):Int)=(a:Int)+1 by omega,show ((a:Int)+1 - a == 1)=true by simp; omega]⟩
     rw [← HE.out,bs,if_pos hij,hlv,if_pos rfl]
    case measure=>simp [intOf]; omega
   | false =>
    rw [hlv] at hl
    go_wp2_with (go_at_fn g; refine hl.mono ?_; rintro e w' ⟨rfl,hSw,hKw⟩)
    go_roundw
    case rel =>
     (repeat apply Exists.intro)
     refine ⟨⟨i,(i+j) / 2,k,rfl,rfl,by omega,by omega,by omega,by omega,hSw,HK.out.trans hKw,?_⟩,by rw [show (((i+j) / 2:Nat):Int)=((i:Int)+j) / 2 by omega,show ((a+1:Nat):Int)=(a:Int)+1 by omega,show ((a:Int)+1 - a == 1)=true by simp; omega]⟩
     rw [← HE.out,bs,if_pos hij,hlv,if_neg (by simp)]
    case measure=>simp [intOf]; omega
  ·have hs:i=bs (fun h=>lsi lt d h a) (b - (a+1)+1) (a+1) b:=by rw [← HE.out,bs,if_neg hij]
   have HS:Hid (i=bs (fun h=>lsi lt d h a) (b - (a+1)+1) (a+1) b):=hs
   clear hs
   go_wp2
   go_loopw [11] (fun vk wr2=>∃ (k n:Nat) (dk:List α),vk=.int .i64 k∧a≤k∧k+n=i - 1∧S dk wr2∧Kpb bk (w.alloc (.cells #[.func (.func g) #[] lb,.func (.func sf) #[] sb] (ρ.t 42))) wr2 ∧
    shl n dk k=shl (i - 1 - a) d a) (fun vk _=>i - (intOf vk).toNat)
   case atStart=>exact ⟨a,i - 1 - a,d,by go_num,Nat.le_refl _,by omega,hSi,HK.out,rfl⟩
   case round =>
    obtain ⟨k,n,dk,rfl,hk1,hk2,hSk,hK2,hE2⟩:=hrel
    have HE2:Hid (shl n dk k=shl (i - 1 - a) d a):=hE2
    obtain ⟨c0,c1⟩:=hK2.box hbk
    have HK2:Hid (Kpb bk (w.alloc (.cells #[.func (.func g) #[] lb,.func (.func sf) #[] sb] (ρ.t 42))) wr):=hK2
    clear hE2 hK2
    by_cases hn:k<i - 1
    ·obtain ⟨n,rfl⟩:∃ n',n=n' + 1:=⟨n - 1,by omega⟩
     obtain ⟨W',hs,hS',hK'⟩:=F.swap hSk k (k+1) (by omega) (by omega)
     rw [show (((k+1:Nat):Int))=(k:Int)+1 by omega] at hs
     go_wp2
     go_roundw
     case rel=>exact ⟨k+1,n,_,by congr 1,by omega,by omega,hS',HK2.out.trans hK',by rw [← HE2.out,shl]⟩
     case measure=>simp [intOf]; omega
    ·go_wp2
     have:n=0:=by omega
     subst this
     refine bodyPost_ret (results_none rfl _ _ _) rfl ?_
     exact ⟨rfl,by rw [← HS.out,← HE2.out]; exact hSk,(Kpb.alloc _ _ _).trans HK2.out⟩
set_option maxHeartbeats 2000000 in
set_option maxRecDepth 100000 in
theorem ZiZ (L:LaysGt.n30 P ρ) (F:Fam P S bk lt g lb sf sb size) (a m:Nat) (d:List α) (w:World) (hS:S d w) (hab:a+1<m) (hb:m<size) :
   Calls P (ρ.f 30) #[dat g lb sf sb,.int .i64 a,.int .i64 m,.int .i64 (m+1:Nat)] w fun e w'=>e=.returned (.tuple #[])∧S (shr (m - bs (fun h=>!lsi lt d m h) (m - a+1) a m) d m) w'∧Kpb bk w w':=by
 have mixed:=L.mixed; have t0:=L.t0; have a0:=L.a0; have z0:=L.z0; have v0:=L.v0; have t3:=L.t3; have a3:=L.a3; have z3:=L.z3; have v3:=L.v3; have t4:=L.t4; have a4:=L.a4; have z4:=L.z4; have v4:=L.v4; have t26:=L.t26; have a26:=L.a26; have z26:=L.z26; have v26:=L.v26; have t38:=L.t38; have a38:=L.a38; have z38:=L.z38; have v38:=L.v38; have t42:=L.t42; have a42:=L.a42; have z42:=L.z42; have v42:=L.v42; have t47:=L.t47; have a47:=L.a47; have z47:=L.z47; have v47:=L.v47
 have u42:=run_underlying L.t42
 have hbk:=F.hb hS
 have htop:=F.top
 have hS1:=F.alloc (.cells #[.func (.func g) #[] lb,.func (.func sf) #[] sb] (ρ.t 42)) hS
 have eg:=F.eg
 go_enter L.f30,BodyGt.n30_ntmps ρ
 go_wp2
 go_loopw [12,13] (fun vi vj wr=>∃ (i j k:Nat),vi=.int .i64 i∧vj=.int .i64 j∧a≤i∧i≤j∧j≤m∧j - i<k∧S d wr∧Kpb bk (w.alloc (.cells #[.func (.func g) #[] lb,.func (.func sf) #[] sb] (ρ.t 42))) wr ∧
  bs (fun h=>!lsi lt d m h) k i j=bs (fun h=>!lsi lt d m h) (m - a+1) a m) (fun vi vj _=>(intOf vj).toNat - (intOf vi).toNat)
 case atStart=>exact ⟨a,m,m - a+1,by go_num,by go_num,Nat.le_refl _,by omega,Nat.le_refl _,by omega,hS1,Kpb.refl _ _,rfl⟩
 case round =>
  obtain ⟨i,j,k,rfl,rfl,h1,h2,h3,hk,hSi,hK,hE⟩:=hrel
  obtain ⟨k,rfl⟩:∃ k',k=k' + 1:=⟨k - 1,by omega⟩
  have HE:Hid (bs (fun h=>!lsi lt d m h) (k+1) i j=bs (fun h=>!lsi lt d m h) (m - a+1) a m):=hE
  have HK:Hid (Kpb bk (w.alloc (.cells #[.func (.func g) #[] lb,.func (.func sf) #[] sb] (ρ.t 42))) wr):=hK
  obtain ⟨c0,c1⟩:=hK.box hbk
  clear hE hK hS hS1
  by_cases hij:i<j
  ·have hl:=F.less hSi m ((i+j) / 2) (by omega) (by omega)
   rw [show ((((i+j) / 2:Nat):Int))=((i:Int)+j) / 2 by omega] at hl
   cases hlv:lsi lt d m ((i+j) / 2) with
   | false =>
    rw [hlv] at hl
    go_wp2_with (go_at_fn g; refine hl.mono ?_; rintro e w' ⟨rfl,hSw,hKw⟩)
    go_roundw
    case rel =>
     (repeat apply Exists.intro)
     refine ⟨⟨(i+j) / 2+1,j,k,rfl,rfl,by omega,by omega,by omega,by omega,hSw,HK.out.trans hKw,?_⟩,by rw [show (((i+j) / 2+1:Nat):Int)=((i:Int)+j) / 2+1 by omega,show ((m+1:Nat):Int)=(m:Int)+1 by omega,show ((m:Int) - a == 1)=false by simp; omega,show ((m:Int)+1 - m == 1)=true by simp; omega]⟩
     rw [← HE.out,bs,if_pos hij,hlv,Bool.not_false,if_pos rfl]
    case measure=>simp [intOf]; omega
   | true =>
    rw [hlv] at hl
    go_wp2_with (go_at_fn g; refine hl.mono ?_; rintro e w' ⟨rfl,hSw,hKw⟩)
    go_roundw
    case rel =>
     (repeat apply Exists.intro)
     refine ⟨⟨i,(i+j) / 2,k,rfl,rfl,by omega,by omega,by omega,by omega,hSw,HK.out.trans hKw,?_⟩,by rw [show (((i+j) / 2:Nat):Int)=((i:Int)+j) / 2 by omega,show ((m+1:Nat):Int)=(m:Int)+1 by omega,show ((m:Int) - a == 1)=false by simp; omega,show ((m:Int)+1 - m == 1)=true by simp; omega]⟩
     rw [← HE.out,bs,if_pos hij,hlv,Bool.not_true,if_neg (by simp)]
    case measure=>simp [intOf]; omega
  ·have hs:i=bs (fun h=>!lsi lt d m h) (m - a+1) a m:=by rw [← HE.out,bs,if_neg hij]
   have HS:Hid (i=bs (fun h=>!lsi lt d m h) (m - a+1) a m):=hs
   clear hs
   go_wp2
   go_loopw [15] (fun vk wr2=>∃ (k n:Nat) (dk:List α),vk=.int .i64 k∧k≤m∧k≤i+n∧i+n≤k∧S dk wr2∧Kpb bk (w.alloc (.cells #[.func (.func g) #[] lb,.func (.func sf) #[] sb] (ρ.t 42))) wr2 ∧
    shr n dk k=shr (m - i) d m) (fun vk _=>(intOf vk).toNat)
   case atStart=>exact ⟨m,m - i,d,by go_num,Nat.le_refl _,by omega,by omega,hSi,HK.out,rfl⟩
   case round =>
    obtain ⟨k,n,dk,rfl,hk1,hk2,hk3,hSk,hK2,hE2⟩:=hrel
    have HE2:Hid (shr n dk k=shr (m - i) d m):=hE2
    obtain ⟨c0,c1⟩:=hK2.box hbk
    have HK2:Hid (Kpb bk (w.alloc (.cells #[.func (.func g) #[] lb,.func (.func sf) #[] sb] (ρ.t 42))) wr):=hK2
    clear hE2 hK2
    by_cases hn:i<k
    ·obtain ⟨n,rfl⟩:∃ n',n=n' + 1:=⟨n - 1,by omega⟩
     obtain ⟨W',hs,hS',hK'⟩:=F.swap hSk k (k - 1) (by omega) (by omega)
     rw [show (((k - 1:Nat):Int))=(k:Int) - 1 by omega] at hs
     go_wp2
     go_roundw
     case rel =>
      exact ⟨k - 1,n,_,by congr 1; omega,by omega,by omega,by omega,hS',HK2.out.trans hK',by rw [← HE2.out,shr]⟩
     case measure=>simp [intOf]; omega
    ·go_wp2
     have:n=0:=by omega
     subst this
     refine bodyPost_ret (results_none rfl _ _ _) rfl ?_
     exact ⟨rfl,by rw [← HS.out,← HE2.out]; exact hSk,(Kpb.alloc _ _ _).trans HK2.out⟩
end
end Go.Proofs.YtkcmgbbopedacaaGreatDoor.SM
namespace Go.Proofs.YtkcmgbbopedacaaGreatDoor.SM
open Go Go.Proofs Go.Shelf Go.RowKit Go.Lib Go.Sort
variable {P:Program} {ρ:Ren} {α:Type}
section
variable {S:List α→World→Prop} {bk:Nat} {lt:α→α→Bool} {g:Nat} {lb:Array Value} {sf:Nat} {sb:Array Value} {size:Nat}
def SmF (P:Program) (ρ:Ren) (S:List α→World→Prop) (bk:Nat) (lt:α→α→Bool) (g:Nat) (lb:Array Value) (sf:Nat) (sb:Array Value) (size f:Nat):Prop :=
 ∀ (a m b:Nat) (d:List α) (w:World),S d w→a<m→m<b→b≤size→b - a≤f →
  Calls P (ρ.f 30) #[dat g lb sf sb,.int .i64 a,.int .i64 m,.int .i64 b] w fun e w'=>e=.returned (.tuple #[])∧S (smg lt f d a m b) w'∧Kpb bk w w'
set_option maxHeartbeats 4000000 in
set_option maxRecDepth 100000 in
theorem Zkb (L:LaysGt.n30 P ρ) (F:Fam P S bk lt g lb sf sb size) (f:Nat) (ih:SmF P ρ S bk lt g lb sf sb size f) (a m b:Nat) (d:List α) (w:World) (hS:S d w) (h1:a+1<m) (h2:m+1<b) (hb:b≤size) (hf:b - a≤f+1) :
   Calls P (ρ.f 30) #[dat g lb sf sb,.int .i64 a,.int .i64 m,.int .i64 b] w fun e w'=>e=.returned (.tuple #[])∧S (smg lt (f+1) d a m b) w'∧Kpb bk w w':=by
 have mixed:=L.mixed; have t0:=L.t0; have a0:=L.a0; have z0:=L.z0; have v0:=L.v0; have t3:=L.t3; have a3:=L.a3; have z3:=L.z3; have v3:=L.v3; have t4:=L.t4; have a4:=L.a4; have z4:=L.z4; have v4:=L.v4; have t26:=L.t26; have a26:=L.a26; have z26:=L.z26; have v26:=L.v26; have t38:=L.t38; have a38:=L.a38; have z38:=L.z38; have v38:=L.v38; have t42:=L.t42; have a42:=L.a42; have z42:=L.z42; have v42:=L.v42; have t47:=L.t47; have a47:=L.a47; have z47:=L.z47; have v47:=L.v47
 have u42:=run_underlying L.t42
 have hbk:=F.hb hS
 have htop:=F.top
 have hS1:=F.alloc (.cells #[.func (.func g) #[] lb,.func (.func sf) #[] sb] (ρ.t 42)) hS
 have eg:=F.eg
 have e42:∀ args w,(callFunc (ρ.f 42) args).run P w=.ok (.enter (ρ.f 42) args) w:=enters_of L.f42 (by kernel_rfl) rfl
 have L42:LaysGt.n42 P ρ:={ L with }
 have hmid:(((a+b) / 2:Nat):Int)=((a:Int)+b) / 2:=by omega
 have hrot:∀ (s:Nat) (d:List α) (w:World),S d w→s<m→m<(a+b) / 2+m - s→(a+b) / 2+m - s≤b→Calls P (ρ.f 42) #[dat g lb sf sb,.int .i64 s,.int .i64 m,.int .i64 (((a:Int)+b) / 2+m - s)] w fun e w'=>e=.returned (.tuple #[])∧S (rot (b+1) d m (m - s) ((a+b) / 2+m - s - m)) w'∧Kpb bk w w':=fun s d w h g1 g2 g3=>by
  have:=Znq L42 F s m ((a+b) / 2+m - s) (b+1) d w h g1 g2 (by omega) (by omega)
  rw [show (((a+b) / 2+m - s:Nat):Int)=((a:Int)+b) / 2+m - s by omega] at this
  exact this
 have hsm1:∀ (s:Nat) (d:List α) (w:World),S d w→a<s→s<(a+b) / 2→Calls P (ρ.f 30) #[dat g lb sf sb,.int .i64 a,.int .i64 s,.int .i64 (((a:Int)+b) / 2)] w fun e w'=>e=.returned (.tuple #[])∧S (smg lt f d a s ((a+b) / 2)) w'∧Kpb bk w w':=fun s d w h g1 g2=>by
  have:=ih a s ((a+b) / 2) d w h g1 g2 (by omega) (by omega)
  rw [hmid] at this
  exact this
 have hsm2:∀ (s:Nat) (d:List α) (w:World),S d w→(a+b) / 2<(a+b) / 2+m - s→(a+b) / 2+m - s<b→Calls P (ρ.f 30) #[dat g lb sf sb,.int .i64 (((a:Int)+b) / 2),.int .i64 (((a:Int)+b) / 2+m - s),.int .i64 b] w fun e w'=>e=.returned (.tuple #[])∧S (smg lt f d ((a+b) / 2) ((a+b) / 2+m - s) b) w'∧Kpb bk w w':=fun s d w h g1 g2=>by
  have:=ih ((a+b) / 2) ((a+b) / 2+m - s) b d w h g1 g2 hb (by omega)
  rw [hmid,show (((a+b) / 2+m - s:Nat):Int)=((a:Int)+b) / 2+m - s by omega] at this
  exact this
 have e30:∀ args w,(callFunc (ρ.f 30) args).run P w=.ok (.enter (ρ.f 30) args) w:=enters_of L.f30 (by kernel_rfl) rfl
 clear ih hmid
 go_enter L.f30,BodyGt.n30_ntmps ρ
 by_cases hm:(a+b) / 2<m
 ·go_wp2
  go_loopw [18,19] (fun vi vj wr=>∃ (i j k:Nat),vi=.int .i64 i∧vj=.int .i64 j∧(a+b) / 2+m - b≤i∧i≤j∧j≤(a+b) / 2∧j - i<k∧S d wr∧Kpb bk (w.alloc (.cells #[.func (.func g) #[] lb,.func (.func sf) #[] sb] (ρ.t 42))) wr ∧
   bs (fun c=>!lsi lt d ((a+b) / 2+m - 1 - c) c) k i j=bs (fun c=>!lsi lt d ((a+b) / 2+m - 1 - c) c) (b+1) ((a+b) / 2+m - b) ((a+b) / 2)) (fun vi vj _=>(intOf vj).toNat - (intOf vi).toNat)
  case atStart=>exact ⟨(a+b) / 2+m - b,(a+b) / 2,b+1,by go_num,by go_num,Nat.le_refl _,by omega,Nat.le_refl _,by omega,hS1,Kpb.refl _ _,rfl⟩
  case round =>
   obtain ⟨i,j,k,rfl,rfl,g1,g2,g3,hk,hSi,hK,hE⟩:=hrel
   obtain ⟨k,rfl⟩:∃ k',k=k' + 1:=⟨k - 1,by omega⟩
   have HE:Hid (bs (fun c=>!lsi lt d ((a+b) / 2+m - 1 - c) c) (k+1) i j=bs (fun c=>!lsi lt d ((a+b) / 2+m - 1 - c) c) (b+1) ((a+b) / 2+m - b) ((a+b) / 2)):=hE
   have HK:Hid (Kpb bk (w.alloc (.cells #[.func (.func g) #[] lb,.func (.func sf) #[] sb] (ρ.t 42))) wr):=hK
   obtain ⟨c0,c1⟩:=hK.box hbk
   clear hE hK hS hS1
   by_cases hij:i<j
   ·have hl:=F.less hSi ((a+b) / 2+m - 1 - (i+j) / 2) ((i+j) / 2) (by omega) (by omega)
    rw [show (((i+j) / 2:Nat):Int)=((i:Int)+j) / 2 by omega,show ((((a+b) / 2+m - 1 - (i+j) / 2:Nat)):Int)=((a:Int)+b) / 2+m - 1 - ((i:Int)+j) / 2 by omega] at hl
    cases hlv:lsi lt d ((a+b) / 2+m - 1 - (i+j) / 2) ((i+j) / 2) with
    | false =>
     rw [hlv] at hl
     go_wp2_with (go_at_fn g; refine hl.mono ?_; rintro e w' ⟨rfl,hSw,hKw⟩)
     go_roundw
     case rel =>
      (repeat apply Exists.intro)
      refine ⟨⟨(i+j) / 2+1,j,k,rfl,rfl,by omega,by omega,by omega,by omega,hSw,HK.out.trans hKw,?_⟩,by rw [show (((i+j) / 2+1:Nat):Int)=((i:Int)+j) / 2+1 by omega,show ((m:Int) - a == 1)=false by simp; omega,show ((b:Int) - m == 1)=false by simp; omega,show decide (((a:Int)+b) / 2<m)=true by simp; omega]⟩
      rw [← HE.out,bs,if_pos hij,hlv,Bool.not_false,if_pos rfl]
     case measure=>simp [intOf]; omega
    | true =>
     rw [hlv] at hl
     go_wp2_with (go_at_fn g; refine hl.mono ?_; rintro e w' ⟨rfl,hSw,hKw⟩)
     go_roundw
     case rel =>
      (repeat apply Exists.intro)
      refine ⟨⟨i,(i+j) / 2,k,rfl,rfl,by omega,by omega,by omega,by omega,hSw,HK.out.trans hKw,?_⟩,by rw [show (((i+j) / 2:Nat):Int)=((i:Int)+j) / 2 by omega,show ((m:Int) - a == 1)=false by simp; omega,show ((b:Int) - m == 1)=false by simp; omega,show decide (((a:Int)+b) / 2<m)=true by simp; omega]⟩
      rw [← HE.out,bs,if_pos hij,hlv,Bool.not_true,if_neg (by simp)]
     case measure=>simp [intOf]; omega
   ·have hs:i=bs (fun c=>!lsi lt d ((a+b) / 2+m - 1 - c) c) (b+1) ((a+b) / 2+m - b) ((a+b) / 2):=by rw [← HE.out,bs,if_neg hij]
    have HS:Hid (i=bs (fun c=>!lsi lt d ((a+b) / 2+m - 1 - c) c) (b+1) ((a+b) / 2+m - b) ((a+b) / 2)):=hs
    clear hs HE
    have hfin:∀ (w':World) (d':List α),S d' w'→Kpb bk wr w'→d'=(let d1:=if i<m∧m<(a+b) / 2+m - i then rot (b+1) d m (m - i) ((a+b) / 2+m - i - m) else d
       let d2:=if a<i∧i<(a+b) / 2 then smg lt f d1 a i ((a+b) / 2) else d1
       if (a+b) / 2<(a+b) / 2+m - i∧(a+b) / 2+m - i<b then smg lt f d2 ((a+b) / 2) ((a+b) / 2+m - i) b else d2)→S (smg lt (f+1) d a m b) w'∧Kpb bk w w':=fun w' d' q1 q2 q3=>by
     refine ⟨?_,(Kpb.alloc _ _ _).trans (HK.out.trans q2)⟩
     rw [smg,if_neg (by omega),if_neg (by omega)]
     simp only [hm,if_true,if_false]
     rw [← HS.out,← q3]; exact q1
    have hsz:w.heap.size<wr.heap.size:=by
     have:=HK.out.1
     simp only [World.size_alloc] at this; omega
    have hne:w.heap.size≠bk:=by omega
    clear HK HS
    by_cases c1:i<m∧m<(a+b) / 2+m - i <;> by_cases c2:a<i∧i<(a+b) / 2 <;> by_cases c3:(a+b) / 2<(a+b) / 2+m - i∧(a+b) / 2+m - i<b
    all_goals go_wp2_with (first | (go_at_fn (ρ.f 42); refine (hrot i _ _ (by assumption) c1.1 c1.2 (by omega)).mono ?_; rintro e w1 ⟨rfl,hS1,hK1⟩; have hz1:=Nat.lt_of_lt_of_le (by assumption) hK1.1; have p10:=(hK1.2 w.heap.size 0 (by assumption) hne).trans (by assumption); have p11:=(hK1.2 w.heap.size 1 (by assumption) hne).trans (by assumption)) | (go_at_fn_of (ρ.f 30) (Value.int .i64 i); refine (hsm1 i _ _ (by assumption) c2.1 c2.2).mono ?_; rintro e w2 ⟨rfl,hS2,hK2⟩; have hz2:=Nat.lt_of_lt_of_le (by assumption) hK2.1; have p20:=(hK2.2 w.heap.size 0 (by assumption) hne).trans (by assumption); have p21:=(hK2.2 w.heap.size 1 (by assumption) hne).trans (by assumption)) | (go_at_fn (ρ.f 30); refine (hsm2 i _ _ (by assumption) c3.1 c3.2).mono ?_; rintro e w3 ⟨rfl,hS3,hK3⟩; have hz3:=Nat.lt_of_lt_of_le (by assumption) hK3.1; have p30:=(hK3.2 w.heap.size 0 (by assumption) hne).trans (by assumption); have p31:=(hK3.2 w.heap.size 1 (by assumption) hne).trans (by assumption)))
    all_goals first | (go_end0; exact ⟨rfl,hfin _ _ (by assumption) (by first | exact Kpb.refl _ _ | assumption | exact hK1.trans (hK2.trans hK3) | exact Kpb.trans (by assumption) (by assumption)) (by simp only [c1,c2,c3,and_self,if_true,if_false])⟩)
 ·go_wp2
  go_loopw [18,19] (fun vi vj wr=>∃ (i j k:Nat),vi=.int .i64 i∧vj=.int .i64 j∧a≤i∧i≤j∧j≤m∧j - i<k∧S d wr∧Kpb bk (w.alloc (.cells #[.func (.func g) #[] lb,.func (.func sf) #[] sb] (ρ.t 42))) wr ∧
   bs (fun c=>!lsi lt d ((a+b) / 2+m - 1 - c) c) k i j=bs (fun c=>!lsi lt d ((a+b) / 2+m - 1 - c) c) (b+1) (a) (m)) (fun vi vj _=>(intOf vj).toNat - (intOf vi).toNat)
  case atStart=>exact ⟨a,m,b+1,by go_num,by go_num,Nat.le_refl _,by omega,Nat.le_refl _,by omega,hS1,Kpb.refl _ _,rfl⟩
  case round =>
   obtain ⟨i,j,k,rfl,rfl,g1,g2,g3,hk,hSi,hK,hE⟩:=hrel
   obtain ⟨k,rfl⟩:∃ k',k=k' + 1:=⟨k - 1,by omega⟩
   have HE:Hid (bs (fun c=>!lsi lt d ((a+b) / 2+m - 1 - c) c) (k+1) i j=bs (fun c=>!lsi lt d ((a+b) / 2+m - 1 - c) c) (b+1) (a) (m)):=hE
   have HK:Hid (Kpb bk (w.alloc (.cells #[.func (.func g) #[] lb,.func (.func sf) #[] sb] (ρ.t 42))) wr):=hK
   obtain ⟨c0,c1⟩:=hK.box hbk
   clear hE hK hS hS1
   by_cases hij:i<j
   ·have hl:=F.less hSi ((a+b) / 2+m - 1 - (i+j) / 2) ((i+j) / 2) (by omega) (by omega)
    rw [show (((i+j) / 2:Nat):Int)=((i:Int)+j) / 2 by omega,show ((((a+b) / 2+m - 1 - (i+j) / 2:Nat)):Int)=((a:Int)+b) / 2+m - 1 - ((i:Int)+j) / 2 by omega] at hl
    cases hlv:lsi lt d ((a+b) / 2+m - 1 - (i+j) / 2) ((i+j) / 2) with
    | false =>
     rw [hlv] at hl
     go_wp2_with (go_at_fn g; refine hl.mono ?_; rintro e w' ⟨rfl,hSw,hKw⟩)
     go_roundw
     case rel =>
      (repeat apply Exists.intro)
      refine ⟨⟨(i+j) / 2+1,j,k,rfl,rfl,by omega,by omega,by omega,by omega,hSw,HK.out.trans hKw,?_⟩,by rw [show (((i+j) / 2+1:Nat):Int)=((i:Int)+j) / 2+1 by omega,show ((m:Int) - a == 1)=false by simp; omega,show ((b:Int) - m == 1)=false by simp; omega]⟩
      rw [← HE.out,bs,if_pos hij,hlv,Bool.not_false,if_pos rfl]
     case measure=>simp [intOf]; omega
    | true =>
     rw [hlv] at hl
     go_wp2_with (go_at_fn g; refine hl.mono ?_; rintro e w' ⟨rfl,hSw,hKw⟩)
     go_roundw
     case rel =>
      (repeat apply Exists.intro)
      refine ⟨⟨i,(i+j) / 2,k,rfl,rfl,by omega,by omega,by omega,by omega,hSw,HK.out.trans hKw,?_⟩,by rw [show (((i+j) / 2:Nat):Int)=((i:Int)+j) / 2 by omega,show ((m:Int) - a == 1)=false by simp; omega,show ((b:Int) - m == 1)=false by simp; omega]⟩
      rw [← HE.out,bs,if_pos hij,hlv,Bool.not_true,if_neg (by simp)]
     case measure=>simp [intOf]; omega
   ·have hs:i=bs (fun c=>!lsi lt d ((a+b) / 2+m - 1 - c) c) (b+1) (a) (m):=by rw [← HE.out,bs,if_neg hij]
    have HS:Hid (i=bs (fun c=>!lsi lt d ((a+b) / 2+m - 1 - c) c) (b+1) (a) (m)):=hs
    clear hs HE
    have hfin:∀ (w':World) (d':List α),S d' w'→Kpb bk wr w'→d'=(let d1:=if i<m∧m<(a+b) / 2+m - i then rot (b+1) d m (m - i) ((a+b) / 2+m - i - m) else d
       let d2:=if a<i∧i<(a+b) / 2 then smg lt f d1 a i ((a+b) / 2) else d1
       if (a+b) / 2<(a+b) / 2+m - i∧(a+b) / 2+m - i<b then smg lt f d2 ((a+b) / 2) ((a+b) / 2+m - i) b else d2)→S (smg lt (f+1) d a m b) w'∧Kpb bk w w':=fun w' d' q1 q2 q3=>by
     refine ⟨?_,(Kpb.alloc _ _ _).trans (HK.out.trans q2)⟩
     rw [smg,if_neg (by omega),if_neg (by omega)]
     simp only [hm,if_true,if_false]
     rw [← HS.out,← q3]; exact q1
    have hsz:w.heap.size<wr.heap.size:=by
     have:=HK.out.1
     simp only [World.size_alloc] at this; omega
    have hne:w.heap.size≠bk:=by omega
    clear HK HS
    by_cases c1:i<m∧m<(a+b) / 2+m - i <;> by_cases c2:a<i∧i<(a+b) / 2 <;> by_cases c3:(a+b) / 2<(a+b) / 2+m - i∧(a+b) / 2+m - i<b
    all_goals go_wp2_with (first | (go_at_fn (ρ.f 42); refine (hrot i _ _ (by assumption) c1.1 c1.2 (by omega)).mono ?_; rintro e w1 ⟨rfl,hS1,hK1⟩; have hz1:=Nat.lt_of_lt_of_le (by assumption) hK1.1; have p10:=(hK1.2 w.heap.size 0 (by assumption) hne).trans (by assumption); have p11:=(hK1.2 w.heap.size 1 (by assumption) hne).trans (by assumption)) | (go_at_fn_of (ρ.f 30) (Value.int .i64 i); refine (hsm1 i _ _ (by assumption) c2.1 c2.2).mono ?_; rintro e w2 ⟨rfl,hS2,hK2⟩; have hz2:=Nat.lt_of_lt_of_le (by assumption) hK2.1; have p20:=(hK2.2 w.heap.size 0 (by assumption) hne).trans (by assumption); have p21:=(hK2.2 w.heap.size 1 (by assumption) hne).trans (by assumption)) | (go_at_fn (ρ.f 30); refine (hsm2 i _ _ (by assumption) c3.1 c3.2).mono ?_; rintro e w3 ⟨rfl,hS3,hK3⟩; have hz3:=Nat.lt_of_lt_of_le (by assumption) hK3.1; have p30:=(hK3.2 w.heap.size 0 (by assumption) hne).trans (by assumption); have p31:=(hK3.2 w.heap.size 1 (by assumption) hne).trans (by assumption)))
    all_goals first | (go_end0; exact ⟨rfl,hfin _ _ (by assumption) (by first | exact Kpb.refl _ _ | assumption | exact hK1.trans (hK2.trans hK3) | exact Kpb.trans (by assumption) (by assumption)) (by simp only [c1,c2,c3,and_self,if_true,if_false])⟩)
theorem ZdR (L:LaysGt.n30 P ρ) (F:Fam P S bk lt g lb sf sb size):∀ f,SmF P ρ S bk lt g lb sf sb size f
 | 0=>fun a m b d w _ h1 h2 _ h=>by omega
 | f+1=>fun a m b d w hS h1 h2 hb hf=>by
  by_cases c1:m - a=1
  ·obtain rfl:m=a+1:=by omega
   rw [smg,if_pos c1]
   exact Zj2 L F a b d w hS h2 hb
  by_cases c2:b - m=1
  ·obtain rfl:b=m+1:=by omega
   rw [smg,if_neg c1,if_pos c2]
   exact ZiZ L F a m d w hS (by omega) hb
  exact Zkb L F f (ZdR L F f) a m b d w hS (by omega) (by omega) hb hf
end
end Go.Proofs.YtkcmgbbopedacaaGreatDoor.SM
namespace Go.Proofs.YtkcmgbbopedacaaGreatDoor.SM
open Go Go.Proofs Go.Shelf Go.RowKit Go.Lib Go.Sort
variable {P:Program} {ρ:Ren} {α:Type}
section
variable {S:List α→World→Prop} {bk:Nat} {lt:α→α→Bool} {g:Nat} {lb:Array Value} {sf:Nat} {sb:Array Value} {size:Nat}
set_option maxHeartbeats 4000000 in
set_option maxRecDepth 100000 in
theorem ZnB (L:LaysGt.n15 P ρ) (F:Fam P S bk lt g lb sf sb size) (d:List α) (w:World) (hS:S d w) :
   Calls P (ρ.f 15) #[dat g lb sf sb,.int .i64 size] w fun e w'=>e=.returned (.tuple #[])∧S (stab lt d) w'∧Kpb bk w w':=by
 have mixed:=L.mixed; have t0:=L.t0; have a0:=L.a0; have z0:=L.z0; have v0:=L.v0; have t3:=L.t3; have a3:=L.a3; have z3:=L.z3; have v3:=L.v3; have t4:=L.t4; have a4:=L.a4; have z4:=L.z4; have v4:=L.v4; have t26:=L.t26; have a26:=L.a26; have z26:=L.z26; have v26:=L.v26; have t38:=L.t38; have a38:=L.a38; have z38:=L.z38; have v38:=L.v38; have t42:=L.t42; have a42:=L.a42; have z42:=L.z42; have v42:=L.v42; have t47:=L.t47; have a47:=L.a47; have z47:=L.z47; have v47:=L.v47
 have u42:=run_underlying L.t42
 have hbk:=F.hb hS
 have htop:=F.top
 have hsz:=F.sz hS
 have hS1:=F.alloc (.cells #[.func (.func g) #[] lb,.func (.func sf) #[] sb] (ρ.t 42)) hS
 have e29:∀ args w,(callFunc (ρ.f 29) args).run P w=.ok (.enter (ρ.f 29) args) w:=enters_of L.f29 (by kernel_rfl) rfl
 have e30:∀ args w,(callFunc (ρ.f 30) args).run P w=.ok (.enter (ρ.f 30) args) w:=enters_of L.f30 (by kernel_rfl) rfl
 have L29:LaysGt.n29 P ρ:={ L with }
 have L30:LaysGt.n30 P ρ:={ L with }
 have hst:stab lt d=stb lt (size+1) (blk lt (size+1) d 0 size) 20 size:=by rw [stab,hsz]
 go_enter L.f15,BodyGt.n15_ntmps ρ
 go_wp2
 go_loopw [5,6] (fun va vb wr=>∃ (a f:Nat) (dk:List α),va=.int .i64 a∧vb=.int .i64 (a+20:Nat)∧a≤size∧size<a+f∧S dk wr∧Kpb bk (w.alloc (.cells #[.func (.func g) #[] lb,.func (.func sf) #[] sb] (ρ.t 42))) wr ∧
  blk lt f dk a size=blk lt (size+1) d 0 size) (fun va _ _=>size - (intOf va).toNat)
 case atStart=>exact ⟨0,size+1,d,rfl,rfl,by omega,by omega,hS1,Kpb.refl _ _,rfl⟩
 case round =>
  obtain ⟨a,f,dk,rfl,rfl,h1,h2,hSk,hK,hE⟩:=hrel
  obtain ⟨f,rfl⟩:∃ f',f=f' + 1:=⟨f - 1,by omega⟩
  have HE:Hid (blk lt (f+1) dk a size=blk lt (size+1) d 0 size):=hE
  have HK:Hid (Kpb bk (w.alloc (.cells #[.func (.func g) #[] lb,.func (.func sf) #[] sb] (ρ.t 42))) wr):=hK
  obtain ⟨c0,c1⟩:=hK.box hbk
  clear hE hK hS hS1
  by_cases hab:a+20≤size
  ·have hc:=ZcX L29 F a (a+20) 21 dk wr hSk (by omega) hab (by omega)
   go_wp2_with (go_at_fn (ρ.f 29); refine hc.mono ?_; rintro e w1 ⟨rfl,hS2,hK2⟩)
   go_roundw
   case rel=>exact ⟨a+20,f,_,by go_num,by go_num,hab,by omega,hS2,HK.out.trans hK2,by rw [← HE.out,blk,if_pos hab]⟩
   case measure=>simp [intOf]; omega
  ·have hc:=ZcX L29 F a size 21 dk wr hSk h1 (Nat.le_refl _) (by omega)
   go_wp2_with (go_at_fn (ρ.f 29); refine hc.mono ?_; rintro e w1 ⟨rfl,hS2,hK2⟩)
   have hE2:Zh6 lt 21 dk a (a+1) size=blk lt (size+1) d 0 size:=by rw [← HE.out,blk,if_neg hab]
   rw [hE2] at hS2
   have HK2:Hid (Kpb bk (w.alloc (.cells #[.func (.func g) #[] lb,.func (.func sf) #[] sb] (ρ.t 42))) w1):=HK.out.trans hK2
   have HT:Hid (stab lt d=stb lt (size+1) (blk lt (size+1) d 0 size) 20 size):=hst
   clear hE2 hc HE HK hSk c0 c1 hK2 hst
   go_loopw [4,5,6] (fun vs va vb wr=>∃ (s f:Nat) (dk:List α),vs=.int .i64 s∧0<s∧s≤2 * size+20∧size<s+f∧S dk wr∧Kpb bk (w.alloc (.cells #[.func (.func g) #[] lb,.func (.func sf) #[] sb] (ρ.t 42))) wr ∧
    stb lt f dk s size=stab lt d) (fun vs _ _ _=>size - (intOf vs).toNat)
   case atStart=>exact ⟨20,size+1,_,rfl,by omega,by omega,by omega,hS2,HK2.out,HT.out.symm⟩
   case round =>
    obtain ⟨s,f,dk,rfl,g1,g2,g3,hSk,hK,hE⟩:=hrel
    have HE:Hid (stb lt f dk s size=stab lt d):=hE
    have HK:Hid (Kpb bk (w.alloc (.cells #[.func (.func g) #[] lb,.func (.func sf) #[] sb] (ρ.t 42))) wr):=hK
    clear hE hK hS2 HK2 HT
    by_cases hs:s<size
    ·obtain ⟨f,rfl⟩:∃ f',f=f' + 1:=⟨f - 1,by omega⟩
     go_wp2
     go_loopw [5,6] (fun va vb wr2=>∃ (a k:Nat) (dj:List α),va=.int .i64 a∧vb=.int .i64 (a+2 * s:Nat)∧a≤size∧size<a+k∧S dj wr2∧Kpb bk (w.alloc (.cells #[.func (.func g) #[] lb,.func (.func sf) #[] sb] (ρ.t 42))) wr2 ∧
      mrg lt k dj s a size=mrg lt (size+1) dk s 0 size) (fun va _ _=>size - (intOf va).toNat)
     case atStart=>exact ⟨0,size+1,dk,rfl,by go_num,by omega,by omega,hSk,HK.out,rfl⟩
     case round =>
      obtain ⟨a,k,dj,rfl,rfl,q1,q2,hSj,hK2,hE2⟩:=hrel
      obtain ⟨k,rfl⟩:∃ k',k=k' + 1:=⟨k - 1,by omega⟩
      have HE2:Hid (mrg lt (k+1) dj s a size=mrg lt (size+1) dk s 0 size):=hE2
      have HK2:Hid (Kpb bk (w.alloc (.cells #[.func (.func g) #[] lb,.func (.func sf) #[] sb] (ρ.t 42))) wr):=hK2
      obtain ⟨c0,c1⟩:=hK2.box hbk
      clear hE2 hK2 hSk
      by_cases hab:a+2 * s≤size
      ·have hc:=ZdR L30 F (2 * s) a (a+s) (a+2 * s) dj wr hSj (by omega) (by omega) hab (by omega)
       rw [show ((a+s:Nat):Int)=(a:Int)+s by omega,show ((a+2 * s:Nat):Int)=(a:Int)+2 * s by omega] at hc
       go_wp2_with (go_at_fn (ρ.f 30); refine hc.mono ?_; rintro e w1 ⟨rfl,hS3,hK3⟩)
       go_roundw
       case rel=>exact ⟨a+2 * s,k,_,by go_num,by go_num,hab,by omega,hS3,HK2.out.trans hK3,by rw [← HE2.out,mrg,if_pos hab]⟩
       case measure=>simp [intOf]; omega
      ·by_cases hm:a+s<size
       ·have hc:=ZdR L30 F (size - a) a (a+s) size dj wr hSj (by omega) hm (Nat.le_refl _) (by omega)
        rw [show ((a+s:Nat):Int)=(a:Int)+s by omega] at hc
        go_wp2_with (go_at_fn (ρ.f 30); refine hc.mono ?_; rintro e w1 ⟨rfl,hS3,hK3⟩)
        exact ⟨⟨2 * s,f,_,by go_num,by omega,by omega,by omega,hS3,HK2.out.trans hK3,by rw [← HE.out,stb,if_pos hs,← HE2.out,mrg,if_neg hab,if_pos hm]⟩,by simp [intOf]; omega⟩
       ·go_wp2
        exact ⟨⟨2 * s,f,dj,by go_num,by omega,by omega,by omega,hSj,HK2.out,by rw [← HE.out,stb,if_pos hs,← HE2.out,mrg,if_neg hab,if_neg hm]⟩,by simp [intOf]; omega⟩
    ·go_wp2
     go_end0
     have:stb lt f dk s size=dk:=by
      cases f with
      | zero=>rfl
      | succ f=>rw [stb,if_neg hs]
     exact ⟨rfl,by rw [← HE.out,this]; exact hSk,(Kpb.alloc _ _ _).trans HK.out⟩
end
end Go.Proofs.YtkcmgbbopedacaaGreatDoor.SM
namespace Go.Proofs.YtkcmgbbopedacaaGreatDoor.SM
open Go Go.Proofs Go.Shelf Go.RowKit Go.Lib Go.Sort
variable {P:Program} {ρ:Ren} {α:Type}
section
variable {fv:α→List Value} {k:Nat}
theorem fm_len (hk:∀ x,(fv x).length=k):∀ d:List α,(d.flatMap fv).length=d.length * k
 | []=>by simp
 | x::d=>by rw [List.flatMap_cons,List.length_append,fm_len hk d,hk,List.length_cons,Nat.add_mul]; omega
theorem Zo9 (hk:∀ x,(fv x).length=k):∀ (d:List α) (i:Nat),(d.flatMap fv).take (i * k)=(d.take i).flatMap fv
 | [],i=>by simp
 | x::d,0=>by simp
 | x::d,i+1=>by
  rw [List.flatMap_cons,List.take_succ_cons,List.flatMap_cons,List.take_append,hk,Nat.add_mul,Nat.one_mul,Nat.add_sub_cancel,Zo9 hk d i,List.take_of_length_le (by rw [hk]; omega)]
theorem ZkN (hk:∀ x,(fv x).length=k):∀ (d:List α) (i:Nat),(d.flatMap fv).drop (i * k)=(d.drop i).flatMap fv
 | [],i=>by simp
 | x::d,0=>by simp
 | x::d,i+1=>by
  rw [List.flatMap_cons,List.drop_succ_cons,List.drop_append,hk,Nat.add_mul,Nat.one_mul,Nat.add_sub_cancel,ZkN hk d i,List.drop_of_length_le (by rw [hk]; omega),List.nil_append]
theorem Ztw (hk:∀ x,(fv x).length=k) (d:List α) (i:Nat) (y:α) (sp:List Value) (h:i<d.length):(d.flatMap fv++sp).take (i * k)++fv y++(d.flatMap fv++sp).drop (i * k+(fv y).length)=(d.set i y).flatMap fv++sp:=by
 have hl:i * k+k≤(d.flatMap fv).length:=by
  rw [fm_len hk,← Nat.succ_mul]; exact Nat.mul_le_mul_right _ h
 rw [hk,List.take_append_of_le_length (by omega),List.drop_append_of_le_length hl,show i * k+k=(i+1) * k by rw [Nat.add_mul,Nat.one_mul],Zo9 hk,ZkN hk,List.set_eq_take_append_cons_drop,if_pos h,List.flatMap_append,List.flatMap_cons]
 simp
theorem ZtF (hk:∀ x,(fv x).length=k) (d:List α) (i:Nat) (x:α) (sp:List Value) (h:d[i]?=some x) (u:Nat) (v:Value) (hv:(fv x)[u]?=some v):(d.flatMap fv++sp)[i * k+u]?=some v:=by
 have hi:=(List.getElem?_eq_some_iff.1 h).1
 have hu:=(List.getElem?_eq_some_iff.1 hv).1
 have hl:i * k+k≤(d.flatMap fv).length:=by
  rw [fm_len hk,← Nat.succ_mul]; exact Nat.mul_le_mul_right _ hi
 rw [hk] at hu
 rw [List.getElem?_append_left (by omega),← List.getElem?_drop,ZkN hk,List.drop_eq_getElem_cons hi,List.flatMap_cons,(List.getElem?_eq_some_iff.1 h).2,List.getElem?_append_left (by rw [hk]; exact hu)]
 exact hv
end
theorem Zdq {g:Nat} {E:TypeId}:∀ (vs:List Value) (o:Nat) (W:World) (L:List Value),W.heap[g]?=some (.cells L.toArray E (0,0))→o+vs.length≤L.length→(W.setCells g o vs).heap[g]?=some (.cells (L.take o++vs++L.drop (o+vs.length)).toArray E (0,0))
 | [],o,W,L,h,_=>by simpa [World.setCells] using h
 | v::r,o,W,L,h,hl=>by
  have h1:(W.setCell ⟨g,o,none⟩ v).heap[g]?=some (.cells (L.set o v).toArray E (0,0)):=by
   simp [World.setCell,Array.getElem?_modify,h]
  simp only [List.length_cons] at hl
  rw [World.setCells,Zdq r (o+1) _ (L.set o v) h1 (by simp; omega)]
  congr 3
  rw [List.take_set,List.drop_set_of_lt (by omega),List.length_cons,show o+1+r.length=o+(r.length+1) by omega]
  congr 1
  rw [List.take_add_one,List.set_append_right _ _ (by rw [List.length_take]; omega)]
  rw [List.getElem?_eq_getElem (by omega)]
  simp [Nat.min_eq_left (show o≤L.length by omega)]
theorem Q9 {g:Nat}:∀ (vs:List Value) (o:Nat) (W:World),(W.setCells g o vs).heap.size=W.heap.size∧(W.setCells g o vs).os=W.os∧(W.setCells g o vs).tape=W.tape∧(W.setCells g o vs).output=W.output∧∀ b,b≠g→(W.setCells g o vs).heap[b]?=W.heap[b]?
 | [],o,W=>⟨rfl,rfl,rfl,rfl,fun _ _=>rfl⟩
 | v::r,o,W=>by
  obtain ⟨h1,h2,h3,h4,h5⟩:=Q9 (g:=g) r (o+1) (W.setCell ⟨g,o,none⟩ v)
  rw [World.setCells]
  refine ⟨by rw [h1]; simp [World.setCell],h2,h3,h4,fun b hb=>?_⟩
  rw [h5 b hb]
  simp [World.setCell,Array.getElem?_modify,Ne.symm hb]
structure Row (w:World) (g:Nat) (E:TypeId) (fv:α→List Value) (sp:List Value) (size:Nat) (d:List α) (W:World):Prop where
 sz:d.length=size
 row:W.heap[g]?=some (.cells (d.flatMap fv++sp).toArray E (0,0))
 os:W.os=w.os
 tape:W.tape=w.tape
 output:W.output=w.output
 size:w.heap.size≤W.heap.size
 keep:∀ b,b<w.heap.size→b≠g→W.heap[b]?=w.heap[b]?
section
variable {w:World} {g:Nat} {E:TypeId} {fv:α→List Value} {k:Nat} {sp:List Value} {size:Nat} {lt:α→α→Bool} {gc:Nat} {lb:Array Value} {sf:Nat} {sb:Array Value}
theorem cell_of {W:World} {g j:Nat} {L:List Value} {E:TypeId} (h:W.heap[g]?=some (.cells L.toArray E (0,0))):W.cell? ⟨g,j,none⟩=L[j]?:=by
 simp [World.cell?,h]
theorem ZuU {W:World} {g j:Nat} {L:List Value} {E:TypeId} (h:W.heap[g]?=some (.cells L.toArray E (0,0))):W.frozen? ⟨g,j,none⟩=false:=by
 simp [World.frozen?,h]
theorem Zuf (hk:∀ x,(fv x).length=k) (h1:∀ x,∀ v ∈ fv x,v.oneCell'=true) (hg:g<w.heap.size) (htop:size<4611686018427387904)
   (eg:∀ args w,(callFunc gc args).run P w=.ok (.enter gc args) w)
   (less:∀ {d W},Row w g E fv sp size d W→∀ i j:Nat,i<size→j<size→Calls P gc (#[.int .i64 i,.int .i64 j]++lb) W fun e w'=>e=.returned (.bool (lsi lt d i j))∧Row w g E fv sp size d w'∧Kpb g W w')
   (hsw:∀ (W:World) (i j:Nat) (X Y:List Value),i<size→j<size→X.length=k→Y.length=k→(∀ v ∈ X,v.oneCell'=true)→(∀ v ∈ Y,v.oneCell'=true)→(∀ u v,X[u]?=some v→W.cell? ⟨g,0+i * k+u,none⟩=some v)→(∀ u v,Y[u]?=some v→W.cell? ⟨g,0+j * k+u,none⟩=some v)→(∀ u,W.frozen? ⟨g,u,none⟩=false) →
    (callFunc sf (#[.int .i64 i,.int .i64 j]++sb)).run P W=.ok (.value (.tuple #[])) ((W.setCells g (0+i * k) Y).setCells g (0+j * k) X)∨(i=j∧(callFunc sf (#[.int .i64 i,.int .i64 j]++sb)).run P W=.ok (.value (.tuple #[])) W)) :
   Fam P (Row w g E fv sp size) g lt gc lb sf sb size where
 sz h:=h.sz
 hb h:=Nat.lt_of_lt_of_le hg h.size
 drew q h:=⟨h.sz,h.row,h.os,h.tape,h.output,h.size,h.keep⟩
 alloc {d W} o h:=⟨h.sz,by
  have:=(Array.getElem?_eq_some_iff.1 h.row).1
  simp only [World.alloc]; rw [Array.getElem?_push_lt this]; rw [← Array.getElem?_eq_getElem this]; exact h.row,h.os,h.tape,h.output,by have:=h.size; rw [World.size_alloc]; omega,fun b hb hne=>by
  have:=Nat.lt_of_lt_of_le hb h.size
  simp only [World.alloc]; rw [Array.getElem?_push_lt this,← Array.getElem?_eq_getElem this]; exact h.keep b hb hne⟩
 eg:=eg
 less:=less
 top:=htop
 swap {d W} h i j hi hj:=by
  have hdi:i<d.length:=by rw [h.sz]; exact hi
  have hdj:j<d.length:=by rw [h.sz]; exact hj
  have ei:=List.getElem?_eq_getElem hdi
  have ej:=List.getElem?_eq_getElem hdj
  have hw:=hsw W i j (fv d[i]) (fv d[j]) hi hj (hk _) (hk _) (h1 _) (h1 _) (fun u v hv=>by rw [cell_of h.row,Nat.zero_add]; exact ZtF hk d i _ sp ei u v hv) (fun u v hv=>by rw [cell_of h.row,Nat.zero_add]; exact ZtF hk d j _ sp ej u v hv) (fun u=>ZuU h.row)
  rcases hw with hw | ⟨rfl,hw⟩
  ·refine ⟨_,hw,?_,?_⟩
   ·obtain ⟨p1,p2,p3,p4,p5⟩:=Q9 (g:=g) (fv d[j]) (0+i * k) W
    obtain ⟨q1,q2,q3,q4,q5⟩:=Q9 (g:=g) (fv d[i]) (0+j * k) (W.setCells g (0+i * k) (fv d[j]))
    have hl:∀ (d:List α) (i:Nat),i<d.length→i * k+k≤(d.flatMap fv++sp).length:=fun d i h=>by
     rw [List.length_append,fm_len hk]
     have:i * k+k≤d.length * k:=by rw [← Nat.succ_mul]; exact Nat.mul_le_mul_right _ h
     omega
    have r1:=Zdq (fv d[j]) (i * k) W _ h.row (by rw [hk]; exact hl d i hdi)
    rw [Ztw hk d i d[j] sp hdi] at r1
    have r2:=Zdq (fv d[i]) (j * k) _ _ r1 (by rw [hk]; exact hl _ j (by simpa using hdj))
    rw [Ztw hk _ j d[i] sp (by simpa using hdj)] at r2
    refine ⟨by rw [ZeT]; exact h.sz,?_,by rw [q2,p2]; exact h.os,by rw [q3,p3]; exact h.tape,by rw [q4,p4]; exact h.output,by rw [q1,p1]; exact h.size,fun b hb hne=>by rw [q5 b hne,p5 b hne]; exact h.keep b hb hne⟩
    rw [Nat.zero_add,Nat.zero_add,r2]
    unfold sw
    rw [ei,ej]
   ·obtain ⟨p1,-,-,-,p5⟩:=Q9 (g:=g) (fv d[j]) (0+i * k) W
    obtain ⟨q1,-,-,-,q5⟩:=Q9 (g:=g) (fv d[i]) (0+j * k) (W.setCells g (0+i * k) (fv d[j]))
    exact ⟨by rw [q1,p1]; exact Nat.le_refl _,fun b u _ hne=>World.cell?_of_block (by rw [q5 b hne,p5 b hne])⟩
  ·refine ⟨_,hw,?_,Kpb.refl _ _⟩
   have:sw d i i=d:=by
    unfold sw
    rw [ei]
    simp
   rw [this]; exact h
end
end Go.Proofs.YtkcmgbbopedacaaGreatDoor.SM
namespace Go.Proofs.YtkcmgbbopedacaaGreatDoor.SM
open Go Go.Proofs Go.Shelf Go.RowKit Go.Lib Go.Sort
variable {P:Program} {ρ:Ren} {α:Type}
theorem stab_tiny {lt:α→α→Bool} {d:List α} (h:d.length≤1):stab lt d=d:=by
 match d,h with
 | [],_=>rfl
 | [x],_=>rfl
theorem Zj1 (n:Nat) (ie:TypeInfo) (ke:Nat) (h:2≤n):swapperK n ie ke=swapperK 2 ie ke:=by
 unfold swapperK
 have a:(n == 0)=false:=by simp; omega
 have b:(n == 1)=false:=by simp; omega
 simp only [a,b]; rfl
section
variable {w:World} {g:Nat} {E:TypeId} {fv:α→List Value} {k:Nat} {sp:List Value} {lt:α→α→Bool} {gc:Nat} {lb:Array Value}
set_option maxRecDepth 100000 in
theorem sliceStable_row (L:LaysGt.n8 P ρ) (t e:TypeId) (i ie:TypeInfo) (hi:P.info? t=some i) (hd:i.desc=.slice e) (hpk:P.packed t=false) (hie:P.info? e=some ie) (ke:Nat) (hke:∀ w,(Extern.Rtype.kind e).run P w=.ok ke w)
   (hk:∀ x,(fv x).length=k) (hs1:ie.size=k) (hagg:∀ w,(isAgg e).run P w=.ok true w) (h1:∀ x,∀ v ∈ fv x,v.oneCell'=true)
   (eg : ∀ args w, (callFunc gc args).run P w = .ok (.enter gc args) w) (f0 f1 f2 : Nat) (q0 : P.funcs.findIdx? (·.name == "internal/reflectlite" ++ ".Swapper\x24" ++ toString (swapperK 0 ie ke)) = some f0) (q1 : P.funcs.findIdx? (·.name == "internal/reflectlite" ++ ".Swapper\x24" ++ toString (swapperK 1 ie ke)) = some f1) (q2 : P.funcs.findIdx? (·.name == "internal/reflectlite" ++ ".Swapper\x24" ++ toString (swapperK 2 ie ke)) = some f2)
   (gS:Bool) (hx:∀ args W,(callFunc f2 args).run P W=((Extern.ReflectliteSwapper.swap gS args).run P W).andThen fun v w'=>.ok (.value v) w')
   (c:Nat) (d:List α) (htop:d.length<4611686018427387904) (hg:g<w.heap.size) (hrow:w.heap[g]?=some (.cells (d.flatMap fv++sp).toArray E (0,0)))
   (less:∀ {d' W},Row w g E fv sp d.length d' W→∀ i j:Nat,i<d.length→j<d.length→Calls P gc (#[.int .i64 i,.int .i64 j]++lb) W fun e w'=>e=.returned (.bool (lsi lt d' i j))∧Row w g E fv sp d.length d' w'∧Kpb g W w') :
   Calls P (ρ.f 8) #[.iface t (.slice (some ⟨g,0,none⟩) d.length c),.func (.func gc) #[] lb] w fun e w'=>e=.returned (.tuple #[])∧Row w g E fv sp d.length (stab lt d) w':=by
 have hR:Row w g E fv sp d.length d w:=⟨rfl,hrow,rfl,rfl,rfl,Nat.le_refl _,fun _ _ _=>rfl⟩
 rcases Nat.lt_or_ge d.length 2 with hn | hn
 ·obtain ⟨f, hf⟩ : ∃ f, P.funcs.findIdx? (·.name == "internal/reflectlite" ++ ".Swapper\x24" ++ toString (swapperK d.length ie ke)) = some f := by
    rcases Nat.lt_or_ge d.length 1 with h | h
    ·rw [show d.length=0 by omega]; exact ⟨_,q0⟩
    ·rw [show d.length=1 by omega]; exact ⟨_,q1⟩
  refine (Any.sort_SliceStable_tiny L t e i ie hi hd hpk hie ke hke _ d.length c (by omega) f hf (.func gc) #[] lb w).mono ?_
  rintro e w' ⟨rfl,os,rfl⟩
  rw [stab_tiny (by omega)]
  have hb:∀ b,b<w.heap.size→(grow w os).heap[b]?=w.heap[b]?:=fun b hb=>by
   simp only [grow]; rw [Array.getElem?_append_left hb]
  exact ⟨rfl,rfl,by rw [hb g hg]; exact hrow,rfl,rfl,rfl,by rw [size_grow]; omega,fun b h _=>hb b h⟩
 ·subst hs1
  have hf : P.funcs.findIdx? (·.name == "internal/reflectlite" ++ ".Swapper\x24" ++ toString (swapperK d.length ie ke)) = some f2 := by
   rw [Zj1 _ _ _ hn]; exact q2
  refine Any.sort_SliceStable_of_stable L t e i ie hi hd hpk hie ke hke _ d.length c htop f2 hf (.func gc) #[] lb w _ ?_
  have hB:sliceBound P e ie ke (some ⟨g,0,none⟩) d.length c=#[.slice (some ⟨g,0,none⟩) d.length c,typeHandle P e]:=by
   unfold sliceBound; rw [if_neg (swapperK_gt _ _ _ hn)]
  rw [hB]
  have F:Fam P (Row w g E fv sp d.length) g lt gc lb f2 #[.slice (some ⟨g,0,none⟩) d.length c,typeHandle P e] d.length :=
   Zuf hk h1 hg htop eg less fun W i j X Y hi hj hX hY oX oY cX cY fz=>.inl (by
    have:=run_swap_cells (P:=P) gS e ie hie hagg g 0 d.length c i j hi hj X Y hX hY oX oY W cX cY (fun u _=>fz _) (fun u _=>fz _)
    rw [hx,show (#[Value.int .i64 (i:Int),Value.int .i64 (j:Int)]++#[Value.slice (some ⟨g,0,none⟩) d.length c,typeHandle P e])=#[.int .i64 i,.int .i64 j,.slice (some ⟨g,0,none⟩) d.length c,typeHandle P e] from rfl,this]
    rfl)
  refine (ZnB { L with } F d _ (F.alloc _ (F.alloc _ hR))).mono ?_
  rintro e w' ⟨rfl,hS,-⟩
  exact ⟨rfl,hS⟩
end
end Go.Proofs.YtkcmgbbopedacaaGreatDoor.SM
