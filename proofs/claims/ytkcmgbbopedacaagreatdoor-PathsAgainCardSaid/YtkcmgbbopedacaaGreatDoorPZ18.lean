/-
  Lemmas: Walks in short
-/
import Derived.Test.YtkcmgbbopedacaaGreatDoorPZ17
set_option linter.unusedSimpArgs false
set_option linter.unusedVariables false
namespace Go.Proofs.YtkcmgbbopedacaaGreatDoor
open Go.RowKit
theorem ps {g h:Prop} (k:h) (f:Wr h→g:=by (intro k; (repeat (first | refine sl ?_ | refine Zg ?_ | refine Zm ?_ | refine ZaN ?_ | refine ZeR ?_ | refine Zc4 ?_ | refine XA ?_ | refine ZL (Zc3 (by assumption) rfl rfl rfl rfl) rfl rfl rfl ?_ | refine ZL (YZ rfl rfl rfl rfl) rfl rfl rfl ?_ | refine Yp [] (YZ rfl rfl rfl rfl) rfl (by first | exact .no rfl | exact .y rfl rfl rfl rfl) rfl rfl ?_ | fail)); exact k.out)):g:=f ⟨k⟩
theorem psb {g h:Prop} (k:h) (f:Wr h→g:=by (intro k; (repeat (first | refine sl ?_ | refine Zg ?_ | refine Zm ?_ | refine ZaN ?_ | refine ZeR ?_ | refine Zc4 ?_ | refine XA ?_ | refine ZL (Zc3 (by assumption) rfl rfl rfl rfl) rfl rfl rfl ?_ | refine ZL (ZeO (by assumption) (by assumption) rfl rfl rfl) rfl rfl rfl ?_ | refine Yp [] (ZeO (by assumption) (by assumption) rfl rfl rfl) rfl (by first | exact .no rfl | exact .y rfl rfl rfl rfl) rfl rfl ?_ | fail)); exact k.out)):g:=f ⟨k⟩
theorem bxo {α:Type} {N:Option α} {y:α} {g h:Prop} (hy:N=some y) (k:h) (f:N=some y→Wr h→g:=by (intro hy w; (first | (apply Zzp; (first | (have hs:=SpO.out hy; refine Zhp hs ?_) | (have hs:=SpO.out hy; refine ZvA hs _ ?_) | (have hs:=SpO.out hy; refine Zo7 hs ?_) | refine ZL (Zjb hy rfl rfl rfl rfl) rfl rfl rfl ?_ | refine Zy9 (Zx4 hy rfl rfl rfl rfl rfl rfl rfl rfl) rfl rfl rfl rfl ?_ | refine Zlw (Zte hy rfl rfl rfl rfl rfl rfl) rfl rfl rfl rfl ?_ | refine ZL (Zwj hy rfl rfl rfl rfl) rfl rfl rfl ?_ | refine ZL (ZvV hy rfl rfl rfl rfl) rfl rfl rfl ?_ | refine ZL (Ztb hy rfl rfl rfl (by kernel_rfl)) rfl rfl rfl ?_ | refine ZL (ZvG hy rfl rfl (by kernel_rfl) rfl rfl) rfl rfl rfl ?_ | refine ZL (ZtI hy rfl rfl rfl) rfl rfl rfl ?_ | refine ZL (Ztc hy rfl rfl rfl) rfl rfl rfl ?_ | refine ZL (Ztt hy rfl rfl rfl) rfl rfl rfl ?_ | refine ZL (Zxd hy rfl rfl (by exact inferInstance) (by exact inferInstance)) rfl rfl rfl ?_ | refine ZL (Zwe hy rfl rfl rfl rfl rfl) rfl rfl rfl ?_ | fail)) | (apply Zzk; (first | (have hs:=SpO.out hy; refine Zt9 hs ?_) | (have hs:=SpO.out hy; refine ZvT hs _ ?_) | refine Yp [] (Zjb hy rfl rfl rfl rfl) rfl (by first | exact .no rfl | exact .y rfl rfl rfl rfl) rfl rfl ?_ | refine ZwR hy rfl rfl rfl rfl rfl rfl rfl rfl (by first | exact .no rfl | exact .y rfl rfl rfl rfl) rfl rfl rfl ?_ | refine ZtX [] (Zte hy rfl rfl rfl rfl rfl rfl) rfl (by first | exact .no rfl | exact .y rfl rfl rfl rfl) rfl rfl rfl ?_ | refine Yp [] (Zwj hy rfl rfl rfl rfl) rfl (by first | exact .no rfl | exact .y rfl rfl rfl rfl) rfl rfl ?_ | refine ZwM hy rfl rfl rfl rfl rfl (by first | exact .no rfl | exact .y rfl rfl rfl rfl) rfl rfl ?_ | refine ZwS hy rfl rfl rfl rfl rfl rfl (by first | exact .no rfl | exact .y rfl rfl rfl rfl) rfl rfl ?_ | refine Yp [] (Ztb hy rfl rfl rfl (by kernel_rfl)) rfl (by first | exact .no rfl | exact .y rfl rfl rfl rfl) rfl rfl ?_ | refine Yp [] (ZtI hy rfl rfl rfl) rfl (by first | exact .no rfl | exact .y rfl rfl rfl rfl) rfl rfl ?_ | refine Yp [] (ZvG hy rfl rfl (by kernel_rfl) rfl rfl) rfl (by first | exact .no rfl | exact .y rfl rfl rfl rfl) rfl rfl ?_ | refine Yp [] (Ztc hy rfl rfl rfl) rfl (by first | exact .no rfl | exact .y rfl rfl rfl rfl) rfl rfl ?_ | refine Yp [] (Ztt hy rfl rfl rfl) rfl (by first | exact .no rfl | exact .y rfl rfl rfl rfl) rfl rfl ?_ | fail)) | fail); exact w.out)):g:=f hy ⟨k⟩
theorem bxp {α:Type} {N:α} {y:α} {g h:Prop} (hy:N=y) (k:h) (f:N=y→Wr h→g:=by (intro hy w; (first | (apply Zzp; (first | (have hs:=SpT.out hy; refine Zhp hs ?_) | (have hs:=SpT.out hy; refine ZvA hs _ ?_) | (have hs:=SpT.out hy; refine Zo7 hs ?_) | fail)) | (apply Zzk; (first | (have hs:=SpT.out hy; refine Zt9 hs ?_) | (have hs:=SpT.out hy; refine ZvT hs _ ?_) | fail)) | fail); exact w.out)):g:=f hy ⟨k⟩
theorem vwx {p:Prop} (h:p:=by ((repeat (first | refine VH.cons rfl rfl Xh ?_ | refine VH.cons0 ?_ | refine VH.cons rfl rfl (Vb.ob _) ?_ | exact VS.nil | exact VH.nil | exact Vws.nil | refine VS.cons rfl ?_ ?_ | refine VH.cons rfl rfl (Vb.box ?_) ?_ | refine VH.cons rfl rfl (Vb.arr ?_) ?_ | exact Zj _ | refine Vws.cons ?_ ?_ | exact Vw.d _ | exact Vw.p rfl | exact Vw.h rfl | exact Vw.e rfl | exact Vw.s rfl | exact Vw.q _ | refine Vw.a ?_ | refine Vw.t ?_ | exact Vw.nil | exact Vw.fh rfl rfl (Zj _) | exact Vw.fe rfl rfl (Zj _) (Zap (by assumption)) | exact Vw.fe rfl rfl (Zj _) (Xi (by assumption)) | refine Vw.fp0 rfl rfl ?_ | exact Vw.mp rfl | refine VH.cons rfl rfl (Vb.mt _ _) ?_ | exact Vw.sc rfl | exact Vw.un _)); first | done | fail)):p:=h
theorem rsx {p:Prop} (h:p:=by ((repeat (first | exact trivial | refine Zv rfl rfl (by exact inferInstance) ?_)); first | done | fail)):p:=h
structure ZeN (f:List (Nat × Nat)):Prop where
 out:True
abbrev mpf {f:List (Nat × Nat)} (_:ZeN f):List (Nat × Nat):=f
inductive Kept {α:Type} (l tl:List (Nat × α)):List Nat→List (Nat × α)→Prop
 | nil:Kept l tl [] tl
 | cons {t:Nat} {v:α} {ts:List Nat} {r:List (Nat × α)} (h:look l t=some v) (hr:Kept l tl ts r):Kept l tl (t::ts) ((t,v)::r)
theorem ZlP {α:Type} {l tl:List (Nat × α)} {ts:List Nat} {r q:List (Nat × α)} (h:Kept l tl ts r) (e:q=r):Kept l tl ts q:=by rw [e]; exact h
section
variable {α β:Type} {g:Prop} {h:α→Prop} {z:β}
theorem bo {x:Option α} {k:α→Option β} (hm:Ze x k=some z) (n:∀ y,k y=some z→h y) (f:∀ y,x=some y→Wr (h y)→g:=by (intro y hy w; refine ps ?_; refine bxo hy ?_; exact w.out)):g:=by
 obtain ⟨y,h1,h2⟩:=ZH hm
 exact f y h1 ⟨n y h2⟩
theorem bo' {x:Option α} {k:α→Option β} (hm:Ze x k=some z) (n:∀ y,x=some y→k y=some z→h y) (f:∀ y,x=some y→Wr (h y)→g:=by (intro y hy w; refine ps ?_; refine bxo hy ?_; exact w.out)):g:=by
 obtain ⟨y,h1,h2⟩:=ZH hm
 exact f y h1 ⟨n y h1 h2⟩
theorem bp {x:α} {k:α→β} (hm:bnd x k=z) (n:∀ y,k y=z→h y) (f:∀ y,x=y→Wr (h y)→g:=by (intro y hy w; refine ps ?_; refine bxp hy ?_; exact w.out)):g:=f x rfl ⟨n x hm⟩
end
theorem co {α:Type} {b:Bool} {x y z:α} {h1 h2 g:Prop} (hm:sel b x y=z) (n1:x=z→h1) (n2:y=z→h2) (f:sel b x y=z→(x=z→Wr h1)→(y=z→Wr h2)→g:=by (intro hm w1 w2; refine ps ?_; first | exact Znc hm (fun h=>(w1 h).out) (fun h=>(w2 h).out) | exact Znd hm (fun h=>(w1 h).out) (fun h=>(w2 h).out) | exact Zkv rfl rfl rfl rfl (fun h=>(w1 (Zhq h hm)).out) (fun h=>(w2 (Zhn h hm)).out) | fail)):g:=f hm (fun h=>⟨n1 h⟩) (fun h=>⟨n2 h⟩)
section
variable {Γ:Cx} {k:Zcc} {st st':St} {n m:Nat} {P:Program} {ks:List Nat} {rs:List ResultVar} {Ψ:V→Hp→Prop} {us:List V} {u:V} {h:Hp} {f:List (Nat × Nat)}
structure Wkn (Γ:Cx) (f:List (Nat × Nat)) (st st':St):Prop where
 al:Qs st.hp f=true
 ol:olds f=true
 ks:(Γ.ks.all fun k=>match look f k with | some k'=>Nat.beq k k' | none=>false)=true
 d:(f.all fun e=>(look st'.hp e.1).isSome)=true
 s:VS st.hp f st.sl st'.sl
 h:VH st.hp st.hp f st'.hp
theorem wkn (al:Qs st.hp f=true:=by rfl) (ol:olds f=true:=by rfl) (ks:(Γ.ks.all fun k=>match look f k with | some k'=>Nat.beq k k' | none=>false)=true:=by rfl) (d:(f.all fun e=>(look st'.hp e.1).isSome)=true:=by rfl) (s:VS st.hp f st.sl st'.sl:=by exact vwx) (h:VH st.hp st.hp f st'.hp:=by exact vwx):Wkn Γ f st st':=⟨al,ol,ks,d,s,h⟩
theorem Wkn.wk (w:Wkn Γ f st st'):Wk Γ st st':=_root_.Go.Proofs.YtkcmgbbopedacaaGreatDoor.wk f w.al w.ol w.ks w.d w.s w.h
theorem ZaG {I:St→Prop} (h:I st':=by (first | exact ⟨rfl,rfl⟩ | exact ⟨_,rfl,rfl⟩ | exact ⟨_,_,rfl,rfl⟩ | exact ⟨_,_,_,rfl,rfl⟩ | exact ⟨_,_,_,_,rfl,rfl⟩ | exact ⟨_,_,_,_,_,rfl,rfl⟩ | exact ⟨_,_,_,_,_,_,rfl,rfl⟩ | exact ⟨_,_,_,_,_,_,_,rfl,rfl⟩ | exact ⟨_,_,_,_,_,_,_,_,rfl,rfl⟩ | exact ⟨_,_,_,_,_,_,_,_,_,rfl,rfl⟩ | fail)) (w:Wkn Γ (idk st'.hp) st st':=by exact wkn):WK Γ (.cut I k) .normal st:=Zgv w.wk h
theorem Zfz (_:ZeN f) {I:St→Prop} (h:I st':=by (first | exact ⟨rfl,rfl⟩ | exact ⟨_,rfl,rfl⟩ | exact ⟨_,_,rfl,rfl⟩ | exact ⟨_,_,_,rfl,rfl⟩ | exact ⟨_,_,_,_,rfl,rfl⟩ | exact ⟨_,_,_,_,_,rfl,rfl⟩ | exact ⟨_,_,_,_,_,_,rfl,rfl⟩ | exact ⟨_,_,_,_,_,_,_,rfl,rfl⟩ | exact ⟨_,_,_,_,_,_,_,_,rfl,rfl⟩ | exact ⟨_,_,_,_,_,_,_,_,_,rfl,rfl⟩ | fail)) (w:Wkn Γ f st st':=by exact wkn):WK Γ (.cut I k) .normal st:=Zgv w.wk h
theorem ZoZ {p:Prop} (hm:p) {I:Nat→St→Prop} (h:Wr p→I m st':=by (intro hq; (first | exact ⟨hq.out,rfl⟩ | exact ⟨_,hq.out,rfl⟩ | exact ⟨_,_,hq.out,rfl⟩ | exact ⟨_,_,_,hq.out,rfl⟩ | exact ⟨_,_,_,_,hq.out,rfl⟩ | exact ⟨_,_,_,_,_,hq.out,rfl⟩ | exact ⟨_,_,_,_,_,_,hq.out,rfl⟩ | exact ⟨_,_,_,_,_,_,_,hq.out,rfl⟩ | exact ⟨_,_,_,_,_,_,_,_,hq.out,rfl⟩ | exact ⟨_,_,_,_,_,_,_,_,_,hq.out,rfl⟩ | fail))) (hn:m<n:=by exact Nat.lt_succ_self _) (w:Wkn Γ (idk st'.hp) st st':=by exact wkn):WK Γ (.loop I n k) .normal st:=Zbs m w.wk hn (h ⟨hm⟩)
theorem Ziu (_:ZeN f) {p:Prop} (hm:p) {I:Nat→St→Prop} (h:Wr p→I m st':=by (intro hq; (first | exact ⟨hq.out,rfl⟩ | exact ⟨_,hq.out,rfl⟩ | exact ⟨_,_,hq.out,rfl⟩ | exact ⟨_,_,_,hq.out,rfl⟩ | exact ⟨_,_,_,_,hq.out,rfl⟩ | exact ⟨_,_,_,_,_,hq.out,rfl⟩ | exact ⟨_,_,_,_,_,_,hq.out,rfl⟩ | exact ⟨_,_,_,_,_,_,_,hq.out,rfl⟩ | exact ⟨_,_,_,_,_,_,_,_,hq.out,rfl⟩ | exact ⟨_,_,_,_,_,_,_,_,_,hq.out,rfl⟩ | fail))) (hn:m<n:=by exact Nat.lt_succ_self _) (w:Wkn Γ f st st':=by exact wkn):WK Γ (.loop I n k) .normal st:=Zbs m w.wk hn (h ⟨hm⟩)
theorem Zmf {p:Prop} (hm:p) {I:Nat→St→Prop} (h:Wr p→I m st':=by (intro hq; (first | refine ⟨_,rfl,?_,hq.out,rfl⟩ | refine ⟨_,_,rfl,?_,hq.out,rfl⟩ | refine ⟨_,_,_,rfl,?_,hq.out,rfl⟩ | refine ⟨_,_,_,_,rfl,?_,hq.out,rfl⟩ | refine ⟨_,_,_,_,_,rfl,?_,hq.out,rfl⟩ | refine ⟨_,_,_,_,_,_,rfl,?_,hq.out,rfl⟩ | refine ⟨_,_,_,_,_,_,_,rfl,?_,hq.out,rfl⟩ | refine ⟨_,_,_,_,_,_,_,_,rfl,?_,hq.out,rfl⟩ | refine ⟨_,_,_,_,_,_,_,_,_,rfl,?_,hq.out,rfl⟩ | refine ⟨_,_,_,_,_,_,_,_,_,_,rfl,?_,hq.out,rfl⟩ | fail); omega)) (hn:m<n:=by omega) (w:Wkn Γ (idk st'.hp) st st':=by exact wkn):WK Γ (.loop I n k) .normal st:=Zbs m w.wk hn (h ⟨hm⟩)
theorem ZgT (_:ZeN f) {p:Prop} (hm:p) {I:Nat→St→Prop} (h:Wr p→I m st':=by (intro hq; (first | refine ⟨_,rfl,?_,hq.out,rfl⟩ | refine ⟨_,_,rfl,?_,hq.out,rfl⟩ | refine ⟨_,_,_,rfl,?_,hq.out,rfl⟩ | refine ⟨_,_,_,_,rfl,?_,hq.out,rfl⟩ | refine ⟨_,_,_,_,_,rfl,?_,hq.out,rfl⟩ | refine ⟨_,_,_,_,_,_,rfl,?_,hq.out,rfl⟩ | refine ⟨_,_,_,_,_,_,_,rfl,?_,hq.out,rfl⟩ | refine ⟨_,_,_,_,_,_,_,_,rfl,?_,hq.out,rfl⟩ | refine ⟨_,_,_,_,_,_,_,_,_,rfl,?_,hq.out,rfl⟩ | refine ⟨_,_,_,_,_,_,_,_,_,_,rfl,?_,hq.out,rfl⟩ | fail); omega)) (hn:m<n:=by omega) (w:Wkn Γ f st st':=by exact wkn):WK Γ (.loop I n k) .normal st:=Zbs m w.wk hn (h ⟨hm⟩)
theorem ZdI (h4:Ψ u h:=by exact ⟨rfl,rfl⟩) (h1:Zi6 st rs=some us:=by rfl) (h2:Zja P st rs:=by exact rsx) (hp:Zgb ks st (idk h) h=true:=by rfl) (h3:Vw st.hp (idk h) (one us) u:=by exact vwx) (h5:VH st.hp st.hp (idk h) h:=by exact vwx):WK Γ (.fn (Zgd P ks rs Ψ)) .ret st:=ZoK (idk h) h1 h2 hp h3 h5 h4
theorem Zbw (h4:Ψ u h:=by exact ⟨rfl,rfl⟩) (h1:Zi6 st rs=some us:=by rfl) (h2:Zja P st rs:=by exact rsx) (hp:Zgb ks st (idk h) h=true:=by rfl) (h3:Vw st.hp (idk h) (one us) u:=by exact vwx) (h5:VH st.hp st.hp (idk h) h:=by exact vwx):WK Γ (.fn (Zgd P ks rs Ψ)) .normal st:=ZkU (Wk.refl _ _) ⟨us,idk h,u,h,h1,h2,hp,h3,h5,h4⟩
end
theorem az0 {p0 g:Prop} (h0:p0) (f:p0→g:=by (intro hm0; (repeat' (first | refine sl ?_ | refine Zg ?_ | refine Zm ?_ | refine ZaN ?_ | refine ZeR ?_ | refine Zc4 ?_ | refine XA ?_ | refine ZL (Zc3 (by assumption) rfl rfl rfl rfl) rfl rfl rfl ?_ | (refine Znc hm0 ?_ ?_ <;> clear hm0 <;> intro hm0) | (refine Znd hm0 ?_ ?_ <;> clear hm0 <;> intro hm0) | (refine Zkv rfl rfl rfl rfl (fun h=>?_) (fun h=>?_) <;> (first | replace hm0:=Zhq h hm0 | replace hm0:=Zhn h hm0 | fail)) | (obtain ⟨_,hy,hm0⟩:=ZH hm0; refine bxo hy ?_) | (obtain ⟨_,hy,hm0⟩:=Zao hm0; refine bxp hy ?_) | refine ZL (YZ rfl rfl rfl rfl) rfl rfl rfl ?_ | refine Yp [] (YZ rfl rfl rfl rfl) rfl (by first | exact .no rfl | exact .y rfl rfl rfl rfl) rfl rfl ?_ | (apply Zvt; (first | (cases hm0; (first | exact Zkr | exact Zjc | exact ZdI | exact Zbw | fail)) | fail)) | (simp only [ZB,Zd6] at hm0) | fail)))):g:=f h0
theorem YF {p0 g:Prop} (h0:p0) (f:p0→g:=by (intro hm0; refine ps ?_; cases hm0; (first | exact Zkr | exact Zjc | exact ZdI | exact Zbw | fail))):g:=f h0
theorem ZqV (f:List (Nat × Nat)) {p0 g:Prop} (h0:p0) (q:ZeN f→p0→g:=by (intro hf hm0; refine ps ?_; cases hm0; (first | exact Zuy (mpf hf) ⟨rfl,rfl⟩ | exact ZpZ (mpf hf) ⟨rfl,rfl⟩ | fail))):g:=q ⟨trivial⟩ h0
theorem az1 {p0 p1 g:Prop} (h0:p0) (h1:p1) (f:p0→p1→g:=by (intro hm0 hm1; (repeat' (first | refine sl ?_ | refine Zg ?_ | refine Zm ?_ | refine ZaN ?_ | refine ZeR ?_ | refine Zc4 ?_ | refine XA ?_ | refine ZL (Zc3 (by assumption) rfl rfl rfl rfl) rfl rfl rfl ?_ | (refine Znc hm1 ?_ ?_ <;> clear hm1 <;> intro hm1) | (refine Znd hm1 ?_ ?_ <;> clear hm1 <;> intro hm1) | (refine Zkv rfl rfl rfl rfl (fun h=>?_) (fun h=>?_) <;> (first | replace hm1:=Zhq h hm1 | replace hm1:=Zhn h hm1 | fail)) | (obtain ⟨_,hy,hm1⟩:=ZH hm1; refine bxo hy ?_) | (obtain ⟨_,hy,hm1⟩:=Zao hm1; refine bxp hy ?_) | refine ZL (YZ rfl rfl rfl rfl) rfl rfl rfl ?_ | refine Yp [] (YZ rfl rfl rfl rfl) rfl (by first | exact .no rfl | exact .y rfl rfl rfl rfl) rfl rfl ?_ | (apply Zvt; (first | (cases hm1; exact ZaG) | (cases hm1; (first | replace hm0:=YI hm0 | replace hm0:=XQ hm0 | fail); cases hm0; (first | exact Zkr | exact Zjc | exact ZdI | exact Zbw | fail)) | fail)) | (simp only [ZB,Zd6] at hm1) | fail)))):g:=f h0 h1
theorem ZcF {p0 p1 g:Prop} (h0:p0) (h1:p1) (f:p0→p1→g:=by (intro hm0 hm1; refine ps ?_; cases hm1; (first | replace hm0:=YI hm0 | replace hm0:=XQ hm0 | fail); cases hm0; (first | exact Zkr | exact Zjc | exact ZdI | exact Zbw | fail))):g:=f h0 h1
theorem ZbU {p0 p1 g:Prop} (h0:p0) (h1:p1) (f:p0→p1→g:=by (intro hm0 hm1; refine ps ?_; cases hm1; exact ZaG)):g:=f h0 h1
theorem Zxw (f:List (Nat × Nat)) {p0 p1 g:Prop} (h0:p0) (h1:p1) (q:ZeN f→p0→p1→g:=by (intro hf hm0 hm1; refine ps ?_; cases hm1; exact Zfz hf)):g:=q ⟨trivial⟩ h0 h1
theorem eb1 {p0 p1 g:Prop} (h0:p0) (h1:p1) (f:p0→p1→g:=by (intro hm0 hm1; refine psb ?_; (first | exact ZoZ hm1 | exact Zmf hm1 | fail))):g:=f h0 h1
theorem Zh5 (f:List (Nat × Nat)) {p0 p1 g:Prop} (h0:p0) (h1:p1) (q:ZeN f→p0→p1→g:=by (intro hf hm0 hm1; refine psb ?_; (first | exact Ziu hf hm1 | exact ZgT hf hm1 | fail))):g:=q ⟨trivial⟩ h0 h1
theorem az2 {p0 p1 p2 g:Prop} (h0:p0) (h1:p1) (h2:p2) (f:p0→p1→p2→g:=by (intro hm0 hm1 hm2; (repeat' (first | refine sl ?_ | refine Zg ?_ | refine Zm ?_ | refine ZaN ?_ | refine ZeR ?_ | refine Zc4 ?_ | refine XA ?_ | refine ZL (Zc3 (by assumption) rfl rfl rfl rfl) rfl rfl rfl ?_ | (refine Znc hm2 ?_ ?_ <;> clear hm2 <;> intro hm2) | (refine Znd hm2 ?_ ?_ <;> clear hm2 <;> intro hm2) | (refine Zkv rfl rfl rfl rfl (fun h=>?_) (fun h=>?_) <;> (first | replace hm2:=Zhq h hm2 | replace hm2:=Zhn h hm2 | fail)) | (obtain ⟨_,hy,hm2⟩:=ZH hm2; refine bxo hy ?_) | (obtain ⟨_,hy,hm2⟩:=Zao hm2; refine bxp hy ?_) | refine ZL (YZ rfl rfl rfl rfl) rfl rfl rfl ?_ | refine Yp [] (YZ rfl rfl rfl rfl) rfl (by first | exact .no rfl | exact .y rfl rfl rfl rfl) rfl rfl ?_ | (apply Zvt; (first | (cases hm2; exact ZaG) | (cases hm2; (first | replace hm1:=YI hm1 | replace hm1:=XQ hm1 | fail); cases hm1; exact ZaG) | (cases hm2; (first | replace hm1:=YI hm1 | replace hm1:=XQ hm1 | fail); cases hm1; (first | replace hm0:=YI hm0 | replace hm0:=XQ hm0 | fail); cases hm0; (first | exact Zkr | exact Zjc | exact ZdI | exact Zbw | fail)) | fail)) | (simp only [ZB,Zd6] at hm2) | fail)))):g:=f h0 h1 h2
theorem Zzd {p0 p1 p2 g:Prop} (h0:p0) (h1:p1) (h2:p2) (f:p0→p1→p2→g:=by (intro hm0 hm1 hm2; refine ps ?_; cases hm2; (first | replace hm1:=YI hm1 | replace hm1:=XQ hm1 | fail); cases hm1; (first | replace hm0:=YI hm0 | replace hm0:=XQ hm0 | fail); cases hm0; (first | exact Zkr | exact Zjc | exact ZdI | exact Zbw | fail))):g:=f h0 h1 h2
theorem Zvn (f:List (Nat × Nat)) {p0 p1 p2 g:Prop} (h0:p0) (h1:p1) (h2:p2) (q:ZeN f→p0→p1→p2→g:=by (intro hf hm0 hm1 hm2; refine ps ?_; cases hm2; (first | replace hm1:=YI hm1 | replace hm1:=XQ hm1 | fail); cases hm1; exact Zfz hf)):g:=q ⟨trivial⟩ h0 h1 h2
theorem Zxu {p0 p1 p2 g:Prop} (h0:p0) (h1:p1) (h2:p2) (f:p0→p1→p2→g:=by (intro hm0 hm1 hm2; refine ps ?_; cases hm2; exact ZaG)):g:=f h0 h1 h2
theorem Zvi (f:List (Nat × Nat)) {p0 p1 p2 g:Prop} (h0:p0) (h1:p1) (h2:p2) (q:ZeN f→p0→p1→p2→g:=by (intro hf hm0 hm1 hm2; refine ps ?_; cases hm2; exact Zfz hf)):g:=q ⟨trivial⟩ h0 h1 h2
theorem ZAa (f:List (Nat × Nat)) {p0 p1 p2 g:Prop} (h0:p0) (h1:p1) (h2:p2) (q:ZeN f→p0→p1→p2→g:=by (intro hf hm0 hm1 hm2; refine psb ?_; (first | exact Ziu hf hm2 | exact ZgT hf hm2 | fail))):g:=q ⟨trivial⟩ h0 h1 h2
theorem az3 {p0 p1 p2 p3 g:Prop} (h0:p0) (h1:p1) (h2:p2) (h3:p3) (f:p0→p1→p2→p3→g:=by (intro hm0 hm1 hm2 hm3; (repeat' (first | refine sl ?_ | refine Zg ?_ | refine Zm ?_ | refine ZaN ?_ | refine ZeR ?_ | refine Zc4 ?_ | refine XA ?_ | refine ZL (Zc3 (by assumption) rfl rfl rfl rfl) rfl rfl rfl ?_ | (refine Znc hm3 ?_ ?_ <;> clear hm3 <;> intro hm3) | (refine Znd hm3 ?_ ?_ <;> clear hm3 <;> intro hm3) | (refine Zkv rfl rfl rfl rfl (fun h=>?_) (fun h=>?_) <;> (first | replace hm3:=Zhq h hm3 | replace hm3:=Zhn h hm3 | fail)) | (obtain ⟨_,hy,hm3⟩:=ZH hm3; refine bxo hy ?_) | (obtain ⟨_,hy,hm3⟩:=Zao hm3; refine bxp hy ?_) | refine ZL (YZ rfl rfl rfl rfl) rfl rfl rfl ?_ | refine Yp [] (YZ rfl rfl rfl rfl) rfl (by first | exact .no rfl | exact .y rfl rfl rfl rfl) rfl rfl ?_ | (apply Zvt; (first | (cases hm3; exact ZaG) | (cases hm3; (first | replace hm2:=YI hm2 | replace hm2:=XQ hm2 | fail); cases hm2; exact ZaG) | (cases hm3; (first | replace hm2:=YI hm2 | replace hm2:=XQ hm2 | fail); cases hm2; (first | replace hm1:=YI hm1 | replace hm1:=XQ hm1 | fail); cases hm1; exact ZaG) | (cases hm3; (first | replace hm2:=YI hm2 | replace hm2:=XQ hm2 | fail); cases hm2; (first | replace hm1:=YI hm1 | replace hm1:=XQ hm1 | fail); cases hm1; (first | replace hm0:=YI hm0 | replace hm0:=XQ hm0 | fail); cases hm0; (first | exact Zkr | exact Zjc | exact ZdI | exact Zbw | fail)) | fail)) | (simp only [ZB,Zd6] at hm3) | fail)))):g:=f h0 h1 h2 h3
theorem Zz7 (f:List (Nat × Nat)) {p0 p1 p2 p3 g:Prop} (h0:p0) (h1:p1) (h2:p2) (h3:p3) (q:ZeN f→p0→p1→p2→p3→g:=by (intro hf hm0 hm1 hm2 hm3; refine ps ?_; cases hm3; (first | replace hm2:=YI hm2 | replace hm2:=XQ hm2 | fail); cases hm2; exact Zfz hf)):g:=q ⟨trivial⟩ h0 h1 h2 h3
theorem Zvl {p0 p1 p2 p3 g:Prop} (h0:p0) (h1:p1) (h2:p2) (h3:p3) (f:p0→p1→p2→p3→g:=by (intro hm0 hm1 hm2 hm3; refine ps ?_; cases hm3; exact ZaG)):g:=f h0 h1 h2 h3
theorem eb3 {p0 p1 p2 p3 g:Prop} (h0:p0) (h1:p1) (h2:p2) (h3:p3) (f:p0→p1→p2→p3→g:=by (intro hm0 hm1 hm2 hm3; refine psb ?_; (first | exact ZoZ hm3 | exact Zmf hm3 | fail))):g:=f h0 h1 h2 h3
theorem Zzm (f:List (Nat × Nat)) {p0 p1 p2 p3 g:Prop} (h0:p0) (h1:p1) (h2:p2) (h3:p3) (q:ZeN f→p0→p1→p2→p3→g:=by (intro hf hm0 hm1 hm2 hm3; refine psb ?_; (first | exact Ziu hf hm3 | exact ZgT hf hm3 | fail))):g:=q ⟨trivial⟩ h0 h1 h2 h3
theorem az4 {p0 p1 p2 p3 p4 g:Prop} (h0:p0) (h1:p1) (h2:p2) (h3:p3) (h4:p4) (f:p0→p1→p2→p3→p4→g:=by (intro hm0 hm1 hm2 hm3 hm4; (repeat' (first | refine sl ?_ | refine Zg ?_ | refine Zm ?_ | refine ZaN ?_ | refine ZeR ?_ | refine Zc4 ?_ | refine XA ?_ | refine ZL (Zc3 (by assumption) rfl rfl rfl rfl) rfl rfl rfl ?_ | (refine Znc hm4 ?_ ?_ <;> clear hm4 <;> intro hm4) | (refine Znd hm4 ?_ ?_ <;> clear hm4 <;> intro hm4) | (refine Zkv rfl rfl rfl rfl (fun h=>?_) (fun h=>?_) <;> (first | replace hm4:=Zhq h hm4 | replace hm4:=Zhn h hm4 | fail)) | (obtain ⟨_,hy,hm4⟩:=ZH hm4; refine bxo hy ?_) | (obtain ⟨_,hy,hm4⟩:=Zao hm4; refine bxp hy ?_) | refine ZL (YZ rfl rfl rfl rfl) rfl rfl rfl ?_ | refine Yp [] (YZ rfl rfl rfl rfl) rfl (by first | exact .no rfl | exact .y rfl rfl rfl rfl) rfl rfl ?_ | (apply Zvt; (first | (cases hm4; exact ZaG) | (cases hm4; (first | replace hm3:=YI hm3 | replace hm3:=XQ hm3 | fail); cases hm3; exact ZaG) | (cases hm4; (first | replace hm3:=YI hm3 | replace hm3:=XQ hm3 | fail); cases hm3; (first | replace hm2:=YI hm2 | replace hm2:=XQ hm2 | fail); cases hm2; exact ZaG) | (cases hm4; (first | replace hm3:=YI hm3 | replace hm3:=XQ hm3 | fail); cases hm3; (first | replace hm2:=YI hm2 | replace hm2:=XQ hm2 | fail); cases hm2; (first | replace hm1:=YI hm1 | replace hm1:=XQ hm1 | fail); cases hm1; exact ZaG) | (cases hm4; (first | replace hm3:=YI hm3 | replace hm3:=XQ hm3 | fail); cases hm3; (first | replace hm2:=YI hm2 | replace hm2:=XQ hm2 | fail); cases hm2; (first | replace hm1:=YI hm1 | replace hm1:=XQ hm1 | fail); cases hm1; (first | replace hm0:=YI hm0 | replace hm0:=XQ hm0 | fail); cases hm0; (first | exact Zkr | exact Zjc | exact ZdI | exact Zbw | fail)) | fail)) | (simp only [ZB,Zd6] at hm4) | fail)))):g:=f h0 h1 h2 h3 h4
theorem Zzo (f:List (Nat × Nat)) {p0 p1 p2 p3 p4 g:Prop} (h0:p0) (h1:p1) (h2:p2) (h3:p3) (h4:p4) (q:ZeN f→p0→p1→p2→p3→p4→g:=by (intro hf hm0 hm1 hm2 hm3 hm4; refine ps ?_; cases hm4; (first | replace hm3:=YI hm3 | replace hm3:=XQ hm3 | fail); cases hm3; exact Zfz hf)):g:=q ⟨trivial⟩ h0 h1 h2 h3 h4
theorem Zze {p0 p1 p2 p3 p4 g:Prop} (h0:p0) (h1:p1) (h2:p2) (h3:p3) (h4:p4) (f:p0→p1→p2→p3→p4→g:=by (intro hm0 hm1 hm2 hm3 hm4; refine ps ?_; cases hm4; exact ZaG)):g:=f h0 h1 h2 h3 h4
theorem Zz4 (f:List (Nat × Nat)) {p0 p1 p2 p3 p4 g:Prop} (h0:p0) (h1:p1) (h2:p2) (h3:p3) (h4:p4) (q:ZeN f→p0→p1→p2→p3→p4→g:=by (intro hf hm0 hm1 hm2 hm3 hm4; refine ps ?_; cases hm4; exact Zfz hf)):g:=q ⟨trivial⟩ h0 h1 h2 h3 h4
section
variable {α R:Type} {Γ:Cx} {x:Code} {k:Zcc} {sl:List (Nat × V)} {hp:Hp} {z:R} {l:List α} {xs:List D} {ls bs:List Nat} {N:Nat}
structure Ks (sl:List (Nat × V)) (hp:Hp) (ls bs:List Nat) (S:List (Nat × V)) (B:Hp) (st:St):Prop where
 s:Kept sl S ls st.sl
 b:Kept hp B bs st.hp
theorem ksx {S S':List (Nat × V)} {B B':Hp} (s:Kept sl S ls S':=by (exact ZlP (by repeat (first | exact Kept.nil | (apply Kept.cons; exact rfl))) (by exact rfl))) (b:Kept hp B bs B':=by (exact ZlP (by repeat (first | exact Kept.nil | (apply Kept.cons; exact rfl))) (by exact rfl))):Ks sl hp ls bs S B ⟨S',B'⟩:=⟨s,b⟩
theorem jc0 {X:Option (Ctl R Unit)} {K:Unit→Option R} {T:St} (hm:Ze X (fun mu=>Yz mu K)=some z) (ls bs:List Nat) (S:List (Nat × V)) (n1:∀ mu,Yz mu K=some z→X=some mu→WC Γ x (.cut (fun st=>mu=.nxt ()∧st=T) k) ⟨sl,hp⟩) (n2:K ()=some z→WK Γ k .normal (T)) (B:Hp:=[]) (hk:Ks sl hp ls bs (S) (B) (T):=by (intros; exact ksx)):WC Γ x k ⟨sl,hp⟩:=by
 obtain ⟨mu,h1,h2⟩:=ZH hm
 refine YQ _ (n1 mu h2 h1) ?_
 rintro _ ⟨rfl,rfl⟩
 exact n2 h2
theorem jd0 {X:Ctl R Unit} {K:Unit→R} {T:St} (hm:bnd X (fun mu=>Zs5 mu K)=z) (ls bs:List Nat) (S:List (Nat × V)) (n1:∀ mu,Zs5 mu K=z→X=mu→WC Γ x (.cut (fun st=>mu=.nxt ()∧st=T) k) ⟨sl,hp⟩) (n2:K ()=z→WK Γ k .normal (T)) (B:Hp:=[]) (hk:Ks sl hp ls bs (S) (B) (T):=by (intros; exact ksx)):WC Γ x k ⟨sl,hp⟩:=by
 obtain ⟨mu,h1,h2⟩:=Zao hm
 refine YQ _ (n1 mu h2 h1) ?_
 rintro _ ⟨rfl,rfl⟩
 exact n2 h2
theorem lr0 {G:List α→R} {E0:R} {E1:α→List α→R} {g1 g2:Nat→Prop} {T:Nat→St} (hm:G l=z) (t:Nat) (ls bs:List Nat) (S:Nat→List (Nat × V)) (n1:l.length≤9223372036854775807→∀ m x,m<l.length→l[m]?=some x→E1 x (l.drop (m+1))=z→g1 m) (n2:∀ (m:Nat),E0=z→g2 m) (B:Nat→Hp:=fun _=>[]) (hk:∀ m,Ks sl hp ls bs (S m) (B m) (T m):=by (intros; exact ksx)) (f1:∀ m,m<l.length→Wr (g1 m)→WC Γ x (.loop (fun κ st=>∃ m,κ=l.length - m∧m≤l.length∧G (l.drop m)=z∧st=T m) (l.length - m) k) (T m):=by (intro m hlt w; refine ps ?_; (try refine Zg ?_); refine XB (Zos hlt) rfl ?_; exact w.out)) (f2:∀ m,l.length≤m→Wr (g2 m)→WC Γ x (.loop (fun κ st=>∃ m,κ=l.length - m∧m≤l.length∧G (l.drop m)=z∧st=T m) (l.length - m) k) (T m):=by (intro m hlt w; refine ps ?_; (try refine Zg ?_); refine XD (Zor hlt) rfl ?_; exact w.out)) (f:List (Nat × Nat):=idk (T 0).hp) (hE1:∀ x l,G (x::l)=E1 x l:=by (intros; conv=>lhs; whnf)) (hE0:G []=E0:=by (intros; conv=>lhs; whnf)) (ht:look sl t=some (.d (.l l.length xs)):=by rfl) (w:Wkn Γ f ⟨sl,hp⟩ (T 0):=by exact wkn):WC Γ (.loop x) k ⟨sl,hp⟩:=by
 refine ZdE t ht (fun hl=>?_)
 refine ZaE (fun κ st=>∃ m,κ=l.length - m∧m≤l.length∧G (l.drop m)=z∧st=T m) (l.length - 0) (T 0) w.wk ⟨0,rfl,Nat.zero_le _,hm,rfl⟩ ?_
 rintro κ _ ⟨m,rfl,hle,hq,rfl⟩
 rcases Nat.lt_or_ge m l.length with h | h
 ·obtain ⟨x,hx,hdr⟩:=Zdw h
  rw [hdr,hE1] at hq
  exact f1 m h ⟨n1 hl m x h hx hq⟩
 ·rw [ZdG h,hE0] at hq
  exact f2 m h ⟨n2 m hq⟩
theorem Zrq {G:List α→Int→R} {E0:Int→R} {E1:α→List α→Int→R} {g1 g2:Nat→Prop} {T:Nat→St} (hm:G l 0=z) (t:Nat) (ls bs:List Nat) (S:Nat→List (Nat × V)) (n1:l.length≤9223372036854775807→∀ m x,m<l.length→l[m]?=some x→E1 x (l.drop (m+1)) (m:Int)=z→g1 m) (n2:∀ (m:Nat),E0 (m:Int)=z→g2 m) (B:Nat→Hp:=fun _=>[]) (hk:∀ m,Ks sl hp ls bs (S m) (B m) (T m):=by (intros; exact ksx)) (f1:∀ m,m<l.length→Wr (g1 m)→WC Γ x (.loop (fun κ st=>∃ m,κ=l.length - m∧m≤l.length∧G (l.drop m) (m:Int)=z∧st=T m) (l.length - m) k) (T m):=by (intro m hlt w; refine ps ?_; (try refine Zg ?_); refine XB (Zos hlt) rfl ?_; exact w.out)) (f2:∀ m,l.length≤m→Wr (g2 m)→WC Γ x (.loop (fun κ st=>∃ m,κ=l.length - m∧m≤l.length∧G (l.drop m) (m:Int)=z∧st=T m) (l.length - m) k) (T m):=by (intro m hlt w; refine ps ?_; (try refine Zg ?_); refine XD (Zor hlt) rfl ?_; exact w.out)) (f:List (Nat × Nat):=idk (T 0).hp) (hE1:∀ x l i,G (x::l) i=E1 x l i:=by (intros; conv=>lhs; whnf)) (hE0:∀ i,G [] i=E0 i:=by (intros; conv=>lhs; whnf)) (ht:look sl t=some (.d (.l l.length xs)):=by rfl) (w:Wkn Γ f ⟨sl,hp⟩ (T 0):=by exact wkn):WC Γ (.loop x) k ⟨sl,hp⟩:=by
 refine ZdE t ht (fun hl=>?_)
 refine ZaE (fun κ st=>∃ m,κ=l.length - m∧m≤l.length∧G (l.drop m) (m:Int)=z∧st=T m) (l.length - 0) (T 0) w.wk ⟨0,rfl,Nat.zero_le _,hm,rfl⟩ ?_
 rintro κ _ ⟨m,rfl,hle,hq,rfl⟩
 rcases Nat.lt_or_ge m l.length with h | h
 ·obtain ⟨x,hx,hdr⟩:=Zdw h
  rw [hdr,hE1] at hq
  exact f1 m h ⟨n1 hl m x h hx hq⟩
 ·rw [ZdG h,hE0] at hq
  exact f2 m h ⟨n2 m hq⟩
theorem jc1 {A1:Type} {X:Option (Ctl R A1)} {K:A1→Option R} {T:A1→St} (hm:Ze X (fun mu=>Yz mu K)=some z) (ls bs:List Nat) (S:A1→List (Nat × V)) (n1:∀ mu,Yz mu K=some z→X=some mu→WC Γ x (.cut (fun st=>∃ a1,mu=.nxt a1∧st=T a1) k) ⟨sl,hp⟩) (n2:∀ a1,K a1=some z→WK Γ k .normal (T a1)) (B:A1→Hp:=fun _=>[]) (hk:∀ a1,Ks sl hp ls bs (S a1) (B a1) (T a1):=by (intros; exact ksx)):WC Γ x k ⟨sl,hp⟩:=by
 obtain ⟨mu,h1,h2⟩:=ZH hm
 refine YQ _ (n1 mu h2 h1) ?_
 rintro _ ⟨a1,rfl,rfl⟩
 exact n2 _ h2
theorem jo1 {A1:Type} {X:Option (A1)} {K:A1→Option R} {T:A1→St} (hm:Ze X K=some z) (ls bs:List Nat) (S:A1→List (Nat × V)) (n1:∀ mu,K mu=some z→X=some mu→WC Γ x (.cut (fun st=>∃ a1,mu=a1∧st=T a1) k) ⟨sl,hp⟩) (n2:∀ a1,K a1=some z→WK Γ k .normal (T a1)) (B:A1→Hp:=fun _=>[]) (hk:∀ a1,Ks sl hp ls bs (S a1) (B a1) (T a1):=by (intros; exact ksx)):WC Γ x k ⟨sl,hp⟩:=by
 obtain ⟨mu,h1,h2⟩:=ZH hm
 refine YQ _ (n1 mu h2 h1) ?_
 rintro _ ⟨a1,rfl,rfl⟩
 exact n2 _ h2
theorem jp1 {A1:Type} {X:A1} {K:A1→R} {T:A1→St} (hm:bnd X K=z) (ls bs:List Nat) (S:A1→List (Nat × V)) (n1:∀ mu,K mu=z→X=mu→WC Γ x (.cut (fun st=>∃ a1,mu=a1∧st=T a1) k) ⟨sl,hp⟩) (n2:∀ a1,K a1=z→WK Γ k .normal (T a1)) (B:A1→Hp:=fun _=>[]) (hk:∀ a1,Ks sl hp ls bs (S a1) (B a1) (T a1):=by (intros; exact ksx)):WC Γ x k ⟨sl,hp⟩:=by
 obtain ⟨mu,h1,h2⟩:=Zao hm
 refine YQ _ (n1 mu h2 h1) ?_
 rintro _ ⟨a1,rfl,rfl⟩
 exact n2 _ h2
theorem lr1 {A1:Type} {G:List α→A1→R} {E0:A1→R} {E1:α→List α→A1→R} {i1:A1} {g1 g2:Nat→A1→Prop} {T:Nat→A1→St} (hm:G l i1=z) (t:Nat) (ls bs:List Nat) (S:Nat→A1→List (Nat × V)) (n1:l.length≤9223372036854775807→∀ m a1 x,m<l.length→l[m]?=some x→E1 x (l.drop (m+1)) a1=z→g1 m a1) (n2:∀ (m:Nat) a1,E0 a1=z→g2 m a1) (B:Nat→A1→Hp:=fun _ _=>[]) (hk:∀ m a1,Ks sl hp ls bs (S m a1) (B m a1) (T m a1):=by (intros; exact ksx)) (f1:∀ m a1,m<l.length→Wr (g1 m a1)→WC Γ x (.loop (fun κ st=>∃ m a1,κ=l.length - m∧m≤l.length∧G (l.drop m) a1=z∧st=T m a1) (l.length - m) k) (T m a1):=by (intro m a1 hlt w; refine ps ?_; (try refine Zg ?_); refine XB (Zos hlt) rfl ?_; exact w.out)) (f2:∀ m a1,l.length≤m→Wr (g2 m a1)→WC Γ x (.loop (fun κ st=>∃ m a1,κ=l.length - m∧m≤l.length∧G (l.drop m) a1=z∧st=T m a1) (l.length - m) k) (T m a1):=by (intro m a1 hlt w; refine ps ?_; (try refine Zg ?_); refine XD (Zor hlt) rfl ?_; exact w.out)) (f:List (Nat × Nat):=idk (T 0 i1).hp) (hE1:∀ x l a1,G (x::l) a1=E1 x l a1:=by (intros; conv=>lhs; whnf)) (hE0:∀  a1,G [] a1=E0 a1:=by (intros; conv=>lhs; whnf)) (ht:look sl t=some (.d (.l l.length xs)):=by rfl) (w:Wkn Γ f ⟨sl,hp⟩ (T 0 i1):=by exact wkn):WC Γ (.loop x) k ⟨sl,hp⟩:=by
 refine ZdE t ht (fun hl=>?_)
 refine ZaE (fun κ st=>∃ m a1,κ=l.length - m∧m≤l.length∧G (l.drop m) a1=z∧st=T m a1) (l.length - 0) (T 0 i1) w.wk ⟨0,_,rfl,Nat.zero_le _,hm,rfl⟩ ?_
 rintro κ _ ⟨m,a1,rfl,hle,hq,rfl⟩
 rcases Nat.lt_or_ge m l.length with h | h
 ·obtain ⟨x,hx,hdr⟩:=Zdw h
  rw [hdr,hE1] at hq
  exact f1 m a1 h ⟨n1 hl m a1 x h hx hq⟩
 ·rw [ZdG h,hE0] at hq
  exact f2 m a1 h ⟨n2 m a1 hq⟩
theorem jc2 {A1 A2:Type} {X:Option (Ctl R (A1 × A2))} {K:(A1 × A2)→Option R} {T:A1→A2→St} (hm:Ze X (fun mu=>Yz mu K)=some z) (ls bs:List Nat) (S:A1→A2→List (Nat × V)) (n1:∀ mu,Yz mu K=some z→X=some mu→WC Γ x (.cut (fun st=>∃ a1 a2,mu=.nxt (a1,a2)∧st=T a1 a2) k) ⟨sl,hp⟩) (n2:∀ a1 a2,K (a1,a2)=some z→WK Γ k .normal (T a1 a2)) (B:A1→A2→Hp:=fun _ _=>[]) (hk:∀ a1 a2,Ks sl hp ls bs (S a1 a2) (B a1 a2) (T a1 a2):=by (intros; exact ksx)):WC Γ x k ⟨sl,hp⟩:=by
 obtain ⟨mu,h1,h2⟩:=ZH hm
 refine YQ _ (n1 mu h2 h1) ?_
 rintro _ ⟨a1,a2,rfl,rfl⟩
 exact n2 _ _ h2
theorem jo2 {A1 A2:Type} {X:Option ((A1 × A2))} {K:(A1 × A2)→Option R} {T:A1→A2→St} (hm:Ze X K=some z) (ls bs:List Nat) (S:A1→A2→List (Nat × V)) (n1:∀ mu,K mu=some z→X=some mu→WC Γ x (.cut (fun st=>∃ a1 a2,mu=(a1,a2)∧st=T a1 a2) k) ⟨sl,hp⟩) (n2:∀ a1 a2,K (a1,a2)=some z→WK Γ k .normal (T a1 a2)) (B:A1→A2→Hp:=fun _ _=>[]) (hk:∀ a1 a2,Ks sl hp ls bs (S a1 a2) (B a1 a2) (T a1 a2):=by (intros; exact ksx)):WC Γ x k ⟨sl,hp⟩:=by
 obtain ⟨mu,h1,h2⟩:=ZH hm
 refine YQ _ (n1 mu h2 h1) ?_
 rintro _ ⟨a1,a2,rfl,rfl⟩
 exact n2 _ _ h2
theorem jp2 {A1 A2:Type} {X:(A1 × A2)} {K:(A1 × A2)→R} {T:A1→A2→St} (hm:bnd X K=z) (ls bs:List Nat) (S:A1→A2→List (Nat × V)) (n1:∀ mu,K mu=z→X=mu→WC Γ x (.cut (fun st=>∃ a1 a2,mu=(a1,a2)∧st=T a1 a2) k) ⟨sl,hp⟩) (n2:∀ a1 a2,K (a1,a2)=z→WK Γ k .normal (T a1 a2)) (B:A1→A2→Hp:=fun _ _=>[]) (hk:∀ a1 a2,Ks sl hp ls bs (S a1 a2) (B a1 a2) (T a1 a2):=by (intros; exact ksx)):WC Γ x k ⟨sl,hp⟩:=by
 obtain ⟨mu,h1,h2⟩:=Zao hm
 refine YQ _ (n1 mu h2 h1) ?_
 rintro _ ⟨a1,a2,rfl,rfl⟩
 exact n2 _ _ h2
theorem lf2 {A1 A2:Type} {G E:Nat→A1→A2→Option R} {i1:A1} {i2:A2} {T:A1→A2→St} (hm:G N i1 i2=some z) (ls bs:List Nat) (S:A1→A2→List (Nat × V)) (n1:∀ κ a1 a2,E κ a1 a2=some z→WC Γ x (.loop (fun κ st=>∃ a1 a2,G κ a1 a2=some z∧st=T a1 a2) (κ+1) k) (T a1 a2)) (B:A1→A2→Hp:=fun _ _=>[]) (hk:∀ a1 a2,Ks sl hp ls bs (S a1 a2) (B a1 a2) (T a1 a2):=by (intros; exact ksx)) (f:List (Nat × Nat):=idk (T i1 i2).hp) (hE:∀ κ a1 a2,G (κ+1) a1 a2=E κ a1 a2:=by (intros; conv=>lhs; whnf)) (h0:∀ a1 a2,G 0 a1 a2=none:=by (intros; rfl)) (w:Wkn Γ f ⟨sl,hp⟩ (T i1 i2):=by exact wkn):WC Γ (.loop x) k ⟨sl,hp⟩:=by
 refine ZaE (fun κ st=>∃ a1 a2,G κ a1 a2=some z∧st=T a1 a2) N (T i1 i2) w.wk ⟨_,_,hm,rfl⟩ ?_
 rintro κ _ ⟨a1,a2,hq,rfl⟩
 cases κ with
 | zero=>rw [h0] at hq; cases hq
 | succ κ=>rw [hE] at hq; exact n1 κ a1 a2 hq
theorem lr2 {A1 A2:Type} {G:List α→A1→A2→R} {E0:A1→A2→R} {E1:α→List α→A1→A2→R} {i1:A1} {i2:A2} {g1 g2:Nat→A1→A2→Prop} {T:Nat→A1→A2→St} (hm:G l i1 i2=z) (t:Nat) (ls bs:List Nat) (S:Nat→A1→A2→List (Nat × V)) (n1:l.length≤9223372036854775807→∀ m a1 a2 x,m<l.length→l[m]?=some x→E1 x (l.drop (m+1)) a1 a2=z→g1 m a1 a2) (n2:∀ (m:Nat) a1 a2,E0 a1 a2=z→g2 m a1 a2) (B:Nat→A1→A2→Hp:=fun _ _ _=>[]) (hk:∀ m a1 a2,Ks sl hp ls bs (S m a1 a2) (B m a1 a2) (T m a1 a2):=by (intros; exact ksx)) (f1:∀ m a1 a2,m<l.length→Wr (g1 m a1 a2)→WC Γ x (.loop (fun κ st=>∃ m a1 a2,κ=l.length - m∧m≤l.length∧G (l.drop m) a1 a2=z∧st=T m a1 a2) (l.length - m) k) (T m a1 a2):=by (intro m a1 a2 hlt w; refine ps ?_; (try refine Zg ?_); refine XB (Zos hlt) rfl ?_; exact w.out)) (f2:∀ m a1 a2,l.length≤m→Wr (g2 m a1 a2)→WC Γ x (.loop (fun κ st=>∃ m a1 a2,κ=l.length - m∧m≤l.length∧G (l.drop m) a1 a2=z∧st=T m a1 a2) (l.length - m) k) (T m a1 a2):=by (intro m a1 a2 hlt w; refine ps ?_; (try refine Zg ?_); refine XD (Zor hlt) rfl ?_; exact w.out)) (f:List (Nat × Nat):=idk (T 0 i1 i2).hp) (hE1:∀ x l a1 a2,G (x::l) a1 a2=E1 x l a1 a2:=by (intros; conv=>lhs; whnf)) (hE0:∀  a1 a2,G [] a1 a2=E0 a1 a2:=by (intros; conv=>lhs; whnf)) (ht:look sl t=some (.d (.l l.length xs)):=by rfl) (w:Wkn Γ f ⟨sl,hp⟩ (T 0 i1 i2):=by exact wkn):WC Γ (.loop x) k ⟨sl,hp⟩:=by
 refine ZdE t ht (fun hl=>?_)
 refine ZaE (fun κ st=>∃ m a1 a2,κ=l.length - m∧m≤l.length∧G (l.drop m) a1 a2=z∧st=T m a1 a2) (l.length - 0) (T 0 i1 i2) w.wk ⟨0,_,_,rfl,Nat.zero_le _,hm,rfl⟩ ?_
 rintro κ _ ⟨m,a1,a2,rfl,hle,hq,rfl⟩
 rcases Nat.lt_or_ge m l.length with h | h
 ·obtain ⟨x,hx,hdr⟩:=Zdw h
  rw [hdr,hE1] at hq
  exact f1 m a1 a2 h ⟨n1 hl m a1 a2 x h hx hq⟩
 ·rw [ZdG h,hE0] at hq
  exact f2 m a1 a2 h ⟨n2 m a1 a2 hq⟩
theorem jo3 {A1 A2 A3:Type} {X:Option ((A1 × A2 × A3))} {K:(A1 × A2 × A3)→Option R} {T:A1→A2→A3→St} (hm:Ze X K=some z) (ls bs:List Nat) (S:A1→A2→A3→List (Nat × V)) (n1:∀ mu,K mu=some z→X=some mu→WC Γ x (.cut (fun st=>∃ a1 a2 a3,mu=(a1,a2,a3)∧st=T a1 a2 a3) k) ⟨sl,hp⟩) (n2:∀ a1 a2 a3,K (a1,a2,a3)=some z→WK Γ k .normal (T a1 a2 a3)) (B:A1→A2→A3→Hp:=fun _ _ _=>[]) (hk:∀ a1 a2 a3,Ks sl hp ls bs (S a1 a2 a3) (B a1 a2 a3) (T a1 a2 a3):=by (intros; exact ksx)):WC Γ x k ⟨sl,hp⟩:=by
 obtain ⟨mu,h1,h2⟩:=ZH hm
 refine YQ _ (n1 mu h2 h1) ?_
 rintro _ ⟨a1,a2,a3,rfl,rfl⟩
 exact n2 _ _ _ h2
theorem lf3 {A1 A2 A3:Type} {G E:Nat→A1→A2→A3→Option R} {i1:A1} {i2:A2} {i3:A3} {T:A1→A2→A3→St} (hm:G N i1 i2 i3=some z) (ls bs:List Nat) (S:A1→A2→A3→List (Nat × V)) (n1:∀ κ a1 a2 a3,E κ a1 a2 a3=some z→WC Γ x (.loop (fun κ st=>∃ a1 a2 a3,G κ a1 a2 a3=some z∧st=T a1 a2 a3) (κ+1) k) (T a1 a2 a3)) (B:A1→A2→A3→Hp:=fun _ _ _=>[]) (hk:∀ a1 a2 a3,Ks sl hp ls bs (S a1 a2 a3) (B a1 a2 a3) (T a1 a2 a3):=by (intros; exact ksx)) (f:List (Nat × Nat):=idk (T i1 i2 i3).hp) (hE:∀ κ a1 a2 a3,G (κ+1) a1 a2 a3=E κ a1 a2 a3:=by (intros; conv=>lhs; whnf)) (h0:∀ a1 a2 a3,G 0 a1 a2 a3=none:=by (intros; rfl)) (w:Wkn Γ f ⟨sl,hp⟩ (T i1 i2 i3):=by exact wkn):WC Γ (.loop x) k ⟨sl,hp⟩:=by
 refine ZaE (fun κ st=>∃ a1 a2 a3,G κ a1 a2 a3=some z∧st=T a1 a2 a3) N (T i1 i2 i3) w.wk ⟨_,_,_,hm,rfl⟩ ?_
 rintro κ _ ⟨a1,a2,a3,hq,rfl⟩
 cases κ with
 | zero=>rw [h0] at hq; cases hq
 | succ κ=>rw [hE] at hq; exact n1 κ a1 a2 a3 hq
theorem lr3 {A1 A2 A3:Type} {G:List α→A1→A2→A3→R} {E0:A1→A2→A3→R} {E1:α→List α→A1→A2→A3→R} {i1:A1} {i2:A2} {i3:A3} {g1 g2:Nat→A1→A2→A3→Prop} {T:Nat→A1→A2→A3→St} (hm:G l i1 i2 i3=z) (t:Nat) (ls bs:List Nat) (S:Nat→A1→A2→A3→List (Nat × V)) (n1:l.length≤9223372036854775807→∀ m a1 a2 a3 x,m<l.length→l[m]?=some x→E1 x (l.drop (m+1)) a1 a2 a3=z→g1 m a1 a2 a3) (n2:∀ (m:Nat) a1 a2 a3,E0 a1 a2 a3=z→g2 m a1 a2 a3) (B:Nat→A1→A2→A3→Hp:=fun _ _ _ _=>[]) (hk:∀ m a1 a2 a3,Ks sl hp ls bs (S m a1 a2 a3) (B m a1 a2 a3) (T m a1 a2 a3):=by (intros; exact ksx)) (f1:∀ m a1 a2 a3,m<l.length→Wr (g1 m a1 a2 a3)→WC Γ x (.loop (fun κ st=>∃ m a1 a2 a3,κ=l.length - m∧m≤l.length∧G (l.drop m) a1 a2 a3=z∧st=T m a1 a2 a3) (l.length - m) k) (T m a1 a2 a3):=by (intro m a1 a2 a3 hlt w; refine ps ?_; (try refine Zg ?_); refine XB (Zos hlt) rfl ?_; exact w.out)) (f2:∀ m a1 a2 a3,l.length≤m→Wr (g2 m a1 a2 a3)→WC Γ x (.loop (fun κ st=>∃ m a1 a2 a3,κ=l.length - m∧m≤l.length∧G (l.drop m) a1 a2 a3=z∧st=T m a1 a2 a3) (l.length - m) k) (T m a1 a2 a3):=by (intro m a1 a2 a3 hlt w; refine ps ?_; (try refine Zg ?_); refine XD (Zor hlt) rfl ?_; exact w.out)) (f:List (Nat × Nat):=idk (T 0 i1 i2 i3).hp) (hE1:∀ x l a1 a2 a3,G (x::l) a1 a2 a3=E1 x l a1 a2 a3:=by (intros; conv=>lhs; whnf)) (hE0:∀  a1 a2 a3,G [] a1 a2 a3=E0 a1 a2 a3:=by (intros; conv=>lhs; whnf)) (ht:look sl t=some (.d (.l l.length xs)):=by rfl) (w:Wkn Γ f ⟨sl,hp⟩ (T 0 i1 i2 i3):=by exact wkn):WC Γ (.loop x) k ⟨sl,hp⟩:=by
 refine ZdE t ht (fun hl=>?_)
 refine ZaE (fun κ st=>∃ m a1 a2 a3,κ=l.length - m∧m≤l.length∧G (l.drop m) a1 a2 a3=z∧st=T m a1 a2 a3) (l.length - 0) (T 0 i1 i2 i3) w.wk ⟨0,_,_,_,rfl,Nat.zero_le _,hm,rfl⟩ ?_
 rintro κ _ ⟨m,a1,a2,a3,rfl,hle,hq,rfl⟩
 rcases Nat.lt_or_ge m l.length with h | h
 ·obtain ⟨x,hx,hdr⟩:=Zdw h
  rw [hdr,hE1] at hq
  exact f1 m a1 a2 a3 h ⟨n1 hl m a1 a2 a3 x h hx hq⟩
 ·rw [ZdG h,hE0] at hq
  exact f2 m a1 a2 a3 h ⟨n2 m a1 a2 a3 hq⟩
theorem lf4 {A1 A2 A3 A4:Type} {G E:Nat→A1→A2→A3→A4→Option R} {i1:A1} {i2:A2} {i3:A3} {i4:A4} {T:A1→A2→A3→A4→St} (hm:G N i1 i2 i3 i4=some z) (ls bs:List Nat) (S:A1→A2→A3→A4→List (Nat × V)) (n1:∀ κ a1 a2 a3 a4,E κ a1 a2 a3 a4=some z→WC Γ x (.loop (fun κ st=>∃ a1 a2 a3 a4,G κ a1 a2 a3 a4=some z∧st=T a1 a2 a3 a4) (κ+1) k) (T a1 a2 a3 a4)) (B:A1→A2→A3→A4→Hp:=fun _ _ _ _=>[]) (hk:∀ a1 a2 a3 a4,Ks sl hp ls bs (S a1 a2 a3 a4) (B a1 a2 a3 a4) (T a1 a2 a3 a4):=by (intros; exact ksx)) (f:List (Nat × Nat):=idk (T i1 i2 i3 i4).hp) (hE:∀ κ a1 a2 a3 a4,G (κ+1) a1 a2 a3 a4=E κ a1 a2 a3 a4:=by (intros; conv=>lhs; whnf)) (h0:∀ a1 a2 a3 a4,G 0 a1 a2 a3 a4=none:=by (intros; rfl)) (w:Wkn Γ f ⟨sl,hp⟩ (T i1 i2 i3 i4):=by exact wkn):WC Γ (.loop x) k ⟨sl,hp⟩:=by
 refine ZaE (fun κ st=>∃ a1 a2 a3 a4,G κ a1 a2 a3 a4=some z∧st=T a1 a2 a3 a4) N (T i1 i2 i3 i4) w.wk ⟨_,_,_,_,hm,rfl⟩ ?_
 rintro κ _ ⟨a1,a2,a3,a4,hq,rfl⟩
 cases κ with
 | zero=>rw [h0] at hq; cases hq
 | succ κ=>rw [hE] at hq; exact n1 κ a1 a2 a3 a4 hq
theorem jo5 {A1 A2 A3 A4 A5:Type} {X:Option ((A1 × A2 × A3 × A4 × A5))} {K:(A1 × A2 × A3 × A4 × A5)→Option R} {T:A1→A2→A3→A4→A5→St} (hm:Ze X K=some z) (ls bs:List Nat) (S:A1→A2→A3→A4→A5→List (Nat × V)) (n1:∀ mu,K mu=some z→X=some mu→WC Γ x (.cut (fun st=>∃ a1 a2 a3 a4 a5,mu=(a1,a2,a3,a4,a5)∧st=T a1 a2 a3 a4 a5) k) ⟨sl,hp⟩) (n2:∀ a1 a2 a3 a4 a5,K (a1,a2,a3,a4,a5)=some z→WK Γ k .normal (T a1 a2 a3 a4 a5)) (B:A1→A2→A3→A4→A5→Hp:=fun _ _ _ _ _=>[]) (hk:∀ a1 a2 a3 a4 a5,Ks sl hp ls bs (S a1 a2 a3 a4 a5) (B a1 a2 a3 a4 a5) (T a1 a2 a3 a4 a5):=by (intros; exact ksx)):WC Γ x k ⟨sl,hp⟩:=by
 obtain ⟨mu,h1,h2⟩:=ZH hm
 refine YQ _ (n1 mu h2 h1) ?_
 rintro _ ⟨a1,a2,a3,a4,a5,rfl,rfl⟩
 exact n2 _ _ _ _ _ h2
theorem lf6 {A1 A2 A3 A4 A5 A6:Type} {G E:Nat→A1→A2→A3→A4→A5→A6→Option R} {i1:A1} {i2:A2} {i3:A3} {i4:A4} {i5:A5} {i6:A6} {T:A1→A2→A3→A4→A5→A6→St} (hm:G N i1 i2 i3 i4 i5 i6=some z) (ls bs:List Nat) (S:A1→A2→A3→A4→A5→A6→List (Nat × V)) (n1:∀ κ a1 a2 a3 a4 a5 a6,E κ a1 a2 a3 a4 a5 a6=some z→WC Γ x (.loop (fun κ st=>∃ a1 a2 a3 a4 a5 a6,G κ a1 a2 a3 a4 a5 a6=some z∧st=T a1 a2 a3 a4 a5 a6) (κ+1) k) (T a1 a2 a3 a4 a5 a6)) (B:A1→A2→A3→A4→A5→A6→Hp:=fun _ _ _ _ _ _=>[]) (hk:∀ a1 a2 a3 a4 a5 a6,Ks sl hp ls bs (S a1 a2 a3 a4 a5 a6) (B a1 a2 a3 a4 a5 a6) (T a1 a2 a3 a4 a5 a6):=by (intros; exact ksx)) (f:List (Nat × Nat):=idk (T i1 i2 i3 i4 i5 i6).hp) (hE:∀ κ a1 a2 a3 a4 a5 a6,G (κ+1) a1 a2 a3 a4 a5 a6=E κ a1 a2 a3 a4 a5 a6:=by (intros; conv=>lhs; whnf)) (h0:∀ a1 a2 a3 a4 a5 a6,G 0 a1 a2 a3 a4 a5 a6=none:=by (intros; rfl)) (w:Wkn Γ f ⟨sl,hp⟩ (T i1 i2 i3 i4 i5 i6):=by exact wkn):WC Γ (.loop x) k ⟨sl,hp⟩:=by
 refine ZaE (fun κ st=>∃ a1 a2 a3 a4 a5 a6,G κ a1 a2 a3 a4 a5 a6=some z∧st=T a1 a2 a3 a4 a5 a6) N (T i1 i2 i3 i4 i5 i6) w.wk ⟨_,_,_,_,_,_,hm,rfl⟩ ?_
 rintro κ _ ⟨a1,a2,a3,a4,a5,a6,hq,rfl⟩
 cases κ with
 | zero=>rw [h0] at hq; cases hq
 | succ κ=>rw [hE] at hq; exact n1 κ a1 a2 a3 a4 a5 a6 hq
theorem jo7 {A1 A2 A3 A4 A5 A6 A7:Type} {X:Option ((A1 × A2 × A3 × A4 × A5 × A6 × A7))} {K:(A1 × A2 × A3 × A4 × A5 × A6 × A7)→Option R} {T:A1→A2→A3→A4→A5→A6→A7→St} (hm:Ze X K=some z) (ls bs:List Nat) (S:A1→A2→A3→A4→A5→A6→A7→List (Nat × V)) (n1:∀ mu,K mu=some z→X=some mu→WC Γ x (.cut (fun st=>∃ a1 a2 a3 a4 a5 a6 a7,mu=(a1,a2,a3,a4,a5,a6,a7)∧st=T a1 a2 a3 a4 a5 a6 a7) k) ⟨sl,hp⟩) (n2:∀ a1 a2 a3 a4 a5 a6 a7,K (a1,a2,a3,a4,a5,a6,a7)=some z→WK Γ k .normal (T a1 a2 a3 a4 a5 a6 a7)) (B:A1→A2→A3→A4→A5→A6→A7→Hp:=fun _ _ _ _ _ _ _=>[]) (hk:∀ a1 a2 a3 a4 a5 a6 a7,Ks sl hp ls bs (S a1 a2 a3 a4 a5 a6 a7) (B a1 a2 a3 a4 a5 a6 a7) (T a1 a2 a3 a4 a5 a6 a7):=by (intros; exact ksx)):WC Γ x k ⟨sl,hp⟩:=by
 obtain ⟨mu,h1,h2⟩:=ZH hm
 refine YQ _ (n1 mu h2 h1) ?_
 rintro _ ⟨a1,a2,a3,a4,a5,a6,a7,rfl,rfl⟩
 exact n2 _ _ _ _ _ _ _ h2
theorem lr7 {A1 A2 A3 A4 A5 A6 A7:Type} {G:List α→A1→A2→A3→A4→A5→A6→A7→R} {E0:A1→A2→A3→A4→A5→A6→A7→R} {E1:α→List α→A1→A2→A3→A4→A5→A6→A7→R} {i1:A1} {i2:A2} {i3:A3} {i4:A4} {i5:A5} {i6:A6} {i7:A7} {g1 g2:Nat→A1→A2→A3→A4→A5→A6→A7→Prop} {T:Nat→A1→A2→A3→A4→A5→A6→A7→St} (hm:G l i1 i2 i3 i4 i5 i6 i7=z) (t:Nat) (ls bs:List Nat) (S:Nat→A1→A2→A3→A4→A5→A6→A7→List (Nat × V)) (n1:l.length≤9223372036854775807→∀ m a1 a2 a3 a4 a5 a6 a7 x,m<l.length→l[m]?=some x→E1 x (l.drop (m+1)) a1 a2 a3 a4 a5 a6 a7=z→g1 m a1 a2 a3 a4 a5 a6 a7) (n2:∀ (m:Nat) a1 a2 a3 a4 a5 a6 a7,E0 a1 a2 a3 a4 a5 a6 a7=z→g2 m a1 a2 a3 a4 a5 a6 a7) (B:Nat→A1→A2→A3→A4→A5→A6→A7→Hp:=fun _ _ _ _ _ _ _ _=>[]) (hk:∀ m a1 a2 a3 a4 a5 a6 a7,Ks sl hp ls bs (S m a1 a2 a3 a4 a5 a6 a7) (B m a1 a2 a3 a4 a5 a6 a7) (T m a1 a2 a3 a4 a5 a6 a7):=by (intros; exact ksx)) (f1:∀ m a1 a2 a3 a4 a5 a6 a7,m<l.length→Wr (g1 m a1 a2 a3 a4 a5 a6 a7)→WC Γ x (.loop (fun κ st=>∃ m a1 a2 a3 a4 a5 a6 a7,κ=l.length - m∧m≤l.length∧G (l.drop m) a1 a2 a3 a4 a5 a6 a7=z∧st=T m a1 a2 a3 a4 a5 a6 a7) (l.length - m) k) (T m a1 a2 a3 a4 a5 a6 a7):=by (intro m a1 a2 a3 a4 a5 a6 a7 hlt w; refine ps ?_; (try refine Zg ?_); refine XB (Zos hlt) rfl ?_; exact w.out)) (f2:∀ m a1 a2 a3 a4 a5 a6 a7,l.length≤m→Wr (g2 m a1 a2 a3 a4 a5 a6 a7)→WC Γ x (.loop (fun κ st=>∃ m a1 a2 a3 a4 a5 a6 a7,κ=l.length - m∧m≤l.length∧G (l.drop m) a1 a2 a3 a4 a5 a6 a7=z∧st=T m a1 a2 a3 a4 a5 a6 a7) (l.length - m) k) (T m a1 a2 a3 a4 a5 a6 a7):=by (intro m a1 a2 a3 a4 a5 a6 a7 hlt w; refine ps ?_; (try refine Zg ?_); refine XD (Zor hlt) rfl ?_; exact w.out)) (f:List (Nat × Nat):=idk (T 0 i1 i2 i3 i4 i5 i6 i7).hp) (hE1:∀ x l a1 a2 a3 a4 a5 a6 a7,G (x::l) a1 a2 a3 a4 a5 a6 a7=E1 x l a1 a2 a3 a4 a5 a6 a7:=by (intros; conv=>lhs; whnf)) (hE0:∀  a1 a2 a3 a4 a5 a6 a7,G [] a1 a2 a3 a4 a5 a6 a7=E0 a1 a2 a3 a4 a5 a6 a7:=by (intros; conv=>lhs; whnf)) (ht:look sl t=some (.d (.l l.length xs)):=by rfl) (w:Wkn Γ f ⟨sl,hp⟩ (T 0 i1 i2 i3 i4 i5 i6 i7):=by exact wkn):WC Γ (.loop x) k ⟨sl,hp⟩:=by
 refine ZdE t ht (fun hl=>?_)
 refine ZaE (fun κ st=>∃ m a1 a2 a3 a4 a5 a6 a7,κ=l.length - m∧m≤l.length∧G (l.drop m) a1 a2 a3 a4 a5 a6 a7=z∧st=T m a1 a2 a3 a4 a5 a6 a7) (l.length - 0) (T 0 i1 i2 i3 i4 i5 i6 i7) w.wk ⟨0,_,_,_,_,_,_,_,rfl,Nat.zero_le _,hm,rfl⟩ ?_
 rintro κ _ ⟨m,a1,a2,a3,a4,a5,a6,a7,rfl,hle,hq,rfl⟩
 rcases Nat.lt_or_ge m l.length with h | h
 ·obtain ⟨x,hx,hdr⟩:=Zdw h
  rw [hdr,hE1] at hq
  exact f1 m a1 a2 a3 a4 a5 a6 a7 h ⟨n1 hl m a1 a2 a3 a4 a5 a6 a7 x h hx hq⟩
 ·rw [ZdG h,hE0] at hq
  exact f2 m a1 a2 a3 a4 a5 a6 a7 h ⟨n2 m a1 a2 a3 a4 a5 a6 a7 hq⟩
theorem jc8 {A1 A2 A3 A4 A5 A6 A7 A8:Type} {X:Option (Ctl R (A1 × A2 × A3 × A4 × A5 × A6 × A7 × A8))} {K:(A1 × A2 × A3 × A4 × A5 × A6 × A7 × A8)→Option R} {T:A1→A2→A3→A4→A5→A6→A7→A8→St} (hm:Ze X (fun mu=>Yz mu K)=some z) (ls bs:List Nat) (S:A1→A2→A3→A4→A5→A6→A7→A8→List (Nat × V)) (n1:∀ mu,Yz mu K=some z→X=some mu→WC Γ x (.cut (fun st=>∃ a1 a2 a3 a4 a5 a6 a7 a8,mu=.nxt (a1,a2,a3,a4,a5,a6,a7,a8)∧st=T a1 a2 a3 a4 a5 a6 a7 a8) k) ⟨sl,hp⟩) (n2:∀ a1 a2 a3 a4 a5 a6 a7 a8,K (a1,a2,a3,a4,a5,a6,a7,a8)=some z→WK Γ k .normal (T a1 a2 a3 a4 a5 a6 a7 a8)) (B:A1→A2→A3→A4→A5→A6→A7→A8→Hp:=fun _ _ _ _ _ _ _ _=>[]) (hk:∀ a1 a2 a3 a4 a5 a6 a7 a8,Ks sl hp ls bs (S a1 a2 a3 a4 a5 a6 a7 a8) (B a1 a2 a3 a4 a5 a6 a7 a8) (T a1 a2 a3 a4 a5 a6 a7 a8):=by (intros; exact ksx)):WC Γ x k ⟨sl,hp⟩:=by
 obtain ⟨mu,h1,h2⟩:=ZH hm
 refine YQ _ (n1 mu h2 h1) ?_
 rintro _ ⟨a1,a2,a3,a4,a5,a6,a7,a8,rfl,rfl⟩
 exact n2 _ _ _ _ _ _ _ _ h2
theorem jo8 {A1 A2 A3 A4 A5 A6 A7 A8:Type} {X:Option ((A1 × A2 × A3 × A4 × A5 × A6 × A7 × A8))} {K:(A1 × A2 × A3 × A4 × A5 × A6 × A7 × A8)→Option R} {T:A1→A2→A3→A4→A5→A6→A7→A8→St} (hm:Ze X K=some z) (ls bs:List Nat) (S:A1→A2→A3→A4→A5→A6→A7→A8→List (Nat × V)) (n1:∀ mu,K mu=some z→X=some mu→WC Γ x (.cut (fun st=>∃ a1 a2 a3 a4 a5 a6 a7 a8,mu=(a1,a2,a3,a4,a5,a6,a7,a8)∧st=T a1 a2 a3 a4 a5 a6 a7 a8) k) ⟨sl,hp⟩) (n2:∀ a1 a2 a3 a4 a5 a6 a7 a8,K (a1,a2,a3,a4,a5,a6,a7,a8)=some z→WK Γ k .normal (T a1 a2 a3 a4 a5 a6 a7 a8)) (B:A1→A2→A3→A4→A5→A6→A7→A8→Hp:=fun _ _ _ _ _ _ _ _=>[]) (hk:∀ a1 a2 a3 a4 a5 a6 a7 a8,Ks sl hp ls bs (S a1 a2 a3 a4 a5 a6 a7 a8) (B a1 a2 a3 a4 a5 a6 a7 a8) (T a1 a2 a3 a4 a5 a6 a7 a8):=by (intros; exact ksx)):WC Γ x k ⟨sl,hp⟩:=by
 obtain ⟨mu,h1,h2⟩:=ZH hm
 refine YQ _ (n1 mu h2 h1) ?_
 rintro _ ⟨a1,a2,a3,a4,a5,a6,a7,a8,rfl,rfl⟩
 exact n2 _ _ _ _ _ _ _ _ h2
end
end Go.Proofs.YtkcmgbbopedacaaGreatDoor
