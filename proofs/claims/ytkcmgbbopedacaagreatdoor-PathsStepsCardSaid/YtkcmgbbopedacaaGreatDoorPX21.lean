/-
  Lemmas: Plain laws of the models
-/
import Derived.Test.YtkcmgbbopedacaaGreatDoorPX10
import Derived.Test.YtkcmgbbopedacaaGreatDoorPX12
import Derived.Test.YtkcmgbbopedacaaGreatDoorPX14
import Derived.Test.YtkcmgbbopedacaaGreatDoorPX18
import Derived.Test.YtkcmgbbopedacaaGreatDoorPX20
set_option linter.unusedSimpArgs false
set_option linter.unusedVariables false
namespace Go.Proofs.YtkcmgbbopedacaaGreatDoor
open Go.RowKit
attribute [local irreducible] WK WC WL Wk Rel OpD OpV WD WO Op.bytesLess cmp vk vb vld emp contains
set_option maxHeartbeats 4000000 in
instance Zux (k c:Int) (l:List Rng) (key:ByteArray):Ct Tryz.prog 78 [vQ k l key c] (l.length<1000000) (vI (Zcb k l key c)):=⟨fun hl=>by
 refine Spec.intro Tryz.func78 rfl rfl Tryz.ntmps78 Tryz.results78 rfl fun B w0 ρ0=>?_; simp only [slots,List.map_nil,List.map_cons,Nat.reduceAdd]
 (repeat' (first | refine sw ?_ | (refine swt ?_; intro x τ hx) | (refine sp ?_ ?_ <;> (intro h; (first | (have h2:(_:Bool)=_:=h; clear h2; subst h) | skip); (try simp only [decide_eq_true_eq,decide_eq_false_iff_not,Bool.not_eq_true',Bool.not_eq_false',Kv.eta,Bnd.eta,Rng.eta,Xc] at h); (first | (have h2:(_:Bool)=_:=h; clear h2; subst h) | skip))) | fail))
 all_goals (try ((first | refine Y0 rfl (by first | exact trivial | exact Zv rfl rfl (by exact inferInstance) trivial) rfl (by first | exact Vw.fmp rfl rfl rfl | exact Vw.nil | exact Vw.d _ | (repeat (first | exact Vws.nil | apply Vws.cons | exact Vw.nil | exact Vw.d _ | apply Vw.a | apply Vw.t | exact Vw.fh rfl rfl (Zd _) | exact Vw.fh rfl rfl Vws.nil)); done) ?_ | refine Yd rfl (by first | exact trivial | exact Zv rfl rfl (by exact inferInstance) trivial) rfl (by first | exact Vw.fmp rfl rfl rfl | exact Vw.nil | exact Vw.d _ | (repeat (first | exact Vws.nil | apply Vws.cons | exact Vw.nil | exact Vw.d _ | apply Vw.a | apply Vw.t | exact Vw.fh rfl rfl (Zd _) | exact Vw.fh rfl rfl Vws.nil)); done) ?_); refine ⟨?_,rfl⟩; (try simp only [Bool.not_eq_true,Bool.not_eq_false,decide_eq_true_eq,decide_eq_false_iff_not] at *); first | (simp_all [Zcb]; done) | (simp_all [Zcb] <;> omega) | grind [Zcb]))
 refine Za2 (fun κ st=>∃ (m:Nat),κ=l.length - m∧(m≤l.length∧∀ j (h:j<l.length),j<m→vld l[j]=true)∧st=⟨[(1,.p 101 0),(19,.d (lst Rng.ds l)),(20,vI l.length),(21,vI (m:Int))],[(101,some (.box 41 [vI k,.d (lst Rng.ds l),vS key,vI c]))]⟩) (l.length - (0)) ⟨[(1,.p 101 0),(19,.d (lst Rng.ds l)),(20,vI l.length),(21,vI ((0):Int))],[(101,some (.box 41 [vI k,.d (lst Rng.ds l),vS key,vI c]))]⟩ (wk [(101,101)] rfl rfl rfl rfl (by repeat (first | refine VH.cons rfl rfl YX ?_ | refine VH.cons0 ?_ | refine VH.cons rfl rfl (Vb.ob _) ?_ | exact VS.nil | exact VH.nil | exact Vws.nil | refine VS.cons rfl ?_ ?_ | refine VH.cons rfl rfl (Vb.box ?_) ?_ | refine VH.cons rfl rfl (Vb.arr ?_) ?_ | exact Zd _ | refine Vws.cons ?_ ?_ | exact Vw.d _ | exact Vw.p rfl | exact Vw.h rfl | exact Vw.e rfl | exact Vw.s rfl | exact Vw.q _ | refine Vw.a ?_ | refine Vw.t ?_ | exact Vw.nil | exact Vw.fh rfl rfl (Zd _) | exact Vw.fe rfl rfl (Zd _) (QV (by assumption)) | exact Vw.fe rfl rfl (Zd _) (YW (by assumption)) | refine Vw.fp0 rfl rfl ?_ | exact Vw.mp rfl | refine VH.cons rfl rfl (Vb.mt _ _) ?_ | exact Vw.sc rfl | exact Vw.un _)) (by repeat (first | refine VH.cons rfl rfl YX ?_ | refine VH.cons0 ?_ | refine VH.cons rfl rfl (Vb.ob _) ?_ | exact VS.nil | exact VH.nil | exact Vws.nil | refine VS.cons rfl ?_ ?_ | refine VH.cons rfl rfl (Vb.box ?_) ?_ | refine VH.cons rfl rfl (Vb.arr ?_) ?_ | exact Zd _ | refine Vws.cons ?_ ?_ | exact Vw.d _ | exact Vw.p rfl | exact Vw.h rfl | exact Vw.e rfl | exact Vw.s rfl | exact Vw.q _ | refine Vw.a ?_ | refine Vw.t ?_ | exact Vw.nil | exact Vw.fh rfl rfl (Zd _) | exact Vw.fe rfl rfl (Zd _) (QV (by assumption)) | exact Vw.fe rfl rfl (Zd _) (YW (by assumption)) | refine Vw.fp0 rfl rfl ?_ | exact Vw.mp rfl | refine VH.cons rfl rfl (Vb.mt _ _) ?_ | exact Vw.sc rfl | exact Vw.un _))) ⟨0,rfl,?_,rfl⟩ ?_; rotate_left; rintro κ _ ⟨m,rfl,hP,rfl⟩; rotate_left
 ·exact ⟨by omega,fun j _ h=>by omega⟩
 obtain ⟨hm,hP⟩:=hP
 (repeat' (first | refine sw ?_ | (refine swt ?_; intro x τ hx) | (refine sp ?_ ?_ <;> (intro h; (first | (have h2:(_:Bool)=_:=h; clear h2; subst h) | skip); (try simp only [decide_eq_true_eq,decide_eq_false_iff_not,Bool.not_eq_true',Bool.not_eq_false',Kv.eta,Bnd.eta,Rng.eta,Xc] at h); (first | (have h2:(_:Bool)=_:=h; clear h2; subst h) | skip))) | fail))
 all_goals (try (have hA:=ZqH hP (by omega)))
 all_goals (try (have hA:=Znd (p:=vld) (l:=l) (m:=m) (by omega) (by simp only [Rng.eta, *]; rfl)))
 all_goals (try ((first | refine Y0 rfl (by first | exact trivial | exact Zv rfl rfl (by exact inferInstance) trivial) rfl (by first | exact Vw.fmp rfl rfl rfl | exact Vw.nil | exact Vw.d _ | (repeat (first | exact Vws.nil | apply Vws.cons | exact Vw.nil | exact Vw.d _ | apply Vw.a | apply Vw.t | exact Vw.fh rfl rfl (Zd _) | exact Vw.fh rfl rfl Vws.nil)); done) ?_ | refine Yd rfl (by first | exact trivial | exact Zv rfl rfl (by exact inferInstance) trivial) rfl (by first | exact Vw.fmp rfl rfl rfl | exact Vw.nil | exact Vw.d _ | (repeat (first | exact Vws.nil | apply Vws.cons | exact Vw.nil | exact Vw.d _ | apply Vw.a | apply Vw.t | exact Vw.fh rfl rfl (Zd _) | exact Vw.fh rfl rfl Vws.nil)); done) ?_); refine ⟨?_,rfl⟩; (try simp only [Bool.not_eq_true,Bool.not_eq_false,decide_eq_true_eq,decide_eq_false_iff_not] at *); first | (simp_all [Zcb]; done) | (simp_all [Zcb] <;> omega) | grind [Zcb]))
 refine ZaS (l.length - (m+1)) (st':=⟨[(1,.p 101 0),(19,.d (lst Rng.ds l)),(20,vI l.length),(21,vI ((m+1):Int))],[(101,some (.box 41 [vI k,.d (lst Rng.ds l),vS key,vI c]))]⟩) (wk [(101,101)] rfl rfl rfl rfl (by repeat (first | refine VH.cons rfl rfl YX ?_ | refine VH.cons0 ?_ | refine VH.cons rfl rfl (Vb.ob _) ?_ | exact VS.nil | exact VH.nil | exact Vws.nil | refine VS.cons rfl ?_ ?_ | refine VH.cons rfl rfl (Vb.box ?_) ?_ | refine VH.cons rfl rfl (Vb.arr ?_) ?_ | exact Zd _ | refine Vws.cons ?_ ?_ | exact Vw.d _ | exact Vw.p rfl | exact Vw.h rfl | exact Vw.e rfl | exact Vw.s rfl | exact Vw.q _ | refine Vw.a ?_ | refine Vw.t ?_ | exact Vw.nil | exact Vw.fh rfl rfl (Zd _) | exact Vw.fe rfl rfl (Zd _) (QV (by assumption)) | exact Vw.fe rfl rfl (Zd _) (YW (by assumption)) | refine Vw.fp0 rfl rfl ?_ | exact Vw.mp rfl | refine VH.cons rfl rfl (Vb.mt _ _) ?_ | exact Vw.sc rfl | exact Vw.un _)) (by repeat (first | refine VH.cons rfl rfl YX ?_ | refine VH.cons0 ?_ | refine VH.cons rfl rfl (Vb.ob _) ?_ | exact VS.nil | exact VH.nil | exact Vws.nil | refine VS.cons rfl ?_ ?_ | refine VH.cons rfl rfl (Vb.box ?_) ?_ | refine VH.cons rfl rfl (Vb.arr ?_) ?_ | exact Zd _ | refine Vws.cons ?_ ?_ | exact Vw.d _ | exact Vw.p rfl | exact Vw.h rfl | exact Vw.e rfl | exact Vw.s rfl | exact Vw.q _ | refine Vw.a ?_ | refine Vw.t ?_ | exact Vw.nil | exact Vw.fh rfl rfl (Zd _) | exact Vw.fe rfl rfl (Zd _) (QV (by assumption)) | exact Vw.fe rfl rfl (Zd _) (YW (by assumption)) | refine Vw.fp0 rfl rfl ?_ | exact Vw.mp rfl | refine VH.cons rfl rfl (Vb.mt _ _) ?_ | exact Vw.sc rfl | exact Vw.un _))) ?_ ⟨m+1,rfl,?_,rfl⟩
 ·omega
 ·refine ⟨by omega,fun j h1 h2=>?_⟩
  by_cases e:j=m
  ·subst e; assumption
  ·exact hP j h1 (by omega)⟩
end Go.Proofs.YtkcmgbbopedacaaGreatDoor
namespace Go.Proofs.YtkcmgbbopedacaaGreatDoor
open Go.RowKit
def mks:List (Value × Value):=[(.int .i64 1,.func (.func 217) #[] #[]),(.int .i64 2,.func (.func 218) #[] #[]),(.int .i64 3,.func (.func 220) #[] #[]),(.int .i64 4,.func (.func 221) #[] #[])]
theorem ZrU (k:Int):ZhU (Zln .nilFunc k mks)=decide (k<1∨4<k):=by
 simp only [mks,Zln]
 repeat' split
 all_goals (simp only [ZhU]; symm; first | (rw [decide_eq_false]; omega) | (rw [decide_eq_true]; omega))
theorem ZtV (k:Int):Zst (Zln .nilFunc k mks)=true:=by
 simp only [mks,Zln]
 repeat' split
 all_goals rfl
attribute [local irreducible] WK WC WL Wk Rel OpD OpV WD WO Op.bytesLess cmp vk vb vld emp contains
instance Zuf:Ct Tryz.prog 190 [] True (.d (.m mks)):=⟨fun _=>by
 refine Spec.intro Tryz.func190 rfl rfl Tryz.ntmps190 Tryz.results190 rfl fun B w0 ρ0=>?_; simp only [slots,List.map_nil,List.map_cons,Nat.reduceAdd]
 (repeat' (first | refine sw ?_ | (refine swt ?_; intro x τ hx) | (refine sp ?_ ?_ <;> (intro h; (first | (have h2:(_:Bool)=_:=h; clear h2; subst h) | skip); (try simp only [decide_eq_true_eq,decide_eq_false_iff_not,Bool.not_eq_true',Bool.not_eq_false',Kv.eta,Bnd.eta,Rng.eta,Xc] at h); (first | (have h2:(_:Bool)=_:=h; clear h2; subst h) | skip))) | fail))
 all_goals (first | refine Y0 rfl (by first | exact trivial | exact Zv rfl rfl (by exact inferInstance) trivial) rfl (by first | exact Vw.fmp rfl rfl rfl | exact Vw.nil | exact Vw.d _ | (repeat (first | exact Vws.nil | apply Vws.cons | exact Vw.nil | exact Vw.d _ | apply Vw.a | apply Vw.t | exact Vw.fh rfl rfl (Zd _) | exact Vw.fh rfl rfl Vws.nil)); done) ?_ | refine Yd rfl (by first | exact trivial | exact Zv rfl rfl (by exact inferInstance) trivial) rfl (by first | exact Vw.fmp rfl rfl rfl | exact Vw.nil | exact Vw.d _ | (repeat (first | exact Vws.nil | apply Vws.cons | exact Vw.nil | exact Vw.d _ | apply Vw.a | apply Vw.t | exact Vw.fh rfl rfl (Zd _) | exact Vw.fh rfl rfl Vws.nil)); done) ?_)
 all_goals exact ⟨rfl,rfl⟩⟩
set_option maxHeartbeats 4000000 in
instance ZpG (k c:Int) (l:List Rng) (key:ByteArray):Ct Tryz.prog 136 [vQ k l key c] (l.length<1000000) (vI (Zcb k l key c)):=⟨fun hl=>by
 have hmk:=ZrU k
 have hfn:=ZtV k
 refine Spec.intro Tryz.func136 rfl rfl Tryz.ntmps136 Tryz.results136 rfl fun B w0 ρ0=>?_; simp only [slots,List.map_nil,List.map_cons,Nat.reduceAdd]
 (repeat' (first | refine sw ?_ | refine ZC (id:=1) [⟨1,0,[1]⟩,⟨2,2,[6]⟩,⟨0,0,[]⟩,⟨3,7,[5,7]⟩,⟨4,15,[8]⟩] mixed (by kernel_rfl) ?_ | (refine swt ?_; intro x τ hx) | (refine sp ?_ ?_ <;> (intro h; (first | (have h2:(_:Bool)=_:=h; clear h2; subst h) | skip); (try simp only [decide_eq_true_eq,decide_eq_false_iff_not,Bool.not_eq_true',Bool.not_eq_false',Kv.eta,Bnd.eta,Rng.eta,Xc] at h); (first | (have h2:(_:Bool)=_:=h; clear h2; subst h) | skip))) | fail))
 all_goals (try simp only [hmk,decide_eq_true_eq,decide_eq_false_iff_not] at *)
 all_goals (try ((first | refine Y0 rfl (by first | exact trivial | exact Zv rfl rfl (by exact inferInstance) trivial) rfl (by first | exact Vw.fmp rfl rfl rfl | exact Vw.nil | exact Vw.d _ | (repeat (first | exact Vws.nil | apply Vws.cons | exact Vw.nil | exact Vw.d _ | apply Vw.a | apply Vw.t | exact Vw.fh rfl rfl (Zd _) | exact Vw.fh rfl rfl Vws.nil)); done) ?_ | refine Yd rfl (by first | exact trivial | exact Zv rfl rfl (by exact inferInstance) trivial) rfl (by first | exact Vw.fmp rfl rfl rfl | exact Vw.nil | exact Vw.d _ | (repeat (first | exact Vws.nil | apply Vws.cons | exact Vw.nil | exact Vw.d _ | apply Vw.a | apply Vw.t | exact Vw.fh rfl rfl (Zd _) | exact Vw.fh rfl rfl Vws.nil)); done) ?_); refine ⟨?_,rfl⟩; (try simp only [Bool.not_eq_true,Bool.not_eq_false,decide_eq_true_eq,decide_eq_false_iff_not] at *); first | (simp_all [Zcb]; done) | (simp_all [Zcb] <;> omega) | grind [Zcb]))
 refine Za2 (fun κ st=>∃ (m:Nat),κ=l.length - m∧(m≤l.length∧∀ j (h:j<l.length),j<m→vld l[j]=true)∧st=⟨[(1,.p 101 0),(15,.d (lst Rng.ds l)),(16,vI l.length),(17,vI (m:Int))],[(101,some (.box 41 [vI k,.d (lst Rng.ds l),vS key,vI c]))]⟩) (l.length - (0)) ⟨[(1,.p 101 0),(15,.d (lst Rng.ds l)),(16,vI l.length),(17,vI ((0):Int))],[(101,some (.box 41 [vI k,.d (lst Rng.ds l),vS key,vI c]))]⟩ (wk [(101,101)] rfl rfl rfl rfl (by repeat (first | refine VH.cons rfl rfl YX ?_ | refine VH.cons0 ?_ | refine VH.cons rfl rfl (Vb.ob _) ?_ | exact VS.nil | exact VH.nil | exact Vws.nil | refine VS.cons rfl ?_ ?_ | refine VH.cons rfl rfl (Vb.box ?_) ?_ | refine VH.cons rfl rfl (Vb.arr ?_) ?_ | exact Zd _ | refine Vws.cons ?_ ?_ | exact Vw.d _ | exact Vw.p rfl | exact Vw.h rfl | exact Vw.e rfl | exact Vw.s rfl | exact Vw.q _ | refine Vw.a ?_ | refine Vw.t ?_ | exact Vw.nil | exact Vw.fh rfl rfl (Zd _) | exact Vw.fe rfl rfl (Zd _) (QV (by assumption)) | exact Vw.fe rfl rfl (Zd _) (YW (by assumption)) | refine Vw.fp0 rfl rfl ?_ | exact Vw.mp rfl | refine VH.cons rfl rfl (Vb.mt _ _) ?_ | exact Vw.sc rfl | exact Vw.un _)) (by repeat (first | refine VH.cons rfl rfl YX ?_ | refine VH.cons0 ?_ | refine VH.cons rfl rfl (Vb.ob _) ?_ | exact VS.nil | exact VH.nil | exact Vws.nil | refine VS.cons rfl ?_ ?_ | refine VH.cons rfl rfl (Vb.box ?_) ?_ | refine VH.cons rfl rfl (Vb.arr ?_) ?_ | exact Zd _ | refine Vws.cons ?_ ?_ | exact Vw.d _ | exact Vw.p rfl | exact Vw.h rfl | exact Vw.e rfl | exact Vw.s rfl | exact Vw.q _ | refine Vw.a ?_ | refine Vw.t ?_ | exact Vw.nil | exact Vw.fh rfl rfl (Zd _) | exact Vw.fe rfl rfl (Zd _) (QV (by assumption)) | exact Vw.fe rfl rfl (Zd _) (YW (by assumption)) | refine Vw.fp0 rfl rfl ?_ | exact Vw.mp rfl | refine VH.cons rfl rfl (Vb.mt _ _) ?_ | exact Vw.sc rfl | exact Vw.un _))) ⟨0,rfl,?_,rfl⟩ ?_; rotate_left; rintro κ _ ⟨m,rfl,hP,rfl⟩; rotate_left
 ·exact ⟨by omega,fun j _ h=>by omega⟩
 obtain ⟨hm,hP⟩:=hP
 (repeat' (first | refine sw ?_ | refine ZC (id:=1) [⟨1,0,[1]⟩,⟨2,2,[6]⟩,⟨0,0,[]⟩,⟨3,7,[5,7]⟩,⟨4,15,[8]⟩] mixed (by kernel_rfl) ?_ | (refine swt ?_; intro x τ hx) | (refine sp ?_ ?_ <;> (intro h; (first | (have h2:(_:Bool)=_:=h; clear h2; subst h) | skip); (try simp only [decide_eq_true_eq,decide_eq_false_iff_not,Bool.not_eq_true',Bool.not_eq_false',Kv.eta,Bnd.eta,Rng.eta,Xc] at h); (first | (have h2:(_:Bool)=_:=h; clear h2; subst h) | skip))) | fail))
 all_goals (try (have hA:=ZqH hP (by omega)))
 all_goals (try (have hA:=Znd (p:=vld) (l:=l) (m:=m) (by omega) (by simp only [Rng.eta, *]; rfl)))
 all_goals (try ((first | refine Y0 rfl (by first | exact trivial | exact Zv rfl rfl (by exact inferInstance) trivial) rfl (by first | exact Vw.fmp rfl rfl rfl | exact Vw.nil | exact Vw.d _ | (repeat (first | exact Vws.nil | apply Vws.cons | exact Vw.nil | exact Vw.d _ | apply Vw.a | apply Vw.t | exact Vw.fh rfl rfl (Zd _) | exact Vw.fh rfl rfl Vws.nil)); done) ?_ | refine Yd rfl (by first | exact trivial | exact Zv rfl rfl (by exact inferInstance) trivial) rfl (by first | exact Vw.fmp rfl rfl rfl | exact Vw.nil | exact Vw.d _ | (repeat (first | exact Vws.nil | apply Vws.cons | exact Vw.nil | exact Vw.d _ | apply Vw.a | apply Vw.t | exact Vw.fh rfl rfl (Zd _) | exact Vw.fh rfl rfl Vws.nil)); done) ?_); refine ⟨?_,rfl⟩; (try simp only [Bool.not_eq_true,Bool.not_eq_false,decide_eq_true_eq,decide_eq_false_iff_not] at *); first | (simp_all [Zcb]; done) | (simp_all [Zcb] <;> omega) | grind [Zcb]))
 refine ZaS (l.length - (m+1)) (st':=⟨[(1,.p 101 0),(15,.d (lst Rng.ds l)),(16,vI l.length),(17,vI ((m+1):Int))],[(101,some (.box 41 [vI k,.d (lst Rng.ds l),vS key,vI c]))]⟩) (wk [(101,101)] rfl rfl rfl rfl (by repeat (first | refine VH.cons rfl rfl YX ?_ | refine VH.cons0 ?_ | refine VH.cons rfl rfl (Vb.ob _) ?_ | exact VS.nil | exact VH.nil | exact Vws.nil | refine VS.cons rfl ?_ ?_ | refine VH.cons rfl rfl (Vb.box ?_) ?_ | refine VH.cons rfl rfl (Vb.arr ?_) ?_ | exact Zd _ | refine Vws.cons ?_ ?_ | exact Vw.d _ | exact Vw.p rfl | exact Vw.h rfl | exact Vw.e rfl | exact Vw.s rfl | exact Vw.q _ | refine Vw.a ?_ | refine Vw.t ?_ | exact Vw.nil | exact Vw.fh rfl rfl (Zd _) | exact Vw.fe rfl rfl (Zd _) (QV (by assumption)) | exact Vw.fe rfl rfl (Zd _) (YW (by assumption)) | refine Vw.fp0 rfl rfl ?_ | exact Vw.mp rfl | refine VH.cons rfl rfl (Vb.mt _ _) ?_ | exact Vw.sc rfl | exact Vw.un _)) (by repeat (first | refine VH.cons rfl rfl YX ?_ | refine VH.cons0 ?_ | refine VH.cons rfl rfl (Vb.ob _) ?_ | exact VS.nil | exact VH.nil | exact Vws.nil | refine VS.cons rfl ?_ ?_ | refine VH.cons rfl rfl (Vb.box ?_) ?_ | refine VH.cons rfl rfl (Vb.arr ?_) ?_ | exact Zd _ | refine Vws.cons ?_ ?_ | exact Vw.d _ | exact Vw.p rfl | exact Vw.h rfl | exact Vw.e rfl | exact Vw.s rfl | exact Vw.q _ | refine Vw.a ?_ | refine Vw.t ?_ | exact Vw.nil | exact Vw.fh rfl rfl (Zd _) | exact Vw.fe rfl rfl (Zd _) (QV (by assumption)) | exact Vw.fe rfl rfl (Zd _) (YW (by assumption)) | refine Vw.fp0 rfl rfl ?_ | exact Vw.mp rfl | refine VH.cons rfl rfl (Vb.mt _ _) ?_ | exact Vw.sc rfl | exact Vw.un _))) ?_ ⟨m+1,rfl,?_,rfl⟩
 ·omega
 ·refine ⟨by omega,fun j h1 h2=>?_⟩
  by_cases e:j=m
  ·subst e; assumption
  ·exact hP j h1 (by omega)⟩
end Go.Proofs.YtkcmgbbopedacaaGreatDoor
namespace Go.Proofs.YtkcmgbbopedacaaGreatDoor
open Go.RowKit
def qrs (k:Int) (l:List Rng) (key:ByteArray):List Rng:=if k=1 then l else if k=2 then [pfx key] else if k=3 then [⟨⟨key,false⟩,⟨⟨#[]⟩,true⟩⟩] else [⟨⟨⟨#[]⟩,false⟩,⟨key,false⟩⟩]
def YC (k:Int) (l:List Rng) (key:ByteArray) (c:Int):List Rng:=if Zcb k l key c=0 then union (qrs k l key) else []
theorem Zkd {k c:Int} {l:List Rng} {key:ByteArray} (h:Zcb k l key c=0):(k=1∨k=2∨k=3∨k=4)∧(k≠1→l=[])∧l.length≤64:=by
 unfold Zcb at h
 by_cases a1:k<1∨4<k
 ·simp [a1] at h
 by_cases a2:64<l.length
 ·simp [a1,a2] at h
 by_cases a3:l.all vld=false
 ·rw [if_neg a1,if_neg a2,if_pos a3] at h; omega
 by_cases a4:vk key=false∨(0<l.length∧k≠1)∨(key≠⟨#[]⟩∧k=1)
 ·rw [if_neg a1,if_neg a2,if_neg a3,if_pos a4] at h; omega
 exact ⟨by omega,fun h1=>List.eq_nil_of_length_eq_zero (Nat.eq_zero_of_not_pos fun h2=>a4 (.inr (.inl ⟨h2,h1⟩))),by omega⟩
theorem Zjr:∀ (l:List Rng) (c:Rng),(mrg c l).length≤l.length+1
 | [],c=>by simp [mrg]
 | r::l,c=>by
  unfold mrg
  split
  ·have:=Zjr l ⟨c.lo,greater c.hi r.hi⟩
   simp; omega
  ·have:=Zjr l r
   simp; omega
theorem ZnH (l:List Rng):(union l).length≤l.length:=by
 unfold union
 have h1:((l.filter ne).mergeSort ZeS).length≤l.length:=by rw [List.length_mergeSort]; exact List.length_filter_le _ _
 cases h:(l.filter ne).mergeSort ZeS with
 | nil=>simp [ZdB]
 | cons r l' =>
  rw [h] at h1
  have:=Zjr l' r
  simp only [ZdB,List.length_cons] at h1 ⊢
  omega
theorem Zgn (k:Int) (l:List Rng) (key:ByteArray) (c:Int):(YC k l key c).length≤64:=by
 unfold YC
 split
 ·rename_i h
  have hq:=Zkd h
  refine Nat.le_trans (ZnH _) ?_
  unfold qrs
  split
  ·exact hq.2.2
  split
  ·simp
  split <;> simp
 ·simp
end Go.Proofs.YtkcmgbbopedacaaGreatDoor
namespace Go.Proofs.YtkcmgbbopedacaaGreatDoor
open Go.RowKit
attribute [local irreducible] WK WC WL Wk Rel OpD OpV WD WO Op.bytesLess cmp vk vb vld emp contains
attribute [local irreducible] union pfx
instance ZuA (k c:Int) (l:List Rng) (key:ByteArray):Ct Tryz.prog 217 [vQ k l key c] True (.d (lst Rng.ds l)):=⟨fun _=>by
 refine Spec.intro Tryz.func217 rfl rfl Tryz.ntmps217 Tryz.results217 rfl fun B w0 ρ0=>?_; simp only [slots,List.map_nil,List.map_cons,Nat.reduceAdd]
 (repeat' (first | refine sw ?_ | (refine swt ?_; intro x τ hx) | (refine sp ?_ ?_ <;> (intro h; (first | (have h2:(_:Bool)=_:=h; clear h2; subst h) | skip); (try simp only [decide_eq_true_eq,decide_eq_false_iff_not,Bool.not_eq_true',Bool.not_eq_false',Kv.eta,Bnd.eta,Rng.eta,Xc] at h); (first | (have h2:(_:Bool)=_:=h; clear h2; subst h) | skip))) | fail))
 all_goals (first | refine Y0 rfl (by first | exact trivial | exact Zv rfl rfl (by exact inferInstance) trivial) rfl (by first | exact Vw.fmp rfl rfl rfl | exact Vw.nil | exact Vw.d _ | (repeat (first | exact Vws.nil | apply Vws.cons | exact Vw.nil | exact Vw.d _ | apply Vw.a | apply Vw.t | exact Vw.fh rfl rfl (Zd _) | exact Vw.fh rfl rfl Vws.nil)); done) ?_ | refine Yd rfl (by first | exact trivial | exact Zv rfl rfl (by exact inferInstance) trivial) rfl (by first | exact Vw.fmp rfl rfl rfl | exact Vw.nil | exact Vw.d _ | (repeat (first | exact Vws.nil | apply Vws.cons | exact Vw.nil | exact Vw.d _ | apply Vw.a | apply Vw.t | exact Vw.fh rfl rfl (Zd _) | exact Vw.fh rfl rfl Vws.nil)); done) ?_)
 all_goals exact ⟨rfl,rfl⟩⟩
instance ZuI (k c:Int) (l:List Rng) (key:ByteArray):Ct Tryz.prog 218 [vQ k l key c] True (.d (lst Rng.ds [pfx key])):=⟨fun _=>by
 refine Spec.intro Tryz.func218 rfl rfl Tryz.ntmps218 Tryz.results218 rfl fun B w0 ρ0=>?_; simp only [slots,List.map_nil,List.map_cons,Nat.reduceAdd]
 (repeat' (first | refine XL Rng.ds [pfx key] rfl rfl (by simp only [Z8,Zn,List.cons_append,List.nil_append,List.append_nil]; exact rfl) rfl rfl rfl rfl rfl rfl ?_ | refine Zdv Rng.ds [pfx key] rfl rfl (by simp only [Z8,Zn,List.cons_append,List.nil_append,List.append_nil]; exact rfl) rfl rfl rfl rfl (by first | exact .no rfl | exact .y rfl rfl rfl rfl) rfl rfl ?_ | refine sw ?_ | (refine swt ?_; intro x τ hx) | (refine sp ?_ ?_ <;> (intro h; (first | (have h2:(_:Bool)=_:=h; clear h2; subst h) | skip); (try simp only [decide_eq_true_eq,decide_eq_false_iff_not,Bool.not_eq_true',Bool.not_eq_false',Kv.eta,Bnd.eta,Rng.eta,Xc] at h); (first | (have h2:(_:Bool)=_:=h; clear h2; subst h) | skip))) | fail))
 all_goals (first | refine Y0 rfl (by first | exact trivial | exact Zv rfl rfl (by exact inferInstance) trivial) rfl (by first | exact Vw.fmp rfl rfl rfl | exact Vw.nil | exact Vw.d _ | (repeat (first | exact Vws.nil | apply Vws.cons | exact Vw.nil | exact Vw.d _ | apply Vw.a | apply Vw.t | exact Vw.fh rfl rfl (Zd _) | exact Vw.fh rfl rfl Vws.nil)); done) ?_ | refine Yd rfl (by first | exact trivial | exact Zv rfl rfl (by exact inferInstance) trivial) rfl (by first | exact Vw.fmp rfl rfl rfl | exact Vw.nil | exact Vw.d _ | (repeat (first | exact Vws.nil | apply Vws.cons | exact Vw.nil | exact Vw.d _ | apply Vw.a | apply Vw.t | exact Vw.fh rfl rfl (Zd _) | exact Vw.fh rfl rfl Vws.nil)); done) ?_)
 all_goals exact ⟨rfl,rfl⟩⟩
instance ZuJ (k c:Int) (l:List Rng) (key:ByteArray):Ct Tryz.prog 220 [vQ k l key c] True (.d (lst Rng.ds [⟨⟨key,false⟩,⟨⟨#[]⟩,true⟩⟩])):=⟨fun _=>by
 refine Spec.intro Tryz.func220 rfl rfl Tryz.ntmps220 Tryz.results220 rfl fun B w0 ρ0=>?_; simp only [slots,List.map_nil,List.map_cons,Nat.reduceAdd]
 (repeat' (first | refine XL Rng.ds [⟨⟨key,false⟩,⟨⟨#[]⟩,true⟩⟩] rfl rfl (by simp only [Z8,Zn,List.cons_append,List.nil_append,List.append_nil]; exact rfl) rfl rfl rfl rfl rfl rfl ?_ | refine Zdv Rng.ds [⟨⟨key,false⟩,⟨⟨#[]⟩,true⟩⟩] rfl rfl (by simp only [Z8,Zn,List.cons_append,List.nil_append,List.append_nil]; exact rfl) rfl rfl rfl rfl (by first | exact .no rfl | exact .y rfl rfl rfl rfl) rfl rfl ?_ | refine sw ?_ | (refine swt ?_; intro x τ hx) | (refine sp ?_ ?_ <;> (intro h; (first | (have h2:(_:Bool)=_:=h; clear h2; subst h) | skip); (try simp only [decide_eq_true_eq,decide_eq_false_iff_not,Bool.not_eq_true',Bool.not_eq_false',Kv.eta,Bnd.eta,Rng.eta,Xc] at h); (first | (have h2:(_:Bool)=_:=h; clear h2; subst h) | skip))) | fail))
 all_goals (first | refine Y0 rfl (by first | exact trivial | exact Zv rfl rfl (by exact inferInstance) trivial) rfl (by first | exact Vw.fmp rfl rfl rfl | exact Vw.nil | exact Vw.d _ | (repeat (first | exact Vws.nil | apply Vws.cons | exact Vw.nil | exact Vw.d _ | apply Vw.a | apply Vw.t | exact Vw.fh rfl rfl (Zd _) | exact Vw.fh rfl rfl Vws.nil)); done) ?_ | refine Yd rfl (by first | exact trivial | exact Zv rfl rfl (by exact inferInstance) trivial) rfl (by first | exact Vw.fmp rfl rfl rfl | exact Vw.nil | exact Vw.d _ | (repeat (first | exact Vws.nil | apply Vws.cons | exact Vw.nil | exact Vw.d _ | apply Vw.a | apply Vw.t | exact Vw.fh rfl rfl (Zd _) | exact Vw.fh rfl rfl Vws.nil)); done) ?_)
 all_goals exact ⟨rfl,rfl⟩⟩
instance ZuG (k c:Int) (l:List Rng) (key:ByteArray):Ct Tryz.prog 221 [vQ k l key c] True (.d (lst Rng.ds [⟨⟨⟨#[]⟩,false⟩,⟨key,false⟩⟩])):=⟨fun _=>by
 refine Spec.intro Tryz.func221 rfl rfl Tryz.ntmps221 Tryz.results221 rfl fun B w0 ρ0=>?_; simp only [slots,List.map_nil,List.map_cons,Nat.reduceAdd]
 (repeat' (first | refine XL Rng.ds [⟨⟨⟨#[]⟩,false⟩,⟨key,false⟩⟩] rfl rfl (by simp only [Z8,Zn,List.cons_append,List.nil_append,List.append_nil]; exact rfl) rfl rfl rfl rfl rfl rfl ?_ | refine Zdv Rng.ds [⟨⟨⟨#[]⟩,false⟩,⟨key,false⟩⟩] rfl rfl (by simp only [Z8,Zn,List.cons_append,List.nil_append,List.append_nil]; exact rfl) rfl rfl rfl rfl (by first | exact .no rfl | exact .y rfl rfl rfl rfl) rfl rfl ?_ | refine sw ?_ | (refine swt ?_; intro x τ hx) | (refine sp ?_ ?_ <;> (intro h; (first | (have h2:(_:Bool)=_:=h; clear h2; subst h) | skip); (try simp only [decide_eq_true_eq,decide_eq_false_iff_not,Bool.not_eq_true',Bool.not_eq_false',Kv.eta,Bnd.eta,Rng.eta,Xc] at h); (first | (have h2:(_:Bool)=_:=h; clear h2; subst h) | skip))) | fail))
 all_goals (first | refine Y0 rfl (by first | exact trivial | exact Zv rfl rfl (by exact inferInstance) trivial) rfl (by first | exact Vw.fmp rfl rfl rfl | exact Vw.nil | exact Vw.d _ | (repeat (first | exact Vws.nil | apply Vws.cons | exact Vw.nil | exact Vw.d _ | apply Vw.a | apply Vw.t | exact Vw.fh rfl rfl (Zd _) | exact Vw.fh rfl rfl Vws.nil)); done) ?_ | refine Yd rfl (by first | exact trivial | exact Zv rfl rfl (by exact inferInstance) trivial) rfl (by first | exact Vw.fmp rfl rfl rfl | exact Vw.nil | exact Vw.d _ | (repeat (first | exact Vws.nil | apply Vws.cons | exact Vw.nil | exact Vw.d _ | apply Vw.a | apply Vw.t | exact Vw.fh rfl rfl (Zd _) | exact Vw.fh rfl rfl Vws.nil)); done) ?_)
 all_goals exact ⟨rfl,rfl⟩⟩
instance Zug (k c:Int) (l:List Rng) (key:ByteArray):Ct Tryz.prog 79 [vQ k l key c] (l.length<1000000) (.d (lst Rng.ds (YC k l key c))):=⟨fun hl=>by
 refine Spec.intro Tryz.func79 rfl rfl Tryz.ntmps79 Tryz.results79 rfl fun B w0 ρ0=>?_; simp only [slots,List.map_nil,List.map_cons,Nat.reduceAdd]
 (repeat' (first | refine XL Rng.ds [pfx key] rfl rfl (by simp only [Z8,Zn,List.cons_append,List.nil_append,List.append_nil]; exact rfl) rfl rfl rfl rfl rfl rfl ?_ | refine Zdv Rng.ds [pfx key] rfl rfl (by simp only [Z8,Zn,List.cons_append,List.nil_append,List.append_nil]; exact rfl) rfl rfl rfl rfl (by first | exact .no rfl | exact .y rfl rfl rfl rfl) rfl rfl ?_ | refine XL Rng.ds [⟨⟨key,false⟩,⟨⟨#[]⟩,true⟩⟩] rfl rfl (by simp only [Z8,Zn,List.cons_append,List.nil_append,List.append_nil]; exact rfl) rfl rfl rfl rfl rfl rfl ?_ | refine Zdv Rng.ds [⟨⟨key,false⟩,⟨⟨#[]⟩,true⟩⟩] rfl rfl (by simp only [Z8,Zn,List.cons_append,List.nil_append,List.append_nil]; exact rfl) rfl rfl rfl rfl (by first | exact .no rfl | exact .y rfl rfl rfl rfl) rfl rfl ?_ | refine XL Rng.ds [⟨⟨⟨#[]⟩,false⟩,⟨key,false⟩⟩] rfl rfl (by simp only [Z8,Zn,List.cons_append,List.nil_append,List.append_nil]; exact rfl) rfl rfl rfl rfl rfl rfl ?_ | refine Zdv Rng.ds [⟨⟨⟨#[]⟩,false⟩,⟨key,false⟩⟩] rfl rfl (by simp only [Z8,Zn,List.cons_append,List.nil_append,List.append_nil]; exact rfl) rfl rfl rfl rfl (by first | exact .no rfl | exact .y rfl rfl rfl rfl) rfl rfl ?_ | refine sw ?_ | (refine swt ?_; intro x τ hx) | (refine sp ?_ ?_ <;> (intro h; (first | (have h2:(_:Bool)=_:=h; clear h2; subst h) | skip); (try simp only [decide_eq_true_eq,decide_eq_false_iff_not,Bool.not_eq_true',Bool.not_eq_false',Kv.eta,Bnd.eta,Rng.eta,Xc] at h); (first | (have h2:(_:Bool)=_:=h; clear h2; subst h) | skip))) | fail))
 all_goals (first | refine Y0 rfl (by first | exact trivial | exact Zv rfl rfl (by exact inferInstance) trivial) rfl (by first | exact Vw.fmp rfl rfl rfl | exact Vw.nil | exact Vw.d _ | (repeat (first | exact Vws.nil | apply Vws.cons | exact Vw.nil | exact Vw.d _ | apply Vw.a | apply Vw.t | exact Vw.fh rfl rfl (Zd _) | exact Vw.fh rfl rfl Vws.nil)); done) ?_ | refine Yd rfl (by first | exact trivial | exact Zv rfl rfl (by exact inferInstance) trivial) rfl (by first | exact Vw.fmp rfl rfl rfl | exact Vw.nil | exact Vw.d _ | (repeat (first | exact Vws.nil | apply Vws.cons | exact Vw.nil | exact Vw.d _ | apply Vw.a | apply Vw.t | exact Vw.fh rfl rfl (Zd _) | exact Vw.fh rfl rfl Vws.nil)); done) ?_)
 all_goals (refine ⟨?_,rfl⟩)
 all_goals first
  | (rw [YC,if_neg h]; rfl)
  | (have hq:=Zkd (by assumption)
     rw [YC,if_pos (by assumption),qrs]
     first | rw [if_pos (by omega)] | rw [if_neg (by omega),if_pos (by omega)] | rw [if_neg (by omega),if_neg (by omega),if_pos (by omega)] | rw [if_neg (by omega),if_neg (by omega),if_neg (by omega)])⟩
instance Zuc (k c:Int) (l:List Rng) (key:ByteArray):Ct Tryz.prog 192 [vQ k l key c] (l.length<1000000) (.d (lst Rng.ds (YC k l key c))):=⟨fun hl=>by
 refine Spec.intro Tryz.func192 rfl rfl Tryz.ntmps192 Tryz.results192 rfl fun B w0 ρ0=>?_; simp only [slots,List.map_nil,List.map_cons,Nat.reduceAdd]
 (repeat' (first | refine sw ?_ | refine ZC (id:=3) [⟨1,0,[1]⟩,⟨2,2,[7]⟩,⟨4,0,[1]⟩,⟨0,0,[]⟩,⟨3,7,[6,8]⟩,⟨5,31,[9,10]⟩,⟨6,63,[11]⟩,⟨7,127,[12]⟩] mixed (by kernel_rfl) ?_ | (refine swt ?_; intro x τ hx) | (refine sp ?_ ?_ <;> (intro h; (first | (have h2:(_:Bool)=_:=h; clear h2; subst h) | skip); (try simp only [decide_eq_true_eq,decide_eq_false_iff_not,Bool.not_eq_true',Bool.not_eq_false',Kv.eta,Bnd.eta,Rng.eta,Xc] at h); (first | (have h2:(_:Bool)=_:=h; clear h2; subst h) | skip))) | fail))
 ·(first | refine Y0 rfl (by first | exact trivial | exact Zv rfl rfl (by exact inferInstance) trivial) rfl (by first | exact Vw.fmp rfl rfl rfl | exact Vw.nil | exact Vw.d _ | (repeat (first | exact Vws.nil | apply Vws.cons | exact Vw.nil | exact Vw.d _ | apply Vw.a | apply Vw.t | exact Vw.fh rfl rfl (Zd _) | exact Vw.fh rfl rfl Vws.nil)); done) ?_ | refine Yd rfl (by first | exact trivial | exact Zv rfl rfl (by exact inferInstance) trivial) rfl (by first | exact Vw.fmp rfl rfl rfl | exact Vw.nil | exact Vw.d _ | (repeat (first | exact Vws.nil | apply Vws.cons | exact Vw.nil | exact Vw.d _ | apply Vw.a | apply Vw.t | exact Vw.fh rfl rfl (Zd _) | exact Vw.fh rfl rfl Vws.nil)); done) ?_)
  refine ⟨?_,rfl⟩
  rw [YC,if_neg h]; rfl
 have hq:=Zkd h
 rcases hq.1 with rfl | rfl | rfl | rfl
 all_goals (repeat' (first | refine sw ?_ | refine ZC (id:=3) [⟨1,0,[1]⟩,⟨2,2,[7]⟩,⟨4,0,[1]⟩,⟨0,0,[]⟩,⟨3,7,[6,8]⟩,⟨5,31,[9,10]⟩,⟨6,63,[11]⟩,⟨7,127,[12]⟩] mixed (by kernel_rfl) ?_ | (refine swt ?_; intro x τ hx) | (refine sp ?_ ?_ <;> (intro h; (first | (have h2:(_:Bool)=_:=h; clear h2; subst h) | skip); (try simp only [decide_eq_true_eq,decide_eq_false_iff_not,Bool.not_eq_true',Bool.not_eq_false',Kv.eta,Bnd.eta,Rng.eta,Xc] at h); (first | (have h2:(_:Bool)=_:=h; clear h2; subst h) | skip))) | fail))
 all_goals (first | refine Y0 rfl (by first | exact trivial | exact Zv rfl rfl (by exact inferInstance) trivial) rfl (by first | exact Vw.fmp rfl rfl rfl | exact Vw.nil | exact Vw.d _ | (repeat (first | exact Vws.nil | apply Vws.cons | exact Vw.nil | exact Vw.d _ | apply Vw.a | apply Vw.t | exact Vw.fh rfl rfl (Zd _) | exact Vw.fh rfl rfl Vws.nil)); done) ?_ | refine Yd rfl (by first | exact trivial | exact Zv rfl rfl (by exact inferInstance) trivial) rfl (by first | exact Vw.fmp rfl rfl rfl | exact Vw.nil | exact Vw.d _ | (repeat (first | exact Vws.nil | apply Vws.cons | exact Vw.nil | exact Vw.d _ | apply Vw.a | apply Vw.t | exact Vw.fh rfl rfl (Zd _) | exact Vw.fh rfl rfl Vws.nil)); done) ?_)
 all_goals (refine ⟨?_,rfl⟩; rw [YC,if_pos h,qrs]; first | rw [if_pos (by omega)] | rw [if_neg (by omega),if_pos (by omega)] | rw [if_neg (by omega),if_neg (by omega),if_pos (by omega)] | rw [if_neg (by omega),if_neg (by omega),if_neg (by omega)])⟩
end Go.Proofs.YtkcmgbbopedacaaGreatDoor
namespace Go.Proofs.YtkcmgbbopedacaaGreatDoor
open Go.RowKit
def Xw (q:Zj):Option Int:=if q.Ranges.length<1000000 then some (Zcb q.Kind q.Ranges q.Key q.Count) else none
theorem ZcT {q:Zj} {y:Int} (hm:Xw q=some y):Spec Tryz.prog 136 [vQ q.Kind q.Ranges q.Key q.Count] [] fun u h=>u=vI y∧h=[]:=by
 unfold Xw at hm
 split at hm
 ·obtain rfl:=Option.some.inj hm
  exact (ZpG _ _ _ _).out (by assumption)
 ·cases hm
def Y9 (q:Zj):Option (List Rng):=if q.Ranges.length<1000000 then some (YC q.Kind q.Ranges q.Key q.Count) else none
theorem Zcz {q:Zj} {y:List Rng} (hm:Y9 q=some y):Spec Tryz.prog 192 [vQ q.Kind q.Ranges q.Key q.Count] [] fun u h=>u=.d (lst Rng.ds y)∧h=[]:=by
 unfold Y9 at hm
 split at hm
 ·obtain rfl:=Option.some.inj hm
  exact (inferInstance:Ct Tryz.prog 192 [vQ q.Kind q.Ranges q.Key q.Count] _ _).out (by assumption)
 ·cases hm
def Zbc (q:Zj):Option (List Rng):=if q.Ranges.length<1000000 then some (YC q.Kind q.Ranges q.Key q.Count) else none
theorem Ze0 {q:Zj} {y:List Rng} (hm:Zbc q=some y):Spec Tryz.prog 79 [vQ q.Kind q.Ranges q.Key q.Count] [] fun u h=>u=.d (lst Rng.ds y)∧h=[]:=by
 unfold Zbc at hm
 split at hm
 ·obtain rfl:=Option.some.inj hm
  exact (inferInstance:Ct Tryz.prog 79 [vQ q.Kind q.Ranges q.Key q.Count] _ _).out (by assumption)
 ·cases hm
set_option maxRecDepth 100000
set_option maxHeartbeats 4000000
attribute [local irreducible] WK WC WL Wk Rel OpD OpV WD WO sel bnd Zc app Yn lsl ZiR ssl ZgG ZfZ ZiQ ZhF Op.bytesLess
attribute [local irreducible] Zcb YC union
end Go.Proofs.YtkcmgbbopedacaaGreatDoor
namespace Go.Proofs.YtkcmgbbopedacaaGreatDoor
open Go.RowKit
theorem ZT {a:Int} (h1 : -9223372036854775808≤a) (h2:a≤9223372036854775807):Z6 a=a:=w64 h1 h2
theorem Zl {α:Type} (x y:α):sel true x y=x:=rfl
theorem Zb {α:Type} (x y:α):sel false x y=y:=rfl
theorem Zbj (a b:Bool):sel a b false=(a && b):=by cases a <;> rfl
theorem Zkf (a b:Bool):sel a true b=(a || b):=by cases a <;> rfl
theorem Qv (k:ByteArray):Yu k=vk k:=by simp [Yu,vk]; omega
theorem XN (b:Bnd):Yf b=vb b:=by
 simp only [Yf,Zr,Qv,vb,Zbj,Zkf]
 congr 2
 rcases b with ⟨⟨⟨l⟩⟩,t⟩
 cases l <;> simp [ByteArray.toList_eq]
theorem Zz (a b:Bnd):Zm a b=cmp a b:=by
 rcases a with ⟨a,s⟩
 rcases b with ⟨b,t⟩
 have hi:=Yv a.toList
 have hs:bl a b=true→bl b a=false:=fun h=>by
  cases h2:bl b a with
  | false=>rfl
  | true=>have:=Yr h h2; rw [hi] at this; cases this
 simp only [Zm,Zr,ZL,cmp,Bnd.lt]
 cases s <;> cases t <;> simp
 all_goals (split <;> simp_all)
theorem Zev (r:Rng):Zan r=vld r:=by
 simp only [Zan,Zr,XN,Zz,Zbj,vld,Bool.and_assoc]
theorem Yk (r:Rng):ZU r=emp r:=by
 simp only [ZU,Zr,Zev,Zz,Zkf,emp]
 congr 1
theorem Za6 (r:Rng) (k:ByteArray):XR r k=contains r k:=by
 simp only [XR,Zr,Yk,Qv,Zz,Zbj,contains,Bool.and_assoc]
theorem QN (k:ByteArray):YA k=vk k:=by simp [YA,vk]; omega
theorem XP (b:Bnd):ZV b=vb b:=by
 simp only [ZV,Zr,QN,vb,Zbj,Zkf]
 congr 2
 rcases b with ⟨⟨⟨l⟩⟩,t⟩
 cases l <;> simp [ByteArray.toList_eq]
theorem ZP (a b:Bnd):Zi a b=cmp a b:=by
 rcases a with ⟨a,s⟩
 rcases b with ⟨b,t⟩
 have hi:=Yv a.toList
 have hs:bl a b=true→bl b a=false:=fun h=>by
  cases h2:bl b a with
  | false=>rfl
  | true=>have:=Yr h h2; rw [hi] at this; cases this
 simp only [Zi,Zr,ZL,cmp,Bnd.lt]
 cases s <;> cases t <;> simp
 all_goals (split <;> simp_all)
theorem Zbb (r:Rng):QY r=vld r:=by
 simp only [QY,Zr,XP,ZP,Zbj,vld,Bool.and_assoc]
theorem Z5 (r:Rng):ZY r=emp r:=by
 simp only [ZY,Zr,Zbb,ZP,Zkf,emp]
 congr 1
theorem QS (r:Rng) (k:ByteArray):Xe r k=contains r k:=by
 simp only [Xe,Zr,Z5,QN,ZP,Zbj,contains,Bool.and_assoc]
theorem Z9 {α:Type} (l:List α) (m:Nat):Yn l (m:Int)=l[m]?:=by
 unfold Yn; rw [if_pos (by omega)]; simp
theorem Z4 {α:Type} {xs ys:List α} (h:xs.length+ys.length≤4294967296):app xs ys=some (xs++ys):=if_pos h
theorem ZeD {α:Type} {xs:List α} {lo hi:Int} (h:0≤lo∧lo≤hi∧hi≤xs.length):lsl xs lo hi=some ((xs.drop lo.toNat).take (hi.toNat - lo.toNat)):=if_pos h
theorem ZaD (r:Rng):∀ (t out:List Kv),t.length+out.length≤4294967296→Xp r t out=some (out++t.filter fun x=>contains r x.key)
 | [],out,_=>by simp [Xp]
 | x::t,out,h=>by
  simp only [List.length_cons] at h
  rw [Xp.eq_2,Zr,ZL]
  have hk:(@contains r x.key)=true∨contains r x.key=false:=by cases contains r x.key <;> simp
  first
   | rw [QS]
   | rw [Za6]
  rcases hk with hk | hk
  ·rw [if_pos hk,Z4 (by simp; omega),Za,ZaD r t _ (by simp; omega),List.filter_cons,if_pos hk,List.append_assoc]; rfl
  ·rw [if_neg (by simp [hk]),ZaD r t _ (by omega),List.filter_cons,if_neg (by simp [hk])]
theorem ZbS (r:Rng) (t:List Kv) (h:t.length≤4294967296):ZaZ t r=some (t.filter fun x=>contains r x.key):=by
 rw [ZaZ,ZaD r t [] (by simpa using h),Za]; rfl
theorem ZaC (r:Rng):∀ (t out:List Kv),t.length+out.length≤4294967296→Xj r t out=some (out++t.filter fun x=>contains r x.key)
 | [],out,_=>by simp [Xj]
 | x::t,out,h=>by
  simp only [List.length_cons] at h
  rw [Xj.eq_2,Zr,ZL]
  have hk:(@contains r x.key)=true∨contains r x.key=false:=by cases contains r x.key <;> simp
  first
   | rw [QS]
   | rw [Za6]
  rcases hk with hk | hk
  ·rw [if_pos hk,Z4 (by simp; omega),Za,ZaC r t _ (by simp; omega),List.filter_cons,if_pos hk,List.append_assoc]; rfl
  ·rw [if_neg (by simp [hk]),ZaC r t _ (by omega),List.filter_cons,if_neg (by simp [hk])]
theorem Zdg (r:Rng) (t:List Kv) (h:t.length≤4294967296):XY t r=some (t.filter fun x=>contains r x.key):=by
 rw [XY,ZaC r t [] (by simpa using h),Za]; rfl
def okT (τ:Zy):Prop:=τ.l.length≤600∧0≤τ.at_∧τ.at_≤τ.l.length
theorem ZtY (l:List Int):∃ τ,ZdI l=some τ∧okT τ:=by
 unfold ZdI
 rw [ZL]
 split
 ·rename_i h
  simp only [decide_eq_true_eq] at h
  rw [ZeD (by omega),Za]
  exact ⟨_,rfl,by simp [okT]; omega⟩
 ·rename_i h
  simp only [decide_eq_true_eq] at h
  exact ⟨_,rfl,by simp [okT]; omega⟩
theorem ZrG {a b:Int} (h:b≠0):ZhF a b=some (a.tmod b):=if_neg h
theorem Zt9 (v n:Int) (h1:1≤n) (h2:n≤9223372036854775807):∃ x,Ze3 v n=some x∧0≤x∧x<n:=by
 have g1:=Int.lt_tmod_of_pos v (show 0<n by omega)
 have g2:=Int.tmod_lt_of_pos v (show 0<n by omega)
 unfold Ze3
 rw [ZrG (by omega),Za,ZL]
 split
 ·rename_i h
  simp only [decide_eq_true_eq] at h
  exact ⟨_,rfl,by rw [ZT] <;> omega,by rw [ZT] <;> omega⟩
 ·rename_i h
  simp only [decide_eq_true_eq] at h
  exact ⟨_,rfl,by omega,by omega⟩
def Cho (n r:Int):Prop:=0≤r∧(1≤n→r<n)∧(n<1→r=0)
theorem Qu {τ:Zy} (h:okT τ) (n:Int) (h2:n≤9223372036854775807):∃ x τ',Zh τ n=some (x,τ')∧okT τ'∧Cho n x:=by
 obtain ⟨g1,g2,g3⟩:=h
 unfold Zh
 simp only [ZL]
 by_cases a1:n<1
 ·simp only [a1,decide_true,if_true,Za]
  exact ⟨_,_,rfl,⟨g1,g2,g3⟩,by unfold Cho; omega⟩
 by_cases a2:(τ.l.length:Int)≤τ.at_
 ·simp only [a1,a2,decide_true,decide_false,Bool.false_eq_true,if_false,if_true,Za]
  exact ⟨_,_,rfl,⟨g1,g2,g3⟩,by unfold Cho; omega⟩
 ·simp only [a1,a2,decide_true,decide_false,Bool.false_eq_true,if_false,Za]
  have e1:Z6 (τ.at_+1)=τ.at_+1:=ZT (by omega) (by omega)
  have e2:Z6 (τ.at_+1 - 1)=τ.at_:=by rw [ZT (by omega) (by omega)]; omega
  obtain ⟨m,hm⟩:=Int.eq_ofNat_of_zero_le g2
  rw [e1,e2,hm,Z9,List.getElem?_eq_getElem (by omega),Za]
  obtain ⟨x,hx,h3,h4⟩:=Zt9 τ.l[m] n (by omega) h2
  rw [hx,Za]
  exact ⟨_,_,rfl,⟨g1,by simp only; omega,by simp only; omega⟩,by unfold Cho; omega⟩
theorem Zdm {τ:Zy} (h:okT τ) (n:Int) (h2:n≤9223372036854775807):∃ b τ',Zw τ n=some (b,τ')∧okT τ':=by
 obtain ⟨x,τ',e,h',-⟩:=Qu h n h2
 exact ⟨_,_,by unfold Zw; rw [e,Za],h'⟩
theorem Znz {τ:Zy} (h:okT τ) (l:List Int) (h1:0<l.length) (h2:l.length≤1000):∃ x τ',Yo τ l=some (x,τ')∧okT τ'∧x ∈ l:=by
 obtain ⟨x,τ',e,h',h3⟩:=Qu h (l.length:Int) (by omega)
 unfold Cho at h3
 unfold Yo
 obtain ⟨m,rfl⟩:=Int.eq_ofNat_of_zero_le h3.1
 rw [e,Za]
 simp only
 rw [Z9,List.getElem?_eq_getElem (by omega),Za]
 exact ⟨_,_,rfl,h',List.getElem_mem _⟩
theorem Zns {s t:ByteArray} (h:s.size+t.size≤9223372036854775807):ZgG s t=some (s++t):=if_pos h
theorem ZgC (s:ByteArray) (n:Int) (hs:s.size≤100) (hn:n≤1000):∀ (k fuel:Nat) (out:ByteArray) (i:Int),0≤i→n - i=k→k<fuel→(out.size:Int)≤100 * i→∃ r,ZaW s n fuel out i=some r∧r.size=out.size+k * s.size
 | _,0,_,_,_,_,h,_=>absurd h (by omega)
 | 0,fuel+1,out,i,h0,h1,_,h2=>by
  rw [ZaW.eq_2,ZL,if_neg (by simp; omega)]
  exact ⟨out,rfl,by simp⟩
 | k+1,fuel+1,out,i,h0,h1,h3,h2=>by
  rw [ZaW.eq_2,ZL,if_pos (by simp; omega),Zns (by omega),Za,ZT (by omega) (by omega)]
  obtain ⟨r,e,h4⟩:=ZgC s n hs hn k fuel (out++s) (i+1) (by omega) (by omega) (by omega) (by rw [ByteArray.size_append]; omega)
  exact ⟨r,e,by rw [h4,ByteArray.size_append,Nat.succ_mul]; omega⟩
theorem ZgQ (s:ByteArray) (n:Nat) (hs:s.size≤100) (hn:n≤1000):∃ r,Zbm s n=some r∧r.size=n * s.size:=by
 obtain ⟨r,e,h⟩:=ZgC s n hs (by omega) n FU ⟨#[]⟩ 0 (by omega) (by omega) (by unfold FU; omega) (by decide)
 refine ⟨r,by unfold Zbm; rw [e,Za],?_⟩
 rw [h]
 have:(⟨#[]⟩:ByteArray).size=0:=rfl
 rw [this]; simp
theorem Zjb {i:Int} (h:Cho 6 i):∃ s,ZfZ i=some s∧s.size≤1:=by
 unfold Cho at h
 unfold ZfZ
 rw [if_pos ⟨h.1,h.2.1 (by omega)⟩]
 exact ⟨_,rfl,ZcL _⟩
theorem Zie:∀ (fuel:Nat) (l:List Int) (a:Int) (out:ByteArray) (i:Int),okT ⟨l,a⟩→i.toNat<fuel→i≤3→(out.size:Int)+max i 0≤3→∃ k l' a',QR fuel l a out i=some (k,l',a')∧okT ⟨l',a'⟩∧k.size≤3
 | 0,_,_,_,_,_,h1,_,_=>absurd h1 (by omega)
 | fuel+1,l,a,out,i,h,h1,h2,h3=>by
  rw [QR.eq_2,ZL]
  by_cases hi:0<i
  ·simp only [hi,decide_true,if_true,Za,ZN]
   obtain ⟨x,τ',e,h',hx⟩:=Qu h 6 (by omega)
   rw [e,Za]
   obtain ⟨s,es,hs⟩:=Zjb hx
   simp only
   rw [es,Za,Zns (by omega),Za,ZT (by omega) (by omega)]
   exact Zie fuel _ _ _ _ h' (by omega) (by omega) (by rw [ByteArray.size_append]; omega)
  ·simp only [hi,decide_false,Bool.false_eq_true,if_false,Za,Y6]
   exact ⟨_,_,_,rfl,h,by omega⟩
theorem ZhV {τ:Zy} (h:okT τ):∃ k τ',Y8 τ=some (k,τ')∧okT τ'∧k.size≤64:=by
 unfold Y8
 obtain ⟨x,τ1,e1,h1,hx⟩:=Qu h 12 (by omega)
 rw [e1,Za,ZL]
 simp only
 by_cases c1:x=10
 ·rw [if_pos (by simpa using c1)]
  obtain ⟨y,τ2,e2,h2,hy⟩:=Qu h1 6 (by omega)
  rw [e2,Za]
  obtain ⟨s,es,hs⟩:=Zjb hy
  obtain ⟨r,er,hr⟩:=ZgQ s 64 (by omega) (by omega)
  simp only
  rw [es,Za,show (64:Int)=((64:Nat):Int) from rfl,er,Za]
  exact ⟨_,_,rfl,h2,by rw [hr]; omega⟩
 ·rw [if_neg (by simpa using c1),ZL]
  by_cases c2:x=11
  ·rw [if_pos (by simpa using c2)]
   exact ⟨_,_,rfl,h1,by decide⟩
  ·rw [if_neg (by simpa using c2)]
   obtain ⟨y,τ2,e2,h2,hy⟩:=Qu h1 3 (by omega)
   unfold Cho at hy
   rw [e2,Za]
   simp only
   rw [ZT (by omega) (by omega)]
   have hz:(⟨#[]⟩:ByteArray).size=0:=rfl
   obtain ⟨k,l',a',e,h3,hk⟩:=Zie FU τ2.l τ2.at_ ⟨#[]⟩ (1+y) h2 (by unfold FU; omega) (by omega) (by rw [hz]; omega)
   rw [e,Za]
   exact ⟨_,_,rfl,h3,by simp only; omega⟩
theorem Zh6 {τ:Zy} (h:okT τ):∃ k τ',XH τ=some (k,τ')∧okT τ'∧k.size≤65:=by
 unfold XH
 obtain ⟨b,τ1,e1,h1⟩:=Zdm h 10 (by omega)
 rw [e1,Za,ZL]
 simp only
 split
 ·obtain ⟨y,τ2,e2,h2,hy⟩:=Qu h1 6 (by omega)
  rw [e2,Za]
  obtain ⟨s,es,hs⟩:=Zjb hy
  obtain ⟨r,er,hr⟩:=ZgQ s 65 (by omega) (by omega)
  simp only
  rw [es,Za,show (65:Int)=((65:Nat):Int) from rfl,er,Za]
  exact ⟨_,_,rfl,h2,by rw [hr]; omega⟩
 ·obtain ⟨k,τ2,e2,h2,hk⟩:=ZhV h1
  rw [e2,Za]
  exact ⟨_,_,rfl,h2,by simp only; omega⟩
theorem Zhf {τ:Zy} (h:okT τ):∃ b τ',YR τ=some (b,τ')∧okT τ'∧b.key.size≤65:=by
 unfold YR
 obtain ⟨x,τ1,e1,h1,hx⟩:=Qu h 9 (by omega)
 rw [e1,Za,ZL]
 simp only
 split
 ·exact ⟨_,_,rfl,h1,by decide⟩
 ·rw [ZL]
  split
  ·obtain ⟨k,τ2,e2,h2,hk⟩:=Zh6 h1
   obtain ⟨b,τ3,e3,h3⟩:=Zdm h2 3 (by omega)
   rw [e2,Za]; simp only; rw [e3,Za]
   exact ⟨_,_,rfl,h3,hk⟩
  ·obtain ⟨k,τ2,e2,h2,hk⟩:=ZhV h1
   rw [e2,Za]
   exact ⟨_,_,rfl,h2,by simp only; omega⟩
theorem ZkP {τ:Zy} (h:okT τ):∃ r τ',Xn τ=some (r,τ')∧okT τ'∧r.lo.key.size≤65∧r.hi.key.size≤65:=by
 unfold Xn
 obtain ⟨a,τ1,e1,h1,ha⟩:=Zhf h
 obtain ⟨b,τ2,e2,h2,hb⟩:=Zhf h1
 obtain ⟨c,τ3,e3,h3⟩:=Zdm h2 6 (by omega)
 rw [e1,Za]; simp only; rw [e2,Za]; simp only; rw [e3,Za]
 simp only [ZL]
 repeat' split
 all_goals first | exact ⟨_,_,rfl,h3,ha,hb⟩ | exact ⟨_,_,rfl,h3,hb,ha⟩
theorem Zh1 {τ:Zy} (h:okT τ):∃ r τ',Y4 τ=some (r,τ')∧okT τ'∧emp r=false:=by
 unfold Y4
 obtain ⟨r,τ1,e1,h1,-⟩:=ZkP h
 rw [e1,Za,Zr,Z5,ZL]
 split
 ·exact ⟨_,_,rfl,h1,by kernel_rfl⟩
 ·rename_i hne
  exact ⟨_,_,rfl,h1,by simpa using hne⟩
theorem Zkx {τ:Zy} (h:okT τ):∃ v τ',X9 τ=some (v,τ')∧okT τ'∧v.size≤64:=by
 unfold X9
 obtain ⟨x,τ1,e1,h1,hx⟩:=Qu h 9 (by omega)
 rw [e1,Za,ZL]
 simp only
 split
 ·exact ⟨_,_,rfl,h1,by decide⟩
 rw [ZL]
 split
 ·obtain ⟨r,er,hr⟩:=ZgQ ⟨#[57]⟩ 64 (by decide) (by omega)
  rw [show (64:Int)=((64:Nat):Int) from rfl,er,Za]
  exact ⟨_,_,rfl,h1,by rw [hr]; decide⟩
 rw [ZL]
 split
 ·exact ⟨_,_,rfl,h1,by decide⟩
 ·obtain ⟨y,τ2,e2,h2,hy⟩:=Qu h1 6 (by omega)
  unfold Cho at hy
  rw [e2,Za]
  simp only
  obtain ⟨m,rfl⟩:=Int.eq_ofNat_of_zero_le hy.1
  rw [Z9]
  have hm:m=0∨m=1∨m=2∨m=3∨m=4∨m=5:=by omega
  rcases hm with rfl | rfl | rfl | rfl | rfl | rfl <;> exact ⟨_,_,rfl,h2,by decide⟩
theorem ZjL {τ:Zy} (h:okT τ):∃ v τ',XO τ=some (v,τ')∧okT τ'∧v.size≤65:=by
 unfold XO
 obtain ⟨b,τ1,e1,h1⟩:=Zdm h 12 (by omega)
 rw [e1,Za,ZL]
 simp only
 split
 ·obtain ⟨r,er,hr⟩:=ZgQ ⟨#[118]⟩ 65 (by decide) (by omega)
  rw [show (65:Int)=((65:Nat):Int) from rfl,er,Za]
  exact ⟨_,_,rfl,h1,by rw [hr]; decide⟩
 ·obtain ⟨v,τ2,e2,h2,hv⟩:=Zkx h1
  rw [e2,Za]
  exact ⟨_,_,rfl,h2,by simp only; omega⟩
theorem Zt3 {τ:Zy} (h:okT τ):∃ r τ',Qh τ=some (r,τ')∧okT τ':=by
 unfold Qh
 obtain ⟨k,τ1,e1,h1,hk⟩:=Zh6 h
 obtain ⟨v,τ2,e2,h2,hv⟩:=ZjL h1
 rw [e1,Za]; simp only; rw [e2,Za]
 exact ⟨_,_,rfl,h2⟩
theorem ZlD {τ:Zy} (h:okT τ) (l:List Kv) (hl:l.length≤1000):∃ r τ',Xr τ l=some (r,τ')∧okT τ'∧r.length≤l.length+1:=by
 unfold Xr
 rw [Z4 (by simp; omega),Za,List.nil_append]
 obtain ⟨b,τ1,e1,h1⟩:=Zdm h 3 (by omega)
 rw [e1,Za,ZL]
 simp only
 have key1:∀ {c:Bool} {τ1:Zy},okT τ1→∃ r τ',(Zc (Zc (Zw τ1 3) fun y17=>sel y17.1 (some (y17.2.l,y17.2.at_,decide (0<(l.length:Int)))) (some (y17.2.l,y17.2.at_,false))) fun (x18,x19,x20) =>
  sel x20 (
   Zc (Zh (Zy.mk x18 x19) (l.length:Int)) fun y21 =>
   Zc (Yn l y21.1) fun e22 =>
   Zc (app l ([e22]:List Kv)) fun l23 =>
   some (l23,y21.2)) (
   Zc (Qh (Zy.mk x18 x19)) fun y24 =>
   Zc (app l ([y24.1]:List Kv)) fun l25 =>
   some (l25,y24.2)))=some (r,τ')∧okT τ'∧r.length≤l.length+1:=by
  intro c τ1 h1
  obtain ⟨b2,τ2,e2,h2⟩:=Zdm h1 3 (by omega)
  have rowc:∃ r τ',(Zc (Qh τ2) fun y24=>Zc (app l ([y24.1]:List Kv)) fun l25=>some (l25,y24.2))=some (r,τ')∧okT τ'∧r.length≤l.length+1:=by
   obtain ⟨r,τ3,e3,h3⟩:=Zt3 h2
   rw [e3,Za,Z4 (by simp; omega),Za]
   exact ⟨_,_,rfl,h3,by simp⟩
  rw [e2,Za,ZL]
  simp only
  split
  ·rw [Za,ZL]
   split
   ·rename_i hd
    simp only [decide_eq_true_eq] at hd
    obtain ⟨x,τ3,e3,h3,hx⟩:=Qu h2 (l.length:Int) (by omega)
    unfold Cho at hx
    obtain ⟨m,rfl⟩:=Int.eq_ofNat_of_zero_le hx.1
    simp only
    rw [e3,Za]
    simp only
    rw [Z9,List.getElem?_eq_getElem (by omega),Za,Z4 (by simp; omega),Za]
    exact ⟨_,_,rfl,h3,by simp⟩
   ·exact rowc
  ·rw [Za,ZL]
   simp only [Bool.false_eq_true,if_false]
   exact rowc
 split
 ·rw [Za,ZL]
  split
  ·rename_i hd
   simp only [decide_eq_true_eq] at hd
   rw [ZT (by omega) (by omega)]
   obtain ⟨x,τ3,e3,h3,hx⟩:=Qu h1 ((l.length:Int) - 1) (by omega)
   unfold Cho at hx
   obtain ⟨m,rfl⟩:=Int.eq_ofNat_of_zero_le hx.1
   simp only
   rw [e3,Za]
   simp only
   rw [ZT (by omega) (by omega),show (m:Int)+1=((m+1:Nat):Int) by omega]
   simp only [Z9,Zr]
   rw [List.getElem?_eq_getElem (i:=m+1) (by omega),List.getElem?_eq_getElem (i:=m) (by omega)]
   simp only [Za]
   rw [List.getElem?_eq_getElem (i:=m+1) (by simp; omega),Za]
   exact ⟨_,_,rfl,h3,by simp⟩
  ·exact key1 (c:=b) h1
 ·rw [Za,ZL]
  simp only [Bool.false_eq_true,if_false]
  exact key1 (c:=b) h1
end Go.Proofs.YtkcmgbbopedacaaGreatDoor
