/-
  Lemmas: Contracts
-/
import Derived.Test.YtkcmgbbopedacaaGreatDoorPZ10
import Derived.Test.YtkcmgbbopedacaaGreatDoorPZ12
import Derived.Test.YtkcmgbbopedacaaGreatDoorPZ14
import Derived.Test.YtkcmgbbopedacaaGreatDoorPZ18
import Derived.Test.YtkcmgbbopedacaaGreatDoorPZ20
import Derived.Test.YtkcmgbbopedacaaGreatDoorPZ9
set_option linter.unusedSimpArgs false
set_option linter.unusedVariables false
namespace Go.Proofs.YtkcmgbbopedacaaGreatDoor
open Go.RowKit
attribute [local irreducible] WK WC WL Wk Rel OpD OpV WD WO Op.bytesLess cmp vk vb vld emp contains
set_option maxHeartbeats 4000000 in
instance ZxH (k c:Int) (l:List Rng) (key:ByteArray):Ct Tryz.prog 78 [vQ k l key c] (l.length<1000000) (vI (ZcE k l key c)):=⟨fun hl=>by
 refine Spec.intro Tryz.func78 rfl rfl Tryz.ntmps78 Tryz.results78 rfl fun B w0 ρ0=>?_; simp only [slots,List.map_nil,List.map_cons,Nat.reduceAdd]
 (repeat' (first | refine sw ?_ | (refine swt ?_; intro x τ hx) | (refine sp ?_ ?_ <;> (intro h; (first | (have h2:(_:Bool)=_:=h; clear h2; subst h) | skip); (try simp only [decide_eq_true_eq,decide_eq_false_iff_not,Bool.not_eq_true',Bool.not_eq_false',Kv.eta,Bnd.eta,Rng.eta,Xx] at h); (first | (have h2:(_:Bool)=_:=h; clear h2; subst h) | skip))) | fail))
 all_goals (try ((first | refine Xl rfl (by first | exact trivial | exact Zv rfl rfl (by exact inferInstance) trivial) rfl (by first | exact Vw.fmp rfl rfl rfl | exact Vw.nil | exact Vw.d _ | (repeat (first | exact Vws.nil | apply Vws.cons | exact Vw.nil | exact Vw.d _ | apply Vw.a | apply Vw.t | exact Vw.fh rfl rfl (Zj _) | exact Vw.fh rfl rfl Vws.nil)); done) ?_ | refine Yn rfl (by first | exact trivial | exact Zv rfl rfl (by exact inferInstance) trivial) rfl (by first | exact Vw.fmp rfl rfl rfl | exact Vw.nil | exact Vw.d _ | (repeat (first | exact Vws.nil | apply Vws.cons | exact Vw.nil | exact Vw.d _ | apply Vw.a | apply Vw.t | exact Vw.fh rfl rfl (Zj _) | exact Vw.fh rfl rfl Vws.nil)); done) ?_); refine ⟨?_,rfl⟩; (try simp only [Bool.not_eq_true,Bool.not_eq_false,decide_eq_true_eq,decide_eq_false_iff_not] at *); first | (simp_all [ZcE]; done) | (simp_all [ZcE] <;> omega) | grind [ZcE]))
 refine ZaE (fun κ st=>∃ (m:Nat),κ=l.length - m∧(m≤l.length∧∀ j (h:j<l.length),j<m→vld l[j]=true)∧st=⟨[(1,.p 101 0),(19,.d (lst Rng.ds l)),(20,vI l.length),(21,vI (m:Int))],[(101,some (.box 41 [vI k,.d (lst Rng.ds l),vS key,vI c]))]⟩) (l.length - (0)) ⟨[(1,.p 101 0),(19,.d (lst Rng.ds l)),(20,vI l.length),(21,vI ((0):Int))],[(101,some (.box 41 [vI k,.d (lst Rng.ds l),vS key,vI c]))]⟩ (wk [(101,101)] rfl rfl rfl rfl (by repeat (first | refine VH.cons rfl rfl Xh ?_ | refine VH.cons0 ?_ | refine VH.cons rfl rfl (Vb.ob _) ?_ | exact VS.nil | exact VH.nil | exact Vws.nil | refine VS.cons rfl ?_ ?_ | refine VH.cons rfl rfl (Vb.box ?_) ?_ | refine VH.cons rfl rfl (Vb.arr ?_) ?_ | exact Zj _ | refine Vws.cons ?_ ?_ | exact Vw.d _ | exact Vw.p rfl | exact Vw.h rfl | exact Vw.e rfl | exact Vw.s rfl | exact Vw.q _ | refine Vw.a ?_ | refine Vw.t ?_ | exact Vw.nil | exact Vw.fh rfl rfl (Zj _) | exact Vw.fe rfl rfl (Zj _) (Zap (by assumption)) | exact Vw.fe rfl rfl (Zj _) (Xi (by assumption)) | refine Vw.fp0 rfl rfl ?_ | exact Vw.mp rfl | refine VH.cons rfl rfl (Vb.mt _ _) ?_ | exact Vw.sc rfl | exact Vw.un _)) (by repeat (first | refine VH.cons rfl rfl Xh ?_ | refine VH.cons0 ?_ | refine VH.cons rfl rfl (Vb.ob _) ?_ | exact VS.nil | exact VH.nil | exact Vws.nil | refine VS.cons rfl ?_ ?_ | refine VH.cons rfl rfl (Vb.box ?_) ?_ | refine VH.cons rfl rfl (Vb.arr ?_) ?_ | exact Zj _ | refine Vws.cons ?_ ?_ | exact Vw.d _ | exact Vw.p rfl | exact Vw.h rfl | exact Vw.e rfl | exact Vw.s rfl | exact Vw.q _ | refine Vw.a ?_ | refine Vw.t ?_ | exact Vw.nil | exact Vw.fh rfl rfl (Zj _) | exact Vw.fe rfl rfl (Zj _) (Zap (by assumption)) | exact Vw.fe rfl rfl (Zj _) (Xi (by assumption)) | refine Vw.fp0 rfl rfl ?_ | exact Vw.mp rfl | refine VH.cons rfl rfl (Vb.mt _ _) ?_ | exact Vw.sc rfl | exact Vw.un _))) ⟨0,rfl,?_,rfl⟩ ?_; rotate_left; rintro κ _ ⟨m,rfl,hP,rfl⟩; rotate_left
 ·exact ⟨by omega,fun j _ h=>by omega⟩
 obtain ⟨hm,hP⟩:=hP
 (repeat' (first | refine sw ?_ | (refine swt ?_; intro x τ hx) | (refine sp ?_ ?_ <;> (intro h; (first | (have h2:(_:Bool)=_:=h; clear h2; subst h) | skip); (try simp only [decide_eq_true_eq,decide_eq_false_iff_not,Bool.not_eq_true',Bool.not_eq_false',Kv.eta,Bnd.eta,Rng.eta,Xx] at h); (first | (have h2:(_:Bool)=_:=h; clear h2; subst h) | skip))) | fail))
 all_goals (try (have hA:=ZtN hP (by omega)))
 all_goals (try (have hA:=Zpt (p:=vld) (l:=l) (m:=m) (by omega) (by simp only [Rng.eta, *]; rfl)))
 all_goals (try ((first | refine Xl rfl (by first | exact trivial | exact Zv rfl rfl (by exact inferInstance) trivial) rfl (by first | exact Vw.fmp rfl rfl rfl | exact Vw.nil | exact Vw.d _ | (repeat (first | exact Vws.nil | apply Vws.cons | exact Vw.nil | exact Vw.d _ | apply Vw.a | apply Vw.t | exact Vw.fh rfl rfl (Zj _) | exact Vw.fh rfl rfl Vws.nil)); done) ?_ | refine Yn rfl (by first | exact trivial | exact Zv rfl rfl (by exact inferInstance) trivial) rfl (by first | exact Vw.fmp rfl rfl rfl | exact Vw.nil | exact Vw.d _ | (repeat (first | exact Vws.nil | apply Vws.cons | exact Vw.nil | exact Vw.d _ | apply Vw.a | apply Vw.t | exact Vw.fh rfl rfl (Zj _) | exact Vw.fh rfl rfl Vws.nil)); done) ?_); refine ⟨?_,rfl⟩; (try simp only [Bool.not_eq_true,Bool.not_eq_false,decide_eq_true_eq,decide_eq_false_iff_not] at *); first | (simp_all [ZcE]; done) | (simp_all [ZcE] <;> omega) | grind [ZcE]))
 refine Zbs (l.length - (m+1)) (st':=⟨[(1,.p 101 0),(19,.d (lst Rng.ds l)),(20,vI l.length),(21,vI ((m+1):Int))],[(101,some (.box 41 [vI k,.d (lst Rng.ds l),vS key,vI c]))]⟩) (wk [(101,101)] rfl rfl rfl rfl (by repeat (first | refine VH.cons rfl rfl Xh ?_ | refine VH.cons0 ?_ | refine VH.cons rfl rfl (Vb.ob _) ?_ | exact VS.nil | exact VH.nil | exact Vws.nil | refine VS.cons rfl ?_ ?_ | refine VH.cons rfl rfl (Vb.box ?_) ?_ | refine VH.cons rfl rfl (Vb.arr ?_) ?_ | exact Zj _ | refine Vws.cons ?_ ?_ | exact Vw.d _ | exact Vw.p rfl | exact Vw.h rfl | exact Vw.e rfl | exact Vw.s rfl | exact Vw.q _ | refine Vw.a ?_ | refine Vw.t ?_ | exact Vw.nil | exact Vw.fh rfl rfl (Zj _) | exact Vw.fe rfl rfl (Zj _) (Zap (by assumption)) | exact Vw.fe rfl rfl (Zj _) (Xi (by assumption)) | refine Vw.fp0 rfl rfl ?_ | exact Vw.mp rfl | refine VH.cons rfl rfl (Vb.mt _ _) ?_ | exact Vw.sc rfl | exact Vw.un _)) (by repeat (first | refine VH.cons rfl rfl Xh ?_ | refine VH.cons0 ?_ | refine VH.cons rfl rfl (Vb.ob _) ?_ | exact VS.nil | exact VH.nil | exact Vws.nil | refine VS.cons rfl ?_ ?_ | refine VH.cons rfl rfl (Vb.box ?_) ?_ | refine VH.cons rfl rfl (Vb.arr ?_) ?_ | exact Zj _ | refine Vws.cons ?_ ?_ | exact Vw.d _ | exact Vw.p rfl | exact Vw.h rfl | exact Vw.e rfl | exact Vw.s rfl | exact Vw.q _ | refine Vw.a ?_ | refine Vw.t ?_ | exact Vw.nil | exact Vw.fh rfl rfl (Zj _) | exact Vw.fe rfl rfl (Zj _) (Zap (by assumption)) | exact Vw.fe rfl rfl (Zj _) (Xi (by assumption)) | refine Vw.fp0 rfl rfl ?_ | exact Vw.mp rfl | refine VH.cons rfl rfl (Vb.mt _ _) ?_ | exact Vw.sc rfl | exact Vw.un _))) ?_ ⟨m+1,rfl,?_,rfl⟩
 ·omega
 ·refine ⟨by omega,fun j h1 h2=>?_⟩
  by_cases e:j=m
  ·subst e; assumption
  ·exact hP j h1 (by omega)⟩
end Go.Proofs.YtkcmgbbopedacaaGreatDoor
namespace Go.Proofs.YtkcmgbbopedacaaGreatDoor
open Go.RowKit
def mks:List (Value × Value):=[(.int .i64 1,.func (.func 217) #[] #[]),(.int .i64 2,.func (.func 218) #[] #[]),(.int .i64 3,.func (.func 220) #[] #[]),(.int .i64 4,.func (.func 221) #[] #[])]
theorem Zue (k:Int):Zjg (Zna .nilFunc k mks)=decide (k<1∨4<k):=by
 simp only [mks,Zna]
 repeat' split
 all_goals (simp only [Zjg]; symm; first | (rw [decide_eq_false]; omega) | (rw [decide_eq_true]; omega))
theorem ZwZ (k:Int):Zvm (Zna .nilFunc k mks)=true:=by
 simp only [mks,Zna]
 repeat' split
 all_goals rfl
attribute [local irreducible] WK WC WL Wk Rel OpD OpV WD WO Op.bytesLess cmp vk vb vld emp contains
instance Zxl:Ct Tryz.prog 190 [] True (.d (.m mks)):=⟨fun _=>by
 refine Spec.intro Tryz.func190 rfl rfl Tryz.ntmps190 Tryz.results190 rfl fun B w0 ρ0=>?_; simp only [slots,List.map_nil,List.map_cons,Nat.reduceAdd]
 (repeat' (first | refine sw ?_ | (refine swt ?_; intro x τ hx) | (refine sp ?_ ?_ <;> (intro h; (first | (have h2:(_:Bool)=_:=h; clear h2; subst h) | skip); (try simp only [decide_eq_true_eq,decide_eq_false_iff_not,Bool.not_eq_true',Bool.not_eq_false',Kv.eta,Bnd.eta,Rng.eta,Xx] at h); (first | (have h2:(_:Bool)=_:=h; clear h2; subst h) | skip))) | fail))
 all_goals (first | refine Xl rfl (by first | exact trivial | exact Zv rfl rfl (by exact inferInstance) trivial) rfl (by first | exact Vw.fmp rfl rfl rfl | exact Vw.nil | exact Vw.d _ | (repeat (first | exact Vws.nil | apply Vws.cons | exact Vw.nil | exact Vw.d _ | apply Vw.a | apply Vw.t | exact Vw.fh rfl rfl (Zj _) | exact Vw.fh rfl rfl Vws.nil)); done) ?_ | refine Yn rfl (by first | exact trivial | exact Zv rfl rfl (by exact inferInstance) trivial) rfl (by first | exact Vw.fmp rfl rfl rfl | exact Vw.nil | exact Vw.d _ | (repeat (first | exact Vws.nil | apply Vws.cons | exact Vw.nil | exact Vw.d _ | apply Vw.a | apply Vw.t | exact Vw.fh rfl rfl (Zj _) | exact Vw.fh rfl rfl Vws.nil)); done) ?_)
 all_goals exact ⟨rfl,rfl⟩⟩
set_option maxHeartbeats 4000000 in
instance Zr5 (k c:Int) (l:List Rng) (key:ByteArray):Ct Tryz.prog 136 [vQ k l key c] (l.length<1000000) (vI (ZcE k l key c)):=⟨fun hl=>by
 have hmk:=Zue k
 have hfn:=ZwZ k
 refine Spec.intro Tryz.func136 rfl rfl Tryz.ntmps136 Tryz.results136 rfl fun B w0 ρ0=>?_; simp only [slots,List.map_nil,List.map_cons,Nat.reduceAdd]
 (repeat' (first | refine sw ?_ | refine Zy (id:=1) [⟨1,0,[1]⟩,⟨2,2,[6]⟩,⟨0,0,[]⟩,⟨3,7,[5,7]⟩,⟨4,15,[8]⟩] mixed (by kernel_rfl) ?_ | (refine swt ?_; intro x τ hx) | (refine sp ?_ ?_ <;> (intro h; (first | (have h2:(_:Bool)=_:=h; clear h2; subst h) | skip); (try simp only [decide_eq_true_eq,decide_eq_false_iff_not,Bool.not_eq_true',Bool.not_eq_false',Kv.eta,Bnd.eta,Rng.eta,Xx] at h); (first | (have h2:(_:Bool)=_:=h; clear h2; subst h) | skip))) | fail))
 all_goals (try simp only [hmk,decide_eq_true_eq,decide_eq_false_iff_not] at *)
 all_goals (try ((first | refine Xl rfl (by first | exact trivial | exact Zv rfl rfl (by exact inferInstance) trivial) rfl (by first | exact Vw.fmp rfl rfl rfl | exact Vw.nil | exact Vw.d _ | (repeat (first | exact Vws.nil | apply Vws.cons | exact Vw.nil | exact Vw.d _ | apply Vw.a | apply Vw.t | exact Vw.fh rfl rfl (Zj _) | exact Vw.fh rfl rfl Vws.nil)); done) ?_ | refine Yn rfl (by first | exact trivial | exact Zv rfl rfl (by exact inferInstance) trivial) rfl (by first | exact Vw.fmp rfl rfl rfl | exact Vw.nil | exact Vw.d _ | (repeat (first | exact Vws.nil | apply Vws.cons | exact Vw.nil | exact Vw.d _ | apply Vw.a | apply Vw.t | exact Vw.fh rfl rfl (Zj _) | exact Vw.fh rfl rfl Vws.nil)); done) ?_); refine ⟨?_,rfl⟩; (try simp only [Bool.not_eq_true,Bool.not_eq_false,decide_eq_true_eq,decide_eq_false_iff_not] at *); first | (simp_all [ZcE]; done) | (simp_all [ZcE] <;> omega) | grind [ZcE]))
 refine ZaE (fun κ st=>∃ (m:Nat),κ=l.length - m∧(m≤l.length∧∀ j (h:j<l.length),j<m→vld l[j]=true)∧st=⟨[(1,.p 101 0),(15,.d (lst Rng.ds l)),(16,vI l.length),(17,vI (m:Int))],[(101,some (.box 41 [vI k,.d (lst Rng.ds l),vS key,vI c]))]⟩) (l.length - (0)) ⟨[(1,.p 101 0),(15,.d (lst Rng.ds l)),(16,vI l.length),(17,vI ((0):Int))],[(101,some (.box 41 [vI k,.d (lst Rng.ds l),vS key,vI c]))]⟩ (wk [(101,101)] rfl rfl rfl rfl (by repeat (first | refine VH.cons rfl rfl Xh ?_ | refine VH.cons0 ?_ | refine VH.cons rfl rfl (Vb.ob _) ?_ | exact VS.nil | exact VH.nil | exact Vws.nil | refine VS.cons rfl ?_ ?_ | refine VH.cons rfl rfl (Vb.box ?_) ?_ | refine VH.cons rfl rfl (Vb.arr ?_) ?_ | exact Zj _ | refine Vws.cons ?_ ?_ | exact Vw.d _ | exact Vw.p rfl | exact Vw.h rfl | exact Vw.e rfl | exact Vw.s rfl | exact Vw.q _ | refine Vw.a ?_ | refine Vw.t ?_ | exact Vw.nil | exact Vw.fh rfl rfl (Zj _) | exact Vw.fe rfl rfl (Zj _) (Zap (by assumption)) | exact Vw.fe rfl rfl (Zj _) (Xi (by assumption)) | refine Vw.fp0 rfl rfl ?_ | exact Vw.mp rfl | refine VH.cons rfl rfl (Vb.mt _ _) ?_ | exact Vw.sc rfl | exact Vw.un _)) (by repeat (first | refine VH.cons rfl rfl Xh ?_ | refine VH.cons0 ?_ | refine VH.cons rfl rfl (Vb.ob _) ?_ | exact VS.nil | exact VH.nil | exact Vws.nil | refine VS.cons rfl ?_ ?_ | refine VH.cons rfl rfl (Vb.box ?_) ?_ | refine VH.cons rfl rfl (Vb.arr ?_) ?_ | exact Zj _ | refine Vws.cons ?_ ?_ | exact Vw.d _ | exact Vw.p rfl | exact Vw.h rfl | exact Vw.e rfl | exact Vw.s rfl | exact Vw.q _ | refine Vw.a ?_ | refine Vw.t ?_ | exact Vw.nil | exact Vw.fh rfl rfl (Zj _) | exact Vw.fe rfl rfl (Zj _) (Zap (by assumption)) | exact Vw.fe rfl rfl (Zj _) (Xi (by assumption)) | refine Vw.fp0 rfl rfl ?_ | exact Vw.mp rfl | refine VH.cons rfl rfl (Vb.mt _ _) ?_ | exact Vw.sc rfl | exact Vw.un _))) ⟨0,rfl,?_,rfl⟩ ?_; rotate_left; rintro κ _ ⟨m,rfl,hP,rfl⟩; rotate_left
 ·exact ⟨by omega,fun j _ h=>by omega⟩
 obtain ⟨hm,hP⟩:=hP
 (repeat' (first | refine sw ?_ | refine Zy (id:=1) [⟨1,0,[1]⟩,⟨2,2,[6]⟩,⟨0,0,[]⟩,⟨3,7,[5,7]⟩,⟨4,15,[8]⟩] mixed (by kernel_rfl) ?_ | (refine swt ?_; intro x τ hx) | (refine sp ?_ ?_ <;> (intro h; (first | (have h2:(_:Bool)=_:=h; clear h2; subst h) | skip); (try simp only [decide_eq_true_eq,decide_eq_false_iff_not,Bool.not_eq_true',Bool.not_eq_false',Kv.eta,Bnd.eta,Rng.eta,Xx] at h); (first | (have h2:(_:Bool)=_:=h; clear h2; subst h) | skip))) | fail))
 all_goals (try (have hA:=ZtN hP (by omega)))
 all_goals (try (have hA:=Zpt (p:=vld) (l:=l) (m:=m) (by omega) (by simp only [Rng.eta, *]; rfl)))
 all_goals (try ((first | refine Xl rfl (by first | exact trivial | exact Zv rfl rfl (by exact inferInstance) trivial) rfl (by first | exact Vw.fmp rfl rfl rfl | exact Vw.nil | exact Vw.d _ | (repeat (first | exact Vws.nil | apply Vws.cons | exact Vw.nil | exact Vw.d _ | apply Vw.a | apply Vw.t | exact Vw.fh rfl rfl (Zj _) | exact Vw.fh rfl rfl Vws.nil)); done) ?_ | refine Yn rfl (by first | exact trivial | exact Zv rfl rfl (by exact inferInstance) trivial) rfl (by first | exact Vw.fmp rfl rfl rfl | exact Vw.nil | exact Vw.d _ | (repeat (first | exact Vws.nil | apply Vws.cons | exact Vw.nil | exact Vw.d _ | apply Vw.a | apply Vw.t | exact Vw.fh rfl rfl (Zj _) | exact Vw.fh rfl rfl Vws.nil)); done) ?_); refine ⟨?_,rfl⟩; (try simp only [Bool.not_eq_true,Bool.not_eq_false,decide_eq_true_eq,decide_eq_false_iff_not] at *); first | (simp_all [ZcE]; done) | (simp_all [ZcE] <;> omega) | grind [ZcE]))
 refine Zbs (l.length - (m+1)) (st':=⟨[(1,.p 101 0),(15,.d (lst Rng.ds l)),(16,vI l.length),(17,vI ((m+1):Int))],[(101,some (.box 41 [vI k,.d (lst Rng.ds l),vS key,vI c]))]⟩) (wk [(101,101)] rfl rfl rfl rfl (by repeat (first | refine VH.cons rfl rfl Xh ?_ | refine VH.cons0 ?_ | refine VH.cons rfl rfl (Vb.ob _) ?_ | exact VS.nil | exact VH.nil | exact Vws.nil | refine VS.cons rfl ?_ ?_ | refine VH.cons rfl rfl (Vb.box ?_) ?_ | refine VH.cons rfl rfl (Vb.arr ?_) ?_ | exact Zj _ | refine Vws.cons ?_ ?_ | exact Vw.d _ | exact Vw.p rfl | exact Vw.h rfl | exact Vw.e rfl | exact Vw.s rfl | exact Vw.q _ | refine Vw.a ?_ | refine Vw.t ?_ | exact Vw.nil | exact Vw.fh rfl rfl (Zj _) | exact Vw.fe rfl rfl (Zj _) (Zap (by assumption)) | exact Vw.fe rfl rfl (Zj _) (Xi (by assumption)) | refine Vw.fp0 rfl rfl ?_ | exact Vw.mp rfl | refine VH.cons rfl rfl (Vb.mt _ _) ?_ | exact Vw.sc rfl | exact Vw.un _)) (by repeat (first | refine VH.cons rfl rfl Xh ?_ | refine VH.cons0 ?_ | refine VH.cons rfl rfl (Vb.ob _) ?_ | exact VS.nil | exact VH.nil | exact Vws.nil | refine VS.cons rfl ?_ ?_ | refine VH.cons rfl rfl (Vb.box ?_) ?_ | refine VH.cons rfl rfl (Vb.arr ?_) ?_ | exact Zj _ | refine Vws.cons ?_ ?_ | exact Vw.d _ | exact Vw.p rfl | exact Vw.h rfl | exact Vw.e rfl | exact Vw.s rfl | exact Vw.q _ | refine Vw.a ?_ | refine Vw.t ?_ | exact Vw.nil | exact Vw.fh rfl rfl (Zj _) | exact Vw.fe rfl rfl (Zj _) (Zap (by assumption)) | exact Vw.fe rfl rfl (Zj _) (Xi (by assumption)) | refine Vw.fp0 rfl rfl ?_ | exact Vw.mp rfl | refine VH.cons rfl rfl (Vb.mt _ _) ?_ | exact Vw.sc rfl | exact Vw.un _))) ?_ ⟨m+1,rfl,?_,rfl⟩
 ·omega
 ·refine ⟨by omega,fun j h1 h2=>?_⟩
  by_cases e:j=m
  ·subst e; assumption
  ·exact hP j h1 (by omega)⟩
end Go.Proofs.YtkcmgbbopedacaaGreatDoor
namespace Go.Proofs.YtkcmgbbopedacaaGreatDoor
open Go.RowKit
def qrs (k:Int) (l:List Rng) (key:ByteArray):List Rng:=if k=1 then l else if k=2 then [pfx key] else if k=3 then [⟨⟨key,false⟩,⟨⟨#[]⟩,true⟩⟩] else [⟨⟨⟨#[]⟩,false⟩,⟨key,false⟩⟩]
def Yi (k:Int) (l:List Rng) (key:ByteArray) (c:Int):List Rng:=if ZcE k l key c=0 then union (qrs k l key) else []
theorem ZlJ {k c:Int} {l:List Rng} {key:ByteArray} (h:ZcE k l key c=0):(k=1∨k=2∨k=3∨k=4)∧(k≠1→l=[])∧l.length≤64:=by
 unfold ZcE at h
 by_cases a1:k<1∨4<k
 ·simp [a1] at h
 by_cases a2:64<l.length
 ·simp [a1,a2] at h
 by_cases a3:l.all vld=false
 ·rw [if_neg a1,if_neg a2,if_pos a3] at h; omega
 by_cases a4:vk key=false∨(0<l.length∧k≠1)∨(key≠⟨#[]⟩∧k=1)
 ·rw [if_neg a1,if_neg a2,if_neg a3,if_pos a4] at h; omega
 exact ⟨by omega,fun h1=>List.eq_nil_of_length_eq_zero (Nat.eq_zero_of_not_pos fun h2=>a4 (.inr (.inl ⟨h2,h1⟩))),by omega⟩
theorem ZkB:∀ (l:List Rng) (c:Rng),(mrg c l).length≤l.length+1
 | [],c=>by simp [mrg]
 | r::l,c=>by
  unfold mrg
  split
  ·have:=ZkB l ⟨c.lo,greater c.hi r.hi⟩
   simp; omega
  ·have:=ZkB l r
   simp; omega
theorem ZjH (l:List Rng):(union l).length≤l.length:=by
 unfold union
 have h1:((l.filter ne).mergeSort Zfx).length≤l.length:=by rw [List.length_mergeSort]; exact List.length_filter_le _ _
 cases h:(l.filter ne).mergeSort Zfx with
 | nil=>simp [ZdF]
 | cons r l' =>
  rw [h] at h1
  have:=ZkB l' r
  simp only [ZdF,List.length_cons] at h1 ⊢
  omega
def Yj (t:List Kv) (rs:List Rng):List Kv:=rs.flatMap fun r=>t.filter fun x=>contains r x.key
theorem Zed (k:Int) (l:List Rng) (key:ByteArray) (c:Int):(Yi k l key c).length≤64:=by
 unfold Yi
 split
 ·rename_i h
  have hq:=ZlJ h
  refine Nat.le_trans (ZjH _) ?_
  unfold qrs
  split
  ·exact hq.2.2
  split
  ·simp
  split <;> simp
 ·simp
end Go.Proofs.YtkcmgbbopedacaaGreatDoor
namespace Go.Proofs.YtkcmgbbopedacaaGreatDoor
open Go.RowKit
attribute [local irreducible] WK WC WL Wk Rel OpD OpV WD WO Op.bytesLess cmp vk vb vld emp contains
attribute [local irreducible] union pfx
instance ZxI (k c:Int) (l:List Rng) (key:ByteArray):Ct Tryz.prog 217 [vQ k l key c] True (.d (lst Rng.ds l)):=⟨fun _=>by
 refine Spec.intro Tryz.func217 rfl rfl Tryz.ntmps217 Tryz.results217 rfl fun B w0 ρ0=>?_; simp only [slots,List.map_nil,List.map_cons,Nat.reduceAdd]
 (repeat' (first | refine sw ?_ | (refine swt ?_; intro x τ hx) | (refine sp ?_ ?_ <;> (intro h; (first | (have h2:(_:Bool)=_:=h; clear h2; subst h) | skip); (try simp only [decide_eq_true_eq,decide_eq_false_iff_not,Bool.not_eq_true',Bool.not_eq_false',Kv.eta,Bnd.eta,Rng.eta,Xx] at h); (first | (have h2:(_:Bool)=_:=h; clear h2; subst h) | skip))) | fail))
 all_goals (first | refine Xl rfl (by first | exact trivial | exact Zv rfl rfl (by exact inferInstance) trivial) rfl (by first | exact Vw.fmp rfl rfl rfl | exact Vw.nil | exact Vw.d _ | (repeat (first | exact Vws.nil | apply Vws.cons | exact Vw.nil | exact Vw.d _ | apply Vw.a | apply Vw.t | exact Vw.fh rfl rfl (Zj _) | exact Vw.fh rfl rfl Vws.nil)); done) ?_ | refine Yn rfl (by first | exact trivial | exact Zv rfl rfl (by exact inferInstance) trivial) rfl (by first | exact Vw.fmp rfl rfl rfl | exact Vw.nil | exact Vw.d _ | (repeat (first | exact Vws.nil | apply Vws.cons | exact Vw.nil | exact Vw.d _ | apply Vw.a | apply Vw.t | exact Vw.fh rfl rfl (Zj _) | exact Vw.fh rfl rfl Vws.nil)); done) ?_)
 all_goals exact ⟨rfl,rfl⟩⟩
instance ZxD (k c:Int) (l:List Rng) (key:ByteArray):Ct Tryz.prog 218 [vQ k l key c] True (.d (lst Rng.ds [pfx key])):=⟨fun _=>by
 refine Spec.intro Tryz.func218 rfl rfl Tryz.ntmps218 Tryz.results218 rfl fun B w0 ρ0=>?_; simp only [slots,List.map_nil,List.map_cons,Nat.reduceAdd]
 (repeat' (first | refine Zaq Rng.ds [pfx key] rfl rfl (by simp only [YB,Zq,List.cons_append,List.nil_append,List.append_nil]; exact rfl) rfl rfl rfl rfl rfl rfl ?_ | refine ZeP Rng.ds [pfx key] rfl rfl (by simp only [YB,Zq,List.cons_append,List.nil_append,List.append_nil]; exact rfl) rfl rfl rfl rfl (by first | exact .no rfl | exact .y rfl rfl rfl rfl) rfl rfl ?_ | refine sw ?_ | (refine swt ?_; intro x τ hx) | (refine sp ?_ ?_ <;> (intro h; (first | (have h2:(_:Bool)=_:=h; clear h2; subst h) | skip); (try simp only [decide_eq_true_eq,decide_eq_false_iff_not,Bool.not_eq_true',Bool.not_eq_false',Kv.eta,Bnd.eta,Rng.eta,Xx] at h); (first | (have h2:(_:Bool)=_:=h; clear h2; subst h) | skip))) | fail))
 all_goals (first | refine Xl rfl (by first | exact trivial | exact Zv rfl rfl (by exact inferInstance) trivial) rfl (by first | exact Vw.fmp rfl rfl rfl | exact Vw.nil | exact Vw.d _ | (repeat (first | exact Vws.nil | apply Vws.cons | exact Vw.nil | exact Vw.d _ | apply Vw.a | apply Vw.t | exact Vw.fh rfl rfl (Zj _) | exact Vw.fh rfl rfl Vws.nil)); done) ?_ | refine Yn rfl (by first | exact trivial | exact Zv rfl rfl (by exact inferInstance) trivial) rfl (by first | exact Vw.fmp rfl rfl rfl | exact Vw.nil | exact Vw.d _ | (repeat (first | exact Vws.nil | apply Vws.cons | exact Vw.nil | exact Vw.d _ | apply Vw.a | apply Vw.t | exact Vw.fh rfl rfl (Zj _) | exact Vw.fh rfl rfl Vws.nil)); done) ?_)
 all_goals exact ⟨rfl,rfl⟩⟩
instance ZxB (k c:Int) (l:List Rng) (key:ByteArray):Ct Tryz.prog 220 [vQ k l key c] True (.d (lst Rng.ds [⟨⟨key,false⟩,⟨⟨#[]⟩,true⟩⟩])):=⟨fun _=>by
 refine Spec.intro Tryz.func220 rfl rfl Tryz.ntmps220 Tryz.results220 rfl fun B w0 ρ0=>?_; simp only [slots,List.map_nil,List.map_cons,Nat.reduceAdd]
 (repeat' (first | refine Zaq Rng.ds [⟨⟨key,false⟩,⟨⟨#[]⟩,true⟩⟩] rfl rfl (by simp only [YB,Zq,List.cons_append,List.nil_append,List.append_nil]; exact rfl) rfl rfl rfl rfl rfl rfl ?_ | refine ZeP Rng.ds [⟨⟨key,false⟩,⟨⟨#[]⟩,true⟩⟩] rfl rfl (by simp only [YB,Zq,List.cons_append,List.nil_append,List.append_nil]; exact rfl) rfl rfl rfl rfl (by first | exact .no rfl | exact .y rfl rfl rfl rfl) rfl rfl ?_ | refine sw ?_ | (refine swt ?_; intro x τ hx) | (refine sp ?_ ?_ <;> (intro h; (first | (have h2:(_:Bool)=_:=h; clear h2; subst h) | skip); (try simp only [decide_eq_true_eq,decide_eq_false_iff_not,Bool.not_eq_true',Bool.not_eq_false',Kv.eta,Bnd.eta,Rng.eta,Xx] at h); (first | (have h2:(_:Bool)=_:=h; clear h2; subst h) | skip))) | fail))
 all_goals (first | refine Xl rfl (by first | exact trivial | exact Zv rfl rfl (by exact inferInstance) trivial) rfl (by first | exact Vw.fmp rfl rfl rfl | exact Vw.nil | exact Vw.d _ | (repeat (first | exact Vws.nil | apply Vws.cons | exact Vw.nil | exact Vw.d _ | apply Vw.a | apply Vw.t | exact Vw.fh rfl rfl (Zj _) | exact Vw.fh rfl rfl Vws.nil)); done) ?_ | refine Yn rfl (by first | exact trivial | exact Zv rfl rfl (by exact inferInstance) trivial) rfl (by first | exact Vw.fmp rfl rfl rfl | exact Vw.nil | exact Vw.d _ | (repeat (first | exact Vws.nil | apply Vws.cons | exact Vw.nil | exact Vw.d _ | apply Vw.a | apply Vw.t | exact Vw.fh rfl rfl (Zj _) | exact Vw.fh rfl rfl Vws.nil)); done) ?_)
 all_goals exact ⟨rfl,rfl⟩⟩
instance ZxN (k c:Int) (l:List Rng) (key:ByteArray):Ct Tryz.prog 221 [vQ k l key c] True (.d (lst Rng.ds [⟨⟨⟨#[]⟩,false⟩,⟨key,false⟩⟩])):=⟨fun _=>by
 refine Spec.intro Tryz.func221 rfl rfl Tryz.ntmps221 Tryz.results221 rfl fun B w0 ρ0=>?_; simp only [slots,List.map_nil,List.map_cons,Nat.reduceAdd]
 (repeat' (first | refine Zaq Rng.ds [⟨⟨⟨#[]⟩,false⟩,⟨key,false⟩⟩] rfl rfl (by simp only [YB,Zq,List.cons_append,List.nil_append,List.append_nil]; exact rfl) rfl rfl rfl rfl rfl rfl ?_ | refine ZeP Rng.ds [⟨⟨⟨#[]⟩,false⟩,⟨key,false⟩⟩] rfl rfl (by simp only [YB,Zq,List.cons_append,List.nil_append,List.append_nil]; exact rfl) rfl rfl rfl rfl (by first | exact .no rfl | exact .y rfl rfl rfl rfl) rfl rfl ?_ | refine sw ?_ | (refine swt ?_; intro x τ hx) | (refine sp ?_ ?_ <;> (intro h; (first | (have h2:(_:Bool)=_:=h; clear h2; subst h) | skip); (try simp only [decide_eq_true_eq,decide_eq_false_iff_not,Bool.not_eq_true',Bool.not_eq_false',Kv.eta,Bnd.eta,Rng.eta,Xx] at h); (first | (have h2:(_:Bool)=_:=h; clear h2; subst h) | skip))) | fail))
 all_goals (first | refine Xl rfl (by first | exact trivial | exact Zv rfl rfl (by exact inferInstance) trivial) rfl (by first | exact Vw.fmp rfl rfl rfl | exact Vw.nil | exact Vw.d _ | (repeat (first | exact Vws.nil | apply Vws.cons | exact Vw.nil | exact Vw.d _ | apply Vw.a | apply Vw.t | exact Vw.fh rfl rfl (Zj _) | exact Vw.fh rfl rfl Vws.nil)); done) ?_ | refine Yn rfl (by first | exact trivial | exact Zv rfl rfl (by exact inferInstance) trivial) rfl (by first | exact Vw.fmp rfl rfl rfl | exact Vw.nil | exact Vw.d _ | (repeat (first | exact Vws.nil | apply Vws.cons | exact Vw.nil | exact Vw.d _ | apply Vw.a | apply Vw.t | exact Vw.fh rfl rfl (Zj _) | exact Vw.fh rfl rfl Vws.nil)); done) ?_)
 all_goals exact ⟨rfl,rfl⟩⟩
instance Zxh (k c:Int) (l:List Rng) (key:ByteArray):Ct Tryz.prog 79 [vQ k l key c] (l.length<1000000) (.d (lst Rng.ds (Yi k l key c))):=⟨fun hl=>by
 refine Spec.intro Tryz.func79 rfl rfl Tryz.ntmps79 Tryz.results79 rfl fun B w0 ρ0=>?_; simp only [slots,List.map_nil,List.map_cons,Nat.reduceAdd]
 (repeat' (first | refine Zaq Rng.ds [pfx key] rfl rfl (by simp only [YB,Zq,List.cons_append,List.nil_append,List.append_nil]; exact rfl) rfl rfl rfl rfl rfl rfl ?_ | refine ZeP Rng.ds [pfx key] rfl rfl (by simp only [YB,Zq,List.cons_append,List.nil_append,List.append_nil]; exact rfl) rfl rfl rfl rfl (by first | exact .no rfl | exact .y rfl rfl rfl rfl) rfl rfl ?_ | refine Zaq Rng.ds [⟨⟨key,false⟩,⟨⟨#[]⟩,true⟩⟩] rfl rfl (by simp only [YB,Zq,List.cons_append,List.nil_append,List.append_nil]; exact rfl) rfl rfl rfl rfl rfl rfl ?_ | refine ZeP Rng.ds [⟨⟨key,false⟩,⟨⟨#[]⟩,true⟩⟩] rfl rfl (by simp only [YB,Zq,List.cons_append,List.nil_append,List.append_nil]; exact rfl) rfl rfl rfl rfl (by first | exact .no rfl | exact .y rfl rfl rfl rfl) rfl rfl ?_ | refine Zaq Rng.ds [⟨⟨⟨#[]⟩,false⟩,⟨key,false⟩⟩] rfl rfl (by simp only [YB,Zq,List.cons_append,List.nil_append,List.append_nil]; exact rfl) rfl rfl rfl rfl rfl rfl ?_ | refine ZeP Rng.ds [⟨⟨⟨#[]⟩,false⟩,⟨key,false⟩⟩] rfl rfl (by simp only [YB,Zq,List.cons_append,List.nil_append,List.append_nil]; exact rfl) rfl rfl rfl rfl (by first | exact .no rfl | exact .y rfl rfl rfl rfl) rfl rfl ?_ | refine sw ?_ | (refine swt ?_; intro x τ hx) | (refine sp ?_ ?_ <;> (intro h; (first | (have h2:(_:Bool)=_:=h; clear h2; subst h) | skip); (try simp only [decide_eq_true_eq,decide_eq_false_iff_not,Bool.not_eq_true',Bool.not_eq_false',Kv.eta,Bnd.eta,Rng.eta,Xx] at h); (first | (have h2:(_:Bool)=_:=h; clear h2; subst h) | skip))) | fail))
 all_goals (first | refine Xl rfl (by first | exact trivial | exact Zv rfl rfl (by exact inferInstance) trivial) rfl (by first | exact Vw.fmp rfl rfl rfl | exact Vw.nil | exact Vw.d _ | (repeat (first | exact Vws.nil | apply Vws.cons | exact Vw.nil | exact Vw.d _ | apply Vw.a | apply Vw.t | exact Vw.fh rfl rfl (Zj _) | exact Vw.fh rfl rfl Vws.nil)); done) ?_ | refine Yn rfl (by first | exact trivial | exact Zv rfl rfl (by exact inferInstance) trivial) rfl (by first | exact Vw.fmp rfl rfl rfl | exact Vw.nil | exact Vw.d _ | (repeat (first | exact Vws.nil | apply Vws.cons | exact Vw.nil | exact Vw.d _ | apply Vw.a | apply Vw.t | exact Vw.fh rfl rfl (Zj _) | exact Vw.fh rfl rfl Vws.nil)); done) ?_)
 all_goals (refine ⟨?_,rfl⟩)
 all_goals first
  | (rw [Yi,if_neg h]; rfl)
  | (have hq:=ZlJ (by assumption)
     rw [Yi,if_pos (by assumption),qrs]
     first | rw [if_pos (by omega)] | rw [if_neg (by omega),if_pos (by omega)] | rw [if_neg (by omega),if_neg (by omega),if_pos (by omega)] | rw [if_neg (by omega),if_neg (by omega),if_neg (by omega)])⟩
instance Zxj (k c:Int) (l:List Rng) (key:ByteArray):Ct Tryz.prog 192 [vQ k l key c] (l.length<1000000) (.d (lst Rng.ds (Yi k l key c))):=⟨fun hl=>by
 refine Spec.intro Tryz.func192 rfl rfl Tryz.ntmps192 Tryz.results192 rfl fun B w0 ρ0=>?_; simp only [slots,List.map_nil,List.map_cons,Nat.reduceAdd]
 (repeat' (first | refine sw ?_ | refine Zy (id:=3) [⟨1,0,[1]⟩,⟨2,2,[7]⟩,⟨4,0,[1]⟩,⟨0,0,[]⟩,⟨3,7,[6,8]⟩,⟨5,31,[9,10]⟩,⟨6,63,[11]⟩,⟨7,127,[12]⟩] mixed (by kernel_rfl) ?_ | (refine swt ?_; intro x τ hx) | (refine sp ?_ ?_ <;> (intro h; (first | (have h2:(_:Bool)=_:=h; clear h2; subst h) | skip); (try simp only [decide_eq_true_eq,decide_eq_false_iff_not,Bool.not_eq_true',Bool.not_eq_false',Kv.eta,Bnd.eta,Rng.eta,Xx] at h); (first | (have h2:(_:Bool)=_:=h; clear h2; subst h) | skip))) | fail))
 ·(first | refine Xl rfl (by first | exact trivial | exact Zv rfl rfl (by exact inferInstance) trivial) rfl (by first | exact Vw.fmp rfl rfl rfl | exact Vw.nil | exact Vw.d _ | (repeat (first | exact Vws.nil | apply Vws.cons | exact Vw.nil | exact Vw.d _ | apply Vw.a | apply Vw.t | exact Vw.fh rfl rfl (Zj _) | exact Vw.fh rfl rfl Vws.nil)); done) ?_ | refine Yn rfl (by first | exact trivial | exact Zv rfl rfl (by exact inferInstance) trivial) rfl (by first | exact Vw.fmp rfl rfl rfl | exact Vw.nil | exact Vw.d _ | (repeat (first | exact Vws.nil | apply Vws.cons | exact Vw.nil | exact Vw.d _ | apply Vw.a | apply Vw.t | exact Vw.fh rfl rfl (Zj _) | exact Vw.fh rfl rfl Vws.nil)); done) ?_)
  refine ⟨?_,rfl⟩
  rw [Yi,if_neg h]; rfl
 have hq:=ZlJ h
 rcases hq.1 with rfl | rfl | rfl | rfl
 all_goals (repeat' (first | refine sw ?_ | refine Zy (id:=3) [⟨1,0,[1]⟩,⟨2,2,[7]⟩,⟨4,0,[1]⟩,⟨0,0,[]⟩,⟨3,7,[6,8]⟩,⟨5,31,[9,10]⟩,⟨6,63,[11]⟩,⟨7,127,[12]⟩] mixed (by kernel_rfl) ?_ | (refine swt ?_; intro x τ hx) | (refine sp ?_ ?_ <;> (intro h; (first | (have h2:(_:Bool)=_:=h; clear h2; subst h) | skip); (try simp only [decide_eq_true_eq,decide_eq_false_iff_not,Bool.not_eq_true',Bool.not_eq_false',Kv.eta,Bnd.eta,Rng.eta,Xx] at h); (first | (have h2:(_:Bool)=_:=h; clear h2; subst h) | skip))) | fail))
 all_goals (first | refine Xl rfl (by first | exact trivial | exact Zv rfl rfl (by exact inferInstance) trivial) rfl (by first | exact Vw.fmp rfl rfl rfl | exact Vw.nil | exact Vw.d _ | (repeat (first | exact Vws.nil | apply Vws.cons | exact Vw.nil | exact Vw.d _ | apply Vw.a | apply Vw.t | exact Vw.fh rfl rfl (Zj _) | exact Vw.fh rfl rfl Vws.nil)); done) ?_ | refine Yn rfl (by first | exact trivial | exact Zv rfl rfl (by exact inferInstance) trivial) rfl (by first | exact Vw.fmp rfl rfl rfl | exact Vw.nil | exact Vw.d _ | (repeat (first | exact Vws.nil | apply Vws.cons | exact Vw.nil | exact Vw.d _ | apply Vw.a | apply Vw.t | exact Vw.fh rfl rfl (Zj _) | exact Vw.fh rfl rfl Vws.nil)); done) ?_)
 all_goals (refine ⟨?_,rfl⟩; rw [Yi,if_pos h,qrs]; first | rw [if_pos (by omega)] | rw [if_neg (by omega),if_pos (by omega)] | rw [if_neg (by omega),if_neg (by omega),if_pos (by omega)] | rw [if_neg (by omega),if_neg (by omega),if_neg (by omega)])⟩
end Go.Proofs.YtkcmgbbopedacaaGreatDoor
namespace Go.Proofs.YtkcmgbbopedacaaGreatDoor
open Go.RowKit
def Y8 (q:Zf):Option Int:=if q.Ranges.length<1000000 then some (ZcE q.Kind q.Ranges q.Key q.Count) else none
theorem Zb8 {q:Zf} {y:Int} (hm:Y8 q=some y):Spec Tryz.prog 136 [vQ q.Kind q.Ranges q.Key q.Count] [] fun u h=>u=vI y∧h=[]:=by
 unfold Y8 at hm
 split at hm
 ·obtain rfl:=Option.some.inj hm
  exact (Zr5 _ _ _ _).out (by assumption)
 ·cases hm
def YK (q:Zf):Option (List Rng):=if q.Ranges.length<1000000 then some (Yi q.Kind q.Ranges q.Key q.Count) else none
theorem ZbI {q:Zf} {y:List Rng} (hm:YK q=some y):Spec Tryz.prog 192 [vQ q.Kind q.Ranges q.Key q.Count] [] fun u h=>u=.d (lst Rng.ds y)∧h=[]:=by
 unfold YK at hm
 split at hm
 ·obtain rfl:=Option.some.inj hm
  exact (inferInstance:Ct Tryz.prog 192 [vQ q.Kind q.Ranges q.Key q.Count] _ _).out (by assumption)
 ·cases hm
def Xp (q:Zf):Option (List Rng):=if q.Ranges.length<1000000 then some (Yi q.Kind q.Ranges q.Key q.Count) else none
theorem ZbJ {q:Zf} {y:List Rng} (hm:Xp q=some y):Spec Tryz.prog 79 [vQ q.Kind q.Ranges q.Key q.Count] [] fun u h=>u=.d (lst Rng.ds y)∧h=[]:=by
 unfold Xp at hm
 split at hm
 ·obtain rfl:=Option.some.inj hm
  exact (inferInstance:Ct Tryz.prog 79 [vQ q.Kind q.Ranges q.Key q.Count] _ _).out (by assumption)
 ·cases hm
set_option maxRecDepth 100000
set_option maxHeartbeats 4000000
attribute [local irreducible] WK WC WL Wk Rel OpD OpV WD WO sel bnd Ze app YD lsl ZeM ssl ZhA Zhi Zi9 Zh4 Op.bytesLess
attribute [local irreducible] ZcE Yi union
def Qb (t1:List Kv):List Rng→List Kv→Option (List Kv)
 | [],rows6 =>
 some rows6
 | r7::xs8,rows6 =>
 Ze (YO t1 r7) fun y10 =>
 Ze (app rows6 y10) fun l11 =>
 Qb t1 xs8 l11
def ZbO (t1:List Kv) (q2:Zf):Option (Yq × Int) :=
 bnd (XT q2) fun y3 =>
 sel (!decide (y3=0)) (
  some ((Yq.mk [] (Y5.mk 0 0 0 0 0 ⟨#[]⟩ ⟨#[]⟩)),y3)) (
  Ze (Y7 t1) fun y4 =>
  sel (!y4) (
   some ((Yq.mk [] (Y5.mk 0 0 0 0 0 ⟨#[]⟩ ⟨#[]⟩)),1)) (
   Ze (Xp q2) fun y5 =>
   Ze (
    Qb t1 y5 []:Option (List Kv)) fun rows12 =>
   Ze (Zb2 q2 rows12) fun y13 =>
   Ze (ZaM y13) fun y14 =>
   some ((Yq.mk y13 y14),0)))
instance Zn9 {t1} {q2}:SpO (ZbO t1 q2) fun y=>Sp 36 [.d (lst Kv.ds t1),.a (Zf.vs q2)] [] (.t [.a (Yq.vs y.1),vI y.2]) []:=⟨fun hm=>by
 refine si Tryz.func36 Tryz.ntmps36 Tryz.results36 fun B w0 ρ0=>?_
 refine bp hm fun y3 hm=>?_
 refine co hm (fun hm=>?_) fun hm=>?_
 ·exact YF hm
 refine bo hm fun y4 hm=>?_
 refine co hm (fun hm=>?_) fun hm=>?_
 ·exact YF hm
 refine sx ?_
 refine sr ?_
 refine sr ?_
 obtain ⟨y5,hy,hm⟩:=ZH hm
 refine Zhp (ZbJ (hm:=hy)) ?_
 refine ss ?_
 refine jo1 hm [3,4] [103,104] (fun rows12=>[(7,.d (lst Kv.ds rows12))]) (fun _ hm hm1=>?_) (fun rows12 hm=>?_)
 ·refine Zm ?_
  refine ZbW (ZbY 7 5001 154 2 rfl rfl) ?_
  refine lr1 hm1 21 [0,3,4,21,22] [103,104] (fun m9 rows6=>[(7,.h 5001),(23,vI (m9:Int))]) (fun hlenm9 m9 rows6 r7 hltm9 hxm9 hm1=>?_) (fun m9 rows6 hm1=>?_) (B:=(fun m9 rows6=>[(5001,some (YY 154 2 Kv.ds rows6))]))
  ·refine bo hm1 fun y10 hm1=>?_
   refine bo hm1 fun l11 hm1=>?_
   exact Zh5 [(103,103),(104,104),(5001,131)] hm hm1
  exact ZbU hm hm1
 exact az0 hm⟩
end Go.Proofs.YtkcmgbbopedacaaGreatDoor
namespace Go.Proofs.YtkcmgbbopedacaaGreatDoor
open Go.RowKit
theorem ZA {a:Int} (h1 : -9223372036854775808≤a) (h2:a≤9223372036854775807):ZJ a=a:=w64 h1 h2
theorem Zmb (a:Int) : -9223372036854775808≤ZJ a∧ZJ a≤9223372036854775807:=by
 constructor
 ·simp [ZJ,IntKind.wrap,IntKind.bits,IntKind.signed]; split <;> omega
 ·simp [ZJ,IntKind.wrap,IntKind.bits,IntKind.signed]; split <;> omega
theorem ZpR (a:Int):ZJ (ZJ a)=ZJ a:=ZA (Zmb a).1 (Zmb a).2
theorem Zd {α:Type} (x y:α):sel true x y=x:=rfl
theorem Zb {α:Type} (x y:α):sel false x y=y:=rfl
theorem ZbF (a b:Bool):sel a b false=(a && b):=by cases a <;> rfl
theorem ZlF (a b:Bool):sel a true b=(a || b):=by cases a <;> rfl
theorem QV (k:ByteArray):YN k=vk k:=by simp [YN,vk]; omega
theorem Qm (b:Bnd):Yr b=vb b:=by
 simp only [Yr,Zn,QV,vb,ZbF,ZlF]
 congr 2
 rcases b with ⟨⟨⟨l⟩⟩,t⟩
 cases l <;> simp [ByteArray.toList_eq]
theorem Zw (a b:Bnd):Zl a b=cmp a b:=by
 rcases a with ⟨a,s⟩
 rcases b with ⟨b,t⟩
 have hi:=YA a.toList
 have hs:bl a b=true→bl b a=false:=fun h=>by
  cases h2:bl b a with
  | false=>rfl
  | true=>have:=Yx h h2; rw [hi] at this; cases this
 simp only [Zl,Zn,ZM,cmp,Bnd.lt]
 cases s <;> cases t <;> simp
 all_goals (split <;> simp_all)
theorem ZfN (r:Rng):Zba r=vld r:=by
 simp only [Zba,Zn,Qm,Zw,ZbF,vld,Bool.and_assoc]
theorem Yl (r:Rng):ZV r=emp r:=by
 simp only [ZV,Zn,ZfN,Zw,ZlF,emp]
 congr 1
theorem ZbK (r:Rng) (k:ByteArray):Qr r k=contains r k:=by
 simp only [Qr,Zn,Yl,QV,Zw,ZbF,contains,Bool.and_assoc]
theorem Zan (k:ByteArray):YT k=vk k:=by simp [YT,vk]; omega
theorem Qn (b:Bnd):Z4 b=vb b:=by
 simp only [Z4,Zn,Zan,vb,ZbF,ZlF]
 congr 2
 rcases b with ⟨⟨⟨l⟩⟩,t⟩
 cases l <;> simp [ByteArray.toList_eq]
theorem ZG (a b:Bnd):Zk a b=cmp a b:=by
 rcases a with ⟨a,s⟩
 rcases b with ⟨b,t⟩
 have hi:=YA a.toList
 have hs:bl a b=true→bl b a=false:=fun h=>by
  cases h2:bl b a with
  | false=>rfl
  | true=>have:=Yx h h2; rw [hi] at this; cases this
 simp only [Zk,Zn,ZM,cmp,Bnd.lt]
 cases s <;> cases t <;> simp
 all_goals (split <;> simp_all)
theorem ZbR (r:Rng):Zau r=vld r:=by
 simp only [Zau,Zn,Qn,ZG,ZbF,vld,Bool.and_assoc]
theorem ZT (r:Rng):ZU r=emp r:=by
 simp only [ZU,Zn,ZbR,ZG,ZlF,emp]
 congr 1
theorem Zal (r:Rng) (k:ByteArray):Xz r k=contains r k:=by
 simp only [Xz,Zn,ZT,Zan,ZG,ZbF,contains,Bool.and_assoc]
theorem Yc {α:Type} (l:List α) (m:Nat):YD l (m:Int)=l[m]?:=by
 unfold YD; rw [if_pos (by omega)]; simp
theorem ZW {α:Type} {xs ys:List α} (h:xs.length+ys.length≤4294967296):app xs ys=some (xs++ys):=if_pos h
theorem Zeh {α:Type} {xs:List α} {lo hi:Int} (h:0≤lo∧lo≤hi∧hi≤xs.length):lsl xs lo hi=some ((xs.drop lo.toNat).take (hi.toNat - lo.toNat)):=if_pos h
theorem Zbi (r:Rng):∀ (t out:List Kv),t.length+out.length≤4294967296→XK r t out=some (out++t.filter fun x=>contains r x.key)
 | [],out,_=>by simp [XK]
 | x::t,out,h=>by
  simp only [List.length_cons] at h
  rw [XK.eq_2,Zn,ZM]
  have hk:(@contains r x.key)=true∨contains r x.key=false:=by cases contains r x.key <;> simp
  first
   | rw [Zal]
   | rw [ZbK]
  rcases hk with hk | hk
  ·rw [if_pos hk,ZW (by simp; omega),Za,Zbi r t _ (by simp; omega),List.filter_cons,if_pos hk,List.append_assoc]; rfl
  ·rw [if_neg (by simp [hk]),Zbi r t _ (by omega),List.filter_cons,if_neg (by simp [hk])]
theorem Zbo (r:Rng) (t:List Kv) (h:t.length≤4294967296):ZaA t r=some (t.filter fun x=>contains r x.key):=by
 rw [ZaA,Zbi r t [] (by simpa using h),Za]; rfl
theorem Zbj (r:Rng):∀ (t out:List Kv),t.length+out.length≤4294967296→XJ r t out=some (out++t.filter fun x=>contains r x.key)
 | [],out,_=>by simp [XJ]
 | x::t,out,h=>by
  simp only [List.length_cons] at h
  rw [XJ.eq_2,Zn,ZM]
  have hk:(@contains r x.key)=true∨contains r x.key=false:=by cases contains r x.key <;> simp
  first
   | rw [Zal]
   | rw [ZbK]
  rcases hk with hk | hk
  ·rw [if_pos hk,ZW (by simp; omega),Za,Zbj r t _ (by simp; omega),List.filter_cons,if_pos hk,List.append_assoc]; rfl
  ·rw [if_neg (by simp [hk]),Zbj r t _ (by omega),List.filter_cons,if_neg (by simp [hk])]
theorem Zbp (r:Rng) (t:List Kv) (h:t.length≤4294967296):YO t r=some (t.filter fun x=>contains r x.key):=by
 rw [YO,Zbj r t [] (by simpa using h),Za]; rfl
def okT (τ:ZC):Prop:=τ.l.length≤600∧0≤τ.at_∧τ.at_≤τ.l.length
theorem Zxg (l:List Int):∃ τ,ZeV l=some τ∧okT τ:=by
 unfold ZeV
 rw [ZM]
 split
 ·rename_i h
  simp only [decide_eq_true_eq] at h
  rw [Zeh (by omega),Za]
  exact ⟨_,rfl,by simp [okT]; omega⟩
 ·rename_i h
  simp only [decide_eq_true_eq] at h
  exact ⟨_,rfl,by simp [okT]; omega⟩
theorem Zu1 {a b:Int} (h:b≠0):Zh4 a b=some (a.tmod b):=if_neg h
theorem Zxf (v n:Int) (h1:1≤n) (h2:n≤9223372036854775807):∃ x,Zgn v n=some x∧0≤x∧x<n:=by
 have g1:=Int.lt_tmod_of_pos v (show 0<n by omega)
 have g2:=Int.tmod_lt_of_pos v (show 0<n by omega)
 unfold Zgn
 rw [Zu1 (by omega),Za,ZM]
 split
 ·rename_i h
  simp only [decide_eq_true_eq] at h
  exact ⟨_,rfl,by rw [ZA] <;> omega,by rw [ZA] <;> omega⟩
 ·rename_i h
  simp only [decide_eq_true_eq] at h
  exact ⟨_,rfl,by omega,by omega⟩
def Cho (n r:Int):Prop:=0≤r∧(1≤n→r<n)∧(n<1→r=0)
theorem ZaF {τ:ZC} (h:okT τ) (n:Int) (h2:n≤9223372036854775807):∃ x τ',Zt τ n=some (x,τ')∧okT τ'∧Cho n x:=by
 obtain ⟨g1,g2,g3⟩:=h
 unfold Zt
 simp only [ZM]
 by_cases a1:n<1
 ·simp only [a1,decide_true,if_true,Za]
  exact ⟨_,_,rfl,⟨g1,g2,g3⟩,by unfold Cho; omega⟩
 by_cases a2:(τ.l.length:Int)≤τ.at_
 ·simp only [a1,a2,decide_true,decide_false,Bool.false_eq_true,if_false,if_true,Za]
  exact ⟨_,_,rfl,⟨g1,g2,g3⟩,by unfold Cho; omega⟩
 ·simp only [a1,a2,decide_true,decide_false,Bool.false_eq_true,if_false,Za]
  have e1:ZJ (τ.at_+1)=τ.at_+1:=ZA (by omega) (by omega)
  have e2:ZJ (τ.at_+1 - 1)=τ.at_:=by rw [ZA (by omega) (by omega)]; omega
  obtain ⟨m,hm⟩:=Int.eq_ofNat_of_zero_le g2
  rw [e1,e2,hm,Yc,List.getElem?_eq_getElem (by omega),Za]
  obtain ⟨x,hx,h3,h4⟩:=Zxf τ.l[m] n (by omega) h2
  rw [hx,Za]
  exact ⟨_,_,rfl,⟨g1,by simp only; omega,by simp only; omega⟩,by unfold Cho; omega⟩
theorem Zih {τ:ZC} (h:okT τ) (n:Int) (h2:n≤9223372036854775807):∃ b τ',ZF τ n=some (b,τ')∧okT τ':=by
 obtain ⟨x,τ',e,h',-⟩:=ZaF h n h2
 exact ⟨_,_,by unfold ZF; rw [e,Za],h'⟩
theorem ZuB {τ:ZC} (h:okT τ) (l:List Int) (h1:0<l.length) (h2:l.length≤1000):∃ x τ',Zbm τ l=some (x,τ')∧okT τ'∧x ∈ l:=by
 obtain ⟨x,τ',e,h',h3⟩:=ZaF h (l.length:Int) (by omega)
 unfold Cho at h3
 unfold Zbm
 obtain ⟨m,rfl⟩:=Int.eq_ofNat_of_zero_le h3.1
 rw [e,Za]
 simp only
 rw [Yc,List.getElem?_eq_getElem (by omega),Za]
 exact ⟨_,_,rfl,h',List.getElem_mem _⟩
theorem Zpc {s t:ByteArray} (h:s.size+t.size≤9223372036854775807):ZhA s t=some (s++t):=if_pos h
theorem ZhQ (s:ByteArray) (n:Int) (hs:s.size≤100) (hn:n≤1000):∀ (k fuel:Nat) (out:ByteArray) (i:Int),0≤i→n - i=k→k<fuel→(out.size:Int)≤100 * i→∃ r,ZbB s n fuel out i=some r∧r.size=out.size+k * s.size
 | _,0,_,_,_,_,h,_=>absurd h (by omega)
 | 0,fuel+1,out,i,h0,h1,_,h2=>by
  rw [ZbB.eq_2,ZM,if_neg (by simp; omega)]
  exact ⟨out,rfl,by simp⟩
 | k+1,fuel+1,out,i,h0,h1,h3,h2=>by
  rw [ZbB.eq_2,ZM,if_pos (by simp; omega),Zpc (by omega),Za,ZA (by omega) (by omega)]
  obtain ⟨r,e,h4⟩:=ZhQ s n hs hn k fuel (out++s) (i+1) (by omega) (by omega) (by omega) (by rw [ByteArray.size_append]; omega)
  exact ⟨r,e,by rw [h4,ByteArray.size_append,Nat.succ_mul]; omega⟩
theorem ZkL (s:ByteArray) (n:Nat) (hs:s.size≤100) (hn:n≤1000):∃ r,ZcJ s n=some r∧r.size=n * s.size:=by
 obtain ⟨r,e,h⟩:=ZhQ s n hs (by omega) n FU ⟨#[]⟩ 0 (by omega) (by omega) (by unfold FU; omega) (by decide)
 refine ⟨r,by unfold ZcJ; rw [e,Za],?_⟩
 rw [h]
 have:(⟨#[]⟩:ByteArray).size=0:=rfl
 rw [this]; simp
theorem ZkM {i:Int} (h:Cho 6 i):∃ s,Zhi i=some s∧s.size≤1:=by
 unfold Cho at h
 unfold Zhi
 rw [if_pos ⟨h.1,h.2.1 (by omega)⟩]
 exact ⟨_,rfl,ZdM _⟩
theorem Zjr:∀ (fuel:Nat) (l:List Int) (a:Int) (out:ByteArray) (i:Int),okT ⟨l,a⟩→i.toNat<fuel→i≤3→(out.size:Int)+max i 0≤3→∃ k l' a',Zaj fuel l a out i=some (k,l',a')∧okT ⟨l',a'⟩∧k.size≤3
 | 0,_,_,_,_,_,h1,_,_=>absurd h1 (by omega)
 | fuel+1,l,a,out,i,h,h1,h2,h3=>by
  rw [Zaj.eq_2,ZM]
  by_cases hi:0<i
  ·simp only [hi,decide_true,if_true,Za,ZB]
   obtain ⟨x,τ',e,h',hx⟩:=ZaF h 6 (by omega)
   rw [e,Za]
   obtain ⟨s,es,hs⟩:=ZkM hx
   simp only
   rw [es,Za,Zpc (by omega),Za,ZA (by omega) (by omega)]
   exact Zjr fuel _ _ _ _ h' (by omega) (by omega) (by rw [ByteArray.size_append]; omega)
  ·simp only [hi,decide_false,Bool.false_eq_true,if_false,Za,Yo]
   exact ⟨_,_,_,rfl,h,by omega⟩
theorem Zji {τ:ZC} (h:okT τ):∃ k τ',Xq τ=some (k,τ')∧okT τ'∧k.size≤64:=by
 unfold Xq
 obtain ⟨x,τ1,e1,h1,hx⟩:=ZaF h 12 (by omega)
 rw [e1,Za,ZM]
 simp only
 by_cases c1:x=10
 ·rw [if_pos (by simpa using c1)]
  obtain ⟨y,τ2,e2,h2,hy⟩:=ZaF h1 6 (by omega)
  rw [e2,Za]
  obtain ⟨s,es,hs⟩:=ZkM hy
  obtain ⟨r,er,hr⟩:=ZkL s 64 (by omega) (by omega)
  simp only
  rw [es,Za,show (64:Int)=((64:Nat):Int) from rfl,er,Za]
  exact ⟨_,_,rfl,h2,by rw [hr]; omega⟩
 ·rw [if_neg (by simpa using c1),ZM]
  by_cases c2:x=11
  ·rw [if_pos (by simpa using c2)]
   exact ⟨_,_,rfl,h1,by decide⟩
  ·rw [if_neg (by simpa using c2)]
   obtain ⟨y,τ2,e2,h2,hy⟩:=ZaF h1 3 (by omega)
   unfold Cho at hy
   rw [e2,Za]
   simp only
   rw [ZA (by omega) (by omega)]
   have hz:(⟨#[]⟩:ByteArray).size=0:=rfl
   obtain ⟨k,l',a',e,h3,hk⟩:=Zjr FU τ2.l τ2.at_ ⟨#[]⟩ (1+y) h2 (by unfold FU; omega) (by omega) (by rw [hz]; omega)
   rw [e,Za]
   exact ⟨_,_,rfl,h3,by simp only; omega⟩
theorem Zp0 {τ:ZC} (h:okT τ):∃ k τ',Zae τ=some (k,τ')∧okT τ'∧k.size≤65:=by
 unfold Zae
 obtain ⟨b,τ1,e1,h1⟩:=Zih h 10 (by omega)
 rw [e1,Za,ZM]
 simp only
 split
 ·obtain ⟨y,τ2,e2,h2,hy⟩:=ZaF h1 6 (by omega)
  rw [e2,Za]
  obtain ⟨s,es,hs⟩:=ZkM hy
  obtain ⟨r,er,hr⟩:=ZkL s 65 (by omega) (by omega)
  simp only
  rw [es,Za,show (65:Int)=((65:Nat):Int) from rfl,er,Za]
  exact ⟨_,_,rfl,h2,by rw [hr]; omega⟩
 ·obtain ⟨k,τ2,e2,h2,hk⟩:=Zji h1
  rw [e2,Za]
  exact ⟨_,_,rfl,h2,by simp only; omega⟩
theorem Ziv {τ:ZC} (h:okT τ):∃ b τ',Xc τ=some (b,τ')∧okT τ'∧b.key.size≤65:=by
 unfold Xc
 obtain ⟨x,τ1,e1,h1,hx⟩:=ZaF h 9 (by omega)
 rw [e1,Za,ZM]
 simp only
 split
 ·exact ⟨_,_,rfl,h1,by decide⟩
 ·rw [ZM]
  split
  ·obtain ⟨k,τ2,e2,h2,hk⟩:=Zp0 h1
   obtain ⟨b,τ3,e3,h3⟩:=Zih h2 3 (by omega)
   rw [e2,Za]; simp only; rw [e3,Za]
   exact ⟨_,_,rfl,h3,hk⟩
  ·obtain ⟨k,τ2,e2,h2,hk⟩:=Zji h1
   rw [e2,Za]
   exact ⟨_,_,rfl,h2,by simp only; omega⟩
theorem ZsC {τ:ZC} (h:okT τ):∃ r τ',Za2 τ=some (r,τ')∧okT τ'∧r.lo.key.size≤65∧r.hi.key.size≤65:=by
 unfold Za2
 obtain ⟨a,τ1,e1,h1,ha⟩:=Ziv h
 obtain ⟨b,τ2,e2,h2,hb⟩:=Ziv h1
 obtain ⟨c,τ3,e3,h3⟩:=Zih h2 6 (by omega)
 rw [e1,Za]; simp only; rw [e2,Za]; simp only; rw [e3,Za]
 simp only [ZM]
 repeat' split
 all_goals first | exact ⟨_,_,rfl,h3,ha,hb⟩ | exact ⟨_,_,rfl,h3,hb,ha⟩
theorem ZpT {τ:ZC} (h:okT τ):∃ r τ',Zaf τ=some (r,τ')∧okT τ'∧emp r=false:=by
 unfold Zaf
 obtain ⟨r,τ1,e1,h1,-⟩:=ZsC h
 rw [e1,Za,Zn,ZT,ZM]
 split
 ·exact ⟨_,_,rfl,h1,by kernel_rfl⟩
 ·rename_i hne
  exact ⟨_,_,rfl,h1,by simpa using hne⟩
theorem Zsc {τ:ZC} (h:okT τ):∃ v τ',Za7 τ=some (v,τ')∧okT τ'∧v.size≤64:=by
 unfold Za7
 obtain ⟨x,τ1,e1,h1,hx⟩:=ZaF h 9 (by omega)
 rw [e1,Za,ZM]
 simp only
 split
 ·exact ⟨_,_,rfl,h1,by decide⟩
 rw [ZM]
 split
 ·obtain ⟨r,er,hr⟩:=ZkL ⟨#[57]⟩ 64 (by decide) (by omega)
  rw [show (64:Int)=((64:Nat):Int) from rfl,er,Za]
  exact ⟨_,_,rfl,h1,by rw [hr]; decide⟩
 rw [ZM]
 split
 ·exact ⟨_,_,rfl,h1,by decide⟩
 ·obtain ⟨y,τ2,e2,h2,hy⟩:=ZaF h1 6 (by omega)
  unfold Cho at hy
  rw [e2,Za]
  simp only
  obtain ⟨m,rfl⟩:=Int.eq_ofNat_of_zero_le hy.1
  rw [Yc]
  have hm:m=0∨m=1∨m=2∨m=3∨m=4∨m=5:=by omega
  rcases hm with rfl | rfl | rfl | rfl | rfl | rfl <;> exact ⟨_,_,rfl,h2,by decide⟩
end Go.Proofs.YtkcmgbbopedacaaGreatDoor
namespace Go.Proofs.YtkcmgbbopedacaaGreatDoor
open Go.RowKit
attribute [local irreducible] tpb
def ins (x:Kv):List Kv→List Kv
 | []=>[x]
 | r::t=>if bl x.key r.key then x::r::t else r::ins x t
def ZeS (k:ByteArray) (l:List Kv):List Kv:=l.filter fun r=>!decide (r.key=k)
def wth (x:Kv) (l:List Kv):List Kv:=ins x (ZeS x.key l)
theorem Zpn (x:Kv) (l:List Kv):(ins x l).length=l.length+1:=by
 induction l with
 | nil=>rfl
 | cons r t ih=>simp only [ins]; split <;> simp [ih]
theorem Zu5 (x:Kv) (l:List Kv):(wth x l).length≤l.length+1:=by
 rw [wth,Zpn]; have:=List.length_filter_le (fun r:Kv=>!decide (r.key=x.key)) l; unfold ZeS; omega
attribute [local irreducible] WK WC WL Wk Rel OpD OpV WD WO Op.bytesLess cmp vk vb vld emp contains
def put (x:Kv) (l:List Kv):List Kv × Int:=if Yu l && ZhB x then (if 1024<(wth x l).length then ([],16) else (wth x l,0)) else ([],1)
theorem Znn (x:Kv):Yu [x]=ZhB x:=by
 simp [Yu,ZqX,List.range_succ]
theorem XC (l:List Kv):Yu l=true↔l.length≤1024∧(∀ r ∈ l,ZhB r=true)∧l.Pairwise (fun a b=>bl a.key b.key=true):=by
 constructor
 ·intro h
  simp only [Yu,Bool.and_eq_true,decide_eq_true_eq,List.all_eq_true,List.mem_range] at h
  obtain ⟨h0,h⟩:=h
  have h':∀ m (hm:m<l.length),ZhB l[m]=true∧(m=0∨bl (l[m - 1]'(by omega)).key l[m].key=true):=fun m hm=>by
   have:=h m hm
   rw [ZkR hm] at this
   simpa using this
  refine ⟨h0,fun r hr=>?_,?_⟩
  ·obtain ⟨m,hm,rfl⟩:=List.mem_iff_getElem.1 hr
   exact (h' m hm).1
  ·rw [List.pairwise_iff_getElem]
   intro i j hi hj hij
   obtain ⟨d,rfl⟩:=Nat.exists_eq_add_of_lt hij
   induction d with
   | zero=>simpa using (h' (i+0+1) hj).2
   | succ d ih =>
    have h1:=ih (by omega) (by omega)
    have h2:=(h' (i+(d+1)+1) hj).2
    simp only [Nat.add_eq_zero_iff,Nat.one_ne_zero,and_false,false_or,Nat.add_sub_cancel] at h2
    exact Yx h1 h2
 ·rintro ⟨h0,h1,h2⟩
  refine Zsd h0 fun j hj=>?_
  rw [ZkR hj,h1 _ (List.getElem_mem _)]
  rw [List.pairwise_iff_getElem] at h2
  by_cases e:j=0
  ·simp [e]
  ·simp [h2 (j - 1) j (by omega) hj (by omega)]
theorem ZkF {x r:Kv} {l:List Kv}:r ∈ ins x l↔r=x∨r ∈ l:=by
 induction l with
 | nil=>simp [ins]
 | cons a t ih=>simp only [ins]; split <;> simp [ih]; grind
theorem Zw8 {x:Kv} {l:List Kv} (h:l.Pairwise (fun a b=>bl a.key b.key=true)) (hx:∀ r ∈ l,r.key≠x.key):(ins x l).Pairwise (fun a b=>bl a.key b.key=true):=by
 induction l with
 | nil=>simp [ins]
 | cons a t ih =>
  rw [List.pairwise_cons] at h
  simp only [ins]
  split
  ·rename_i hb
   rw [List.pairwise_cons]
   refine ⟨fun b hb'=>?_,List.pairwise_cons.2 h⟩
   rcases List.mem_cons.1 hb' with rfl | hb'
   ·exact hb
   ·exact Yx hb (h.1 b hb')
  ·rename_i hb
   rw [List.pairwise_cons]
   refine ⟨fun b hb'=>?_,ih h.2 fun r hr=>hx r (List.mem_cons_of_mem _ hr)⟩
   rcases ZkF.1 hb' with rfl | hb'
   ·cases hba:bl a.key b.key with
    | true=>rfl
    | false =>
     have:=YW (by simpa using hb) hba
     have h3:=hx a List.mem_cons_self
     exfalso; apply h3
     have h4:=ZeQ b.key a.key
     simp only [this,BEq.rfl] at h4
     exact (of_decide_eq_true h4.symm).symm
   ·exact h.1 b hb'
theorem Zqo {x:Kv} {l:List Kv} (h:Yu l=true) (hx:ZhB x=true) (hl:l.length<1024):put x l=(wth x l,0)∧Yu (wth x l)=true∧(wth x l).length≤l.length+1:=by
 have h1:=Zu5 x l
 refine ⟨by simp only [put,h,hx,Bool.and_self,if_true]; rw [if_neg (by omega)],?_,h1⟩
 rw [XC] at h ⊢
 obtain ⟨g0,g1,g2⟩:=h
 refine ⟨by omega,fun r hr=>?_,Zw8 (List.Pairwise.filter _ g2) fun r hr=>by simpa using (List.mem_filter.1 hr).2⟩
 rcases ZkF.1 hr with rfl | hr
 ·exact hx
 ·exact g1 r (List.mem_filter.1 hr).1
theorem Zlb {r:Rng} (h:emp r=false):contains r r.lo.key=true:=by
 obtain ⟨⟨a,s⟩,⟨b,t⟩⟩:=r
 have hi:=YA a.toList
 simp only [emp,contains,vld,vb,vk,cmp,Bnd.lt] at *
 cases s <;> cases t <;> simp_all <;> grind
end Go.Proofs.YtkcmgbbopedacaaGreatDoor
