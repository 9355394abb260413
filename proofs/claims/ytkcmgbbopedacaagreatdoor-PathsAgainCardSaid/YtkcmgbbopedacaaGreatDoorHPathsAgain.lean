/-
  PathsAgain: for every input the law returns true, and each argument reads afterwards as it read before; package variable letters as the program's text lays it.
-/
import Derived.Test.YtkcmgbbopedacaaGreatDoorPZ14
import Derived.Test.YtkcmgbbopedacaaGreatDoorPZ16
import Derived.Test.YtkcmgbbopedacaaGreatDoorPZ42
import Derived.Test.YtkcmgbbopedacaaGreatDoorJPathsAgain
set_option linter.unusedSimpArgs false
set_option linter.unusedVariables false
namespace Go.Proofs.YtkcmgbbopedacaaGreatDoor.pathsAgain
open Go.ChangeShapes Go.WideShapes Go.ChangeAt Go.RowKit Go.Joins
set_option maxRecDepth 100000
instance ZB3:Opn Tryz.prog 3 dsI (inK .i64):=Zuh Tryz.underlying3
instance ZAT:Opn Tryz.prog 22 (dsL dsI) (ZxS (inK .i64)):=Zp6 (E:=3) Tryz.underlying22 (z:=1) (by kernel_rfl) (by decide)
theorem contract (H:Type) (enc:TypeId × Value→H) (W:World) (base:Nat) (args:Array Value) (ds gs:List (DataW H)) (before:List MemPlace)
   (hval:∀ (j:Nat) t v,Tryz.f8.params[j]?=some t→args[j]?=some v→Value.okWide Tryz.prog W .any base t v)
   (hW:DataW.Whole enc Tryz.prog Tryz.f8.params.toList Rows.pathsAgainSpec.vars false W args.toList ds gs before) (hL:laidMetH Tryz.prog Rows.pathsAgainRow.laid W) :
   Calls Tryz.prog 8 args W fun e W'=>∃ v,e=.returned v∧Rows.pathsAgainSpec.post enc Tryz.prog Tryz.f8 false true false false W args v W':=by
 have hW':=hW
 obtain ⟨p,q,hA0,hV,rfl,hfz,hnd⟩:=hW
 have hA:DataW.TrodAll enc Tryz.prog W 0 (fun _=>true) true Tryz.f8.params.toList args.toList ds p:=hA0
 rw [Tryz.params8] at hA hval
 obtain ⟨v0,vs0,d0,ds0,p0,q0,hargs,rfl,rfl,h0,r0⟩:=trodAll_cons hA
 obtain ⟨rfl,rfl,rfl⟩:=trodAll_nil r0
 obtain rfl:args=#[v0]:=by cases args; simp_all
 obtain ⟨rfl,rfl⟩:=trodVars_none hV
 obtain ⟨x0,hx0,hr0⟩:=Zu7 (f:=(dsL dsI)) (I:=(ZxS (inK .i64))) (by obtain ⟨_,_,_,rfl⟩:=okWide_slice Tryz.underlying22 (hval 0 _ v0 rfl rfl); rfl) h0
 refine (Zla (Zef (l1:=x0) (hm:=ZiV _)) (ZnF hL) (.cons (Zw6 hr0) (.nil))).mono fun e W' ⟨he,hk⟩=>?_
 subst he
 exact ⟨_,rfl,ZsP rfl (by kernel_rfl) (by kernel_rfl) rfl hW' hk⟩
theorem Zr9 (os:Os):laidMet Tryz.prog Rows.pathsAgainRow.laid ((ZgM os).forCall (fun _ _=>0) ⟨#[],#[.slice none 0 0],[]⟩).memory :=
 laidMet_of_run' 8 (by kernel_rfl) (by kernel_rfl)
theorem reads (os:Os) {H:Type} (enc:TypeId × Value→H):∃ ds places,DataW.whole enc Tryz.prog ((ZgM os).forCall (fun _ _=>0) ⟨#[],#[.slice none 0 0],[]⟩).memory Tryz.f8.params.toList Rows.pathsAgainSpec.vars false (#[.slice none 0 0]:Array Value).toList 8=some (ds,[],places) :=
 ⟨[.nil],[],by kernel_rfl⟩
set_option maxRecDepth 100000 in
theorem lifted (os:Os) (started:os.Started) (H:Type) (enc:TypeId × Value→H) (F:Stop.Interp) :
   ReturnsInHanded {} Tryz.checked os 8 .any ((OpenSpec.ofChange Rows.pathsAgainSpec).preRow enc Tryz.prog Tryz.f8 Rows.pathsAgainRow.domain false Rows.pathsAgainRow.laid) (((OpenSpec.ofChange Rows.pathsAgainSpec).at F).post enc Tryz.prog Tryz.f8 false true false false):=by
 obtain ⟨ds,places,hx⟩:=reads os enc
 refine returnsInHanded_of_row (C:=Tryz.checked) (s:=OpenSpec.ofChange Rows.pathsAgainSpec) own started (by kernel_rfl) Tryz.func8
  (witness_row_at (enc:=enc) (C:=Tryz.checked) false (ZgM os) #[.slice none 0 0] rfl (by kernel_rfl) (by kernel_rfl) (by kernel_rfl)
   (OpenSpec.preRow_of_cond 8 hx (by kernel_rfl) (fun k hk=>by cases hk) (by kernel_rfl) (Zr9 os))) ?_
 intro W base args ds gs before hval hW _ _ _ hL _ _
 exact contract H enc W base args ds gs before hval hW hL
theorem said:Rows.PathsAgainSaid :=
 OpenClaim.holds_of_cond 8 Tryz.f8 rfl rfl rfl rfl rfl rfl rfl ⟨rfl,rfl,rfl,rfl,rfl⟩ rfl rfl rfl rfl rfl (by kernel_rfl) Tryz.func8 closed
  (of_decide_eq_true (by kernel_rfl)) (by unfold Func.isWrapper; first | (rw [if_pos (by decide +kernel)]; kernel_rfl) | (rw [if_neg (by decide +kernel)]; exact ⟨rfl,rfl⟩))
  (fun os started H enc _ F=>by rw [OpenClaim.pre_eq_preRow]; exact lifted os started H enc F)
theorem plain (f : FuncId) (fn : Func) (hf : Tryz.pinned.checked.prog.funcNamed "skipgraph/skipgraphlaw30.PathsAgain" = some f) (hfn : Tryz.pinned.checked.prog.funcs[f]? = some fn) :
   false=Tryz.pinned.checked.prog.looks []∧∀ (j:Nat) t,fn.params[j]?=some t→Tryz.pinned.checked.prog.wantsStandIn t=false:=by
 obtain rfl : f = 8 := Option.some.inj ((show Tryz.prog.funcNamed "skipgraph/skipgraphlaw30.PathsAgain" = some 8 by kernel_rfl).symm.trans hf) |>.symm
 obtain rfl:fn=Tryz.f8:=(Option.some.inj (Tryz.func8.symm.trans hfn)).symm
 refine ⟨by kernel_rfl,fun j t ht=>?_⟩
 have hall:(Tryz.f8.params.toList.all fun t=>!Tryz.prog.wantsStandIn t)=true:=by kernel_rfl
 have:=List.all_eq_true.1 hall t (Array.mem_toList_iff.2 (Array.mem_of_getElem? ht))
 exact (by simpa using this:Tryz.prog.wantsStandIn t=false)
theorem card:Rows.PathsAgainCardSaid :=
 Claim7.holds_tied_plain_at .later [] _ _ _ _ said (fun _ h=>by cases h) (by kernel_rfl) (fun _ h=>by cases h) pathsAgain_row_tie rfl ⟨rfl,rfl⟩ (by kernel_rfl) rfl plain (by kernel_rfl)
end Go.Proofs.YtkcmgbbopedacaaGreatDoor.pathsAgain
