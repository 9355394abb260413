/-
  PathsSteps: the facts about the program that the card of this law asks for; no condition.
-/
import Derived.Test.YtkcmgbbopedacaaGreatDoorRows
import Derived.RowKit
import Derived.JoinedCond
namespace Go.Proofs.YtkcmgbbopedacaaGreatDoor.pathsSteps
open Go.ChangeShapes Go.WideShapes Go.ChangeAt Go.RowKit
set_option maxRecDepth 100000
theorem QU {a b:Bool} (x:a=true) (y:b=true):(a && b)=true:=by rw [x,y]; rfl
theorem k10:(Rows.pathsStepsRow.inPlace == Tryz.pinned.checked.prog.inPlace 9)=true:=by kernel_rfl
theorem k11:(Rows.pathsStepsRow.unfollowed == Tryz.pinned.checked.prog.unfollowed 9)=true:=by kernel_rfl
theorem k12:(Rows.pathsStepsRow.recurses == Tryz.pinned.checked.prog.recurses 9)=true:=by kernel_rfl
theorem k13:(Rows.pathsStepsRow.named == Tryz.pinned.checked.prog.varsNamed 9)=true:=by kernel_rfl
theorem closed:joinedFacts Tryz.pinned.checked.prog 9 Tryz.f9 (OpenSpec.ofChange Rows.pathsStepsSpec).bare Rows.pathsStepsRow=true:=by
 unfold joinedFacts
 exact (QU (QU (QU (QU (QU (QU (QU (QU (QU (QU (QU (QU (QU (QU (QU (QU (QU (QU (QU (QU (QU (QU (QU (QU (QU (QU (QU (QU (QU (QU (QU (by kernel_rfl) (by kernel_rfl)) (by kernel_rfl)) (by kernel_rfl)) (by kernel_rfl)) (by kernel_rfl)) (by kernel_rfl)) (by kernel_rfl)) (by kernel_rfl)) k10) k11) k12) k13) (by kernel_rfl)) (by kernel_rfl)) (by kernel_rfl)) (by kernel_rfl)) (by kernel_rfl)) (by kernel_rfl)) (by kernel_rfl)) (by kernel_rfl)) (by kernel_rfl)) (by kernel_rfl)) (by kernel_rfl)) (by kernel_rfl)) (by kernel_rfl)) (by kernel_rfl)) (by kernel_rfl)) (by kernel_rfl)) (by kernel_rfl)) (by kernel_rfl)) (by kernel_rfl))
end Go.Proofs.YtkcmgbbopedacaaGreatDoor.pathsSteps
