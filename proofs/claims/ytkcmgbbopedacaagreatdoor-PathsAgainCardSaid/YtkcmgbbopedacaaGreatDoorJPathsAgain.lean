/-
  PathsAgain: the facts about the program that the card of this law asks for; no condition.
-/
import Derived.Test.YtkcmgbbopedacaaGreatDoorRows
import Derived.RowKit
import Derived.JoinedCond
namespace Go.Proofs.YtkcmgbbopedacaaGreatDoor.pathsAgain
open Go.ChangeShapes Go.WideShapes Go.ChangeAt Go.RowKit
set_option maxRecDepth 100000
theorem Zar {a b:Bool} (x:a=true) (y:b=true):(a && b)=true:=by rw [x,y]; rfl
theorem k10:(Rows.pathsAgainRow.inPlace == Tryz.pinned.checked.prog.inPlace 8)=true:=by kernel_rfl
theorem k11:(Rows.pathsAgainRow.unfollowed == Tryz.pinned.checked.prog.unfollowed 8)=true:=by kernel_rfl
theorem k12:(Rows.pathsAgainRow.recurses == Tryz.pinned.checked.prog.recurses 8)=true:=by kernel_rfl
theorem k13:(Rows.pathsAgainRow.named == Tryz.pinned.checked.prog.varsNamed 8)=true:=by kernel_rfl
theorem closed:joinedFacts Tryz.pinned.checked.prog 8 Tryz.f8 (OpenSpec.ofChange Rows.pathsAgainSpec).bare Rows.pathsAgainRow=true:=by
 unfold joinedFacts
 exact (Zar (Zar (Zar (Zar (Zar (Zar (Zar (Zar (Zar (Zar (Zar (Zar (Zar (Zar (Zar (Zar (Zar (Zar (Zar (Zar (Zar (Zar (Zar (Zar (Zar (Zar (Zar (Zar (Zar (Zar (Zar (by kernel_rfl) (by kernel_rfl)) (by kernel_rfl)) (by kernel_rfl)) (by kernel_rfl)) (by kernel_rfl)) (by kernel_rfl)) (by kernel_rfl)) (by kernel_rfl)) k10) k11) k12) k13) (by kernel_rfl)) (by kernel_rfl)) (by kernel_rfl)) (by kernel_rfl)) (by kernel_rfl)) (by kernel_rfl)) (by kernel_rfl)) (by kernel_rfl)) (by kernel_rfl)) (by kernel_rfl)) (by kernel_rfl)) (by kernel_rfl)) (by kernel_rfl)) (by kernel_rfl)) (by kernel_rfl)) (by kernel_rfl)) (by kernel_rfl)) (by kernel_rfl)) (by kernel_rfl))
end Go.Proofs.YtkcmgbbopedacaaGreatDoor.pathsAgain
