/-
  PathsCuts: the facts about the program that the card of this law asks for; no condition.
-/
import Derived.Test.YtkcmgbbopedacaaGreatDoorRows
import Derived.RowKit
import Derived.JoinedCond
namespace Go.Proofs.YtkcmgbbopedacaaGreatDoor.pathsCuts
open Go.ChangeShapes Go.WideShapes Go.ChangeAt Go.RowKit
set_option maxRecDepth 100000
theorem Zae {a b:Bool} (x:a=true) (y:b=true):(a && b)=true:=by rw [x,y]; rfl
theorem k10:(Rows.pathsCutsRow.inPlace == Tryz.pinned.checked.prog.inPlace 6)=true:=by kernel_rfl
theorem k11:(Rows.pathsCutsRow.unfollowed == Tryz.pinned.checked.prog.unfollowed 6)=true:=by kernel_rfl
theorem k12:(Rows.pathsCutsRow.recurses == Tryz.pinned.checked.prog.recurses 6)=true:=by kernel_rfl
theorem k13:(Rows.pathsCutsRow.named == Tryz.pinned.checked.prog.varsNamed 6)=true:=by kernel_rfl
theorem closed:joinedFacts Tryz.pinned.checked.prog 6 Tryz.f6 (OpenSpec.ofChange Rows.pathsCutsSpec).bare Rows.pathsCutsRow=true:=by
 unfold joinedFacts
 exact (Zae (Zae (Zae (Zae (Zae (Zae (Zae (Zae (Zae (Zae (Zae (Zae (Zae (Zae (Zae (Zae (Zae (Zae (Zae (Zae (Zae (Zae (Zae (Zae (Zae (Zae (Zae (Zae (Zae (Zae (Zae (by kernel_rfl) (by kernel_rfl)) (by kernel_rfl)) (by kernel_rfl)) (by kernel_rfl)) (by kernel_rfl)) (by kernel_rfl)) (by kernel_rfl)) (by kernel_rfl)) k10) k11) k12) k13) (by kernel_rfl)) (by kernel_rfl)) (by kernel_rfl)) (by kernel_rfl)) (by kernel_rfl)) (by kernel_rfl)) (by kernel_rfl)) (by kernel_rfl)) (by kernel_rfl)) (by kernel_rfl)) (by kernel_rfl)) (by kernel_rfl)) (by kernel_rfl)) (by kernel_rfl)) (by kernel_rfl)) (by kernel_rfl)) (by kernel_rfl)) (by kernel_rfl)) (by kernel_rfl))
end Go.Proofs.YtkcmgbbopedacaaGreatDoor.pathsCuts
