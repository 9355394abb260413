/-
  PathsStarts: the facts about the program that the card of this law asks for; no condition.
-/
import Derived.Test.YticecfoigpcflaaGreatDoorRows
import Derived.RowKit
import Derived.JoinedCond
namespace Go.Proofs.YticecfoigpcflaaGreatDoor.pathsStarts
open Go.ChangeShapes Go.WideShapes Go.ChangeAt Go.RowKit
set_option maxRecDepth 100000
theorem bandd {a b : Bool} (x : a = true) (y : b = true) : (a && b) = true := by rw [x, y]; rfl
theorem k10 : (Rows.pathsStartsRow.inPlace == Tryz.pinned.checked.prog.inPlace 4) = true := by kernel_rfl
theorem k11 : (Rows.pathsStartsRow.unfollowed == Tryz.pinned.checked.prog.unfollowed 4) = true := by kernel_rfl
theorem k12 : (Rows.pathsStartsRow.recurses == Tryz.pinned.checked.prog.recurses 4) = true := by kernel_rfl
theorem k13 : (Rows.pathsStartsRow.named == Tryz.pinned.checked.prog.varsNamed 4) = true := by kernel_rfl
theorem closed : joinedFacts Tryz.pinned.checked.prog 4 Tryz.f4 (OpenSpec.ofChange Rows.pathsStartsSpec).bare Rows.pathsStartsRow = true := by
  unfold joinedFacts
  exact (bandd (bandd (bandd (bandd (bandd (bandd (bandd (bandd (bandd (bandd (bandd (bandd (bandd (bandd (bandd (bandd (bandd (bandd (bandd (bandd (bandd (bandd (bandd (bandd (bandd (bandd (bandd (bandd (bandd (bandd (bandd (by kernel_rfl) (by kernel_rfl)) (by kernel_rfl)) (by kernel_rfl)) (by kernel_rfl)) (by kernel_rfl)) (by kernel_rfl)) (by kernel_rfl)) (by kernel_rfl)) k10) k11) k12) k13) (by kernel_rfl)) (by kernel_rfl)) (by kernel_rfl)) (by kernel_rfl)) (by kernel_rfl)) (by kernel_rfl)) (by kernel_rfl)) (by kernel_rfl)) (by kernel_rfl)) (by kernel_rfl)) (by kernel_rfl)) (by kernel_rfl)) (by kernel_rfl)) (by kernel_rfl)) (by kernel_rfl)) (by kernel_rfl)) (by kernel_rfl)) (by kernel_rfl)) (by kernel_rfl))
end Go.Proofs.YticecfoigpcflaaGreatDoor.pathsStarts
