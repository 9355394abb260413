/-
  PathsSplits: the facts about the program that the card of this law asks for; no condition.
-/
import Derived.Test.YticecfoigpcflaaGreatDoorRows
import Derived.RowKit
import Derived.JoinedCond
namespace Go.Proofs.YticecfoigpcflaaGreatDoor.pathsSplits
open Go.ChangeShapes Go.WideShapes Go.ChangeAt Go.RowKit
set_option maxRecDepth 100000
theorem bandd {a b : Bool} (x : a = true) (y : b = true) : (a && b) = true := by rw [x, y]; rfl
theorem k10 : (Rows.pathsSplitsRow.inPlace == Tryz.pinned.checked.prog.inPlace 3) = true := by kernel_rfl
theorem k11 : (Rows.pathsSplitsRow.unfollowed == Tryz.pinned.checked.prog.unfollowed 3) = true := by kernel_rfl
theorem k12 : (Rows.pathsSplitsRow.recurses == Tryz.pinned.checked.prog.recurses 3) = true := by kernel_rfl
theorem k13 : (Rows.pathsSplitsRow.named == Tryz.pinned.checked.prog.varsNamed 3) = true := by kernel_rfl
theorem closed : joinedFacts Tryz.pinned.checked.prog 3 Tryz.f3 (OpenSpec.ofChange Rows.pathsSplitsSpec).bare Rows.pathsSplitsRow = true := by
  unfold joinedFacts
  exact (bandd (bandd (bandd (bandd (bandd (bandd (bandd (bandd (bandd (bandd (bandd (bandd (bandd (bandd (bandd (bandd (bandd (bandd (bandd (bandd (bandd (bandd (bandd (bandd (bandd (bandd (bandd (bandd (bandd (bandd (bandd (by kernel_rfl) (by kernel_rfl)) (by kernel_rfl)) (by kernel_rfl)) (by kernel_rfl)) (by kernel_rfl)) (by kernel_rfl)) (by kernel_rfl)) (by kernel_rfl)) k10) k11) k12) k13) (by kernel_rfl)) (by kernel_rfl)) (by kernel_rfl)) (by kernel_rfl)) (by kernel_rfl)) (by kernel_rfl)) (by kernel_rfl)) (by kernel_rfl)) (by kernel_rfl)) (by kernel_rfl)) (by kernel_rfl)) (by kernel_rfl)) (by kernel_rfl)) (by kernel_rfl)) (by kernel_rfl)) (by kernel_rfl)) (by kernel_rfl)) (by kernel_rfl)) (by kernel_rfl))
end Go.Proofs.YticecfoigpcflaaGreatDoor.pathsSplits
