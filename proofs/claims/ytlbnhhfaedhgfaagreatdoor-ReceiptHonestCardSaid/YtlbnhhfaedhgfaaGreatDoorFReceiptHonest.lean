/-
  ReceiptHonest: the facts about the program that the card of this law asks for; no condition.
-/
import Derived.Test.YtlbnhhfaedhgfaaGreatDoorRows
import Derived.RowKit
import Derived.JoinedCond
namespace Go.Proofs.YtlbnhhfaedhgfaaGreatDoor.receiptHonest
open Go.ChangeShapes Go.WideShapes Go.ChangeAt Go.RowKit
set_option maxRecDepth 100000
theorem bandd {a b : Bool} (x : a = true) (y : b = true) : (a && b) = true := by rw [x, y]; rfl
theorem k10 : (Rows.receiptHonestRow.inPlace == Tryz.pinned.checked.prog.inPlace 10) = true := by kernel_rfl
theorem k11 : (Rows.receiptHonestRow.unfollowed == Tryz.pinned.checked.prog.unfollowed 10) = true := by kernel_rfl
theorem k12 : (Rows.receiptHonestRow.recurses == Tryz.pinned.checked.prog.recurses 10) = true := by kernel_rfl
theorem k13 : (Rows.receiptHonestRow.named == Tryz.pinned.checked.prog.varsNamed 10) = true := by kernel_rfl
theorem closed : joinedFacts Tryz.pinned.checked.prog 10 Tryz.f10 (OpenSpec.ofChange Rows.receiptHonestSpec).bare Rows.receiptHonestRow = true := by
  unfold joinedFacts
  exact (bandd (bandd (bandd (bandd (bandd (bandd (bandd (bandd (bandd (bandd (bandd (bandd (bandd (bandd (bandd (bandd (bandd (bandd (bandd (bandd (bandd (bandd (bandd (bandd (bandd (bandd (bandd (bandd (bandd (bandd (bandd (by kernel_rfl) (by kernel_rfl)) (by kernel_rfl)) (by kernel_rfl)) (by kernel_rfl)) (by kernel_rfl)) (by kernel_rfl)) (by kernel_rfl)) (by kernel_rfl)) k10) k11) k12) k13) (by kernel_rfl)) (by kernel_rfl)) (by kernel_rfl)) (by kernel_rfl)) (by kernel_rfl)) (by kernel_rfl)) (by kernel_rfl)) (by kernel_rfl)) (by kernel_rfl)) (by kernel_rfl)) (by kernel_rfl)) (by kernel_rfl)) (by kernel_rfl)) (by kernel_rfl)) (by kernel_rfl)) (by kernel_rfl)) (by kernel_rfl)) (by kernel_rfl)) (by kernel_rfl))
end Go.Proofs.YtlbnhhfaedhgfaaGreatDoor.receiptHonest
