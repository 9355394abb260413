/-
  AuditRefuses: the facts about the program that the card of this law asks for; no condition.
-/
import Derived.Test.YtohpjdeohpamaaaGreatDoorRows
import Derived.RowKit
import Derived.JoinedCond
namespace Go.Proofs.YtohpjdeohpamaaaGreatDoor.auditRefuses
open Go.ChangeShapes Go.WideShapes Go.ChangeAt Go.RowKit
set_option maxRecDepth 100000
theorem bandd {a b : Bool} (x : a = true) (y : b = true) : (a && b) = true := by rw [x, y]; rfl
theorem k10 : (Rows.auditRefusesRow.inPlace == Tryz.pinned.checked.prog.inPlace 7) = true := by kernel_rfl
theorem k11 : (Rows.auditRefusesRow.unfollowed == Tryz.pinned.checked.prog.unfollowed 7) = true := by kernel_rfl
theorem k12 : (Rows.auditRefusesRow.recurses == Tryz.pinned.checked.prog.recurses 7) = true := by kernel_rfl
theorem k13 : (Rows.auditRefusesRow.named == Tryz.pinned.checked.prog.varsNamed 7) = true := by kernel_rfl
theorem closed : joinedFacts Tryz.pinned.checked.prog 7 Tryz.f7 (OpenSpec.ofChange Rows.auditRefusesSpec).bare Rows.auditRefusesRow = true := by
  unfold joinedFacts
  exact (bandd (bandd (bandd (bandd (bandd (bandd (bandd (bandd (bandd (bandd (bandd (bandd (bandd (bandd (bandd (bandd (bandd (bandd (bandd (bandd (bandd (bandd (bandd (bandd (bandd (bandd (bandd (bandd (bandd (bandd (bandd (by kernel_rfl) (by kernel_rfl)) (by kernel_rfl)) (by kernel_rfl)) (by kernel_rfl)) (by kernel_rfl)) (by kernel_rfl)) (by kernel_rfl)) (by kernel_rfl)) k10) k11) k12) k13) (by kernel_rfl)) (by kernel_rfl)) (by kernel_rfl)) (by kernel_rfl)) (by kernel_rfl)) (by kernel_rfl)) (by kernel_rfl)) (by kernel_rfl)) (by kernel_rfl)) (by kernel_rfl)) (by kernel_rfl)) (by kernel_rfl)) (by kernel_rfl)) (by kernel_rfl)) (by kernel_rfl)) (by kernel_rfl)) (by kernel_rfl)) (by kernel_rfl)) (by kernel_rfl))
end Go.Proofs.YtohpjdeohpamaaaGreatDoor.auditRefuses
