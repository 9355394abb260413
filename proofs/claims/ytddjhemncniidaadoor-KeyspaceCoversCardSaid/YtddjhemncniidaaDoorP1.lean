/-
  The types of this translation: how many cells they have, and their zero values.
-/
import Derived.Test.YtddjhemncniidaaDoorP0
import Derived.Test.YtddjhemncniidaaDoorK4
namespace Go.Proofs.YtddjhemncniidaaDoor
set_option linter.unusedSimpArgs false
set_option linter.unusedVariables false
open Go.RowKit
theorem ty2 : Ty Tryd.prog 2 1 false := ⟨by kernel_rfl, by kernel_rfl⟩
theorem zo2 : ZeroIs Tryd.prog 2 [.int .i64 0] := by unfold ZeroIs; kernel_rfl
theorem ty3 : Ty Tryd.prog 3 1 false := ⟨by kernel_rfl, by kernel_rfl⟩
theorem zo3 : ZeroIs Tryd.prog 3 [.int .i64 0] := by unfold ZeroIs; kernel_rfl
theorem ty4 : Ty Tryd.prog 4 1 false := ⟨by kernel_rfl, by kernel_rfl⟩
theorem zo4 : ZeroIs Tryd.prog 4 [.bool false] := by unfold ZeroIs; kernel_rfl
theorem ty5 : Ty Tryd.prog 5 1 false := ⟨by kernel_rfl, by kernel_rfl⟩
theorem zo5 : ZeroIs Tryd.prog 5 [.int .u8 0] := by unfold ZeroIs; kernel_rfl
theorem ty9 : Ty Tryd.prog 9 1 false := ⟨by kernel_rfl, by kernel_rfl⟩
theorem zo9 : ZeroIs Tryd.prog 9 [.string ⟨#[]⟩] := by unfold ZeroIs; kernel_rfl
theorem ty12 : Ty Tryd.prog 12 1 false := ⟨by kernel_rfl, by kernel_rfl⟩
theorem zo12 : ZeroIs Tryd.prog 12 [.int .u64 0] := by unfold ZeroIs; kernel_rfl
theorem ty20 : Ty Tryd.prog 20 1 false := ⟨by kernel_rfl, by kernel_rfl⟩
theorem zo20 : ZeroIs Tryd.prog 20 [.nilIface] := by unfold ZeroIs; kernel_rfl
theorem ty21 : Ty Tryd.prog 21 1 false := ⟨by kernel_rfl, by kernel_rfl⟩
theorem zo21 : ZeroIs Tryd.prog 21 [.int .i32 0] := by unfold ZeroIs; kernel_rfl
theorem ty22 : Ty Tryd.prog 22 1 false := ⟨by kernel_rfl, by kernel_rfl⟩
theorem zo22 : ZeroIs Tryd.prog 22 [.slice none 0 0] := by unfold ZeroIs; kernel_rfl
theorem ty24 : Ty Tryd.prog 24 2 true := ⟨by kernel_rfl, by kernel_rfl⟩
theorem zo24 : ZeroIs Tryd.prog 24 [.string ⟨#[]⟩, .bool false] := by unfold ZeroIs; kernel_rfl
theorem ty25 : Ty Tryd.prog 25 1 false := ⟨by kernel_rfl, by kernel_rfl⟩
theorem zo25 : ZeroIs Tryd.prog 25 [.pointer none] := by unfold ZeroIs; kernel_rfl
theorem ty33 : Ty Tryd.prog 33 1 false := ⟨by kernel_rfl, by kernel_rfl⟩
theorem zo33 : ZeroIs Tryd.prog 33 [.slice none 0 0] := by unfold ZeroIs; kernel_rfl
theorem ty35 : Ty Tryd.prog 35 4 true := ⟨by kernel_rfl, by kernel_rfl⟩
theorem zo35 : ZeroIs Tryd.prog 35 [.string ⟨#[]⟩, .bool false, .string ⟨#[]⟩, .bool false] := by unfold ZeroIs; kernel_rfl
theorem ty39 : Ty Tryd.prog 39 1 false := ⟨by kernel_rfl, by kernel_rfl⟩
theorem zo39 : ZeroIs Tryd.prog 39 [.int .i64 0] := by unfold ZeroIs; kernel_rfl
theorem ty48 : Ty Tryd.prog 48 1 false := ⟨by kernel_rfl, by kernel_rfl⟩
theorem zo48 : ZeroIs Tryd.prog 48 [.slice none 0 0] := by unfold ZeroIs; kernel_rfl
theorem ty61 : Ty Tryd.prog 61 2 true := ⟨by kernel_rfl, by kernel_rfl⟩
theorem zo61 : ZeroIs Tryd.prog 61 [.slice none 0 0, .int .i64 0] := by unfold ZeroIs; kernel_rfl
theorem ty66 : Ty Tryd.prog 66 6 true := ⟨by kernel_rfl, by kernel_rfl⟩
theorem zo66 : ZeroIs Tryd.prog 66 [.string ⟨#[]⟩, .string ⟨#[]⟩, .string ⟨#[]⟩, .string ⟨#[]⟩, .string ⟨#[]⟩, .string ⟨#[]⟩] := by unfold ZeroIs; kernel_rfl
theorem ty67 : Ty Tryd.prog 67 1 false := ⟨by kernel_rfl, by kernel_rfl⟩
theorem zo67 : ZeroIs Tryd.prog 67 [.slice none 0 0] := by unfold ZeroIs; kernel_rfl
theorem ty75 : Ty Tryd.prog 75 1 false := ⟨by kernel_rfl, by kernel_rfl⟩
theorem zo75 : ZeroIs Tryd.prog 75 [.int .u64 0] := by unfold ZeroIs; kernel_rfl
theorem ty85 : Ty Tryd.prog 85 1 false := ⟨by kernel_rfl, by kernel_rfl⟩
theorem zo85 : ZeroIs Tryd.prog 85 [.int .u32 0] := by unfold ZeroIs; kernel_rfl
theorem ty87 : Ty Tryd.prog 87 1 false := ⟨by kernel_rfl, by kernel_rfl⟩
theorem zo87 : ZeroIs Tryd.prog 87 [.int .u64 0] := by unfold ZeroIs; kernel_rfl
theorem ty92 : Ty Tryd.prog 92 1 false := ⟨by kernel_rfl, by kernel_rfl⟩
theorem zo92 : ZeroIs Tryd.prog 92 [.pointer none] := by unfold ZeroIs; kernel_rfl
theorem ty106 : Ty Tryd.prog 106 1 false := ⟨by kernel_rfl, by kernel_rfl⟩
theorem zo106 : ZeroIs Tryd.prog 106 [.pointer none] := by unfold ZeroIs; kernel_rfl
theorem ty111 : Ty Tryd.prog 111 1 false := ⟨by kernel_rfl, by kernel_rfl⟩
theorem zo111 : ZeroIs Tryd.prog 111 [.pointer none] := by unfold ZeroIs; kernel_rfl
theorem sl22 : Sl Tryd.prog 22 3 1 8 := Sl.mk' (by kernel_rfl) (by kernel_rfl)
theorem sl33 : Sl Tryd.prog 33 35 4 48 := Sl.mk' (by kernel_rfl) (by kernel_rfl)
theorem sl48 : Sl Tryd.prog 48 9 1 16 := Sl.mk' (by kernel_rfl) (by kernel_rfl)
theorem sl67 : Sl Tryd.prog 67 5 1 1 := Sl.mk' (by kernel_rfl) (by kernel_rfl)
end Go.Proofs.YtddjhemncniidaaDoor
