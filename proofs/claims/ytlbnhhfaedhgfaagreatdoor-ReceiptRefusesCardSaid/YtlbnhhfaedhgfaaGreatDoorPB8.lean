/-
  Lemmas: What the program's structs hold, as deep values.
-/
import Derived.Test.YtlbnhhfaedhgfaaGreatDoorPB7
import Derived.Test.YtlbnhhfaedhgfaaGreatDoorPB2
import Derived.Test.YtlbnhhfaedhgfaaGreatDoorPB4
set_option linter.unusedSimpArgs false
set_option linter.unusedVariables false
namespace Go.Proofs.YtlbnhhfaedhgfaaGreatDoor
open Go.RowKit
instance ty2 : Ty Tryz.prog 2 1 false := ⟨by kernel_rfl, by kernel_rfl⟩
instance zo2 : ZeroI Tryz.prog 2 [.int .i64 0] := ⟨by unfold ZeroIs; kernel_rfl⟩
instance ty3 : Ty Tryz.prog 3 1 false := ⟨by kernel_rfl, by kernel_rfl⟩
instance zo3 : ZeroI Tryz.prog 3 [.int .i64 0] := ⟨by unfold ZeroIs; kernel_rfl⟩
instance ty4 : Ty Tryz.prog 4 1 false := ⟨by kernel_rfl, by kernel_rfl⟩
instance zo4 : ZeroI Tryz.prog 4 [.bool false] := ⟨by unfold ZeroIs; kernel_rfl⟩
instance ty5 : Ty Tryz.prog 5 1 false := ⟨by kernel_rfl, by kernel_rfl⟩
instance zo5 : ZeroI Tryz.prog 5 [.int .u8 0] := ⟨by unfold ZeroIs; kernel_rfl⟩
instance ty9 : Ty Tryz.prog 9 1 false := ⟨by kernel_rfl, by kernel_rfl⟩
instance zo9 : ZeroI Tryz.prog 9 [.string ⟨#[]⟩] := ⟨by unfold ZeroIs; kernel_rfl⟩
instance ty12 : Ty Tryz.prog 12 1 false := ⟨by kernel_rfl, by kernel_rfl⟩
instance zo12 : ZeroI Tryz.prog 12 [.int .u64 0] := ⟨by unfold ZeroIs; kernel_rfl⟩
instance ty20 : Ty Tryz.prog 20 1 false := ⟨by kernel_rfl, by kernel_rfl⟩
instance zo20 : ZeroI Tryz.prog 20 [.nilIface] := ⟨by unfold ZeroIs; kernel_rfl⟩
instance ty21 : Ty Tryz.prog 21 1 false := ⟨by kernel_rfl, by kernel_rfl⟩
instance zo21 : ZeroI Tryz.prog 21 [.int .i32 0] := ⟨by unfold ZeroIs; kernel_rfl⟩
instance ty22 : Ty Tryz.prog 22 1 false := ⟨by kernel_rfl, by kernel_rfl⟩
instance zo22 : ZeroI Tryz.prog 22 [.slice none 0 0] := ⟨by unfold ZeroIs; kernel_rfl⟩
instance ty23 : Ty Tryz.prog 23 1 false := ⟨by kernel_rfl, by kernel_rfl⟩
instance zo23 : ZeroI Tryz.prog 23 [.pointer none] := ⟨by unfold ZeroIs; kernel_rfl⟩
instance ty25 : Ty Tryz.prog 25 1 false := ⟨by kernel_rfl, by kernel_rfl⟩
instance zo25 : ZeroI Tryz.prog 25 [.slice none 0 0] := ⟨by unfold ZeroIs; kernel_rfl⟩
instance ty27 : Ty Tryz.prog 27 4 true := ⟨by kernel_rfl, by kernel_rfl⟩
instance zo27 : ZeroI Tryz.prog 27 [.int .i64 0, .slice none 0 0, .string ⟨#[]⟩, .int .i64 0] := ⟨by unfold ZeroIs; kernel_rfl⟩
instance ty28 : Ty Tryz.prog 28 1 false := ⟨by kernel_rfl, by kernel_rfl⟩
instance zo28 : ZeroI Tryz.prog 28 [.slice none 0 0] := ⟨by unfold ZeroIs; kernel_rfl⟩
instance ty30 : Ty Tryz.prog 30 6 true := ⟨by kernel_rfl, by kernel_rfl⟩
instance zo30 : ZeroI Tryz.prog 30 [.int .i64 0, .slice none 0 0, .string ⟨#[]⟩, .int .i64 0, .slice none 0 0, .slice none 0 0] := ⟨by unfold ZeroIs; kernel_rfl⟩
instance ty33 : Ty Tryz.prog 33 1 false := ⟨by kernel_rfl, by kernel_rfl⟩
instance zo33 : ZeroI Tryz.prog 33 [.slice none 0 0] := ⟨by unfold ZeroIs; kernel_rfl⟩
instance ty35 : Ty Tryz.prog 35 1 false := ⟨by kernel_rfl, by kernel_rfl⟩
instance zo35 : ZeroI Tryz.prog 35 [.slice none 0 0] := ⟨by unfold ZeroIs; kernel_rfl⟩
instance ty40 : Ty Tryz.prog 40 2 true := ⟨by kernel_rfl, by kernel_rfl⟩
instance zo40 : ZeroI Tryz.prog 40 [.string ⟨#[]⟩, .bool false] := ⟨by unfold ZeroIs; kernel_rfl⟩
instance ty42 : Ty Tryz.prog 42 4 true := ⟨by kernel_rfl, by kernel_rfl⟩
instance zo42 : ZeroI Tryz.prog 42 [.string ⟨#[]⟩, .bool false, .string ⟨#[]⟩, .bool false] := ⟨by unfold ZeroIs; kernel_rfl⟩
instance ty46 : Ty Tryz.prog 46 2 true := ⟨by kernel_rfl, by kernel_rfl⟩
instance zo46 : ZeroI Tryz.prog 46 [.int .i64 0, .int .i64 0] := ⟨by unfold ZeroIs; kernel_rfl⟩
instance ty47 : Ty Tryz.prog 47 1 false := ⟨by kernel_rfl, by kernel_rfl⟩
instance zo47 : ZeroI Tryz.prog 47 [.slice none 0 0] := ⟨by unfold ZeroIs; kernel_rfl⟩
instance ty49 : Ty Tryz.prog 49 8 true := ⟨by kernel_rfl, by kernel_rfl⟩
instance zo49 : ZeroI Tryz.prog 49 [.int .i64 0, .string ⟨#[]⟩, .bool false, .string ⟨#[]⟩, .bool false, .int .i64 0, .int .i64 0, .slice none 0 0] := ⟨by unfold ZeroIs; kernel_rfl⟩
instance ty55 : Ty Tryz.prog 55 1 false := ⟨by kernel_rfl, by kernel_rfl⟩
instance zo55 : ZeroI Tryz.prog 55 [.int .i64 0] := ⟨by unfold ZeroIs; kernel_rfl⟩
instance ty62 : Ty Tryz.prog 62 12 true := ⟨by kernel_rfl, by kernel_rfl⟩
instance zo62 : ZeroI Tryz.prog 62 [.int .i64 0, .string ⟨#[]⟩, .bool false, .string ⟨#[]⟩, .bool false, .int .i64 0, .int .i64 0, .slice none 0 0, .string ⟨#[]⟩, .bool false, .string ⟨#[]⟩, .bool false] := ⟨by unfold ZeroIs; kernel_rfl⟩
instance ty73 : Ty Tryz.prog 73 7 true := ⟨by kernel_rfl, by kernel_rfl⟩
instance zo73 : ZeroI Tryz.prog 73 [.int .i64 0, .int .i64 0, .int .i64 0, .int .i64 0, .int .i64 0, .string ⟨#[]⟩, .string ⟨#[]⟩] := ⟨by unfold ZeroIs; kernel_rfl⟩
instance ty75 : Ty Tryz.prog 75 8 true := ⟨by kernel_rfl, by kernel_rfl⟩
instance zo75 : ZeroI Tryz.prog 75 [.slice none 0 0, .int .i64 0, .int .i64 0, .int .i64 0, .int .i64 0, .int .i64 0, .string ⟨#[]⟩, .string ⟨#[]⟩] := ⟨by unfold ZeroIs; kernel_rfl⟩
instance ty81 : Ty Tryz.prog 81 6 true := ⟨by kernel_rfl, by kernel_rfl⟩
instance zo81 : ZeroI Tryz.prog 81 [.int .i64 0, .slice none 0 0, .string ⟨#[]⟩, .int .i64 0, .slice none 0 0, .slice none 0 0] := ⟨by unfold ZeroIs; kernel_rfl⟩
instance ty93 : Ty Tryz.prog 93 1 false := ⟨by kernel_rfl, by kernel_rfl⟩
instance zo93 : ZeroI Tryz.prog 93 [.slice none 0 0] := ⟨by unfold ZeroIs; kernel_rfl⟩
instance ty95 : Ty Tryz.prog 95 2 true := ⟨by kernel_rfl, by kernel_rfl⟩
instance zo95 : ZeroI Tryz.prog 95 [.string ⟨#[]⟩, .string ⟨#[]⟩] := ⟨by unfold ZeroIs; kernel_rfl⟩
instance ty97 : Ty Tryz.prog 97 1 false := ⟨by kernel_rfl, by kernel_rfl⟩
instance zo97 : ZeroI Tryz.prog 97 [.slice none 0 0] := ⟨by unfold ZeroIs; kernel_rfl⟩
instance ty102 : Ty Tryz.prog 102 1 false := ⟨by kernel_rfl, by kernel_rfl⟩
instance zo102 : ZeroI Tryz.prog 102 [.slice none 0 0] := ⟨by unfold ZeroIs; kernel_rfl⟩
instance ty106 : Ty Tryz.prog 106 1 false := ⟨by kernel_rfl, by kernel_rfl⟩
instance zo106 : ZeroI Tryz.prog 106 [.slice none 0 0] := ⟨by unfold ZeroIs; kernel_rfl⟩
instance ty107 : Ty Tryz.prog 107 1 false := ⟨by kernel_rfl, by kernel_rfl⟩
instance zo107 : ZeroI Tryz.prog 107 [.slice none 0 0] := ⟨by unfold ZeroIs; kernel_rfl⟩
instance ty110 : Ty Tryz.prog 110 1 false := ⟨by kernel_rfl, by kernel_rfl⟩
instance zo110 : ZeroI Tryz.prog 110 [.slice none 0 0] := ⟨by unfold ZeroIs; kernel_rfl⟩
instance ty111 : Ty Tryz.prog 111 1 false := ⟨by kernel_rfl, by kernel_rfl⟩
instance zo111 : ZeroI Tryz.prog 111 [.slice none 0 0] := ⟨by unfold ZeroIs; kernel_rfl⟩
instance ty113 : Ty Tryz.prog 113 8 true := ⟨by kernel_rfl, by kernel_rfl⟩
instance zo113 : ZeroI Tryz.prog 113 [.int .i64 0, .slice none 0 0, .string ⟨#[]⟩, .int .i64 0, .slice none 0 0, .slice none 0 0, .slice none 0 0, .bool false] := ⟨by unfold ZeroIs; kernel_rfl⟩
instance ty119 : Ty Tryz.prog 119 2 true := ⟨by kernel_rfl, by kernel_rfl⟩
instance zo119 : ZeroI Tryz.prog 119 [.slice none 0 0, .int .i64 0] := ⟨by unfold ZeroIs; kernel_rfl⟩
instance ty122 : Ty Tryz.prog 122 1 false := ⟨by kernel_rfl, by kernel_rfl⟩
instance zo122 : ZeroI Tryz.prog 122 [.slice none 0 0] := ⟨by unfold ZeroIs; kernel_rfl⟩
instance ty124 : Ty Tryz.prog 124 3 true := ⟨by kernel_rfl, by kernel_rfl⟩
instance zo124 : ZeroI Tryz.prog 124 [.int .i64 0, .bool false, .slice none 0 0] := ⟨by unfold ZeroIs; kernel_rfl⟩
instance ty129 : Ty Tryz.prog 129 1 false := ⟨by kernel_rfl, by kernel_rfl⟩
instance zo129 : ZeroI Tryz.prog 129 [.slice none 0 0] := ⟨by unfold ZeroIs; kernel_rfl⟩
instance ty131 : Ty Tryz.prog 131 10 true := ⟨by kernel_rfl, by kernel_rfl⟩
instance zo131 : ZeroI Tryz.prog 131 [.int .i64 0, .int .i64 0, .int .i64 0, .int .i64 0, .int .i64 0, .string ⟨#[]⟩, .bool false, .string ⟨#[]⟩, .bool false, .slice none 0 0] := ⟨by unfold ZeroIs; kernel_rfl⟩
instance ty133 : Ty Tryz.prog 133 30 true := ⟨by kernel_rfl, by kernel_rfl⟩
instance zo133 : ZeroI Tryz.prog 133 [.string ⟨#[]⟩, .bool false, .string ⟨#[]⟩, .bool false, .int .i64 0, .int .i64 0, .slice none 0 0, .slice none 0 0, .int .i64 0, .int .i64 0, .int .i64 0, .int .i64 0, .int .i64 0, .string ⟨#[]⟩, .bool false, .string ⟨#[]⟩, .bool false, .slice none 0 0, .int .i64 0, .int .i64 0, .int .i64 0, .int .i64 0, .int .i64 0, .string ⟨#[]⟩, .bool false, .string ⟨#[]⟩, .bool false, .slice none 0 0, .int .i64 0, .int .i64 0] := ⟨by unfold ZeroIs; kernel_rfl⟩
instance ty156 : Ty Tryz.prog 156 1 false := ⟨by kernel_rfl, by kernel_rfl⟩
instance zo156 : ZeroI Tryz.prog 156 [.pointer none] := ⟨by unfold ZeroIs; kernel_rfl⟩
instance ty158 : Ty Tryz.prog 158 1 false := ⟨by kernel_rfl, by kernel_rfl⟩
instance zo158 : ZeroI Tryz.prog 158 [.slice none 0 0] := ⟨by unfold ZeroIs; kernel_rfl⟩
instance ty170 : Ty Tryz.prog 170 1 false := ⟨by kernel_rfl, by kernel_rfl⟩
instance zo170 : ZeroI Tryz.prog 170 [.pointer none] := ⟨by unfold ZeroIs; kernel_rfl⟩
instance ty173 : Ty Tryz.prog 173 6 true := ⟨by kernel_rfl, by kernel_rfl⟩
instance zo173 : ZeroI Tryz.prog 173 [.string ⟨#[]⟩, .string ⟨#[]⟩, .string ⟨#[]⟩, .string ⟨#[]⟩, .string ⟨#[]⟩, .string ⟨#[]⟩] := ⟨by unfold ZeroIs; kernel_rfl⟩
instance ty175 : Ty Tryz.prog 175 32 true := ⟨by kernel_rfl, by kernel_rfl⟩
instance zo175 : ZeroI Tryz.prog 175 [.int .i64 0, .bool false, .string ⟨#[]⟩, .bool false, .string ⟨#[]⟩, .bool false, .int .i64 0, .int .i64 0, .slice none 0 0, .slice none 0 0, .int .i64 0, .int .i64 0, .int .i64 0, .int .i64 0, .int .i64 0, .string ⟨#[]⟩, .bool false, .string ⟨#[]⟩, .bool false, .slice none 0 0, .int .i64 0, .int .i64 0, .int .i64 0, .int .i64 0, .int .i64 0, .string ⟨#[]⟩, .bool false, .string ⟨#[]⟩, .bool false, .slice none 0 0, .int .i64 0, .int .i64 0] := ⟨by unfold ZeroIs; kernel_rfl⟩
instance ty185 : Ty Tryz.prog 185 1 false := ⟨by kernel_rfl, by kernel_rfl⟩
instance zo185 : ZeroI Tryz.prog 185 [.map none] := ⟨by unfold ZeroIs; kernel_rfl⟩
instance ty190 : Ty Tryz.prog 190 7 true := ⟨by kernel_rfl, by kernel_rfl⟩
instance zo190 : ZeroI Tryz.prog 190 [.int .i64 0, .int .i64 0, .int .i64 0, .int .i64 0, .int .i64 0, .string ⟨#[]⟩, .string ⟨#[]⟩] := ⟨by unfold ZeroIs; kernel_rfl⟩
instance ty201 : Ty Tryz.prog 201 2 true := ⟨by kernel_rfl, by kernel_rfl⟩
instance zo201 : ZeroI Tryz.prog 201 [.nilFunc, .nilFunc] := ⟨by unfold ZeroIs; kernel_rfl⟩
instance ty206 : Ty Tryz.prog 206 3 true := ⟨by kernel_rfl, by kernel_rfl⟩
instance zo206 : ZeroI Tryz.prog 206 [.string ⟨#[]⟩, .string ⟨#[]⟩, .bool false] := ⟨by unfold ZeroIs; kernel_rfl⟩
instance ty216 : Ty Tryz.prog 216 1 false := ⟨by kernel_rfl, by kernel_rfl⟩
instance zo216 : ZeroI Tryz.prog 216 [.pointer none] := ⟨by unfold ZeroIs; kernel_rfl⟩
instance ty227 : Ty Tryz.prog 227 1 false := ⟨by kernel_rfl, by kernel_rfl⟩
instance zo227 : ZeroI Tryz.prog 227 [.int .u64 0] := ⟨by unfold ZeroIs; kernel_rfl⟩
instance ty237 : Ty Tryz.prog 237 1 false := ⟨by kernel_rfl, by kernel_rfl⟩
instance zo237 : ZeroI Tryz.prog 237 [.int .u32 0] := ⟨by unfold ZeroIs; kernel_rfl⟩
instance ty239 : Ty Tryz.prog 239 1 false := ⟨by kernel_rfl, by kernel_rfl⟩
instance zo239 : ZeroI Tryz.prog 239 [.int .u64 0] := ⟨by unfold ZeroIs; kernel_rfl⟩
instance ty244 : Ty Tryz.prog 244 1 false := ⟨by kernel_rfl, by kernel_rfl⟩
instance zo244 : ZeroI Tryz.prog 244 [.pointer none] := ⟨by unfold ZeroIs; kernel_rfl⟩
instance sl22 : Sl Tryz.prog 22 3 1 8 := Sl.mk' (by kernel_rfl) (by kernel_rfl)
instance sl25 : Sl Tryz.prog 25 42 4 48 := Sl.mk' (by kernel_rfl) (by kernel_rfl)
instance sl28 : Sl Tryz.prog 28 62 12 144 := Sl.mk' (by kernel_rfl) (by kernel_rfl)
instance sl33 : Sl Tryz.prog 33 49 8 96 := Sl.mk' (by kernel_rfl) (by kernel_rfl)
instance sl35 : Sl Tryz.prog 35 124 3 40 := Sl.mk' (by kernel_rfl) (by kernel_rfl)
instance sl47 : Sl Tryz.prog 47 95 2 32 := Sl.mk' (by kernel_rfl) (by kernel_rfl)
instance sl93 : Sl Tryz.prog 93 81 6 104 := Sl.mk' (by kernel_rfl) (by kernel_rfl)
instance sl97 : Sl Tryz.prog 97 30 6 104 := Sl.mk' (by kernel_rfl) (by kernel_rfl)
instance sl102 : Sl Tryz.prog 102 40 2 24 := Sl.mk' (by kernel_rfl) (by kernel_rfl)
instance sl106 : Sl Tryz.prog 106 25 1 24 := Sl.mk' (by kernel_rfl) (by kernel_rfl)
instance sl107 : Sl Tryz.prog 107 102 1 24 := Sl.mk' (by kernel_rfl) (by kernel_rfl)
instance sl110 : Sl Tryz.prog 110 5 1 1 := Sl.mk' (by kernel_rfl) (by kernel_rfl)
instance sl111 : Sl Tryz.prog 111 27 4 56 := Sl.mk' (by kernel_rfl) (by kernel_rfl)
instance sl122 : Sl Tryz.prog 122 175 32 368 := Sl.mk' (by kernel_rfl) (by kernel_rfl)
instance sl129 : Sl Tryz.prog 129 206 3 40 := Sl.mk' (by kernel_rfl) (by kernel_rfl)
instance sl158 : Sl Tryz.prog 158 28 1 24 := Sl.mk' (by kernel_rfl) (by kernel_rfl)
end Go.Proofs.YtlbnhhfaedhgfaaGreatDoor
namespace Go.Proofs.YtlbnhhfaedhgfaaGreatDoor
open Go.RowKit
instance ab173 : Ab Tryz.prog 173 [(0, 1), (1, 1), (2, 1), (3, 1), (4, 1), (5, 1)] [.string ⟨#[]⟩, .string ⟨#[]⟩, .string ⟨#[]⟩, .string ⟨#[]⟩, .string ⟨#[]⟩, .string ⟨#[]⟩] := ⟨⟨6, 9, 1, by kernel_rfl, by kernel_rfl, by kernel_rfl⟩, by unfold ZeroIs; kernel_rfl⟩
instance ar173 : Ar Tryz.prog 173 6 9 := ⟨by kernel_rfl⟩
instance mp185 : Mp Tryz.prog 185 3 60 := ⟨by kernel_rfl⟩
instance fo27_0 : Fo Tryz.prog 27 0 0 := ⟨by kernel_rfl⟩
instance fo27_1 : Fo Tryz.prog 27 1 1 := ⟨by kernel_rfl⟩
instance fo27_2 : Fo Tryz.prog 27 2 2 := ⟨by kernel_rfl⟩
instance fo27_3 : Fo Tryz.prog 27 3 3 := ⟨by kernel_rfl⟩
instance bd27 : Bd Tryz.prog 27 [(0, 1), (1, 1), (2, 1), (3, 1)] [.int .i64 0, .slice none 0 0, .string ⟨#[]⟩, .int .i64 0] := ⟨by kernel_rfl, by unfold ZeroIs; kernel_rfl⟩
instance fo30_0 : Fo Tryz.prog 30 0 0 := ⟨by kernel_rfl⟩
instance fo30_1 : Fo Tryz.prog 30 1 4 := ⟨by kernel_rfl⟩
instance fo30_2 : Fo Tryz.prog 30 2 5 := ⟨by kernel_rfl⟩
instance bd30 : Bd Tryz.prog 30 [(0, 4), (4, 1), (5, 1)] [.int .i64 0, .slice none 0 0, .string ⟨#[]⟩, .int .i64 0, .slice none 0 0, .slice none 0 0] := ⟨by kernel_rfl, by unfold ZeroIs; kernel_rfl⟩
instance fo40_0 : Fo Tryz.prog 40 0 0 := ⟨by kernel_rfl⟩
instance fo40_1 : Fo Tryz.prog 40 1 1 := ⟨by kernel_rfl⟩
instance bd40 : Bd Tryz.prog 40 [(0, 1), (1, 1)] [.string ⟨#[]⟩, .bool false] := ⟨by kernel_rfl, by unfold ZeroIs; kernel_rfl⟩
instance fo42_0 : Fo Tryz.prog 42 0 0 := ⟨by kernel_rfl⟩
instance fo42_1 : Fo Tryz.prog 42 1 2 := ⟨by kernel_rfl⟩
instance bd42 : Bd Tryz.prog 42 [(0, 2), (2, 2)] [.string ⟨#[]⟩, .bool false, .string ⟨#[]⟩, .bool false] := ⟨by kernel_rfl, by unfold ZeroIs; kernel_rfl⟩
instance fo46_0 : Fo Tryz.prog 46 0 0 := ⟨by kernel_rfl⟩
instance fo46_1 : Fo Tryz.prog 46 1 1 := ⟨by kernel_rfl⟩
instance bd46 : Bd Tryz.prog 46 [(0, 1), (1, 1)] [.int .i64 0, .int .i64 0] := ⟨by kernel_rfl, by unfold ZeroIs; kernel_rfl⟩
instance fo49_0 : Fo Tryz.prog 49 0 0 := ⟨by kernel_rfl⟩
instance fo49_1 : Fo Tryz.prog 49 1 1 := ⟨by kernel_rfl⟩
instance fo49_2 : Fo Tryz.prog 49 2 5 := ⟨by kernel_rfl⟩
instance fo49_3 : Fo Tryz.prog 49 3 7 := ⟨by kernel_rfl⟩
instance bd49 : Bd Tryz.prog 49 [(0, 1), (1, 4), (5, 2), (7, 1)] [.int .i64 0, .string ⟨#[]⟩, .bool false, .string ⟨#[]⟩, .bool false, .int .i64 0, .int .i64 0, .slice none 0 0] := ⟨by kernel_rfl, by unfold ZeroIs; kernel_rfl⟩
instance fo62_0 : Fo Tryz.prog 62 0 0 := ⟨by kernel_rfl⟩
instance fo62_1 : Fo Tryz.prog 62 1 8 := ⟨by kernel_rfl⟩
instance bd62 : Bd Tryz.prog 62 [(0, 8), (8, 4)] [.int .i64 0, .string ⟨#[]⟩, .bool false, .string ⟨#[]⟩, .bool false, .int .i64 0, .int .i64 0, .slice none 0 0, .string ⟨#[]⟩, .bool false, .string ⟨#[]⟩, .bool false] := ⟨by kernel_rfl, by unfold ZeroIs; kernel_rfl⟩
instance fo73_0 : Fo Tryz.prog 73 0 0 := ⟨by kernel_rfl⟩
instance fo73_1 : Fo Tryz.prog 73 1 1 := ⟨by kernel_rfl⟩
instance fo73_2 : Fo Tryz.prog 73 2 2 := ⟨by kernel_rfl⟩
instance fo73_3 : Fo Tryz.prog 73 3 3 := ⟨by kernel_rfl⟩
instance fo73_4 : Fo Tryz.prog 73 4 4 := ⟨by kernel_rfl⟩
instance fo73_5 : Fo Tryz.prog 73 5 5 := ⟨by kernel_rfl⟩
instance fo73_6 : Fo Tryz.prog 73 6 6 := ⟨by kernel_rfl⟩
instance bd73 : Bd Tryz.prog 73 [(0, 1), (1, 1), (2, 1), (3, 1), (4, 1), (5, 1), (6, 1)] [.int .i64 0, .int .i64 0, .int .i64 0, .int .i64 0, .int .i64 0, .string ⟨#[]⟩, .string ⟨#[]⟩] := ⟨by kernel_rfl, by unfold ZeroIs; kernel_rfl⟩
instance fo75_0 : Fo Tryz.prog 75 0 0 := ⟨by kernel_rfl⟩
instance fo75_1 : Fo Tryz.prog 75 1 1 := ⟨by kernel_rfl⟩
instance bd75 : Bd Tryz.prog 75 [(0, 1), (1, 7)] [.slice none 0 0, .int .i64 0, .int .i64 0, .int .i64 0, .int .i64 0, .int .i64 0, .string ⟨#[]⟩, .string ⟨#[]⟩] := ⟨by kernel_rfl, by unfold ZeroIs; kernel_rfl⟩
instance fo81_0 : Fo Tryz.prog 81 0 0 := ⟨by kernel_rfl⟩
instance fo81_1 : Fo Tryz.prog 81 1 4 := ⟨by kernel_rfl⟩
instance fo81_2 : Fo Tryz.prog 81 2 5 := ⟨by kernel_rfl⟩
instance bd81 : Bd Tryz.prog 81 [(0, 4), (4, 1), (5, 1)] [.int .i64 0, .slice none 0 0, .string ⟨#[]⟩, .int .i64 0, .slice none 0 0, .slice none 0 0] := ⟨by kernel_rfl, by unfold ZeroIs; kernel_rfl⟩
instance fo95_0 : Fo Tryz.prog 95 0 0 := ⟨by kernel_rfl⟩
instance fo95_1 : Fo Tryz.prog 95 1 1 := ⟨by kernel_rfl⟩
instance bd95 : Bd Tryz.prog 95 [(0, 1), (1, 1)] [.string ⟨#[]⟩, .string ⟨#[]⟩] := ⟨by kernel_rfl, by unfold ZeroIs; kernel_rfl⟩
instance bd113 : Bd Tryz.prog 113 [(0, 4), (4, 1), (5, 1), (6, 1), (7, 1)] [.int .i64 0, .slice none 0 0, .string ⟨#[]⟩, .int .i64 0, .slice none 0 0, .slice none 0 0, .slice none 0 0, .bool false] := ⟨by kernel_rfl, by unfold ZeroIs; kernel_rfl⟩
instance fo119_0 : Fo Tryz.prog 119 0 0 := ⟨by kernel_rfl⟩
instance fo119_1 : Fo Tryz.prog 119 1 1 := ⟨by kernel_rfl⟩
instance bd119 : Bd Tryz.prog 119 [(0, 1), (1, 1)] [.slice none 0 0, .int .i64 0] := ⟨by kernel_rfl, by unfold ZeroIs; kernel_rfl⟩
instance fo124_1 : Fo Tryz.prog 124 1 1 := ⟨by kernel_rfl⟩
instance fo124_2 : Fo Tryz.prog 124 2 2 := ⟨by kernel_rfl⟩
instance bd124 : Bd Tryz.prog 124 [(0, 1), (1, 1), (2, 1)] [.int .i64 0, .bool false, .slice none 0 0] := ⟨by kernel_rfl, by unfold ZeroIs; kernel_rfl⟩
instance fo131_0 : Fo Tryz.prog 131 0 0 := ⟨by kernel_rfl⟩
instance fo131_1 : Fo Tryz.prog 131 1 1 := ⟨by kernel_rfl⟩
instance fo131_2 : Fo Tryz.prog 131 2 2 := ⟨by kernel_rfl⟩
instance fo131_3 : Fo Tryz.prog 131 3 3 := ⟨by kernel_rfl⟩
instance fo131_4 : Fo Tryz.prog 131 4 5 := ⟨by kernel_rfl⟩
instance fo131_5 : Fo Tryz.prog 131 5 9 := ⟨by kernel_rfl⟩
instance bd131 : Bd Tryz.prog 131 [(0, 1), (1, 1), (2, 1), (3, 2), (5, 4), (9, 1)] [.int .i64 0, .int .i64 0, .int .i64 0, .int .i64 0, .int .i64 0, .string ⟨#[]⟩, .bool false, .string ⟨#[]⟩, .bool false, .slice none 0 0] := ⟨by kernel_rfl, by unfold ZeroIs; kernel_rfl⟩
instance fo133_0 : Fo Tryz.prog 133 0 0 := ⟨by kernel_rfl⟩
instance fo133_1 : Fo Tryz.prog 133 1 4 := ⟨by kernel_rfl⟩
instance fo133_2 : Fo Tryz.prog 133 2 6 := ⟨by kernel_rfl⟩
instance fo133_3 : Fo Tryz.prog 133 3 7 := ⟨by kernel_rfl⟩
instance fo133_4 : Fo Tryz.prog 133 4 8 := ⟨by kernel_rfl⟩
instance fo133_5 : Fo Tryz.prog 133 5 18 := ⟨by kernel_rfl⟩
instance fo133_6 : Fo Tryz.prog 133 6 28 := ⟨by kernel_rfl⟩
instance fo133_7 : Fo Tryz.prog 133 7 29 := ⟨by kernel_rfl⟩
instance bd133 : Bd Tryz.prog 133 [(0, 4), (4, 2), (6, 1), (7, 1), (8, 10), (18, 10), (28, 1), (29, 1)] [.string ⟨#[]⟩, .bool false, .string ⟨#[]⟩, .bool false, .int .i64 0, .int .i64 0, .slice none 0 0, .slice none 0 0, .int .i64 0, .int .i64 0, .int .i64 0, .int .i64 0, .int .i64 0, .string ⟨#[]⟩, .bool false, .string ⟨#[]⟩, .bool false, .slice none 0 0, .int .i64 0, .int .i64 0, .int .i64 0, .int .i64 0, .int .i64 0, .string ⟨#[]⟩, .bool false, .string ⟨#[]⟩, .bool false, .slice none 0 0, .int .i64 0, .int .i64 0] := ⟨by kernel_rfl, by unfold ZeroIs; kernel_rfl⟩
instance fo175_0 : Fo Tryz.prog 175 0 0 := ⟨by kernel_rfl⟩
instance fo175_1 : Fo Tryz.prog 175 1 1 := ⟨by kernel_rfl⟩
instance fo175_2 : Fo Tryz.prog 175 2 2 := ⟨by kernel_rfl⟩
instance bd175 : Bd Tryz.prog 175 [(0, 1), (1, 1), (2, 30)] [.int .i64 0, .bool false, .string ⟨#[]⟩, .bool false, .string ⟨#[]⟩, .bool false, .int .i64 0, .int .i64 0, .slice none 0 0, .slice none 0 0, .int .i64 0, .int .i64 0, .int .i64 0, .int .i64 0, .int .i64 0, .string ⟨#[]⟩, .bool false, .string ⟨#[]⟩, .bool false, .slice none 0 0, .int .i64 0, .int .i64 0, .int .i64 0, .int .i64 0, .int .i64 0, .string ⟨#[]⟩, .bool false, .string ⟨#[]⟩, .bool false, .slice none 0 0, .int .i64 0, .int .i64 0] := ⟨by kernel_rfl, by unfold ZeroIs; kernel_rfl⟩
instance fo190_0 : Fo Tryz.prog 190 0 0 := ⟨by kernel_rfl⟩
instance fo190_1 : Fo Tryz.prog 190 1 1 := ⟨by kernel_rfl⟩
instance fo190_2 : Fo Tryz.prog 190 2 2 := ⟨by kernel_rfl⟩
instance fo190_3 : Fo Tryz.prog 190 3 3 := ⟨by kernel_rfl⟩
instance fo190_4 : Fo Tryz.prog 190 4 4 := ⟨by kernel_rfl⟩
instance fo190_5 : Fo Tryz.prog 190 5 5 := ⟨by kernel_rfl⟩
instance fo190_6 : Fo Tryz.prog 190 6 6 := ⟨by kernel_rfl⟩
instance bd190 : Bd Tryz.prog 190 [(0, 1), (1, 1), (2, 1), (3, 1), (4, 1), (5, 1), (6, 1)] [.int .i64 0, .int .i64 0, .int .i64 0, .int .i64 0, .int .i64 0, .string ⟨#[]⟩, .string ⟨#[]⟩] := ⟨by kernel_rfl, by unfold ZeroIs; kernel_rfl⟩
instance fo206_0 : Fo Tryz.prog 206 0 0 := ⟨by kernel_rfl⟩
instance fo206_1 : Fo Tryz.prog 206 1 1 := ⟨by kernel_rfl⟩
instance fo206_2 : Fo Tryz.prog 206 2 2 := ⟨by kernel_rfl⟩
instance bd206 : Bd Tryz.prog 206 [(0, 1), (1, 1), (2, 1)] [.string ⟨#[]⟩, .string ⟨#[]⟩, .bool false] := ⟨by kernel_rfl, by unfold ZeroIs; kernel_rfl⟩
end Go.Proofs.YtlbnhhfaedhgfaaGreatDoor
namespace Go.Proofs.YtlbnhhfaedhgfaaGreatDoor
open Go.RowKit

theorem ba_eq {a b : ByteArray} (h : a.toList = b.toList) : a = b := by
  rw [ByteArray.toList_eq, ByteArray.toList_eq] at h
  apply ByteArray.ext
  exact Array.ext' h
theorem lt_irrefl (a : Bnd) : a.lt a = false := by simp [Bnd.lt, bytesLess_irrefl]
theorem lt_trans {a b c : Bnd} (h : a.lt b = true) (k : b.lt c = true) : a.lt c = true := by
  simp only [Bnd.lt, Bool.and_eq_true, Bool.or_eq_true, Bool.not_eq_true'] at *
  obtain ⟨h1, h2⟩ := h
  obtain ⟨k1, k2⟩ := k
  refine ⟨h1, ?_⟩
  rcases h2 with h2 | h2
  · rw [k1] at h2; cases h2
  · rcases k2 with k2 | k2
    · exact Or.inl k2
    · exact Or.inr (bytesLess_trans h2 k2)
theorem lt_total {a b : Bnd} (ha : vb a = true) (hb : vb b = true) (h : a.lt b = false) (k : b.lt a = false) : a = b := by
  obtain ⟨ak, at'⟩ := a
  obtain ⟨bk, bt⟩ := b
  simp only [vb, Bool.and_eq_true, Bool.or_eq_true, Bool.not_eq_true'] at ha hb
  simp only [Bnd.lt, Bool.and_eq_false_iff, Bool.not_eq_false', Bool.or_eq_false_iff] at h k
  cases at' <;> cases bt <;> simp at h k ha hb
  · have := bytesLess_total h k; rw [ba_eq this]
  · rw [ba_eq (ha.2.trans hb.2.symm)]
theorem emp_iff (r : Rng) : emp r = false ↔ vb r.lo = true ∧ vb r.hi = true ∧ r.lo.lt r.hi = true := by
  simp only [emp, vld, Bool.or_eq_false_iff, Bool.not_eq_false', Bool.and_eq_true, decide_eq_true_eq, beq_eq_false_iff_ne]
  have h1 := cmp_neg r.lo r.hi; have h2 := cmp_rng r.lo r.hi
  constructor
  · rintro ⟨⟨⟨a, b⟩, c⟩, d⟩; exact ⟨a, b, h1.1 (by omega)⟩
  · rintro ⟨a, b, c⟩; have := h1.2 c; exact ⟨⟨⟨a, b⟩, by omega⟩, by omega⟩
theorem greater_if (a b : Bnd) : greater a b = if a.lt b then b else a := by
  unfold greater; have := cmp_pos b a
  by_cases h : a.lt b = true
  · rw [if_pos (this.2 h), if_pos h]
  · rw [if_neg (fun e => h (this.1 e)), if_neg h]
theorem lesser_if (a b : Bnd) : lesser a b = if b.lt a then b else a := by
  unfold lesser; have := cmp_neg b a
  by_cases h : b.lt a = true
  · rw [if_pos (this.2 h), if_pos h]
  · rw [if_neg (fun e => h (this.1 e)), if_neg h]

theorem greater_vb {a b : Bnd} (ha : vb a = true) (hb : vb b = true) : vb (greater a b) = true := by rw [greater_if]; split <;> assumption
theorem lesser_vb {a b : Bnd} (ha : vb a = true) (hb : vb b = true) : vb (lesser a b) = true := by rw [lesser_if]; split <;> assumption
theorem le_lt {a b c : Bnd} (ha : vb a = true) (hb : vb b = true) (h : a.lt b = false) (k : a.lt c = true) : b.lt c = true := by grind [lt_total, lt_trans]
theorem lt_le {a b c : Bnd} (hb : vb b = true) (hc : vb c = true) (h : a.lt b = true) (k : c.lt b = false) : a.lt c = true := by grind [lt_total, lt_trans]
theorem emp_zr : emp zr = true := by kernel_rfl
theorem emp_mk {x y : Bnd} (hx : vb x = true) (hy : vb y = true) : emp ⟨x, y⟩ = !x.lt y := by
  cases h : x.lt y
  · cases e : emp ⟨x, y⟩ with
    | true => rfl
    | false => have := ((emp_iff _).1 e).2.2; rw [h] at this; cases this
  · exact (emp_iff _).2 ⟨hx, hy, h⟩
theorem isect_ne {a b : Rng} (ha : emp a = false) (hb : emp b = false) : isect a b = if (greater a.lo b.lo).lt (lesser a.hi b.hi) then ⟨greater a.lo b.lo, lesser a.hi b.hi⟩ else zr := by
  have ha' := (emp_iff a).1 ha
  have hb' := (emp_iff b).1 hb
  rw [isect, ha, hb, emp_mk (greater_vb ha'.1 hb'.1) (lesser_vb ha'.2.1 hb'.2.1)]
  cases (greater a.lo b.lo).lt (lesser a.hi b.hi) <;> rfl
theorem isect_el {a b : Rng} (h : emp a = true) : isect a b = zr := by simp [isect, h]
theorem isect_er {a b : Rng} (h : emp b = true) : isect a b = zr := by simp [isect, h]
end Go.Proofs.YtlbnhhfaedhgfaaGreatDoor
namespace Go.Proofs.YtlbnhhfaedhgfaaGreatDoor
open Go.RowKit

def upl : List UInt8 → Option (List UInt8)
  | [] => none
  | x :: r => match upl r with
    | some r' => some (x :: r')
    | none => if x = 255 then none else some [x + 1]

theorem upl_255 : ∀ q : List UInt8, upl (q ++ [255]) = upl q
  | [] => rfl
  | x :: r => by rw [List.cons_append, upl, upl, upl_255 r]
theorem upl_last (q : List UInt8) {x : UInt8} (hx : x ≠ 255) : upl (q ++ [x]) = some (q ++ [x + 1]) := by
  induction q with
  | nil => simp [upl, hx]
  | cons y r ih => rw [List.cons_append, upl, ih]; rfl

def upb (p : ByteArray) : Bnd := match upl p.toList with
  | some u => ⟨⟨u.toArray⟩, false⟩
  | none => ⟨⟨#[]⟩, true⟩
def pfx (p : ByteArray) : Rng := if vk p then ⟨⟨p, false⟩, upb p⟩ else zr

theorem len_toList (p : ByteArray) : p.toList.length = p.size := by rw [ByteArray.toList_eq]; exact Array.length_toList
end Go.Proofs.YtlbnhhfaedhgfaaGreatDoor
namespace Go.Proofs.YtlbnhhfaedhgfaaGreatDoor
open Go.RowKit

class Len {α : Type} (f : α → List D) (z : outParam Nat) : Prop where
  len : ∀ a, (f a).length = z
def Rng.ds (r : Rng) : List D := [dS r.lo.key, dB r.lo.top, dS r.hi.key, dB r.hi.top]
instance : Len Rng.ds 4 := ⟨fun _ => rfl⟩
structure Kv where
  key : ByteArray
  val : ByteArray
  deriving DecidableEq
theorem Kv.eta (r : Kv) : Kv.mk r.key r.val = r := rfl
theorem Bnd.eta (r : Bnd) : Bnd.mk r.key r.top = r := rfl
theorem Rng.eta (r : Rng) : Rng.mk r.lo r.hi = r := rfl
theorem tn_sub1 (m : Nat) : ((m : Int) - 1).toNat = m - 1 := by omega
def Kv.ds (r : Kv) : List D := [dS r.key, dS r.val]
instance : Len Kv.ds 2 := ⟨fun _ => rfl⟩
def dsI (z : Int) : List D := [dI z]
instance : Len dsI 1 := ⟨fun _ => rfl⟩
abbrev i64s (l : List Int) : D := lst dsI l
structure Fd where
  count : Int
  nums : Int
  sum : Int
  low : Int
  high : Int
  first : ByteArray
  last : ByteArray
structure Qy where
  kind : Int
  rs : List Rng
  key : ByteArray
  count : Int
theorem all_of {α : Type} {p : α → Bool} {l : List α} {m : Nat} (h : ∀ j (h : j < l.length), j < m → p l[j] = true) (hm : l.length ≤ m) : l.all p = true := by
  rw [List.all_eq_true]
  intro x hx
  obtain ⟨j, hj, rfl⟩ := List.mem_iff_getElem.1 hx
  exact h j hj (by omega)
theorem all_not {α : Type} {p : α → Bool} {l : List α} {m : Nat} (hm : m < l.length) (h : (!p l[m]) = true) : l.all p = false := by
  rw [List.all_eq_false]
  exact ⟨l[m], List.getElem_mem hm, by simpa using h⟩
end Go.Proofs.YtlbnhhfaedhgfaaGreatDoor
