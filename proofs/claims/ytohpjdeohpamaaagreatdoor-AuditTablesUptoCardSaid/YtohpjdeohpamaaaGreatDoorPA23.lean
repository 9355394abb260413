/-
  Lemmas: Models and walks
-/
import Derived.Test.YtohpjdeohpamaaaGreatDoorPA19
import Derived.Test.YtohpjdeohpamaaaGreatDoorPA18
set_option linter.unusedSimpArgs false
set_option linter.unusedVariables false
namespace Go.Proofs.YtohpjdeohpamaaaGreatDoor
open Go.RowKit
set_option maxRecDepth 100000
set_option maxHeartbeats 4000000
attribute [local irreducible] WK WC WL Wk Rel OpD OpV WD WO sel bnd obnd app lget lsl sget ssl scat letg iquo irem Op.bytesLess
attribute [local irreducible] qchk qranges union
def Mref28_inside (a1 : Rng) (r2 : Rng) : Bool :=
 bnd (Mref1_Compare r2.lo a1.lo) fun y3 =>
 sel (decide (y3 ≤ 0)) (
  bnd (Mref1_Compare a1.hi r2.hi) fun y4 =>
  sel (decide (y4 ≤ 0)) (
   bnd (Mref1_Empty r2) fun y5 =>
   !y5) (
   false)) (
  false)
def Mref28_Rows_l1 : List TVisit → List Kv → Option (List Kv)
  | [], out2 =>
  some out2
  | r3 :: xs4, out2 =>
  obnd (app out2 r3.View.Rows) fun l6 =>
  Mref28_Rows_l1 xs4 l6
def Mref28_Rows (l1 : List TVisit) : Option (List Kv) :=
 obnd (
  Mref28_Rows_l1 l1 [] : Option (List Kv)) fun out7 =>
 some out7
def Mref28_ValidView (v1 : TView) : Option Bool :=
 bnd (Mref24_Number v1.Owner) fun y2 =>
 sel y2 (
  bnd (Mref1_Empty v1.Interval) fun y3 =>
  sel (!y3) (
   bnd (Mref23_Valid v1.Stamp) fun y4 =>
   sel y4 (
    obnd (Mref20_Valid v1.Rows) fun y5 =>
    sel y5 (
     bnd (Mref20_Within v1.Rows v1.Interval) fun y6 =>
     some y6) (
     some false)) (
    some false)) (
   some false)) (
  some false)
theorem run_eqt140 {w : World} {n : Nat} (a0 b0 : Int) (a1 b1 : Int) : (Op.equalIn (n + 2) 140 (.agg #[.int .i64 a0, .int .i64 a1]) (.agg #[.int .i64 b0, .int .i64 b1])).run Tryz.prog w = .ok (decide (a0 = b0) && decide (a1 = b1)) w := by
  rw [show n + 2 = (n + 1) + 1 from rfl, run_equalIn_struct (P := Tryz.prog) w (n + 1) 140 _ _ (by kernel_rfl) (by kernel_rfl), show (Tryz.prog.fieldsOf 140).toList = [⟨"Epoch", 3, 0, false, "", "", 0⟩, ⟨"Version", 3, 1, false, "", "", 8⟩] from by kernel_rfl]
  simp [Op.eqFields, part, Result.andThen, eqt_if, ba_eqE, run_agg (T := 3) (inferInstance : Ty Tryz.prog 3 _ _), run_size (T := 3) (inferInstance : Ty Tryz.prog 3 _ _), run_equalIn_int (P := Tryz.prog) _ _ 3 .i64 .i64 _ _ (by kernel_rfl)]
  all_goals ((repeat' split) <;> simp_all)
instance eqs140 (a0 b0 : Int) (a1 b1 : Int) : Eqs Tryz.prog 140 [.int .i64 a0, .int .i64 a1] [.int .i64 b0, .int .i64 b1] (decide (a0 = b0) && decide (a1 = b1)) := ⟨by kernel_rfl, fun w => run_eqt140 (n := 9998) a0 b0 a1 b1⟩
def Mref28_SameVisit (a1 : TVisit) (b2 : TVisit) : Option Bool :=
 sel (decide (a1.View.Owner = b2.View.Owner)) (
  sel (decide (a1.View.Stamp.Epoch = b2.View.Stamp.Epoch) && decide (a1.View.Stamp.Version = b2.View.Stamp.Version)) (
   bnd (Mref24_SameRange a1.View.Interval b2.View.Interval) fun y3 =>
   sel y3 (
    bnd (Mref24_SameRange a1.Part b2.Part) fun y4 =>
    sel y4 (
     obnd (Mref20_Same a1.View.Rows b2.View.Rows) fun y5 =>
     some y5) (
     some false)) (
    some false)) (
   some false)) (
  some false)
def Mref28_SameVisits_l1 (a1 : List TVisit) (b2 : List TVisit) : List TVisit → Int → Option (Ctl Bool Unit)
  | [], i =>
  some (Ctl.nxt ())
  | r3 :: xs4, i =>
  obnd (lget a1 i) fun e6 =>
  obnd (lget b2 i) fun e7 =>
  obnd (Mref28_SameVisit e6 e7) fun y8 =>
  sel (!y8) (
   some (Ctl.ret false)) (
   Mref28_SameVisits_l1 a1 b2 xs4 (i + 1))
def Mref28_SameVisits (a1 : List TVisit) (b2 : List TVisit) : Option Bool :=
 sel (!decide ((a1.length : Int) = (b2.length : Int))) (
  some false) (
  obnd (
   Mref28_SameVisits_l1 a1 b2 a1 0 : Option (Ctl Bool Unit)) fun mu => ocbnd mu fun (_ : Unit) =>
  some true)
end Go.Proofs.YtohpjdeohpamaaaGreatDoor
