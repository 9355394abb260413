/-
  Lemmas: Models and walks
-/
import Derived.Test.YtlbnhhfaedhgfaaGreatDoorPB20
set_option linter.unusedSimpArgs false
set_option linter.unusedVariables false
namespace Go.Proofs.YtlbnhhfaedhgfaaGreatDoor
open Go.RowKit
set_option maxRecDepth 100000
set_option maxHeartbeats 4000000
attribute [local irreducible] WK WC WL Wk Rel OpD OpV WD WO sel bnd obnd app lget lsl sget ssl scat letg iquo irem Op.bytesLess
attribute [local irreducible] qchk qranges union
def Mref24_Serial (n1 : Int) : Bool :=
 sel (decide (1 ≤ n1)) (
  decide (n1 ≤ 1099511627776)) (
  false)
theorem Mref24_Serial_sp {n1 : Int} {y : Bool} (hm : Mref24_Serial n1 = y) : Spec Tryz.prog 173 [vI n1] [] fun u h => u = vB y ∧ h = [] := by
 refine si Tryz.func173 Tryz.ntmps173 Tryz.results173 fun B w0 ρ0 => ?_
 unfold Mref24_Serial at hm
 refine sr ?_
 refine sr ?_
 refine wl_sg hm ?_ ?_ <;> clear hm <;> intro hm
 ·refine sx ?_
  subst hm
  exact wk_r
 refine sx ?_
 subst hm
 exact wk_r

structure TWrite where
  Key : ByteArray
  Value : ByteArray
  Delete : Bool
  deriving DecidableEq
def TWrite.ds (x : TWrite) : List D := [dS x.Key, dS x.Value, dB x.Delete]
instance : Len TWrite.ds 3 := ⟨fun _ => rfl⟩
def Mref20_ValidWrite (w1 : TWrite) : Bool :=
 bnd (Mref1_ValidKey w1.Key) fun y2 =>
 sel y2 (
  sel (decide ((w1.Value.size : Int) ≤ 64)) (
   sel (!w1.Delete) (
    true) (
    decide (w1.Value = ⟨#[]⟩))) (
   false)) (
  false)
theorem Mref20_ValidWrite_sp {w1 : TWrite} {y : Bool} (hm : Mref20_ValidWrite w1 = y) : Spec Tryz.prog 172 [.a [vS w1.Key, vS w1.Value, vB w1.Delete]] [] fun u h => u = vB y ∧ h = [] := by
 refine si Tryz.func172 Tryz.ntmps172 Tryz.results172 fun B w0 ρ0 => ?_
 unfold Mref20_ValidWrite at hm
 refine sr ?_
 refine sr ?_
 obtain ⟨y2, hy, hm⟩ := bnd_o hm
 refine wl_cq (Mref1_ValidKey_sp (hm := hy)) ?_
 refine ss ?_
 refine wl_sg hm ?_ ?_ <;> clear hm <;> intro hm
 ·refine ss ?_
  refine wl_sg hm ?_ ?_ <;> clear hm <;> intro hm
  ·refine ss ?_
   refine wl_sg hm ?_ ?_ <;> clear hm <;> intro hm
   ·refine sx ?_
    subst hm
    exact wk_r
   refine sx ?_
   subst hm
   exact wk_r
  refine sx ?_
  subst hm
  exact wk_r
 refine sx ?_
 subst hm
 exact wk_r

structure TPart where
  Serial : Int
  From : Int
  To : Int
  Stamp : TStamp
  Range : Rng
  Rows : List Kv
  deriving DecidableEq
def TPart.ds (x : TPart) : List D := [dI x.Serial, dI x.From, dI x.To, dI x.Stamp.Epoch, dI x.Stamp.Version, dS x.Range.lo.key, dB x.Range.lo.top, dS x.Range.hi.key, dB x.Range.hi.top, lst Kv.ds x.Rows]
instance : Len TPart.ds 10 := ⟨fun _ => rfl⟩
def Mref24_ValidPart (p1 : TPart) : Option Bool :=
 bnd (Mref24_Serial p1.Serial) fun y2 =>
 sel y2 (
  bnd (Mref24_Number p1.From) fun y3 =>
  sel y3 (
   bnd (Mref24_Number p1.To) fun y4 =>
   sel y4 (
    sel (!decide (p1.From = p1.To)) (
     bnd (Mref23_Valid p1.Stamp) fun y5 =>
     sel y5 (
      bnd (Mref1_Empty p1.Range) fun y6 =>
      sel (!y6) (
       obnd (Mref20_Valid p1.Rows) fun y7 =>
       sel y7 (
        bnd (Mref20_Within p1.Rows p1.Range) fun y8 =>
        some y8) (
        some false)) (
       some false)) (
      some false)) (
     some false)) (
    some false)) (
   some false)) (
  some false)
theorem Mref24_ValidPart_sp {p1 : TPart} {y : Bool} (hm : Mref24_ValidPart p1 = some y) : Spec Tryz.prog 201 [.a [vI p1.Serial, vI p1.From, vI p1.To, vI p1.Stamp.Epoch, vI p1.Stamp.Version, vS p1.Range.lo.key, vB p1.Range.lo.top, vS p1.Range.hi.key, vB p1.Range.hi.top, .d (lst Kv.ds p1.Rows)]] [] fun u h => u = vB y ∧ h = [] := by
 refine si Tryz.func201 Tryz.ntmps201 Tryz.results201 fun B w0 ρ0 => ?_
 unfold Mref24_ValidPart at hm
 refine sr ?_
 refine sr ?_
 obtain ⟨y2, hy, hm⟩ := bnd_o hm
 refine wl_cq (Mref24_Serial_sp (hm := hy)) ?_
 refine ss ?_
 refine wl_sg hm ?_ ?_ <;> clear hm <;> intro hm
 ·refine ss ?_
  obtain ⟨y3, hy, hm⟩ := bnd_o hm
  refine wl_cq (Mref24_Number_sp (hm := hy)) ?_
  refine ss ?_
  refine wl_sg hm ?_ ?_ <;> clear hm <;> intro hm
  ·refine ss ?_
   obtain ⟨y4, hy, hm⟩ := bnd_o hm
   refine wl_cq (Mref24_Number_sp (hm := hy)) ?_
   refine ss ?_
   refine wl_sg hm ?_ ?_ <;> clear hm <;> intro hm
   ·refine ss ?_
    refine wl_sg hm ?_ ?_ <;> clear hm <;> intro hm
    ·refine ss ?_
     obtain ⟨y5, hy, hm⟩ := bnd_o hm
     refine wl_cq (Mref23_Valid_sp (hm := hy)) ?_
     refine ss ?_
     refine wl_sg hm ?_ ?_ <;> clear hm <;> intro hm
     ·refine ss ?_
      obtain ⟨y6, hy, hm⟩ := bnd_o hm
      refine wl_cq (Mref1_Empty_sp (hm := hy)) ?_
      refine ss ?_
      refine wl_sg hm ?_ ?_ <;> clear hm <;> intro hm
      ·refine ss ?_
       obtain ⟨y7, hy, hm⟩ := obnd_o hm
       refine wl_cq (Mref20_Valid_sp (hm := hy)) ?_
       refine ss ?_
       refine wl_sg hm ?_ ?_ <;> clear hm <;> intro hm
       ·refine ss ?_
        obtain ⟨y8, hy, hm⟩ := bnd_o hm
        refine wl_cq (Mref20_Within_sp (hm := hy)) ?_
        refine sx ?_
        cases hm
        exact wk_r
       refine sx ?_
       cases hm
       exact wk_r
      refine sx ?_
      cases hm
      exact wk_r
     refine sx ?_
     cases hm
     exact wk_r
    refine sx ?_
    cases hm
    exact wk_r
   refine sx ?_
   cases hm
   exact wk_r
  refine sx ?_
  cases hm
  exact wk_r
 refine sx ?_
 cases hm
 exact wk_r

def Mref24_apart (p1 : TPart) (r2 : Rng) : Option Bool :=
 sel (decide (p1.Serial = 0)) (
  some true) (
  obnd (Mref24_ValidPart p1) fun y3 =>
  sel y3 (
   bnd (Mref1_Intersect p1.Range r2) fun y4 =>
   bnd (Mref1_Empty y4) fun y5 =>
   some y5) (
   some false))
theorem Mref24_apart_sp {p1 : TPart} {r2 : Rng} {y : Bool} (hm : Mref24_apart p1 r2 = some y) : Spec Tryz.prog 171 [.a [vI p1.Serial, vI p1.From, vI p1.To, vI p1.Stamp.Epoch, vI p1.Stamp.Version, vS p1.Range.lo.key, vB p1.Range.lo.top, vS p1.Range.hi.key, vB p1.Range.hi.top, .d (lst Kv.ds p1.Rows)], .a [vS r2.lo.key, vB r2.lo.top, vS r2.hi.key, vB r2.hi.top]] [] fun u h => u = vB y ∧ h = [] := by
 refine si Tryz.func171 Tryz.ntmps171 Tryz.results171 fun B w0 ρ0 => ?_
 unfold Mref24_apart at hm
 refine sr ?_
 refine sr ?_
 refine wl_sg hm ?_ ?_ <;> clear hm <;> intro hm
 ·refine sx ?_
  cases hm
  exact wk_r
 refine ss ?_
 obtain ⟨y3, hy, hm⟩ := obnd_o hm
 refine wl_cq (Mref24_ValidPart_sp (hm := hy)) ?_
 refine ss ?_
 refine wl_sg hm ?_ ?_ <;> clear hm <;> intro hm
 ·refine ss ?_
  obtain ⟨y4, hy, hm⟩ := bnd_o hm
  refine wl_cq (Mref1_Intersect_sp (hm := hy)) ?_
  refine ss ?_
  obtain ⟨y5, hy, hm⟩ := bnd_o hm
  refine wl_cq (Mref1_Empty_sp (hm := hy)) ?_
  refine sx ?_
  cases hm
  exact wk_r
 refine sx ?_
 cases hm
 exact wk_r

structure TCopy where
  Range : Rng
  Stamp : TStamp
  Rows : List Kv
  Pending : List TWrite
  Out : TPart
  In : TPart
  Took : Int
  From : Int
  deriving DecidableEq
def TCopy.ds (x : TCopy) : List D := [dS x.Range.lo.key, dB x.Range.lo.top, dS x.Range.hi.key, dB x.Range.hi.top, dI x.Stamp.Epoch, dI x.Stamp.Version, lst Kv.ds x.Rows, lst TWrite.ds x.Pending, dI x.Out.Serial, dI x.Out.From, dI x.Out.To, dI x.Out.Stamp.Epoch, dI x.Out.Stamp.Version, dS x.Out.Range.lo.key, dB x.Out.Range.lo.top, dS x.Out.Range.hi.key, dB x.Out.Range.hi.top, lst Kv.ds x.Out.Rows, dI x.In.Serial, dI x.In.From, dI x.In.To, dI x.In.Stamp.Epoch, dI x.In.Stamp.Version, dS x.In.Range.lo.key, dB x.In.Range.lo.top, dS x.In.Range.hi.key, dB x.In.Range.hi.top, lst Kv.ds x.In.Rows, dI x.Took, dI x.From]
instance : Len TCopy.ds 30 := ⟨fun _ => rfl⟩
def Mref24_Valid_l1 (c1 : TCopy) : List TWrite → Option (Ctl Bool Unit)
  | [] =>
  some (Ctl.nxt ())
  | r13 :: xs14 =>
  bnd (Mref20_ValidWrite r13) fun y16 =>
  sel (!y16) (
   some (Ctl.ret false)) (
   bnd (Mref1_Contains c1.Range r13.Key) fun y17 =>
   sel (!y17) (
    some (Ctl.ret false)) (
    Mref24_Valid_l1 c1 xs14))
def Mref24_Valid (c1 : TCopy) : Option Bool :=
 obnd (
  bnd (Mref1_Valid c1.Range) fun y2 =>
  sel (!y2) (
   some true) (
   bnd (Mref23_Valid c1.Stamp) fun y3 =>
   sel (!y3) (
    some true) (
    obnd (Mref20_Valid c1.Rows) fun y4 =>
    sel (!y4) (
     some true) (
     bnd (Mref20_Within c1.Rows c1.Range) fun y5 =>
     some (!y5)))) : Option Bool) fun x6 =>
 sel x6 (
  some false) (
  obnd (
   sel (decide (64 < (c1.Pending.length : Int))) (
    some true) (
    sel (decide (1024 < i64w ((c1.Rows.length : Int) + (c1.Pending.length : Int)))) (
     some true) (
     obnd (Mref24_apart c1.Out c1.Range) fun y7 =>
     sel (!y7) (
      some true) (
      obnd (Mref24_apart c1.In c1.Range) fun y8 =>
      some (!y8)))) : Option Bool) fun x9 =>
  sel x9 (
   some false) (
   obnd (
    sel (!decide (c1.Out.Serial = 0)) (
     sel (!decide (c1.In.Serial = 0)) (
      bnd (Mref1_Intersect c1.Out.Range c1.In.Range) fun y10 =>
      bnd (Mref1_Empty y10) fun y11 =>
      some (!y11)) (
      some false)) (
     some false) : Option Bool) fun x12 =>
   sel x12 (
    some false) (
    obnd (
     Mref24_Valid_l1 c1 c1.Pending : Option (Ctl Bool Unit)) fun mu => ocbnd mu fun (_ : Unit) =>
    sel (decide (c1.Took = 0)) (
     some (decide (c1.From = 0))) (
     bnd (Mref24_Serial c1.Took) fun y18 =>
     sel y18 (
      bnd (Mref24_Number c1.From) fun y19 =>
      some y19) (
      some false)))))
theorem Mref24_Valid_sp {c1 : TCopy} {y : Bool} (hm : Mref24_Valid c1 = some y) : Spec Tryz.prog 141 [.a [vS c1.Range.lo.key, vB c1.Range.lo.top, vS c1.Range.hi.key, vB c1.Range.hi.top, vI c1.Stamp.Epoch, vI c1.Stamp.Version, .d (lst Kv.ds c1.Rows), .d (lst TWrite.ds c1.Pending), vI c1.Out.Serial, vI c1.Out.From, vI c1.Out.To, vI c1.Out.Stamp.Epoch, vI c1.Out.Stamp.Version, vS c1.Out.Range.lo.key, vB c1.Out.Range.lo.top, vS c1.Out.Range.hi.key, vB c1.Out.Range.hi.top, .d (lst Kv.ds c1.Out.Rows), vI c1.In.Serial, vI c1.In.From, vI c1.In.To, vI c1.In.Stamp.Epoch, vI c1.In.Stamp.Version, vS c1.In.Range.lo.key, vB c1.In.Range.lo.top, vS c1.In.Range.hi.key, vB c1.In.Range.hi.top, .d (lst Kv.ds c1.In.Rows), vI c1.Took, vI c1.From]] [] fun u h => u = vB y ∧ h = [] := by
 refine si Tryz.func141 Tryz.ntmps141 Tryz.results141 fun B w0 ρ0 => ?_
 unfold Mref24_Valid at hm
 refine sr ?_
 refine wc_seq ?_
 refine wc_seq ?_
 obtain ⟨mu1, hm1, hm⟩ := obnd_o hm
 refine wc_cut' (fun st => ∃ (x6 : Bool), x6 = mu1 ∧ st = ⟨[(1, .p 101 0), (28, vB x6)], [(101, some (.box 133 [vS c1.Range.lo.key, vB c1.Range.lo.top, vS c1.Range.hi.key, vB c1.Range.hi.top, vI c1.Stamp.Epoch, vI c1.Stamp.Version, .d (lst Kv.ds c1.Rows), .d (lst TWrite.ds c1.Pending), vI c1.Out.Serial, vI c1.Out.From, vI c1.Out.To, vI c1.Out.Stamp.Epoch, vI c1.Out.Stamp.Version, vS c1.Out.Range.lo.key, vB c1.Out.Range.lo.top, vS c1.Out.Range.hi.key, vB c1.Out.Range.hi.top, .d (lst Kv.ds c1.Out.Rows), vI c1.In.Serial, vI c1.In.From, vI c1.In.To, vI c1.In.Stamp.Epoch, vI c1.In.Stamp.Version, vS c1.In.Range.lo.key, vB c1.In.Range.lo.top, vS c1.In.Range.hi.key, vB c1.In.Range.hi.top, .d (lst Kv.ds c1.In.Rows), vI c1.Took, vI c1.From]))]⟩) ?_ ?_
 ·refine sr ?_
  obtain ⟨y2, hy, hm1⟩ := bnd_o hm1
  refine wl_cq (Mref1_Valid_sp (hm := hy)) ?_
  refine ss ?_
  refine wl_sg hm1 ?_ ?_ <;> clear hm1 <;> intro hm1
  ·refine ss ?_
   cases hm1
   exact wk_cutw [(101, 101)] ⟨_, rfl, rfl⟩
  refine ss ?_
  obtain ⟨y3, hy, hm1⟩ := bnd_o hm1
  refine wl_cq (Mref23_Valid_sp (hm := hy)) ?_
  refine ss ?_
  refine wl_sg hm1 ?_ ?_ <;> clear hm1 <;> intro hm1
  ·refine ss ?_
   cases hm1
   exact wk_cutw [(101, 101)] ⟨_, rfl, rfl⟩
  refine ss ?_
  obtain ⟨y4, hy, hm1⟩ := obnd_o hm1
  refine wl_cq (Mref20_Valid_sp (hm := hy)) ?_
  refine ss ?_
  refine wl_sg hm1 ?_ ?_ <;> clear hm1 <;> intro hm1
  ·refine ss ?_
   cases hm1
   exact wk_cutw [(101, 101)] ⟨_, rfl, rfl⟩
  refine ss ?_
  obtain ⟨y5, hy, hm1⟩ := bnd_o hm1
  refine wl_cq (Mref20_Within_sp (hm := hy)) ?_
  refine ss ?_
  cases hm1
  exact wk_cutw [(101, 101)] ⟨_, rfl, rfl⟩
 rintro _ ⟨x6, rfl, rfl⟩
 refine ss ?_
 refine wc_cs hm ?_ ?_ <;> clear hm <;> intro hm
 ·refine sr ?_
  refine sx ?_
  cases hm
  exact wk_r
 refine sx ?_
 refine wc_seq ?_
 refine wc_seq ?_
 obtain ⟨mu1, hm1, hm⟩ := obnd_o hm
 refine wc_cut' (fun st => ∃ (x9 : Bool), x9 = mu1 ∧ st = ⟨[(1, .p 101 0), (58, vB x9)], [(101, some (.box 133 [vS c1.Range.lo.key, vB c1.Range.lo.top, vS c1.Range.hi.key, vB c1.Range.hi.top, vI c1.Stamp.Epoch, vI c1.Stamp.Version, .d (lst Kv.ds c1.Rows), .d (lst TWrite.ds c1.Pending), vI c1.Out.Serial, vI c1.Out.From, vI c1.Out.To, vI c1.Out.Stamp.Epoch, vI c1.Out.Stamp.Version, vS c1.Out.Range.lo.key, vB c1.Out.Range.lo.top, vS c1.Out.Range.hi.key, vB c1.Out.Range.hi.top, .d (lst Kv.ds c1.Out.Rows), vI c1.In.Serial, vI c1.In.From, vI c1.In.To, vI c1.In.Stamp.Epoch, vI c1.In.Stamp.Version, vS c1.In.Range.lo.key, vB c1.In.Range.lo.top, vS c1.In.Range.hi.key, vB c1.In.Range.hi.top, .d (lst Kv.ds c1.In.Rows), vI c1.Took, vI c1.From]))]⟩) ?_ ?_
 ·refine sr ?_
  refine wl_sg hm1 ?_ ?_ <;> clear hm1 <;> intro hm1
  ·refine ss ?_
   cases hm1
   exact wk_cutw [(101, 101)] ⟨_, rfl, rfl⟩
  refine ss ?_
  refine wl_r (o_add rfl rfl rfl rfl) rfl rfl rfl ?_
  refine ss ?_
  refine wl_sg hm1 ?_ ?_ <;> clear hm1 <;> intro hm1
  ·refine ss ?_
   cases hm1
   exact wk_cutw [(101, 101)] ⟨_, rfl, rfl⟩
  refine ss ?_
  obtain ⟨y7, hy, hm1⟩ := obnd_o hm1
  refine wl_cq (Mref24_apart_sp (hm := hy)) ?_
  refine ss ?_
  refine wl_sg hm1 ?_ ?_ <;> clear hm1 <;> intro hm1
  ·refine ss ?_
   cases hm1
   exact wk_cutw [(101, 101)] ⟨_, rfl, rfl⟩
  refine ss ?_
  obtain ⟨y8, hy, hm1⟩ := obnd_o hm1
  refine wl_cq (Mref24_apart_sp (hm := hy)) ?_
  refine ss ?_
  cases hm1
  exact wk_cutw [(101, 101)] ⟨_, rfl, rfl⟩
 rintro _ ⟨x9, rfl, rfl⟩
 refine ss ?_
 refine wc_cs hm ?_ ?_ <;> clear hm <;> intro hm
 ·refine sr ?_
  refine sx ?_
  cases hm
  exact wk_r
 refine sx ?_
 refine wc_seq ?_
 refine wc_seq ?_
 obtain ⟨mu1, hm1, hm⟩ := obnd_o hm
 refine wc_cut' (fun st => ∃ (x12 : Bool), x12 = mu1 ∧ st = ⟨[(1, .p 101 0), (79, vB x12)], [(101, some (.box 133 [vS c1.Range.lo.key, vB c1.Range.lo.top, vS c1.Range.hi.key, vB c1.Range.hi.top, vI c1.Stamp.Epoch, vI c1.Stamp.Version, .d (lst Kv.ds c1.Rows), .d (lst TWrite.ds c1.Pending), vI c1.Out.Serial, vI c1.Out.From, vI c1.Out.To, vI c1.Out.Stamp.Epoch, vI c1.Out.Stamp.Version, vS c1.Out.Range.lo.key, vB c1.Out.Range.lo.top, vS c1.Out.Range.hi.key, vB c1.Out.Range.hi.top, .d (lst Kv.ds c1.Out.Rows), vI c1.In.Serial, vI c1.In.From, vI c1.In.To, vI c1.In.Stamp.Epoch, vI c1.In.Stamp.Version, vS c1.In.Range.lo.key, vB c1.In.Range.lo.top, vS c1.In.Range.hi.key, vB c1.In.Range.hi.top, .d (lst Kv.ds c1.In.Rows), vI c1.Took, vI c1.From]))]⟩) ?_ ?_
 ·refine sr ?_
  refine wl_sg hm1 ?_ ?_ <;> clear hm1 <;> intro hm1
  ·refine ss ?_
   refine wl_sg hm1 ?_ ?_ <;> clear hm1 <;> intro hm1
   ·refine ss ?_
    obtain ⟨y10, hy, hm1⟩ := bnd_o hm1
    refine wl_cq (Mref1_Intersect_sp (hm := hy)) ?_
    refine ss ?_
    obtain ⟨y11, hy, hm1⟩ := bnd_o hm1
    refine wl_cq (Mref1_Empty_sp (hm := hy)) ?_
    refine ss ?_
    cases hm1
    exact wk_cutw [(101, 101)] ⟨_, rfl, rfl⟩
   refine ss ?_
   cases hm1
   exact wk_cutw [(101, 101)] ⟨_, rfl, rfl⟩
  refine ss ?_
  cases hm1
  exact wk_cutw [(101, 101)] ⟨_, rfl, rfl⟩
 rintro _ ⟨x12, rfl, rfl⟩
 refine ss ?_
 refine wc_cs hm ?_ ?_ <;> clear hm <;> intro hm
 ·refine sr ?_
  refine sx ?_
  cases hm
  exact wk_r
 refine sx ?_
 refine sr ?_
 obtain ⟨mu1, hm1, hm⟩ := obnd_o hm
 refine wc_cut' (fun st => mu1 = Ctl.nxt () ∧ st = ⟨[(1, .p 101 0)], [(101, some (.box 133 [vS c1.Range.lo.key, vB c1.Range.lo.top, vS c1.Range.hi.key, vB c1.Range.hi.top, vI c1.Stamp.Epoch, vI c1.Stamp.Version, .d (lst Kv.ds c1.Rows), .d (lst TWrite.ds c1.Pending), vI c1.Out.Serial, vI c1.Out.From, vI c1.Out.To, vI c1.Out.Stamp.Epoch, vI c1.Out.Stamp.Version, vS c1.Out.Range.lo.key, vB c1.Out.Range.lo.top, vS c1.Out.Range.hi.key, vB c1.Out.Range.hi.top, .d (lst Kv.ds c1.Out.Rows), vI c1.In.Serial, vI c1.In.From, vI c1.In.To, vI c1.In.Stamp.Epoch, vI c1.In.Stamp.Version, vS c1.In.Range.lo.key, vB c1.In.Range.lo.top, vS c1.In.Range.hi.key, vB c1.In.Range.hi.top, .d (lst Kv.ds c1.In.Rows), vI c1.Took, vI c1.From]))]⟩) ?_ ?_
 ·refine wc_block ?_
  refine wc_len 81 rfl (fun hlenm15 => ?_)
  refine wc_loopw (fun κ st => ∃ (m15 : Nat) , κ = c1.Pending.length - m15 ∧ m15 ≤ c1.Pending.length ∧ Mref24_Valid_l1 c1 (c1.Pending.drop m15) = some mu1 ∧ st = ⟨[(1, .p 101 0), (81, .d (lst TWrite.ds c1.Pending)), (82, vI (c1.Pending.length : Int)), (83, vI (m15 : Int))], [(101, some (.box 133 [vS c1.Range.lo.key, vB c1.Range.lo.top, vS c1.Range.hi.key, vB c1.Range.hi.top, vI c1.Stamp.Epoch, vI c1.Stamp.Version, .d (lst Kv.ds c1.Rows), .d (lst TWrite.ds c1.Pending), vI c1.Out.Serial, vI c1.Out.From, vI c1.Out.To, vI c1.Out.Stamp.Epoch, vI c1.Out.Stamp.Version, vS c1.Out.Range.lo.key, vB c1.Out.Range.lo.top, vS c1.Out.Range.hi.key, vB c1.Out.Range.hi.top, .d (lst Kv.ds c1.Out.Rows), vI c1.In.Serial, vI c1.In.From, vI c1.In.To, vI c1.In.Stamp.Epoch, vI c1.In.Stamp.Version, vS c1.In.Range.lo.key, vB c1.In.Range.lo.top, vS c1.In.Range.hi.key, vB c1.In.Range.hi.top, .d (lst Kv.ds c1.In.Rows), vI c1.Took, vI c1.From]))]⟩) [(101, 101)] ⟨0, rfl, Nat.zero_le _, hm1, rfl⟩ ?_
  rintro κ _ ⟨m15, rfl, hlem15, hm1, rfl⟩
  rcases Nat.lt_or_ge m15 c1.Pending.length with hltm15 | hgem15
  ·obtain ⟨r13, hxm15, hdr⟩ := drop_c hltm15
   rw [hdr, Mref24_Valid_l1.eq_2] at hm1
   refine sr ?_
   refine wc_seq ?_
   refine wc_cond_tt (lt_t hltm15) rfl ?_
   refine sx ?_
   refine sr ?_
   refine wl_r (o_ixm (ys := [dS r13.Key, dS r13.Value, dB r13.Delete]) hxm15 rfl rfl rfl rfl) rfl rfl rfl ?_
   refine sr ?_
   obtain ⟨y16, hy, hm1⟩ := bnd_o hm1
   refine wl_cq (Mref20_ValidWrite_sp (hm := hy)) ?_
   refine ss ?_
   refine wl_sg hm1 ?_ ?_ <;> clear hm1 <;> intro hm1
   ·refine ss ?_
    refine wc_cond_t rfl ?_
    refine sr ?_
    refine sx ?_
    cases hm1
    replace hm := ocbnd_r hm
    cases hm
    exact wk_r
   refine ss ?_
   obtain ⟨y17, hy, hm1⟩ := bnd_o hm1
   refine wl_cq (Mref1_Contains_sp (hm := hy)) ?_
   refine ss ?_
   refine wc_cs hm1 ?_ ?_ <;> clear hm1 <;> intro hm1
   ·refine sr ?_
    refine sx ?_
    cases hm1
    replace hm := ocbnd_r hm
    cases hm
    exact wk_r
   refine sx ?_
   refine sr ?_
   refine wl_r (o_inc hltm15 hlenm15 rfl rfl rfl) rfl rfl rfl ?_
   refine ss ?_
   exact wk_loopw [(101, 101)] ⟨m15 + 1, rfl, hltm15, hm1, rfl⟩ (by omega)
  ·rw [drop_n hgem15, Mref24_Valid_l1.eq_1] at hm1
   refine sr ?_
   refine wc_seq ?_
   refine wc_cond_ff (lt_f hgem15) rfl ?_
   refine wc_exit ?_
   refine ss ?_
   cases hm1
   exact wk_cutw [(101, 101)] ⟨rfl, rfl⟩
 rintro _ ⟨rfl, rfl⟩
 replace hm := ocbnd_n hm
 refine sr ?_
 refine wc_cs hm ?_ ?_ <;> clear hm <;> intro hm
 ·refine sr ?_
  refine sx ?_
  cases hm
  exact wk_r
 refine sx ?_
 refine sr ?_
 obtain ⟨y18, hy, hm⟩ := bnd_o hm
 refine wl_cq (Mref24_Serial_sp (hm := hy)) ?_
 refine ss ?_
 refine wl_sg hm ?_ ?_ <;> clear hm <;> intro hm
 ·refine ss ?_
  obtain ⟨y19, hy, hm⟩ := bnd_o hm
  refine wl_cq (Mref24_Number_sp (hm := hy)) ?_
  refine sx ?_
  cases hm
  exact wk_r
 refine sx ?_
 cases hm
 exact wk_r

def Mref24_New (r1 : Rng) (s2 : TStamp) (rows3 : List Kv) : Option (TCopy × Int) :=
 obnd (
  bnd (Mref1_Valid r1) fun y4 =>
  sel (!y4) (
   some true) (
   bnd (Mref23_Valid s2) fun y5 =>
   some (!y5)) : Option Bool) fun x6 =>
 sel x6 (
  some ((TCopy.mk (Rng.mk (Bnd.mk ⟨#[]⟩ false) (Bnd.mk ⟨#[]⟩ false)) (TStamp.mk 0 0) [] [] (TPart.mk 0 0 0 (TStamp.mk 0 0) (Rng.mk (Bnd.mk ⟨#[]⟩ false) (Bnd.mk ⟨#[]⟩ false)) []) (TPart.mk 0 0 0 (TStamp.mk 0 0) (Rng.mk (Bnd.mk ⟨#[]⟩ false) (Bnd.mk ⟨#[]⟩ false)) []) 0 0), 1)) (
  obnd (
   obnd (Mref20_Valid rows3) fun y7 =>
   sel (!y7) (
    some true) (
    bnd (Mref20_Within rows3 r1) fun y8 =>
    some (!y8)) : Option Bool) fun x9 =>
  sel x9 (
   some ((TCopy.mk (Rng.mk (Bnd.mk ⟨#[]⟩ false) (Bnd.mk ⟨#[]⟩ false)) (TStamp.mk 0 0) [] [] (TPart.mk 0 0 0 (TStamp.mk 0 0) (Rng.mk (Bnd.mk ⟨#[]⟩ false) (Bnd.mk ⟨#[]⟩ false)) []) (TPart.mk 0 0 0 (TStamp.mk 0 0) (Rng.mk (Bnd.mk ⟨#[]⟩ false) (Bnd.mk ⟨#[]⟩ false)) []) 0 0), 17)) (
   obnd (app ([] : List Kv) rows3) fun l10 =>
   some ((TCopy.mk r1 s2 l10 [] (TPart.mk 0 0 0 (TStamp.mk 0 0) (Rng.mk (Bnd.mk ⟨#[]⟩ false) (Bnd.mk ⟨#[]⟩ false)) []) (TPart.mk 0 0 0 (TStamp.mk 0 0) (Rng.mk (Bnd.mk ⟨#[]⟩ false) (Bnd.mk ⟨#[]⟩ false)) []) 0 0), 0)))
theorem Mref24_New_sp {r1 : Rng} {s2 : TStamp} {rows3 : List Kv} {y : (TCopy × Int)} (hm : Mref24_New r1 s2 rows3 = some y) : Spec Tryz.prog 76 [.a [vS r1.lo.key, vB r1.lo.top, vS r1.hi.key, vB r1.hi.top], .a [vI s2.Epoch, vI s2.Version], .d (lst Kv.ds rows3)] [] fun u h => u = .t [.a [vS y.1.Range.lo.key, vB y.1.Range.lo.top, vS y.1.Range.hi.key, vB y.1.Range.hi.top, vI y.1.Stamp.Epoch, vI y.1.Stamp.Version, .d (lst Kv.ds y.1.Rows), .d (lst TWrite.ds y.1.Pending), vI y.1.Out.Serial, vI y.1.Out.From, vI y.1.Out.To, vI y.1.Out.Stamp.Epoch, vI y.1.Out.Stamp.Version, vS y.1.Out.Range.lo.key, vB y.1.Out.Range.lo.top, vS y.1.Out.Range.hi.key, vB y.1.Out.Range.hi.top, .d (lst Kv.ds y.1.Out.Rows), vI y.1.In.Serial, vI y.1.In.From, vI y.1.In.To, vI y.1.In.Stamp.Epoch, vI y.1.In.Stamp.Version, vS y.1.In.Range.lo.key, vB y.1.In.Range.lo.top, vS y.1.In.Range.hi.key, vB y.1.In.Range.hi.top, .d (lst Kv.ds y.1.In.Rows), vI y.1.Took, vI y.1.From], vI y.2] ∧ h = [] := by
 refine si Tryz.func76 Tryz.ntmps76 Tryz.results76 fun B w0 ρ0 => ?_
 unfold Mref24_New at hm
 refine sr ?_
 refine wc_seq ?_
 refine wc_seq ?_
 obtain ⟨mu1, hm1, hm⟩ := obnd_o hm
 refine wc_cut' (fun st => ∃ (x6 : Bool), x6 = mu1 ∧ st = ⟨[(2, .d (lst Kv.ds rows3)), (3, .p 103 0), (4, .p 104 0), (6, .p 106 0), (15, vB x6)], [(103, some (.box 42 [vS r1.lo.key, vB r1.lo.top, vS r1.hi.key, vB r1.hi.top])), (104, some (.box 46 [vI s2.Epoch, vI s2.Version])), (106, some (.box 133 [vS ⟨#[]⟩, vB false, vS ⟨#[]⟩, vB false, vI 0, vI 0, .d (.c (.slice none 0 0)), .d (.c (.slice none 0 0)), vI 0, vI 0, vI 0, vI 0, vI 0, vS ⟨#[]⟩, vB false, vS ⟨#[]⟩, vB false, .d (.c (.slice none 0 0)), vI 0, vI 0, vI 0, vI 0, vI 0, vS ⟨#[]⟩, vB false, vS ⟨#[]⟩, vB false, .d (.c (.slice none 0 0)), vI 0, vI 0]))]⟩) ?_ ?_
 ·refine sr ?_
  obtain ⟨y4, hy, hm1⟩ := bnd_o hm1
  refine wl_cq (Mref1_Valid_sp (hm := hy)) ?_
  refine ss ?_
  refine wl_sg hm1 ?_ ?_ <;> clear hm1 <;> intro hm1
  ·refine ss ?_
   cases hm1
   exact wk_cutw [(103, 103), (104, 104), (106, 106)] ⟨_, rfl, rfl⟩
  refine ss ?_
  obtain ⟨y5, hy, hm1⟩ := bnd_o hm1
  refine wl_cq (Mref23_Valid_sp (hm := hy)) ?_
  refine ss ?_
  cases hm1
  exact wk_cutw [(103, 103), (104, 104), (106, 106)] ⟨_, rfl, rfl⟩
 rintro _ ⟨x6, rfl, rfl⟩
 refine ss ?_
 refine wc_cs hm ?_ ?_ <;> clear hm <;> intro hm
 ·refine sr ?_
  refine sx ?_
  cases hm
  exact wk_r
 refine sx ?_
 refine wc_seq ?_
 refine wc_seq ?_
 obtain ⟨mu1, hm1, hm⟩ := obnd_o hm
 refine wc_cut' (fun st => ∃ (x9 : Bool), x9 = mu1 ∧ st = ⟨[(2, .d (lst Kv.ds rows3)), (3, .p 103 0), (4, .p 104 0), (6, .p 106 0), (25, vB x9)], [(103, some (.box 42 [vS r1.lo.key, vB r1.lo.top, vS r1.hi.key, vB r1.hi.top])), (104, some (.box 46 [vI s2.Epoch, vI s2.Version])), (106, some (.box 133 [vS ⟨#[]⟩, vB false, vS ⟨#[]⟩, vB false, vI 0, vI 0, .d (.c (.slice none 0 0)), .d (.c (.slice none 0 0)), vI 0, vI 0, vI 0, vI 0, vI 0, vS ⟨#[]⟩, vB false, vS ⟨#[]⟩, vB false, .d (.c (.slice none 0 0)), vI 0, vI 0, vI 0, vI 0, vI 0, vS ⟨#[]⟩, vB false, vS ⟨#[]⟩, vB false, .d (.c (.slice none 0 0)), vI 0, vI 0]))]⟩) ?_ ?_
 ·refine sr ?_
  obtain ⟨y7, hy, hm1⟩ := obnd_o hm1
  refine wl_cq (Mref20_Valid_sp (hm := hy)) ?_
  refine ss ?_
  refine wl_sg hm1 ?_ ?_ <;> clear hm1 <;> intro hm1
  ·refine ss ?_
   cases hm1
   exact wk_cutw [(103, 103), (104, 104), (106, 106)] ⟨_, rfl, rfl⟩
  refine ss ?_
  obtain ⟨y8, hy, hm1⟩ := bnd_o hm1
  refine wl_cq (Mref20_Within_sp (hm := hy)) ?_
  refine ss ?_
  cases hm1
  exact wk_cutw [(103, 103), (104, 104), (106, 106)] ⟨_, rfl, rfl⟩
 rintro _ ⟨x9, rfl, rfl⟩
 refine ss ?_
 refine wc_cs hm ?_ ?_ <;> clear hm <;> intro hm
 ·refine sr ?_
  refine sx ?_
  cases hm
  exact wk_r
 refine sx ?_
 refine wc_seq ?_
 refine wc_draw (id := 5) [⟨0, 0, [3]⟩, ⟨1, 0, [4]⟩, ⟨2, 0, [2]⟩, ⟨3, 4, [29]⟩, ⟨4, 15, [27, 28, 30]⟩, ⟨5, 31, [6, 31]⟩, ⟨6, 63, []⟩] mixed (by kernel_rfl) ?_
 refine ss ?_
 obtain ⟨l10, hy, hm⟩ := obnd_o hm
 refine wd_1 [] (n_appn (k := 130) hy rfl rfl rfl rfl rfl rfl) rfl (by first | exact .no rfl | exact .y rfl rfl rfl rfl) rfl rfl rfl ?_
 refine sx ?_
 cases hm
 exact wk_r

structure TMember where
  ID : Int
  Up : Bool
  Copy : TCopy
  deriving DecidableEq
def TMember.ds (x : TMember) : List D := [dI x.ID, dB x.Up, dS x.Copy.Range.lo.key, dB x.Copy.Range.lo.top, dS x.Copy.Range.hi.key, dB x.Copy.Range.hi.top, dI x.Copy.Stamp.Epoch, dI x.Copy.Stamp.Version, lst Kv.ds x.Copy.Rows, lst TWrite.ds x.Copy.Pending, dI x.Copy.Out.Serial, dI x.Copy.Out.From, dI x.Copy.Out.To, dI x.Copy.Out.Stamp.Epoch, dI x.Copy.Out.Stamp.Version, dS x.Copy.Out.Range.lo.key, dB x.Copy.Out.Range.lo.top, dS x.Copy.Out.Range.hi.key, dB x.Copy.Out.Range.hi.top, lst Kv.ds x.Copy.Out.Rows, dI x.Copy.In.Serial, dI x.Copy.In.From, dI x.Copy.In.To, dI x.Copy.In.Stamp.Epoch, dI x.Copy.In.Stamp.Version, dS x.Copy.In.Range.lo.key, dB x.Copy.In.Range.lo.top, dS x.Copy.In.Range.hi.key, dB x.Copy.In.Range.hi.top, lst Kv.ds x.Copy.In.Rows, dI x.Copy.Took, dI x.Copy.From]
instance : Len TMember.ds 32 := ⟨fun _ => rfl⟩
structure TGroup where
  Number : Int
  Open : Bool
  Members : List TMember
  deriving DecidableEq
def TGroup.ds (x : TGroup) : List D := [dI x.Number, dB x.Open, lst TMember.ds x.Members]
instance : Len TGroup.ds 3 := ⟨fun _ => rfl⟩
def Mref25_place_l1 (id2 : Int) : List TMember → Int → Ctl Int Unit
  | [], i =>
  Ctl.nxt ()
  | r3 :: xs4, i =>
  sel (decide (r3.ID = id2)) (
   Ctl.ret i) (
   Mref25_place_l1 id2 xs4 (i + 1))
def Mref25_place (g1 : TGroup) (id2 : Int) : Int :=
 bnd (
  Mref25_place_l1 id2 g1.Members 0 : Ctl Int Unit) fun mu => cbnd mu fun (_ : Unit) =>
 (-1)
theorem Mref25_place_sp {g1 : TGroup} {id2 : Int} {y : Int} (hm : Mref25_place g1 id2 = y) : Spec Tryz.prog 142 [.a [vI g1.Number, vB g1.Open, .d (lst TMember.ds g1.Members)], vI id2] [] fun u h => u = vI y ∧ h = [] := by
 refine si Tryz.func142 Tryz.ntmps142 Tryz.results142 fun B w0 ρ0 => ?_
 unfold Mref25_place at hm
 refine sr ?_
 refine sr ?_
 obtain ⟨mu1, hm1, hm⟩ := bnd_o hm
 refine wc_cut' (fun st => mu1 = Ctl.nxt () ∧ st = ⟨[], []⟩) ?_ ?_
 ·refine wc_block ?_
  refine wc_len 8 rfl (fun hlenm5 => ?_)
  refine wc_loopw (fun κ st => ∃ (m5 : Nat) , κ = g1.Members.length - m5 ∧ m5 ≤ g1.Members.length ∧ Mref25_place_l1 id2 (g1.Members.drop m5) (m5 : Int) = mu1 ∧ st = ⟨[(1, vI id2), (8, .d (lst TMember.ds g1.Members)), (9, vI (g1.Members.length : Int)), (10, vI (m5 : Int))], []⟩) [] ⟨0, rfl, Nat.zero_le _, hm1, rfl⟩ ?_
  rintro κ _ ⟨m5, rfl, hlem5, hm1, rfl⟩
  rcases Nat.lt_or_ge m5 g1.Members.length with hltm5 | hgem5
  ·obtain ⟨r3, hxm5, hdr⟩ := drop_c hltm5
   rw [hdr, Mref25_place_l1.eq_2] at hm1
   refine sr ?_
   refine wc_seq ?_
   refine wc_cond_tt (lt_t hltm5) rfl ?_
   refine sx ?_
   refine sr ?_
   refine wl_r (o_ixm (ys := [dI r3.ID, dB r3.Up, dS r3.Copy.Range.lo.key, dB r3.Copy.Range.lo.top, dS r3.Copy.Range.hi.key, dB r3.Copy.Range.hi.top, dI r3.Copy.Stamp.Epoch, dI r3.Copy.Stamp.Version, lst Kv.ds r3.Copy.Rows, lst TWrite.ds r3.Copy.Pending, dI r3.Copy.Out.Serial, dI r3.Copy.Out.From, dI r3.Copy.Out.To, dI r3.Copy.Out.Stamp.Epoch, dI r3.Copy.Out.Stamp.Version, dS r3.Copy.Out.Range.lo.key, dB r3.Copy.Out.Range.lo.top, dS r3.Copy.Out.Range.hi.key, dB r3.Copy.Out.Range.hi.top, lst Kv.ds r3.Copy.Out.Rows, dI r3.Copy.In.Serial, dI r3.Copy.In.From, dI r3.Copy.In.To, dI r3.Copy.In.Stamp.Epoch, dI r3.Copy.In.Stamp.Version, dS r3.Copy.In.Range.lo.key, dB r3.Copy.In.Range.lo.top, dS r3.Copy.In.Range.hi.key, dB r3.Copy.In.Range.hi.top, lst Kv.ds r3.Copy.In.Rows, dI r3.Copy.Took, dI r3.Copy.From]) hxm5 rfl rfl rfl rfl) rfl rfl rfl ?_
   refine sr ?_
   refine wc_cs hm1 ?_ ?_ <;> clear hm1 <;> intro hm1
   ·refine sr ?_
    refine sx ?_
    subst hm1
    replace hm := cbnd_r hm
    subst hm
    exact wk_r
   refine sx ?_
   refine sr ?_
   refine wl_r (o_inc hltm5 hlenm5 rfl rfl rfl) rfl rfl rfl ?_
   refine ss ?_
   exact wk_loopw [] ⟨m5 + 1, rfl, hltm5, hm1, rfl⟩ (by omega)
  ·rw [drop_n hgem5, Mref25_place_l1.eq_1] at hm1
   refine sr ?_
   refine wc_seq ?_
   refine wc_cond_ff (lt_f hgem5) rfl ?_
   refine wc_exit ?_
   refine ss ?_
   subst hm1
   exact wk_cutw [] ⟨rfl, rfl⟩
 rintro _ ⟨rfl, rfl⟩
 replace hm := cbnd_n hm
 refine sr ?_
 refine sx ?_
 subst hm
 exact wk_r

def Mref25_Owner (g1 : TGroup) : Option (TMember × Bool) :=
 obnd (
  sel (decide ((g1.Members.length : Int) = 0)) (
   some true) (
   obnd (lget g1.Members 0) fun e2 =>
   some (!e2.Up)) : Option Bool) fun x3 =>
 sel x3 (
  some ((TMember.mk 0 false (TCopy.mk (Rng.mk (Bnd.mk ⟨#[]⟩ false) (Bnd.mk ⟨#[]⟩ false)) (TStamp.mk 0 0) [] [] (TPart.mk 0 0 0 (TStamp.mk 0 0) (Rng.mk (Bnd.mk ⟨#[]⟩ false) (Bnd.mk ⟨#[]⟩ false)) []) (TPart.mk 0 0 0 (TStamp.mk 0 0) (Rng.mk (Bnd.mk ⟨#[]⟩ false) (Bnd.mk ⟨#[]⟩ false)) []) 0 0)), false)) (
  obnd (lget g1.Members 0) fun e4 =>
  some (e4, true))
theorem Mref25_Owner_sp {g1 : TGroup} {y : (TMember × Bool)} (hm : Mref25_Owner g1 = some y) : Spec Tryz.prog 137 [.a [vI g1.Number, vB g1.Open, .d (lst TMember.ds g1.Members)]] [] fun u h => u = .t [.a [vI y.1.ID, vB y.1.Up, vS y.1.Copy.Range.lo.key, vB y.1.Copy.Range.lo.top, vS y.1.Copy.Range.hi.key, vB y.1.Copy.Range.hi.top, vI y.1.Copy.Stamp.Epoch, vI y.1.Copy.Stamp.Version, .d (lst Kv.ds y.1.Copy.Rows), .d (lst TWrite.ds y.1.Copy.Pending), vI y.1.Copy.Out.Serial, vI y.1.Copy.Out.From, vI y.1.Copy.Out.To, vI y.1.Copy.Out.Stamp.Epoch, vI y.1.Copy.Out.Stamp.Version, vS y.1.Copy.Out.Range.lo.key, vB y.1.Copy.Out.Range.lo.top, vS y.1.Copy.Out.Range.hi.key, vB y.1.Copy.Out.Range.hi.top, .d (lst Kv.ds y.1.Copy.Out.Rows), vI y.1.Copy.In.Serial, vI y.1.Copy.In.From, vI y.1.Copy.In.To, vI y.1.Copy.In.Stamp.Epoch, vI y.1.Copy.In.Stamp.Version, vS y.1.Copy.In.Range.lo.key, vB y.1.Copy.In.Range.lo.top, vS y.1.Copy.In.Range.hi.key, vB y.1.Copy.In.Range.hi.top, .d (lst Kv.ds y.1.Copy.In.Rows), vI y.1.Copy.Took, vI y.1.Copy.From], vB y.2] ∧ h = [] := by
 refine si Tryz.func137 Tryz.ntmps137 Tryz.results137 fun B w0 ρ0 => ?_
 unfold Mref25_Owner at hm
 refine sr ?_
 refine wc_seq ?_
 refine wc_seq ?_
 obtain ⟨mu1, hm1, hm⟩ := obnd_o hm
 refine wc_cut' (fun st => ∃ (x3 : Bool), x3 = mu1 ∧ st = ⟨[(1, .p 101 0), (2, .p 102 0), (15, vB x3)], [(101, some (.box 124 [vI g1.Number, vB g1.Open, .d (lst TMember.ds g1.Members)])), (102, some (.box 175 [vI 0, vB false, vS ⟨#[]⟩, vB false, vS ⟨#[]⟩, vB false, vI 0, vI 0, .d (.c (.slice none 0 0)), .d (.c (.slice none 0 0)), vI 0, vI 0, vI 0, vI 0, vI 0, vS ⟨#[]⟩, vB false, vS ⟨#[]⟩, vB false, .d (.c (.slice none 0 0)), vI 0, vI 0, vI 0, vI 0, vI 0, vS ⟨#[]⟩, vB false, vS ⟨#[]⟩, vB false, .d (.c (.slice none 0 0)), vI 0, vI 0]))]⟩) ?_ ?_
 ·refine sr ?_
  refine wl_sg hm1 ?_ ?_ <;> clear hm1 <;> intro hm1
  ·refine ss ?_
   cases hm1
   exact wk_cutw [(101, 101), (102, 102)] ⟨_, rfl, rfl⟩
  refine ss ?_
  obtain ⟨e2, hy, hm1⟩ := obnd_o hm1
  refine wl_r (o_ixg (ys := [dI e2.ID, dB e2.Up, dS e2.Copy.Range.lo.key, dB e2.Copy.Range.lo.top, dS e2.Copy.Range.hi.key, dB e2.Copy.Range.hi.top, dI e2.Copy.Stamp.Epoch, dI e2.Copy.Stamp.Version, lst Kv.ds e2.Copy.Rows, lst TWrite.ds e2.Copy.Pending, dI e2.Copy.Out.Serial, dI e2.Copy.Out.From, dI e2.Copy.Out.To, dI e2.Copy.Out.Stamp.Epoch, dI e2.Copy.Out.Stamp.Version, dS e2.Copy.Out.Range.lo.key, dB e2.Copy.Out.Range.lo.top, dS e2.Copy.Out.Range.hi.key, dB e2.Copy.Out.Range.hi.top, lst Kv.ds e2.Copy.Out.Rows, dI e2.Copy.In.Serial, dI e2.Copy.In.From, dI e2.Copy.In.To, dI e2.Copy.In.Stamp.Epoch, dI e2.Copy.In.Stamp.Version, dS e2.Copy.In.Range.lo.key, dB e2.Copy.In.Range.lo.top, dS e2.Copy.In.Range.hi.key, dB e2.Copy.In.Range.hi.top, lst Kv.ds e2.Copy.In.Rows, dI e2.Copy.Took, dI e2.Copy.From]) hy rfl rfl rfl rfl) rfl rfl rfl ?_
  refine ss ?_
  cases hm1
  exact wk_cutw [(101, 101), (102, 102)] ⟨_, rfl, rfl⟩
 rintro _ ⟨x3, rfl, rfl⟩
 refine ss ?_
 refine wc_cs hm ?_ ?_ <;> clear hm <;> intro hm
 ·refine sr ?_
  refine sx ?_
  cases hm
  exact wk_r
 refine sx ?_
 refine sr ?_
 obtain ⟨e4, hy, hm⟩ := obnd_o hm
 refine wl_r (o_ixg (ys := [dI e4.ID, dB e4.Up, dS e4.Copy.Range.lo.key, dB e4.Copy.Range.lo.top, dS e4.Copy.Range.hi.key, dB e4.Copy.Range.hi.top, dI e4.Copy.Stamp.Epoch, dI e4.Copy.Stamp.Version, lst Kv.ds e4.Copy.Rows, lst TWrite.ds e4.Copy.Pending, dI e4.Copy.Out.Serial, dI e4.Copy.Out.From, dI e4.Copy.Out.To, dI e4.Copy.Out.Stamp.Epoch, dI e4.Copy.Out.Stamp.Version, dS e4.Copy.Out.Range.lo.key, dB e4.Copy.Out.Range.lo.top, dS e4.Copy.Out.Range.hi.key, dB e4.Copy.Out.Range.hi.top, lst Kv.ds e4.Copy.Out.Rows, dI e4.Copy.In.Serial, dI e4.Copy.In.From, dI e4.Copy.In.To, dI e4.Copy.In.Stamp.Epoch, dI e4.Copy.In.Stamp.Version, dS e4.Copy.In.Range.lo.key, dB e4.Copy.In.Range.lo.top, dS e4.Copy.In.Range.hi.key, dB e4.Copy.In.Range.hi.top, lst Kv.ds e4.Copy.In.Rows, dI e4.Copy.Took, dI e4.Copy.From]) hy rfl rfl rfl rfl) rfl rfl rfl ?_
 refine sx ?_
 cases hm
 exact wk_r

def Mref25_New_l1 : List Int → Bool → Option Bool
  | [], bad7 =>
  some bad7
  | r8 :: xs9, bad7 =>
  sel bad7 (
   Mref25_New_l1 xs9 true) (
   bnd (Mref24_Number r8) fun y11 =>
   Mref25_New_l1 xs9 (!y11))
def Mref25_New_l2 (number1 : Int) (c3 : TCopy) : List Int → List TMember → Option (Ctl (TGroup × Int) (List TMember))
  | [], g13 =>
  some (Ctl.nxt g13)
  | r14 :: xs15, g13 =>
  bnd (Mref25_place (TGroup.mk number1 true g13) r14) fun y17 =>
  sel (decide (0 ≤ y17)) (
   some (Ctl.ret ((TGroup.mk 0 false []), 5))) (
   obnd (app g13 ([(TMember.mk r14 true c3)] : List TMember)) fun l18 =>
   Mref25_New_l2 number1 c3 xs15 l18)
def Mref25_New (number1 : Int) (ids2 : List Int) (c3 : TCopy) : Option (TGroup × Int) :=
 obnd (
  bnd (Mref24_Number number1) fun y4 =>
  sel (!y4) (
   some true) (
   sel (decide ((ids2.length : Int) = 0)) (
    some true) (
    obnd (Mref24_Valid c3) fun y5 =>
    some (!y5))) : Option Bool) fun bad6 =>
 obnd (
  Mref25_New_l1 ids2 bad6 : Option Bool) fun bad12 =>
 sel bad12 (
  some ((TGroup.mk 0 false []), 1)) (
  sel (decide (5 < (ids2.length : Int))) (
   some ((TGroup.mk 0 false []), 3)) (
   obnd (
    Mref25_New_l2 number1 c3 ids2 [] : Option (Ctl (TGroup × Int) (List TMember))) fun mu => ocbnd mu fun g19 =>
   some ((TGroup.mk number1 true g19), 0)))
theorem Mref25_New_sp {number1 : Int} {ids2 : List Int} {c3 : TCopy} {y : (TGroup × Int)} (hm : Mref25_New number1 ids2 c3 = some y) : Spec Tryz.prog 78 [vI number1, .d (lst dsI ids2), .a [vS c3.Range.lo.key, vB c3.Range.lo.top, vS c3.Range.hi.key, vB c3.Range.hi.top, vI c3.Stamp.Epoch, vI c3.Stamp.Version, .d (lst Kv.ds c3.Rows), .d (lst TWrite.ds c3.Pending), vI c3.Out.Serial, vI c3.Out.From, vI c3.Out.To, vI c3.Out.Stamp.Epoch, vI c3.Out.Stamp.Version, vS c3.Out.Range.lo.key, vB c3.Out.Range.lo.top, vS c3.Out.Range.hi.key, vB c3.Out.Range.hi.top, .d (lst Kv.ds c3.Out.Rows), vI c3.In.Serial, vI c3.In.From, vI c3.In.To, vI c3.In.Stamp.Epoch, vI c3.In.Stamp.Version, vS c3.In.Range.lo.key, vB c3.In.Range.lo.top, vS c3.In.Range.hi.key, vB c3.In.Range.hi.top, .d (lst Kv.ds c3.In.Rows), vI c3.Took, vI c3.From]] [] fun u h => u = .t [.a [vI y.1.Number, vB y.1.Open, .d (lst TMember.ds y.1.Members)], vI y.2] ∧ h = [] := by
 refine si Tryz.func78 Tryz.ntmps78 Tryz.results78 fun B w0 ρ0 => ?_
 unfold Mref25_New at hm
 refine sr ?_
 refine wc_seq ?_
 obtain ⟨mu1, hm1, hm⟩ := obnd_o hm
 refine wc_cut' (fun st => ∃ (bad6 : Bool), bad6 = mu1 ∧ st = ⟨[(0, vI number1), (1, .d (lst dsI ids2)), (5, .p 105 0), (6, .p 106 0), (8, vB bad6)], [(105, some (.box 133 [vS c3.Range.lo.key, vB c3.Range.lo.top, vS c3.Range.hi.key, vB c3.Range.hi.top, vI c3.Stamp.Epoch, vI c3.Stamp.Version, .d (lst Kv.ds c3.Rows), .d (lst TWrite.ds c3.Pending), vI c3.Out.Serial, vI c3.Out.From, vI c3.Out.To, vI c3.Out.Stamp.Epoch, vI c3.Out.Stamp.Version, vS c3.Out.Range.lo.key, vB c3.Out.Range.lo.top, vS c3.Out.Range.hi.key, vB c3.Out.Range.hi.top, .d (lst Kv.ds c3.Out.Rows), vI c3.In.Serial, vI c3.In.From, vI c3.In.To, vI c3.In.Stamp.Epoch, vI c3.In.Stamp.Version, vS c3.In.Range.lo.key, vB c3.In.Range.lo.top, vS c3.In.Range.hi.key, vB c3.In.Range.hi.top, .d (lst Kv.ds c3.In.Rows), vI c3.Took, vI c3.From])), (106, some (.box 124 [vI 0, vB false, .d (.c (.slice none 0 0))]))]⟩) ?_ ?_
 ·refine sr ?_
  obtain ⟨y4, hy, hm1⟩ := bnd_o hm1
  refine wl_cq (Mref24_Number_sp (hm := hy)) ?_
  refine ss ?_
  refine wl_sg hm1 ?_ ?_ <;> clear hm1 <;> intro hm1
  ·refine ss ?_
   cases hm1
   exact wk_cutw [(105, 105), (106, 106)] ⟨_, rfl, rfl⟩
  refine ss ?_
  refine wl_sg hm1 ?_ ?_ <;> clear hm1 <;> intro hm1
  ·refine ss ?_
   cases hm1
   exact wk_cutw [(105, 105), (106, 106)] ⟨_, rfl, rfl⟩
  refine ss ?_
  obtain ⟨y5, hy, hm1⟩ := obnd_o hm1
  refine wl_cq (Mref24_Valid_sp (hm := hy)) ?_
  refine ss ?_
  cases hm1
  exact wk_cutw [(105, 105), (106, 106)] ⟨_, rfl, rfl⟩
 rintro _ ⟨bad6, rfl, rfl⟩
 refine sr ?_
 obtain ⟨mu1, hm1, hm⟩ := obnd_o hm
 refine wc_cut' (fun st => ∃ (bad12 : Bool), bad12 = mu1 ∧ st = ⟨[(0, vI number1), (1, .d (lst dsI ids2)), (5, .p 105 0), (6, .p 106 0), (8, vB bad12)], [(105, some (.box 133 [vS c3.Range.lo.key, vB c3.Range.lo.top, vS c3.Range.hi.key, vB c3.Range.hi.top, vI c3.Stamp.Epoch, vI c3.Stamp.Version, .d (lst Kv.ds c3.Rows), .d (lst TWrite.ds c3.Pending), vI c3.Out.Serial, vI c3.Out.From, vI c3.Out.To, vI c3.Out.Stamp.Epoch, vI c3.Out.Stamp.Version, vS c3.Out.Range.lo.key, vB c3.Out.Range.lo.top, vS c3.Out.Range.hi.key, vB c3.Out.Range.hi.top, .d (lst Kv.ds c3.Out.Rows), vI c3.In.Serial, vI c3.In.From, vI c3.In.To, vI c3.In.Stamp.Epoch, vI c3.In.Stamp.Version, vS c3.In.Range.lo.key, vB c3.In.Range.lo.top, vS c3.In.Range.hi.key, vB c3.In.Range.hi.top, .d (lst Kv.ds c3.In.Rows), vI c3.Took, vI c3.From])), (106, some (.box 124 [vI 0, vB false, .d (.c (.slice none 0 0))]))]⟩) ?_ ?_
 ·refine wc_block ?_
  refine wc_len 27 rfl (fun hlenm10 => ?_)
  refine wc_loopw (fun κ st => ∃ (m10 : Nat) (bad7 : Bool), κ = ids2.length - m10 ∧ m10 ≤ ids2.length ∧ Mref25_New_l1 (ids2.drop m10) bad7 = some mu1 ∧ st = ⟨[(0, vI number1), (1, .d (lst dsI ids2)), (5, .p 105 0), (6, .p 106 0), (8, vB bad7), (27, .d (lst dsI ids2)), (28, vI (ids2.length : Int)), (29, vI (m10 : Int))], [(105, some (.box 133 [vS c3.Range.lo.key, vB c3.Range.lo.top, vS c3.Range.hi.key, vB c3.Range.hi.top, vI c3.Stamp.Epoch, vI c3.Stamp.Version, .d (lst Kv.ds c3.Rows), .d (lst TWrite.ds c3.Pending), vI c3.Out.Serial, vI c3.Out.From, vI c3.Out.To, vI c3.Out.Stamp.Epoch, vI c3.Out.Stamp.Version, vS c3.Out.Range.lo.key, vB c3.Out.Range.lo.top, vS c3.Out.Range.hi.key, vB c3.Out.Range.hi.top, .d (lst Kv.ds c3.Out.Rows), vI c3.In.Serial, vI c3.In.From, vI c3.In.To, vI c3.In.Stamp.Epoch, vI c3.In.Stamp.Version, vS c3.In.Range.lo.key, vB c3.In.Range.lo.top, vS c3.In.Range.hi.key, vB c3.In.Range.hi.top, .d (lst Kv.ds c3.In.Rows), vI c3.Took, vI c3.From])), (106, some (.box 124 [vI 0, vB false, .d (.c (.slice none 0 0))]))]⟩) [(105, 105), (106, 106)] ⟨0, _, rfl, Nat.zero_le _, hm1, rfl⟩ ?_
  rintro κ _ ⟨m10, bad7, rfl, hlem10, hm1, rfl⟩
  rcases Nat.lt_or_ge m10 ids2.length with hltm10 | hgem10
  ·obtain ⟨r8, hxm10, hdr⟩ := drop_c hltm10
   rw [hdr, Mref25_New_l1.eq_2] at hm1
   refine sr ?_
   refine wc_seq ?_
   refine wc_cond_tt (lt_t hltm10) rfl ?_
   refine sx ?_
   refine sr ?_
   refine wl_r (o_ixm (ys := [dI r8]) hxm10 rfl rfl rfl rfl) rfl rfl rfl ?_
   refine sr ?_
   refine wl_sg hm1 ?_ ?_ <;> clear hm1 <;> intro hm1
   ·refine sr ?_
    refine wl_r (o_inc hltm10 hlenm10 rfl rfl rfl) rfl rfl rfl ?_
    refine ss ?_
    exact wk_loopw [(105, 105), (106, 106)] ⟨m10 + 1, _, rfl, hltm10, hm1, rfl⟩ (by omega)
   refine ss ?_
   obtain ⟨y11, hy, hm1⟩ := bnd_o hm1
   refine wl_cq (Mref24_Number_sp (hm := hy)) ?_
   refine sr ?_
   refine wl_r (o_inc hltm10 hlenm10 rfl rfl rfl) rfl rfl rfl ?_
   refine ss ?_
   exact wk_loopw [(105, 105), (106, 106)] ⟨m10 + 1, _, rfl, hltm10, hm1, rfl⟩ (by omega)
  ·rw [drop_n hgem10, Mref25_New_l1.eq_1] at hm1
   refine sr ?_
   refine wc_seq ?_
   refine wc_cond_ff (lt_f hgem10) rfl ?_
   refine wc_exit ?_
   refine ss ?_
   cases hm1
   exact wk_cutw [(105, 105), (106, 106)] ⟨_, rfl, rfl⟩
 rintro _ ⟨bad12, rfl, rfl⟩
 refine sr ?_
 refine wc_cs hm ?_ ?_ <;> clear hm <;> intro hm
 ·refine sr ?_
  refine sx ?_
  cases hm
  exact wk_r
 refine sx ?_
 refine sr ?_
 refine wc_cs hm ?_ ?_ <;> clear hm <;> intro hm
 ·refine sr ?_
  refine sx ?_
  cases hm
  exact wk_r
 refine sx ?_
 refine sr ?_
 refine sr ?_
 obtain ⟨mu1, hm1, hm⟩ := obnd_o hm
 refine wc_cut' (fun st => ∃ (g19 : List TMember), mu1 = Ctl.nxt g19 ∧ st = ⟨[(6, .p 106 0), (11, .p 111 0)], [(106, some (.box 124 [vI 0, vB false, .d (.c (.slice none 0 0))])), (111, some (.box 124 [vI number1, vB true, .d (lst TMember.ds g19)]))]⟩) ?_ ?_
 ·refine wc_block ?_
  refine wc_wk (wk_nilb 111 2 5001 175 32 rfl rfl rfl rfl) ?_
  refine wc_len 48 rfl (fun hlenm16 => ?_)
  refine wc_loopw (fun κ st => ∃ (m16 : Nat) (g13 : List TMember), κ = ids2.length - m16 ∧ m16 ≤ ids2.length ∧ Mref25_New_l2 number1 c3 (ids2.drop m16) g13 = some mu1 ∧ st = ⟨[(5, .p 105 0), (6, .p 106 0), (11, .p 111 0), (48, .d (lst dsI ids2)), (49, vI (ids2.length : Int)), (50, vI (m16 : Int))], [(105, some (.box 133 [vS c3.Range.lo.key, vB c3.Range.lo.top, vS c3.Range.hi.key, vB c3.Range.hi.top, vI c3.Stamp.Epoch, vI c3.Stamp.Version, .d (lst Kv.ds c3.Rows), .d (lst TWrite.ds c3.Pending), vI c3.Out.Serial, vI c3.Out.From, vI c3.Out.To, vI c3.Out.Stamp.Epoch, vI c3.Out.Stamp.Version, vS c3.Out.Range.lo.key, vB c3.Out.Range.lo.top, vS c3.Out.Range.hi.key, vB c3.Out.Range.hi.top, .d (lst Kv.ds c3.Out.Rows), vI c3.In.Serial, vI c3.In.From, vI c3.In.To, vI c3.In.Stamp.Epoch, vI c3.In.Stamp.Version, vS c3.In.Range.lo.key, vB c3.In.Range.lo.top, vS c3.In.Range.hi.key, vB c3.In.Range.hi.top, .d (lst Kv.ds c3.In.Rows), vI c3.Took, vI c3.From])), (106, some (.box 124 [vI 0, vB false, .d (.c (.slice none 0 0))])), (111, some (.box 124 [vI number1, vB true, .h 5001])), (5001, some (arrT 175 32 TMember.ds g13))]⟩) [(105, 105), (106, 106), (111, 111), (5001, 5001)] ⟨0, _, rfl, Nat.zero_le _, hm1, rfl⟩ ?_
  rintro κ _ ⟨m16, g13, rfl, hlem16, hm1, rfl⟩
  rcases Nat.lt_or_ge m16 ids2.length with hltm16 | hgem16
  ·obtain ⟨r14, hxm16, hdr⟩ := drop_c hltm16
   rw [hdr, Mref25_New_l2.eq_2] at hm1
   refine sr ?_
   refine wc_seq ?_
   refine wc_cond_tt (lt_t hltm16) rfl ?_
   refine sx ?_
   refine sr ?_
   refine wl_r (o_ixm (ys := [dI r14]) hxm16 rfl rfl rfl rfl) rfl rfl rfl ?_
   refine sr ?_
   obtain ⟨y17, hy, hm1⟩ := bnd_o hm1
   refine wl_lend (Mref25_place_sp (hm := hy)) ?_
   refine ss ?_
   refine wc_cs hm1 ?_ ?_ <;> clear hm1 <;> intro hm1
   ·refine sr ?_
    refine sx ?_
    cases hm1
    replace hm := ocbnd_r hm
    cases hm
    exact wk_r
   refine sx ?_
   refine sr ?_
   refine wl_bt TMember.ds [(TMember.mk r14 true c3)] rfl rfl (by simp only [flatV, cellsV, List.cons_append, List.nil_append, List.append_nil]; exact rfl) rfl rfl rfl rfl rfl rfl ?_
   refine ss ?_
   obtain ⟨l18, hy, hm1⟩ := obnd_o hm1
   refine wl_2 (n_app (k' := 165) hy rfl rfl rfl rfl rfl rfl rfl rfl) rfl rfl rfl rfl ?_
   refine sr ?_
   refine wl_r (o_inc hltm16 hlenm16 rfl rfl rfl) rfl rfl rfl ?_
   refine ss ?_
   exact wk_loopw [(105, 105), (106, 106), (111, 111), (5001, 165)] ⟨m16 + 1, _, rfl, hltm16, hm1, rfl⟩ (by omega)
  ·rw [drop_n hgem16, Mref25_New_l2.eq_1] at hm1
   refine sr ?_
   refine wc_seq ?_
   refine wc_cond_ff (lt_f hgem16) rfl ?_
   refine wc_exit ?_
   refine ss ?_
   cases hm1
   exact wk_cutw [(106, 106), (111, 111)] ⟨_, rfl, rfl⟩
 rintro _ ⟨g19, rfl, rfl⟩
 replace hm := ocbnd_n hm
 refine sr ?_
 refine sx ?_
 cases hm
 exact wk_r

def Mref25_View (g1 : TGroup) : Option (TView × Int) :=
 obnd (Mref25_Owner g1) fun y2 =>
 sel (!y2.2) (
  some ((TView.mk 0 (Rng.mk (Bnd.mk ⟨#[]⟩ false) (Bnd.mk ⟨#[]⟩ false)) (TStamp.mk 0 0) []), 14)) (
  sel (!g1.Open) (
   some ((TView.mk 0 (Rng.mk (Bnd.mk ⟨#[]⟩ false) (Bnd.mk ⟨#[]⟩ false)) (TStamp.mk 0 0) []), 7)) (
   some ((TView.mk y2.1.ID y2.1.Copy.Range y2.1.Copy.Stamp y2.1.Copy.Rows), 0)))
theorem Mref25_View_sp {g1 : TGroup} {y : (TView × Int)} (hm : Mref25_View g1 = some y) : Spec Tryz.prog 72 [.a [vI g1.Number, vB g1.Open, .d (lst TMember.ds g1.Members)]] [] fun u h => u = .t [.a [vI y.1.Owner, vS y.1.Interval.lo.key, vB y.1.Interval.lo.top, vS y.1.Interval.hi.key, vB y.1.Interval.hi.top, vI y.1.Stamp.Epoch, vI y.1.Stamp.Version, .d (lst Kv.ds y.1.Rows)], vI y.2] ∧ h = [] := by
 refine si Tryz.func72 Tryz.ntmps72 Tryz.results72 fun B w0 ρ0 => ?_
 unfold Mref25_View at hm
 refine sr ?_
 refine sr ?_
 obtain ⟨y2, hy, hm⟩ := obnd_o hm
 refine wl_cq (Mref25_Owner_sp (hm := hy)) ?_
 refine sr ?_
 refine wc_cs hm ?_ ?_ <;> clear hm <;> intro hm
 ·refine sr ?_
  refine sx ?_
  cases hm
  exact wk_r
 refine sr ?_
 refine wc_cs hm ?_ ?_ <;> clear hm <;> intro hm
 ·refine sr ?_
  refine sx ?_
  cases hm
  exact wk_r
 refine sx ?_
 refine sr ?_
 refine sx ?_
 cases hm
 exact wk_r

def Mwld_Tape_Stamp (t1 : TTape) : Option (TStamp × TTape) :=
 obnd (Mwld_Tape_Pick t1 ([0, 1, 2, 3, 2, 1099511627775, 1099511627776] : List Int)) fun y2 =>
 obnd (Mwld_Tape_Pick y2.2 ([0, 1, 2, 0, 1, 2, 1099511627776] : List Int)) fun y3 =>
 some ((TStamp.mk y2.1 y3.1), y3.2)
theorem Mwld_Tape_Stamp_sp {t1 : TTape} {y : (TStamp × TTape)} (hm : Mwld_Tape_Stamp t1 = some y) : Spec Tryz.prog 80 [.p 0 0] [(0, some (.box 119 [.d (lst dsI t1.l), vI t1.at_]))] fun u h => u = .a [vI y.1.Epoch, vI y.1.Version] ∧ h = [(0, some (.box 119 [.d (lst dsI y.2.l), vI y.2.at_]))] := by
 refine si Tryz.func80 Tryz.ntmps80 Tryz.results80 fun B w0 ρ0 => ?_
 unfold Mwld_Tape_Stamp at hm
 refine sr ?_
 refine sr ?_
 refine wl_bt dsI [0, 1, 2, 3, 2, 1099511627775, 1099511627776] rfl rfl (by simp only [flatV, cellsV, List.cons_append, List.nil_append, List.append_nil]; exact rfl) rfl rfl rfl rfl rfl rfl ?_
 refine ss ?_
 obtain ⟨y2, hy, hm⟩ := obnd_o hm
 refine wl_iq (Mwld_Tape_Pick_sp (hm := hy)) 0 ?_
 refine ss ?_
 refine wl_bt dsI [0, 1, 2, 0, 1, 2, 1099511627776] rfl rfl (by simp only [flatV, cellsV, List.cons_append, List.nil_append, List.append_nil]; exact rfl) rfl rfl rfl rfl rfl rfl ?_
 refine ss ?_
 obtain ⟨y3, hy, hm⟩ := obnd_o hm
 refine wl_iq (Mwld_Tape_Pick_sp (hm := hy)) 0 ?_
 refine sx ?_
 cases hm
 exact wk_reti [(0, 0)] ⟨rfl, rfl⟩

def Mwld_Tape_OddStamp (t1 : TTape) : Option (TStamp × TTape) :=
 obnd (Mwld_Tape_Stamp t1) fun y2 =>
 obnd (Mwld_Tape_Next y2.2 8) fun y3 =>
 sel (decide (y3.1 = 6)) (
  obnd (Mwld_Tape_Pick y3.2 ([(-1), 1099511627777] : List Int)) fun y4 =>
  some ((TStamp.mk y4.1 y2.1.Version), y4.2)) (
  sel (decide (y3.1 = 7)) (
   obnd (Mwld_Tape_Pick y3.2 ([(-1), 1099511627777] : List Int)) fun y5 =>
   some ((TStamp.mk y2.1.Epoch y5.1), y5.2)) (
   some (y2.1, y3.2)))
theorem Mwld_Tape_OddStamp_sp {t1 : TTape} {y : (TStamp × TTape)} (hm : Mwld_Tape_OddStamp t1 = some y) : Spec Tryz.prog 83 [.p 0 0] [(0, some (.box 119 [.d (lst dsI t1.l), vI t1.at_]))] fun u h => u = .a [vI y.1.Epoch, vI y.1.Version] ∧ h = [(0, some (.box 119 [.d (lst dsI y.2.l), vI y.2.at_]))] := by
 refine si Tryz.func83 Tryz.ntmps83 Tryz.results83 fun B w0 ρ0 => ?_
 unfold Mwld_Tape_OddStamp at hm
 refine sr ?_
 refine sr ?_
 obtain ⟨y2, hy, hm⟩ := obnd_o hm
 refine wl_iq (Mwld_Tape_Stamp_sp (hm := hy)) 0 ?_
 refine sr ?_
 obtain ⟨y3, hy, hm⟩ := obnd_o hm
 refine wl_iq (Mwld_Tape_Next_sp (hm := hy)) 0 ?_
 refine sr ?_
 refine wc_cs hm ?_ ?_ <;> clear hm <;> intro hm
 ·refine sr ?_
  refine wl_bt dsI [(-1), 1099511627777] rfl rfl (by simp only [flatV, cellsV, List.cons_append, List.nil_append, List.append_nil]; exact rfl) rfl rfl rfl rfl rfl rfl ?_
  refine ss ?_
  obtain ⟨y4, hy, hm⟩ := obnd_o hm
  refine wl_iq (Mwld_Tape_Pick_sp (hm := hy)) 0 ?_
  refine sr ?_
  refine sx ?_
  cases hm
  exact wk_reti [(0, 0)] ⟨rfl, rfl⟩
 refine sr ?_
 refine wc_cs hm ?_ ?_ <;> clear hm <;> intro hm
 ·refine sr ?_
  refine wl_bt dsI [(-1), 1099511627777] rfl rfl (by simp only [flatV, cellsV, List.cons_append, List.nil_append, List.append_nil]; exact rfl) rfl rfl rfl rfl rfl rfl ?_
  refine ss ?_
  obtain ⟨y5, hy, hm⟩ := obnd_o hm
  refine wl_iq (Mwld_Tape_Pick_sp (hm := hy)) 0 ?_
  refine sr ?_
  refine sx ?_
  cases hm
  exact wk_reti [(0, 0)] ⟨rfl, rfl⟩
 refine sx ?_
 refine sr ?_
 refine sx ?_
 cases hm
 exact wk_reti [(0, 0)] ⟨rfl, rfl⟩

def Mwld_Tape_View (t1 : TTape) (r2 : Rng) : Option (TView × TTape) :=
 obnd (Mwld_Tape_Next t1 5) fun y3 =>
 obnd (Mwld_Tape_Stamp y3.2) fun y4 =>
 obnd (Mwld_Tape_RowsIn y4.2 r2 4) fun y5 =>
 obnd (Mwld_Tape_Next y5.2 30) fun y6 =>
 sel (decide (y6.1 = 25)) (
  obnd (Mwld_Tape_Pick y6.2 ([0, (-1), 2147483648] : List Int)) fun y7 =>
  some ((TView.mk y7.1 r2 y4.1 y5.1), y7.2)) (
  sel (decide (y6.1 = 26)) (
   obnd (Mwld_Tape_Range y6.2) fun y8 =>
   some ((TView.mk (i64w (1 + y3.1)) y8.1 y4.1 y5.1), y8.2)) (
   sel (decide (y6.1 = 27)) (
    obnd (Mwld_Tape_OddStamp y6.2) fun y9 =>
    some ((TView.mk (i64w (1 + y3.1)) r2 y9.1 y5.1), y9.2)) (
    sel (decide (y6.1 = 28)) (
     obnd (Mwld_Tape_OddRows y6.2 y5.1) fun y10 =>
     some ((TView.mk (i64w (1 + y3.1)) r2 y4.1 y10.1), y10.2)) (
     some ((TView.mk (i64w (1 + y3.1)) r2 y4.1 y5.1), y6.2)))))
theorem Mwld_Tape_View_sp {t1 : TTape} {r2 : Rng} {y : (TView × TTape)} (hm : Mwld_Tape_View t1 r2 = some y) : Spec Tryz.prog 24 [.p 0 0, .a [vS r2.lo.key, vB r2.lo.top, vS r2.hi.key, vB r2.hi.top]] [(0, some (.box 119 [.d (lst dsI t1.l), vI t1.at_]))] fun u h => u = .a [vI y.1.Owner, vS y.1.Interval.lo.key, vB y.1.Interval.lo.top, vS y.1.Interval.hi.key, vB y.1.Interval.hi.top, vI y.1.Stamp.Epoch, vI y.1.Stamp.Version, .d (lst Kv.ds y.1.Rows)] ∧ h = [(0, some (.box 119 [.d (lst dsI y.2.l), vI y.2.at_]))] := by
 refine si Tryz.func24 Tryz.ntmps24 Tryz.results24 fun B w0 ρ0 => ?_
 unfold Mwld_Tape_View at hm
 refine sr ?_
 refine wc_seq ?_
 refine wc_draw (id := 1) [⟨0, 0, [0]⟩, ⟨3, 0, [3]⟩, ⟨4, 0, [0]⟩, ⟨6, 0, [0]⟩, ⟨7, 0, [3]⟩, ⟨10, 0, []⟩, ⟨1, 1, [6]⟩, ⟨2, 3, [7]⟩, ⟨5, 19, [10]⟩, ⟨8, 243, [12, 13]⟩, ⟨9, 511, [8, 9, 11, 14]⟩, ⟨11, 2047, [5, 15]⟩] mixed (by kernel_rfl) ?_
 refine ss ?_
 obtain ⟨y3, hy, hm⟩ := obnd_o hm
 refine wd_io (Mwld_Tape_Next_sp (hm := hy)) 0 rfl rfl rfl (by repeat (first | exact Vws.nil | apply Vws.cons | exact Vw.nil | exact Vw.d _ | exact Vw.q _ | exact Vw.p rfl | apply Vw.a)) rfl (Vb.box (by repeat (first | exact Vws.nil | apply Vws.cons | exact Vw.nil | exact Vw.d _ | exact Vw.q _ | exact Vw.p rfl | apply Vw.a))) rfl rfl rfl (by first | exact .no rfl | exact .y rfl rfl rfl rfl) rfl rfl rfl rfl ?_
 refine ss ?_
 refine wd_r [] (o_add rfl rfl rfl rfl) rfl (by first | exact .no rfl | exact .y rfl rfl rfl rfl) rfl rfl ?_
 refine ss ?_
 obtain ⟨y4, hy, hm⟩ := obnd_o hm
 refine wd_io (Mwld_Tape_Stamp_sp (hm := hy)) 0 rfl rfl rfl (by repeat (first | exact Vws.nil | apply Vws.cons | exact Vw.nil | exact Vw.d _ | exact Vw.q _ | exact Vw.p rfl | apply Vw.a)) rfl (Vb.box (by repeat (first | exact Vws.nil | apply Vws.cons | exact Vw.nil | exact Vw.d _ | exact Vw.q _ | exact Vw.p rfl | apply Vw.a))) rfl rfl rfl (by first | exact .no rfl | exact .y rfl rfl rfl rfl) rfl rfl rfl rfl ?_
 refine ss ?_
 obtain ⟨y5, hy, hm⟩ := obnd_o hm
 refine wd_io (Mwld_Tape_RowsIn_sp (hm := hy)) 0 rfl rfl rfl (by repeat (first | exact Vws.nil | apply Vws.cons | exact Vw.nil | exact Vw.d _ | exact Vw.q _ | exact Vw.p rfl | apply Vw.a)) rfl (Vb.box (by repeat (first | exact Vws.nil | apply Vws.cons | exact Vw.nil | exact Vw.d _ | exact Vw.q _ | exact Vw.p rfl | apply Vw.a))) rfl rfl rfl (by first | exact .no rfl | exact .y rfl rfl rfl rfl) rfl rfl rfl rfl ?_
 refine sr ?_
 obtain ⟨y6, hy, hm⟩ := obnd_o hm
 refine wl_iq (Mwld_Tape_Next_sp (hm := hy)) 0 ?_
 refine sr ?_
 refine wc_cs hm ?_ ?_ <;> clear hm <;> intro hm
 ·refine sr ?_
  refine wl_bt dsI [0, (-1), 2147483648] rfl rfl (by simp only [flatV, cellsV, List.cons_append, List.nil_append, List.append_nil]; exact rfl) rfl rfl rfl rfl rfl rfl ?_
  refine ss ?_
  obtain ⟨y7, hy, hm⟩ := obnd_o hm
  refine wl_iq (Mwld_Tape_Pick_sp (hm := hy)) 0 ?_
  refine sr ?_
  refine sx ?_
  cases hm
  exact wk_reti [(0, 0)] ⟨rfl, rfl⟩
 refine sr ?_
 refine wc_cs hm ?_ ?_ <;> clear hm <;> intro hm
 ·refine sr ?_
  obtain ⟨y8, hy, hm⟩ := obnd_o hm
  refine wl_iq (Mwld_Tape_Range_sp (hm := hy)) 0 ?_
  refine sr ?_
  refine sx ?_
  cases hm
  exact wk_reti [(0, 0)] ⟨rfl, rfl⟩
 refine sr ?_
 refine wc_cs hm ?_ ?_ <;> clear hm <;> intro hm
 ·refine sr ?_
  obtain ⟨y9, hy, hm⟩ := obnd_o hm
  refine wl_iq (Mwld_Tape_OddStamp_sp (hm := hy)) 0 ?_
  refine sr ?_
  refine sx ?_
  cases hm
  exact wk_reti [(0, 0)] ⟨rfl, rfl⟩
 refine sr ?_
 refine wc_cs hm ?_ ?_ <;> clear hm <;> intro hm
 ·refine sr ?_
  obtain ⟨y10, hy, hm⟩ := obnd_o hm
  refine wl_iq (Mwld_Tape_OddRows_sp (hm := hy)) 0 ?_
  refine sr ?_
  refine sx ?_
  cases hm
  exact wk_reti [(0, 0)] ⟨rfl, rfl⟩
 refine sx ?_
 refine sr ?_
 refine sx ?_
 cases hm
 exact wk_reti [(0, 0)] ⟨rfl, rfl⟩

def Mwld_Tape_Net_l1 (y3 : (List Kv × TTape)) (y4 : Rng) (y5 : (List Bnd × TTape)) : Nat → List Int → Int → List TGroup → ByteArray → Bool → Int → Option (List TGroup × List Int × Int)
  | 0, _, _, _, _, _, _ => none
  | fuel + 1, x6, x7, out8, r9, r10, i11 =>
  obnd (
   sel (decide (i11 ≤ (y5.1.length : Int))) (
    some (Ctl.nxt ())) (
    some (Ctl.ret (out8, x6, x7))) : Option (Ctl (List TGroup × List Int × Int) Unit)) fun mu => ocbnd mu fun (_ : Unit) =>
  obnd (
   sel (decide (i11 < (y5.1.length : Int))) (
    obnd (lget y5.1 i11) fun e12 =>
    bnd (Mref1_ValidBound e12) fun y13 =>
    sel y13 (
     obnd (lget y5.1 i11) fun e14 =>
     bnd (Mref1_Compare e14 (Bnd.mk r9 r10)) fun y15 =>
     some (decide (0 < y15))) (
     some false)) (
    some false) : Option Bool) fun x16 =>
  sel x16 (
   obnd (lget y5.1 i11) fun e17 =>
   bnd (Mref1_Empty (Rng.mk (Bnd.mk r9 r10) e17)) fun y18 =>
   sel y18 (
    Mwld_Tape_Net_l1 y3 y4 y5 fuel x6 x7 out8 r9 r10 (i64w (i11 + 1))) (
    obnd (Mwld_Tape_Next (TTape.mk x6 x7) 3) fun y19 =>
    obnd (Mwld_Tape_Next y19.2 2) fun y20 =>
    obnd (Mref20_Slice y3.1 (Rng.mk (Bnd.mk r9 r10) e17)) fun y21 =>
    obnd (Mref24_New (Rng.mk (Bnd.mk r9 r10) e17) (TStamp.mk y19.1 y20.1) y21) fun y22 =>
    obnd (Mwld_Tape_Next y20.2 3) fun y23 =>
    obnd (lsl ([i64w (10 * (i64w ((out8.length : Int) + 1))), i64w ((i64w (10 * (i64w ((out8.length : Int) + 1)))) + 1), i64w ((i64w (10 * (i64w ((out8.length : Int) + 1)))) + 2)] : List Int) 0 (i64w (1 + y23.1))) fun l24 =>
    obnd (Mref25_New (i64w ((out8.length : Int) + 1)) l24 y22.1) fun y25 =>
    obnd (app out8 ([y25.1] : List TGroup)) fun l26 =>
    Mwld_Tape_Net_l1 y3 y4 y5 fuel y23.2.l y23.2.at_ l26 e17.key e17.top (i64w (i11 + 1)))) (
   sel (decide (i11 < (y5.1.length : Int))) (
    Mwld_Tape_Net_l1 y3 y4 y5 fuel x6 x7 out8 r9 r10 (i64w (i11 + 1))) (
    bnd (Mref1_Empty (Rng.mk (Bnd.mk r9 r10) y4.hi)) fun y27 =>
    sel y27 (
     Mwld_Tape_Net_l1 y3 y4 y5 fuel x6 x7 out8 r9 r10 (i64w (i11 + 1))) (
     obnd (Mwld_Tape_Next (TTape.mk x6 x7) 3) fun y28 =>
     obnd (Mwld_Tape_Next y28.2 2) fun y29 =>
     obnd (Mref20_Slice y3.1 (Rng.mk (Bnd.mk r9 r10) y4.hi)) fun y30 =>
     obnd (Mref24_New (Rng.mk (Bnd.mk r9 r10) y4.hi) (TStamp.mk y28.1 y29.1) y30) fun y31 =>
     obnd (Mwld_Tape_Next y29.2 3) fun y32 =>
     obnd (lsl ([i64w (10 * (i64w ((out8.length : Int) + 1))), i64w ((i64w (10 * (i64w ((out8.length : Int) + 1)))) + 1), i64w ((i64w (10 * (i64w ((out8.length : Int) + 1)))) + 2)] : List Int) 0 (i64w (1 + y32.1))) fun l33 =>
     obnd (Mref25_New (i64w ((out8.length : Int) + 1)) l33 y31.1) fun y34 =>
     obnd (app out8 ([y34.1] : List TGroup)) fun l35 =>
     Mwld_Tape_Net_l1 y3 y4 y5 fuel y32.2.l y32.2.at_ l35 y4.hi.key y4.hi.top (i64w (i11 + 1)))))
def Mwld_Tape_Net (t1 : TTape) (most2 : Int) : Option (List TGroup × TTape) :=
 obnd (Mwld_Tape_Rows t1 8) fun y3 =>
 bnd (Mwld_All) fun y4 =>
 obnd (Mwld_Tape_Cuts y3.2 (i64w (most2 - 1))) fun y5 =>
 obnd (
  Mwld_Tape_Net_l1 y3 y4 y5 FU y5.2.l y5.2.at_ [] y4.lo.key y4.lo.top 0 : Option (List TGroup × List Int × Int)) fun (out36, x37, x38) =>
 some (out36, (TTape.mk x37 x38))
theorem Mwld_Tape_Net_sp {t1 : TTape} {most2 : Int} {y : (List TGroup × TTape)} (hm : Mwld_Tape_Net t1 most2 = some y) : Spec Tryz.prog 18 [.p 0 0, vI most2] [(0, some (.box 119 [.d (lst dsI t1.l), vI t1.at_]))] fun u h => u = .d (lst TGroup.ds y.1) ∧ h = [(0, some (.box 119 [.d (lst dsI y.2.l), vI y.2.at_]))] := by
 refine si Tryz.func18 Tryz.ntmps18 Tryz.results18 fun B w0 ρ0 => ?_
 unfold Mwld_Tape_Net at hm
 refine sr ?_
 refine sr ?_
 refine sr ?_
 obtain ⟨y3, hy, hm⟩ := obnd_o hm
 refine wl_iq (Mwld_Tape_Rows_sp (hm := hy)) 0 ?_
 refine sr ?_
 obtain ⟨y4, hy, hm⟩ := bnd_o hm
 refine wl_cq (Mwld_All_sp (hm := hy)) ?_
 refine sr ?_
 obtain ⟨y5, hy, hm⟩ := obnd_o hm
 refine wl_iq (Mwld_Tape_Cuts_sp (hm := hy)) 0 ?_
 refine sr ?_
 obtain ⟨mu1, hm1, hm⟩ := obnd_o hm
 refine wc_cut' (fun st => ∃ (out36 : List TGroup) (x37 : List Int) (x38 : Int), mu1 = (out36, x37, x38) ∧ st = ⟨[(5, .d (lst TGroup.ds out36))], [(0, some (.box 119 [.d (lst dsI x37), vI x38]))]⟩) ?_ ?_
 ·refine wc_block ?_
  refine wc_wk (wk_nil 5 5001 124 3 rfl rfl) ?_
  refine wc_loopw (fun κ st => ∃ (x6 : List Int) (x7 : Int) (out8 : List TGroup) (r9 : ByteArray) (r10 : Bool) (i11 : Int), Mwld_Tape_Net_l1 y3 y4 y5 κ x6 x7 out8 r9 r10 i11 = some mu1 ∧ st = ⟨[(0, .p 0 0), (5, .h 5001), (6, .d (lst Kv.ds y3.1)), (7, .p 107 0), (8, .d (lst Bnd.ds y5.1)), (9, vI i11)], [(0, some (.box 119 [.d (lst dsI x6), vI x7])), (107, some (.box 42 [vS r9, vB r10, vS y4.hi.key, vB y4.hi.top])), (5001, some (arrT 124 3 TGroup.ds out8))]⟩) [(0, 0), (107, 107), (5001, 5001)] ⟨_, _, _, _, _, _, hm1, rfl⟩ ?_
  rintro κ _ ⟨x6, x7, out8, r9, r10, i11, hm1, rfl⟩
  cases κ with
  | zero => rw [Mwld_Tape_Net_l1.eq_1] at hm1; cases hm1
  | succ κ =>
   rw [Mwld_Tape_Net_l1.eq_2] at hm1
   refine sr ?_
   obtain ⟨mu2, hm2, hm1⟩ := obnd_o hm1
   refine wc_cut' (fun st => mu2 = Ctl.nxt () ∧ st = ⟨[(0, .p 0 0), (5, .h 5001), (6, .d (lst Kv.ds y3.1)), (7, .p 107 0), (8, .d (lst Bnd.ds y5.1)), (9, vI i11)], [(0, some (.box 119 [.d (lst dsI x6), vI x7])), (107, some (.box 42 [vS r9, vB r10, vS y4.hi.key, vB y4.hi.top])), (5001, some (arrT 124 3 TGroup.ds out8))]⟩) ?_ ?_
   ·refine wc_cs hm2 ?_ ?_ <;> clear hm2 <;> intro hm2
    ·refine sx ?_
     cases hm2
     exact wk_cutw [(0, 0), (107, 107), (5001, 5001)] ⟨rfl, rfl⟩
    refine wc_exit ?_
    refine ss ?_
    cases hm2
    replace hm1 := ocbnd_r hm1
    cases hm1
    exact wk_cutw [(0, 0)] ⟨_, _, _, rfl, rfl⟩
   rintro _ ⟨rfl, rfl⟩
   replace hm1 := ocbnd_n hm1
   refine sr ?_
   refine wc_seq ?_
   refine wc_seq ?_
   obtain ⟨mu2, hm2, hm1⟩ := obnd_o hm1
   refine wc_cut' (fun st => ∃ (x16 : Bool), x16 = mu2 ∧ st = ⟨[(0, .p 0 0), (5, .h 5001), (6, .d (lst Kv.ds y3.1)), (7, .p 107 0), (8, .d (lst Bnd.ds y5.1)), (9, vI i11), (10, .p 110 0), (50, vB x16)], [(0, some (.box 119 [.d (lst dsI x6), vI x7])), (107, some (.box 42 [vS r9, vB r10, vS y4.hi.key, vB y4.hi.top])), (110, some (.box 42 [vS r9, vB r10, vS y4.hi.key, vB y4.hi.top])), (5001, some (arrT 124 3 TGroup.ds out8))]⟩) ?_ ?_
   ·refine wc_draw (id := 9) [⟨0, 0, [9]⟩, ⟨1, 0, [8]⟩, ⟨2, 2, [31]⟩, ⟨3, 7, [30, 32]⟩, ⟨4, 15, [33]⟩, ⟨5, 31, [8, 34]⟩, ⟨6, 31, [9, 34]⟩, ⟨7, 127, [34, 35, 36]⟩, ⟨8, 255, [34, 37]⟩, ⟨9, 511, [34, 38]⟩, ⟨10, 1023, [34, 39]⟩, ⟨11, 2047, [40]⟩, ⟨12, 4095, [8, 41]⟩, ⟨13, 4095, [9, 41]⟩, ⟨14, 16383, [41, 42, 43]⟩, ⟨15, 32767, [41, 44]⟩, ⟨16, 4095, [7, 41]⟩, ⟨17, 69631, [41, 46]⟩, ⟨18, 262143, [41, 45, 47]⟩, ⟨19, 524287, [41, 48]⟩, ⟨20, 1048575, [41, 49]⟩] mixed (by kernel_rfl) ?_
    refine ss ?_
    refine wd_gp rfl rfl rfl rfl (fun h => ?_) (fun h => ?_)
    ·replace hm2 := sel_t h hm2
     refine ss ?_
     obtain ⟨e12, hy, hm2⟩ := obnd_o hm2
     refine wd_r [] (o_ixg (ys := [dS e12.key, dB e12.top]) hy rfl rfl rfl rfl) rfl (by first | exact .no rfl | exact .y rfl rfl rfl rfl) rfl rfl ?_
     refine ss ?_
     obtain ⟨y13, hy, hm2⟩ := bnd_o hm2
     refine wd_cs (Mref1_ValidBound_sp (hm := hy)) rfl rfl rfl (by repeat (first | exact Vws.nil | apply Vws.cons | exact Vw.nil | exact Vw.d _ | exact Vw.q _ | apply Vw.a)) rfl rfl (by first | exact .no rfl | exact .y rfl rfl rfl rfl) rfl rfl rfl ?_
     refine ss ?_
     refine wd_gp rfl rfl rfl rfl (fun h => ?_) (fun h => ?_)
     ·replace hm2 := sel_t h hm2
      refine ss ?_
      obtain ⟨e14, hy, hm2⟩ := obnd_o hm2
      refine wd_r [] (o_ixg (ys := [dS e14.key, dB e14.top]) hy rfl rfl rfl rfl) rfl (by first | exact .no rfl | exact .y rfl rfl rfl rfl) rfl rfl ?_
      refine ss ?_
      obtain ⟨y15, hy, hm2⟩ := bnd_o hm2
      refine wd_cs (Mref1_Compare_sp (hm := hy)) rfl rfl rfl (by repeat (first | exact Vws.nil | apply Vws.cons | exact Vw.nil | exact Vw.d _ | exact Vw.q _ | apply Vw.a)) rfl rfl (by first | exact .no rfl | exact .y rfl rfl rfl rfl) rfl rfl rfl ?_
      refine ss ?_
      cases hm2
      exact wk_cutw [(0, 0), (107, 107), (110, 110), (5001, 5001)] ⟨_, rfl, rfl⟩
     replace hm2 := sel_f h hm2
     refine ss ?_
     cases hm2
     exact wk_cutw [(0, 0), (107, 107), (110, 110), (5001, 5001)] ⟨_, rfl, rfl⟩
    replace hm2 := sel_f h hm2
    refine ss ?_
    cases hm2
    exact wk_cutw [(0, 0), (107, 107), (110, 110), (5001, 5001)] ⟨_, rfl, rfl⟩
   rintro _ ⟨x16, rfl, rfl⟩
   refine ss ?_
   refine wc_cs hm1 ?_ ?_ <;> clear hm1 <;> intro hm1
   ·refine sr ?_
    obtain ⟨e17, hy, hm1⟩ := obnd_o hm1
    refine wl_r (o_ixg (ys := [dS e17.key, dB e17.top]) hy rfl rfl rfl rfl) rfl rfl rfl ?_
    refine sr ?_
    obtain ⟨y18, hy, hm1⟩ := bnd_o hm1
    refine wl_cq (Mref1_Empty_sp (hm := hy)) ?_
    refine ss ?_
    refine wc_cs hm1 ?_ ?_ <;> clear hm1 <;> intro hm1
    ·refine wc_exit ?_
     refine sr ?_
     refine wl_r (o_add rfl rfl rfl rfl) rfl rfl rfl ?_
     refine ss ?_
     exact wk_loopw [(0, 0), (107, 107), (5001, 5001)] ⟨_, _, _, _, _, _, hm1, rfl⟩ (Nat.lt_succ_self _)
    refine sx ?_
    refine wc_seq ?_
    refine wc_draw (id := 13) [⟨0, 0, [10]⟩, ⟨1, 0, [0]⟩, ⟨3, 0, [0]⟩, ⟨6, 0, [6]⟩, ⟨7, 0, [10]⟩, ⟨13, 0, []⟩, ⟨2, 2, [64]⟩, ⟨4, 14, [66]⟩, ⟨5, 30, [65, 67]⟩, ⟨8, 222, [69, 70]⟩, ⟨9, 511, [63, 68, 71]⟩, ⟨10, 1023, [72]⟩, ⟨11, 2047, [62]⟩, ⟨12, 2047, [62]⟩, ⟨14, 12287, [11, 73]⟩, ⟨15, 32767, [74]⟩] mixed (by kernel_rfl) ?_
    refine ss ?_
    obtain ⟨y19, hy, hm1⟩ := obnd_o hm1
    refine wd_io (Mwld_Tape_Next_sp (hm := hy)) 0 rfl rfl rfl (by repeat (first | exact Vws.nil | apply Vws.cons | exact Vw.nil | exact Vw.d _ | exact Vw.q _ | exact Vw.p rfl | apply Vw.a)) rfl (Vb.box (by repeat (first | exact Vws.nil | apply Vws.cons | exact Vw.nil | exact Vw.d _ | exact Vw.q _ | exact Vw.p rfl | apply Vw.a))) rfl rfl rfl (by first | exact .no rfl | exact .y rfl rfl rfl rfl) rfl rfl rfl rfl ?_
    refine ss ?_
    obtain ⟨y20, hy, hm1⟩ := obnd_o hm1
    refine wd_io (Mwld_Tape_Next_sp (hm := hy)) 0 rfl rfl rfl (by repeat (first | exact Vws.nil | apply Vws.cons | exact Vw.nil | exact Vw.d _ | exact Vw.q _ | exact Vw.p rfl | apply Vw.a)) rfl (Vb.box (by repeat (first | exact Vws.nil | apply Vws.cons | exact Vw.nil | exact Vw.d _ | exact Vw.q _ | exact Vw.p rfl | apply Vw.a))) rfl rfl rfl (by first | exact .no rfl | exact .y rfl rfl rfl rfl) rfl rfl rfl rfl ?_
    refine ss ?_
    obtain ⟨y21, hy, hm1⟩ := obnd_o hm1
    refine wd_cs (Mref20_Slice_sp (hm := hy)) rfl rfl rfl (by repeat (first | exact Vws.nil | apply Vws.cons | exact Vw.nil | exact Vw.d _ | exact Vw.q _ | apply Vw.a)) rfl rfl (by first | exact .no rfl | exact .y rfl rfl rfl rfl) rfl rfl rfl ?_
    refine ss ?_
    obtain ⟨y22, hy, hm1⟩ := obnd_o hm1
    refine wd_cs (Mref24_New_sp (hm := hy)) rfl rfl rfl (by repeat (first | exact Vws.nil | apply Vws.cons | exact Vw.nil | exact Vw.d _ | exact Vw.q _ | apply Vw.a)) rfl rfl (by first | exact .no rfl | exact .y rfl rfl rfl rfl) rfl rfl rfl ?_
    refine sr ?_
    refine wl_r (o_add rfl rfl rfl rfl) rfl rfl rfl ?_
    refine ss ?_
    refine wc_seq ?_
    refine wc_draw (id := 15) [⟨0, 0, [13]⟩, ⟨1, 0, [13]⟩, ⟨2, 2, [80]⟩, ⟨3, 0, [13]⟩, ⟨4, 8, [82]⟩, ⟨5, 24, [83]⟩, ⟨6, 0, [13]⟩, ⟨7, 64, [85]⟩, ⟨8, 192, [86]⟩, ⟨9, 510, [81, 84, 87]⟩, ⟨10, 0, [0]⟩, ⟨14, 0, [11]⟩, ⟨19, 0, []⟩, ⟨11, 1024, [89]⟩, ⟨12, 3072, [90]⟩, ⟨13, 8190, [88, 91]⟩, ⟨15, 32767, [79, 92, 93]⟩, ⟨16, 65535, [94]⟩, ⟨17, 131071, [78]⟩, ⟨18, 131071, [78]⟩, ⟨20, 786431, [14, 95]⟩, ⟨21, 2097151, [96]⟩] mixed (by kernel_rfl) ?_
    refine ss ?_
    refine wd_r [] (o_add rfl rfl rfl rfl) rfl (by first | exact .no rfl | exact .y rfl rfl rfl rfl) rfl rfl ?_
    refine ss ?_
    refine wd_r [] (o_add rfl rfl rfl rfl) rfl (by first | exact .no rfl | exact .y rfl rfl rfl rfl) rfl rfl ?_
    refine ss ?_
    refine wd_bt dsI [i64w (10 * (i64w ((out8.length : Int) + 1))), i64w ((i64w (10 * (i64w ((out8.length : Int) + 1)))) + 1), i64w ((i64w (10 * (i64w ((out8.length : Int) + 1)))) + 2)] rfl rfl (by simp only [flatV, cellsV, List.cons_append, List.nil_append, List.append_nil]; exact rfl) rfl rfl rfl rfl (by first | exact .no rfl | exact .y rfl rfl rfl rfl) rfl rfl ?_
    refine ss ?_
    obtain ⟨y23, hy, hm1⟩ := obnd_o hm1
    refine wd_io (Mwld_Tape_Next_sp (hm := hy)) 0 rfl rfl rfl (by repeat (first | exact Vws.nil | apply Vws.cons | exact Vw.nil | exact Vw.d _ | exact Vw.q _ | exact Vw.p rfl | apply Vw.a)) rfl (Vb.box (by repeat (first | exact Vws.nil | apply Vws.cons | exact Vw.nil | exact Vw.d _ | exact Vw.q _ | exact Vw.p rfl | apply Vw.a))) rfl rfl rfl (by first | exact .no rfl | exact .y rfl rfl rfl rfl) rfl rfl rfl rfl ?_
    refine ss ?_
    refine wd_r [] (o_add rfl rfl rfl rfl) rfl (by first | exact .no rfl | exact .y rfl rfl rfl rfl) rfl rfl ?_
    refine ss ?_
    obtain ⟨l24, hy, hm1⟩ := obnd_o hm1
    refine wd_r [] (o_lsl hy rfl rfl rfl rfl) rfl (by first | exact .no rfl | exact .y rfl rfl rfl rfl) rfl rfl ?_
    refine ss ?_
    obtain ⟨y25, hy, hm1⟩ := obnd_o hm1
    refine wd_cs (Mref25_New_sp (hm := hy)) rfl rfl rfl (by repeat (first | exact Vws.nil | apply Vws.cons | exact Vw.nil | exact Vw.d _ | exact Vw.q _ | apply Vw.a)) rfl rfl (by first | exact .no rfl | exact .y rfl rfl rfl rfl) rfl rfl rfl ?_
    refine sr ?_
    refine wl_bt TGroup.ds [y25.1] rfl rfl (by simp only [flatV, cellsV, List.cons_append, List.nil_append, List.append_nil]; exact rfl) rfl rfl rfl rfl rfl rfl ?_
    refine ss ?_
    obtain ⟨l26, hy, hm1⟩ := obnd_o hm1
    refine wl_2 (n_app (k' := 200) hy rfl rfl rfl rfl rfl rfl rfl rfl) rfl rfl rfl rfl ?_
    refine sr ?_
    refine sr ?_
    refine wl_r (o_add rfl rfl rfl rfl) rfl rfl rfl ?_
    refine ss ?_
    exact wk_loopw [(0, 0), (107, 107), (5001, 200)] ⟨_, _, _, _, _, _, hm1, rfl⟩ (Nat.lt_succ_self _)
   refine sr ?_
   refine wc_cs hm1 ?_ ?_ <;> clear hm1 <;> intro hm1
   ·refine wc_exit ?_
    refine sr ?_
    refine wl_r (o_add rfl rfl rfl rfl) rfl rfl rfl ?_
    refine ss ?_
    exact wk_loopw [(0, 0), (107, 107), (5001, 5001)] ⟨_, _, _, _, _, _, hm1, rfl⟩ (Nat.lt_succ_self _)
   refine sx ?_
   refine sr ?_
   obtain ⟨y27, hy, hm1⟩ := bnd_o hm1
   refine wl_cq (Mref1_Empty_sp (hm := hy)) ?_
   refine ss ?_
   refine wc_cs hm1 ?_ ?_ <;> clear hm1 <;> intro hm1
   ·refine wc_exit ?_
    refine sr ?_
    refine wl_r (o_add rfl rfl rfl rfl) rfl rfl rfl ?_
    refine ss ?_
    exact wk_loopw [(0, 0), (107, 107), (5001, 5001)] ⟨_, _, _, _, _, _, hm1, rfl⟩ (Nat.lt_succ_self _)
   refine sx ?_
   refine wc_seq ?_
   refine wc_draw (id := 13) [⟨0, 0, [10]⟩, ⟨1, 0, [0]⟩, ⟨3, 0, [0]⟩, ⟨6, 0, [6]⟩, ⟨7, 0, [10]⟩, ⟨13, 0, []⟩, ⟨2, 2, [64]⟩, ⟨4, 14, [66]⟩, ⟨5, 30, [65, 67]⟩, ⟨8, 222, [69, 70]⟩, ⟨9, 511, [63, 68, 71]⟩, ⟨10, 1023, [72]⟩, ⟨11, 2047, [62]⟩, ⟨12, 2047, [62]⟩, ⟨14, 12287, [11, 73]⟩, ⟨15, 32767, [74]⟩] mixed (by kernel_rfl) ?_
   refine ss ?_
   obtain ⟨y28, hy, hm1⟩ := obnd_o hm1
   refine wd_io (Mwld_Tape_Next_sp (hm := hy)) 0 rfl rfl rfl (by repeat (first | exact Vws.nil | apply Vws.cons | exact Vw.nil | exact Vw.d _ | exact Vw.q _ | exact Vw.p rfl | apply Vw.a)) rfl (Vb.box (by repeat (first | exact Vws.nil | apply Vws.cons | exact Vw.nil | exact Vw.d _ | exact Vw.q _ | exact Vw.p rfl | apply Vw.a))) rfl rfl rfl (by first | exact .no rfl | exact .y rfl rfl rfl rfl) rfl rfl rfl rfl ?_
   refine ss ?_
   obtain ⟨y29, hy, hm1⟩ := obnd_o hm1
   refine wd_io (Mwld_Tape_Next_sp (hm := hy)) 0 rfl rfl rfl (by repeat (first | exact Vws.nil | apply Vws.cons | exact Vw.nil | exact Vw.d _ | exact Vw.q _ | exact Vw.p rfl | apply Vw.a)) rfl (Vb.box (by repeat (first | exact Vws.nil | apply Vws.cons | exact Vw.nil | exact Vw.d _ | exact Vw.q _ | exact Vw.p rfl | apply Vw.a))) rfl rfl rfl (by first | exact .no rfl | exact .y rfl rfl rfl rfl) rfl rfl rfl rfl ?_
   refine ss ?_
   obtain ⟨y30, hy, hm1⟩ := obnd_o hm1
   refine wd_cs (Mref20_Slice_sp (hm := hy)) rfl rfl rfl (by repeat (first | exact Vws.nil | apply Vws.cons | exact Vw.nil | exact Vw.d _ | exact Vw.q _ | apply Vw.a)) rfl rfl (by first | exact .no rfl | exact .y rfl rfl rfl rfl) rfl rfl rfl ?_
   refine ss ?_
   obtain ⟨y31, hy, hm1⟩ := obnd_o hm1
   refine wd_cs (Mref24_New_sp (hm := hy)) rfl rfl rfl (by repeat (first | exact Vws.nil | apply Vws.cons | exact Vw.nil | exact Vw.d _ | exact Vw.q _ | apply Vw.a)) rfl rfl (by first | exact .no rfl | exact .y rfl rfl rfl rfl) rfl rfl rfl ?_
   refine sr ?_
   refine wl_r (o_add rfl rfl rfl rfl) rfl rfl rfl ?_
   refine ss ?_
   refine wc_seq ?_
   refine wc_draw (id := 15) [⟨0, 0, [13]⟩, ⟨1, 0, [13]⟩, ⟨2, 2, [80]⟩, ⟨3, 0, [13]⟩, ⟨4, 8, [82]⟩, ⟨5, 24, [83]⟩, ⟨6, 0, [13]⟩, ⟨7, 64, [85]⟩, ⟨8, 192, [86]⟩, ⟨9, 510, [81, 84, 87]⟩, ⟨10, 0, [0]⟩, ⟨14, 0, [11]⟩, ⟨19, 0, []⟩, ⟨11, 1024, [89]⟩, ⟨12, 3072, [90]⟩, ⟨13, 8190, [88, 91]⟩, ⟨15, 32767, [79, 92, 93]⟩, ⟨16, 65535, [94]⟩, ⟨17, 131071, [78]⟩, ⟨18, 131071, [78]⟩, ⟨20, 786431, [14, 95]⟩, ⟨21, 2097151, [96]⟩] mixed (by kernel_rfl) ?_
   refine ss ?_
   refine wd_r [] (o_add rfl rfl rfl rfl) rfl (by first | exact .no rfl | exact .y rfl rfl rfl rfl) rfl rfl ?_
   refine ss ?_
   refine wd_r [] (o_add rfl rfl rfl rfl) rfl (by first | exact .no rfl | exact .y rfl rfl rfl rfl) rfl rfl ?_
   refine ss ?_
   refine wd_bt dsI [i64w (10 * (i64w ((out8.length : Int) + 1))), i64w ((i64w (10 * (i64w ((out8.length : Int) + 1)))) + 1), i64w ((i64w (10 * (i64w ((out8.length : Int) + 1)))) + 2)] rfl rfl (by simp only [flatV, cellsV, List.cons_append, List.nil_append, List.append_nil]; exact rfl) rfl rfl rfl rfl (by first | exact .no rfl | exact .y rfl rfl rfl rfl) rfl rfl ?_
   refine ss ?_
   obtain ⟨y32, hy, hm1⟩ := obnd_o hm1
   refine wd_io (Mwld_Tape_Next_sp (hm := hy)) 0 rfl rfl rfl (by repeat (first | exact Vws.nil | apply Vws.cons | exact Vw.nil | exact Vw.d _ | exact Vw.q _ | exact Vw.p rfl | apply Vw.a)) rfl (Vb.box (by repeat (first | exact Vws.nil | apply Vws.cons | exact Vw.nil | exact Vw.d _ | exact Vw.q _ | exact Vw.p rfl | apply Vw.a))) rfl rfl rfl (by first | exact .no rfl | exact .y rfl rfl rfl rfl) rfl rfl rfl rfl ?_
   refine ss ?_
   refine wd_r [] (o_add rfl rfl rfl rfl) rfl (by first | exact .no rfl | exact .y rfl rfl rfl rfl) rfl rfl ?_
   refine ss ?_
   obtain ⟨l33, hy, hm1⟩ := obnd_o hm1
   refine wd_r [] (o_lsl hy rfl rfl rfl rfl) rfl (by first | exact .no rfl | exact .y rfl rfl rfl rfl) rfl rfl ?_
   refine ss ?_
   obtain ⟨y34, hy, hm1⟩ := obnd_o hm1
   refine wd_cs (Mref25_New_sp (hm := hy)) rfl rfl rfl (by repeat (first | exact Vws.nil | apply Vws.cons | exact Vw.nil | exact Vw.d _ | exact Vw.q _ | apply Vw.a)) rfl rfl (by first | exact .no rfl | exact .y rfl rfl rfl rfl) rfl rfl rfl ?_
   refine sr ?_
   refine wl_bt TGroup.ds [y34.1] rfl rfl (by simp only [flatV, cellsV, List.cons_append, List.nil_append, List.append_nil]; exact rfl) rfl rfl rfl rfl rfl rfl ?_
   refine ss ?_
   obtain ⟨l35, hy, hm1⟩ := obnd_o hm1
   refine wl_2 (n_app (k' := 200) hy rfl rfl rfl rfl rfl rfl rfl rfl) rfl rfl rfl rfl ?_
   refine sr ?_
   refine sr ?_
   refine wl_r (o_add rfl rfl rfl rfl) rfl rfl rfl ?_
   refine ss ?_
   exact wk_loopw [(0, 0), (107, 107), (5001, 200)] ⟨_, _, _, _, _, _, hm1, rfl⟩ (Nat.lt_succ_self _)
 rintro _ ⟨out36, x37, x38, rfl, rfl⟩
 refine sr ?_
 refine sx ?_
 cases hm
 exact wk_reti [(0, 0)] ⟨rfl, rfl⟩

def Mwld_Views_l1 : List TGroup → List TView → Option (List TView)
  | [], out2 =>
  some out2
  | r3 :: xs4, out2 =>
  obnd (Mref25_View r3) fun y6 =>
  sel (decide (y6.2 = 0)) (
   obnd (app out2 ([y6.1] : List TView)) fun l7 =>
   Mwld_Views_l1 xs4 l7) (
   Mwld_Views_l1 xs4 out2)
def Mwld_Views (l1 : List TGroup) : Option (List TView) :=
 obnd (
  Mwld_Views_l1 l1 [] : Option (List TView)) fun out8 =>
 some out8
theorem Mwld_Views_sp {l1 : List TGroup} {y : List TView} (hm : Mwld_Views l1 = some y) : Spec Tryz.prog 17 [.d (lst TGroup.ds l1)] [] fun u h => u = .d (lst TView.ds y) ∧ h = [] := by
 refine si Tryz.func17 Tryz.ntmps17 Tryz.results17 fun B w0 ρ0 => ?_
 unfold Mwld_Views at hm
 refine sr ?_
 refine sr ?_
 refine sr ?_
 obtain ⟨mu1, hm1, hm⟩ := obnd_o hm
 refine wc_cut' (fun st => ∃ (out8 : List TView), out8 = mu1 ∧ st = ⟨[(3, .d (lst TView.ds out8))], []⟩) ?_ ?_
 ·refine wc_block ?_
  refine wc_wk (wk_nil 3 5001 49 8 rfl rfl) ?_
  refine wc_len 8 rfl (fun hlenm5 => ?_)
  refine wc_loopw (fun κ st => ∃ (m5 : Nat) (out2 : List TView), κ = l1.length - m5 ∧ m5 ≤ l1.length ∧ Mwld_Views_l1 (l1.drop m5) out2 = some mu1 ∧ st = ⟨[(3, .h 5001), (8, .d (lst TGroup.ds l1)), (9, vI (l1.length : Int)), (10, vI (m5 : Int))], [(5001, some (arrT 49 8 TView.ds out2))]⟩) [(5001, 5001)] ⟨0, _, rfl, Nat.zero_le _, hm1, rfl⟩ ?_
  rintro κ _ ⟨m5, out2, rfl, hlem5, hm1, rfl⟩
  rcases Nat.lt_or_ge m5 l1.length with hltm5 | hgem5
  ·obtain ⟨r3, hxm5, hdr⟩ := drop_c hltm5
   rw [hdr, Mwld_Views_l1.eq_2] at hm1
   refine sr ?_
   refine wc_seq ?_
   refine wc_cond_tt (lt_t hltm5) rfl ?_
   refine sx ?_
   refine sr ?_
   refine wl_r (o_ixm (ys := [dI r3.Number, dB r3.Open, lst TMember.ds r3.Members]) hxm5 rfl rfl rfl rfl) rfl rfl rfl ?_
   refine sr ?_
   obtain ⟨y6, hy, hm1⟩ := obnd_o hm1
   refine wl_cq (Mref25_View_sp (hm := hy)) ?_
   refine sr ?_
   refine wc_cs hm1 ?_ ?_ <;> clear hm1 <;> intro hm1
   ·refine sr ?_
    refine wl_bt TView.ds [y6.1] rfl rfl (by simp only [flatV, cellsV, List.cons_append, List.nil_append, List.append_nil]; exact rfl) rfl rfl rfl rfl rfl rfl ?_
    refine ss ?_
    obtain ⟨l7, hy, hm1⟩ := obnd_o hm1
    refine wl_2 (n_app (k' := 124) hy rfl rfl rfl rfl rfl rfl rfl rfl) rfl rfl rfl rfl ?_
    refine sr ?_
    refine wl_r (o_inc hltm5 hlenm5 rfl rfl rfl) rfl rfl rfl ?_
    refine ss ?_
    exact wk_loopw [(5001, 124)] ⟨m5 + 1, _, rfl, hltm5, hm1, rfl⟩ (by omega)
   refine sx ?_
   refine sr ?_
   refine wl_r (o_inc hltm5 hlenm5 rfl rfl rfl) rfl rfl rfl ?_
   refine ss ?_
   exact wk_loopw [(5001, 5001)] ⟨m5 + 1, _, rfl, hltm5, hm1, rfl⟩ (by omega)
  ·rw [drop_n hgem5, Mwld_Views_l1.eq_1] at hm1
   refine sr ?_
   refine wc_seq ?_
   refine wc_cond_ff (lt_f hgem5) rfl ?_
   refine wc_exit ?_
   refine ss ?_
   cases hm1
   exact wk_cutw [] ⟨_, rfl, rfl⟩
 rintro _ ⟨out8, rfl, rfl⟩
 refine sr ?_
 refine sx ?_
 cases hm
 exact wk_r

end Go.Proofs.YtlbnhhfaedhgfaaGreatDoor
