/-
  Lemmas: Models and walks
-/
import Derived.Test.YticecfoigpcflaaGreatDoorPT18
import Derived.Test.YticecfoigpcflaaGreatDoorPT20
import Derived.Test.YticecfoigpcflaaGreatDoorPT21
set_option linter.unusedSimpArgs false
set_option linter.unusedVariables false
namespace Go.Proofs.YticecfoigpcflaaGreatDoor
open Go.RowKit
set_option maxRecDepth 100000
set_option maxHeartbeats 4000000
attribute [local irreducible] WK WC WL Wk Rel OpD OpV WD WO sel bnd obnd app lget lsl sget ssl scat letg iquo irem Op.bytesLess
attribute [local irreducible] qchk qranges union
structure TStamp where
  Epoch : Int
  Version : Int
  deriving DecidableEq
def TStamp.ds (x : TStamp) : List D := [dI x.Epoch, dI x.Version]
instance : Len TStamp.ds 2 := ⟨fun _ => rfl⟩
abbrev TStamp.vs (x : TStamp) : List V := [vI x.Epoch, vI x.Version]

structure TView where
  Owner : Int
  Interval : Rng
  Stamp : TStamp
  Rows : List Kv
  deriving DecidableEq
def TView.ds (x : TView) : List D := [dI x.Owner, dS x.Interval.lo.key, dB x.Interval.lo.top, dS x.Interval.hi.key, dB x.Interval.hi.top, dI x.Stamp.Epoch, dI x.Stamp.Version, lst Kv.ds x.Rows]
instance : Len TView.ds 8 := ⟨fun _ => rfl⟩
abbrev TView.vs (x : TView) : List V := [vI x.Owner, vS x.Interval.lo.key, vB x.Interval.lo.top, vS x.Interval.hi.key, vB x.Interval.hi.top, vI x.Stamp.Epoch, vI x.Stamp.Version, .d (lst Kv.ds x.Rows)]

structure TVisit where
  View : TView
  Part : Rng
  deriving DecidableEq
def TVisit.ds (x : TVisit) : List D := [dI x.View.Owner, dS x.View.Interval.lo.key, dB x.View.Interval.lo.top, dS x.View.Interval.hi.key, dB x.View.Interval.hi.top, dI x.View.Stamp.Epoch, dI x.View.Stamp.Version, lst Kv.ds x.View.Rows, dS x.Part.lo.key, dB x.Part.lo.top, dS x.Part.hi.key, dB x.Part.hi.top]
instance : Len TVisit.ds 12 := ⟨fun _ => rfl⟩
abbrev TVisit.vs (x : TVisit) : List V := [vI x.View.Owner, vS x.View.Interval.lo.key, vB x.View.Interval.lo.top, vS x.View.Interval.hi.key, vB x.View.Interval.hi.top, vI x.View.Stamp.Epoch, vI x.View.Stamp.Version, .d (lst Kv.ds x.View.Rows), vS x.Part.lo.key, vB x.Part.lo.top, vS x.Part.hi.key, vB x.Part.hi.top]

structure TReceipt where
  Query : TQuery
  First : List TVisit
  Second : List TVisit
  deriving DecidableEq
def TReceipt.ds (x : TReceipt) : List D := [dI x.Query.Kind, lst Rng.ds x.Query.Ranges, dS x.Query.Key, dI x.Query.Count, lst TVisit.ds x.First, lst TVisit.ds x.Second]
instance : Len TReceipt.ds 6 := ⟨fun _ => rfl⟩
abbrev TReceipt.vs (x : TReceipt) : List V := [vI x.Query.Kind, .d (lst Rng.ds x.Query.Ranges), vS x.Query.Key, vI x.Query.Count, .d (lst TVisit.ds x.First), .d (lst TVisit.ds x.Second)]

structure TWrite where
  Key : ByteArray
  Value : ByteArray
  Delete : Bool
  deriving DecidableEq
def TWrite.ds (x : TWrite) : List D := [dS x.Key, dS x.Value, dB x.Delete]
instance : Len TWrite.ds 3 := ⟨fun _ => rfl⟩
abbrev TWrite.vs (x : TWrite) : List V := [vS x.Key, vS x.Value, vB x.Delete]

structure TRecord where
  Kind : Int
  Writes : List TWrite
  Key : ByteArray
  Value : ByteArray
  Has : Bool
  Query : Int
  Receipt : TReceipt
  deriving DecidableEq
def TRecord.ds (x : TRecord) : List D := [dI x.Kind, lst TWrite.ds x.Writes, dS x.Key, dS x.Value, dB x.Has, dI x.Query, dI x.Receipt.Query.Kind, lst Rng.ds x.Receipt.Query.Ranges, dS x.Receipt.Query.Key, dI x.Receipt.Query.Count, lst TVisit.ds x.Receipt.First, lst TVisit.ds x.Receipt.Second]
instance : Len TRecord.ds 12 := ⟨fun _ => rfl⟩
abbrev TRecord.vs (x : TRecord) : List V := [vI x.Kind, .d (lst TWrite.ds x.Writes), vS x.Key, vS x.Value, vB x.Has, vI x.Query, vI x.Receipt.Query.Kind, .d (lst Rng.ds x.Receipt.Query.Ranges), vS x.Receipt.Query.Key, vI x.Receipt.Query.Count, .d (lst TVisit.ds x.Receipt.First), .d (lst TVisit.ds x.Receipt.Second)]

structure TWalk where
  Query : TQuery
  Todo : List Rng
  Visits : List TVisit
  deriving DecidableEq
def TWalk.ds (x : TWalk) : List D := [dI x.Query.Kind, lst Rng.ds x.Query.Ranges, dS x.Query.Key, dI x.Query.Count, lst Rng.ds x.Todo, lst TVisit.ds x.Visits]
instance : Len TWalk.ds 6 := ⟨fun _ => rfl⟩
abbrev TWalk.vs (x : TWalk) : List V := [vI x.Query.Kind, .d (lst Rng.ds x.Query.Ranges), vS x.Query.Key, vI x.Query.Count, .d (lst Rng.ds x.Todo), .d (lst TVisit.ds x.Visits)]

structure TPart where
  Serial : Int
  From : Int
  To : Int
  Stamp : TStamp
  Range : Rng
  Rows : List Kv
  deriving DecidableEq
def TPart.ds (x : TPart) : List D := [dI x.Serial, dI x.From, dI x.To, dI x.Stamp.Epoch, dI x.Stamp.Version, dS x.Range.lo.key, dB x.Range.lo.top, dS x.Range.hi.key, dB x.Range.hi.top, lst Kv.ds x.Rows]
instance : Len TPart.ds 10 := ⟨fun _ => rfl⟩
abbrev TPart.vs (x : TPart) : List V := [vI x.Serial, vI x.From, vI x.To, vI x.Stamp.Epoch, vI x.Stamp.Version, vS x.Range.lo.key, vB x.Range.lo.top, vS x.Range.hi.key, vB x.Range.hi.top, .d (lst Kv.ds x.Rows)]

structure TCopy where
  Range : Rng
  Stamp : TStamp
  Rows : List Kv
  Pending : List TWrite
  Out : TPart
  In : TPart
  Took : Int
  From : Int
  deriving DecidableEq
def TCopy.ds (x : TCopy) : List D := [dS x.Range.lo.key, dB x.Range.lo.top, dS x.Range.hi.key, dB x.Range.hi.top, dI x.Stamp.Epoch, dI x.Stamp.Version, lst Kv.ds x.Rows, lst TWrite.ds x.Pending, dI x.Out.Serial, dI x.Out.From, dI x.Out.To, dI x.Out.Stamp.Epoch, dI x.Out.Stamp.Version, dS x.Out.Range.lo.key, dB x.Out.Range.lo.top, dS x.Out.Range.hi.key, dB x.Out.Range.hi.top, lst Kv.ds x.Out.Rows, dI x.In.Serial, dI x.In.From, dI x.In.To, dI x.In.Stamp.Epoch, dI x.In.Stamp.Version, dS x.In.Range.lo.key, dB x.In.Range.lo.top, dS x.In.Range.hi.key, dB x.In.Range.hi.top, lst Kv.ds x.In.Rows, dI x.Took, dI x.From]
instance : Len TCopy.ds 30 := ⟨fun _ => rfl⟩
abbrev TCopy.vs (x : TCopy) : List V := [vS x.Range.lo.key, vB x.Range.lo.top, vS x.Range.hi.key, vB x.Range.hi.top, vI x.Stamp.Epoch, vI x.Stamp.Version, .d (lst Kv.ds x.Rows), .d (lst TWrite.ds x.Pending), vI x.Out.Serial, vI x.Out.From, vI x.Out.To, vI x.Out.Stamp.Epoch, vI x.Out.Stamp.Version, vS x.Out.Range.lo.key, vB x.Out.Range.lo.top, vS x.Out.Range.hi.key, vB x.Out.Range.hi.top, .d (lst Kv.ds x.Out.Rows), vI x.In.Serial, vI x.In.From, vI x.In.To, vI x.In.Stamp.Epoch, vI x.In.Stamp.Version, vS x.In.Range.lo.key, vB x.In.Range.lo.top, vS x.In.Range.hi.key, vB x.In.Range.hi.top, .d (lst Kv.ds x.In.Rows), vI x.Took, vI x.From]

structure TMember where
  ID : Int
  Up : Bool
  Copy : TCopy
  deriving DecidableEq
def TMember.ds (x : TMember) : List D := [dI x.ID, dB x.Up, dS x.Copy.Range.lo.key, dB x.Copy.Range.lo.top, dS x.Copy.Range.hi.key, dB x.Copy.Range.hi.top, dI x.Copy.Stamp.Epoch, dI x.Copy.Stamp.Version, lst Kv.ds x.Copy.Rows, lst TWrite.ds x.Copy.Pending, dI x.Copy.Out.Serial, dI x.Copy.Out.From, dI x.Copy.Out.To, dI x.Copy.Out.Stamp.Epoch, dI x.Copy.Out.Stamp.Version, dS x.Copy.Out.Range.lo.key, dB x.Copy.Out.Range.lo.top, dS x.Copy.Out.Range.hi.key, dB x.Copy.Out.Range.hi.top, lst Kv.ds x.Copy.Out.Rows, dI x.Copy.In.Serial, dI x.Copy.In.From, dI x.Copy.In.To, dI x.Copy.In.Stamp.Epoch, dI x.Copy.In.Stamp.Version, dS x.Copy.In.Range.lo.key, dB x.Copy.In.Range.lo.top, dS x.Copy.In.Range.hi.key, dB x.Copy.In.Range.hi.top, lst Kv.ds x.Copy.In.Rows, dI x.Copy.Took, dI x.Copy.From]
instance : Len TMember.ds 32 := ⟨fun _ => rfl⟩
abbrev TMember.vs (x : TMember) : List V := [vI x.ID, vB x.Up, vS x.Copy.Range.lo.key, vB x.Copy.Range.lo.top, vS x.Copy.Range.hi.key, vB x.Copy.Range.hi.top, vI x.Copy.Stamp.Epoch, vI x.Copy.Stamp.Version, .d (lst Kv.ds x.Copy.Rows), .d (lst TWrite.ds x.Copy.Pending), vI x.Copy.Out.Serial, vI x.Copy.Out.From, vI x.Copy.Out.To, vI x.Copy.Out.Stamp.Epoch, vI x.Copy.Out.Stamp.Version, vS x.Copy.Out.Range.lo.key, vB x.Copy.Out.Range.lo.top, vS x.Copy.Out.Range.hi.key, vB x.Copy.Out.Range.hi.top, .d (lst Kv.ds x.Copy.Out.Rows), vI x.Copy.In.Serial, vI x.Copy.In.From, vI x.Copy.In.To, vI x.Copy.In.Stamp.Epoch, vI x.Copy.In.Stamp.Version, vS x.Copy.In.Range.lo.key, vB x.Copy.In.Range.lo.top, vS x.Copy.In.Range.hi.key, vB x.Copy.In.Range.hi.top, .d (lst Kv.ds x.Copy.In.Rows), vI x.Copy.Took, vI x.Copy.From]

structure TGroup where
  Number : Int
  Open : Bool
  Members : List TMember
  deriving DecidableEq
def TGroup.ds (x : TGroup) : List D := [dI x.Number, dB x.Open, lst TMember.ds x.Members]
instance : Len TGroup.ds 3 := ⟨fun _ => rfl⟩
abbrev TGroup.vs (x : TGroup) : List V := [vI x.Number, vB x.Open, .d (lst TMember.ds x.Members)]

def Mclone_List_api_Range_ (l1 : List Rng) : Option (List Rng) :=
 obnd (app ([] : List Rng) l1) fun l2 =>
 some l2
instance Mclone_List_api_Range__sp {l1} : SpO (Mclone_List_api_Range_ l1) fun y => Sp 139 [.d (lst Rng.ds l1)] [] (.d (lst Rng.ds y)) [] := ⟨fun hm => by
 refine si Tryz.func139 Tryz.ntmps139 Tryz.results139 fun B w0 ρ0 => ?_
 exact az0 hm⟩

def Mclone_Query (q1 : TQuery) : Option TQuery :=
 obnd (Mclone_List_api_Range_ q1.Ranges) fun y2 =>
 some (TQuery.mk q1.Kind y2 q1.Key q1.Count)
instance Mclone_Query_sp {q1} : SpO (Mclone_Query q1) fun y => Sp 76 [.a (TQuery.vs q1)] [] (.a (TQuery.vs y)) [] := ⟨fun hm => by
 refine si Tryz.func76 Tryz.ntmps76 Tryz.results76 fun B w0 ρ0 => ?_
 exact az0 hm⟩

def Mclone_View (v1 : TView) : Option TView :=
 obnd (Mclone_List_api_Row_ v1.Rows) fun y2 =>
 some (TView.mk v1.Owner v1.Interval v1.Stamp y2)
instance Mclone_View_sp {v1} : SpO (Mclone_View v1) fun y => Sp 224 [.a (TView.vs v1)] [] (.a (TView.vs y)) [] := ⟨fun hm => by
 refine si Tryz.func224 Tryz.ntmps224 Tryz.results224 fun B w0 ρ0 => ?_
 exact az0 hm⟩

def Mclone_List_api_Visit_ (l1 : List TVisit) : Option (List TVisit) :=
 obnd (app ([] : List TVisit) l1) fun l2 =>
 some l2
instance Mclone_List_api_Visit__sp {l1} : SpO (Mclone_List_api_Visit_ l1) fun y => Sp 223 [.d (lst TVisit.ds l1)] [] (.d (lst TVisit.ds y)) [] := ⟨fun hm => by
 refine si Tryz.func223 Tryz.ntmps223 Tryz.results223 fun B w0 ρ0 => ?_
 exact az0 hm⟩

theorem Mclone_List_api_Visit__so0 {l1 : List TVisit} {y : List TVisit} (hm : Mclone_List_api_Visit_ l1 = some y) : Spec Tryz.prog 223 [.d (lst TVisit.ds l1)] [] fun u h => u = .h 1 ∧ h = [(1, some (arrT 182 12 TVisit.ds y))] := by
 refine si Tryz.func223 Tryz.ntmps223 Tryz.results223 fun B w0 ρ0 => ?_
 refine bo hm fun l2 hm => ?_
 exact em00 [(1, 104)] hm
def Mclone_Visits_l1 (y2 : List TVisit) : Nat → List TVisit → Int → Option (List TVisit)
  | 0, _, _ => none
  | fuel + 1, l3, x4 =>
  obnd (
   sel (decide (x4 < (y2.length : Int))) (
    some (Ctl.nxt ())) (
    some (Ctl.ret l3)) : Option (Ctl (List TVisit) Unit)) fun mu => ocbnd mu fun (_ : Unit) =>
  obnd (lget l3 x4) fun e5 =>
  obnd (Mclone_View e5.View) fun y6 =>
  obnd (lget l3 x4) fun e7 =>
  bnd ((TVisit.mk y6 e7.Part)) fun e9 =>
  bnd (l3.set (Int.toNat x4) e9) fun l8 =>
  Mclone_Visits_l1 y2 fuel l8 (i64w (x4 + 1))
def Mclone_Visits (l1 : List TVisit) : Option (List TVisit) :=
 obnd (Mclone_List_api_Visit_ l1) fun y2 =>
 obnd (
  Mclone_Visits_l1 y2 FU y2 0 : Option (List TVisit)) fun l10 =>
 some l10
instance Mclone_Visits_sp {l1} : SpO (Mclone_Visits l1) fun y => Sp 194 [.d (lst TVisit.ds l1)] [] (.d (lst TVisit.ds y)) [] := ⟨fun hm => by
 refine si Tryz.func194 Tryz.ntmps194 Tryz.results194 fun B w0 ρ0 => ?_
 refine sr ?_
 refine sr ?_
 obtain ⟨y2, hy, hm⟩ := obnd_o hm
 refine wl_mkn (u' := .h 200501) (h' := [(200501, some (arrT 182 12 TVisit.ds y2))]) (Mclone_List_api_Visit__so0 (hm := hy)) 200500 rfl rfl rfl (by repeat (first | exact Vws.nil | apply Vws.cons | exact Vw.nil | exact Vw.d _ | exact Vw.q _ | apply Vw.a)) rfl (by (try simp only [renH, Option.map_some, Blk.ren, rens_d]); rfl) rfl rfl rfl rfl ?_
 refine sr ?_
 refine jo1 hm [] [] (fun l10 => [(0, .d (lst TVisit.ds l10))]) (fun _ hm hm1 => ?_) (fun l10 hm => ?_)
 ·refine wc_block ?_
  refine lf2 hm1 [7] [] (fun l3 x4 => [(0, .h 5001), (8, vI x4)]) (fun κ l3 x4 hm1 => ?_) (B := (fun l3 x4 => [(5001, some (arrT 182 12 TVisit.ds l3))])) (f := [(5001, 200501)])
  refine sr ?_
  refine wc_seq ?_
  refine jc0 hm1 [0, 7, 8] [5001] [] (fun _ hm1 hm2 => ?_) (fun hm1 => ?_)
  ·exact az2 hm hm1 hm2
  refine bo' hm1 fun e5 hge5 hm1 => ?_
  refine ss ?_
  refine wl_r (o_ldo (k := 5001) (f := TVisit.ds) (zz := 12) (u := .a (TView.vs e5.View)) (off := 0) hge5 rfl rfl rfl (by exact inferInstance) rfl rfl) rfl rfl rfl ?_
  refine bo hm1 fun y6 hm1 => ?_
  refine bo' hm1 fun e7 hge7 hm1 => ?_
  refine ss ?_
  obtain ⟨e9, hy, hm1⟩ := bnd_o hm1
  have hxe9 := hy
  refine ss ?_
  obtain ⟨l8, hy, hm1⟩ := bnd_o hm1
  refine wl_0 (lo := 0) (nn := 0) (o_sto (k := 5001) (f := TVisit.ds) (zz := 12) (off := 0) hge7 hy rfl rfl rfl rfl (by exact inferInstance) rfl (by rw [← hxe9]; rfl)) rfl rfl (fresh0 _ _) ?_
  have hge9 := lget_set hge7 e9
  rw [hy] at hge9
  refine sr ?_
  refine wl_r (o_add rfl rfl rfl rfl) rfl rfl rfl ?_
  refine ss ?_
  exact eb1 hm hm1
 exact en00 hm⟩

def Mclone_Walk (w1 : TWalk) : Option TWalk :=
 obnd (Mclone_Query w1.Query) fun y2 =>
 obnd (Mclone_List_api_Range_ w1.Todo) fun y3 =>
 obnd (Mclone_Visits w1.Visits) fun y4 =>
 some (TWalk.mk y2 y3 y4)
instance Mclone_Walk_sp {w1} : SpO (Mclone_Walk w1) fun y => Sp 141 [.a (TWalk.vs w1)] [] (.a (TWalk.vs y)) [] := ⟨fun hm => by
 refine si Tryz.func141 Tryz.ntmps141 Tryz.results141 fun B w0 ρ0 => ?_
 refine sr ?_
 refine wc_seq ?_
 refine wc_draw (id := 1) [⟨0, 0, [1]⟩, ⟨1, 1, [3]⟩, ⟨3, 0, [1]⟩, ⟨4, 8, [6]⟩, ⟨6, 0, [1]⟩, ⟨7, 64, [9]⟩, ⟨2, 3, [4]⟩, ⟨9, 223, [1]⟩, ⟨5, 31, [7]⟩, ⟨8, 255, [10]⟩, ⟨10, 1023, [5, 12]⟩, ⟨11, 2047, [1]⟩, ⟨12, 4095, [8, 13]⟩, ⟨13, 8191, [1]⟩, ⟨14, 16383, [11, 14]⟩] mixed (by kernel_rfl) ?_
 exact az0 hm⟩

def Mref24_SameRange (a1 : Rng) (b2 : Rng) : Bool :=
 bnd (Mref1_Compare a1.lo b2.lo) fun y3 =>
 sel (decide (y3 = 0)) (
  bnd (Mref1_Compare a1.hi b2.hi) fun y4 =>
  decide (y4 = 0)) (
  false)
instance Mref24_SameRange_sp {a1} {b2} : SpT (Mref24_SameRange a1 b2) fun y => Sp 200 [.a (Rng.vs a1), .a (Rng.vs b2)] [] (vB y) [] := ⟨fun hm => by
 refine si Tryz.func200 Tryz.ntmps200 Tryz.results200 fun B w0 ρ0 => ?_
 exact az0 hm⟩

def Mwld_Tape_Cuts_l2 (out6 : List Bnd) (y8 : (Bnd × TTape)) : Nat → List Int → Int → Int → Option (List Int × Int × Int)
  | 0, _, _, _ => none
  | fuel + 1, x9, x10, k11 =>
  sel (decide (0 < k11)) (
   obnd (lget out6 (i64w (k11 - 1))) fun e12 =>
   bnd (Mref1_Compare e12 y8.1) fun y13 =>
   sel (decide (0 < y13)) (
    obnd (Mwld_Tape_Bool (TTape.mk x9 x10) 20) fun y14 =>
    sel (!y14.1) (
     Mwld_Tape_Cuts_l2 out6 y8 fuel y14.2.l y14.2.at_ (i64w (k11 - 1))) (
     some (y14.2.l, y14.2.at_, k11))) (
    some (x9, x10, k11))) (
   some (x9, x10, k11))
def Mwld_Tape_Cuts_l1 : Nat → List Int → Int → List Bnd → Int → Option (List Bnd × List Int × Int)
  | 0, _, _, _, _ => none
  | fuel + 1, x4, x5, out6, i7 =>
  obnd (
   sel (decide (0 < i7)) (
    some (Ctl.nxt ())) (
    some (Ctl.ret (out6, x4, x5))) : Option (Ctl (List Bnd × List Int × Int) Unit)) fun mu => ocbnd mu fun (_ : Unit) =>
  obnd (
   obnd (Mwld_Tape_Bound (TTape.mk x4 x5)) fun y8 =>
   obnd (
    Mwld_Tape_Cuts_l2 out6 y8 FU y8.2.l y8.2.at_ (out6.length : Int) : Option (List Int × Int × Int)) fun (x15, x16, k17) =>
   obnd (
    sel (decide (0 < k17)) (
     obnd (lget out6 (i64w (k17 - 1))) fun e18 =>
     bnd (Mref1_Compare e18 y8.1) fun y19 =>
     sel (decide (y19 = 0)) (
      obnd (Mwld_Tape_Bool (TTape.mk x15 x16) 20) fun y20 =>
      sel (!y20.1) (
       some (y20.2.l, y20.2.at_, true)) (
       bnd (Mref1_ValidBound y8.1) fun y21 =>
       sel (!y21) (
        obnd (Mwld_Tape_Bool y20.2 20) fun y22 =>
        some (y22.2.l, y22.2.at_, !y22.1)) (
        some (y20.2.l, y20.2.at_, false)))) (
      bnd (Mref1_ValidBound y8.1) fun y23 =>
      sel (!y23) (
       obnd (Mwld_Tape_Bool (TTape.mk x15 x16) 20) fun y24 =>
       some (y24.2.l, y24.2.at_, !y24.1)) (
       some (x15, x16, false)))) (
     bnd (Mref1_ValidBound y8.1) fun y25 =>
     sel (!y25) (
      obnd (Mwld_Tape_Bool (TTape.mk x15 x16) 20) fun y26 =>
      some (y26.2.l, y26.2.at_, !y26.1)) (
      some (x15, x16, false))) : Option (List Int × Int × Bool)) fun (x27, x28, x29) =>
   obnd (
    sel x29 (
     some (Ctl.ret (x27, x28, out6))) (
     some (Ctl.nxt ())) : Option (Ctl (List Int × Int × List Bnd) Unit)) fun mu => ocbnd mu fun (_ : Unit) =>
   obnd (lsl out6 0 k17) fun l30 =>
   obnd (app ([] : List Bnd) l30) fun l31 =>
   obnd (app l31 ([y8.1] : List Bnd)) fun l32 =>
   obnd (lsl out6 k17 (out6.length : Int)) fun l33 =>
   obnd (app l32 l33) fun l34 =>
   some (x27, x28, l34) : Option (List Int × Int × List Bnd)) fun (x35, x36, out37) =>
  Mwld_Tape_Cuts_l1 fuel x35 x36 out37 (i64w (i7 - 1))
def Mwld_Tape_Cuts (t1 : TTape) (n2 : Int) : Option (List Bnd × TTape) :=
 obnd (Mwld_Tape_Next t1 (i64w (n2 + 1))) fun y3 =>
 obnd (
  Mwld_Tape_Cuts_l1 FU y3.2.l y3.2.at_ [] y3.1 : Option (List Bnd × List Int × Int)) fun (out38, x39, x40) =>
 some (out38, (TTape.mk x39 x40))
instance Mwld_Tape_Cuts_sp {t1} {n2} : SpO (Mwld_Tape_Cuts t1 n2) fun y => Sp 13 [.p 0 0, vI n2] [(0, some (.box 126 [.d (lst dsI t1.l), vI t1.at_]))] (.d (lst Bnd.ds y.1)) ([(0, some (.box 126 [.d (lst dsI y.2.l), vI y.2.at_]))]) := ⟨fun hm => by
 refine si Tryz.func13 Tryz.ntmps13 Tryz.results13 fun B w0 ρ0 => ?_
 refine bo hm fun y3 hm => ?_
 refine ss ?_
 refine jo3 hm [] [] (fun out38 x39 x40 => [(5, .d (lst Bnd.ds out38))]) (fun _ hm hm1 => ?_) (fun out38 x39 x40 hm => ?_) (B := (fun out38 x39 x40 => [(0, some (.box 126 [.d (lst dsI x39), vI x40]))]))
 ·refine wc_block ?_
  refine lf4 hm1 [0] [] (fun x4 x5 out6 i7 => [(5, .d (lst Bnd.ds out6)), (6, vI i7)]) (fun κ x4 x5 out6 i7 hm1 => ?_) (B := (fun x4 x5 out6 i7 => [(0, some (.box 126 [.d (lst dsI x4), vI x5]))]))
  refine sr ?_
  refine jc0 hm1 [0, 5, 6] [0] [] (fun _ hm1 hm2 => ?_) (fun hm1 => ?_)
  ·exact az2 hm hm1 hm2
  refine ss ?_
  refine wc_seq ?_
  refine jo3 hm1 [0, 6] [] (fun x35 x36 out37 => [(5, .d (lst Bnd.ds out37))]) (fun _ hm1 hm2 => ?_) (fun x35 x36 out37 hm1 => ?_) (B := (fun x35 x36 out37 => [(0, some (.box 126 [.d (lst dsI x35), vI x36]))]))
  ·refine bo hm2 fun y8 hm2 => ?_
   refine sr ?_
   refine wc_seq ?_
   refine jo3 hm2 [0, 5, 6, 7] [107] (fun x15 x16 k17 => [(8, vI k17)]) (fun _ hm2 hm3 => ?_) (fun x15 x16 k17 hm2 => ?_) (B := (fun x15 x16 k17 => [(0, some (.box 126 [.d (lst dsI x15), vI x16]))]))
   ·refine wc_block ?_
    refine lf3 hm3 [0, 5, 6, 7] [107] (fun x9 x10 k11 => [(8, vI k11)]) (fun κ x9 x10 k11 hm3 => ?_) (B := (fun x9 x10 k11 => [(0, some (.box 126 [.d (lst dsI x9), vI x10]))]))
    refine wc_seq ?_
    refine wc_seq ?_
    refine wc_draw (id := 7) [⟨0, 0, [8]⟩, ⟨1, 1, [21]⟩, ⟨2, 3, [22]⟩, ⟨3, 7, [5, 23]⟩, ⟨4, 7, [8, 23]⟩, ⟨5, 23, [23, 25]⟩, ⟨6, 63, [23, 24, 26]⟩, ⟨7, 127, [23, 27]⟩, ⟨8, 7, [7, 23]⟩, ⟨9, 511, [23, 28, 29]⟩, ⟨10, 1023, [23, 30]⟩, ⟨11, 2047, [23, 31]⟩, ⟨12, 4095, [32]⟩, ⟨13, 8191, [0, 33]⟩, ⟨14, 16383, [33, 34]⟩, ⟨15, 32767, [33, 35]⟩, ⟨16, 65535, [33, 36]⟩] mixed (by kernel_rfl) ?_
    refine co hm3 (fun hm3 => ?_) fun hm3 => ?_
    ·refine bo hm3 fun e12 hm3 => ?_
     refine bp hm3 fun y13 hm3 => ?_
     refine co hm3 (fun hm3 => ?_) fun hm3 => ?_
     ·refine bo hm3 fun y14 hm3 => ?_
      refine co hm3 (fun hm3 => ?_) fun hm3 => ?_
      ·exact eb3 hm hm1 hm2 hm3
      exact en33 hm hm1 hm2 hm3
     refine ss ?_
     refine wc_cond_f rfl ?_
     exact en33 hm hm1 hm2 hm3
    refine ss ?_
    refine wc_cond_f rfl ?_
    exact en33 hm hm1 hm2 hm3
   refine ss ?_
   refine wc_seq ?_
   refine wc_seq ?_
   refine jo3 hm2 [0, 5, 6, 7, 8] [107] (fun x27 x28 x29 => [(66, vB x29)]) (fun _ hm2 hm3 => ?_) (fun x27 x28 x29 hm2 => ?_) (B := (fun x27 x28 x29 => [(0, some (.box 126 [.d (lst dsI x27), vI x28]))]))
   ·refine wc_draw (id := 9) [⟨0, 0, [8]⟩, ⟨1, 1, [40]⟩, ⟨2, 3, [41]⟩, ⟨3, 7, [5, 42]⟩, ⟨4, 7, [8, 42]⟩, ⟨5, 23, [42, 44]⟩, ⟨6, 63, [42, 43, 45]⟩, ⟨7, 127, [42, 46]⟩, ⟨8, 7, [7, 42]⟩, ⟨9, 511, [42, 47, 48]⟩, ⟨10, 1023, [42, 49]⟩, ⟨11, 2047, [42, 50]⟩, ⟨12, 4095, [51]⟩, ⟨13, 8191, [0, 52]⟩, ⟨14, 16383, [52, 53]⟩, ⟨15, 32767, [52, 54]⟩, ⟨16, 65535, [52, 55]⟩, ⟨17, 131071, [56]⟩, ⟨18, 262143, [7, 57]⟩, ⟨19, 524287, [57, 58]⟩, ⟨20, 1048575, [57, 59]⟩, ⟨21, 2097151, [57, 60]⟩, ⟨22, 4194303, [0, 61]⟩, ⟨23, 8388607, [61, 62]⟩, ⟨24, 16777215, [61, 63]⟩, ⟨25, 33554431, [57, 61, 64]⟩, ⟨26, 67108863, [57, 65]⟩] mixed (by kernel_rfl) ?_
    exact az3 hm hm1 hm2 hm3
   refine ss ?_
   refine jc0 hm2 [0, 5, 6, 7, 8] [0, 107] [] (fun _ hm2 hm3 => ?_) (fun hm2 => ?_)
   ·exact az3 hm hm1 hm2 hm3
   refine ss ?_
   refine wc_draw (id := 10) [⟨0, 0, [5]⟩, ⟨1, 0, [8]⟩, ⟨2, 3, [67, 68]⟩, ⟨3, 7, [69]⟩, ⟨4, 0, [7]⟩, ⟨5, 16, [71]⟩, ⟨6, 63, [70, 72]⟩, ⟨7, 0, [5]⟩, ⟨8, 0, [8]⟩, ⟨9, 384, [74, 75]⟩, ⟨10, 1023, [73, 76]⟩, ⟨11, 2047, [77]⟩] mixed (by kernel_rfl) ?_
   refine bo hm2 fun l30 hm2 => ?_
   refine bo hm2 fun l31 hm2 => ?_
   refine ss ?_
   refine wd_bt Bnd.ds [y8.1] rfl rfl (by simp only [flatV, cellsV, List.cons_append, List.nil_append, List.append_nil]; exact rfl) rfl rfl rfl rfl (by first | exact .no rfl | exact .y rfl rfl rfl rfl) rfl rfl ?_
   exact az2 hm hm1 hm2
  exact eb1 hm hm1
 exact en00 hm⟩

end Go.Proofs.YticecfoigpcflaaGreatDoor
