/-
  Lemmas: Models and walks
-/
import Derived.Test.YticecfoigpcflaaGreatDoorPT18
import Derived.Test.YticecfoigpcflaaGreatDoorPT17
set_option linter.unusedSimpArgs false
set_option linter.unusedVariables false
namespace Go.Proofs.YticecfoigpcflaaGreatDoor
open Go.RowKit
set_option maxRecDepth 100000
set_option maxHeartbeats 4000000
attribute [local irreducible] WK WC WL Wk Rel OpD OpV WD WO sel bnd obnd app lget lsl sget ssl scat letg iquo irem Op.bytesLess
def Mref1_ValidKey (k1 : ByteArray) : Bool :=
 decide ((k1.size : Int) ≤ 64)
instance Mref1_ValidKey_sp {k1} : SpT (Mref1_ValidKey k1) fun y => Sp 127 [vS k1] [] (vB y) [] := ⟨fun hm => by
 refine si Tryz.func127 Tryz.ntmps127 Tryz.results127 fun B w0 ρ0 => ?_
 unfold Mref1_ValidKey at hm
 exact en00 hm⟩

def Mref1_ValidBound (b1 : Bnd) : Bool :=
 bnd (Mref1_ValidKey b1.key) fun y2 =>
 sel y2 (
  sel (!b1.top) (
   true) (
   decide (b1.key = ⟨#[]⟩))) (
  false)
instance Mref1_ValidBound_sp {b1} : SpT (Mref1_ValidBound b1) fun y => Sp 62 [.a [vS b1.key, vB b1.top]] [] (vB y) [] := ⟨fun hm => by
 refine si Tryz.func62 Tryz.ntmps62 Tryz.results62 fun B w0 ρ0 => ?_
 exact az0 hm⟩

def Mref1_Compare (a1 : Bnd) (b2 : Bnd) : Int :=
 bnd (
  sel a1.top (
   b2.top) (
   false) : Bool) fun x3 =>
 sel x3 (
  0) (
  bnd (
   sel a1.top (
    true) (
    sel (!b2.top) (
     bl b2.key a1.key) (
     false)) : Bool) fun x4 =>
  sel x4 (
   1) (
   sel b2.top (
    (-1)) (
    sel (bl a1.key b2.key) (
     (-1)) (
     0))))
instance Mref1_Compare_sp {a1} {b2} : SpT (Mref1_Compare a1 b2) fun y => Sp 61 [.a [vS a1.key, vB a1.top], .a [vS b2.key, vB b2.top]] [] (vI y) [] := ⟨fun hm => by
 refine si Tryz.func61 Tryz.ntmps61 Tryz.results61 fun B w0 ρ0 => ?_
 refine sr ?_
 refine wc_seq ?_
 refine wc_block ?_
 refine wc_seq ?_
 refine jp1 hm [2, 3] [102, 103] (fun x3 => [(5, vB x3)]) (fun _ hm hm1 => ?_) (fun x3 hm => ?_)
 ·exact az1 hm hm1
 refine co hm (fun hm => ?_) fun hm => ?_
 ·exact en00 hm
 refine wc_seq ?_
 refine jp1 hm [2, 3] [102, 103] (fun x4 => [(12, vB x4)]) (fun _ hm hm1 => ?_) (fun x4 hm => ?_)
 ·exact az1 hm hm1
 refine co hm (fun hm => ?_) fun hm => ?_
 ·exact en00 hm
 refine co hm (fun hm => ?_) fun hm => ?_
 ·refine ss ?_
  refine wc_cond_t rfl ?_
  exact en00 hm
 exact az0 hm⟩

def Mref1_Valid (r1 : Rng) : Bool :=
 bnd (Mref1_ValidBound r1.lo) fun y2 =>
 sel y2 (
  bnd (Mref1_ValidBound r1.hi) fun y3 =>
  sel y3 (
   bnd (Mref1_Compare r1.lo r1.hi) fun y4 =>
   decide (y4 ≤ 0)) (
   false)) (
  false)
instance Mref1_Valid_sp {r1} : SpT (Mref1_Valid r1) fun y => Sp 135 [.a (Rng.vs r1)] [] (vB y) [] := ⟨fun hm => by
 refine si Tryz.func135 Tryz.ntmps135 Tryz.results135 fun B w0 ρ0 => ?_
 exact az0 hm⟩

def Mref1_Empty (r1 : Rng) : Bool :=
 bnd (Mref1_Valid r1) fun y2 =>
 sel (!y2) (
  true) (
  bnd (Mref1_Compare r1.lo r1.hi) fun y3 =>
  decide (y3 = 0))
instance Mref1_Empty_sp {r1} : SpT (Mref1_Empty r1) fun y => Sp 71 [.a (Rng.vs r1)] [] (vB y) [] := ⟨fun hm => by
 refine si Tryz.func71 Tryz.ntmps71 Tryz.results71 fun B w0 ρ0 => ?_
 exact az0 hm⟩

structure TTape where
  l : List Int
  at_ : Int
  deriving DecidableEq
def TTape.ds (x : TTape) : List D := [lst dsI x.l, dI x.at_]
instance : Len TTape.ds 2 := ⟨fun _ => rfl⟩
abbrev TTape.vs (x : TTape) : List V := [.d (lst dsI x.l), vI x.at_]
def Mwld_New (l1 : List Int) : Option TTape :=
 sel (decide (600 < (l1.length : Int))) (
  obnd (lsl l1 0 600) fun l2 =>
  some (TTape.mk l2 0)) (
  some (TTape.mk l1 0))
instance Mwld_New_sp {l1} : SpO (Mwld_New l1) fun y => Sp 11 [.d (lst dsI l1)] [] (.p 1 0) ([(1, some (.box 126 [.d (lst dsI y.l), vI y.at_]))]) := ⟨fun hm => by
 refine si Tryz.func11 Tryz.ntmps11 Tryz.results11 fun B w0 ρ0 => ?_
 refine co hm (fun hm => ?_) fun hm => ?_
 ·refine bo hm fun l2 hm => ?_
  exact em00 [(1, 110)] hm
 exact em00 [(1, 110)] hm⟩

def Mwld_Mod (v1 : Int) (n2 : Int) : Option Int :=
 obnd (irem v1 n2) fun q3 =>
 sel (decide (q3 < 0)) (
  some (i64w (q3 + n2))) (
  some q3)
instance Mwld_Mod_sp {v1} {n2} : SpO (Mwld_Mod v1 n2) fun y => Sp 73 [vI v1, vI n2] [] (vI y) [] := ⟨fun hm => by
 refine si Tryz.func73 Tryz.ntmps73 Tryz.results73 fun B w0 ρ0 => ?_
 exact az0 hm⟩

def Mwld_Tape_Next (t1 : TTape) (n2 : Int) : Option (Int × TTape) :=
 obnd (
  sel (decide (n2 < 1)) (
   some true) (
   some (decide ((t1.l.length : Int) ≤ t1.at_))) : Option Bool) fun x3 =>
 sel x3 (
  some (0, t1)) (
  obnd (lget t1.l (i64w ((i64w (t1.at_ + 1)) - 1))) fun e4 =>
  obnd (Mwld_Mod e4 n2) fun y5 =>
  some (y5, (TTape.mk t1.l (i64w (t1.at_ + 1)))))
instance Mwld_Tape_Next_sp {t1} {n2} : SpO (Mwld_Tape_Next t1 n2) fun y => Sp 20 [.p 0 0, vI n2] [(0, some (.box 126 [.d (lst dsI t1.l), vI t1.at_]))] (vI y.1) ([(0, some (.box 126 [.d (lst dsI y.2.l), vI y.2.at_]))]) := ⟨fun hm => by
 refine si Tryz.func20 Tryz.ntmps20 Tryz.results20 fun B w0 ρ0 => ?_
 refine sr ?_
 refine wc_seq ?_
 refine wc_seq ?_
 refine jo1 hm [0, 1] [0] (fun x3 => [(18, vB x3)]) (fun _ hm hm1 => ?_) (fun x3 hm => ?_)
 ·refine wc_draw (id := 1) [⟨0, 0, [1]⟩, ⟨1, 1, [5]⟩, ⟨2, 3, [6]⟩, ⟨3, 7, [0, 7]⟩, ⟨4, 15, [7, 8]⟩, ⟨5, 31, [7, 9]⟩, ⟨6, 63, [7, 10]⟩, ⟨7, 7, [0, 7]⟩, ⟨8, 135, [7, 12]⟩, ⟨9, 391, [7, 13]⟩, ⟨10, 903, [7, 14]⟩, ⟨11, 1927, [7, 15]⟩, ⟨12, 4095, [7, 11, 16]⟩, ⟨13, 8191, [7, 17]⟩] mixed (by kernel_rfl) ?_
  exact az1 hm hm1
 refine co hm (fun hm => ?_) fun hm => ?_
 ·exact en00 hm
 refine sx ?_
 refine sr ?_
 refine wl_r (o_add rfl rfl rfl rfl) rfl rfl rfl ?_
 refine ss ?_
 refine wc_seq ?_
 refine wc_draw (id := 4) [⟨0, 0, [0]⟩, ⟨1, 1, [26]⟩, ⟨2, 3, [27]⟩, ⟨3, 7, [28]⟩, ⟨4, 0, [0]⟩, ⟨5, 16, [30]⟩, ⟨6, 48, [31]⟩, ⟨7, 112, [32]⟩, ⟨8, 240, [33]⟩, ⟨9, 511, [29, 34]⟩, ⟨10, 1023, [35]⟩, ⟨11, 0, [1]⟩, ⟨12, 4095, [36, 37]⟩, ⟨13, 8191, [38]⟩] mixed (by kernel_rfl) ?_
 exact az0 hm⟩

def Mwld_Tape_Bool (t1 : TTape) (n2 : Int) : Option (Bool × TTape) :=
 obnd (Mwld_Tape_Next t1 n2) fun y3 =>
 some (decide (y3.1 = i64w (n2 - 1)), y3.2)
instance Mwld_Tape_Bool_sp {t1} {n2} : SpO (Mwld_Tape_Bool t1 n2) fun y => Sp 14 [.p 0 0, vI n2] [(0, some (.box 126 [.d (lst dsI t1.l), vI t1.at_]))] (vB y.1) ([(0, some (.box 126 [.d (lst dsI y.2.l), vI y.2.at_]))]) := ⟨fun hm => by
 refine si Tryz.func14 Tryz.ntmps14 Tryz.results14 fun B w0 ρ0 => ?_
 exact az0 hm⟩

def Mwld_Tape_Pick (t1 : TTape) (l2 : List Int) : Option (Int × TTape) :=
 obnd (Mwld_Tape_Next t1 (l2.length : Int)) fun y3 =>
 obnd (lget l2 y3.1) fun e4 =>
 some (e4, y3.2)
instance Mwld_Tape_Pick_sp {t1} {l2} : SpO (Mwld_Tape_Pick t1 l2) fun y => Sp 74 [.p 0 0, .d (lst dsI l2)] [(0, some (.box 126 [.d (lst dsI t1.l), vI t1.at_]))] (vI y.1) ([(0, some (.box 126 [.d (lst dsI y.2.l), vI y.2.at_]))]) := ⟨fun hm => by
 refine si Tryz.func74 Tryz.ntmps74 Tryz.results74 fun B w0 ρ0 => ?_
 exact az0 hm⟩

def Mwld_long_l1 (s1 : ByteArray) (n2 : Int) : Nat → ByteArray → Int → Option ByteArray
  | 0, _, _ => none
  | fuel + 1, out3, i4 =>
  sel (decide (i4 < n2)) (
   obnd (scat out3 s1) fun s5 =>
   Mwld_long_l1 s1 n2 fuel s5 (i64w (i4 + 1))) (
   some out3)
def Mwld_long (s1 : ByteArray) (n2 : Int) : Option ByteArray :=
 obnd (
  Mwld_long_l1 s1 n2 FU ⟨#[]⟩ 0 : Option ByteArray) fun out6 =>
 some out6
instance Mwld_long_sp {s1} {n2} : SpO (Mwld_long s1 n2) fun y => Sp 128 [vS s1, vI n2] [] (vS y) [] := ⟨fun hm => by
 refine si Tryz.func128 Tryz.ntmps128 Tryz.results128 fun B w0 ρ0 => ?_
 refine sr ?_
 refine sr ?_
 refine sr ?_
 refine jo1 hm [] [] (fun out6 => [(5, vS out6)]) (fun _ hm hm1 => ?_) (fun out6 hm => ?_)
 ·refine wc_block ?_
  refine lf2 hm1 [0, 1] [] (fun out3 i4 => [(5, vS out3), (6, vI i4)]) (fun κ out3 i4 hm1 => ?_)
  refine co hm1 (fun hm1 => ?_) fun hm1 => ?_
  ·refine bo hm1 fun s5 hm1 => ?_
   refine sr ?_
   refine wl_r (o_add rfl rfl rfl rfl) rfl rfl rfl ?_
   refine ss ?_
   exact eb1 hm hm1
  exact en11 hm hm1
 exact en00 hm⟩

def Mwld_Tape_Key_l1 : Nat → List Int → Int → ByteArray → Int → Option (ByteArray × List Int × Int)
  | 0, _, _, _, _ => none
  | fuel + 1, x7, x8, out9, i10 =>
  obnd (
   sel (decide (0 < i10)) (
    some (Ctl.nxt ())) (
    some (Ctl.ret (out9, x7, x8))) : Option (Ctl (ByteArray × List Int × Int) Unit)) fun mu => ocbnd mu fun (_ : Unit) =>
  obnd (Mwld_Tape_Next (TTape.mk x7 x8) 6) fun y11 =>
  obnd (letg y11.1) fun s12 =>
  obnd (scat out9 s12) fun s13 =>
  Mwld_Tape_Key_l1 fuel y11.2.l y11.2.at_ s13 (i64w (i10 - 1))
def Mwld_Tape_Key (t1 : TTape) : Option (ByteArray × TTape) :=
 obnd (Mwld_Tape_Next t1 12) fun y2 =>
 sel (decide (y2.1 = 10)) (
  obnd (Mwld_Tape_Next y2.2 6) fun y3 =>
  obnd (letg y3.1) fun s4 =>
  obnd (Mwld_long s4 64) fun y5 =>
  some (y5, y3.2)) (
  sel (decide (y2.1 = 11)) (
   some (⟨#[]⟩, y2.2)) (
   obnd (Mwld_Tape_Next y2.2 3) fun y6 =>
   obnd (
    Mwld_Tape_Key_l1 FU y6.2.l y6.2.at_ ⟨#[]⟩ (i64w (1 + y6.1)) : Option (ByteArray × List Int × Int)) fun (out14, x15, x16) =>
   some (out14, (TTape.mk x15 x16))))
instance Mwld_Tape_Key_sp {t1} : SpO (Mwld_Tape_Key t1) fun y => Sp 64 [.p 0 0] [(0, some (.box 126 [.d (lst dsI t1.l), vI t1.at_]))] (vS y.1) ([(0, some (.box 126 [.d (lst dsI y.2.l), vI y.2.at_]))]) := ⟨fun hm => by
 refine si Tryz.func64 Tryz.ntmps64 Tryz.results64 fun B w0 ρ0 => ?_
 refine bo hm fun y2 hm => ?_
 refine co hm (fun hm => ?_) fun hm => ?_
 ·exact az0 hm
 refine co hm (fun hm => ?_) fun hm => ?_
 ·exact en00 hm
 refine bo hm fun y6 hm => ?_
 refine ss ?_
 refine wl_r (o_add rfl rfl rfl rfl) rfl rfl rfl ?_
 refine ss ?_
 refine jo3 hm [] [] (fun out14 x15 x16 => [(3, vS out14)]) (fun _ hm hm1 => ?_) (fun out14 x15 x16 hm => ?_) (B := (fun out14 x15 x16 => [(0, some (.box 126 [.d (lst dsI x15), vI x16]))]))
 ·refine wc_block ?_
  refine lf4 hm1 [0] [] (fun x7 x8 out9 i10 => [(3, vS out9), (4, vI i10)]) (fun κ x7 x8 out9 i10 hm1 => ?_) (B := (fun x7 x8 out9 i10 => [(0, some (.box 126 [.d (lst dsI x7), vI x8]))]))
  refine sr ?_
  refine jc0 hm1 [0, 3, 4] [0] [] (fun _ hm1 hm2 => ?_) (fun hm1 => ?_)
  ·exact az2 hm hm1 hm2
  refine bo hm1 fun y11 hm1 => ?_
  refine bo hm1 fun s12 hm1 => ?_
  refine bo hm1 fun s13 hm1 => ?_
  exact eb1 hm hm1
 exact en00 hm⟩

def Mwld_Tape_OddKey (t1 : TTape) : Option (ByteArray × TTape) :=
 obnd (Mwld_Tape_Bool t1 10) fun y2 =>
 sel y2.1 (
  obnd (Mwld_Tape_Next y2.2 6) fun y3 =>
  obnd (letg y3.1) fun s4 =>
  obnd (Mwld_long s4 65) fun y5 =>
  some (y5, y3.2)) (
  obnd (Mwld_Tape_Key y2.2) fun y6 =>
  some (y6.1, y6.2))
instance Mwld_Tape_OddKey_sp {t1} : SpO (Mwld_Tape_OddKey t1) fun y => Sp 63 [.p 0 0] [(0, some (.box 126 [.d (lst dsI t1.l), vI t1.at_]))] (vS y.1) ([(0, some (.box 126 [.d (lst dsI y.2.l), vI y.2.at_]))]) := ⟨fun hm => by
 refine si Tryz.func63 Tryz.ntmps63 Tryz.results63 fun B w0 ρ0 => ?_
 exact az0 hm⟩

def Mwld_Tape_Bound (t1 : TTape) : Option (Bnd × TTape) :=
 obnd (Mwld_Tape_Next t1 9) fun y2 =>
 sel (decide (y2.1 = 7)) (
  some ((Bnd.mk ⟨#[]⟩ true), y2.2)) (
  sel (decide (y2.1 = 8)) (
   obnd (Mwld_Tape_OddKey y2.2) fun y3 =>
   obnd (Mwld_Tape_Bool y3.2 3) fun y4 =>
   some ((Bnd.mk y3.1 y4.1), y4.2)) (
   obnd (Mwld_Tape_Key y2.2) fun y5 =>
   some ((Bnd.mk y5.1 false), y5.2)))
instance Mwld_Tape_Bound_sp {t1} : SpO (Mwld_Tape_Bound t1) fun y => Sp 15 [.p 0 0] [(0, some (.box 126 [.d (lst dsI t1.l), vI t1.at_]))] (.a [vS y.1.key, vB y.1.top]) ([(0, some (.box 126 [.d (lst dsI y.2.l), vI y.2.at_]))]) := ⟨fun hm => by
 refine si Tryz.func15 Tryz.ntmps15 Tryz.results15 fun B w0 ρ0 => ?_
 exact az0 hm⟩

def Mwld_Tape_Range (t1 : TTape) : Option (Rng × TTape) :=
 obnd (Mwld_Tape_Bound t1) fun y2 =>
 obnd (Mwld_Tape_Bound y2.2) fun y3 =>
 obnd (Mwld_Tape_Bool y3.2 6) fun y4 =>
 sel (!y4.1) (
  sel y2.1.top (
   some ((Rng.mk y3.1 y2.1), y4.2)) (
   sel (!y3.1.top) (
    sel (bl y3.1.key y2.1.key) (
     some ((Rng.mk y3.1 y2.1), y4.2)) (
     some ((Rng.mk y2.1 y3.1), y4.2))) (
    some ((Rng.mk y2.1 y3.1), y4.2)))) (
  some ((Rng.mk y2.1 y3.1), y4.2))
instance Mwld_Tape_Range_sp {t1} : SpO (Mwld_Tape_Range t1) fun y => Sp 60 [.p 0 0] [(0, some (.box 126 [.d (lst dsI t1.l), vI t1.at_]))] (.a (Rng.vs y.1)) ([(0, some (.box 126 [.d (lst dsI y.2.l), vI y.2.at_]))]) := ⟨fun hm => by
 refine si Tryz.func60 Tryz.ntmps60 Tryz.results60 fun B w0 ρ0 => ?_
 refine bo hm fun y2 hm => ?_
 refine bo hm fun y3 hm => ?_
 refine bo hm fun y4 hm => ?_
 refine co hm (fun hm => ?_) fun hm => ?_
 ·refine co hm (fun hm => ?_) fun hm => ?_
  ·refine ss ?_
   refine wc_cond_t rfl ?_
   exact en00 hm
  refine co hm (fun hm => ?_) fun hm => ?_
  ·exact az0 hm
  refine ss ?_
  refine wc_cond_f rfl ?_
  exact en00 hm
 refine ss ?_
 refine wc_cond_f rfl ?_
 exact en00 hm⟩

def Mwld_Tape_Proper (t1 : TTape) : Option (Rng × TTape) :=
 obnd (Mwld_Tape_Range t1) fun y2 =>
 bnd (Mref1_Empty y2.1) fun y3 =>
 sel y3 (
  some ((Rng.mk (Bnd.mk ⟨#[98]⟩ false) (Bnd.mk ⟨#[]⟩ true)), y2.2)) (
  some (y2.1, y2.2))
instance Mwld_Tape_Proper_sp {t1} : SpO (Mwld_Tape_Proper t1) fun y => Sp 48 [.p 0 0] [(0, some (.box 126 [.d (lst dsI t1.l), vI t1.at_]))] (.a (Rng.vs y.1)) ([(0, some (.box 126 [.d (lst dsI y.2.l), vI y.2.at_]))]) := ⟨fun hm => by
 refine si Tryz.func48 Tryz.ntmps48 Tryz.results48 fun B w0 ρ0 => ?_
 exact az0 hm⟩

structure TQuery where
  Kind : Int
  Ranges : List Rng
  Key : ByteArray
  Count : Int
  deriving DecidableEq
def TQuery.ds (x : TQuery) : List D := [dI x.Kind, lst Rng.ds x.Ranges, dS x.Key, dI x.Count]
instance : Len TQuery.ds 4 := ⟨fun _ => rfl⟩
abbrev TQuery.vs (x : TQuery) : List V := [vI x.Kind, .d (lst Rng.ds x.Ranges), vS x.Key, vI x.Count]
def Mwld_Tape_Query_l1 : Nat → List Int → Int → List Rng → Int → Option (List Rng × List Int × Int)
  | 0, _, _, _, _ => none
  | fuel + 1, x4, x5, q6, i7 =>
  obnd (
   sel (decide (0 ≤ i7)) (
    some (Ctl.nxt ())) (
    some (Ctl.ret (q6, x4, x5))) : Option (Ctl (List Rng × List Int × Int) Unit)) fun mu => ocbnd mu fun (_ : Unit) =>
  obnd (Mwld_Tape_Proper (TTape.mk x4 x5)) fun y8 =>
  obnd (app q6 ([y8.1] : List Rng)) fun l9 =>
  Mwld_Tape_Query_l1 fuel y8.2.l y8.2.at_ l9 (i64w (i7 - 1))
def Mwld_Tape_Query (t1 : TTape) : Option (TQuery × TTape) :=
 obnd (Mwld_Tape_Next t1 4) fun y2 =>
 obnd (
  sel (decide (i64w (1 + y2.1) = 1)) (
   obnd (Mwld_Tape_Next y2.2 4) fun y3 =>
   obnd (
    Mwld_Tape_Query_l1 FU y3.2.l y3.2.at_ [] y3.1 : Option (List Rng × List Int × Int)) fun (q10, x11, x12) =>
   some (q10, ⟨#[]⟩, 0, x11, x12)) (
   sel (decide (i64w (1 + y2.1) = 2)) (
    obnd (Mwld_Tape_Key y2.2) fun y13 =>
    some ([], y13.1, 0, y13.2.l, y13.2.at_)) (
    obnd (Mwld_Tape_Key y2.2) fun y14 =>
    obnd (Mwld_Tape_Pick y14.2 ([1, 2, 3, 5, 1024] : List Int)) fun y15 =>
    some ([], y14.1, y15.1, y15.2.l, y15.2.at_))) : Option (List Rng × ByteArray × Int × List Int × Int)) fun (q16, q17, q18, x19, x20) =>
 some ((TQuery.mk (i64w (1 + y2.1)) q16 q17 q18), (TTape.mk x19 x20))
instance Mwld_Tape_Query_sp {t1} : SpO (Mwld_Tape_Query t1) fun y => Sp 21 [.p 0 0] [(0, some (.box 126 [.d (lst dsI t1.l), vI t1.at_]))] (.a (TQuery.vs y.1)) ([(0, some (.box 126 [.d (lst dsI y.2.l), vI y.2.at_]))]) := ⟨fun hm => by
 refine si Tryz.func21 Tryz.ntmps21 Tryz.results21 fun B w0 ρ0 => ?_
 refine bo hm fun y2 hm => ?_
 refine ss ?_
 refine wl_r (o_add rfl rfl rfl rfl) rfl rfl rfl ?_
 refine sr ?_
 refine jo5 hm [2, 3] [102] (fun q16 q17 q18 x19 x20 => []) (fun _ hm hm1 => ?_) (fun q16 q17 q18 x19 x20 hm => ?_) (B := (fun q16 q17 q18 x19 x20 => [(0, some (.box 126 [.d (lst dsI x19), vI x20])), (103, some (.box 41 (TQuery.vs (TQuery.mk (i64w (1 + y2.1)) q16 q17 q18))))]))
 ·refine co hm1 (fun hm1 => ?_) fun hm1 => ?_
  ·refine bo hm1 fun y3 hm1 => ?_
   refine ss ?_
   refine jo3 hm1 [2, 3] [102] (fun q10 x11 x12 => []) (fun _ hm1 hm2 => ?_) (fun q10 x11 x12 hm1 => ?_) (B := (fun q10 x11 x12 => [(0, some (.box 126 [.d (lst dsI x11), vI x12])), (103, some (.box 41 (TQuery.vs (TQuery.mk (i64w (1 + y2.1)) q10 ⟨#[]⟩ 0))))]))
   ·refine wc_block ?_
    refine wc_wk (wk_nilb 103 1 5001 60 4 rfl rfl rfl rfl) ?_
    refine lf4 hm2 [0, 2, 3] [102] (fun x4 x5 q6 i7 => [(4, vI i7)]) (fun κ x4 x5 q6 i7 hm2 => ?_) (B := (fun x4 x5 q6 i7 => [(0, some (.box 126 [.d (lst dsI x4), vI x5])), (103, some (.box 41 [vI (i64w (1 + y2.1)), .h 5001, vS ⟨#[]⟩, vI 0])), (5001, some (arrT 60 4 Rng.ds q6))]))
    refine sr ?_
    refine jc0 hm2 [0, 2, 3, 4] [0, 102, 103, 5001] [] (fun _ hm2 hm3 => ?_) (fun hm2 => ?_)
    ·exact az3 hm hm1 hm2 hm3
    refine ss ?_
    refine wc_seq ?_
    refine wc_block ?_
    refine wc_draw (id := 8) [⟨0, 0, [3]⟩, ⟨1, 1, [26]⟩, ⟨2, 0, [0]⟩, ⟨3, 4, [28]⟩, ⟨4, 12, [29]⟩, ⟨5, 31, [27, 30]⟩, ⟨6, 63, [3]⟩, ⟨7, 127, [31, 32]⟩] mixed (by kernel_rfl) ?_
    refine bo hm2 fun y8 hm2 => ?_
    refine ss ?_
    refine wd_bt Rng.ds [y8.1] rfl rfl (by simp only [flatV, cellsV, List.cons_append, List.nil_append, List.append_nil]; exact rfl) rfl rfl rfl rfl (by first | exact .no rfl | exact .y rfl rfl rfl rfl) rfl rfl ?_
    refine bo hm2 fun l9 hm2 => ?_
    exact ebm2 [(0, 0), (102, 102), (103, 103), (5001, 131)] hm hm1 hm2
   exact en11 hm hm1
  refine co hm1 (fun hm1 => ?_) fun hm1 => ?_
  ·exact az1 hm hm1
  refine bo hm1 fun y14 hm1 => ?_
  refine ss ?_
  refine wl_bt dsI [1, 2, 3, 5, 1024] rfl rfl (by simp only [flatV, cellsV, List.cons_append, List.nil_append, List.append_nil]; exact rfl) rfl rfl rfl rfl rfl rfl ?_
  exact az1 hm hm1
 exact en00 hm⟩

theorem Mwld_Tape_Query_so1 {t1 : TTape} {y : (TQuery × TTape)} (hm : Mwld_Tape_Query t1 = some y) : Spec Tryz.prog 21 [.p 0 0] [(0, some (.box 126 [.d (lst dsI t1.l), vI t1.at_]))] fun u h => u = .a [vI y.1.Kind, .h 1, vS y.1.Key, vI y.1.Count] ∧ h = [(0, some (.box 126 [.d (lst dsI y.2.l), vI y.2.at_])), (1, some (arrT 60 4 Rng.ds y.1.Ranges))] := by
 refine si Tryz.func21 Tryz.ntmps21 Tryz.results21 fun B w0 ρ0 => ?_
 refine bo hm fun y2 hm => ?_
 refine ss ?_
 refine wl_r (o_add rfl rfl rfl rfl) rfl rfl rfl ?_
 refine sr ?_
 refine jo5 hm [2, 3] [102] (fun q16 q17 q18 x19 x20 => []) (fun _ hm hm1 => ?_) (fun q16 q17 q18 x19 x20 hm => ?_) (B := (fun q16 q17 q18 x19 x20 => [(0, some (.box 126 [.d (lst dsI x19), vI x20])), (103, some (.box 41 [vI (i64w (1 + y2.1)), .h 5003, vS q17, vI q18])), (5003, some (arrT 60 4 Rng.ds q16))]))
 ·refine co hm1 (fun hm1 => ?_) fun hm1 => ?_
  ·refine bo hm1 fun y3 hm1 => ?_
   refine ss ?_
   refine jo3 hm1 [2, 3] [102] (fun q10 x11 x12 => []) (fun _ hm1 hm2 => ?_) (fun q10 x11 x12 hm1 => ?_) (B := (fun q10 x11 x12 => [(0, some (.box 126 [.d (lst dsI x11), vI x12])), (103, some (.box 41 [vI (i64w (1 + y2.1)), .h 5002, vS ⟨#[]⟩, vI 0])), (5002, some (arrT 60 4 Rng.ds q10))]))
   ·refine wc_block ?_
    refine wc_wk (wk_nilb 103 1 5001 60 4 rfl rfl rfl rfl) ?_
    refine lf4 hm2 [0, 2, 3] [102] (fun x4 x5 q6 i7 => [(4, vI i7)]) (fun κ x4 x5 q6 i7 hm2 => ?_) (B := (fun x4 x5 q6 i7 => [(0, some (.box 126 [.d (lst dsI x4), vI x5])), (103, some (.box 41 [vI (i64w (1 + y2.1)), .h 5001, vS ⟨#[]⟩, vI 0])), (5001, some (arrT 60 4 Rng.ds q6))]))
    refine sr ?_
    refine jc0 hm2 [0, 2, 3, 4] [0, 102, 103, 5001] [] (fun _ hm2 hm3 => ?_) (fun hm2 => ?_)
    ·refine co hm3 (fun hm3 => ?_) fun hm3 => ?_
     ·exact en33 hm hm1 hm2 hm3
     exact em32 [(0, 0), (102, 102), (103, 103), (5002, 5001)] hm hm1 hm2 hm3
    refine ss ?_
    refine wc_seq ?_
    refine wc_block ?_
    refine wc_draw (id := 8) [⟨0, 0, [3]⟩, ⟨1, 1, [26]⟩, ⟨2, 0, [0]⟩, ⟨3, 4, [28]⟩, ⟨4, 12, [29]⟩, ⟨5, 31, [27, 30]⟩, ⟨6, 63, [3]⟩, ⟨7, 127, [31, 32]⟩] mixed (by kernel_rfl) ?_
    refine bo hm2 fun y8 hm2 => ?_
    refine ss ?_
    refine wd_bt Rng.ds [y8.1] rfl rfl (by simp only [flatV, cellsV, List.cons_append, List.nil_append, List.append_nil]; exact rfl) rfl rfl rfl rfl (by first | exact .no rfl | exact .y rfl rfl rfl rfl) rfl rfl ?_
    refine bo hm2 fun l9 hm2 => ?_
    exact ebm2 [(0, 0), (102, 102), (103, 103), (5001, 131)] hm hm1 hm2
   exact em11 [(0, 0), (102, 102), (103, 103), (5003, 5002)] hm hm1
  refine co hm1 (fun hm1 => ?_) fun hm1 => ?_
  ·refine bo hm1 fun y13 hm1 => ?_
   refine ss ?_
   cases hm1
   refine WK.of_wk (wk_nilb 103 1 5003 60 4 rfl rfl rfl rfl) ?_
   exact wk_cutw [(0, 0), (102, 102), (103, 103), (5003, 5003)] ⟨_, _, _, _, _, rfl, rfl⟩
  refine bo hm1 fun y14 hm1 => ?_
  refine ss ?_
  refine wl_bt dsI [1, 2, 3, 5, 1024] rfl rfl (by simp only [flatV, cellsV, List.cons_append, List.nil_append, List.append_nil]; exact rfl) rfl rfl rfl rfl rfl rfl ?_
  refine bo hm1 fun y15 hm1 => ?_
  refine ss ?_
  cases hm1
  refine WK.of_wk (wk_nilb 103 1 5003 60 4 rfl rfl rfl rfl) ?_
  exact wk_cutw [(0, 0), (102, 102), (103, 103), (5003, 5003)] ⟨_, _, _, _, _, rfl, rfl⟩
 exact em00 [(0, 0), (1, 5003)] hm
def Mwld_Tape_OddQuery_l1 (y9 : (Int × TTape)) : Nat → List Rng → Option (List Rng)
  | 0, _ => none
  | fuel + 1, q10 =>
  sel (decide ((q10.length : Int) < y9.1)) (
   obnd (app q10 ([(Rng.mk (Bnd.mk ⟨#[]⟩ false) (Bnd.mk ⟨#[]⟩ false))] : List Rng)) fun l11 =>
   Mwld_Tape_OddQuery_l1 y9 fuel l11) (
   some q10)
def Mwld_Tape_OddQuery (t1 : TTape) : Option (TQuery × TTape) :=
 obnd (Mwld_Tape_Query t1) fun y2 =>
 obnd (Mwld_Tape_Next y2.2 6) fun y3 =>
 obnd (
  sel (decide (y3.1 = 0)) (
   obnd (Mwld_Tape_Pick y3.2 ([0, 5, (-1), 1, 2, 3, 4] : List Int)) fun y4 =>
   some (y4.1, y2.1.Ranges, y2.1.Key, y2.1.Count, y4.2.l, y4.2.at_)) (
   sel (decide (y3.1 = 1)) (
    obnd (Mwld_Tape_OddKey y3.2) fun y5 =>
    some (y2.1.Kind, y2.1.Ranges, y5.1, y2.1.Count, y5.2.l, y5.2.at_)) (
    sel (decide (y3.1 = 2)) (
     obnd (Mwld_Tape_Pick y3.2 ([0, (-1), 1024, 1025, 1] : List Int)) fun y6 =>
     some (y2.1.Kind, y2.1.Ranges, y2.1.Key, y6.1, y6.2.l, y6.2.at_)) (
     sel (decide (y3.1 = 3)) (
      obnd (Mwld_Tape_Range y3.2) fun y7 =>
      obnd (app y2.1.Ranges ([y7.1] : List Rng)) fun l8 =>
      some (y2.1.Kind, l8, y2.1.Key, y2.1.Count, y7.2.l, y7.2.at_)) (
      sel (decide (y3.1 = 4)) (
       obnd (Mwld_Tape_Pick y3.2 ([64, 65] : List Int)) fun y9 =>
       obnd (
        Mwld_Tape_OddQuery_l1 y9 FU y2.1.Ranges : Option (List Rng)) fun q12 =>
       some (y2.1.Kind, q12, y2.1.Key, y2.1.Count, y9.2.l, y9.2.at_)) (
       some (y2.1.Kind, y2.1.Ranges, y2.1.Key, y2.1.Count, y3.2.l, y3.2.at_)))))) : Option (Int × List Rng × ByteArray × Int × List Int × Int)) fun (q13, q14, q15, q16, x17, x18) =>
 some ((TQuery.mk q13 q14 q15 q16), (TTape.mk x17 x18))
instance Mwld_Tape_OddQuery_sp {t1} : SpO (Mwld_Tape_OddQuery t1) fun y => Sp 22 [.p 0 0] [(0, some (.box 126 [.d (lst dsI t1.l), vI t1.at_]))] (.a (TQuery.vs y.1)) ([(0, some (.box 126 [.d (lst dsI y.2.l), vI y.2.at_]))]) := ⟨fun hm => by
 refine si Tryz.func22 Tryz.ntmps22 Tryz.results22 fun B w0 ρ0 => ?_
 refine sr ?_
 refine sr ?_
 obtain ⟨y2, hy, hm⟩ := obnd_o hm
 refine wl_gen (u' := .a [vI y2.1.Kind, .h 200601, vS y2.1.Key, vI y2.1.Count]) (h' := [(0, some (.box 126 (TTape.vs y2.2))), (200601, some (arrT 60 4 Rng.ds y2.1.Ranges))]) (Mwld_Tape_Query_so1 (hm := hy)) 0 200600 rfl rfl rfl (by repeat (first | exact Vws.nil | apply Vws.cons | exact Vw.nil | exact Vw.d _ | exact Vw.q _ | exact Vw.p rfl | apply Vw.a)) rfl (Vb.box (by repeat (first | exact Vws.nil | apply Vws.cons | exact Vw.nil | exact Vw.d _ | exact Vw.q _ | exact Vw.p rfl | apply Vw.a))) rfl (by (try simp only [renH, Option.map_some, Blk.ren, rens_d]); rfl) rfl rfl rfl rfl ?_
 refine bo hm fun y3 hm => ?_
 refine ss ?_
 refine jo6 hm [2, 3] [102] (fun q13 q14 q15 q16 x17 x18 => []) (fun _ hm hm1 => ?_) (fun q13 q14 q15 q16 x17 x18 hm => ?_) (B := (fun q13 q14 q15 q16 x17 x18 => [(0, some (.box 126 [.d (lst dsI x17), vI x18])), (103, some (.box 41 (TQuery.vs (TQuery.mk q13 q14 q15 q16))))]))
 ·refine co hm1 (fun hm1 => ?_) fun hm1 => ?_
  ·refine sr ?_
   refine wl_bt dsI [0, 5, (-1), 1, 2, 3, 4] rfl rfl (by simp only [flatV, cellsV, List.cons_append, List.nil_append, List.append_nil]; exact rfl) rfl rfl rfl rfl rfl rfl ?_
   exact az1 hm hm1
  refine co hm1 (fun hm1 => ?_) fun hm1 => ?_
  ·exact az1 hm hm1
  refine co hm1 (fun hm1 => ?_) fun hm1 => ?_
  ·refine sr ?_
   refine wl_bt dsI [0, (-1), 1024, 1025, 1] rfl rfl (by simp only [flatV, cellsV, List.cons_append, List.nil_append, List.append_nil]; exact rfl) rfl rfl rfl rfl rfl rfl ?_
   exact az1 hm hm1
  refine co hm1 (fun hm1 => ?_) fun hm1 => ?_
  ·refine wc_draw (id := 10) [⟨0, 0, [3]⟩, ⟨1, 1, [28]⟩, ⟨2, 0, [0]⟩, ⟨3, 4, [30]⟩, ⟨4, 12, [31]⟩, ⟨5, 31, [29, 32]⟩, ⟨6, 63, [3]⟩, ⟨7, 127, [33, 34]⟩] mixed (by kernel_rfl) ?_
   refine bo hm1 fun y7 hm1 => ?_
   refine ss ?_
   refine wd_bt Rng.ds [y7.1] rfl rfl (by simp only [flatV, cellsV, List.cons_append, List.nil_append, List.append_nil]; exact rfl) rfl rfl rfl rfl (by first | exact .no rfl | exact .y rfl rfl rfl rfl) rfl rfl ?_
   exact az1 hm hm1
  refine co hm1 (fun hm1 => ?_) fun hm1 => ?_
  ·refine sr ?_
   refine wl_bt dsI [64, 65] rfl rfl (by simp only [flatV, cellsV, List.cons_append, List.nil_append, List.append_nil]; exact rfl) rfl rfl rfl rfl rfl rfl ?_
   refine bo hm1 fun y9 hm1 => ?_
   refine ss ?_
   refine jo1 hm1 [2, 3] [0, 102] (fun q12 => []) (fun _ hm1 hm2 => ?_) (fun q12 hm1 => ?_) (B := (fun q12 => [(103, some (.box 41 (TQuery.vs (TQuery.mk y2.1.Kind q12 y2.1.Key y2.1.Count))))]))
   ·refine wc_block ?_
    refine lf1 hm2 [2, 3, 4] [0, 102] (fun q10 => []) (fun κ q10 hm2 => ?_) (B := (fun q10 => [(103, some (.box 41 [vI y2.1.Kind, .h 5001, vS y2.1.Key, vI y2.1.Count])), (5001, some (arrT 60 4 Rng.ds q10))])) (f := [(0, 0), (102, 102), (103, 103), (5001, 200601)])
    refine co hm2 (fun hm2 => ?_) fun hm2 => ?_
    ·refine sx ?_
     refine sr ?_
     refine wl_bt Rng.ds [(Rng.mk (Bnd.mk ⟨#[]⟩ false) (Bnd.mk ⟨#[]⟩ false))] rfl rfl (by simp only [flatV, cellsV, List.cons_append, List.nil_append, List.append_nil]; exact rfl) rfl rfl rfl rfl rfl rfl ?_
     refine bo hm2 fun l11 hm2 => ?_
     exact ebm2 [(0, 0), (102, 102), (103, 103), (5001, 149)] hm hm1 hm2
    exact en22 hm hm1 hm2
   exact en11 hm hm1
  exact en11 hm hm1
 exact en00 hm⟩

def Mref20_Same_l1 (a1 : List Kv) (b2 : List Kv) : List Kv → Int → Option (Ctl Bool Unit)
  | [], i =>
  some (Ctl.nxt ())
  | r3 :: xs4, i =>
  obnd (lget a1 i) fun e6 =>
  obnd (lget b2 i) fun e7 =>
  sel (!(decide (e6.key = e7.key) && decide (e6.val = e7.val))) (
   some (Ctl.ret false)) (
   Mref20_Same_l1 a1 b2 xs4 (i + 1))
def Mref20_Same (a1 : List Kv) (b2 : List Kv) : Option Bool :=
 sel (!decide ((a1.length : Int) = (b2.length : Int))) (
  some false) (
  obnd (
   Mref20_Same_l1 a1 b2 a1 0 : Option (Ctl Bool Unit)) fun mu => ocbnd mu fun (_ : Unit) =>
  some true)
instance Mref20_Same_sp {a1} {b2} : SpO (Mref20_Same a1 b2) fun y => Sp 93 [.d (lst Kv.ds a1), .d (lst Kv.ds b2)] [] (vB y) [] := ⟨fun hm => by
 refine si Tryz.func93 Tryz.ntmps93 Tryz.results93 fun B w0 ρ0 => ?_
 refine co hm (fun hm => ?_) fun hm => ?_
 ·exact en00 hm
 refine sx ?_
 refine sr ?_
 refine jc0 hm [] [] [] (fun _ hm hm1 => ?_) (fun hm => ?_)
 ·refine wc_block ?_
  refine lru0 hm1 0 [0, 1, 12] [] (fun m5 => [(13, vI (m5 : Int))]) (fun hlenm5 m5 r3 hltm5 hxm5 hm1 => ?_) (fun m5 hm1 => ?_)
  ·refine sx ?_
   refine sr ?_
   refine wc_seq ?_
   refine wc_draw (id := 6) [⟨0, 0, [0]⟩, ⟨1, 0, [5]⟩, ⟨2, 3, [16, 17]⟩, ⟨3, 7, [18]⟩, ⟨4, 0, [1]⟩, ⟨5, 0, [5]⟩, ⟨6, 48, [20, 21]⟩, ⟨7, 112, [22]⟩, ⟨8, 255, [19, 23]⟩] mixed (by kernel_rfl) ?_
   refine ss ?_
   obtain ⟨e6, hy, hm1⟩ := obnd_o hm1
   refine wd_r [] (o_ixg (ys := [dS e6.key, dS e6.val]) hy rfl rfl rfl rfl) rfl (by first | exact .no rfl | exact .y rfl rfl rfl rfl) rfl rfl ?_
   refine ss ?_
   obtain ⟨e7, hy, hm1⟩ := obnd_o hm1
   refine wd_r [] (o_ixg (ys := [dS e7.key, dS e7.val]) hy rfl rfl rfl rfl) rfl (by first | exact .no rfl | exact .y rfl rfl rfl rfl) rfl rfl ?_
   refine co hm1 (fun hm1 => ?_) fun hm1 => ?_
   ·exact en10 hm hm1
   exact eb1 hm hm1
  exact en11 hm hm1
 exact en00 hm⟩

end Go.Proofs.YticecfoigpcflaaGreatDoor
