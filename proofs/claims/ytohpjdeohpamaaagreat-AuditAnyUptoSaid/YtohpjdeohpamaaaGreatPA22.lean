/-
  Lemmas: Models and walks
-/
import Derived.Test.YtohpjdeohpamaaaGreatPA18
import Derived.Test.YtohpjdeohpamaaaGreatPA19
set_option linter.unusedSimpArgs false
set_option linter.unusedVariables false
namespace Go.Proofs.YtohpjdeohpamaaaGreat
open Go.RowKit
set_option maxRecDepth 100000
set_option maxHeartbeats 4000000
attribute [local irreducible] WK WC WL Wk Rel OpD OpV WD WO sel bnd obnd app lget lsl sget ssl scat letg iquo irem Op.bytesLess
attribute [local irreducible] qchk qranges union
structure TStamp where
  Epoch : Int
  Version : Int
  deriving DecidableEq
def TStamp.ds (x : TStamp) : List D := [dI x.Epoch, dI x.Version]
instance : Len TStamp.ds 2 := ⟨fun _ => rfl⟩

structure TView where
  Owner : Int
  Interval : Rng
  Stamp : TStamp
  Rows : List Kv
  deriving DecidableEq
def TView.ds (x : TView) : List D := [dI x.Owner, dS x.Interval.lo.key, dB x.Interval.lo.top, dS x.Interval.hi.key, dB x.Interval.hi.top, dI x.Stamp.Epoch, dI x.Stamp.Version, lst Kv.ds x.Rows]
instance : Len TView.ds 8 := ⟨fun _ => rfl⟩

structure TVisit where
  View : TView
  Part : Rng
  deriving DecidableEq
def TVisit.ds (x : TVisit) : List D := [dI x.View.Owner, dS x.View.Interval.lo.key, dB x.View.Interval.lo.top, dS x.View.Interval.hi.key, dB x.View.Interval.hi.top, dI x.View.Stamp.Epoch, dI x.View.Stamp.Version, lst Kv.ds x.View.Rows, dS x.Part.lo.key, dB x.Part.lo.top, dS x.Part.hi.key, dB x.Part.hi.top]
instance : Len TVisit.ds 12 := ⟨fun _ => rfl⟩

structure TReceipt where
  Query : TQuery
  First : List TVisit
  Second : List TVisit
  deriving DecidableEq
def TReceipt.ds (x : TReceipt) : List D := [dI x.Query.Kind, lst Rng.ds x.Query.Ranges, dS x.Query.Key, dI x.Query.Count, lst TVisit.ds x.First, lst TVisit.ds x.Second]
instance : Len TReceipt.ds 6 := ⟨fun _ => rfl⟩

structure TWrite where
  Key : ByteArray
  Value : ByteArray
  Delete : Bool
  deriving DecidableEq
def TWrite.ds (x : TWrite) : List D := [dS x.Key, dS x.Value, dB x.Delete]
instance : Len TWrite.ds 3 := ⟨fun _ => rfl⟩

structure TRecord where
  Kind : Int
  Writes : List TWrite
  Key : ByteArray
  Value : ByteArray
  Has : Bool
  Query : Int
  Receipt : TReceipt
  deriving DecidableEq
def TRecord.ds (x : TRecord) : List D := [dI x.Kind, lst TWrite.ds x.Writes, dS x.Key, dS x.Value, dB x.Has, dI x.Query, dI x.Receipt.Query.Kind, lst Rng.ds x.Receipt.Query.Ranges, dS x.Receipt.Query.Key, dI x.Receipt.Query.Count, lst TVisit.ds x.Receipt.First, lst TVisit.ds x.Receipt.Second]
instance : Len TRecord.ds 12 := ⟨fun _ => rfl⟩

structure TWalk where
  Query : TQuery
  Todo : List Rng
  Visits : List TVisit
  deriving DecidableEq
def TWalk.ds (x : TWalk) : List D := [dI x.Query.Kind, lst Rng.ds x.Query.Ranges, dS x.Query.Key, dI x.Query.Count, lst Rng.ds x.Todo, lst TVisit.ds x.Visits]
instance : Len TWalk.ds 6 := ⟨fun _ => rfl⟩

def Mstamp_Valid (s1 : TStamp) : Bool :=
 sel (decide (0 ≤ s1.Epoch)) (
  sel (decide (s1.Epoch ≤ 1099511627776)) (
   sel (decide (0 ≤ s1.Version)) (
    decide (s1.Version ≤ 1099511627776)) (
    false)) (
   false)) (
  false)
theorem Mstamp_Valid_sp {s1 : TStamp} {y : Bool} (hm : Mstamp_Valid s1 = y) : Spec Tryz.prog 83 [.a [vI s1.Epoch, vI s1.Version]] [] fun u h => u = vB y ∧ h = [] := by
 refine si Tryz.func83 Tryz.ntmps83 Tryz.results83 fun B w0 ρ0 => ?_
 unfold Mstamp_Valid at hm
 refine sr ?_
 refine sr ?_
 refine wl_sg hm ?_ ?_ <;> clear hm <;> intro hm
 ·refine ss ?_
  refine wl_sg hm ?_ ?_ <;> clear hm <;> intro hm
  ·refine ss ?_
   refine wl_sg hm ?_ ?_ <;> clear hm <;> intro hm
   ·refine sx ?_
    subst hm
    exact wk_r
   refine sx ?_
   subst hm
   exact wk_r
  refine sx ?_
  subst hm
  exact wk_r
 refine sx ?_
 subst hm
 exact wk_r

def Mref23_Valid (s1 : TStamp) : Bool :=
 sel (decide (0 ≤ s1.Epoch)) (
  sel (decide (s1.Epoch ≤ 1099511627776)) (
   sel (decide (0 ≤ s1.Version)) (
    decide (s1.Version ≤ 1099511627776)) (
    false)) (
   false)) (
  false)
theorem Mref23_Valid_sp {s1 : TStamp} {y : Bool} (hm : Mref23_Valid s1 = y) : Spec Tryz.prog 90 [.a [vI s1.Epoch, vI s1.Version]] [] fun u h => u = vB y ∧ h = [] := by
 refine si Tryz.func90 Tryz.ntmps90 Tryz.results90 fun B w0 ρ0 => ?_
 unfold Mref23_Valid at hm
 refine sr ?_
 refine sr ?_
 refine wl_sg hm ?_ ?_ <;> clear hm <;> intro hm
 ·refine ss ?_
  refine wl_sg hm ?_ ?_ <;> clear hm <;> intro hm
  ·refine ss ?_
   refine wl_sg hm ?_ ?_ <;> clear hm <;> intro hm
   ·refine sx ?_
    subst hm
    exact wk_r
   refine sx ?_
   subst hm
   exact wk_r
  refine sx ?_
  subst hm
  exact wk_r
 refine sx ?_
 subst hm
 exact wk_r

def Mref24_Number (n1 : Int) : Bool :=
 sel (decide (1 ≤ n1)) (
  decide (n1 ≤ 2147483647)) (
  false)
theorem Mref24_Number_sp {n1 : Int} {y : Bool} (hm : Mref24_Number n1 = y) : Spec Tryz.prog 89 [vI n1] [] fun u h => u = vB y ∧ h = [] := by
 refine si Tryz.func89 Tryz.ntmps89 Tryz.results89 fun B w0 ρ0 => ?_
 unfold Mref24_Number at hm
 refine sr ?_
 refine sr ?_
 refine wl_sg hm ?_ ?_ <;> clear hm <;> intro hm
 ·refine sx ?_
  subst hm
  exact wk_r
 refine sx ?_
 subst hm
 exact wk_r

def Mref24_SameRange (a1 : Rng) (b2 : Rng) : Bool :=
 bnd (Mref1_Compare a1.lo b2.lo) fun y3 =>
 sel (decide (y3 = 0)) (
  bnd (Mref1_Compare a1.hi b2.hi) fun y4 =>
  decide (y4 = 0)) (
  false)
theorem Mref24_SameRange_sp {a1 : Rng} {b2 : Rng} {y : Bool} (hm : Mref24_SameRange a1 b2 = y) : Spec Tryz.prog 94 [.a [vS a1.lo.key, vB a1.lo.top, vS a1.hi.key, vB a1.hi.top], .a [vS b2.lo.key, vB b2.lo.top, vS b2.hi.key, vB b2.hi.top]] [] fun u h => u = vB y ∧ h = [] := by
 refine si Tryz.func94 Tryz.ntmps94 Tryz.results94 fun B w0 ρ0 => ?_
 unfold Mref24_SameRange at hm
 refine sr ?_
 refine sr ?_
 obtain ⟨y3, hy, hm⟩ := bnd_o hm
 refine wl_cq (Mref1_Compare_sp (hm := hy)) ?_
 refine ss ?_
 refine wl_sg hm ?_ ?_ <;> clear hm <;> intro hm
 ·refine ss ?_
  obtain ⟨y4, hy, hm⟩ := bnd_o hm
  refine wl_cq (Mref1_Compare_sp (hm := hy)) ?_
  refine sx ?_
  subst hm
  exact wk_r
 refine sx ?_
 subst hm
 exact wk_r

def Mref20_Within_l1 (r2 : Rng) : List Kv → Ctl Bool Unit
  | [] =>
  Ctl.nxt ()
  | r3 :: xs4 =>
  bnd (Mref1_Contains r2 r3.key) fun y6 =>
  sel (!y6) (
   Ctl.ret false) (
   Mref20_Within_l1 r2 xs4)
def Mref20_Within (t1 : List Kv) (r2 : Rng) : Bool :=
 bnd (
  Mref20_Within_l1 r2 t1 : Ctl Bool Unit) fun mu => cbnd mu fun (_ : Unit) =>
 true
theorem Mref20_Within_sp {t1 : List Kv} {r2 : Rng} {y : Bool} (hm : Mref20_Within t1 r2 = y) : Spec Tryz.prog 70 [.d (lst Kv.ds t1), .a [vS r2.lo.key, vB r2.lo.top, vS r2.hi.key, vB r2.hi.top]] [] fun u h => u = vB y ∧ h = [] := by
 refine si Tryz.func70 Tryz.ntmps70 Tryz.results70 fun B w0 ρ0 => ?_
 unfold Mref20_Within at hm
 refine sr ?_
 refine sr ?_
 obtain ⟨mu1, hm1, hm⟩ := bnd_o hm
 refine wc_cut' (fun st => mu1 = Ctl.nxt () ∧ st = ⟨[], []⟩) ?_ ?_
 ·refine wc_block ?_
  refine wc_len 7 rfl (fun hlenm5 => ?_)
  refine wc_loopw (fun κ st => ∃ (m5 : Nat) , κ = t1.length - m5 ∧ m5 ≤ t1.length ∧ Mref20_Within_l1 r2 (t1.drop m5) = mu1 ∧ st = ⟨[(3, .p 103 0), (7, .d (lst Kv.ds t1)), (8, vI (t1.length : Int)), (9, vI (m5 : Int))], [(103, some (.box 42 [vS r2.lo.key, vB r2.lo.top, vS r2.hi.key, vB r2.hi.top]))]⟩) [(103, 103)] ⟨0, rfl, Nat.zero_le _, hm1, rfl⟩ ?_
  rintro κ _ ⟨m5, rfl, hlem5, hm1, rfl⟩
  rcases Nat.lt_or_ge m5 t1.length with hltm5 | hgem5
  ·obtain ⟨r3, hxm5, hdr⟩ := drop_c hltm5
   rw [hdr, Mref20_Within_l1.eq_2] at hm1
   refine sr ?_
   refine wc_seq ?_
   refine wc_cond_tt (lt_t hltm5) rfl ?_
   refine sx ?_
   refine sr ?_
   refine wl_r (o_ixm (ys := [dS r3.key, dS r3.val]) hxm5 rfl rfl rfl rfl) rfl rfl rfl ?_
   refine sr ?_
   obtain ⟨y6, hy, hm1⟩ := bnd_o hm1
   refine wl_cq (Mref1_Contains_sp (hm := hy)) ?_
   refine ss ?_
   refine wc_cs hm1 ?_ ?_ <;> clear hm1 <;> intro hm1
   ·refine sr ?_
    refine sx ?_
    subst hm1
    replace hm := cbnd_r hm
    subst hm
    exact wk_r
   refine sx ?_
   refine sr ?_
   refine wl_r (o_inc hltm5 hlenm5 rfl rfl rfl) rfl rfl rfl ?_
   refine ss ?_
   exact wk_loopw [(103, 103)] ⟨m5 + 1, rfl, hltm5, hm1, rfl⟩ (by omega)
  ·rw [drop_n hgem5, Mref20_Within_l1.eq_1] at hm1
   refine sr ?_
   refine wc_seq ?_
   refine wc_cond_ff (lt_f hgem5) rfl ?_
   refine wc_exit ?_
   refine ss ?_
   subst hm1
   exact wk_cutw [] ⟨rfl, rfl⟩
 rintro _ ⟨rfl, rfl⟩
 replace hm := cbnd_n hm
 refine sr ?_
 refine sx ?_
 subst hm
 exact wk_r

end Go.Proofs.YtohpjdeohpamaaaGreat
