/-
  Lemmas: Models and walks
-/
import Derived.Test.YticecfoigpcflaaGreatDoorPT18
import Derived.Test.YticecfoigpcflaaGreatDoorPT22
import Derived.Test.YticecfoigpcflaaGreatDoorPT21
set_option linter.unusedSimpArgs false
set_option linter.unusedVariables false
namespace Go.Proofs.YticecfoigpcflaaGreatDoor
open Go.RowKit
set_option maxRecDepth 100000
set_option maxHeartbeats 4000000
attribute [local irreducible] WK WC WL Wk Rel OpD OpV WD WO sel bnd obnd app lget lsl sget ssl scat letg iquo irem Op.bytesLess
attribute [local irreducible] qchk qranges union
theorem run_eqt62 {w : World} {n : Nat} (a0 b0 : Int) (a1 b1 : Int) : (Op.equalIn (n + 2) 62 (.agg #[.int .i64 a0, .int .i64 a1]) (.agg #[.int .i64 b0, .int .i64 b1])).run Tryz.prog w = .ok (decide (a0 = b0) && decide (a1 = b1)) w := by
  rw [show n + 2 = (n + 1) + 1 from rfl, run_equalIn_struct (P := Tryz.prog) w (n + 1) 62 _ _ (by kernel_rfl) (by kernel_rfl), show (Tryz.prog.fieldsOf 62).toList = [⟨"Epoch", 3, 0, false, "", "", 0⟩, ⟨"Version", 3, 1, false, "", "", 8⟩] from by kernel_rfl]
  simp [Op.eqFields, part, Result.andThen, eqt_if, ba_eqE, run_agg (T := 3) (inferInstance : Ty Tryz.prog 3 _ _), run_size (T := 3) (inferInstance : Ty Tryz.prog 3 _ _), run_equalIn_int (P := Tryz.prog) _ _ 3 .i64 .i64 _ _ (by kernel_rfl)]
  all_goals ((repeat' split) <;> simp_all)
instance eqs62 (a0 b0 : Int) (a1 b1 : Int) : Eqs Tryz.prog 62 [.int .i64 a0, .int .i64 a1] [.int .i64 b0, .int .i64 b1] (decide (a0 = b0) && decide (a1 = b1)) := ⟨by kernel_rfl, fun w => run_eqt62 (n := 9998) a0 b0 a1 b1⟩
def Mref28_SameVisit (a1 : TVisit) (b2 : TVisit) : Option Bool :=
 sel (decide (a1.View.Owner = b2.View.Owner)) (
  sel (decide (a1.View.Stamp.Epoch = b2.View.Stamp.Epoch) && decide (a1.View.Stamp.Version = b2.View.Stamp.Version)) (
   bnd (Mref24_SameRange a1.View.Interval b2.View.Interval) fun y3 =>
   sel y3 (
    bnd (Mref24_SameRange a1.Part b2.Part) fun y4 =>
    sel y4 (
     obnd (Mref20_Same a1.View.Rows b2.View.Rows) fun y5 =>
     some y5) (
     some false)) (
    some false)) (
   some false)) (
  some false)
instance Mref28_SameVisit_sp {a1} {b2} : SpO (Mref28_SameVisit a1 b2) fun y => Sp 156 [.a (TVisit.vs a1), .a (TVisit.vs b2)] [] (vB y) [] := ⟨fun hm => by
 refine si Tryz.func156 Tryz.ntmps156 Tryz.results156 fun B w0 ρ0 => ?_
 exact az0 hm⟩

def Mref28_SameVisits_l1 (a1 : List TVisit) (b2 : List TVisit) : List TVisit → Int → Option (Ctl Bool Unit)
  | [], i =>
  some (Ctl.nxt ())
  | r3 :: xs4, i =>
  obnd (lget a1 i) fun e6 =>
  obnd (lget b2 i) fun e7 =>
  obnd (Mref28_SameVisit e6 e7) fun y8 =>
  sel (!y8) (
   some (Ctl.ret false)) (
   Mref28_SameVisits_l1 a1 b2 xs4 (i + 1))
def Mref28_SameVisits (a1 : List TVisit) (b2 : List TVisit) : Option Bool :=
 sel (!decide ((a1.length : Int) = (b2.length : Int))) (
  some false) (
  obnd (
   Mref28_SameVisits_l1 a1 b2 a1 0 : Option (Ctl Bool Unit)) fun mu => ocbnd mu fun (_ : Unit) =>
  some true)
instance Mref28_SameVisits_sp {a1} {b2} : SpO (Mref28_SameVisits a1 b2) fun y => Sp 91 [.d (lst TVisit.ds a1), .d (lst TVisit.ds b2)] [] (vB y) [] := ⟨fun hm => by
 refine si Tryz.func91 Tryz.ntmps91 Tryz.results91 fun B w0 ρ0 => ?_
 refine co hm (fun hm => ?_) fun hm => ?_
 ·exact en00 hm
 refine sx ?_
 refine sr ?_
 refine jc0 hm [] [] [] (fun _ hm hm1 => ?_) (fun hm => ?_)
 ·refine wc_block ?_
  refine lru0 hm1 0 [0, 1, 12] [] (fun m5 => [(13, vI (m5 : Int))]) (fun hlenm5 m5 r3 hltm5 hxm5 hm1 => ?_) (fun m5 hm1 => ?_)
  ·refine sx ?_
   refine sr ?_
   refine wc_seq ?_
   refine wc_draw (id := 6) [⟨0, 0, [0]⟩, ⟨1, 0, [5]⟩, ⟨2, 3, [16, 17]⟩, ⟨3, 7, [18]⟩, ⟨4, 0, [1]⟩, ⟨5, 0, [5]⟩, ⟨6, 48, [20, 21]⟩, ⟨7, 112, [22]⟩, ⟨8, 255, [19, 23]⟩, ⟨9, 511, [24]⟩] mixed (by kernel_rfl) ?_
   refine bo hm1 fun e6 hm1 => ?_
   refine bo hm1 fun e7 hm1 => ?_
   refine bo hm1 fun y8 hm1 => ?_
   refine co hm1 (fun hm1 => ?_) fun hm1 => ?_
   ·exact en10 hm hm1
   exact eb1 hm hm1
  exact en11 hm hm1
 exact en00 hm⟩

def Mref28_SameRanges_l1 (a1 : List Rng) (b2 : List Rng) : List Rng → Int → Option (Ctl Bool Unit)
  | [], i =>
  some (Ctl.nxt ())
  | r3 :: xs4, i =>
  obnd (lget a1 i) fun e6 =>
  obnd (lget b2 i) fun e7 =>
  bnd (Mref24_SameRange e6 e7) fun y8 =>
  sel (!y8) (
   some (Ctl.ret false)) (
   Mref28_SameRanges_l1 a1 b2 xs4 (i + 1))
def Mref28_SameRanges (a1 : List Rng) (b2 : List Rng) : Option Bool :=
 sel (!decide ((a1.length : Int) = (b2.length : Int))) (
  some false) (
  obnd (
   Mref28_SameRanges_l1 a1 b2 a1 0 : Option (Ctl Bool Unit)) fun mu => ocbnd mu fun (_ : Unit) =>
  some true)
instance Mref28_SameRanges_sp {a1} {b2} : SpO (Mref28_SameRanges a1 b2) fun y => Sp 195 [.d (lst Rng.ds a1), .d (lst Rng.ds b2)] [] (vB y) [] := ⟨fun hm => by
 refine si Tryz.func195 Tryz.ntmps195 Tryz.results195 fun B w0 ρ0 => ?_
 refine co hm (fun hm => ?_) fun hm => ?_
 ·exact en00 hm
 refine sx ?_
 refine sr ?_
 refine jc0 hm [] [] [] (fun _ hm hm1 => ?_) (fun hm => ?_)
 ·refine wc_block ?_
  refine lru0 hm1 0 [0, 1, 12] [] (fun m5 => [(13, vI (m5 : Int))]) (fun hlenm5 m5 r3 hltm5 hxm5 hm1 => ?_) (fun m5 hm1 => ?_)
  ·refine sx ?_
   refine sr ?_
   refine wc_seq ?_
   refine wc_draw (id := 6) [⟨0, 0, [0]⟩, ⟨1, 0, [5]⟩, ⟨2, 3, [16, 17]⟩, ⟨3, 7, [18]⟩, ⟨4, 0, [1]⟩, ⟨5, 0, [5]⟩, ⟨6, 48, [20, 21]⟩, ⟨7, 112, [22]⟩, ⟨8, 255, [19, 23]⟩, ⟨9, 511, [24]⟩] mixed (by kernel_rfl) ?_
   refine bo hm1 fun e6 hm1 => ?_
   refine bo hm1 fun e7 hm1 => ?_
   refine bp hm1 fun y8 hm1 => ?_
   refine co hm1 (fun hm1 => ?_) fun hm1 => ?_
   ·exact en10 hm hm1
   exact eb1 hm hm1
  exact en11 hm hm1
 exact en00 hm⟩

def Mref28_SameWalk (a1 : TWalk) (b2 : TWalk) : Option Bool :=
 obnd (Mref22_Same a1.Query b2.Query) fun y3 =>
 sel y3 (
  obnd (Mref28_SameRanges a1.Todo b2.Todo) fun y4 =>
  sel y4 (
   obnd (Mref28_SameVisits a1.Visits b2.Visits) fun y5 =>
   some y5) (
   some false)) (
  some false)
instance Mref28_SameWalk_sp {a1} {b2} : SpO (Mref28_SameWalk a1 b2) fun y => Sp 144 [.a (TWalk.vs a1), .a (TWalk.vs b2)] [] (vB y) [] := ⟨fun hm => by
 refine si Tryz.func144 Tryz.ntmps144 Tryz.results144 fun B w0 ρ0 => ?_
 exact az0 hm⟩

def Mref28_Split_l3 (r8 : ByteArray) (r9 : Bool) : List Bnd → ByteArray → Bool → Option (ByteArray × Bool)
  | [], x11, x12 =>
  some (x11, x12)
  | r13 :: xs14, x11, x12 =>
  bnd (Mref1_ValidBound r13) fun y16 =>
  sel y16 (
   bnd (Mref1_Compare r13 (Bnd.mk r8 r9)) fun y17 =>
   sel (decide (0 < y17)) (
    bnd (Mref1_Compare r13 (Bnd.mk x11 x12)) fun y18 =>
    sel (decide (y18 < 0)) (
     Mref28_Split_l3 r8 r9 xs14 r13.key r13.top) (
     Mref28_Split_l3 r8 r9 xs14 x11 x12)) (
    Mref28_Split_l3 r8 r9 xs14 x11 x12)) (
   Mref28_Split_l3 r8 r9 xs14 x11 x12)
def Mref28_Split_l2 (cuts2 : List Bnd) (r4 : Rng) : Nat → List Rng → ByteArray → Bool → Option (List Rng)
  | 0, _, _, _ => none
  | fuel + 1, out7, r8, r9 =>
  bnd (Mref1_Empty (Rng.mk (Bnd.mk r8 r9) r4.hi)) fun y10 =>
  obnd (
   sel (!y10) (
    some (Ctl.nxt ())) (
    some (Ctl.ret out7)) : Option (Ctl (List Rng) Unit)) fun mu => ocbnd mu fun (_ : Unit) =>
  obnd (
   obnd (
    Mref28_Split_l3 r8 r9 cuts2 r4.hi.key r4.hi.top : Option (ByteArray × Bool)) fun (x19, x20) =>
   obnd (app out7 ([(Rng.mk (Bnd.mk r8 r9) (Bnd.mk x19 x20))] : List Rng)) fun l21 =>
   some (l21, x19, x20) : Option (List Rng × ByteArray × Bool)) fun (out22, r23, r24) =>
  Mref28_Split_l2 cuts2 r4 fuel out22 r23 r24
def Mref28_Split_l1 (cuts2 : List Bnd) : List Rng → List Rng → Option (List Rng)
  | [], out3 =>
  some out3
  | r4 :: xs5, out3 =>
  obnd (
   obnd (
    Mref28_Split_l2 cuts2 r4 FU out3 r4.lo.key r4.lo.top : Option (List Rng)) fun out25 =>
   some out25 : Option (List Rng)) fun out26 =>
  Mref28_Split_l1 cuts2 xs5 out26
def Mref28_Split (l1 : List Rng) (cuts2 : List Bnd) : Option (List Rng) :=
 obnd (
  Mref28_Split_l1 cuts2 l1 [] : Option (List Rng)) fun out27 =>
 some out27
instance Mref28_Split_sp {l1} {cuts2} : SpO (Mref28_Split l1 cuts2) fun y => Sp 18 [.d (lst Rng.ds l1), .d (lst Bnd.ds cuts2)] [] (.d (lst Rng.ds y)) [] := ⟨fun hm => by
 refine si Tryz.func18 Tryz.ntmps18 Tryz.results18 fun B w0 ρ0 => ?_
 refine sr ?_
 refine sr ?_
 refine sr ?_
 refine jo1 hm [] [] (fun out27 => [(5, .d (lst Rng.ds out27))]) (fun _ hm hm1 => ?_) (fun out27 hm => ?_)
 ·refine wc_block ?_
  refine wc_wk (wk_nil 5 5001 60 4 rfl rfl) ?_
  refine lr1 hm1 11 [1, 11, 12] [] (fun m6 out3 => [(5, .h 5001), (13, vI (m6 : Int))]) (fun hlenm6 m6 out3 r4 hltm6 hxm6 hm1 => ?_) (fun m6 out3 hm1 => ?_) (B := (fun m6 out3 => [(5001, some (arrT 60 4 Rng.ds out3))]))
  ·refine sx ?_
   refine wc_seq ?_
   refine jo1 hm1 [1, 11, 12, 13] [] (fun out26 => [(5, .h 5005)]) (fun _ hm1 hm2 => ?_) (fun out26 hm1 => ?_) (B := (fun out26 => [(5005, some (arrT 60 4 Rng.ds out26))]))
   ·refine sr ?_
    refine wl_r (o_ixm hxm6 rfl rfl rfl rfl) rfl rfl rfl ?_
    refine ss ?_
    refine jo1 hm2 [1, 11, 12, 13] [] (fun out25 => [(5, .h 5004)]) (fun _ hm2 hm3 => ?_) (fun out25 hm2 => ?_) (B := (fun out25 => [(5004, some (arrT 60 4 Rng.ds out25))]))
    ·refine wc_block ?_
     refine lf3 hm3 [1, 7, 11, 12, 13] [] (fun out7 r8 r9 => [(5, .h 5002)]) (fun κ out7 r8 r9 hm3 => ?_) (B := (fun out7 r8 r9 => [(107, some (.box 60 (Rng.vs (Rng.mk (Bnd.mk r8 r9) r4.hi)))), (5002, some (arrT 60 4 Rng.ds out7))])) (f := [(107, 107), (5002, 5001)])
     refine bp hm3 fun y10 hm3 => ?_
     refine ss ?_
     refine jc0 hm3 [1, 5, 7, 11, 12, 13] [107, 5002] [] (fun _ hm3 hm4 => ?_) (fun hm3 => ?_)
     ·refine co hm4 (fun hm4 => ?_) fun hm4 => ?_
      ·exact en44 hm hm1 hm2 hm3 hm4
      exact em43 [(5004, 5002)] hm hm1 hm2 hm3 hm4
     refine ss ?_
     refine jo3 hm3 [1, 7, 11, 12, 13] [] (fun out22 r23 r24 => [(5, .h 5003)]) (fun _ hm3 hm4 => ?_) (fun out22 r23 r24 hm3 => ?_) (B := (fun out22 r23 r24 => [(107, some (.box 60 (Rng.vs (Rng.mk (Bnd.mk r23 r24) r4.hi)))), (5003, some (arrT 60 4 Rng.ds out22))]))
     ·refine sr ?_
      refine sr ?_
      refine jo2 hm4 [1, 5, 7, 8, 11, 12, 13] [107, 5002] (fun x19 x20 => []) (fun _ hm4 hm5 => ?_) (fun x19 x20 hm4 => ?_) (B := (fun x19 x20 => [(108, some (.box 60 [vS r8, vB r9, vS x19, vB x20]))]))
      ·refine wc_block ?_
       refine lr2 hm5 21 [1, 5, 7, 8, 11, 12, 13, 21, 22] [107, 5002] (fun m15 x11 x12 => [(23, vI (m15 : Int))]) (fun hlenm15 m15 x11 x12 r13 hltm15 hxm15 hm5 => ?_) (fun m15 x11 x12 hm5 => ?_) (B := (fun m15 x11 x12 => [(108, some (.box 60 [vS r8, vB r9, vS x11, vB x12]))]))
       ·refine bp hm5 fun y16 hm5 => ?_
        refine co hm5 (fun hm5 => ?_) fun hm5 => ?_
        ·refine bp hm5 fun y17 hm5 => ?_
         refine co hm5 (fun hm5 => ?_) fun hm5 => ?_
         ·refine bp hm5 fun y18 hm5 => ?_
          refine co hm5 (fun hm5 => ?_) fun hm5 => ?_
          ·refine sr ?_
           refine sr ?_
           refine wl_r (o_inc hltm15 hlenm15 rfl rfl rfl) rfl rfl rfl ?_
           refine ss ?_
           exact wk_loopw [(107, 107), (108, 108), (5002, 5002)] ⟨m15 + 1, _, _, rfl, hltm15, hm5, rfl⟩ (by omega)
          refine sx ?_
          refine sr ?_
          refine wl_r (o_inc hltm15 hlenm15 rfl rfl rfl) rfl rfl rfl ?_
          refine ss ?_
          exact wk_loopw [(107, 107), (108, 108), (5002, 5002)] ⟨m15 + 1, _, _, rfl, hltm15, hm5, rfl⟩ (by omega)
         refine ss ?_
         refine wc_cond_f rfl ?_
         refine sx ?_
         refine sr ?_
         refine wl_r (o_inc hltm15 hlenm15 rfl rfl rfl) rfl rfl rfl ?_
         refine ss ?_
         exact wk_loopw [(107, 107), (108, 108), (5002, 5002)] ⟨m15 + 1, _, _, rfl, hltm15, hm5, rfl⟩ (by omega)
        refine ss ?_
        refine wc_cond_f rfl ?_
        refine sx ?_
        refine sr ?_
        refine wl_r (o_inc hltm15 hlenm15 rfl rfl rfl) rfl rfl rfl ?_
        refine ss ?_
        exact wk_loopw [(107, 107), (108, 108), (5002, 5002)] ⟨m15 + 1, _, _, rfl, hltm15, hm5, rfl⟩ (by omega)
       refine wc_exit ?_
       refine ss ?_
       cases hm5
       exact wk_cutw [(107, 107), (108, 108), (5002, 5002)] ⟨_, _, rfl, rfl⟩
      refine sr ?_
      refine wl_bt Rng.ds [(Rng.mk (Bnd.mk r8 r9) (Bnd.mk x19 x20))] rfl rfl (by simp only [flatV, cellsV, List.cons_append, List.nil_append, List.append_nil]; exact rfl) rfl rfl rfl rfl rfl rfl ?_
      refine bo hm4 fun l21 hm4 => ?_
      exact em44 [(107, 107), (5003, 149)] hm hm1 hm2 hm3 hm4
     exact ebm3 [(107, 107), (5002, 5003)] hm hm1 hm2 hm3
    exact em22 [(5005, 5004)] hm hm1 hm2
   exact ebm1 [(5001, 5005)] hm hm1
  exact en11 hm hm1
 exact en00 hm⟩

end Go.Proofs.YticecfoigpcflaaGreatDoor
