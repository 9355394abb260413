/-
  Lemmas: Models and walks
-/
import Derived.Test.YticecfoigpcflaaGreatDoorPT18
import Derived.Test.YticecfoigpcflaaGreatDoorPT31
import Derived.Test.YticecfoigpcflaaGreatDoorPT32
set_option linter.unusedSimpArgs false
set_option linter.unusedVariables false
namespace Go.Proofs.YticecfoigpcflaaGreatDoor
open Go.RowKit
set_option maxRecDepth 100000
set_option maxHeartbeats 4000000
attribute [local irreducible] WK WC WL Wk Rel OpD OpV WD WO sel bnd obnd app lget lsl sget ssl scat letg iquo irem Op.bytesLess
attribute [local irreducible] qchk qranges union mlk mset mput ment cpy sstab
def Mref28_zone_l1 (b1 : Bnd) : List Bnd → Int → Int
  | [], n3 =>
  n3
  | r4 :: xs5, n3 =>
  bnd (Mref1_Compare r4 b1) fun y7 =>
  sel (decide (y7 ≤ 0)) (
   Mref28_zone_l1 b1 xs5 (i64w (n3 + 1))) (
   Mref28_zone_l1 b1 xs5 n3)
def Mref28_zone (b1 : Bnd) (cuts2 : List Bnd) : Int :=
 bnd (
  Mref28_zone_l1 b1 cuts2 0 : Int) fun n8 =>
 n8
instance Mref28_zone_sp {b1} {cuts2} : SpT (Mref28_zone b1 cuts2) fun y => Sp 80 [.a [vS b1.key, vB b1.top], .d (lst Bnd.ds cuts2)] [] (vI y) [] := ⟨fun hm => by
 refine si Tryz.func80 Tryz.ntmps80 Tryz.results80 fun B w0 ρ0 => ?_
 refine sr ?_
 refine sr ?_
 refine sr ?_
 refine jp1 hm [] [] (fun n8 => [(5, vI n8)]) (fun _ hm hm1 => ?_) (fun n8 hm => ?_)
 ·refine wc_block ?_
  refine lr1 hm1 8 [2, 8, 9] [102] (fun m6 n3 => [(5, vI n3), (10, vI (m6 : Int))]) (fun hlenm6 m6 n3 r4 hltm6 hxm6 hm1 => ?_) (fun m6 n3 hm1 => ?_)
  ·refine bp hm1 fun y7 hm1 => ?_
   refine co hm1 (fun hm1 => ?_) fun hm1 => ?_
   ·refine sr ?_
    refine wl_r (o_add rfl rfl rfl rfl) rfl rfl rfl ?_
    exact eb1 hm hm1
   exact eb1 hm hm1
  exact en11 hm hm1
 exact en00 hm⟩

def Mref28_StartPaths_l1 (cuts2 : List Bnd) : List Bnd → Int → Option (Ctl (TPaths × Int) Unit)
  | [], i =>
  some (Ctl.nxt ())
  | r4 :: xs5, i =>
  bnd (Mref1_ValidBound r4) fun y7 =>
  sel (!y7) (
   some (Ctl.ret ((TPaths.mk (TQuery.mk 0 [] ⟨#[]⟩ 0) [] [] [] false), 1))) (
   sel (decide (0 < i)) (
    obnd (lget cuts2 (i64w (i - 1))) fun e8 =>
    bnd (Mref1_Compare r4 e8) fun y9 =>
    sel (decide (y9 ≤ 0)) (
     some (Ctl.ret ((TPaths.mk (TQuery.mk 0 [] ⟨#[]⟩ 0) [] [] [] false), 8))) (
     Mref28_StartPaths_l1 cuts2 xs5 (i + 1))) (
    Mref28_StartPaths_l1 cuts2 xs5 (i + 1)))
def Mref28_StartPaths_l2 (q1 : TQuery) (use12 : List Bnd) : List Rng → List TWalk → Int → Option (List TWalk)
  | [], p15, last16 =>
  some p15
  | r17 :: xs18, p15, last16 =>
  bnd (Mref28_zone r17.lo use12) fun y20 =>
  obnd (
   sel (!decide (y20 = last16)) (
    obnd (app p15 ([(TWalk.mk q1 [] ([] : List TVisit))] : List TWalk)) fun l21 =>
    some (l21, y20)) (
    some (p15, last16)) : Option (List TWalk × Int)) fun (p22, last23) =>
  obnd (lget p22 (i64w ((p22.length : Int) - 1))) fun e24 =>
  obnd (app e24.Todo ([r17] : List Rng)) fun l25 =>
  bnd ((TWalk.mk e24.Query l25 e24.Visits)) fun e26 =>
  bnd (p22.set (Int.toNat (i64w ((p22.length : Int) - 1))) e26) fun l27 =>
  Mref28_StartPaths_l2 q1 use12 xs18 l27 last23
def Mref28_StartPaths (q1 : TQuery) (cuts2 : List Bnd) : Option (TPaths × Int) :=
 bnd (Mref22_Check q1) fun y3 =>
 sel (!decide (y3 = 0)) (
  some ((TPaths.mk (TQuery.mk 0 [] ⟨#[]⟩ 0) [] [] [] false), y3)) (
  sel (decide (64 < (cuts2.length : Int))) (
   some ((TPaths.mk (TQuery.mk 0 [] ⟨#[]⟩ 0) [] [] [] false), 3)) (
   obnd (
    Mref28_StartPaths_l1 cuts2 cuts2 0 : Option (Ctl (TPaths × Int) Unit)) fun mu => ocbnd mu fun (_ : Unit) =>
   obnd (app ([] : List Bnd) cuts2) fun l10 =>
   obnd (
    sel (decide (q1.Kind = 3)) (
     some true) (
     some (decide (q1.Kind = 4))) : Option Bool) fun x11 =>
   obnd (
    sel x11 (
     some []) (
     some cuts2) : Option (List Bnd)) fun use12 =>
   obnd (Mref22_Ranges q1) fun y13 =>
   obnd (Mref28_Split y13 use12) fun y14 =>
   obnd (
    Mref28_StartPaths_l2 q1 use12 y14 [] (-1) : Option (List TWalk)) fun p28 =>
   obnd (app ([] : List TWalk) p28) fun l29 =>
   some ((TPaths.mk q1 l10 p28 l29 false), 0)))
instance Mref28_StartPaths_sp {q1} {cuts2} : SpO (Mref28_StartPaths q1 cuts2) fun y => Sp 24 [.a (TQuery.vs q1), .d (lst Bnd.ds cuts2)] [] (.t [.a (TPaths.vs y.1), vI y.2]) [] := ⟨fun hm => by
 refine si Tryz.func24 Tryz.ntmps24 Tryz.results24 fun B w0 ρ0 => ?_
 refine bp hm fun y3 hm => ?_
 refine co hm (fun hm => ?_) fun hm => ?_
 ·refine sr ?_
  refine sx ?_
  cases hm
  exact wk_r
 refine co hm (fun hm => ?_) fun hm => ?_
 ·refine sr ?_
  refine sx ?_
  cases hm
  exact wk_r
 refine sx ?_
 refine sr ?_
 obtain ⟨mu1, hm1, hm⟩ := obnd_o hm
 refine wc_cut' (fun st => mu1 = Ctl.nxt () ∧ st = ⟨[(1, .d (lst Bnd.ds cuts2)), (2, .p 102 0), (4, .p 104 0)], [(102, some (.box 41 (TQuery.vs q1))), (104, some (.box 48 [vI 0, .d (.c (.slice none 0 0)), vS ⟨#[]⟩, vI 0, .d (.c (.slice none 0 0)), .d (.c (.slice none 0 0)), .d (.c (.slice none 0 0)), vB false]))]⟩) ?_ ?_
 ·refine wc_block ?_
  refine wc_len 26 rfl (fun hlenm6 => ?_)
  refine wc_loopwx (fun κ st => ∃ (m6 : Nat) , κ = cuts2.length - m6 ∧ m6 ≤ cuts2.length ∧ Mref28_StartPaths_l1 cuts2 (cuts2.drop m6) (m6 : Int) = some mu1 ∧ st = ⟨[(1, .d (lst Bnd.ds cuts2)), (2, .p 102 0), (4, .p 104 0), (26, .d (lst Bnd.ds cuts2)), (27, vI (cuts2.length : Int)), (28, vI (m6 : Int))], [(102, some (.box 41 (TQuery.vs q1))), (104, some (.box 48 [vI 0, .d (.c (.slice none 0 0)), vS ⟨#[]⟩, vI 0, .d (.c (.slice none 0 0)), .d (.c (.slice none 0 0)), .d (.c (.slice none 0 0)), vB false]))]⟩) [(102, 102), (104, 104)] ⟨0, rfl, Nat.zero_le _, hm1, rfl⟩ ?_
  rintro κ _ ⟨m6, rfl, hlem6, hm1, rfl⟩
  rcases Nat.lt_or_ge m6 cuts2.length with hltm6 | hgem6
  ·obtain ⟨r4, hxm6, hdr⟩ := drop_c hltm6
   rw [hdr, Mref28_StartPaths_l1.eq_2] at hm1
   refine sr ?_
   refine wc_seq ?_
   refine wc_cond_tt (lt_t hltm6) rfl ?_
   refine bp hm1 fun y7 hm1 => ?_
   refine co hm1 (fun hm1 => ?_) fun hm1 => ?_
   ·refine sr ?_
    refine sx ?_
    cases hm1
    replace hm := ocbnd_r hm
    cases hm
    exact wk_r
   refine sx ?_
   refine wc_seq ?_
   refine wc_draw (id := 11) [⟨0, 0, [7]⟩, ⟨1, 1, [37]⟩, ⟨2, 3, [38]⟩, ⟨3, 7, [8, 39]⟩, ⟨4, 7, [1, 39]⟩, ⟨5, 7, [7, 39]⟩, ⟨6, 39, [39, 42]⟩, ⟨7, 119, [39, 41, 43]⟩, ⟨8, 247, [39, 44]⟩, ⟨9, 511, [39, 40, 45]⟩, ⟨10, 1023, [39, 46]⟩, ⟨11, 2047, [39, 47]⟩] mixed (by kernel_rfl) ?_
   refine co hm1 (fun hm1 => ?_) fun hm1 => ?_
   ·refine bo hm1 fun e8 hm1 => ?_
    refine bp hm1 fun y9 hm1 => ?_
    refine co hm1 (fun hm1 => ?_) fun hm1 => ?_
    ·refine sr ?_
     refine sx ?_
     cases hm1
     replace hm := ocbnd_r hm
     cases hm
     exact wk_r
    refine sx ?_
    refine sr ?_
    refine wl_r (o_inc hltm6 hlenm6 rfl rfl rfl) rfl rfl rfl ?_
    refine ss ?_
    exact wk_loopwx [(102, 102), (104, 104)] ⟨m6 + 1, rfl, hltm6, hm1, rfl⟩ (by omega)
   refine ss ?_
   refine wc_cond_f rfl ?_
   refine sx ?_
   refine sr ?_
   refine wl_r (o_inc hltm6 hlenm6 rfl rfl rfl) rfl rfl rfl ?_
   refine ss ?_
   exact wk_loopwx [(102, 102), (104, 104)] ⟨m6 + 1, rfl, hltm6, hm1, rfl⟩ (by omega)
  ·rw [drop_n hgem6, Mref28_StartPaths_l1.eq_1] at hm1
   refine sr ?_
   refine wc_seq ?_
   refine wc_cond_ff (lt_f hgem6) rfl ?_
   refine wc_exit ?_
   refine ss ?_
   cases hm1
   exact wk_cutwx [(102, 102), (104, 104)] ⟨rfl, rfl⟩
 rintro _ ⟨rfl, rfl⟩
 replace hm := ocbnd_n hm
 refine ss ?_
 refine wc_seq ?_
 refine wc_draw (id := 14) [⟨0, 0, [2]⟩, ⟨1, 0, [1]⟩, ⟨2, 2, [52]⟩, ⟨3, 7, [51, 53]⟩, ⟨4, 0, []⟩, ⟨5, 31, [9, 54]⟩] mixed (by kernel_rfl) ?_
 refine bo hm fun l10 hm => ?_
 refine sr ?_
 refine wc_seq ?_
 refine wc_seq ?_
 obtain ⟨mu1, hm1, hm⟩ := obnd_o hm
 refine wc_cut' (fun st => ∃ (x11 : Bool), x11 = mu1 ∧ st = ⟨[(2, .p 102 0), (4, .p 104 0), (9, .p 109 0), (10, .d (lst Bnd.ds cuts2)), (63, vB x11)], [(102, some (.box 41 (TQuery.vs q1))), (104, some (.box 48 [vI 0, .d (.c (.slice none 0 0)), vS ⟨#[]⟩, vI 0, .d (.c (.slice none 0 0)), .d (.c (.slice none 0 0)), .d (.c (.slice none 0 0)), vB false])), (109, some (.box 48 [vI q1.Kind, .d (lst Rng.ds q1.Ranges), vS q1.Key, vI q1.Count, .h 153, .d (.c (.slice none 0 0)), .d (.c (.slice none 0 0)), vB false])), (153, some (arrT 32 2 Bnd.ds l10))]⟩) ?_ ?_
 ·refine co hm1 (fun hm1 => ?_) fun hm1 => ?_
  ·refine ss ?_
   cases hm1
   exact wk_cutwx [(102, 102), (104, 104), (109, 109), (153, 153)] ⟨_, rfl, rfl⟩
  refine ss ?_
  cases hm1
  exact wk_cutwx [(102, 102), (104, 104), (109, 109), (153, 153)] ⟨_, rfl, rfl⟩
 rintro _ ⟨x11, rfl, rfl⟩
 refine ss ?_
 obtain ⟨mu1, hm1, hm⟩ := obnd_o hm
 refine wc_cut' (fun st => ∃ (use12 : List Bnd), use12 = mu1 ∧ st = ⟨[(2, .p 102 0), (4, .p 104 0), (9, .p 109 0), (10, .d (lst Bnd.ds use12))], [(102, some (.box 41 (TQuery.vs q1))), (104, some (.box 48 [vI 0, .d (.c (.slice none 0 0)), vS ⟨#[]⟩, vI 0, .d (.c (.slice none 0 0)), .d (.c (.slice none 0 0)), .d (.c (.slice none 0 0)), vB false])), (109, some (.box 48 [vI q1.Kind, .d (lst Rng.ds q1.Ranges), vS q1.Key, vI q1.Count, .h 153, .d (.c (.slice none 0 0)), .d (.c (.slice none 0 0)), vB false])), (153, some (arrT 32 2 Bnd.ds l10))]⟩) ?_ ?_
 ·refine co hm1 (fun hm1 => ?_) fun hm1 => ?_
  ·refine sr ?_
   cases hm1
   exact wk_cutwx [(102, 102), (104, 104), (109, 109), (153, 153)] ⟨_, rfl, rfl⟩
  refine sx ?_
  cases hm1
  exact wk_cutwx [(102, 102), (104, 104), (109, 109), (153, 153)] ⟨_, rfl, rfl⟩
 rintro _ ⟨use12, rfl, rfl⟩
 refine sr ?_
 refine sr ?_
 obtain ⟨y13, hy, hm⟩ := obnd_o hm
 refine wl_cq (Mref22_Ranges_sp (hm := hy)) ?_
 refine bo hm fun y14 hm => ?_
 refine ss ?_
 obtain ⟨mu1, hm1, hm⟩ := obnd_o hm
 refine wc_cut' (fun st => ∃ (p28 : List TWalk), p28 = mu1 ∧ st = ⟨[(4, .p 104 0), (9, .p 109 0)], [(104, some (.box 48 [vI 0, .d (.c (.slice none 0 0)), vS ⟨#[]⟩, vI 0, .d (.c (.slice none 0 0)), .d (.c (.slice none 0 0)), .d (.c (.slice none 0 0)), vB false])), (109, some (.box 48 [vI q1.Kind, .d (lst Rng.ds q1.Ranges), vS q1.Key, vI q1.Count, .h 153, .hx 5005, .d (.c (.slice none 0 0)), vB false])), (153, some (arrT 32 2 Bnd.ds l10)), (5005, some (.hd)), (5006, some (axT 5005 124 6 60 4 (fun (x : TWalk) => ([dI x.Query.Kind, lst Rng.ds x.Query.Ranges, dS x.Query.Key, dI x.Query.Count] : List D)) (fun (x : TWalk) => x.Todo) Rng.ds (fun (x : TWalk) => ([lst TVisit.ds x.Visits] : List D)) p28 none))]⟩) ?_ ?_
 ·refine wc_block ?_
  refine wc_wk (wk_nilbx 109 5 5001 124 6 60 4 rfl rfl rfl rfl) ?_
  refine wc_len 67 rfl (fun hlenm19 => ?_)
  refine wc_loopwx (fun κ st => ∃ (m19 : Nat) (p15 : List TWalk) (last16 : Int), κ = y14.length - m19 ∧ m19 ≤ y14.length ∧ Mref28_StartPaths_l2 q1 use12 (y14.drop m19) p15 last16 = some mu1 ∧ st = ⟨[(2, .p 102 0), (4, .p 104 0), (9, .p 109 0), (10, .d (lst Bnd.ds use12)), (11, vI last16), (67, .d (lst Rng.ds y14)), (68, vI (y14.length : Int)), (69, vI (m19 : Int))], [(102, some (.box 41 (TQuery.vs q1))), (104, some (.box 48 [vI 0, .d (.c (.slice none 0 0)), vS ⟨#[]⟩, vI 0, .d (.c (.slice none 0 0)), .d (.c (.slice none 0 0)), .d (.c (.slice none 0 0)), vB false])), (109, some (.box 48 [vI q1.Kind, .d (lst Rng.ds q1.Ranges), vS q1.Key, vI q1.Count, .h 153, .hx 5001, .d (.c (.slice none 0 0)), vB false])), (153, some (arrT 32 2 Bnd.ds l10)), (5001, some (.hd)), (5002, some (axT 5001 124 6 60 4 (fun (x : TWalk) => ([dI x.Query.Kind, lst Rng.ds x.Query.Ranges, dS x.Query.Key, dI x.Query.Count] : List D)) (fun (x : TWalk) => x.Todo) Rng.ds (fun (x : TWalk) => ([lst TVisit.ds x.Visits] : List D)) p15 none))]⟩) [(102, 102), (104, 104), (109, 109), (153, 153), (5001, 5001), (5002, 5002)] ⟨0, _, _, rfl, Nat.zero_le _, hm1, rfl⟩ ?_
  rintro κ _ ⟨m19, p15, last16, rfl, hlem19, hm1, rfl⟩
  rcases Nat.lt_or_ge m19 y14.length with hltm19 | hgem19
  ·obtain ⟨r17, hxm19, hdr⟩ := drop_c hltm19
   rw [hdr, Mref28_StartPaths_l2.eq_2] at hm1
   refine sr ?_
   refine wc_seq ?_
   refine wc_cond_tt (lt_t hltm19) rfl ?_
   refine bp hm1 fun y20 hm1 => ?_
   refine sr ?_
   obtain ⟨mu2, hm2, hm1⟩ := obnd_o hm1
   refine wc_cut' (fun st => ∃ (p22 : List TWalk) (last23 : Int), mu2 = (p22, last23) ∧ st = ⟨[(2, .p 102 0), (4, .p 104 0), (9, .p 109 0), (10, .d (lst Bnd.ds use12)), (11, vI last23), (13, .p 113 0), (67, .d (lst Rng.ds y14)), (68, vI (y14.length : Int)), (69, vI (m19 : Int))], [(102, some (.box 41 (TQuery.vs q1))), (104, some (.box 48 [vI 0, .d (.c (.slice none 0 0)), vS ⟨#[]⟩, vI 0, .d (.c (.slice none 0 0)), .d (.c (.slice none 0 0)), .d (.c (.slice none 0 0)), vB false])), (109, some (.box 48 [vI q1.Kind, .d (lst Rng.ds q1.Ranges), vS q1.Key, vI q1.Count, .h 153, .hx 5003, .d (.c (.slice none 0 0)), vB false])), (113, some (.box 60 (Rng.vs r17))), (153, some (arrT 32 2 Bnd.ds l10)), (5003, some (.hd)), (5004, some (axT 5003 124 6 60 4 (fun (x : TWalk) => ([dI x.Query.Kind, lst Rng.ds x.Query.Ranges, dS x.Query.Key, dI x.Query.Count] : List D)) (fun (x : TWalk) => x.Todo) Rng.ds (fun (x : TWalk) => ([lst TVisit.ds x.Visits] : List D)) p22 none))]⟩) ?_ ?_
   ·refine co hm2 (fun hm2 => ?_) fun hm2 => ?_
    ·refine sr ?_
     refine wl_wkwx [(102, 102), (104, 104), (109, 109), (113, 113), (153, 153), (5001, 5001), (5002, 5002)] ⟨[(2, .p 102 0), (4, .p 104 0), (9, .p 109 0), (10, .d (lst Bnd.ds use12)), (13, .p 113 0), (14, vI y20), (67, .d (lst Rng.ds y14)), (68, vI (y14.length : Int)), (69, vI (m19 : Int)), (81, .hx 5001), (83, .a [vI q1.Kind, .d (lst Rng.ds q1.Ranges), vS q1.Key, vI q1.Count, .d (.c (.slice none 0 0)), .d (lst TVisit.ds ([] : List TVisit))])], [(102, some (.box 41 (TQuery.vs q1))), (104, some (.box 48 [vI 0, .d (.c (.slice none 0 0)), vS ⟨#[]⟩, vI 0, .d (.c (.slice none 0 0)), .d (.c (.slice none 0 0)), .d (.c (.slice none 0 0)), vB false])), (109, some (.box 48 [vI q1.Kind, .d (lst Rng.ds q1.Ranges), vS q1.Key, vI q1.Count, .h 153, .hx 5001, .d (.c (.slice none 0 0)), vB false])), (113, some (.box 60 (Rng.vs r17))), (153, some (arrT 32 2 Bnd.ds l10)), (5001, some (.hd)), (5002, some (axT 5001 124 6 60 4 (fun (x : TWalk) => ([dI x.Query.Kind, lst Rng.ds x.Query.Ranges, dS x.Query.Key, dI x.Query.Count] : List D)) (fun (x : TWalk) => x.Todo) Rng.ds (fun (x : TWalk) => ([lst TVisit.ds x.Visits] : List D)) p15 none))]⟩ ?_
     refine ss ?_
     refine wl_h (o_bs 184 rfl rfl rfl rfl) rfl rfl rfl rfl rfl ?_
     refine ss ?_
     obtain ⟨l21, hy, hm2⟩ := obnd_o hm2
     refine wl_h (n_appxn (k2 := 5002) 420850 (TWalk.mk q1 [] ([] : List TVisit)) hy rfl rfl rfl rfl rfl rfl rfl rfl rfl rfl) rfl rfl rfl rfl rfl ?_
     refine sr ?_
     cases hm2
     exact wk_cutwx [(102, 102), (104, 104), (109, 109), (113, 113), (153, 153), (5003, 420850), (5004, 420851)] ⟨_, _, rfl, rfl⟩
    refine sx ?_
    cases hm2
    exact wk_cutwx [(102, 102), (104, 104), (109, 109), (113, 113), (153, 153), (5003, 5001), (5004, 5002)] ⟨_, _, rfl, rfl⟩
   rintro _ ⟨p22, last23, rfl, rfl⟩
   refine sr ?_
   refine wl_r (n_lenx (k2 := 5004) rfl rfl rfl) rfl rfl rfl ?_
   refine ss ?_
   obtain ⟨e24, hy, hm1⟩ := obnd_o hm1
   have hge24 := hy
   refine wl_r (n_ixx (k2 := 5004) hy rfl rfl rfl rfl) rfl rfl rfl ?_
   refine ss ?_
   refine wc_draw (id := 27) [⟨0, 0, [15]⟩, ⟨1, 0, [15]⟩, ⟨2, 2, [96]⟩, ⟨3, 6, [97]⟩, ⟨4, 14, [98]⟩, ⟨5, 0, [13]⟩, ⟨6, 32, [100]⟩, ⟨7, 126, [99, 101]⟩, ⟨8, 255, [95]⟩, ⟨9, 511, [103]⟩, ⟨10, 1023, [102, 104]⟩] mixed (by kernel_rfl) ?_
   refine ss ?_
   refine wd_r [] (o_nilcx rfl rfl) rfl (by first | exact .no rfl | exact .y rfl rfl rfl rfl) rfl rfl ?_
   refine ss ?_
   refine wd_r [] (o_fax rfl rfl) rfl (by first | exact .no rfl | exact .y rfl rfl rfl rfl) rfl rfl ?_
   refine ss ?_
   refine wd_h [5004] [5004, 400990, 400991] (n_take (k2 := 5004) 400990 hge24 rfl rfl rfl rfl (by exact inferInstance)) rfl (by first | exact .no rfl | exact .y rfl rfl rfl rfl) rfl rfl rfl rfl rfl ?_
   refine ss ?_
   refine wd_bt Rng.ds [r17] rfl rfl (by simp only [flatV, cellsV, List.cons_append, List.nil_append, List.append_nil]; exact rfl) rfl rfl rfl rfl (by first | exact .no rfl | exact .y rfl rfl rfl rfl) rfl rfl ?_
   refine bo hm1 fun l25 hm1 => ?_
   refine ss ?_
   refine wd_r [] (o_nilcx rfl rfl) rfl (by first | exact .no rfl | exact .y rfl rfl rfl rfl) rfl rfl ?_
   refine ss ?_
   refine wd_r [] (o_fax rfl rfl) rfl (by first | exact .no rfl | exact .y rfl rfl rfl rfl) rfl rfl ?_
   refine ss ?_
   obtain ⟨e26, hy, hm1⟩ := bnd_o hm1
   have hxe26 := hy
   refine ss ?_
   obtain ⟨l27, hy, hm1⟩ := bnd_o hm1
   refine ss ?_
   refine wd_0h [400991, 202] [400991, 202, 410050, 410051] (n_put (k2 := 400991) (q := 202) 410050 hge24 hy rfl rfl rfl rfl rfl rfl (by exact inferInstance) (by first | (rw [← hxe26]) | rfl) (by first | (rw [← hxe26]) | rfl) (by first | (rw [← hxe26]) | rfl)) rfl (by first | exact .no rfl | exact .y rfl rfl rfl rfl) rfl rfl rfl rfl ?_
   have hge26 := lget_set hge24 e26
   rw [hy] at hge26
   refine sr ?_
   refine wl_r (o_inc hltm19 hlenm19 rfl rfl rfl) rfl rfl rfl ?_
   refine ss ?_
   exact wk_loopwx [(102, 102), (104, 104), (109, 109), (153, 153), (5001, 5003), (5002, 410051)] ⟨m19 + 1, _, _, rfl, hltm19, hm1, rfl⟩ (by omega)
  ·rw [drop_n hgem19, Mref28_StartPaths_l2.eq_1] at hm1
   refine sr ?_
   refine wc_seq ?_
   refine wc_cond_ff (lt_f hgem19) rfl ?_
   refine wc_exit ?_
   refine ss ?_
   cases hm1
   exact wk_cutwx [(104, 104), (109, 109), (153, 153), (5005, 5001), (5006, 5002)] ⟨_, rfl, rfl⟩
 rintro _ ⟨p28, rfl, rfl⟩
 refine ss ?_
 refine wc_seq ?_
 refine wc_wkwx [(104, 104), (109, 109), (153, 153)] ⟨[(4, .p 104 0), (9, .p 109 0)], [(104, some (.box 48 [vI 0, .d (.c (.slice none 0 0)), vS ⟨#[]⟩, vI 0, .d (.c (.slice none 0 0)), .d (.c (.slice none 0 0)), .d (.c (.slice none 0 0)), vB false])), (109, some (.box 48 [vI q1.Kind, .d (lst Rng.ds q1.Ranges), vS q1.Key, vI q1.Count, .h 153, .d (lst TWalk.ds p28), .d (.c (.slice none 0 0)), vB false])), (153, some (arrT 32 2 Bnd.ds l10))]⟩ ?_
 refine bo hm fun l29 hm => ?_
 refine sr ?_
 refine sx ?_
 cases hm
 exact wk_r⟩

def Mref28_SamePaths_l1 (a1 : TPaths) (b2 : TPaths) : List Bnd → Int → Option (Ctl Bool Unit)
  | [], i =>
  some (Ctl.nxt ())
  | r5 :: xs6, i =>
  obnd (lget a1.Cuts i) fun e8 =>
  obnd (lget b2.Cuts i) fun e9 =>
  bnd (Mref1_Compare e8 e9) fun y10 =>
  sel (!decide (y10 = 0)) (
   some (Ctl.ret false)) (
   Mref28_SamePaths_l1 a1 b2 xs6 (i + 1))
def Mref28_SamePaths_l2 (a1 : TPaths) (b2 : TPaths) : List TWalk → Int → Option (Ctl Bool Unit)
  | [], i =>
  some (Ctl.nxt ())
  | r11 :: xs12, i =>
  obnd (lget a1.First i) fun e14 =>
  obnd (lget b2.First i) fun e15 =>
  obnd (Mref28_SameWalk e14 e15) fun y16 =>
  sel (!y16) (
   some (Ctl.ret false)) (
   Mref28_SamePaths_l2 a1 b2 xs12 (i + 1))
def Mref28_SamePaths_l3 (a1 : TPaths) (b2 : TPaths) : List TWalk → Int → Option (Ctl Bool Unit)
  | [], i =>
  some (Ctl.nxt ())
  | r17 :: xs18, i =>
  obnd (lget a1.Second i) fun e20 =>
  obnd (lget b2.Second i) fun e21 =>
  obnd (Mref28_SameWalk e20 e21) fun y22 =>
  sel (!y22) (
   some (Ctl.ret false)) (
   Mref28_SamePaths_l3 a1 b2 xs18 (i + 1))
def Mref28_SamePaths (a1 : TPaths) (b2 : TPaths) : Option Bool :=
 obnd (
  obnd (Mref22_Same a1.Query b2.Query) fun y3 =>
  sel (!y3) (
   some true) (
   sel (!(a1.Turned == b2.Turned)) (
    some true) (
    sel (!decide ((a1.Cuts.length : Int) = (b2.Cuts.length : Int))) (
     some true) (
     sel (!decide ((a1.First.length : Int) = (b2.First.length : Int))) (
      some true) (
      some (!decide ((a1.Second.length : Int) = (b2.Second.length : Int))))))) : Option Bool) fun x4 =>
 sel x4 (
  some false) (
  obnd (
   Mref28_SamePaths_l1 a1 b2 a1.Cuts 0 : Option (Ctl Bool Unit)) fun mu => ocbnd mu fun (_ : Unit) =>
  obnd (
   Mref28_SamePaths_l2 a1 b2 a1.First 0 : Option (Ctl Bool Unit)) fun mu => ocbnd mu fun (_ : Unit) =>
  obnd (
   Mref28_SamePaths_l3 a1 b2 a1.Second 0 : Option (Ctl Bool Unit)) fun mu => ocbnd mu fun (_ : Unit) =>
  some true)
instance Mref28_SamePaths_sp {a1} {b2} : SpO (Mref28_SamePaths a1 b2) fun y => Sp 81 [.a (TPaths.vs a1), .a (TPaths.vs b2)] [] (vB y) [] := ⟨fun hm => by
 refine si Tryz.func81 Tryz.ntmps81 Tryz.results81 fun B w0 ρ0 => ?_
 refine sr ?_
 refine wc_seq ?_
 refine wc_seq ?_
 refine jo1 hm [2, 3] [102, 103] (fun x4 => [(47, vB x4)]) (fun _ hm hm1 => ?_) (fun x4 hm => ?_)
 ·exact az1 hm hm1
 refine co hm (fun hm => ?_) fun hm => ?_
 ·exact en00 hm
 refine sx ?_
 refine sr ?_
 refine jc0 hm [2, 3] [102, 103] [] (fun _ hm hm1 => ?_) (fun hm => ?_)
 ·refine wc_block ?_
  refine lru0 hm1 49 [2, 3, 50] [102, 103] (fun m7 => [(51, vI (m7 : Int))]) (fun hlenm7 m7 r5 hltm7 hxm7 hm1 => ?_) (fun m7 hm1 => ?_)
  ·refine sx ?_
   refine sr ?_
   refine wc_seq ?_
   refine wc_draw (id := 6) [⟨0, 0, [2]⟩, ⟨1, 1, [54]⟩, ⟨2, 0, [5]⟩, ⟨3, 7, [55, 56]⟩, ⟨4, 15, [57]⟩, ⟨5, 0, [3]⟩, ⟨6, 32, [59]⟩, ⟨7, 0, [5]⟩, ⟨8, 224, [60, 61]⟩, ⟨9, 480, [62]⟩, ⟨10, 1023, [58, 63]⟩, ⟨11, 2047, [64]⟩] mixed (by kernel_rfl) ?_
   refine bo hm1 fun e8 hm1 => ?_
   refine bo hm1 fun e9 hm1 => ?_
   refine bp hm1 fun y10 hm1 => ?_
   refine co hm1 (fun hm1 => ?_) fun hm1 => ?_
   ·exact en10 hm hm1
   exact eb1 hm hm1
  exact en11 hm hm1
 refine sr ?_
 refine jc0 hm [2, 3] [102, 103] [] (fun _ hm hm1 => ?_) (fun hm => ?_)
 ·refine wc_block ?_
  refine lru0 hm1 68 [2, 3, 69] [102, 103] (fun m13 => [(70, vI (m13 : Int))]) (fun hlenm13 m13 r11 hltm13 hxm13 hm1 => ?_) (fun m13 hm1 => ?_)
  ·refine sx ?_
   refine sr ?_
   refine wc_seq ?_
   refine wc_draw (id := 12) [⟨0, 0, [2]⟩, ⟨1, 1, [73]⟩, ⟨2, 0, [6]⟩, ⟨3, 7, [74, 75]⟩, ⟨4, 15, [76]⟩, ⟨5, 0, [3]⟩, ⟨6, 32, [78]⟩, ⟨7, 0, [6]⟩, ⟨8, 224, [79, 80]⟩, ⟨9, 480, [81]⟩, ⟨10, 1023, [77, 82]⟩, ⟨11, 2047, [83]⟩] mixed (by kernel_rfl) ?_
   refine bo hm1 fun e14 hm1 => ?_
   refine bo hm1 fun e15 hm1 => ?_
   refine bo hm1 fun y16 hm1 => ?_
   refine co hm1 (fun hm1 => ?_) fun hm1 => ?_
   ·exact en10 hm hm1
   exact eb1 hm hm1
  exact en11 hm hm1
 refine sr ?_
 refine jc0 hm [] [] [] (fun _ hm hm1 => ?_) (fun hm => ?_)
 ·refine wc_block ?_
  refine lru0 hm1 87 [2, 3, 88] [102, 103] (fun m19 => [(89, vI (m19 : Int))]) (fun hlenm19 m19 r17 hltm19 hxm19 hm1 => ?_) (fun m19 hm1 => ?_)
  ·refine sx ?_
   refine sr ?_
   refine wc_seq ?_
   refine wc_draw (id := 18) [⟨0, 0, [2]⟩, ⟨1, 1, [92]⟩, ⟨2, 0, [7]⟩, ⟨3, 7, [93, 94]⟩, ⟨4, 15, [95]⟩, ⟨5, 0, [3]⟩, ⟨6, 32, [97]⟩, ⟨7, 0, [7]⟩, ⟨8, 224, [98, 99]⟩, ⟨9, 480, [100]⟩, ⟨10, 1023, [96, 101]⟩, ⟨11, 2047, [102]⟩] mixed (by kernel_rfl) ?_
   refine bo hm1 fun e20 hm1 => ?_
   refine bo hm1 fun e21 hm1 => ?_
   refine bo hm1 fun y22 hm1 => ?_
   refine co hm1 (fun hm1 => ?_) fun hm1 => ?_
   ·exact en10 hm hm1
   exact eb1 hm hm1
  exact en11 hm hm1
 exact en00 hm⟩

def Mlaw30_same (a1 : TPaths) (e2 : Int) (b3 : TPaths) (f4 : Int) : Option Bool :=
 sel (decide (e2 = f4)) (
  obnd (Mref28_SamePaths a1 b3) fun y5 =>
  some y5) (
  some false)
instance Mlaw30_same_sp {a1} {e2} {b3} {f4} : SpO (Mlaw30_same a1 e2 b3 f4) fun y => Sp 25 [.a (TPaths.vs a1), vI e2, .a (TPaths.vs b3), vI f4] [] (vB y) [] := ⟨fun hm => by
 refine si Tryz.func25 Tryz.ntmps25 Tryz.results25 fun B w0 ρ0 => ?_
 exact az0 hm⟩

def Mlaw30_PathsStarts_l1 (y11 : (Int × TTape)) : Nat → List Bnd → Option (List Bnd)
  | 0, _ => none
  | fuel + 1, y12 =>
  obnd (
   sel (decide ((y12.length : Int) < i64w (64 + y11.1))) (
    some (Ctl.nxt ())) (
    some (Ctl.ret y12)) : Option (Ctl (List Bnd) Unit)) fun mu => ocbnd mu fun (_ : Unit) =>
  obnd (scat ⟨#[107]⟩ (bstr ([IntKind.u8.wrap (y12.length : Int)] : List Int))) fun s13 =>
  obnd (app y12 ([(Bnd.mk s13 false)] : List Bnd)) fun l14 =>
  Mlaw30_PathsStarts_l1 y11 fuel l14
def Mlaw30_PathsStarts_l3 (r21 : TQuery) : List (List Bnd) → Option (Ctl (Ctl (Ctl Bool Unit) Unit) Unit)
  | [] =>
  some (Ctl.nxt ())
  | r24 :: xs25 =>
  obnd (Mpaths_Start r21 r24) fun y27 =>
  obnd (Mref28_StartPaths r21 r24) fun y28 =>
  obnd (Mlaw30_same y27.1 y27.2 y28.1 y28.2) fun y29 =>
  sel (!y29) (
   some (Ctl.ret (Ctl.ret (Ctl.ret false)))) (
   Mlaw30_PathsStarts_l3 r21 xs25)
def Mlaw30_PathsStarts_l2 (cuts3 : List Bnd) (y18 : List Bnd) : List TQuery → Option (Ctl Bool Unit)
  | [] =>
  some (Ctl.nxt ())
  | r21 :: xs22 =>
  obnd (
   obnd (
    Mlaw30_PathsStarts_l3 r21 ([cuts3, y18, []] : List (List Bnd)) : Option (Ctl (Ctl (Ctl Bool Unit) Unit) Unit)) fun mu => ocbnd mu fun (_ : Unit) =>
   some (Ctl.nxt ()) : Option (Ctl (Ctl Bool Unit) Unit)) fun mu => ocbnd mu fun (_ : Unit) =>
  Mlaw30_PathsStarts_l2 cuts3 y18 xs22
def Mlaw30_PathsStarts (l1 : List Int) (raw2 : TQuery) (cuts3 : List Bnd) : Option Bool :=
 obnd (
  sel (decide (80 < (raw2.Ranges.length : Int))) (
   some true) (
   some (decide (80 < (cuts3.length : Int)))) : Option Bool) fun x4 =>
 sel x4 (
  obnd (Mlaw30_awake) fun y5 =>
  some y5) (
  obnd (Mwld_New l1) fun y6 =>
  obnd (Mwld_Tape_Cuts y6 6) fun y7 =>
  obnd (Mwld_Tape_Next y7.2 5) fun y8 =>
  obnd (
   sel (decide (y8.1 = 0)) (
    obnd (Mwld_Tape_Bound y8.2) fun y9 =>
    obnd (app y7.1 ([y9.1] : List Bnd)) fun l10 =>
    some (y9.2.l, y9.2.at_, l10)) (
    sel (decide (y8.1 = 1)) (
     obnd (Mwld_Tape_Next y8.2 2) fun y11 =>
     obnd (
      Mlaw30_PathsStarts_l1 y11 FU [] : Option (List Bnd)) fun y15 =>
     some (y11.2.l, y11.2.at_, y15)) (
     some (y8.2.l, y8.2.at_, y7.1))) : Option (List Int × Int × List Bnd)) fun (x16, x17, y18) =>
  obnd (Mwld_Tape_Query (TTape.mk x16 x17)) fun y19 =>
  obnd (Mwld_Tape_OddQuery y19.2) fun y20 =>
  obnd (
   Mlaw30_PathsStarts_l2 cuts3 y18 ([y19.1, y20.1, raw2] : List TQuery) : Option (Ctl Bool Unit)) fun mu => ocbnd mu fun (_ : Unit) =>
  obnd (Mlaw30_awake) fun y30 =>
  some y30)
theorem Mlaw30_PathsStarts_sp {l1 : List Int} {raw2 : TQuery} {cuts3 : List Bnd} {y : Bool} (hm : Mlaw30_PathsStarts l1 raw2 cuts3 = some y) : Spec Tryz.prog 4 [.d (lst dsI l1), .a (TQuery.vs raw2), .d (lst Bnd.ds cuts3)] [] fun u h => u = vB y ∧ h = [] := by
 refine si Tryz.func4 Tryz.ntmps4 Tryz.results4 fun B w0 ρ0 => ?_
 refine sr ?_
 refine wc_seq ?_
 refine wc_seq ?_
 refine jo1 hm [0, 2, 4] [104] (fun x4 => [(26, vB x4)]) (fun _ hm hm1 => ?_) (fun x4 hm => ?_)
 ·exact az1 hm hm1
 refine co hm (fun hm => ?_) fun hm => ?_
 ·exact az0 hm
 refine sx ?_
 refine sr ?_
 obtain ⟨y6, hy, hm⟩ := obnd_o hm
 refine wl_mkn (u' := .p 202901 0) (h' := [(202901, some (.box 126 (TTape.vs y6)))]) (Mwld_New_sp.out hy) 202900 rfl rfl rfl (by repeat (first | exact Vws.nil | apply Vws.cons | exact Vw.nil | exact Vw.d _ | exact Vw.q _ | apply Vw.a)) rfl (by (try simp only [renH, Option.map_some, Blk.ren, rens_d]); rfl) rfl rfl rfl rfl ?_
 refine sr ?_
 obtain ⟨y7, hy, hm⟩ := obnd_o hm
 refine wl_gen (u' := .h 203101) (h' := [(202901, some (.box 126 (TTape.vs y7.2))), (203101, some (arrT 32 2 Bnd.ds y7.1))]) (Mwld_Tape_Cuts_so0 (hm := hy)) 202901 203100 rfl rfl rfl (by repeat (first | exact Vws.nil | apply Vws.cons | exact Vw.nil | exact Vw.d _ | exact Vw.q _ | exact Vw.p rfl | apply Vw.a)) rfl (Vb.box (by repeat (first | exact Vws.nil | apply Vws.cons | exact Vw.nil | exact Vw.d _ | exact Vw.q _ | exact Vw.p rfl | apply Vw.a))) rfl (by (try simp only [renH, Option.map_some, Blk.ren, rens_d]); rfl) rfl rfl rfl rfl ?_
 refine bo hm fun y8 hm => ?_
 refine ss ?_
 refine jo3 hm [2, 4, 7] [104] (fun x16 x17 y18 => [(8, .d (lst Bnd.ds y18))]) (fun _ hm hm1 => ?_) (fun x16 x17 y18 hm => ?_) (B := (fun x16 x17 y18 => [(202901, some (.box 126 [.d (lst dsI x16), vI x17]))]))
 ·refine co hm1 (fun hm1 => ?_) fun hm1 => ?_
  ·refine bo hm1 fun y9 hm1 => ?_
   refine ss ?_
   refine wl_bt Bnd.ds [y9.1] rfl rfl (by simp only [flatV, cellsV, List.cons_append, List.nil_append, List.append_nil]; exact rfl) rfl rfl rfl rfl rfl rfl ?_
   exact az1 hm hm1
  refine co hm1 (fun hm1 => ?_) fun hm1 => ?_
  ·refine bo hm1 fun y11 hm1 => ?_
   refine ss ?_
   refine wl_r (o_add rfl rfl rfl rfl) rfl rfl rfl ?_
   refine ss ?_
   refine jo1 hm1 [2, 4, 7] [104, 202901] (fun y15 => [(8, .d (lst Bnd.ds y15))]) (fun _ hm1 hm2 => ?_) (fun y15 hm1 => ?_)
   ·refine wc_block ?_
    refine wc_wk (wk_nil 8 5001 32 2 rfl rfl) ?_
    refine lf1 hm2 [2, 4, 7, 9] [104, 202901] (fun y12 => [(8, .h 5001)]) (fun κ y12 hm2 => ?_) (B := (fun y12 => [(5001, some (arrT 32 2 Bnd.ds y12))]))
    refine sr ?_
    refine jc0 hm2 [2, 4, 7, 8, 9] [104, 5001, 202901] [] (fun _ hm2 hm3 => ?_) (fun hm2 => ?_)
    ·exact az3 hm hm1 hm2 hm3
    refine sr ?_
    refine wl_r (o_cvi (k1 := .i64) (k2 := .u8) rfl rfl (by kernel_rfl) (by kernel_rfl) rfl) rfl rfl rfl ?_
    refine ss ?_
    refine wl_bt (dsK .u8) [IntKind.u8.wrap (y12.length : Int)] rfl rfl (by simp only [flatV, cellsV, List.cons_append, List.nil_append, List.append_nil]; exact rfl) rfl rfl rfl rfl rfl rfl ?_
    refine ss ?_
    refine wl_r (o_cvbs (E := 5) rfl rfl (fun _ => rfl) (by kernel_rfl) (by kernel_rfl) (by kernel_rfl) (List.cons_ne_nil _ _)) rfl rfl rfl ?_
    refine bo hm2 fun s13 hm2 => ?_
    refine ss ?_
    refine wl_bt Bnd.ds [(Bnd.mk s13 false)] rfl rfl (by simp only [flatV, cellsV, List.cons_append, List.nil_append, List.append_nil]; exact rfl) rfl rfl rfl rfl rfl rfl ?_
    refine bo hm2 fun l14 hm2 => ?_
    exact ebm2 [(104, 104), (5001, 159), (202901, 202901)] hm hm1 hm2
   exact en11 hm hm1
  exact en11 hm hm1
 refine ss ?_
 refine wc_seq ?_
 refine wc_seq ?_
 refine wc_draw (id := 13) [⟨0, 0, [7]⟩, ⟨2, 0, [7]⟩, ⟨4, 0, [4]⟩, ⟨7, 0, []⟩, ⟨1, 1, [60]⟩, ⟨3, 7, [62]⟩, ⟨5, 31, [61, 63, 64]⟩, ⟨6, 63, [65]⟩] mixed (by kernel_rfl) ?_
 refine bo hm fun y19 hm => ?_
 refine bo hm fun y20 hm => ?_
 refine ss ?_
 refine wd_bt TQuery.ds [y19.1, y20.1, raw2] rfl rfl (by simp only [flatV, cellsV, List.cons_append, List.nil_append, List.append_nil]; exact rfl) rfl rfl rfl rfl (by first | exact .no rfl | exact .y rfl rfl rfl rfl) rfl rfl ?_
 refine ss ?_
 refine jc0 hm [] [] [] (fun _ hm hm1 => ?_) (fun hm => ?_)
 ·refine wc_block ?_
  refine lr0 hm1 65 [2, 8, 65, 66] [] (fun m23 => [(67, vI (m23 : Int))]) (fun hlenm23 m23 r21 hltm23 hxm23 hm1 => ?_) (fun m23 hm1 => ?_)
  ·refine sx ?_
   refine wc_seq ?_
   refine jc0 hm1 [2, 8, 65, 66, 67] [] [] (fun _ hm1 hm2 => ?_) (fun hm1 => ?_)
   ·refine sr ?_
    refine wl_r (o_ixm hxm23 rfl rfl rfl rfl) rfl rfl rfl ?_
    refine sr ?_
    refine wl_btn (dsL Bnd.ds) [cuts3, y18, []] (ds := [lst Bnd.ds cuts3, lst Bnd.ds y18, .c (.slice none 0 0)]) rfl rfl (by simp only [flatV, cellsV, List.cons_append, List.nil_append, List.append_nil]; exact rfl) rfl rfl (by repeat (first | exact .nil | refine .z ?_ | refine .cons ?_)) rfl rfl rfl rfl ?_
    refine ss ?_
    refine jc0 hm2 [2, 8, 65, 66, 67] [] [] (fun _ hm2 hm3 => ?_) (fun hm2 => ?_)
    ·refine wc_block ?_
     refine lr0 hm3 73 [2, 8, 11, 65, 66, 67, 73, 74] [111] (fun m26 => [(75, vI (m26 : Int))]) (fun hlenm26 m26 r24 hltm26 hxm26 hm3 => ?_) (fun m26 hm3 => ?_)
     ·refine bo hm3 fun y27 hm3 => ?_
      refine bo hm3 fun y28 hm3 => ?_
      refine bo hm3 fun y29 hm3 => ?_
      refine co hm3 (fun hm3 => ?_) fun hm3 => ?_
      ·exact en30 hm hm1 hm2 hm3
      exact eb3 hm hm1 hm2 hm3
     exact en33 hm hm1 hm2 hm3
    exact en22 hm hm1 hm2
   exact eb1 hm hm1
  exact en11 hm hm1
 exact az0 hm

end Go.Proofs.YticecfoigpcflaaGreatDoor
