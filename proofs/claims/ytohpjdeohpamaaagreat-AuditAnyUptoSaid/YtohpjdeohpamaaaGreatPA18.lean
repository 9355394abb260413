/-
  Lemmas: Models and walks
-/
import Derived.Test.YtohpjdeohpamaaaGreatPA17
set_option linter.unusedSimpArgs false
set_option linter.unusedVariables false
namespace Go.Proofs.YtohpjdeohpamaaaGreat
open Go.RowKit
set_option maxRecDepth 100000
set_option maxHeartbeats 4000000
attribute [local irreducible] WK WC WL Wk Rel OpD OpV WD WO sel bnd obnd app lget lsl sget ssl scat letg iquo irem Op.bytesLess
def Mkeyspace_ValidKey (k1 : ByteArray) : Bool :=
 decide ((k1.size : Int) ≤ 64)
theorem Mkeyspace_ValidKey_sp {k1 : ByteArray} {y : Bool} (hm : Mkeyspace_ValidKey k1 = y) : Spec Tryz.prog 30 [vS k1] [] fun u h => u = vB y ∧ h = [] := by
 refine si Tryz.func30 Tryz.ntmps30 Tryz.results30 fun B w0 ρ0 => ?_
 unfold Mkeyspace_ValidKey at hm
 refine sr ?_
 refine sr ?_
 refine sx ?_
 subst hm
 exact wk_r

def Mkeyspace_ValidBound (b1 : Bnd) : Bool :=
 bnd (Mkeyspace_ValidKey b1.key) fun y2 =>
 sel y2 (
  sel (!b1.top) (
   true) (
   decide (b1.key = ⟨#[]⟩))) (
  false)
theorem Mkeyspace_ValidBound_sp {b1 : Bnd} {y : Bool} (hm : Mkeyspace_ValidBound b1 = y) : Spec Tryz.prog 101 [.a [vS b1.key, vB b1.top]] [] fun u h => u = vB y ∧ h = [] := by
 refine si Tryz.func101 Tryz.ntmps101 Tryz.results101 fun B w0 ρ0 => ?_
 unfold Mkeyspace_ValidBound at hm
 refine sr ?_
 refine sr ?_
 obtain ⟨y2, hy, hm⟩ := bnd_o hm
 refine wl_cq (Mkeyspace_ValidKey_sp (hm := hy)) ?_
 refine ss ?_
 refine wl_sg hm ?_ ?_ <;> clear hm <;> intro hm
 ·refine ss ?_
  refine wl_sg hm ?_ ?_ <;> clear hm <;> intro hm
  ·refine sx ?_
   subst hm
   exact wk_r
  refine sx ?_
  subst hm
  exact wk_r
 refine sx ?_
 subst hm
 exact wk_r

def Mkeyspace_Compare (a1 : Bnd) (b2 : Bnd) : Int :=
 bnd (
  sel a1.top (
   b2.top) (
   false) : Bool) fun x3 =>
 sel x3 (
  0) (
  sel a1.top (
   1) (
   bnd (
    sel b2.top (
     true) (
     bl a1.key b2.key) : Bool) fun x4 =>
   sel x4 (
    (-1)) (
    sel (bl b2.key a1.key) (
     1) (
     0))))
theorem Mkeyspace_Compare_sp {a1 : Bnd} {b2 : Bnd} {y : Int} (hm : Mkeyspace_Compare a1 b2 = y) : Spec Tryz.prog 51 [.a [vS a1.key, vB a1.top], .a [vS b2.key, vB b2.top]] [] fun u h => u = vI y ∧ h = [] := by
 refine si Tryz.func51 Tryz.ntmps51 Tryz.results51 fun B w0 ρ0 => ?_
 unfold Mkeyspace_Compare at hm
 refine sr ?_
 refine wc_seq ?_
 refine wc_block ?_
 refine wc_seq ?_
 obtain ⟨mu1, hm1, hm⟩ := bnd_o hm
 refine wc_cut' (fun st => ∃ (x3 : Bool), x3 = mu1 ∧ st = ⟨[(2, .p 102 0), (3, .p 103 0), (5, vB x3)], [(102, some (.box 40 [vS a1.key, vB a1.top])), (103, some (.box 40 [vS b2.key, vB b2.top]))]⟩) ?_ ?_
 ·refine sr ?_
  refine wl_sg hm1 ?_ ?_ <;> clear hm1 <;> intro hm1
  ·refine ss ?_
   subst hm1
   exact wk_cutw [(102, 102), (103, 103)] ⟨_, rfl, rfl⟩
  refine ss ?_
  subst hm1
  exact wk_cutw [(102, 102), (103, 103)] ⟨_, rfl, rfl⟩
 rintro _ ⟨x3, rfl, rfl⟩
 refine ss ?_
 refine wc_cs hm ?_ ?_ <;> clear hm <;> intro hm
 ·refine sr ?_
  refine sx ?_
  subst hm
  exact wk_r
 refine sr ?_
 refine wc_cs hm ?_ ?_ <;> clear hm <;> intro hm
 ·refine sr ?_
  refine sx ?_
  subst hm
  exact wk_r
 refine wc_seq ?_
 obtain ⟨mu1, hm1, hm⟩ := bnd_o hm
 refine wc_cut' (fun st => ∃ (x4 : Bool), x4 = mu1 ∧ st = ⟨[(2, .p 102 0), (3, .p 103 0), (15, vB x4)], [(102, some (.box 40 [vS a1.key, vB a1.top])), (103, some (.box 40 [vS b2.key, vB b2.top]))]⟩) ?_ ?_
 ·refine sr ?_
  refine wl_sg hm1 ?_ ?_ <;> clear hm1 <;> intro hm1
  ·refine ss ?_
   subst hm1
   exact wk_cutw [(102, 102), (103, 103)] ⟨_, rfl, rfl⟩
  refine ss ?_
  subst hm1
  exact wk_cutw [(102, 102), (103, 103)] ⟨_, rfl, rfl⟩
 rintro _ ⟨x4, rfl, rfl⟩
 refine ss ?_
 refine wc_cs hm ?_ ?_ <;> clear hm <;> intro hm
 ·refine sr ?_
  refine sx ?_
  subst hm
  exact wk_r
 refine sr ?_
 refine wc_cs hm ?_ ?_ <;> clear hm <;> intro hm
 ·refine sr ?_
  refine sx ?_
  subst hm
  exact wk_r
 refine sx ?_
 refine sr ?_
 refine sx ?_
 subst hm
 exact wk_r

def Mkeyspace_Valid (r1 : Rng) : Bool :=
 bnd (Mkeyspace_ValidBound r1.lo) fun y2 =>
 sel y2 (
  bnd (Mkeyspace_ValidBound r1.hi) fun y3 =>
  sel y3 (
   bnd (Mkeyspace_Compare r1.lo r1.hi) fun y4 =>
   decide (y4 ≤ 0)) (
   false)) (
  false)
theorem Mkeyspace_Valid_sp {r1 : Rng} {y : Bool} (hm : Mkeyspace_Valid r1 = y) : Spec Tryz.prog 81 [.a [vS r1.lo.key, vB r1.lo.top, vS r1.hi.key, vB r1.hi.top]] [] fun u h => u = vB y ∧ h = [] := by
 refine si Tryz.func81 Tryz.ntmps81 Tryz.results81 fun B w0 ρ0 => ?_
 unfold Mkeyspace_Valid at hm
 refine sr ?_
 refine sr ?_
 obtain ⟨y2, hy, hm⟩ := bnd_o hm
 refine wl_cq (Mkeyspace_ValidBound_sp (hm := hy)) ?_
 refine ss ?_
 refine wl_sg hm ?_ ?_ <;> clear hm <;> intro hm
 ·refine ss ?_
  obtain ⟨y3, hy, hm⟩ := bnd_o hm
  refine wl_cq (Mkeyspace_ValidBound_sp (hm := hy)) ?_
  refine ss ?_
  refine wl_sg hm ?_ ?_ <;> clear hm <;> intro hm
  ·refine ss ?_
   obtain ⟨y4, hy, hm⟩ := bnd_o hm
   refine wl_cq (Mkeyspace_Compare_sp (hm := hy)) ?_
   refine sx ?_
   subst hm
   exact wk_r
  refine sx ?_
  subst hm
  exact wk_r
 refine sx ?_
 subst hm
 exact wk_r

def Mkeyspace_Empty (r1 : Rng) : Bool :=
 bnd (Mkeyspace_Valid r1) fun y2 =>
 sel (!y2) (
  true) (
  bnd (Mkeyspace_Compare r1.lo r1.hi) fun y3 =>
  decide (y3 = 0))
theorem Mkeyspace_Empty_sp {r1 : Rng} {y : Bool} (hm : Mkeyspace_Empty r1 = y) : Spec Tryz.prog 54 [.a [vS r1.lo.key, vB r1.lo.top, vS r1.hi.key, vB r1.hi.top]] [] fun u h => u = vB y ∧ h = [] := by
 refine si Tryz.func54 Tryz.ntmps54 Tryz.results54 fun B w0 ρ0 => ?_
 unfold Mkeyspace_Empty at hm
 refine sr ?_
 refine sr ?_
 obtain ⟨y2, hy, hm⟩ := bnd_o hm
 refine wl_cq (Mkeyspace_Valid_sp (hm := hy)) ?_
 refine ss ?_
 refine wl_sg hm ?_ ?_ <;> clear hm <;> intro hm
 ·refine sx ?_
  subst hm
  exact wk_r
 refine ss ?_
 obtain ⟨y3, hy, hm⟩ := bnd_o hm
 refine wl_cq (Mkeyspace_Compare_sp (hm := hy)) ?_
 refine sx ?_
 subst hm
 exact wk_r

def Mkeyspace_Contains (r1 : Rng) (k2 : ByteArray) : Bool :=
 bnd (Mkeyspace_Empty r1) fun y3 =>
 sel (!y3) (
  bnd (Mkeyspace_ValidKey k2) fun y4 =>
  sel y4 (
   bnd (Mkeyspace_Compare r1.lo (Bnd.mk k2 false)) fun y5 =>
   sel (decide (y5 ≤ 0)) (
    bnd (Mkeyspace_Compare (Bnd.mk k2 false) r1.hi) fun y6 =>
    decide (y6 < 0)) (
    false)) (
   false)) (
  false)
theorem Mkeyspace_Contains_sp {r1 : Rng} {k2 : ByteArray} {y : Bool} (hm : Mkeyspace_Contains r1 k2 = y) : Spec Tryz.prog 84 [.a [vS r1.lo.key, vB r1.lo.top, vS r1.hi.key, vB r1.hi.top], vS k2] [] fun u h => u = vB y ∧ h = [] := by
 refine si Tryz.func84 Tryz.ntmps84 Tryz.results84 fun B w0 ρ0 => ?_
 unfold Mkeyspace_Contains at hm
 refine sr ?_
 refine sr ?_
 refine sr ?_
 obtain ⟨y3, hy, hm⟩ := bnd_o hm
 refine wl_cq (Mkeyspace_Empty_sp (hm := hy)) ?_
 refine ss ?_
 refine wl_sg hm ?_ ?_ <;> clear hm <;> intro hm
 ·refine ss ?_
  obtain ⟨y4, hy, hm⟩ := bnd_o hm
  refine wl_cq (Mkeyspace_ValidKey_sp (hm := hy)) ?_
  refine ss ?_
  refine wl_sg hm ?_ ?_ <;> clear hm <;> intro hm
  ·refine ss ?_
   obtain ⟨y5, hy, hm⟩ := bnd_o hm
   refine wl_cq (Mkeyspace_Compare_sp (hm := hy)) ?_
   refine ss ?_
   refine wl_sg hm ?_ ?_ <;> clear hm <;> intro hm
   ·refine ss ?_
    obtain ⟨y6, hy, hm⟩ := bnd_o hm
    refine wl_cq (Mkeyspace_Compare_sp (hm := hy)) ?_
    refine sx ?_
    subst hm
    exact wk_r
   refine sx ?_
   subst hm
   exact wk_r
  refine sx ?_
  subst hm
  exact wk_r
 refine sx ?_
 subst hm
 exact wk_r

def Mtable_validRow (r1 : Kv) : Bool :=
 bnd (Mkeyspace_ValidKey r1.key) fun y2 =>
 sel y2 (
  decide ((r1.val.size : Int) ≤ 64)) (
  false)
theorem Mtable_validRow_sp {r1 : Kv} {y : Bool} (hm : Mtable_validRow r1 = y) : Spec Tryz.prog 17 [.a [vS r1.key, vS r1.val]] [] fun u h => u = vB y ∧ h = [] := by
 refine si Tryz.func17 Tryz.ntmps17 Tryz.results17 fun B w0 ρ0 => ?_
 unfold Mtable_validRow at hm
 refine sr ?_
 refine sr ?_
 obtain ⟨y2, hy, hm⟩ := bnd_o hm
 refine wl_cq (Mkeyspace_ValidKey_sp (hm := hy)) ?_
 refine ss ?_
 refine wl_sg hm ?_ ?_ <;> clear hm <;> intro hm
 ·refine sx ?_
  subst hm
  exact wk_r
 refine sx ?_
 subst hm
 exact wk_r

def Mtable_Valid_l1 (t1 : List Kv) : List Kv → Int → Option (Ctl Bool Unit)
  | [], i =>
  some (Ctl.nxt ())
  | r2 :: xs3, i =>
  bnd (Mtable_validRow r2) fun y5 =>
  sel (!y5) (
   some (Ctl.ret false)) (
   sel (decide (0 < i)) (
    obnd (lget t1 (i64w (i - 1))) fun e6 =>
    sel (!bl e6.key r2.key) (
     some (Ctl.ret false)) (
     Mtable_Valid_l1 t1 xs3 (i + 1))) (
    Mtable_Valid_l1 t1 xs3 (i + 1)))
def Mtable_Valid (t1 : List Kv) : Option Bool :=
 sel (decide (1024 < (t1.length : Int))) (
  some false) (
  obnd (
   Mtable_Valid_l1 t1 t1 0 : Option (Ctl Bool Unit)) fun mu => ocbnd mu fun (_ : Unit) =>
  some true)
theorem Mtable_Valid_sp {t1 : List Kv} {y : Bool} (hm : Mtable_Valid t1 = some y) : Spec Tryz.prog 10 [.d (lst Kv.ds t1)] [] fun u h => u = vB y ∧ h = [] := by
 refine si Tryz.func10 Tryz.ntmps10 Tryz.results10 fun B w0 ρ0 => ?_
 unfold Mtable_Valid at hm
 refine sr ?_
 refine sr ?_
 refine wc_cs hm ?_ ?_ <;> clear hm <;> intro hm
 ·refine sr ?_
  refine sx ?_
  cases hm
  exact wk_r
 refine sx ?_
 refine sr ?_
 obtain ⟨mu1, hm1, hm⟩ := obnd_o hm
 refine wc_cut' (fun st => mu1 = Ctl.nxt () ∧ st = ⟨[], []⟩) ?_ ?_
 ·refine wc_block ?_
  refine wc_len 8 rfl (fun hlenm4 => ?_)
  refine wc_loopw (fun κ st => ∃ (m4 : Nat) , κ = t1.length - m4 ∧ m4 ≤ t1.length ∧ Mtable_Valid_l1 t1 (t1.drop m4) (m4 : Int) = some mu1 ∧ st = ⟨[(0, .d (lst Kv.ds t1)), (8, .d (lst Kv.ds t1)), (9, vI (t1.length : Int)), (10, vI (m4 : Int))], []⟩) [] ⟨0, rfl, Nat.zero_le _, hm1, rfl⟩ ?_
  rintro κ _ ⟨m4, rfl, hlem4, hm1, rfl⟩
  rcases Nat.lt_or_ge m4 t1.length with hltm4 | hgem4
  ·obtain ⟨r2, hxm4, hdr⟩ := drop_c hltm4
   rw [hdr, Mtable_Valid_l1.eq_2] at hm1
   refine sr ?_
   refine wc_seq ?_
   refine wc_cond_tt (lt_t hltm4) rfl ?_
   refine sx ?_
   refine sr ?_
   refine wl_r (o_ixm (ys := [dS r2.key, dS r2.val]) hxm4 rfl rfl rfl rfl) rfl rfl rfl ?_
   refine ss ?_
   refine wc_seq ?_
   refine wc_draw (id := 6) [⟨0, 0, [4]⟩, ⟨1, 1, [15]⟩, ⟨2, 3, [16]⟩, ⟨3, 7, [17]⟩, ⟨4, 15, [3, 18]⟩, ⟨5, 31, [18, 19]⟩, ⟨6, 63, [18, 20]⟩, ⟨7, 127, [0, 21]⟩, ⟨8, 127, [3, 21]⟩, ⟨9, 383, [21, 23]⟩, ⟨10, 1023, [21, 22, 24]⟩, ⟨11, 2047, [21, 25]⟩, ⟨12, 4095, [21, 26]⟩, ⟨13, 127, [4, 21]⟩, ⟨14, 8319, [21, 28]⟩, ⟨15, 32767, [21, 27, 29]⟩, ⟨16, 65535, [18, 21, 30]⟩, ⟨17, 131071, [18, 31]⟩] mixed (by kernel_rfl) ?_
   refine ss ?_
   obtain ⟨y5, hy, hm1⟩ := bnd_o hm1
   refine wd_cs (Mtable_validRow_sp (hm := hy)) rfl rfl rfl (by repeat (first | exact Vws.nil | apply Vws.cons | exact Vw.nil | exact Vw.d _ | exact Vw.q _ | apply Vw.a)) rfl rfl (by first | exact .no rfl | exact .y rfl rfl rfl rfl) rfl rfl rfl ?_
   refine ss ?_
   refine wd_gp rfl rfl rfl rfl (fun h => ?_) (fun h => ?_)
   ·replace hm1 := sel_t h hm1
    refine ss ?_
    refine wc_cond_t rfl ?_
    refine sr ?_
    refine sx ?_
    cases hm1
    replace hm := ocbnd_r hm
    cases hm
    exact wk_r
   replace hm1 := sel_f h hm1
   refine ss ?_
   refine wd_gp rfl rfl rfl rfl (fun h => ?_) (fun h => ?_)
   ·replace hm1 := sel_t h hm1
    refine ss ?_
    obtain ⟨e6, hy, hm1⟩ := obnd_o hm1
    refine wd_r [] (o_ixg (ys := [dS e6.key, dS e6.val]) hy rfl rfl rfl rfl) rfl (by first | exact .no rfl | exact .y rfl rfl rfl rfl) rfl rfl ?_
    refine ss ?_
    refine wc_cs hm1 ?_ ?_ <;> clear hm1 <;> intro hm1
    ·refine sr ?_
     refine sx ?_
     cases hm1
     replace hm := ocbnd_r hm
     cases hm
     exact wk_r
    refine sx ?_
    refine sr ?_
    refine wl_r (o_inc hltm4 hlenm4 rfl rfl rfl) rfl rfl rfl ?_
    refine ss ?_
    exact wk_loopw [] ⟨m4 + 1, rfl, hltm4, hm1, rfl⟩ (by omega)
   replace hm1 := sel_f h hm1
   refine ss ?_
   refine wc_cond_f rfl ?_
   refine sx ?_
   refine sr ?_
   refine wl_r (o_inc hltm4 hlenm4 rfl rfl rfl) rfl rfl rfl ?_
   refine ss ?_
   exact wk_loopw [] ⟨m4 + 1, rfl, hltm4, hm1, rfl⟩ (by omega)
  ·rw [drop_n hgem4, Mtable_Valid_l1.eq_1] at hm1
   refine sr ?_
   refine wc_seq ?_
   refine wc_cond_ff (lt_f hgem4) rfl ?_
   refine wc_exit ?_
   refine ss ?_
   cases hm1
   exact wk_cutw [] ⟨rfl, rfl⟩
 rintro _ ⟨rfl, rfl⟩
 replace hm := ocbnd_n hm
 refine sr ?_
 refine sx ?_
 cases hm
 exact wk_r

def Mtable_Slice_l1 (r2 : Rng) : List Kv → List Kv → Option (List Kv)
  | [], out3 =>
  some out3
  | r4 :: xs5, out3 =>
  bnd (Mkeyspace_Contains r2 r4.key) fun y7 =>
  sel y7 (
   obnd (app out3 ([r4] : List Kv)) fun l8 =>
   Mtable_Slice_l1 r2 xs5 l8) (
   Mtable_Slice_l1 r2 xs5 out3)
def Mtable_Slice (t1 : List Kv) (r2 : Rng) : Option (List Kv) :=
 obnd (
  Mtable_Slice_l1 r2 t1 [] : Option (List Kv)) fun out9 =>
 some out9
theorem Mtable_Slice_sp {t1 : List Kv} {r2 : Rng} {y : List Kv} (hm : Mtable_Slice t1 r2 = some y) : Spec Tryz.prog 56 [.d (lst Kv.ds t1), .a [vS r2.lo.key, vB r2.lo.top, vS r2.hi.key, vB r2.hi.top]] [] fun u h => u = .d (lst Kv.ds y) ∧ h = [] := by
 refine si Tryz.func56 Tryz.ntmps56 Tryz.results56 fun B w0 ρ0 => ?_
 unfold Mtable_Slice at hm
 refine sr ?_
 refine sr ?_
 refine sr ?_
 obtain ⟨mu1, hm1, hm⟩ := obnd_o hm
 refine wc_cut' (fun st => ∃ (out9 : List Kv), out9 = mu1 ∧ st = ⟨[(5, .d (lst Kv.ds out9))], []⟩) ?_ ?_
 ·refine wc_block ?_
  refine wc_wk (wk_nil 5 5001 54 2 rfl rfl) ?_
  refine wc_len 8 rfl (fun hlenm6 => ?_)
  refine wc_loopw (fun κ st => ∃ (m6 : Nat) (out3 : List Kv), κ = t1.length - m6 ∧ m6 ≤ t1.length ∧ Mtable_Slice_l1 r2 (t1.drop m6) out3 = some mu1 ∧ st = ⟨[(3, .p 103 0), (5, .h 5001), (8, .d (lst Kv.ds t1)), (9, vI (t1.length : Int)), (10, vI (m6 : Int))], [(103, some (.box 42 [vS r2.lo.key, vB r2.lo.top, vS r2.hi.key, vB r2.hi.top])), (5001, some (arrT 54 2 Kv.ds out3))]⟩) [(103, 103), (5001, 5001)] ⟨0, _, rfl, Nat.zero_le _, hm1, rfl⟩ ?_
  rintro κ _ ⟨m6, out3, rfl, hlem6, hm1, rfl⟩
  rcases Nat.lt_or_ge m6 t1.length with hltm6 | hgem6
  ·obtain ⟨r4, hxm6, hdr⟩ := drop_c hltm6
   rw [hdr, Mtable_Slice_l1.eq_2] at hm1
   refine sr ?_
   refine wc_seq ?_
   refine wc_cond_tt (lt_t hltm6) rfl ?_
   refine sx ?_
   refine sr ?_
   refine wl_r (o_ixm (ys := [dS r4.key, dS r4.val]) hxm6 rfl rfl rfl rfl) rfl rfl rfl ?_
   refine sr ?_
   obtain ⟨y7, hy, hm1⟩ := bnd_o hm1
   refine wl_cq (Mkeyspace_Contains_sp (hm := hy)) ?_
   refine ss ?_
   refine wc_cs hm1 ?_ ?_ <;> clear hm1 <;> intro hm1
   ·refine sr ?_
    refine wl_bt Kv.ds [r4] rfl rfl (by simp only [flatV, cellsV, List.cons_append, List.nil_append, List.append_nil]; exact rfl) rfl rfl rfl rfl rfl rfl ?_
    refine ss ?_
    obtain ⟨l8, hy, hm1⟩ := obnd_o hm1
    refine wl_2 (n_app (k' := 121) hy rfl rfl rfl rfl rfl rfl rfl rfl) rfl rfl rfl rfl ?_
    refine sr ?_
    refine wl_r (o_inc hltm6 hlenm6 rfl rfl rfl) rfl rfl rfl ?_
    refine ss ?_
    exact wk_loopw [(103, 103), (5001, 121)] ⟨m6 + 1, _, rfl, hltm6, hm1, rfl⟩ (by omega)
   refine sx ?_
   refine sr ?_
   refine wl_r (o_inc hltm6 hlenm6 rfl rfl rfl) rfl rfl rfl ?_
   refine ss ?_
   exact wk_loopw [(103, 103), (5001, 5001)] ⟨m6 + 1, _, rfl, hltm6, hm1, rfl⟩ (by omega)
  ·rw [drop_n hgem6, Mtable_Slice_l1.eq_1] at hm1
   refine sr ?_
   refine wc_seq ?_
   refine wc_cond_ff (lt_f hgem6) rfl ?_
   refine wc_exit ?_
   refine ss ?_
   cases hm1
   exact wk_cutw [] ⟨_, rfl, rfl⟩
 rintro _ ⟨out9, rfl, rfl⟩
 refine sr ?_
 refine sx ?_
 cases hm
 exact wk_r

def Mfold_Number_l1 (digits5 : ByteArray) : Nat → Int → Nat → Option (Ctl (Int × Bool) Int)
  | 0, _, _ => none
  | fuel + 1, n9, x10 =>
  sel (decide (x10 < digits5.size)) (
   bnd (Utf8.decode digits5 x10) fun r11 =>
   obnd (
    sel (decide ((r11.1 : Int) < 48)) (
     some true) (
     some (decide (57 < (r11.1 : Int)))) : Option Bool) fun x12 =>
   sel x12 (
    some (Ctl.ret (0, false))) (
    sel (decide (1000000000000 < i64w ((i64w (n9 * 10)) + (i64w (IntKind.i32.wrap ((r11.1 : Int) - 48)))))) (
     some (Ctl.ret (0, false))) (
     Mfold_Number_l1 digits5 fuel (i64w ((i64w (n9 * 10)) + (i64w (IntKind.i32.wrap ((r11.1 : Int) - 48))))) (x10 + r11.2)))) (
   some (Ctl.nxt n9))
def Mfold_Number (value1 : ByteArray) : Option (Int × Bool) :=
 obnd (
  sel (decide (0 < (value1.size : Int))) (
   obnd (sget value1 0) fun b2 =>
   some (decide (b2 = 45))) (
   some false) : Option Bool) fun x3 =>
 obnd (
  sel x3 (
   obnd (ssl value1 1 (value1.size : Int)) fun s4 =>
   some (s4, true)) (
   some (value1, false)) : Option (ByteArray × Bool)) fun (digits5, minus6) =>
 obnd (
  sel (decide (digits5 = ⟨#[]⟩)) (
   some true) (
   obnd (sget digits5 0) fun b7 =>
   sel (decide (b7 = 48)) (
    sel (decide (1 < (digits5.size : Int))) (
     some true) (
     some minus6)) (
    some false)) : Option Bool) fun x8 =>
 sel x8 (
  some (0, false)) (
  obnd (
   Mfold_Number_l1 digits5 FU 0 0 : Option (Ctl (Int × Bool) Int)) fun mu => ocbnd mu fun n13 =>
  sel minus6 (
   some (i64w (-n13), true)) (
   some (n13, true)))
theorem Mfold_Number_sp {value1 : ByteArray} {y : (Int × Bool)} (hm : Mfold_Number value1 = some y) : Spec Tryz.prog 87 [vS value1] [] fun u h => u = .t [vI y.1, vB y.2] ∧ h = [] := by
 refine si Tryz.func87 Tryz.ntmps87 Tryz.results87 fun B w0 ρ0 => ?_
 unfold Mfold_Number at hm
 refine sr ?_
 refine sr ?_
 refine wc_seq ?_
 refine wc_seq ?_
 obtain ⟨mu1, hm1, hm⟩ := obnd_o hm
 refine wc_cut' (fun st => ∃ (x3 : Bool), x3 = mu1 ∧ st = ⟨[(0, vS value1), (4, vS value1), (5, vB false), (17, vB x3)], []⟩) ?_ ?_
 ·refine sr ?_
  refine wl_sg hm1 ?_ ?_ <;> clear hm1 <;> intro hm1
  ·refine ss ?_
   obtain ⟨b2, hy, hm1⟩ := obnd_o hm1
   refine wl_r (o_sget hy rfl rfl rfl (by kernel_rfl)) rfl rfl rfl ?_
   refine ss ?_
   cases hm1
   exact wk_cutw [] ⟨_, rfl, rfl⟩
  refine ss ?_
  cases hm1
  exact wk_cutw [] ⟨_, rfl, rfl⟩
 rintro _ ⟨x3, rfl, rfl⟩
 refine ss ?_
 obtain ⟨mu1, hm1, hm⟩ := obnd_o hm
 refine wc_cut' (fun st => ∃ (digits5 : ByteArray) (minus6 : Bool), mu1 = (digits5, minus6) ∧ st = ⟨[(4, vS digits5), (5, vB minus6)], []⟩) ?_ ?_
 ·refine wc_cs hm1 ?_ ?_ <;> clear hm1 <;> intro hm1
  ·refine sr ?_
   obtain ⟨s4, hy, hm1⟩ := obnd_o hm1
   refine wl_r (o_ssl hy rfl rfl (by kernel_rfl) rfl rfl) rfl rfl rfl ?_
   refine ss ?_
   cases hm1
   exact wk_cutw [] ⟨_, _, rfl, rfl⟩
  refine sx ?_
  cases hm1
  exact wk_cutw [] ⟨_, _, rfl, rfl⟩
 rintro _ ⟨digits5, minus6, rfl, rfl⟩
 refine ss ?_
 refine wc_seq ?_
 refine wc_seq ?_
 obtain ⟨mu1, hm1, hm⟩ := obnd_o hm
 refine wc_cut' (fun st => ∃ (x8 : Bool), x8 = mu1 ∧ st = ⟨[(4, vS digits5), (5, vB minus6), (34, vB x8)], []⟩) ?_ ?_
 ·refine sr ?_
  refine wl_sg hm1 ?_ ?_ <;> clear hm1 <;> intro hm1
  ·refine ss ?_
   cases hm1
   exact wk_cutw [] ⟨_, rfl, rfl⟩
  refine ss ?_
  obtain ⟨b7, hy, hm1⟩ := obnd_o hm1
  refine wl_r (o_sget hy rfl rfl rfl (by kernel_rfl)) rfl rfl rfl ?_
  refine ss ?_
  refine wl_sg hm1 ?_ ?_ <;> clear hm1 <;> intro hm1
  ·refine ss ?_
   refine wl_sg hm1 ?_ ?_ <;> clear hm1 <;> intro hm1
   ·refine ss ?_
    cases hm1
    exact wk_cutw [] ⟨_, rfl, rfl⟩
   refine ss ?_
   cases hm1
   exact wk_cutw [] ⟨_, rfl, rfl⟩
  refine ss ?_
  cases hm1
  exact wk_cutw [] ⟨_, rfl, rfl⟩
 rintro _ ⟨x8, rfl, rfl⟩
 refine ss ?_
 refine wc_cs hm ?_ ?_ <;> clear hm <;> intro hm
 ·refine sr ?_
  refine sx ?_
  cases hm
  exact wk_r
 refine sx ?_
 refine sr ?_
 refine sr ?_
 refine wl_1 (o_range (k := 136) rfl rfl rfl rfl (by kernel_rfl)) rfl rfl rfl rfl ?_
 refine ss ?_
 obtain ⟨mu1, hm1, hm⟩ := obnd_o hm
 refine wc_cut' (fun st => ∃ (n13 : Int), mu1 = Ctl.nxt n13 ∧ st = ⟨[(5, vB minus6), (6, vI n13)], []⟩) ?_ ?_
 ·refine wc_block ?_
  refine wc_loopw (fun κ st => ∃ (n9 : Int) (x10 : Nat), Mfold_Number_l1 digits5 κ n9 x10 = some mu1 ∧ st = ⟨[(5, vB minus6), (6, vI n9), (36, .p 136 0)], [(136, some (.ob (.stringIter digits5 x10)))]⟩) [(136, 136)] ⟨_, _, hm1, rfl⟩ ?_
  rintro κ _ ⟨n9, x10, hm1, rfl⟩
  cases κ with
  | zero => rw [Mfold_Number_l1.eq_1] at hm1; cases hm1
  | succ κ =>
   rw [Mfold_Number_l1.eq_2] at hm1
   refine sr ?_
   refine by_dec (p := x10 < digits5.size) (fun h => ?_) (fun h => ?_)
   ·replace hm1 := sel_t h hm1
    refine ss ?_
    obtain ⟨r11, hy, hm1⟩ := bnd_o hm1
    refine wl_1 (lo := 0) (nn := 0) (o_next_t rfl rfl rfl (of_decide_eq_true h) hy) rfl rfl rfl (fresh0 _ _) ?_
    refine ss ?_
    refine wc_seq ?_
    refine wc_cond_t rfl ?_
    refine sx ?_
    refine sr ?_
    refine wc_seq ?_
    refine wc_seq ?_
    obtain ⟨mu2, hm2, hm1⟩ := obnd_o hm1
    refine wc_cut' (fun st => ∃ (x12 : Bool), x12 = mu2 ∧ st = ⟨[(5, vB minus6), (6, vI n9), (8, .d (.c (.int .i32 (r11.1 : Int)))), (36, .p 136 0), (45, vB x12)], [(136, some (.ob (.stringIter digits5 (x10 + r11.2))))]⟩) ?_ ?_
    ·refine sr ?_
     refine wl_sg hm2 ?_ ?_ <;> clear hm2 <;> intro hm2
     ·refine ss ?_
      cases hm2
      exact wk_cutw [(136, 136)] ⟨_, rfl, rfl⟩
     refine ss ?_
     cases hm2
     exact wk_cutw [(136, 136)] ⟨_, rfl, rfl⟩
    rintro _ ⟨x12, rfl, rfl⟩
    refine ss ?_
    refine wc_cs hm1 ?_ ?_ <;> clear hm1 <;> intro hm1
    ·refine sr ?_
     refine sx ?_
     cases hm1
     replace hm := ocbnd_r hm
     cases hm
     exact wk_r
    refine sx ?_
    refine sr ?_
    refine wl_r (o_cvi (k1 := .i32) (k2 := .i64) rfl rfl (by kernel_rfl) (by kernel_rfl) rfl) rfl rfl rfl ?_
    refine ss ?_
    refine wl_r (o_add rfl rfl rfl rfl) rfl rfl rfl ?_
    refine sr ?_
    refine wc_cs hm1 ?_ ?_ <;> clear hm1 <;> intro hm1
    ·refine sr ?_
     refine sx ?_
     cases hm1
     replace hm := ocbnd_r hm
     cases hm
     exact wk_r
    refine sx ?_
    exact wk_loopw [(136, 136)] ⟨_, _, hm1, rfl⟩ (Nat.lt_succ_self _)
   replace hm1 := sel_f h hm1
   refine wl_r (o_next_f rfl rfl rfl (of_decide_eq_false h)) rfl rfl rfl ?_
   refine ss ?_
   refine wc_seq ?_
   refine wc_cond_f rfl ?_
   refine wc_exit ?_
   refine ss ?_
   cases hm1
   exact wk_cutw [] ⟨_, rfl, rfl⟩
 rintro _ ⟨n13, rfl, rfl⟩
 replace hm := ocbnd_n hm
 refine sr ?_
 refine wc_cs hm ?_ ?_ <;> clear hm <;> intro hm
 ·refine sr ?_
  refine sr ?_
  refine sx ?_
  cases hm
  exact wk_r
 refine sx ?_
 refine sr ?_
 refine sx ?_
 cases hm
 exact wk_r

structure Tsum where
  Count : Int
  Numbers : Int
  Sum : Int
  Low : Int
  High : Int
  First : ByteArray
  Last : ByteArray
  deriving DecidableEq
def Tsum.ds (x : Tsum) : List D := [dI x.Count, dI x.Numbers, dI x.Sum, dI x.Low, dI x.High, dS x.First, dS x.Last]
instance : Len Tsum.ds 7 := ⟨fun _ => rfl⟩
def Mfold_sum_add (s1 : Tsum) (r2 : Kv) : Option Tsum :=
 obnd (
  sel (decide (s1.Count = 0)) (
   some r2.key) (
   some s1.First) : Option ByteArray) fun x3 =>
 obnd (Mfold_Number r2.val) fun y4 =>
 sel (!y4.2) (
  some (Tsum.mk (i64w (s1.Count + 1)) s1.Numbers s1.Sum s1.Low s1.High x3 r2.key)) (
  obnd (
   sel (decide (s1.Numbers = 0)) (
    some true) (
    some (decide (y4.1 < s1.Low))) : Option Bool) fun x5 =>
  obnd (
   sel x5 (
    some y4.1) (
    some s1.Low) : Option Int) fun x6 =>
  obnd (
   sel (decide (s1.Numbers = 0)) (
    some true) (
    some (decide (s1.High < y4.1))) : Option Bool) fun x7 =>
  obnd (
   sel x7 (
    some y4.1) (
    some s1.High) : Option Int) fun x8 =>
  some (Tsum.mk (i64w (s1.Count + 1)) (i64w (s1.Numbers + 1)) (i64w (s1.Sum + y4.1)) x6 x8 x3 r2.key))
theorem Mfold_sum_add_sp {s1 : Tsum} {r2 : Kv} {y : Tsum} (hm : Mfold_sum_add s1 r2 = some y) : Spec Tryz.prog 64 [.p 0 0, .a [vS r2.key, vS r2.val]] [(0, some (.box 113 [vI s1.Count, vI s1.Numbers, vI s1.Sum, vI s1.Low, vI s1.High, vS s1.First, vS s1.Last]))] fun u h => u = .t [] ∧ h = [(0, some (.box 113 [vI y.Count, vI y.Numbers, vI y.Sum, vI y.Low, vI y.High, vS y.First, vS y.Last]))] := by
 refine si Tryz.func64 Tryz.ntmps64 Tryz.results64 fun B w0 ρ0 => ?_
 unfold Mfold_sum_add at hm
 refine sr ?_
 refine sr ?_
 obtain ⟨mu1, hm1, hm⟩ := obnd_o hm
 refine wc_cut' (fun st => ∃ (x3 : ByteArray), x3 = mu1 ∧ st = ⟨[(0, .p 0 0), (3, .p 103 0)], [(0, some (.box 113 [vI s1.Count, vI s1.Numbers, vI s1.Sum, vI s1.Low, vI s1.High, vS x3, vS s1.Last])), (103, some (.box 54 [vS r2.key, vS r2.val]))]⟩) ?_ ?_
 ·refine wc_cs hm1 ?_ ?_ <;> clear hm1 <;> intro hm1
  ·refine sr ?_
   cases hm1
   exact wk_cutw [(0, 0), (103, 103)] ⟨_, rfl, rfl⟩
  refine sx ?_
  cases hm1
  exact wk_cutw [(0, 0), (103, 103)] ⟨_, rfl, rfl⟩
 rintro _ ⟨x3, rfl, rfl⟩
 refine sr ?_
 refine wl_r (o_add rfl rfl rfl rfl) rfl rfl rfl ?_
 refine sr ?_
 refine sr ?_
 obtain ⟨y4, hy, hm⟩ := obnd_o hm
 refine wl_cq (Mfold_Number_sp (hm := hy)) ?_
 refine sr ?_
 refine wc_cs hm ?_ ?_ <;> clear hm <;> intro hm
 ·refine sx ?_
  cases hm
  exact wk_reti [(0, 0)] ⟨rfl, rfl⟩
 refine sx ?_
 refine wc_seq ?_
 refine wc_seq ?_
 obtain ⟨mu1, hm1, hm⟩ := obnd_o hm
 refine wc_cut' (fun st => ∃ (x5 : Bool), x5 = mu1 ∧ st = ⟨[(0, .p 0 0), (4, vI y4.1), (48, vB x5)], [(0, some (.box 113 [vI (i64w (s1.Count + 1)), vI s1.Numbers, vI s1.Sum, vI s1.Low, vI s1.High, vS x3, vS r2.key]))]⟩) ?_ ?_
 ·refine sr ?_
  refine wl_sg hm1 ?_ ?_ <;> clear hm1 <;> intro hm1
  ·refine ss ?_
   cases hm1
   exact wk_cutw [(0, 0)] ⟨_, rfl, rfl⟩
  refine ss ?_
  cases hm1
  exact wk_cutw [(0, 0)] ⟨_, rfl, rfl⟩
 rintro _ ⟨x5, rfl, rfl⟩
 refine ss ?_
 obtain ⟨mu1, hm1, hm⟩ := obnd_o hm
 refine wc_cut' (fun st => ∃ (x6 : Int), x6 = mu1 ∧ st = ⟨[(0, .p 0 0), (4, vI y4.1)], [(0, some (.box 113 [vI (i64w (s1.Count + 1)), vI s1.Numbers, vI s1.Sum, vI x6, vI s1.High, vS x3, vS r2.key]))]⟩) ?_ ?_
 ·refine wc_cs hm1 ?_ ?_ <;> clear hm1 <;> intro hm1
  ·refine sr ?_
   cases hm1
   exact wk_cutw [(0, 0)] ⟨_, rfl, rfl⟩
  refine sx ?_
  cases hm1
  exact wk_cutw [(0, 0)] ⟨_, rfl, rfl⟩
 rintro _ ⟨x6, rfl, rfl⟩
 refine ss ?_
 refine wc_seq ?_
 refine wc_seq ?_
 obtain ⟨mu1, hm1, hm⟩ := obnd_o hm
 refine wc_cut' (fun st => ∃ (x7 : Bool), x7 = mu1 ∧ st = ⟨[(0, .p 0 0), (4, vI y4.1), (65, vB x7)], [(0, some (.box 113 [vI (i64w (s1.Count + 1)), vI s1.Numbers, vI s1.Sum, vI x6, vI s1.High, vS x3, vS r2.key]))]⟩) ?_ ?_
 ·refine sr ?_
  refine wl_sg hm1 ?_ ?_ <;> clear hm1 <;> intro hm1
  ·refine ss ?_
   cases hm1
   exact wk_cutw [(0, 0)] ⟨_, rfl, rfl⟩
  refine ss ?_
  cases hm1
  exact wk_cutw [(0, 0)] ⟨_, rfl, rfl⟩
 rintro _ ⟨x7, rfl, rfl⟩
 refine ss ?_
 obtain ⟨mu1, hm1, hm⟩ := obnd_o hm
 refine wc_cut' (fun st => ∃ (x8 : Int), x8 = mu1 ∧ st = ⟨[(0, .p 0 0), (4, vI y4.1)], [(0, some (.box 113 [vI (i64w (s1.Count + 1)), vI s1.Numbers, vI s1.Sum, vI x6, vI x8, vS x3, vS r2.key]))]⟩) ?_ ?_
 ·refine wc_cs hm1 ?_ ?_ <;> clear hm1 <;> intro hm1
  ·refine sr ?_
   cases hm1
   exact wk_cutw [(0, 0)] ⟨_, rfl, rfl⟩
  refine sx ?_
  cases hm1
  exact wk_cutw [(0, 0)] ⟨_, rfl, rfl⟩
 rintro _ ⟨x8, rfl, rfl⟩
 refine sr ?_
 refine wl_r (o_add rfl rfl rfl rfl) rfl rfl rfl ?_
 refine sr ?_
 refine wl_r (o_add rfl rfl rfl rfl) rfl rfl rfl ?_
 refine ss ?_
 cases hm
 exact wk_reti_n [(0, 0)] ⟨rfl, rfl⟩

structure TFold where
  Count : Int
  Numbers : Int
  Sum : Int
  Low : Int
  High : Int
  First : ByteArray
  Last : ByteArray
  deriving DecidableEq
def TFold.ds (x : TFold) : List D := [dI x.Count, dI x.Numbers, dI x.Sum, dI x.Low, dI x.High, dS x.First, dS x.Last]
instance : Len TFold.ds 7 := ⟨fun _ => rfl⟩
def Mfold_Of_l1 : List Kv → Int → Int → Int → Int → Int → ByteArray → ByteArray → Option (Int × Int × Int × Int × Int × ByteArray × ByteArray)
  | [], s2, s3, s4, s5, s6, s7, s8 =>
  some (s2, s3, s4, s5, s6, s7, s8)
  | r9 :: xs10, s2, s3, s4, s5, s6, s7, s8 =>
  obnd (Mfold_sum_add (Tsum.mk s2 s3 s4 s5 s6 s7 s8) r9) fun y12 =>
  Mfold_Of_l1 xs10 y12.Count y12.Numbers y12.Sum y12.Low y12.High y12.First y12.Last
def Mfold_Of (rows1 : List Kv) : Option TFold :=
 obnd (
  Mfold_Of_l1 rows1 0 0 0 0 0 ⟨#[]⟩ ⟨#[]⟩ : Option (Int × Int × Int × Int × Int × ByteArray × ByteArray)) fun (s13, s14, s15, s16, s17, s18, s19) =>
 some (TFold.mk s13 s14 s15 s16 s17 s18 s19)
theorem Mfold_Of_sp {rows1 : List Kv} {y : TFold} (hm : Mfold_Of rows1 = some y) : Spec Tryz.prog 37 [.d (lst Kv.ds rows1)] [] fun u h => u = .a [vI y.Count, vI y.Numbers, vI y.Sum, vI y.Low, vI y.High, vS y.First, vS y.Last] ∧ h = [] := by
 refine si Tryz.func37 Tryz.ntmps37 Tryz.results37 fun B w0 ρ0 => ?_
 unfold Mfold_Of at hm
 refine sr ?_
 refine sr ?_
 refine sr ?_
 obtain ⟨mu1, hm1, hm⟩ := obnd_o hm
 refine wc_cut' (fun st => ∃ (s13 : Int) (s14 : Int) (s15 : Int) (s16 : Int) (s17 : Int) (s18 : ByteArray) (s19 : ByteArray), mu1 = (s13, s14, s15, s16, s17, s18, s19) ∧ st = ⟨[(2, .p 102 0), (3, .p 103 0)], [(102, some (.box 75 [vI 0, vI 0, vI 0, vI 0, vI 0, vS ⟨#[]⟩, vS ⟨#[]⟩])), (103, some (.box 113 [vI s13, vI s14, vI s15, vI s16, vI s17, vS s18, vS s19]))]⟩) ?_ ?_
 ·refine wc_block ?_
  refine wc_len 6 rfl (fun hlenm11 => ?_)
  refine wc_loopw (fun κ st => ∃ (m11 : Nat) (s2 : Int) (s3 : Int) (s4 : Int) (s5 : Int) (s6 : Int) (s7 : ByteArray) (s8 : ByteArray), κ = rows1.length - m11 ∧ m11 ≤ rows1.length ∧ Mfold_Of_l1 (rows1.drop m11) s2 s3 s4 s5 s6 s7 s8 = some mu1 ∧ st = ⟨[(2, .p 102 0), (3, .p 103 0), (6, .d (lst Kv.ds rows1)), (7, vI (rows1.length : Int)), (8, vI (m11 : Int))], [(102, some (.box 75 [vI 0, vI 0, vI 0, vI 0, vI 0, vS ⟨#[]⟩, vS ⟨#[]⟩])), (103, some (.box 113 [vI s2, vI s3, vI s4, vI s5, vI s6, vS s7, vS s8]))]⟩) [(102, 102), (103, 103)] ⟨0, _, _, _, _, _, _, _, rfl, Nat.zero_le _, hm1, rfl⟩ ?_
  rintro κ _ ⟨m11, s2, s3, s4, s5, s6, s7, s8, rfl, hlem11, hm1, rfl⟩
  rcases Nat.lt_or_ge m11 rows1.length with hltm11 | hgem11
  ·obtain ⟨r9, hxm11, hdr⟩ := drop_c hltm11
   rw [hdr, Mfold_Of_l1.eq_2] at hm1
   refine sr ?_
   refine wc_seq ?_
   refine wc_cond_tt (lt_t hltm11) rfl ?_
   refine sx ?_
   refine sr ?_
   refine wl_r (o_ixm (ys := [dS r9.key, dS r9.val]) hxm11 rfl rfl rfl rfl) rfl rfl rfl ?_
   refine sr ?_
   obtain ⟨y12, hy, hm1⟩ := obnd_o hm1
   refine wl_iq (Mfold_sum_add_sp (hm := hy)) 103 ?_
   refine sr ?_
   refine wl_r (o_inc hltm11 hlenm11 rfl rfl rfl) rfl rfl rfl ?_
   refine ss ?_
   exact wk_loopw [(102, 102), (103, 103)] ⟨m11 + 1, _, _, _, _, _, _, _, rfl, hltm11, hm1, rfl⟩ (by omega)
  ·rw [drop_n hgem11, Mfold_Of_l1.eq_1] at hm1
   refine sr ?_
   refine wc_seq ?_
   refine wc_cond_ff (lt_f hgem11) rfl ?_
   refine wc_exit ?_
   refine ss ?_
   cases hm1
   exact wk_cutw [(102, 102), (103, 103)] ⟨_, _, _, _, _, _, _, rfl, rfl⟩
 rintro _ ⟨s13, s14, s15, s16, s17, s18, s19, rfl, rfl⟩
 refine sr ?_
 refine sx ?_
 cases hm
 exact wk_r

def Mref21_Number_l1 (s5 : ByteArray) : Nat → Int → Int → Option (Ctl (Int × Bool) Int)
  | 0, _, _ => none
  | fuel + 1, n9, i10 =>
  obnd (
   sel (decide (i10 < (s5.size : Int))) (
    some (Ctl.nxt ())) (
    some (Ctl.ret (Ctl.nxt n9))) : Option (Ctl (Ctl (Int × Bool) Int) Unit)) fun mu => ocbnd mu fun (_ : Unit) =>
  obnd (
   obnd (sget s5 i10) fun b11 =>
   sel (decide (b11 < 48)) (
    some true) (
    obnd (sget s5 i10) fun b12 =>
    some (decide (57 < b12))) : Option Bool) fun x13 =>
  sel x13 (
   some (Ctl.ret (0, false))) (
   obnd (sget s5 i10) fun b14 =>
   Mref21_Number_l1 s5 fuel (i64w ((i64w (10 * n9)) + (i64w (IntKind.u8.wrap (b14 - 48))))) (i64w (i10 + 1)))
def Mref21_Number (value1 : ByteArray) : Option (Int × Bool) :=
 obnd (
  sel (decide (1 < (value1.size : Int))) (
   obnd (sget value1 0) fun b2 =>
   some (decide (b2 = 45))) (
   some false) : Option Bool) fun x3 =>
 obnd (
  sel x3 (
   obnd (ssl value1 1 (value1.size : Int)) fun s4 =>
   some (s4, true)) (
   some (value1, false)) : Option (ByteArray × Bool)) fun (s5, neg6) =>
 obnd (
  sel (decide ((s5.size : Int) = 0)) (
   some true) (
   sel (decide (13 < (s5.size : Int))) (
    some true) (
    obnd (sget s5 0) fun b7 =>
    sel (decide (b7 = 48)) (
     sel (decide (1 < (s5.size : Int))) (
      some true) (
      some neg6)) (
     some false))) : Option Bool) fun x8 =>
 sel x8 (
  some (0, false)) (
  obnd (
   Mref21_Number_l1 s5 FU 0 0 : Option (Ctl (Int × Bool) Int)) fun mu => ocbnd mu fun n15 =>
  sel (decide (1000000000000 < n15)) (
   some (0, false)) (
   sel neg6 (
    some (i64w (-n15), true)) (
    some (n15, true))))
theorem Mref21_Number_sp {value1 : ByteArray} {y : (Int × Bool)} (hm : Mref21_Number value1 = some y) : Spec Tryz.prog 95 [vS value1] [] fun u h => u = .t [vI y.1, vB y.2] ∧ h = [] := by
 refine si Tryz.func95 Tryz.ntmps95 Tryz.results95 fun B w0 ρ0 => ?_
 unfold Mref21_Number at hm
 refine sr ?_
 refine sr ?_
 refine wc_seq ?_
 refine wc_seq ?_
 obtain ⟨mu1, hm1, hm⟩ := obnd_o hm
 refine wc_cut' (fun st => ∃ (x3 : Bool), x3 = mu1 ∧ st = ⟨[(4, vS value1), (5, vB false), (16, vB x3)], []⟩) ?_ ?_
 ·refine sr ?_
  refine wl_sg hm1 ?_ ?_ <;> clear hm1 <;> intro hm1
  ·refine ss ?_
   obtain ⟨b2, hy, hm1⟩ := obnd_o hm1
   refine wl_r (o_sget hy rfl rfl rfl (by kernel_rfl)) rfl rfl rfl ?_
   refine ss ?_
   cases hm1
   exact wk_cutw [] ⟨_, rfl, rfl⟩
  refine ss ?_
  cases hm1
  exact wk_cutw [] ⟨_, rfl, rfl⟩
 rintro _ ⟨x3, rfl, rfl⟩
 refine ss ?_
 obtain ⟨mu1, hm1, hm⟩ := obnd_o hm
 refine wc_cut' (fun st => ∃ (s5 : ByteArray) (neg6 : Bool), mu1 = (s5, neg6) ∧ st = ⟨[(4, vS s5), (5, vB neg6)], []⟩) ?_ ?_
 ·refine wc_cs hm1 ?_ ?_ <;> clear hm1 <;> intro hm1
  ·refine sr ?_
   obtain ⟨s4, hy, hm1⟩ := obnd_o hm1
   refine wl_r (o_ssl hy rfl rfl (by kernel_rfl) rfl rfl) rfl rfl rfl ?_
   refine ss ?_
   cases hm1
   exact wk_cutw [] ⟨_, _, rfl, rfl⟩
  refine sx ?_
  cases hm1
  exact wk_cutw [] ⟨_, _, rfl, rfl⟩
 rintro _ ⟨s5, neg6, rfl, rfl⟩
 refine ss ?_
 refine wc_seq ?_
 refine wc_seq ?_
 obtain ⟨mu1, hm1, hm⟩ := obnd_o hm
 refine wc_cut' (fun st => ∃ (x8 : Bool), x8 = mu1 ∧ st = ⟨[(4, vS s5), (5, vB neg6), (39, vB x8)], []⟩) ?_ ?_
 ·refine sr ?_
  refine wl_sg hm1 ?_ ?_ <;> clear hm1 <;> intro hm1
  ·refine ss ?_
   cases hm1
   exact wk_cutw [] ⟨_, rfl, rfl⟩
  refine ss ?_
  refine wl_sg hm1 ?_ ?_ <;> clear hm1 <;> intro hm1
  ·refine ss ?_
   cases hm1
   exact wk_cutw [] ⟨_, rfl, rfl⟩
  refine ss ?_
  obtain ⟨b7, hy, hm1⟩ := obnd_o hm1
  refine wl_r (o_sget hy rfl rfl rfl (by kernel_rfl)) rfl rfl rfl ?_
  refine ss ?_
  refine wl_sg hm1 ?_ ?_ <;> clear hm1 <;> intro hm1
  ·refine ss ?_
   refine wl_sg hm1 ?_ ?_ <;> clear hm1 <;> intro hm1
   ·refine ss ?_
    cases hm1
    exact wk_cutw [] ⟨_, rfl, rfl⟩
   refine ss ?_
   cases hm1
   exact wk_cutw [] ⟨_, rfl, rfl⟩
  refine ss ?_
  cases hm1
  exact wk_cutw [] ⟨_, rfl, rfl⟩
 rintro _ ⟨x8, rfl, rfl⟩
 refine ss ?_
 refine wc_cs hm ?_ ?_ <;> clear hm <;> intro hm
 ·refine sr ?_
  refine sx ?_
  cases hm
  exact wk_r
 refine sx ?_
 refine sr ?_
 refine sr ?_
 obtain ⟨mu1, hm1, hm⟩ := obnd_o hm
 refine wc_cut' (fun st => ∃ (n15 : Int), mu1 = Ctl.nxt n15 ∧ st = ⟨[(5, vB neg6), (6, vI n15)], []⟩) ?_ ?_
 ·refine wc_block ?_
  refine wc_loopw (fun κ st => ∃ (n9 : Int) (i10 : Int), Mref21_Number_l1 s5 κ n9 i10 = some mu1 ∧ st = ⟨[(4, vS s5), (5, vB neg6), (6, vI n9), (7, vI i10)], []⟩) [] ⟨_, _, hm1, rfl⟩ ?_
  rintro κ _ ⟨n9, i10, hm1, rfl⟩
  cases κ with
  | zero => rw [Mref21_Number_l1.eq_1] at hm1; cases hm1
  | succ κ =>
   rw [Mref21_Number_l1.eq_2] at hm1
   refine sr ?_
   obtain ⟨mu2, hm2, hm1⟩ := obnd_o hm1
   refine wc_cut' (fun st => mu2 = Ctl.nxt () ∧ st = ⟨[(4, vS s5), (5, vB neg6), (6, vI n9), (7, vI i10)], []⟩) ?_ ?_
   ·refine wc_cs hm2 ?_ ?_ <;> clear hm2 <;> intro hm2
    ·refine sx ?_
     cases hm2
     exact wk_cutw [] ⟨rfl, rfl⟩
    refine wc_exit ?_
    refine ss ?_
    cases hm2
    replace hm1 := ocbnd_r hm1
    cases hm1
    exact wk_cutw [] ⟨_, rfl, rfl⟩
   rintro _ ⟨rfl, rfl⟩
   replace hm1 := ocbnd_n hm1
   refine ss ?_
   refine wc_seq ?_
   refine wc_block ?_
   refine wc_seq ?_
   refine wc_seq ?_
   obtain ⟨mu2, hm2, hm1⟩ := obnd_o hm1
   refine wc_cut' (fun st => ∃ (x13 : Bool), x13 = mu2 ∧ st = ⟨[(4, vS s5), (5, vB neg6), (6, vI n9), (7, vI i10), (55, vB x13)], []⟩) ?_ ?_
   ·refine sr ?_
    obtain ⟨b11, hy, hm2⟩ := obnd_o hm2
    refine wl_r (o_sget hy rfl rfl rfl (by kernel_rfl)) rfl rfl rfl ?_
    refine ss ?_
    refine wl_sg hm2 ?_ ?_ <;> clear hm2 <;> intro hm2
    ·refine ss ?_
     cases hm2
     exact wk_cutw [] ⟨_, rfl, rfl⟩
    refine ss ?_
    obtain ⟨b12, hy, hm2⟩ := obnd_o hm2
    refine wl_r (o_sget hy rfl rfl rfl (by kernel_rfl)) rfl rfl rfl ?_
    refine ss ?_
    cases hm2
    exact wk_cutw [] ⟨_, rfl, rfl⟩
   rintro _ ⟨x13, rfl, rfl⟩
   refine ss ?_
   refine wc_cs hm1 ?_ ?_ <;> clear hm1 <;> intro hm1
   ·refine sr ?_
    refine sx ?_
    cases hm1
    replace hm := ocbnd_r hm
    cases hm
    exact wk_r
   refine sx ?_
   refine sr ?_
   obtain ⟨b14, hy, hm1⟩ := obnd_o hm1
   refine wl_r (o_sget hy rfl rfl rfl (by kernel_rfl)) rfl rfl rfl ?_
   refine ss ?_
   refine wl_r (o_cvi (k1 := .u8) (k2 := .i64) rfl rfl (by kernel_rfl) (by kernel_rfl) rfl) rfl rfl rfl ?_
   refine ss ?_
   refine wl_r (o_add rfl rfl rfl rfl) rfl rfl rfl ?_
   refine sr ?_
   refine wl_r (o_add rfl rfl rfl rfl) rfl rfl rfl ?_
   refine ss ?_
   exact wk_loopw [] ⟨_, _, hm1, rfl⟩ (Nat.lt_succ_self _)
 rintro _ ⟨n15, rfl, rfl⟩
 replace hm := ocbnd_n hm
 refine sr ?_
 refine wc_cs hm ?_ ?_ <;> clear hm <;> intro hm
 ·refine sr ?_
  refine sx ?_
  cases hm
  exact wk_r
 refine sx ?_
 refine sr ?_
 refine wc_cs hm ?_ ?_ <;> clear hm <;> intro hm
 ·refine sr ?_
  refine sr ?_
  refine sx ?_
  cases hm
  exact wk_r
 refine sx ?_
 refine sr ?_
 refine sx ?_
 cases hm
 exact wk_r

def Mref21_one (r1 : Kv) : Option TFold :=
 obnd (Mref21_Number r1.val) fun y2 =>
 sel y2.2 (
  some (TFold.mk 1 1 y2.1 y2.1 y2.1 r1.key r1.key)) (
  some (TFold.mk 1 0 0 0 0 r1.key r1.key))
theorem Mref21_one_sp {r1 : Kv} {y : TFold} (hm : Mref21_one r1 = some y) : Spec Tryz.prog 77 [.a [vS r1.key, vS r1.val]] [] fun u h => u = .a [vI y.Count, vI y.Numbers, vI y.Sum, vI y.Low, vI y.High, vS y.First, vS y.Last] ∧ h = [] := by
 refine si Tryz.func77 Tryz.ntmps77 Tryz.results77 fun B w0 ρ0 => ?_
 unfold Mref21_one at hm
 refine sr ?_
 refine sr ?_
 refine sr ?_
 obtain ⟨y2, hy, hm⟩ := obnd_o hm
 refine wl_cq (Mref21_Number_sp (hm := hy)) ?_
 refine sr ?_
 refine wc_cs hm ?_ ?_ <;> clear hm <;> intro hm
 ·refine sr ?_
  refine sr ?_
  refine sx ?_
  cases hm
  exact wk_r
 refine sx ?_
 refine sr ?_
 refine sx ?_
 cases hm
 exact wk_r

def Mref21_Join (a1 : TFold) (b2 : TFold) : TFold :=
 bnd (
  sel (decide (b2.Numbers = 0)) (
   (a1.Low, a1.High)) (
   (min a1.Low b2.Low, max a1.High b2.High)) : (Int × Int)) fun (f3, f4) =>
 bnd (
  sel (decide (a1.Numbers = 0)) (
   (b2.Low, b2.High)) (
   (f3, f4)) : (Int × Int)) fun (f5, f6) =>
 bnd (
  sel (decide (a1.Count = 0)) (
   b2.First) (
   a1.First) : ByteArray) fun f7 =>
 sel (decide (b2.Count = 0)) (
  (TFold.mk (i64w (a1.Count + b2.Count)) (i64w (a1.Numbers + b2.Numbers)) (i64w (a1.Sum + b2.Sum)) f5 f6 f7 a1.Last)) (
  (TFold.mk (i64w (a1.Count + b2.Count)) (i64w (a1.Numbers + b2.Numbers)) (i64w (a1.Sum + b2.Sum)) f5 f6 f7 b2.Last))
theorem Mref21_Join_sp {a1 : TFold} {b2 : TFold} {y : TFold} (hm : Mref21_Join a1 b2 = y) : Spec Tryz.prog 76 [.a [vI a1.Count, vI a1.Numbers, vI a1.Sum, vI a1.Low, vI a1.High, vS a1.First, vS a1.Last], .a [vI b2.Count, vI b2.Numbers, vI b2.Sum, vI b2.Low, vI b2.High, vS b2.First, vS b2.Last]] [] fun u h => u = .a [vI y.Count, vI y.Numbers, vI y.Sum, vI y.Low, vI y.High, vS y.First, vS y.Last] ∧ h = [] := by
 refine si Tryz.func76 Tryz.ntmps76 Tryz.results76 fun B w0 ρ0 => ?_
 unfold Mref21_Join at hm
 refine sr ?_
 refine sr ?_
 refine wl_r (o_add rfl rfl rfl rfl) rfl rfl rfl ?_
 refine ss ?_
 refine wl_r (o_add rfl rfl rfl rfl) rfl rfl rfl ?_
 refine ss ?_
 refine wl_r (o_add rfl rfl rfl rfl) rfl rfl rfl ?_
 refine sr ?_
 obtain ⟨mu1, hm1, hm⟩ := bnd_o hm
 refine wc_cut' (fun st => ∃ (f3 : Int) (f4 : Int), mu1 = (f3, f4) ∧ st = ⟨[(2, .p 102 0), (3, .p 103 0), (4, .p 104 0), (5, .p 105 0)], [(102, some (.box 75 [vI a1.Count, vI a1.Numbers, vI a1.Sum, vI a1.Low, vI a1.High, vS a1.First, vS a1.Last])), (103, some (.box 75 [vI b2.Count, vI b2.Numbers, vI b2.Sum, vI b2.Low, vI b2.High, vS b2.First, vS b2.Last])), (104, some (.box 75 [vI 0, vI 0, vI 0, vI 0, vI 0, vS ⟨#[]⟩, vS ⟨#[]⟩])), (105, some (.box 75 [vI (i64w (a1.Count + b2.Count)), vI (i64w (a1.Numbers + b2.Numbers)), vI (i64w (a1.Sum + b2.Sum)), vI f3, vI f4, vS a1.First, vS b2.Last]))]⟩) ?_ ?_
 ·refine wc_cs hm1 ?_ ?_ <;> clear hm1 <;> intro hm1
  ·refine wc_draw (id := 3) [⟨0, 0, [2]⟩, ⟨1, 1, [39]⟩, ⟨2, 0, [2]⟩, ⟨3, 4, [41]⟩, ⟨4, 3, [5]⟩, ⟨5, 19, [40, 43]⟩, ⟨6, 63, [5]⟩, ⟨7, 127, [42, 44]⟩] mixed (by kernel_rfl) ?_
   refine ss ?_
   subst hm1
   exact wk_cutw [(102, 102), (103, 103), (104, 104), (105, 105)] ⟨_, _, rfl, rfl⟩
  refine sx ?_
  subst hm1
  exact wk_cutw [(102, 102), (103, 103), (104, 104), (105, 105)] ⟨_, _, rfl, rfl⟩
 rintro _ ⟨f3, f4, rfl, rfl⟩
 refine sr ?_
 obtain ⟨mu1, hm1, hm⟩ := bnd_o hm
 refine wc_cut' (fun st => ∃ (f5 : Int) (f6 : Int), mu1 = (f5, f6) ∧ st = ⟨[(2, .p 102 0), (3, .p 103 0), (4, .p 104 0), (5, .p 105 0)], [(102, some (.box 75 [vI a1.Count, vI a1.Numbers, vI a1.Sum, vI a1.Low, vI a1.High, vS a1.First, vS a1.Last])), (103, some (.box 75 [vI b2.Count, vI b2.Numbers, vI b2.Sum, vI b2.Low, vI b2.High, vS b2.First, vS b2.Last])), (104, some (.box 75 [vI 0, vI 0, vI 0, vI 0, vI 0, vS ⟨#[]⟩, vS ⟨#[]⟩])), (105, some (.box 75 [vI (i64w (a1.Count + b2.Count)), vI (i64w (a1.Numbers + b2.Numbers)), vI (i64w (a1.Sum + b2.Sum)), vI f5, vI f6, vS a1.First, vS b2.Last]))]⟩) ?_ ?_
 ·refine wc_cs hm1 ?_ ?_ <;> clear hm1 <;> intro hm1
  ·refine wc_draw (id := 5) [⟨0, 0, [3]⟩, ⟨1, 1, [48]⟩, ⟨2, 0, [3]⟩, ⟨3, 4, [50]⟩, ⟨4, 3, [5]⟩, ⟨5, 19, [49, 52]⟩, ⟨6, 63, [5]⟩, ⟨7, 127, [51, 53]⟩] mixed (by kernel_rfl) ?_
   refine ss ?_
   subst hm1
   exact wk_cutw [(102, 102), (103, 103), (104, 104), (105, 105)] ⟨_, _, rfl, rfl⟩
  refine sx ?_
  subst hm1
  exact wk_cutw [(102, 102), (103, 103), (104, 104), (105, 105)] ⟨_, _, rfl, rfl⟩
 rintro _ ⟨f5, f6, rfl, rfl⟩
 refine sr ?_
 obtain ⟨mu1, hm1, hm⟩ := bnd_o hm
 refine wc_cut' (fun st => ∃ (f7 : ByteArray), f7 = mu1 ∧ st = ⟨[(2, .p 102 0), (3, .p 103 0), (4, .p 104 0), (5, .p 105 0)], [(102, some (.box 75 [vI a1.Count, vI a1.Numbers, vI a1.Sum, vI a1.Low, vI a1.High, vS a1.First, vS a1.Last])), (103, some (.box 75 [vI b2.Count, vI b2.Numbers, vI b2.Sum, vI b2.Low, vI b2.High, vS b2.First, vS b2.Last])), (104, some (.box 75 [vI 0, vI 0, vI 0, vI 0, vI 0, vS ⟨#[]⟩, vS ⟨#[]⟩])), (105, some (.box 75 [vI (i64w (a1.Count + b2.Count)), vI (i64w (a1.Numbers + b2.Numbers)), vI (i64w (a1.Sum + b2.Sum)), vI f5, vI f6, vS f7, vS b2.Last]))]⟩) ?_ ?_
 ·refine wc_cs hm1 ?_ ?_ <;> clear hm1 <;> intro hm1
  ·refine sr ?_
   subst hm1
   exact wk_cutw [(102, 102), (103, 103), (104, 104), (105, 105)] ⟨_, rfl, rfl⟩
  refine sx ?_
  subst hm1
  exact wk_cutw [(102, 102), (103, 103), (104, 104), (105, 105)] ⟨_, rfl, rfl⟩
 rintro _ ⟨f7, rfl, rfl⟩
 refine sr ?_
 refine wc_cs hm ?_ ?_ <;> clear hm <;> intro hm
 ·refine sr ?_
  refine sr ?_
  refine sx ?_
  subst hm
  exact wk_r
 refine sx ?_
 refine sr ?_
 refine sx ?_
 subst hm
 exact wk_r

def Mref21_Of_l1 : List Kv → Int → Int → Int → Int → Int → ByteArray → ByteArray → Option (Int × Int × Int × Int × Int × ByteArray × ByteArray)
  | [], f2, f3, f4, f5, f6, f7, f8 =>
  some (f2, f3, f4, f5, f6, f7, f8)
  | r9 :: xs10, f2, f3, f4, f5, f6, f7, f8 =>
  obnd (Mref21_one r9) fun y12 =>
  bnd (Mref21_Join (TFold.mk f2 f3 f4 f5 f6 f7 f8) y12) fun y13 =>
  Mref21_Of_l1 xs10 y13.Count y13.Numbers y13.Sum y13.Low y13.High y13.First y13.Last
def Mref21_Of (rows1 : List Kv) : Option TFold :=
 obnd (
  Mref21_Of_l1 rows1 0 0 0 0 0 ⟨#[]⟩ ⟨#[]⟩ : Option (Int × Int × Int × Int × Int × ByteArray × ByteArray)) fun (f14, f15, f16, f17, f18, f19, f20) =>
 some (TFold.mk f14 f15 f16 f17 f18 f19 f20)
theorem Mref21_Of_sp {rows1 : List Kv} {y : TFold} (hm : Mref21_Of rows1 = some y) : Spec Tryz.prog 46 [.d (lst Kv.ds rows1)] [] fun u h => u = .a [vI y.Count, vI y.Numbers, vI y.Sum, vI y.Low, vI y.High, vS y.First, vS y.Last] ∧ h = [] := by
 refine si Tryz.func46 Tryz.ntmps46 Tryz.results46 fun B w0 ρ0 => ?_
 unfold Mref21_Of at hm
 refine sr ?_
 refine sr ?_
 refine sr ?_
 obtain ⟨mu1, hm1, hm⟩ := obnd_o hm
 refine wc_cut' (fun st => ∃ (f14 : Int) (f15 : Int) (f16 : Int) (f17 : Int) (f18 : Int) (f19 : ByteArray) (f20 : ByteArray), mu1 = (f14, f15, f16, f17, f18, f19, f20) ∧ st = ⟨[(2, .p 102 0), (3, .p 103 0)], [(102, some (.box 75 [vI 0, vI 0, vI 0, vI 0, vI 0, vS ⟨#[]⟩, vS ⟨#[]⟩])), (103, some (.box 75 [vI f14, vI f15, vI f16, vI f17, vI f18, vS f19, vS f20]))]⟩) ?_ ?_
 ·refine wc_block ?_
  refine wc_len 6 rfl (fun hlenm11 => ?_)
  refine wc_loopw (fun κ st => ∃ (m11 : Nat) (f2 : Int) (f3 : Int) (f4 : Int) (f5 : Int) (f6 : Int) (f7 : ByteArray) (f8 : ByteArray), κ = rows1.length - m11 ∧ m11 ≤ rows1.length ∧ Mref21_Of_l1 (rows1.drop m11) f2 f3 f4 f5 f6 f7 f8 = some mu1 ∧ st = ⟨[(2, .p 102 0), (3, .p 103 0), (6, .d (lst Kv.ds rows1)), (7, vI (rows1.length : Int)), (8, vI (m11 : Int))], [(102, some (.box 75 [vI 0, vI 0, vI 0, vI 0, vI 0, vS ⟨#[]⟩, vS ⟨#[]⟩])), (103, some (.box 75 [vI f2, vI f3, vI f4, vI f5, vI f6, vS f7, vS f8]))]⟩) [(102, 102), (103, 103)] ⟨0, _, _, _, _, _, _, _, rfl, Nat.zero_le _, hm1, rfl⟩ ?_
  rintro κ _ ⟨m11, f2, f3, f4, f5, f6, f7, f8, rfl, hlem11, hm1, rfl⟩
  rcases Nat.lt_or_ge m11 rows1.length with hltm11 | hgem11
  ·obtain ⟨r9, hxm11, hdr⟩ := drop_c hltm11
   rw [hdr, Mref21_Of_l1.eq_2] at hm1
   refine sr ?_
   refine wc_seq ?_
   refine wc_cond_tt (lt_t hltm11) rfl ?_
   refine sx ?_
   refine sr ?_
   refine wl_r (o_ixm (ys := [dS r9.key, dS r9.val]) hxm11 rfl rfl rfl rfl) rfl rfl rfl ?_
   refine ss ?_
   refine wc_draw (id := 5) [⟨0, 0, [3]⟩, ⟨1, 0, [5]⟩, ⟨2, 2, [13]⟩, ⟨3, 7, [12, 14]⟩, ⟨4, 15, [3, 15]⟩] mixed (by kernel_rfl) ?_
   refine ss ?_
   obtain ⟨y12, hy, hm1⟩ := obnd_o hm1
   refine wd_cs (Mref21_one_sp (hm := hy)) rfl rfl rfl (by repeat (first | exact Vws.nil | apply Vws.cons | exact Vw.nil | exact Vw.d _ | exact Vw.q _ | apply Vw.a)) rfl rfl (by first | exact .no rfl | exact .y rfl rfl rfl rfl) rfl rfl rfl ?_
   refine ss ?_
   obtain ⟨y13, hy, hm1⟩ := bnd_o hm1
   refine wd_cs (Mref21_Join_sp (hm := hy)) rfl rfl rfl (by repeat (first | exact Vws.nil | apply Vws.cons | exact Vw.nil | exact Vw.d _ | exact Vw.q _ | apply Vw.a)) rfl rfl (by first | exact .no rfl | exact .y rfl rfl rfl rfl) rfl rfl rfl ?_
   refine sr ?_
   refine wl_r (o_inc hltm11 hlenm11 rfl rfl rfl) rfl rfl rfl ?_
   refine ss ?_
   exact wk_loopw [(102, 102), (103, 103)] ⟨m11 + 1, _, _, _, _, _, _, _, rfl, hltm11, hm1, rfl⟩ (by omega)
  ·rw [drop_n hgem11, Mref21_Of_l1.eq_1] at hm1
   refine sr ?_
   refine wc_seq ?_
   refine wc_cond_ff (lt_f hgem11) rfl ?_
   refine wc_exit ?_
   refine ss ?_
   cases hm1
   exact wk_cutw [(102, 102), (103, 103)] ⟨_, _, _, _, _, _, _, rfl, rfl⟩
 rintro _ ⟨f14, f15, f16, f17, f18, f19, f20, rfl, rfl⟩
 refine sr ?_
 refine sx ?_
 cases hm
 exact wk_r

structure TQuery where
  Kind : Int
  Ranges : List Rng
  Key : ByteArray
  Count : Int
  deriving DecidableEq
def TQuery.ds (x : TQuery) : List D := [dI x.Kind, lst Rng.ds x.Ranges, dS x.Key, dI x.Count]
instance : Len TQuery.ds 4 := ⟨fun _ => rfl⟩
def Mquery_Down (q1 : TQuery) : Bool :=
 decide (q1.Kind = 4)
theorem Mquery_Down_sp {q1 : TQuery} {y : Bool} (hm : Mquery_Down q1 = y) : Spec Tryz.prog 59 [.a [vI q1.Kind, .d (lst Rng.ds q1.Ranges), vS q1.Key, vI q1.Count]] [] fun u h => u = vB y ∧ h = [] := by
 refine si Tryz.func59 Tryz.ntmps59 Tryz.results59 fun B w0 ρ0 => ?_
 unfold Mquery_Down at hm
 refine sr ?_
 refine sr ?_
 refine sx ?_
 subst hm
 exact wk_r

def Mquery_counted (kind1 : Int) : Bool :=
 sel (decide (kind1 = 3)) (
  true) (
  decide (kind1 = 4))
theorem Mquery_counted_sp {kind1 : Int} {y : Bool} (hm : Mquery_counted kind1 = y) : Spec Tryz.prog 82 [vI kind1] [] fun u h => u = vB y ∧ h = [] := by
 refine si Tryz.func82 Tryz.ntmps82 Tryz.results82 fun B w0 ρ0 => ?_
 unfold Mquery_counted at hm
 refine sr ?_
 refine sr ?_
 refine wl_sg hm ?_ ?_ <;> clear hm <;> intro hm
 ·refine sx ?_
  subst hm
  exact wk_r
 refine sx ?_
 subst hm
 exact wk_r

def Mquery_Enough (q1 : TQuery) (n2 : Int) : Bool :=
 bnd (Mquery_counted q1.Kind) fun y3 =>
 sel y3 (
  decide (q1.Count ≤ n2)) (
  false)
theorem Mquery_Enough_sp {q1 : TQuery} {n2 : Int} {y : Bool} (hm : Mquery_Enough q1 n2 = y) : Spec Tryz.prog 58 [.a [vI q1.Kind, .d (lst Rng.ds q1.Ranges), vS q1.Key, vI q1.Count], vI n2] [] fun u h => u = vB y ∧ h = [] := by
 refine si Tryz.func58 Tryz.ntmps58 Tryz.results58 fun B w0 ρ0 => ?_
 unfold Mquery_Enough at hm
 refine sr ?_
 refine sr ?_
 obtain ⟨y3, hy, hm⟩ := bnd_o hm
 refine wl_cq (Mquery_counted_sp (hm := hy)) ?_
 refine ss ?_
 refine wl_sg hm ?_ ?_ <;> clear hm <;> intro hm
 ·refine sx ?_
  subst hm
  exact wk_r
 refine sx ?_
 subst hm
 exact wk_r


def Mquery_Same_l1 (b2 : TQuery) : List Rng → Int → Option (Ctl Bool Unit)
  | [], i =>
  some (Ctl.nxt ())
  | r4 :: xs5, i =>
  obnd (lget b2.Ranges i) fun e7 =>
  sel (!(decide (r4.lo.key = e7.lo.key) && decide (r4.lo.top = e7.lo.top) && decide (r4.hi.key = e7.hi.key) && decide (r4.hi.top = e7.hi.top))) (
   some (Ctl.ret false)) (
   Mquery_Same_l1 b2 xs5 (i + 1))
def Mquery_Same (a1 : TQuery) (b2 : TQuery) : Option Bool :=
 obnd (
  sel (!decide (a1.Kind = b2.Kind)) (
   some true) (
   sel (!decide (a1.Key = b2.Key)) (
    some true) (
    sel (!decide (a1.Count = b2.Count)) (
     some true) (
     some (!decide ((a1.Ranges.length : Int) = (b2.Ranges.length : Int)))))) : Option Bool) fun x3 =>
 sel x3 (
  some false) (
  obnd (
   Mquery_Same_l1 b2 a1.Ranges 0 : Option (Ctl Bool Unit)) fun mu => ocbnd mu fun (_ : Unit) =>
  some true)
theorem Mquery_Same_sp {a1 : TQuery} {b2 : TQuery} {y : Bool} (hm : Mquery_Same a1 b2 = some y) : Spec Tryz.prog 20 [.a [vI a1.Kind, .d (lst Rng.ds a1.Ranges), vS a1.Key, vI a1.Count], .a [vI b2.Kind, .d (lst Rng.ds b2.Ranges), vS b2.Key, vI b2.Count]] [] fun u h => u = vB y ∧ h = [] := by
 refine si Tryz.func20 Tryz.ntmps20 Tryz.results20 fun B w0 ρ0 => ?_
 unfold Mquery_Same at hm
 refine sr ?_
 refine wc_seq ?_
 refine wc_seq ?_
 obtain ⟨mu1, hm1, hm⟩ := obnd_o hm
 refine wc_cut' (fun st => ∃ (x3 : Bool), x3 = mu1 ∧ st = ⟨[(2, .p 102 0), (3, .p 103 0), (34, vB x3)], [(102, some (.box 29 [vI a1.Kind, .d (lst Rng.ds a1.Ranges), vS a1.Key, vI a1.Count])), (103, some (.box 29 [vI b2.Kind, .d (lst Rng.ds b2.Ranges), vS b2.Key, vI b2.Count]))]⟩) ?_ ?_
 ·refine sr ?_
  refine wl_sg hm1 ?_ ?_ <;> clear hm1 <;> intro hm1
  ·refine ss ?_
   cases hm1
   exact wk_cutw [(102, 102), (103, 103)] ⟨_, rfl, rfl⟩
  refine ss ?_
  refine wl_sg hm1 ?_ ?_ <;> clear hm1 <;> intro hm1
  ·refine ss ?_
   cases hm1
   exact wk_cutw [(102, 102), (103, 103)] ⟨_, rfl, rfl⟩
  refine ss ?_
  refine wl_sg hm1 ?_ ?_ <;> clear hm1 <;> intro hm1
  ·refine ss ?_
   cases hm1
   exact wk_cutw [(102, 102), (103, 103)] ⟨_, rfl, rfl⟩
  refine ss ?_
  cases hm1
  exact wk_cutw [(102, 102), (103, 103)] ⟨_, rfl, rfl⟩
 rintro _ ⟨x3, rfl, rfl⟩
 refine ss ?_
 refine wc_cs hm ?_ ?_ <;> clear hm <;> intro hm
 ·refine sr ?_
  refine sx ?_
  cases hm
  exact wk_r
 refine sx ?_
 refine sr ?_
 obtain ⟨mu1, hm1, hm⟩ := obnd_o hm
 refine wc_cut' (fun st => mu1 = Ctl.nxt () ∧ st = ⟨[], []⟩) ?_ ?_
 ·refine wc_block ?_
  refine wc_len 36 rfl (fun hlenm6 => ?_)
  refine wc_loopw (fun κ st => ∃ (m6 : Nat) , κ = a1.Ranges.length - m6 ∧ m6 ≤ a1.Ranges.length ∧ Mquery_Same_l1 b2 (a1.Ranges.drop m6) (m6 : Int) = some mu1 ∧ st = ⟨[(3, .p 103 0), (36, .d (lst Rng.ds a1.Ranges)), (37, vI (a1.Ranges.length : Int)), (38, vI (m6 : Int))], [(103, some (.box 29 [vI b2.Kind, .d (lst Rng.ds b2.Ranges), vS b2.Key, vI b2.Count]))]⟩) [(103, 103)] ⟨0, rfl, Nat.zero_le _, hm1, rfl⟩ ?_
  rintro κ _ ⟨m6, rfl, hlem6, hm1, rfl⟩
  rcases Nat.lt_or_ge m6 a1.Ranges.length with hltm6 | hgem6
  ·obtain ⟨r4, hxm6, hdr⟩ := drop_c hltm6
   rw [hdr, Mquery_Same_l1.eq_2] at hm1
   refine sr ?_
   refine wc_seq ?_
   refine wc_cond_tt (lt_t hltm6) rfl ?_
   refine sx ?_
   refine sr ?_
   refine wl_r (o_ixm (ys := [dS r4.lo.key, dB r4.lo.top, dS r4.hi.key, dB r4.hi.top]) hxm6 rfl rfl rfl rfl) rfl rfl rfl ?_
   refine ss ?_
   refine wc_seq ?_
   refine wc_draw (id := 6) [⟨0, 0, [6]⟩, ⟨1, 0, [3]⟩, ⟨2, 2, [44]⟩, ⟨3, 0, [5]⟩, ⟨4, 14, [45, 46]⟩, ⟨5, 30, [47]⟩, ⟨6, 63, [43, 48]⟩] mixed (by kernel_rfl) ?_
   refine ss ?_
   obtain ⟨e7, hy, hm1⟩ := obnd_o hm1
   refine wd_r [] (o_ixg (ys := [dS e7.lo.key, dB e7.lo.top, dS e7.hi.key, dB e7.hi.top]) hy rfl rfl rfl rfl) rfl (by first | exact .no rfl | exact .y rfl rfl rfl rfl) rfl rfl ?_
   refine ss ?_
   refine wc_cs hm1 ?_ ?_ <;> clear hm1 <;> intro hm1
   ·refine sr ?_
    refine sx ?_
    cases hm1
    replace hm := ocbnd_r hm
    cases hm
    exact wk_r
   refine sx ?_
   refine sr ?_
   refine wl_r (o_inc hltm6 hlenm6 rfl rfl rfl) rfl rfl rfl ?_
   refine ss ?_
   exact wk_loopw [(103, 103)] ⟨m6 + 1, rfl, hltm6, hm1, rfl⟩ (by omega)
  ·rw [drop_n hgem6, Mquery_Same_l1.eq_1] at hm1
   refine sr ?_
   refine wc_seq ?_
   refine wc_cond_ff (lt_f hgem6) rfl ?_
   refine wc_exit ?_
   refine ss ?_
   cases hm1
   exact wk_cutw [] ⟨rfl, rfl⟩
 rintro _ ⟨rfl, rfl⟩
 replace hm := ocbnd_n hm
 refine sr ?_
 refine sx ?_
 cases hm
 exact wk_r

def Mclone_List_api_Row_ (l1 : List Kv) : Option (List Kv) :=
 obnd (app ([] : List Kv) l1) fun l2 =>
 some l2
theorem Mclone_List_api_Row__sp {l1 : List Kv} {y : List Kv} (hm : Mclone_List_api_Row_ l1 = some y) : Spec Tryz.prog 62 [.d (lst Kv.ds l1)] [] fun u h => u = .d (lst Kv.ds y) ∧ h = [] := by
 refine si Tryz.func62 Tryz.ntmps62 Tryz.results62 fun B w0 ρ0 => ?_
 unfold Mclone_List_api_Row_ at hm
 refine sr ?_
 refine sr ?_
 obtain ⟨l2, hy, hm⟩ := obnd_o hm
 refine wl_1 (n_appn (k := 104) hy rfl rfl rfl rfl rfl rfl) rfl rfl rfl rfl ?_
 refine sx ?_
 cases hm
 exact wk_r

def Mquery_Take (q1 : TQuery) (rows2 : List Kv) : Option (List Kv) :=
 sel (decide (q1.Kind = 3)) (
  obnd (lsl rows2 0 (min (max q1.Count 0) (rows2.length : Int))) fun l3 =>
  obnd (Mclone_List_api_Row_ l3) fun y4 =>
  some y4) (
  sel (decide (q1.Kind = 4)) (
   obnd (lsl rows2 (i64w ((rows2.length : Int) - (min (max q1.Count 0) (rows2.length : Int)))) (rows2.length : Int)) fun l5 =>
   obnd (Mclone_List_api_Row_ l5) fun y6 =>
   some y6) (
   obnd (Mclone_List_api_Row_ rows2) fun y7 =>
   some y7))
theorem Mquery_Take_sp {q1 : TQuery} {rows2 : List Kv} {y : List Kv} (hm : Mquery_Take q1 rows2 = some y) : Spec Tryz.prog 35 [.a [vI q1.Kind, .d (lst Rng.ds q1.Ranges), vS q1.Key, vI q1.Count], .d (lst Kv.ds rows2)] [] fun u h => u = .d (lst Kv.ds y) ∧ h = [] := by
 refine si Tryz.func35 Tryz.ntmps35 Tryz.results35 fun B w0 ρ0 => ?_
 unfold Mquery_Take at hm
 refine sr ?_
 refine sr ?_
 refine sr ?_
 refine sr ?_
 refine wc_cs hm ?_ ?_ <;> clear hm <;> intro hm
 ·refine sr ?_
  obtain ⟨l3, hy, hm⟩ := obnd_o hm
  refine wl_r (o_lsl hy rfl rfl rfl rfl) rfl rfl rfl ?_
  refine sr ?_
  obtain ⟨y4, hy, hm⟩ := obnd_o hm
  refine wl_cq (Mclone_List_api_Row__sp (hm := hy)) ?_
  refine sx ?_
  cases hm
  exact wk_r
 refine sr ?_
 refine wc_cs hm ?_ ?_ <;> clear hm <;> intro hm
 ·refine sr ?_
  obtain ⟨l5, hy, hm⟩ := obnd_o hm
  refine wl_r (o_lsl hy rfl rfl rfl rfl) rfl rfl rfl ?_
  refine sr ?_
  obtain ⟨y6, hy, hm⟩ := obnd_o hm
  refine wl_cq (Mclone_List_api_Row__sp (hm := hy)) ?_
  refine sx ?_
  cases hm
  exact wk_r
 refine sx ?_
 refine sr ?_
 obtain ⟨y7, hy, hm⟩ := obnd_o hm
 refine wl_cq (Mclone_List_api_Row__sp (hm := hy)) ?_
 refine sx ?_
 cases hm
 exact wk_r

def Mref22_Check_l1 : List Rng → Ctl Int Unit
  | [] =>
  Ctl.nxt ()
  | r3 :: xs4 =>
  bnd (Mref1_Valid r3) fun y6 =>
  sel (!y6) (
   Ctl.ret 1) (
   Mref22_Check_l1 xs4)
def Mref22_Check (q1 : TQuery) : Int :=
 bnd (
  sel (decide (q1.Kind < 1)) (
   true) (
   decide (4 < q1.Kind)) : Bool) fun x2 =>
 sel x2 (
  1) (
  sel (decide (64 < (q1.Ranges.length : Int))) (
   3) (
   bnd (
    Mref22_Check_l1 q1.Ranges : Ctl Int Unit) fun mu => cbnd mu fun (_ : Unit) =>
   bnd (
    bnd (Mref1_ValidKey q1.Key) fun y7 =>
    sel (!y7) (
     true) (
     sel (decide (0 < (q1.Ranges.length : Int))) (
      sel (!decide (q1.Kind = 1)) (
       true) (
       sel (!decide (q1.Key = ⟨#[]⟩)) (
        decide (q1.Kind = 1)) (
        false))) (
      sel (!decide (q1.Key = ⟨#[]⟩)) (
       decide (q1.Kind = 1)) (
       false))) : Bool) fun x8 =>
   sel x8 (
    1) (
    bnd (
     sel (decide (q1.Kind = 3)) (
      true) (
      decide (q1.Kind = 4)) : Bool) fun counts9 =>
    sel counts9 (
     sel (decide (q1.Count < 1)) (
      2) (
      sel (decide (1024 < q1.Count)) (
       2) (
       sel (!counts9) (
        sel (!decide (q1.Count = 0)) (
         2) (
         0)) (
        0)))) (
     sel (!counts9) (
      sel (!decide (q1.Count = 0)) (
       2) (
       0)) (
      0)))))
theorem Mref22_Check_sp {q1 : TQuery} {y : Int} (hm : Mref22_Check q1 = y) : Spec Tryz.prog 66 [.a [vI q1.Kind, .d (lst Rng.ds q1.Ranges), vS q1.Key, vI q1.Count]] [] fun u h => u = vI y ∧ h = [] := by
 refine si Tryz.func66 Tryz.ntmps66 Tryz.results66 fun B w0 ρ0 => ?_
 unfold Mref22_Check at hm
 refine sr ?_
 refine wc_seq ?_
 refine wc_seq ?_
 obtain ⟨mu1, hm1, hm⟩ := bnd_o hm
 refine wc_cut' (fun st => ∃ (x2 : Bool), x2 = mu1 ∧ st = ⟨[(1, .p 101 0), (13, vB x2)], [(101, some (.box 29 [vI q1.Kind, .d (lst Rng.ds q1.Ranges), vS q1.Key, vI q1.Count]))]⟩) ?_ ?_
 ·refine sr ?_
  refine wl_sg hm1 ?_ ?_ <;> clear hm1 <;> intro hm1
  ·refine ss ?_
   subst hm1
   exact wk_cutw [(101, 101)] ⟨_, rfl, rfl⟩
  refine ss ?_
  subst hm1
  exact wk_cutw [(101, 101)] ⟨_, rfl, rfl⟩
 rintro _ ⟨x2, rfl, rfl⟩
 refine ss ?_
 refine wc_cs hm ?_ ?_ <;> clear hm <;> intro hm
 ·refine sr ?_
  refine sx ?_
  subst hm
  exact wk_r
 refine sx ?_
 refine sr ?_
 refine wc_cs hm ?_ ?_ <;> clear hm <;> intro hm
 ·refine sr ?_
  refine sx ?_
  subst hm
  exact wk_r
 refine sx ?_
 refine sr ?_
 obtain ⟨mu1, hm1, hm⟩ := bnd_o hm
 refine wc_cut' (fun st => mu1 = Ctl.nxt () ∧ st = ⟨[(1, .p 101 0)], [(101, some (.box 29 [vI q1.Kind, .d (lst Rng.ds q1.Ranges), vS q1.Key, vI q1.Count]))]⟩) ?_ ?_
 ·refine wc_block ?_
  refine wc_len 19 rfl (fun hlenm5 => ?_)
  refine wc_loopw (fun κ st => ∃ (m5 : Nat) , κ = q1.Ranges.length - m5 ∧ m5 ≤ q1.Ranges.length ∧ Mref22_Check_l1 (q1.Ranges.drop m5) = mu1 ∧ st = ⟨[(1, .p 101 0), (19, .d (lst Rng.ds q1.Ranges)), (20, vI (q1.Ranges.length : Int)), (21, vI (m5 : Int))], [(101, some (.box 29 [vI q1.Kind, .d (lst Rng.ds q1.Ranges), vS q1.Key, vI q1.Count]))]⟩) [(101, 101)] ⟨0, rfl, Nat.zero_le _, hm1, rfl⟩ ?_
  rintro κ _ ⟨m5, rfl, hlem5, hm1, rfl⟩
  rcases Nat.lt_or_ge m5 q1.Ranges.length with hltm5 | hgem5
  ·obtain ⟨r3, hxm5, hdr⟩ := drop_c hltm5
   rw [hdr, Mref22_Check_l1.eq_2] at hm1
   refine sr ?_
   refine wc_seq ?_
   refine wc_cond_tt (lt_t hltm5) rfl ?_
   refine sx ?_
   refine sr ?_
   refine wl_r (o_ixm (ys := [dS r3.lo.key, dB r3.lo.top, dS r3.hi.key, dB r3.hi.top]) hxm5 rfl rfl rfl rfl) rfl rfl rfl ?_
   refine sr ?_
   obtain ⟨y6, hy, hm1⟩ := bnd_o hm1
   refine wl_cq (Mref1_Valid_sp (hm := hy)) ?_
   refine ss ?_
   refine wc_cs hm1 ?_ ?_ <;> clear hm1 <;> intro hm1
   ·refine sr ?_
    refine sx ?_
    subst hm1
    replace hm := cbnd_r hm
    subst hm
    exact wk_r
   refine sx ?_
   refine sr ?_
   refine wl_r (o_inc hltm5 hlenm5 rfl rfl rfl) rfl rfl rfl ?_
   refine ss ?_
   exact wk_loopw [(101, 101)] ⟨m5 + 1, rfl, hltm5, hm1, rfl⟩ (by omega)
  ·rw [drop_n hgem5, Mref22_Check_l1.eq_1] at hm1
   refine sr ?_
   refine wc_seq ?_
   refine wc_cond_ff (lt_f hgem5) rfl ?_
   refine wc_exit ?_
   refine ss ?_
   subst hm1
   exact wk_cutw [(101, 101)] ⟨rfl, rfl⟩
 rintro _ ⟨rfl, rfl⟩
 replace hm := cbnd_n hm
 refine ss ?_
 refine wc_seq ?_
 refine wc_seq ?_
 obtain ⟨mu1, hm1, hm⟩ := bnd_o hm
 refine wc_cut' (fun st => ∃ (x8 : Bool), x8 = mu1 ∧ st = ⟨[(1, .p 101 0), (53, vB x8)], [(101, some (.box 29 [vI q1.Kind, .d (lst Rng.ds q1.Ranges), vS q1.Key, vI q1.Count]))]⟩) ?_ ?_
 ·refine sr ?_
  obtain ⟨y7, hy, hm1⟩ := bnd_o hm1
  refine wl_cq (Mref1_ValidKey_sp (hm := hy)) ?_
  refine ss ?_
  refine wl_sg hm1 ?_ ?_ <;> clear hm1 <;> intro hm1
  ·refine ss ?_
   subst hm1
   exact wk_cutw [(101, 101)] ⟨_, rfl, rfl⟩
  refine ss ?_
  refine wl_sg hm1 ?_ ?_ <;> clear hm1 <;> intro hm1
  ·refine ss ?_
   refine wl_sg hm1 ?_ ?_ <;> clear hm1 <;> intro hm1
   ·refine ss ?_
    subst hm1
    exact wk_cutw [(101, 101)] ⟨_, rfl, rfl⟩
   refine ss ?_
   refine wl_sg hm1 ?_ ?_ <;> clear hm1 <;> intro hm1
   ·refine ss ?_
    subst hm1
    exact wk_cutw [(101, 101)] ⟨_, rfl, rfl⟩
   refine ss ?_
   subst hm1
   exact wk_cutw [(101, 101)] ⟨_, rfl, rfl⟩
  refine ss ?_
  refine wl_sg hm1 ?_ ?_ <;> clear hm1 <;> intro hm1
  ·refine ss ?_
   subst hm1
   exact wk_cutw [(101, 101)] ⟨_, rfl, rfl⟩
  refine ss ?_
  subst hm1
  exact wk_cutw [(101, 101)] ⟨_, rfl, rfl⟩
 rintro _ ⟨x8, rfl, rfl⟩
 refine ss ?_
 refine wc_cs hm ?_ ?_ <;> clear hm <;> intro hm
 ·refine sr ?_
  refine sx ?_
  subst hm
  exact wk_r
 refine sx ?_
 refine wc_seq ?_
 obtain ⟨mu1, hm1, hm⟩ := bnd_o hm
 refine wc_cut' (fun st => ∃ (counts9 : Bool), counts9 = mu1 ∧ st = ⟨[(1, .p 101 0), (5, vB counts9)], [(101, some (.box 29 [vI q1.Kind, .d (lst Rng.ds q1.Ranges), vS q1.Key, vI q1.Count]))]⟩) ?_ ?_
 ·refine sr ?_
  refine wl_sg hm1 ?_ ?_ <;> clear hm1 <;> intro hm1
  ·refine ss ?_
   subst hm1
   exact wk_cutw [(101, 101)] ⟨_, rfl, rfl⟩
  refine ss ?_
  subst hm1
  exact wk_cutw [(101, 101)] ⟨_, rfl, rfl⟩
 rintro _ ⟨counts9, rfl, rfl⟩
 refine sr ?_
 refine wl_sg hm ?_ ?_ <;> clear hm <;> intro hm
 ·refine ss ?_
  refine wl_sg hm ?_ ?_ <;> clear hm <;> intro hm
  ·refine ss ?_
   refine wc_cond_t rfl ?_
   refine sr ?_
   refine sx ?_
   subst hm
   exact wk_r
  refine ss ?_
  refine wl_sg hm ?_ ?_ <;> clear hm <;> intro hm
  ·refine ss ?_
   refine wc_cond_t rfl ?_
   refine sr ?_
   refine sx ?_
   subst hm
   exact wk_r
  refine ss ?_
  refine wl_sg hm ?_ ?_ <;> clear hm <;> intro hm
  ·refine ss ?_
   refine wc_cs hm ?_ ?_ <;> clear hm <;> intro hm
   ·refine sr ?_
    refine sx ?_
    subst hm
    exact wk_r
   refine sx ?_
   refine sr ?_
   refine sx ?_
   subst hm
   exact wk_r
  refine ss ?_
  refine wc_cond_f rfl ?_
  refine sx ?_
  refine sr ?_
  refine sx ?_
  subst hm
  exact wk_r
 refine ss ?_
 refine wl_sg hm ?_ ?_ <;> clear hm <;> intro hm
 ·refine ss ?_
  refine wc_cs hm ?_ ?_ <;> clear hm <;> intro hm
  ·refine sr ?_
   refine sx ?_
   subst hm
   exact wk_r
  refine sx ?_
  refine sr ?_
  refine sx ?_
  subst hm
  exact wk_r
 refine ss ?_
 refine wc_cond_f rfl ?_
 refine sx ?_
 refine sr ?_
 refine sx ?_
 subst hm
 exact wk_r

def Mref22_Down (q1 : TQuery) : Bool :=
 decide (q1.Kind = 4)
theorem Mref22_Down_sp {q1 : TQuery} {y : Bool} (hm : Mref22_Down q1 = y) : Spec Tryz.prog 73 [.a [vI q1.Kind, .d (lst Rng.ds q1.Ranges), vS q1.Key, vI q1.Count]] [] fun u h => u = vB y ∧ h = [] := by
 refine si Tryz.func73 Tryz.ntmps73 Tryz.results73 fun B w0 ρ0 => ?_
 unfold Mref22_Down at hm
 refine sr ?_
 refine sr ?_
 refine sx ?_
 subst hm
 exact wk_r

def Mref22_Take (q1 : TQuery) (rows2 : List Kv) : Option (List Kv) :=
 sel (decide (q1.Kind = 3)) (
  obnd (lsl rows2 0 (max 0 (min q1.Count (rows2.length : Int)))) fun l3 =>
  obnd (app ([] : List Kv) l3) fun l4 =>
  some l4) (
  sel (decide (q1.Kind = 4)) (
   obnd (lsl rows2 (i64w ((rows2.length : Int) - (max 0 (min q1.Count (rows2.length : Int))))) (rows2.length : Int)) fun l5 =>
   obnd (app ([] : List Kv) l5) fun l6 =>
   some l6) (
   obnd (app ([] : List Kv) rows2) fun l7 =>
   some l7))
theorem Mref22_Take_sp {q1 : TQuery} {rows2 : List Kv} {y : List Kv} (hm : Mref22_Take q1 rows2 = some y) : Spec Tryz.prog 44 [.a [vI q1.Kind, .d (lst Rng.ds q1.Ranges), vS q1.Key, vI q1.Count], .d (lst Kv.ds rows2)] [] fun u h => u = .d (lst Kv.ds y) ∧ h = [] := by
 refine si Tryz.func44 Tryz.ntmps44 Tryz.results44 fun B w0 ρ0 => ?_
 unfold Mref22_Take at hm
 refine sr ?_
 refine sr ?_
 refine sr ?_
 refine sr ?_
 refine wc_cs hm ?_ ?_ <;> clear hm <;> intro hm
 ·refine sr ?_
  obtain ⟨l3, hy, hm⟩ := obnd_o hm
  refine wl_r (o_lsl hy rfl rfl rfl rfl) rfl rfl rfl ?_
  refine sr ?_
  obtain ⟨l4, hy, hm⟩ := obnd_o hm
  refine wl_1 (n_appn (k := 128) hy rfl rfl rfl rfl rfl rfl) rfl rfl rfl rfl ?_
  refine sx ?_
  cases hm
  exact wk_r
 refine sr ?_
 refine wc_cs hm ?_ ?_ <;> clear hm <;> intro hm
 ·refine sr ?_
  obtain ⟨l5, hy, hm⟩ := obnd_o hm
  refine wl_r (o_lsl hy rfl rfl rfl rfl) rfl rfl rfl ?_
  refine sr ?_
  obtain ⟨l6, hy, hm⟩ := obnd_o hm
  refine wl_1 (n_appn (k := 128) hy rfl rfl rfl rfl rfl rfl) rfl rfl rfl rfl ?_
  refine sx ?_
  cases hm
  exact wk_r
 refine sx ?_
 refine sr ?_
 obtain ⟨l7, hy, hm⟩ := obnd_o hm
 refine wl_1 (n_appn (k := 128) hy rfl rfl rfl rfl rfl rfl) rfl rfl rfl rfl ?_
 refine sx ?_
 cases hm
 exact wk_r

def Mref22_Enough (q1 : TQuery) (n2 : Int) : Bool :=
 sel (decide (q1.Kind = 3)) (
  decide (q1.Count ≤ n2)) (
  sel (decide (q1.Kind = 4)) (
   decide (q1.Count ≤ n2)) (
   false))
theorem Mref22_Enough_sp {q1 : TQuery} {n2 : Int} {y : Bool} (hm : Mref22_Enough q1 n2 = y) : Spec Tryz.prog 72 [.a [vI q1.Kind, .d (lst Rng.ds q1.Ranges), vS q1.Key, vI q1.Count], vI n2] [] fun u h => u = vB y ∧ h = [] := by
 refine si Tryz.func72 Tryz.ntmps72 Tryz.results72 fun B w0 ρ0 => ?_
 unfold Mref22_Enough at hm
 refine sr ?_
 refine sr ?_
 refine wl_sg hm ?_ ?_ <;> clear hm <;> intro hm
 ·refine sx ?_
  subst hm
  exact wk_r
 refine ss ?_
 refine wl_sg hm ?_ ?_ <;> clear hm <;> intro hm
 ·refine sx ?_
  subst hm
  exact wk_r
 refine sx ?_
 subst hm
 exact wk_r

def Mref22_Same_l1 (a1 : TQuery) (b2 : TQuery) : List Rng → Int → Option (Ctl Bool Unit)
  | [], i =>
  some (Ctl.nxt ())
  | r4 :: xs5, i =>
  obnd (lget a1.Ranges i) fun e7 =>
  obnd (lget b2.Ranges i) fun e8 =>
  sel (!(decide (e7.lo.key = e8.lo.key) && decide (e7.lo.top = e8.lo.top) && decide (e7.hi.key = e8.hi.key) && decide (e7.hi.top = e8.hi.top))) (
   some (Ctl.ret false)) (
   Mref22_Same_l1 a1 b2 xs5 (i + 1))
def Mref22_Same (a1 : TQuery) (b2 : TQuery) : Option Bool :=
 obnd (
  sel (!decide (a1.Kind = b2.Kind)) (
   some true) (
   sel (!decide (a1.Key = b2.Key)) (
    some true) (
    sel (!decide (a1.Count = b2.Count)) (
     some true) (
     some (!decide ((a1.Ranges.length : Int) = (b2.Ranges.length : Int)))))) : Option Bool) fun x3 =>
 sel x3 (
  some false) (
  obnd (
   Mref22_Same_l1 a1 b2 a1.Ranges 0 : Option (Ctl Bool Unit)) fun mu => ocbnd mu fun (_ : Unit) =>
  some true)
theorem Mref22_Same_sp {a1 : TQuery} {b2 : TQuery} {y : Bool} (hm : Mref22_Same a1 b2 = some y) : Spec Tryz.prog 27 [.a [vI a1.Kind, .d (lst Rng.ds a1.Ranges), vS a1.Key, vI a1.Count], .a [vI b2.Kind, .d (lst Rng.ds b2.Ranges), vS b2.Key, vI b2.Count]] [] fun u h => u = vB y ∧ h = [] := by
 refine si Tryz.func27 Tryz.ntmps27 Tryz.results27 fun B w0 ρ0 => ?_
 unfold Mref22_Same at hm
 refine sr ?_
 refine wc_seq ?_
 refine wc_seq ?_
 obtain ⟨mu1, hm1, hm⟩ := obnd_o hm
 refine wc_cut' (fun st => ∃ (x3 : Bool), x3 = mu1 ∧ st = ⟨[(2, .p 102 0), (3, .p 103 0), (33, vB x3)], [(102, some (.box 29 [vI a1.Kind, .d (lst Rng.ds a1.Ranges), vS a1.Key, vI a1.Count])), (103, some (.box 29 [vI b2.Kind, .d (lst Rng.ds b2.Ranges), vS b2.Key, vI b2.Count]))]⟩) ?_ ?_
 ·refine sr ?_
  refine wl_sg hm1 ?_ ?_ <;> clear hm1 <;> intro hm1
  ·refine ss ?_
   cases hm1
   exact wk_cutw [(102, 102), (103, 103)] ⟨_, rfl, rfl⟩
  refine ss ?_
  refine wl_sg hm1 ?_ ?_ <;> clear hm1 <;> intro hm1
  ·refine ss ?_
   cases hm1
   exact wk_cutw [(102, 102), (103, 103)] ⟨_, rfl, rfl⟩
  refine ss ?_
  refine wl_sg hm1 ?_ ?_ <;> clear hm1 <;> intro hm1
  ·refine ss ?_
   cases hm1
   exact wk_cutw [(102, 102), (103, 103)] ⟨_, rfl, rfl⟩
  refine ss ?_
  cases hm1
  exact wk_cutw [(102, 102), (103, 103)] ⟨_, rfl, rfl⟩
 rintro _ ⟨x3, rfl, rfl⟩
 refine ss ?_
 refine wc_cs hm ?_ ?_ <;> clear hm <;> intro hm
 ·refine sr ?_
  refine sx ?_
  cases hm
  exact wk_r
 refine sx ?_
 refine sr ?_
 obtain ⟨mu1, hm1, hm⟩ := obnd_o hm
 refine wc_cut' (fun st => mu1 = Ctl.nxt () ∧ st = ⟨[], []⟩) ?_ ?_
 ·refine wc_block ?_
  refine wc_len 35 rfl (fun hlenm6 => ?_)
  refine wc_loopw (fun κ st => ∃ (m6 : Nat) , κ = a1.Ranges.length - m6 ∧ m6 ≤ a1.Ranges.length ∧ Mref22_Same_l1 a1 b2 (a1.Ranges.drop m6) (m6 : Int) = some mu1 ∧ st = ⟨[(2, .p 102 0), (3, .p 103 0), (36, vI (a1.Ranges.length : Int)), (37, vI (m6 : Int))], [(102, some (.box 29 [vI a1.Kind, .d (lst Rng.ds a1.Ranges), vS a1.Key, vI a1.Count])), (103, some (.box 29 [vI b2.Kind, .d (lst Rng.ds b2.Ranges), vS b2.Key, vI b2.Count]))]⟩) [(102, 102), (103, 103)] ⟨0, rfl, Nat.zero_le _, hm1, rfl⟩ ?_
  rintro κ _ ⟨m6, rfl, hlem6, hm1, rfl⟩
  rcases Nat.lt_or_ge m6 a1.Ranges.length with hltm6 | hgem6
  ·obtain ⟨r4, hxm6, hdr⟩ := drop_c hltm6
   rw [hdr, Mref22_Same_l1.eq_2] at hm1
   refine sr ?_
   refine wc_seq ?_
   refine wc_cond_tt (lt_t hltm6) rfl ?_
   refine sx ?_
   refine sr ?_
   refine wc_seq ?_
   refine wc_draw (id := 6) [⟨0, 0, [2]⟩, ⟨1, 1, [40]⟩, ⟨2, 0, [5]⟩, ⟨3, 7, [41, 42]⟩, ⟨4, 15, [43]⟩, ⟨5, 0, [3]⟩, ⟨6, 32, [45]⟩, ⟨7, 0, [5]⟩, ⟨8, 224, [46, 47]⟩, ⟨9, 480, [48]⟩, ⟨10, 1023, [44, 49]⟩] mixed (by kernel_rfl) ?_
   refine ss ?_
   obtain ⟨e7, hy, hm1⟩ := obnd_o hm1
   refine wd_r [] (o_ixg (ys := [dS e7.lo.key, dB e7.lo.top, dS e7.hi.key, dB e7.hi.top]) hy rfl rfl rfl rfl) rfl (by first | exact .no rfl | exact .y rfl rfl rfl rfl) rfl rfl ?_
   refine ss ?_
   obtain ⟨e8, hy, hm1⟩ := obnd_o hm1
   refine wd_r [] (o_ixg (ys := [dS e8.lo.key, dB e8.lo.top, dS e8.hi.key, dB e8.hi.top]) hy rfl rfl rfl rfl) rfl (by first | exact .no rfl | exact .y rfl rfl rfl rfl) rfl rfl ?_
   refine ss ?_
   refine wc_cs hm1 ?_ ?_ <;> clear hm1 <;> intro hm1
   ·refine sr ?_
    refine sx ?_
    cases hm1
    replace hm := ocbnd_r hm
    cases hm
    exact wk_r
   refine sx ?_
   refine sr ?_
   refine wl_r (o_inc hltm6 hlenm6 rfl rfl rfl) rfl rfl rfl ?_
   refine ss ?_
   exact wk_loopw [(102, 102), (103, 103)] ⟨m6 + 1, rfl, hltm6, hm1, rfl⟩ (by omega)
  ·rw [drop_n hgem6, Mref22_Same_l1.eq_1] at hm1
   refine sr ?_
   refine wc_seq ?_
   refine wc_cond_ff (lt_f hgem6) rfl ?_
   refine wc_exit ?_
   refine ss ?_
   cases hm1
   exact wk_cutw [] ⟨rfl, rfl⟩
 rintro _ ⟨rfl, rfl⟩
 replace hm := ocbnd_n hm
 refine sr ?_
 refine sx ?_
 cases hm
 exact wk_r

structure TAnswer where
  Rows : List Kv
  Fold : TFold
  deriving DecidableEq
def TAnswer.ds (x : TAnswer) : List D := [lst Kv.ds x.Rows, dI x.Fold.Count, dI x.Fold.Numbers, dI x.Fold.Sum, dI x.Fold.Low, dI x.Fold.High, dS x.Fold.First, dS x.Fold.Last]
instance : Len TAnswer.ds 8 := ⟨fun _ => rfl⟩

def Mref22_SameAnswer (a1 : TAnswer) (b2 : TAnswer) : Option Bool :=
 obnd (Mref20_Same a1.Rows b2.Rows) fun y3 =>
 sel y3 (
  some (decide (a1.Fold.Count = b2.Fold.Count) && decide (a1.Fold.Numbers = b2.Fold.Numbers) && decide (a1.Fold.Sum = b2.Fold.Sum) && decide (a1.Fold.Low = b2.Fold.Low) && decide (a1.Fold.High = b2.Fold.High) && decide (a1.Fold.First = b2.Fold.First) && decide (a1.Fold.Last = b2.Fold.Last))) (
  some false)
theorem Mref22_SameAnswer_sp {a1 : TAnswer} {b2 : TAnswer} {y : Bool} (hm : Mref22_SameAnswer a1 b2 = some y) : Spec Tryz.prog 48 [.a [.d (lst Kv.ds a1.Rows), vI a1.Fold.Count, vI a1.Fold.Numbers, vI a1.Fold.Sum, vI a1.Fold.Low, vI a1.Fold.High, vS a1.Fold.First, vS a1.Fold.Last], .a [.d (lst Kv.ds b2.Rows), vI b2.Fold.Count, vI b2.Fold.Numbers, vI b2.Fold.Sum, vI b2.Fold.Low, vI b2.Fold.High, vS b2.Fold.First, vS b2.Fold.Last]] [] fun u h => u = vB y ∧ h = [] := by
 refine si Tryz.func48 Tryz.ntmps48 Tryz.results48 fun B w0 ρ0 => ?_
 unfold Mref22_SameAnswer at hm
 refine sr ?_
 refine sr ?_
 obtain ⟨y3, hy, hm⟩ := obnd_o hm
 refine wl_cq (Mref20_Same_sp (hm := hy)) ?_
 refine ss ?_
 refine wl_sg hm ?_ ?_ <;> clear hm <;> intro hm
 ·refine sx ?_
  cases hm
  exact wk_r
 refine sx ?_
 cases hm
 exact wk_r

end Go.Proofs.YtohpjdeohpamaaaGreat
