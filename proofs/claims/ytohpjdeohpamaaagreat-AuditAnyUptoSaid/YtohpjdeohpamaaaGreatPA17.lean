/-
  Lemmas: Models and walks
-/
import Derived.Test.YtohpjdeohpamaaaGreatPA15
set_option linter.unusedSimpArgs false
set_option linter.unusedVariables false
namespace Go.Proofs.YtohpjdeohpamaaaGreat
open Go.RowKit
set_option maxRecDepth 100000
set_option maxHeartbeats 4000000
attribute [local irreducible] WK WC WL Wk Rel OpD OpV WD WO sel bnd obnd app lget lsl sget ssl scat letg iquo irem Op.bytesLess
def Mref1_ValidKey (k1 : ByteArray) : Bool :=
 decide ((k1.size : Int) ≤ 64)
theorem Mref1_ValidKey_sp {k1 : ByteArray} {y : Bool} (hm : Mref1_ValidKey k1 = y) : Spec Tryz.prog 23 [vS k1] [] fun u h => u = vB y ∧ h = [] := by
 refine si Tryz.func23 Tryz.ntmps23 Tryz.results23 fun B w0 ρ0 => ?_
 unfold Mref1_ValidKey at hm
 refine sr ?_
 refine sr ?_
 refine sx ?_
 subst hm
 exact wk_r

def Mref1_ValidBound (b1 : Bnd) : Bool :=
 bnd (Mref1_ValidKey b1.key) fun y2 =>
 sel y2 (
  sel (!b1.top) (
   true) (
   decide (b1.key = ⟨#[]⟩))) (
  false)
theorem Mref1_ValidBound_sp {b1 : Bnd} {y : Bool} (hm : Mref1_ValidBound b1 = y) : Spec Tryz.prog 107 [.a [vS b1.key, vB b1.top]] [] fun u h => u = vB y ∧ h = [] := by
 refine si Tryz.func107 Tryz.ntmps107 Tryz.results107 fun B w0 ρ0 => ?_
 unfold Mref1_ValidBound at hm
 refine sr ?_
 refine sr ?_
 obtain ⟨y2, hy, hm⟩ := bnd_o hm
 refine wl_cq (Mref1_ValidKey_sp (hm := hy)) ?_
 refine ss ?_
 refine wl_sg hm ?_ ?_ <;> clear hm <;> intro hm
 ·refine ss ?_
  refine wl_sg hm ?_ ?_ <;> clear hm <;> intro hm
  ·refine sx ?_
   subst hm
   exact wk_r
  refine sx ?_
  subst hm
  exact wk_r
 refine sx ?_
 subst hm
 exact wk_r

def Mref1_Compare (a1 : Bnd) (b2 : Bnd) : Int :=
 bnd (
  sel a1.top (
   b2.top) (
   false) : Bool) fun x3 =>
 sel x3 (
  0) (
  bnd (
   sel a1.top (
    true) (
    sel (!b2.top) (
     bl b2.key a1.key) (
     false)) : Bool) fun x4 =>
  sel x4 (
   1) (
   sel b2.top (
    (-1)) (
    sel (bl a1.key b2.key) (
     (-1)) (
     0))))
theorem Mref1_Compare_sp {a1 : Bnd} {b2 : Bnd} {y : Int} (hm : Mref1_Compare a1 b2 = y) : Spec Tryz.prog 74 [.a [vS a1.key, vB a1.top], .a [vS b2.key, vB b2.top]] [] fun u h => u = vI y ∧ h = [] := by
 refine si Tryz.func74 Tryz.ntmps74 Tryz.results74 fun B w0 ρ0 => ?_
 unfold Mref1_Compare at hm
 refine sr ?_
 refine wc_seq ?_
 refine wc_block ?_
 refine wc_seq ?_
 obtain ⟨mu1, hm1, hm⟩ := bnd_o hm
 refine wc_cut' (fun st => ∃ (x3 : Bool), x3 = mu1 ∧ st = ⟨[(2, .p 102 0), (3, .p 103 0), (5, vB x3)], [(102, some (.box 40 [vS a1.key, vB a1.top])), (103, some (.box 40 [vS b2.key, vB b2.top]))]⟩) ?_ ?_
 ·refine sr ?_
  refine wl_sg hm1 ?_ ?_ <;> clear hm1 <;> intro hm1
  ·refine ss ?_
   subst hm1
   exact wk_cutw [(102, 102), (103, 103)] ⟨_, rfl, rfl⟩
  refine ss ?_
  subst hm1
  exact wk_cutw [(102, 102), (103, 103)] ⟨_, rfl, rfl⟩
 rintro _ ⟨x3, rfl, rfl⟩
 refine ss ?_
 refine wc_cs hm ?_ ?_ <;> clear hm <;> intro hm
 ·refine sr ?_
  refine sx ?_
  subst hm
  exact wk_r
 refine wc_seq ?_
 obtain ⟨mu1, hm1, hm⟩ := bnd_o hm
 refine wc_cut' (fun st => ∃ (x4 : Bool), x4 = mu1 ∧ st = ⟨[(2, .p 102 0), (3, .p 103 0), (12, vB x4)], [(102, some (.box 40 [vS a1.key, vB a1.top])), (103, some (.box 40 [vS b2.key, vB b2.top]))]⟩) ?_ ?_
 ·refine sr ?_
  refine wl_sg hm1 ?_ ?_ <;> clear hm1 <;> intro hm1
  ·refine ss ?_
   subst hm1
   exact wk_cutw [(102, 102), (103, 103)] ⟨_, rfl, rfl⟩
  refine ss ?_
  refine wl_sg hm1 ?_ ?_ <;> clear hm1 <;> intro hm1
  ·refine ss ?_
   subst hm1
   exact wk_cutw [(102, 102), (103, 103)] ⟨_, rfl, rfl⟩
  refine ss ?_
  subst hm1
  exact wk_cutw [(102, 102), (103, 103)] ⟨_, rfl, rfl⟩
 rintro _ ⟨x4, rfl, rfl⟩
 refine ss ?_
 refine wc_cs hm ?_ ?_ <;> clear hm <;> intro hm
 ·refine sr ?_
  refine sx ?_
  subst hm
  exact wk_r
 refine sr ?_
 refine wl_sg hm ?_ ?_ <;> clear hm <;> intro hm
 ·refine ss ?_
  refine wc_cond_t rfl ?_
  refine sr ?_
  refine sx ?_
  subst hm
  exact wk_r
 refine ss ?_
 refine wc_cs hm ?_ ?_ <;> clear hm <;> intro hm
 ·refine sr ?_
  refine sx ?_
  subst hm
  exact wk_r
 refine sx ?_
 refine sr ?_
 refine sx ?_
 subst hm
 exact wk_r

def Mref1_Valid (r1 : Rng) : Bool :=
 bnd (Mref1_ValidBound r1.lo) fun y2 =>
 sel y2 (
  bnd (Mref1_ValidBound r1.hi) fun y3 =>
  sel y3 (
   bnd (Mref1_Compare r1.lo r1.hi) fun y4 =>
   decide (y4 ≤ 0)) (
   false)) (
  false)
theorem Mref1_Valid_sp {r1 : Rng} {y : Bool} (hm : Mref1_Valid r1 = y) : Spec Tryz.prog 88 [.a [vS r1.lo.key, vB r1.lo.top, vS r1.hi.key, vB r1.hi.top]] [] fun u h => u = vB y ∧ h = [] := by
 refine si Tryz.func88 Tryz.ntmps88 Tryz.results88 fun B w0 ρ0 => ?_
 unfold Mref1_Valid at hm
 refine sr ?_
 refine sr ?_
 obtain ⟨y2, hy, hm⟩ := bnd_o hm
 refine wl_cq (Mref1_ValidBound_sp (hm := hy)) ?_
 refine ss ?_
 refine wl_sg hm ?_ ?_ <;> clear hm <;> intro hm
 ·refine ss ?_
  obtain ⟨y3, hy, hm⟩ := bnd_o hm
  refine wl_cq (Mref1_ValidBound_sp (hm := hy)) ?_
  refine ss ?_
  refine wl_sg hm ?_ ?_ <;> clear hm <;> intro hm
  ·refine ss ?_
   obtain ⟨y4, hy, hm⟩ := bnd_o hm
   refine wl_cq (Mref1_Compare_sp (hm := hy)) ?_
   refine sx ?_
   subst hm
   exact wk_r
  refine sx ?_
  subst hm
  exact wk_r
 refine sx ?_
 subst hm
 exact wk_r

def Mref1_Empty (r1 : Rng) : Bool :=
 bnd (Mref1_Valid r1) fun y2 =>
 sel (!y2) (
  true) (
  bnd (Mref1_Compare r1.lo r1.hi) fun y3 =>
  decide (y3 = 0))
theorem Mref1_Empty_sp {r1 : Rng} {y : Bool} (hm : Mref1_Empty r1 = y) : Spec Tryz.prog 68 [.a [vS r1.lo.key, vB r1.lo.top, vS r1.hi.key, vB r1.hi.top]] [] fun u h => u = vB y ∧ h = [] := by
 refine si Tryz.func68 Tryz.ntmps68 Tryz.results68 fun B w0 ρ0 => ?_
 unfold Mref1_Empty at hm
 refine sr ?_
 refine sr ?_
 obtain ⟨y2, hy, hm⟩ := bnd_o hm
 refine wl_cq (Mref1_Valid_sp (hm := hy)) ?_
 refine ss ?_
 refine wl_sg hm ?_ ?_ <;> clear hm <;> intro hm
 ·refine sx ?_
  subst hm
  exact wk_r
 refine ss ?_
 obtain ⟨y3, hy, hm⟩ := bnd_o hm
 refine wl_cq (Mref1_Compare_sp (hm := hy)) ?_
 refine sx ?_
 subst hm
 exact wk_r

def Mref1_Contains (r1 : Rng) (k2 : ByteArray) : Bool :=
 bnd (Mref1_Empty r1) fun y3 =>
 sel (!y3) (
  bnd (Mref1_ValidKey k2) fun y4 =>
  sel y4 (
   bnd (Mref1_Compare r1.lo (Bnd.mk k2 false)) fun y5 =>
   sel (decide (y5 ≤ 0)) (
    bnd (Mref1_Compare (Bnd.mk k2 false) r1.hi) fun y6 =>
    decide (y6 < 0)) (
    false)) (
   false)) (
  false)
theorem Mref1_Contains_sp {r1 : Rng} {k2 : ByteArray} {y : Bool} (hm : Mref1_Contains r1 k2 = y) : Spec Tryz.prog 91 [.a [vS r1.lo.key, vB r1.lo.top, vS r1.hi.key, vB r1.hi.top], vS k2] [] fun u h => u = vB y ∧ h = [] := by
 refine si Tryz.func91 Tryz.ntmps91 Tryz.results91 fun B w0 ρ0 => ?_
 unfold Mref1_Contains at hm
 refine sr ?_
 refine sr ?_
 refine sr ?_
 obtain ⟨y3, hy, hm⟩ := bnd_o hm
 refine wl_cq (Mref1_Empty_sp (hm := hy)) ?_
 refine ss ?_
 refine wl_sg hm ?_ ?_ <;> clear hm <;> intro hm
 ·refine ss ?_
  obtain ⟨y4, hy, hm⟩ := bnd_o hm
  refine wl_cq (Mref1_ValidKey_sp (hm := hy)) ?_
  refine ss ?_
  refine wl_sg hm ?_ ?_ <;> clear hm <;> intro hm
  ·refine ss ?_
   obtain ⟨y5, hy, hm⟩ := bnd_o hm
   refine wl_cq (Mref1_Compare_sp (hm := hy)) ?_
   refine ss ?_
   refine wl_sg hm ?_ ?_ <;> clear hm <;> intro hm
   ·refine ss ?_
    obtain ⟨y6, hy, hm⟩ := bnd_o hm
    refine wl_cq (Mref1_Compare_sp (hm := hy)) ?_
    refine sx ?_
    subst hm
    exact wk_r
   refine sx ?_
   subst hm
   exact wk_r
  refine sx ?_
  subst hm
  exact wk_r
 refine sx ?_
 subst hm
 exact wk_r

def Mwld_All : Rng :=
 (Rng.mk (Bnd.mk ⟨#[]⟩ false) (Bnd.mk ⟨#[]⟩ true))
theorem Mwld_All_sp {y : Rng} (hm : Mwld_All = y) : Spec Tryz.prog 15 [] [] fun u h => u = .a [vS y.lo.key, vB y.lo.top, vS y.hi.key, vB y.hi.top] ∧ h = [] := by
 refine si Tryz.func15 Tryz.ntmps15 Tryz.results15 fun B w0 ρ0 => ?_
 unfold Mwld_All at hm
 refine sr ?_
 refine sr ?_
 refine sx ?_
 subst hm
 exact wk_r

def Mref20_without_l1 (key2 : ByteArray) : List Kv → List Kv → Option (List Kv)
  | [], out3 =>
  some out3
  | r4 :: xs5, out3 =>
  sel (!decide (r4.key = key2)) (
   obnd (app out3 ([r4] : List Kv)) fun l7 =>
   Mref20_without_l1 key2 xs5 l7) (
   Mref20_without_l1 key2 xs5 out3)
def Mref20_without (t1 : List Kv) (key2 : ByteArray) : Option (List Kv) :=
 obnd (
  Mref20_without_l1 key2 t1 [] : Option (List Kv)) fun out8 =>
 some out8
theorem Mref20_without_sp {t1 : List Kv} {key2 : ByteArray} {y : List Kv} (hm : Mref20_without t1 key2 = some y) : Spec Tryz.prog 40 [.d (lst Kv.ds t1), vS key2] [] fun u h => u = .d (lst Kv.ds y) ∧ h = [] := by
 refine si Tryz.func40 Tryz.ntmps40 Tryz.results40 fun B w0 ρ0 => ?_
 unfold Mref20_without at hm
 refine sr ?_
 refine sr ?_
 refine sr ?_
 obtain ⟨mu1, hm1, hm⟩ := obnd_o hm
 refine wc_cut' (fun st => ∃ (out8 : List Kv), out8 = mu1 ∧ st = ⟨[(5, .d (lst Kv.ds out8))], []⟩) ?_ ?_
 ·refine wc_block ?_
  refine wc_wk (wk_nil 5 5001 54 2 rfl rfl) ?_
  refine wc_len 8 rfl (fun hlenm6 => ?_)
  refine wc_loopw (fun κ st => ∃ (m6 : Nat) (out3 : List Kv), κ = t1.length - m6 ∧ m6 ≤ t1.length ∧ Mref20_without_l1 key2 (t1.drop m6) out3 = some mu1 ∧ st = ⟨[(1, vS key2), (5, .h 5001), (8, .d (lst Kv.ds t1)), (9, vI (t1.length : Int)), (10, vI (m6 : Int))], [(5001, some (arrT 54 2 Kv.ds out3))]⟩) [(5001, 5001)] ⟨0, _, rfl, Nat.zero_le _, hm1, rfl⟩ ?_
  rintro κ _ ⟨m6, out3, rfl, hlem6, hm1, rfl⟩
  rcases Nat.lt_or_ge m6 t1.length with hltm6 | hgem6
  ·obtain ⟨r4, hxm6, hdr⟩ := drop_c hltm6
   rw [hdr, Mref20_without_l1.eq_2] at hm1
   refine sr ?_
   refine wc_seq ?_
   refine wc_cond_tt (lt_t hltm6) rfl ?_
   refine sx ?_
   refine sr ?_
   refine wl_r (o_ixm (ys := [dS r4.key, dS r4.val]) hxm6 rfl rfl rfl rfl) rfl rfl rfl ?_
   refine sr ?_
   refine wc_cs hm1 ?_ ?_ <;> clear hm1 <;> intro hm1
   ·refine sr ?_
    refine wl_bt Kv.ds [r4] rfl rfl (by simp only [flatV, cellsV, List.cons_append, List.nil_append, List.append_nil]; exact rfl) rfl rfl rfl rfl rfl rfl ?_
    refine ss ?_
    obtain ⟨l7, hy, hm1⟩ := obnd_o hm1
    refine wl_2 (n_app (k' := 121) hy rfl rfl rfl rfl rfl rfl rfl rfl) rfl rfl rfl rfl ?_
    refine sr ?_
    refine wl_r (o_inc hltm6 hlenm6 rfl rfl rfl) rfl rfl rfl ?_
    refine ss ?_
    exact wk_loopw [(5001, 121)] ⟨m6 + 1, _, rfl, hltm6, hm1, rfl⟩ (by omega)
   refine sx ?_
   refine sr ?_
   refine wl_r (o_inc hltm6 hlenm6 rfl rfl rfl) rfl rfl rfl ?_
   refine ss ?_
   exact wk_loopw [(5001, 5001)] ⟨m6 + 1, _, rfl, hltm6, hm1, rfl⟩ (by omega)
  ·rw [drop_n hgem6, Mref20_without_l1.eq_1] at hm1
   refine sr ?_
   refine wc_seq ?_
   refine wc_cond_ff (lt_f hgem6) rfl ?_
   refine wc_exit ?_
   refine ss ?_
   cases hm1
   exact wk_cutw [] ⟨_, rfl, rfl⟩
 rintro _ ⟨out8, rfl, rfl⟩
 refine sr ?_
 refine sx ?_
 cases hm
 exact wk_r

def Mref20_with_l1 (x2 : Kv) : List Kv → List Kv → Bool → Option (List Kv × Bool)
  | [], out4, done5 =>
  some (out4, done5)
  | r6 :: xs7, out4, done5 =>
  obnd (
   sel (!done5) (
    some (bl x2.key r6.key)) (
    some false) : Option Bool) fun x9 =>
  sel x9 (
   obnd (app out4 ([x2] : List Kv)) fun l10 =>
   obnd (app l10 ([r6] : List Kv)) fun l11 =>
   Mref20_with_l1 x2 xs7 l11 true) (
   obnd (app out4 ([r6] : List Kv)) fun l12 =>
   Mref20_with_l1 x2 xs7 l12 done5)
def Mref20_with (t1 : List Kv) (x2 : Kv) : Option (List Kv) :=
 obnd (Mref20_without t1 x2.key) fun y3 =>
 obnd (
  Mref20_with_l1 x2 y3 [] false : Option (List Kv × Bool)) fun (out13, done14) =>
 sel (!done14) (
  obnd (app out13 ([x2] : List Kv)) fun l15 =>
  some l15) (
  some out13)
theorem Mref20_with_sp {t1 : List Kv} {x2 : Kv} {y : List Kv} (hm : Mref20_with t1 x2 = some y) : Spec Tryz.prog 65 [.d (lst Kv.ds t1), .a [vS x2.key, vS x2.val]] [] fun u h => u = .d (lst Kv.ds y) ∧ h = [] := by
 refine si Tryz.func65 Tryz.ntmps65 Tryz.results65 fun B w0 ρ0 => ?_
 unfold Mref20_with at hm
 refine sr ?_
 refine sr ?_
 refine sr ?_
 refine sr ?_
 obtain ⟨y3, hy, hm⟩ := obnd_o hm
 refine wl_cq (Mref20_without_sp (hm := hy)) ?_
 refine ss ?_
 obtain ⟨mu1, hm1, hm⟩ := obnd_o hm
 refine wc_cut' (fun st => ∃ (out13 : List Kv) (done14 : Bool), mu1 = (out13, done14) ∧ st = ⟨[(3, .p 103 0), (5, .h 5002), (6, vB done14)], [(103, some (.box 54 [vS x2.key, vS x2.val])), (5002, some (arrT 54 2 Kv.ds out13))]⟩) ?_ ?_
 ·refine wc_block ?_
  refine wc_wk (wk_nil 5 5001 54 2 rfl rfl) ?_
  refine wc_len 12 rfl (fun hlenm8 => ?_)
  refine wc_loopw (fun κ st => ∃ (m8 : Nat) (out4 : List Kv) (done5 : Bool), κ = y3.length - m8 ∧ m8 ≤ y3.length ∧ Mref20_with_l1 x2 (y3.drop m8) out4 done5 = some mu1 ∧ st = ⟨[(3, .p 103 0), (5, .h 5001), (6, vB done5), (12, .d (lst Kv.ds y3)), (13, vI (y3.length : Int)), (14, vI (m8 : Int))], [(103, some (.box 54 [vS x2.key, vS x2.val])), (5001, some (arrT 54 2 Kv.ds out4))]⟩) [(103, 103), (5001, 5001)] ⟨0, _, _, rfl, Nat.zero_le _, hm1, rfl⟩ ?_
  rintro κ _ ⟨m8, out4, done5, rfl, hlem8, hm1, rfl⟩
  rcases Nat.lt_or_ge m8 y3.length with hltm8 | hgem8
  ·obtain ⟨r6, hxm8, hdr⟩ := drop_c hltm8
   rw [hdr, Mref20_with_l1.eq_2] at hm1
   refine sr ?_
   refine wc_seq ?_
   refine wc_cond_tt (lt_t hltm8) rfl ?_
   refine sx ?_
   refine sr ?_
   refine wl_r (o_ixm (ys := [dS r6.key, dS r6.val]) hxm8 rfl rfl rfl rfl) rfl rfl rfl ?_
   refine ss ?_
   refine wc_seq ?_
   refine wc_seq ?_
   obtain ⟨mu2, hm2, hm1⟩ := obnd_o hm1
   refine wc_cut' (fun st => ∃ (x9 : Bool), x9 = mu2 ∧ st = ⟨[(3, .p 103 0), (5, .h 5001), (6, vB done5), (8, .p 108 0), (12, .d (lst Kv.ds y3)), (13, vI (y3.length : Int)), (14, vI (m8 : Int)), (26, vB x9)], [(103, some (.box 54 [vS x2.key, vS x2.val])), (108, some (.box 54 [vS r6.key, vS r6.val])), (5001, some (arrT 54 2 Kv.ds out4))]⟩) ?_ ?_
   ·refine sr ?_
    refine wl_sg hm2 ?_ ?_ <;> clear hm2 <;> intro hm2
    ·refine ss ?_
     cases hm2
     exact wk_cutw [(103, 103), (108, 108), (5001, 5001)] ⟨_, rfl, rfl⟩
    refine ss ?_
    cases hm2
    exact wk_cutw [(103, 103), (108, 108), (5001, 5001)] ⟨_, rfl, rfl⟩
   rintro _ ⟨x9, rfl, rfl⟩
   refine ss ?_
   refine wc_cs hm1 ?_ ?_ <;> clear hm1 <;> intro hm1
   ·refine sr ?_
    refine wl_bt Kv.ds [x2] rfl rfl (by simp only [flatV, cellsV, List.cons_append, List.nil_append, List.append_nil]; exact rfl) rfl rfl rfl rfl rfl rfl ?_
    refine ss ?_
    obtain ⟨l10, hy, hm1⟩ := obnd_o hm1
    refine wl_2 (n_app (k' := 130) hy rfl rfl rfl rfl rfl rfl rfl rfl) rfl rfl rfl rfl ?_
    refine sr ?_
    refine wl_bt Kv.ds [r6] rfl rfl (by simp only [flatV, cellsV, List.cons_append, List.nil_append, List.append_nil]; exact rfl) rfl rfl rfl rfl rfl rfl ?_
    refine ss ?_
    obtain ⟨l11, hy, hm1⟩ := obnd_o hm1
    refine wl_2 (n_app (k' := 134) hy rfl rfl rfl rfl rfl rfl rfl rfl) rfl rfl rfl rfl ?_
    refine sr ?_
    refine wl_r (o_inc hltm8 hlenm8 rfl rfl rfl) rfl rfl rfl ?_
    refine ss ?_
    exact wk_loopw [(103, 103), (5001, 134)] ⟨m8 + 1, _, _, rfl, hltm8, hm1, rfl⟩ (by omega)
   refine sx ?_
   refine sr ?_
   refine wl_bt Kv.ds [r6] rfl rfl (by simp only [flatV, cellsV, List.cons_append, List.nil_append, List.append_nil]; exact rfl) rfl rfl rfl rfl rfl rfl ?_
   refine ss ?_
   obtain ⟨l12, hy, hm1⟩ := obnd_o hm1
   refine wl_2 (n_app (k' := 134) hy rfl rfl rfl rfl rfl rfl rfl rfl) rfl rfl rfl rfl ?_
   refine sr ?_
   refine wl_r (o_inc hltm8 hlenm8 rfl rfl rfl) rfl rfl rfl ?_
   refine ss ?_
   exact wk_loopw [(103, 103), (5001, 134)] ⟨m8 + 1, _, _, rfl, hltm8, hm1, rfl⟩ (by omega)
  ·rw [drop_n hgem8, Mref20_with_l1.eq_1] at hm1
   refine sr ?_
   refine wc_seq ?_
   refine wc_cond_ff (lt_f hgem8) rfl ?_
   refine wc_exit ?_
   refine ss ?_
   cases hm1
   exact wk_cutw [(103, 103), (5002, 5001)] ⟨_, _, rfl, rfl⟩
 rintro _ ⟨out13, done14, rfl, rfl⟩
 refine sr ?_
 refine wc_cs hm ?_ ?_ <;> clear hm <;> intro hm
 ·refine sr ?_
  refine wl_bt Kv.ds [x2] rfl rfl (by simp only [flatV, cellsV, List.cons_append, List.nil_append, List.append_nil]; exact rfl) rfl rfl rfl rfl rfl rfl ?_
  refine ss ?_
  obtain ⟨l15, hy, hm⟩ := obnd_o hm
  refine wl_2 (n_app (k' := 141) hy rfl rfl rfl rfl rfl rfl rfl rfl) rfl rfl rfl rfl ?_
  refine sr ?_
  refine sx ?_
  cases hm
  exact wk_r
 refine sx ?_
 refine sr ?_
 refine sx ?_
 cases hm
 exact wk_r

def Mref20_Valid_l1 (t1 : List Kv) : List Kv → Int → Option (Ctl Bool Unit)
  | [], i =>
  some (Ctl.nxt ())
  | r2 :: xs3, i =>
  bnd (Mref1_ValidKey r2.key) fun y5 =>
  sel (!y5) (
   some (Ctl.ret false)) (
   sel (decide (64 < (r2.val.size : Int))) (
    some (Ctl.ret false)) (
    sel (decide (0 < i)) (
     obnd (lget t1 (i64w (i - 1))) fun e6 =>
     sel (!bl e6.key r2.key) (
      some (Ctl.ret false)) (
      Mref20_Valid_l1 t1 xs3 (i + 1))) (
     Mref20_Valid_l1 t1 xs3 (i + 1))))
def Mref20_Valid (t1 : List Kv) : Option Bool :=
 sel (decide (1024 < (t1.length : Int))) (
  some false) (
  obnd (
   Mref20_Valid_l1 t1 t1 0 : Option (Ctl Bool Unit)) fun mu => ocbnd mu fun (_ : Unit) =>
  some true)
theorem Mref20_Valid_sp {t1 : List Kv} {y : Bool} (hm : Mref20_Valid t1 = some y) : Spec Tryz.prog 12 [.d (lst Kv.ds t1)] [] fun u h => u = vB y ∧ h = [] := by
 refine si Tryz.func12 Tryz.ntmps12 Tryz.results12 fun B w0 ρ0 => ?_
 unfold Mref20_Valid at hm
 refine sr ?_
 refine sr ?_
 refine wc_cs hm ?_ ?_ <;> clear hm <;> intro hm
 ·refine sr ?_
  refine sx ?_
  cases hm
  exact wk_r
 refine sx ?_
 refine sr ?_
 obtain ⟨mu1, hm1, hm⟩ := obnd_o hm
 refine wc_cut' (fun st => mu1 = Ctl.nxt () ∧ st = ⟨[], []⟩) ?_ ?_
 ·refine wc_block ?_
  refine wc_len 8 rfl (fun hlenm4 => ?_)
  refine wc_loopw (fun κ st => ∃ (m4 : Nat) , κ = t1.length - m4 ∧ m4 ≤ t1.length ∧ Mref20_Valid_l1 t1 (t1.drop m4) (m4 : Int) = some mu1 ∧ st = ⟨[(0, .d (lst Kv.ds t1)), (8, .d (lst Kv.ds t1)), (9, vI (t1.length : Int)), (10, vI (m4 : Int))], []⟩) [] ⟨0, rfl, Nat.zero_le _, hm1, rfl⟩ ?_
  rintro κ _ ⟨m4, rfl, hlem4, hm1, rfl⟩
  rcases Nat.lt_or_ge m4 t1.length with hltm4 | hgem4
  ·obtain ⟨r2, hxm4, hdr⟩ := drop_c hltm4
   rw [hdr, Mref20_Valid_l1.eq_2] at hm1
   refine sr ?_
   refine wc_seq ?_
   refine wc_cond_tt (lt_t hltm4) rfl ?_
   refine sx ?_
   refine sr ?_
   refine wl_r (o_ixm (ys := [dS r2.key, dS r2.val]) hxm4 rfl rfl rfl rfl) rfl rfl rfl ?_
   refine ss ?_
   refine wc_seq ?_
   refine wc_draw (id := 6) [⟨0, 0, [4]⟩, ⟨1, 1, [15]⟩, ⟨2, 3, [16]⟩, ⟨3, 7, [17]⟩, ⟨4, 15, [18]⟩, ⟨5, 31, [4, 19]⟩, ⟨6, 63, [19, 20]⟩, ⟨7, 127, [19, 21]⟩, ⟨8, 255, [19, 22]⟩, ⟨9, 511, [19, 23]⟩, ⟨10, 1023, [24]⟩, ⟨11, 2047, [3, 25]⟩, ⟨12, 4095, [25, 26]⟩, ⟨13, 8191, [25, 27]⟩, ⟨14, 16383, [0, 28]⟩, ⟨15, 16383, [3, 28]⟩, ⟨16, 49151, [28, 30]⟩, ⟨17, 131071, [28, 29, 31]⟩, ⟨18, 262143, [28, 32]⟩, ⟨19, 524287, [28, 33]⟩, ⟨20, 16383, [4, 28]⟩, ⟨21, 1064959, [28, 35]⟩, ⟨22, 4194303, [28, 34, 36]⟩, ⟨23, 8388607, [25, 28, 37]⟩, ⟨24, 16777215, [25, 38]⟩] mixed (by kernel_rfl) ?_
   refine ss ?_
   obtain ⟨y5, hy, hm1⟩ := bnd_o hm1
   refine wd_cs (Mref1_ValidKey_sp (hm := hy)) rfl rfl rfl (by repeat (first | exact Vws.nil | apply Vws.cons | exact Vw.nil | exact Vw.d _ | exact Vw.q _ | apply Vw.a)) rfl rfl (by first | exact .no rfl | exact .y rfl rfl rfl rfl) rfl rfl rfl ?_
   refine ss ?_
   refine wd_gp rfl rfl rfl rfl (fun h => ?_) (fun h => ?_)
   ·replace hm1 := sel_t h hm1
    refine ss ?_
    refine wc_cond_t rfl ?_
    refine sr ?_
    refine sx ?_
    cases hm1
    replace hm := ocbnd_r hm
    cases hm
    exact wk_r
   replace hm1 := sel_f h hm1
   refine ss ?_
   refine wd_gp rfl rfl rfl rfl (fun h => ?_) (fun h => ?_)
   ·replace hm1 := sel_t h hm1
    refine ss ?_
    refine wc_cond_t rfl ?_
    refine sr ?_
    refine sx ?_
    cases hm1
    replace hm := ocbnd_r hm
    cases hm
    exact wk_r
   replace hm1 := sel_f h hm1
   refine ss ?_
   refine wd_gp rfl rfl rfl rfl (fun h => ?_) (fun h => ?_)
   ·replace hm1 := sel_t h hm1
    refine ss ?_
    obtain ⟨e6, hy, hm1⟩ := obnd_o hm1
    refine wd_r [] (o_ixg (ys := [dS e6.key, dS e6.val]) hy rfl rfl rfl rfl) rfl (by first | exact .no rfl | exact .y rfl rfl rfl rfl) rfl rfl ?_
    refine ss ?_
    refine wc_cs hm1 ?_ ?_ <;> clear hm1 <;> intro hm1
    ·refine sr ?_
     refine sx ?_
     cases hm1
     replace hm := ocbnd_r hm
     cases hm
     exact wk_r
    refine sx ?_
    refine sr ?_
    refine wl_r (o_inc hltm4 hlenm4 rfl rfl rfl) rfl rfl rfl ?_
    refine ss ?_
    exact wk_loopw [] ⟨m4 + 1, rfl, hltm4, hm1, rfl⟩ (by omega)
   replace hm1 := sel_f h hm1
   refine ss ?_
   refine wc_cond_f rfl ?_
   refine sx ?_
   refine sr ?_
   refine wl_r (o_inc hltm4 hlenm4 rfl rfl rfl) rfl rfl rfl ?_
   refine ss ?_
   exact wk_loopw [] ⟨m4 + 1, rfl, hltm4, hm1, rfl⟩ (by omega)
  ·rw [drop_n hgem4, Mref20_Valid_l1.eq_1] at hm1
   refine sr ?_
   refine wc_seq ?_
   refine wc_cond_ff (lt_f hgem4) rfl ?_
   refine wc_exit ?_
   refine ss ?_
   cases hm1
   exact wk_cutw [] ⟨rfl, rfl⟩
 rintro _ ⟨rfl, rfl⟩
 replace hm := ocbnd_n hm
 refine sr ?_
 refine sx ?_
 cases hm
 exact wk_r

def Mref20_Slice_l1 (r2 : Rng) : List Kv → List Kv → Option (List Kv)
  | [], out3 =>
  some out3
  | r4 :: xs5, out3 =>
  bnd (Mref1_Contains r2 r4.key) fun y7 =>
  sel y7 (
   obnd (app out3 ([r4] : List Kv)) fun l8 =>
   Mref20_Slice_l1 r2 xs5 l8) (
   Mref20_Slice_l1 r2 xs5 out3)
def Mref20_Slice (t1 : List Kv) (r2 : Rng) : Option (List Kv) :=
 obnd (
  Mref20_Slice_l1 r2 t1 [] : Option (List Kv)) fun out9 =>
 some out9
theorem Mref20_Slice_sp {t1 : List Kv} {r2 : Rng} {y : List Kv} (hm : Mref20_Slice t1 r2 = some y) : Spec Tryz.prog 78 [.d (lst Kv.ds t1), .a [vS r2.lo.key, vB r2.lo.top, vS r2.hi.key, vB r2.hi.top]] [] fun u h => u = .d (lst Kv.ds y) ∧ h = [] := by
 refine si Tryz.func78 Tryz.ntmps78 Tryz.results78 fun B w0 ρ0 => ?_
 unfold Mref20_Slice at hm
 refine sr ?_
 refine sr ?_
 refine sr ?_
 obtain ⟨mu1, hm1, hm⟩ := obnd_o hm
 refine wc_cut' (fun st => ∃ (out9 : List Kv), out9 = mu1 ∧ st = ⟨[(5, .d (lst Kv.ds out9))], []⟩) ?_ ?_
 ·refine wc_block ?_
  refine wc_wk (wk_nil 5 5001 54 2 rfl rfl) ?_
  refine wc_len 8 rfl (fun hlenm6 => ?_)
  refine wc_loopw (fun κ st => ∃ (m6 : Nat) (out3 : List Kv), κ = t1.length - m6 ∧ m6 ≤ t1.length ∧ Mref20_Slice_l1 r2 (t1.drop m6) out3 = some mu1 ∧ st = ⟨[(3, .p 103 0), (5, .h 5001), (8, .d (lst Kv.ds t1)), (9, vI (t1.length : Int)), (10, vI (m6 : Int))], [(103, some (.box 42 [vS r2.lo.key, vB r2.lo.top, vS r2.hi.key, vB r2.hi.top])), (5001, some (arrT 54 2 Kv.ds out3))]⟩) [(103, 103), (5001, 5001)] ⟨0, _, rfl, Nat.zero_le _, hm1, rfl⟩ ?_
  rintro κ _ ⟨m6, out3, rfl, hlem6, hm1, rfl⟩
  rcases Nat.lt_or_ge m6 t1.length with hltm6 | hgem6
  ·obtain ⟨r4, hxm6, hdr⟩ := drop_c hltm6
   rw [hdr, Mref20_Slice_l1.eq_2] at hm1
   refine sr ?_
   refine wc_seq ?_
   refine wc_cond_tt (lt_t hltm6) rfl ?_
   refine sx ?_
   refine sr ?_
   refine wl_r (o_ixm (ys := [dS r4.key, dS r4.val]) hxm6 rfl rfl rfl rfl) rfl rfl rfl ?_
   refine sr ?_
   obtain ⟨y7, hy, hm1⟩ := bnd_o hm1
   refine wl_cq (Mref1_Contains_sp (hm := hy)) ?_
   refine ss ?_
   refine wc_cs hm1 ?_ ?_ <;> clear hm1 <;> intro hm1
   ·refine sr ?_
    refine wl_bt Kv.ds [r4] rfl rfl (by simp only [flatV, cellsV, List.cons_append, List.nil_append, List.append_nil]; exact rfl) rfl rfl rfl rfl rfl rfl ?_
    refine ss ?_
    obtain ⟨l8, hy, hm1⟩ := obnd_o hm1
    refine wl_2 (n_app (k' := 121) hy rfl rfl rfl rfl rfl rfl rfl rfl) rfl rfl rfl rfl ?_
    refine sr ?_
    refine wl_r (o_inc hltm6 hlenm6 rfl rfl rfl) rfl rfl rfl ?_
    refine ss ?_
    exact wk_loopw [(103, 103), (5001, 121)] ⟨m6 + 1, _, rfl, hltm6, hm1, rfl⟩ (by omega)
   refine sx ?_
   refine sr ?_
   refine wl_r (o_inc hltm6 hlenm6 rfl rfl rfl) rfl rfl rfl ?_
   refine ss ?_
   exact wk_loopw [(103, 103), (5001, 5001)] ⟨m6 + 1, _, rfl, hltm6, hm1, rfl⟩ (by omega)
  ·rw [drop_n hgem6, Mref20_Slice_l1.eq_1] at hm1
   refine sr ?_
   refine wc_seq ?_
   refine wc_cond_ff (lt_f hgem6) rfl ?_
   refine wc_exit ?_
   refine ss ?_
   cases hm1
   exact wk_cutw [] ⟨_, rfl, rfl⟩
 rintro _ ⟨out9, rfl, rfl⟩
 refine sr ?_
 refine sx ?_
 cases hm
 exact wk_r


def Mref20_Same_l1 (a1 : List Kv) (b2 : List Kv) : List Kv → Int → Option (Ctl Bool Unit)
  | [], i =>
  some (Ctl.nxt ())
  | r3 :: xs4, i =>
  obnd (lget a1 i) fun e6 =>
  obnd (lget b2 i) fun e7 =>
  sel (!(decide (e6.key = e7.key) && decide (e6.val = e7.val))) (
   some (Ctl.ret false)) (
   Mref20_Same_l1 a1 b2 xs4 (i + 1))
def Mref20_Same (a1 : List Kv) (b2 : List Kv) : Option Bool :=
 sel (!decide ((a1.length : Int) = (b2.length : Int))) (
  some false) (
  obnd (
   Mref20_Same_l1 a1 b2 a1 0 : Option (Ctl Bool Unit)) fun mu => ocbnd mu fun (_ : Unit) =>
  some true)
theorem Mref20_Same_sp {a1 : List Kv} {b2 : List Kv} {y : Bool} (hm : Mref20_Same a1 b2 = some y) : Spec Tryz.prog 79 [.d (lst Kv.ds a1), .d (lst Kv.ds b2)] [] fun u h => u = vB y ∧ h = [] := by
 refine si Tryz.func79 Tryz.ntmps79 Tryz.results79 fun B w0 ρ0 => ?_
 unfold Mref20_Same at hm
 refine sr ?_
 refine sr ?_
 refine wc_cs hm ?_ ?_ <;> clear hm <;> intro hm
 ·refine sr ?_
  refine sx ?_
  cases hm
  exact wk_r
 refine sx ?_
 refine sr ?_
 obtain ⟨mu1, hm1, hm⟩ := obnd_o hm
 refine wc_cut' (fun st => mu1 = Ctl.nxt () ∧ st = ⟨[], []⟩) ?_ ?_
 ·refine wc_block ?_
  refine wc_len 0 rfl (fun hlenm5 => ?_)
  refine wc_loopw (fun κ st => ∃ (m5 : Nat) , κ = a1.length - m5 ∧ m5 ≤ a1.length ∧ Mref20_Same_l1 a1 b2 (a1.drop m5) (m5 : Int) = some mu1 ∧ st = ⟨[(0, .d (lst Kv.ds a1)), (1, .d (lst Kv.ds b2)), (12, vI (a1.length : Int)), (13, vI (m5 : Int))], []⟩) [] ⟨0, rfl, Nat.zero_le _, hm1, rfl⟩ ?_
  rintro κ _ ⟨m5, rfl, hlem5, hm1, rfl⟩
  rcases Nat.lt_or_ge m5 a1.length with hltm5 | hgem5
  ·obtain ⟨r3, hxm5, hdr⟩ := drop_c hltm5
   rw [hdr, Mref20_Same_l1.eq_2] at hm1
   refine sr ?_
   refine wc_seq ?_
   refine wc_cond_tt (lt_t hltm5) rfl ?_
   refine sx ?_
   refine sr ?_
   refine wc_seq ?_
   refine wc_draw (id := 6) [⟨0, 0, [0]⟩, ⟨1, 0, [5]⟩, ⟨2, 3, [16, 17]⟩, ⟨3, 7, [18]⟩, ⟨4, 0, [1]⟩, ⟨5, 0, [5]⟩, ⟨6, 48, [20, 21]⟩, ⟨7, 112, [22]⟩, ⟨8, 255, [19, 23]⟩] mixed (by kernel_rfl) ?_
   refine ss ?_
   obtain ⟨e6, hy, hm1⟩ := obnd_o hm1
   refine wd_r [] (o_ixg (ys := [dS e6.key, dS e6.val]) hy rfl rfl rfl rfl) rfl (by first | exact .no rfl | exact .y rfl rfl rfl rfl) rfl rfl ?_
   refine ss ?_
   obtain ⟨e7, hy, hm1⟩ := obnd_o hm1
   refine wd_r [] (o_ixg (ys := [dS e7.key, dS e7.val]) hy rfl rfl rfl rfl) rfl (by first | exact .no rfl | exact .y rfl rfl rfl rfl) rfl rfl ?_
   refine ss ?_
   refine wc_cs hm1 ?_ ?_ <;> clear hm1 <;> intro hm1
   ·refine sr ?_
    refine sx ?_
    cases hm1
    replace hm := ocbnd_r hm
    cases hm
    exact wk_r
   refine sx ?_
   refine sr ?_
   refine wl_r (o_inc hltm5 hlenm5 rfl rfl rfl) rfl rfl rfl ?_
   refine ss ?_
   exact wk_loopw [] ⟨m5 + 1, rfl, hltm5, hm1, rfl⟩ (by omega)
  ·rw [drop_n hgem5, Mref20_Same_l1.eq_1] at hm1
   refine sr ?_
   refine wc_seq ?_
   refine wc_cond_ff (lt_f hgem5) rfl ?_
   refine wc_exit ?_
   refine ss ?_
   cases hm1
   exact wk_cutw [] ⟨rfl, rfl⟩
 rintro _ ⟨rfl, rfl⟩
 replace hm := ocbnd_n hm
 refine sr ?_
 refine sx ?_
 cases hm
 exact wk_r

def Mref20_Put (t1 : List Kv) (row2 : Kv) : Option (List Kv × Int) :=
 obnd (
  obnd (Mref20_Valid t1) fun y3 =>
  sel (!y3) (
   some true) (
   obnd (Mref20_Valid ([row2] : List Kv)) fun y4 =>
   some (!y4)) : Option Bool) fun x5 =>
 sel x5 (
  some ([], 1)) (
  obnd (Mref20_with t1 row2) fun y6 =>
  sel (decide (1024 < (y6.length : Int))) (
   some ([], 16)) (
   some (y6, 0)))
theorem Mref20_Put_sp {t1 : List Kv} {row2 : Kv} {y : (List Kv × Int)} (hm : Mref20_Put t1 row2 = some y) : Spec Tryz.prog 41 [.d (lst Kv.ds t1), .a [vS row2.key, vS row2.val]] [] fun u h => u = .t [.d (lst Kv.ds y.1), vI y.2] ∧ h = [] := by
 refine si Tryz.func41 Tryz.ntmps41 Tryz.results41 fun B w0 ρ0 => ?_
 unfold Mref20_Put at hm
 refine sr ?_
 refine wc_seq ?_
 refine wc_seq ?_
 obtain ⟨mu1, hm1, hm⟩ := obnd_o hm
 refine wc_cut' (fun st => ∃ (x5 : Bool), x5 = mu1 ∧ st = ⟨[(0, .d (lst Kv.ds t1)), (3, .p 103 0), (15, vB x5)], [(103, some (.box 54 [vS row2.key, vS row2.val]))]⟩) ?_ ?_
 ·refine sr ?_
  obtain ⟨y3, hy, hm1⟩ := obnd_o hm1
  refine wl_cq (Mref20_Valid_sp (hm := hy)) ?_
  refine ss ?_
  refine wl_sg hm1 ?_ ?_ <;> clear hm1 <;> intro hm1
  ·refine ss ?_
   cases hm1
   exact wk_cutw [(103, 103)] ⟨_, rfl, rfl⟩
  refine ss ?_
  refine wl_bt Kv.ds [row2] rfl rfl (by simp only [flatV, cellsV, List.cons_append, List.nil_append, List.append_nil]; exact rfl) rfl rfl rfl rfl rfl rfl ?_
  refine ss ?_
  obtain ⟨y4, hy, hm1⟩ := obnd_o hm1
  refine wl_cq (Mref20_Valid_sp (hm := hy)) ?_
  refine ss ?_
  cases hm1
  exact wk_cutw [(103, 103)] ⟨_, rfl, rfl⟩
 rintro _ ⟨x5, rfl, rfl⟩
 refine ss ?_
 refine wc_cs hm ?_ ?_ <;> clear hm <;> intro hm
 ·refine sr ?_
  refine sx ?_
  cases hm
  exact wk_r
 refine sx ?_
 refine sr ?_
 obtain ⟨y6, hy, hm⟩ := obnd_o hm
 refine wl_cq (Mref20_with_sp (hm := hy)) ?_
 refine sr ?_
 refine wc_cs hm ?_ ?_ <;> clear hm <;> intro hm
 ·refine sr ?_
  refine sx ?_
  cases hm
  exact wk_r
 refine sx ?_
 refine sr ?_
 refine sx ?_
 cases hm
 exact wk_r

end Go.Proofs.YtohpjdeohpamaaaGreat
