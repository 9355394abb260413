/-
  Lemmas: Models and walks: the program's keys, ranges, tables, aggregates; the references'. / Contracts: equal queries, well-formed queries. / Contracts: the makers of a query's ranges; its check in the program. / Contracts: the ranges of a query. / Models and walks: what a query asks (checked and proved before), answers. / Models and walks: the laws of chapter 22. / Plain laws of the models: keys, ranges, tables; the tape's choices. / Contracts: a row put into a table; the tape's tables.
-/
import Derived.Test.YtjnnkpkbgdknmaaDoorPU4
import Derived.Test.YtjnnkpkbgdknmaaDoorPU2
import Derived.Test.YtjnnkpkbgdknmaaDoorPU3
namespace Go.Proofs.YtjnnkpkbgdknmaaDoor
set_option linter.unusedSimpArgs false
set_option linter.unusedVariables false
open Go.RowKit
attribute [local irreducible] WK WC WL Wk Rel OpD OpV WD WO sel bnd obnd app lget lsl sget ssl scat letg iquo irem Op.bytesLess
def Mkeyspace_ValidKey (k1 : ByteArray) : Bool :=
  decide ((k1.size : Int) ≤ 64)
set_option maxRecDepth 100000 in
set_option maxHeartbeats 4000000 in
theorem Mkeyspace_ValidKey_sp {k1 : ByteArray} {y : Bool} (hm : Mkeyspace_ValidKey k1 = y) : Spec Tryd.prog 43 [vS k1] [] fun u h => u = vB y ∧ h = [] := by
  refine Spec.intro Tryd.func43 rfl rfl Tryd.ntmps43 Tryd.results43 rfl fun B w0 ρ0 => ?_
  simp only [slots, List.map_nil, List.map_cons, Nat.reduceAdd]
  unfold Mkeyspace_ValidKey at hm
  have hm0 := hm
  clear hm
  refine wc_seq ?_
  refine wc_region ?_
  repeat (refine sl ?_)
  refine wc_seq ?_
  refine wc_region ?_
  repeat (refine sl ?_)
  refine wc_ret ?_
  repeat (refine sl ?_)
  subst hm0
  exact wk_ret ⟨rfl, rfl⟩

def Mkeyspace_ValidBound (b1 : Bnd) : Bool :=
  bnd (Mkeyspace_ValidKey b1.key) fun y2 =>
  sel y2 (
    sel (!b1.top) (
      true) (
      decide (b1.key = ⟨#[]⟩))) (
    false)
set_option maxRecDepth 100000 in
set_option maxHeartbeats 4000000 in
theorem Mkeyspace_ValidBound_sp {b1 : Bnd} {y : Bool} (hm : Mkeyspace_ValidBound b1 = y) : Spec Tryd.prog 69 [.a [vS b1.key, vB b1.top]] [] fun u h => u = vB y ∧ h = [] := by
  refine Spec.intro Tryd.func69 rfl rfl Tryd.ntmps69 Tryd.results69 rfl fun B w0 ρ0 => ?_
  simp only [slots, List.map_nil, List.map_cons, Nat.reduceAdd]
  unfold Mkeyspace_ValidBound at hm
  have hm0 := hm
  clear hm
  refine wc_seq ?_
  refine wc_region ?_
  repeat (refine sl ?_)
  refine wc_seq ?_
  refine wc_region ?_
  repeat (refine sl ?_)
  obtain ⟨y2, hy, hm0⟩ := bnd_o hm0
  refine wl_cq (Mkeyspace_ValidKey_sp (hm := hy)) ?_
  repeat (refine sl ?_)
  refine wl_gp rfl rfl rfl rfl (fun h => ?_) (fun h => ?_)
  · replace hm0 := sel_t h hm0
    repeat (refine sl ?_)
    refine wl_gp rfl rfl rfl rfl (fun h => ?_) (fun h => ?_)
    · replace hm0 := sel_t h hm0
      repeat (refine sl ?_)
      refine wc_ret ?_
      repeat (refine sl ?_)
      subst hm0
      exact wk_ret ⟨rfl, rfl⟩
    · replace hm0 := sel_f h hm0
      repeat (refine sl ?_)
      refine wc_ret ?_
      repeat (refine sl ?_)
      subst hm0
      exact wk_ret ⟨rfl, rfl⟩
  · replace hm0 := sel_f h hm0
    repeat (refine sl ?_)
    refine wc_ret ?_
    repeat (refine sl ?_)
    subst hm0
    exact wk_ret ⟨rfl, rfl⟩

def Mkeyspace_Compare (a1 : Bnd) (b2 : Bnd) : Int :=
  bnd (
    sel a1.top (
      b2.top) (
      false) : Bool) fun x3 =>
  sel x3 (
    0) (
    sel a1.top (
      1) (
      bnd (
        sel b2.top (
          true) (
          bl a1.key b2.key) : Bool) fun x4 =>
      sel x4 (
        (-1)) (
        sel (bl b2.key a1.key) (
          1) (
          0))))
set_option maxRecDepth 100000 in
set_option maxHeartbeats 4000000 in
theorem Mkeyspace_Compare_sp {a1 : Bnd} {b2 : Bnd} {y : Int} (hm : Mkeyspace_Compare a1 b2 = y) : Spec Tryd.prog 70 [.a [vS a1.key, vB a1.top], .a [vS b2.key, vB b2.top]] [] fun u h => u = vI y ∧ h = [] := by
  refine Spec.intro Tryd.func70 rfl rfl Tryd.ntmps70 Tryd.results70 rfl fun B w0 ρ0 => ?_
  simp only [slots, List.map_nil, List.map_cons, Nat.reduceAdd]
  unfold Mkeyspace_Compare at hm
  have hm0 := hm
  clear hm
  refine wc_seq ?_
  refine wc_region ?_
  repeat (refine sl ?_)
  refine wc_seq ?_
  refine wc_block ?_
  refine wc_seq ?_
  obtain ⟨mu1, hm1, hm0⟩ := bnd_o hm0
  refine wc_cut' (fun st => ∃ (x3 : Bool), x3 = mu1 ∧ st = ⟨[(2, .p 102 0), (3, .p 103 0), (5, vB x3)], [(102, some (.box 48 [vS a1.key, vB a1.top])), (103, some (.box 48 [vS b2.key, vB b2.top]))]⟩) ?_ ?_
  · refine wc_region ?_
    repeat (refine sl ?_)
    refine wl_gp rfl rfl rfl rfl (fun h => ?_) (fun h => ?_)
    · replace hm1 := sel_t h hm1
      repeat (refine sl ?_)
      subst hm1
      exact wk_cutw [(102, 102), (103, 103)] ⟨_, rfl, rfl⟩
    · replace hm1 := sel_f h hm1
      repeat (refine sl ?_)
      subst hm1
      exact wk_cutw [(102, 102), (103, 103)] ⟨_, rfl, rfl⟩
  rintro _ ⟨x3, rfl, rfl⟩
  repeat (refine sl ?_)
  refine wc_cond rfl (fun h => ?_) (fun h => ?_)
  · replace hm0 := sel_t h hm0
    refine wc_seq ?_
    refine wc_region ?_
    repeat (refine sl ?_)
    refine wc_ret ?_
    repeat (refine sl ?_)
    subst hm0
    exact wk_ret ⟨rfl, rfl⟩
  · replace hm0 := sel_f h hm0
    refine wc_seq ?_
    refine wc_region ?_
    repeat (refine sl ?_)
    refine wc_cond rfl (fun h => ?_) (fun h => ?_)
    · replace hm0 := sel_t h hm0
      refine wc_seq ?_
      refine wc_region ?_
      repeat (refine sl ?_)
      refine wc_ret ?_
      repeat (refine sl ?_)
      subst hm0
      exact wk_ret ⟨rfl, rfl⟩
    · replace hm0 := sel_f h hm0
      refine wc_seq ?_
      obtain ⟨mu1, hm1, hm0⟩ := bnd_o hm0
      refine wc_cut' (fun st => ∃ (x4 : Bool), x4 = mu1 ∧ st = ⟨[(2, .p 102 0), (3, .p 103 0), (15, vB x4)], [(102, some (.box 48 [vS a1.key, vB a1.top])), (103, some (.box 48 [vS b2.key, vB b2.top]))]⟩) ?_ ?_
      · refine wc_region ?_
        repeat (refine sl ?_)
        refine wl_gp rfl rfl rfl rfl (fun h => ?_) (fun h => ?_)
        · replace hm1 := sel_t h hm1
          repeat (refine sl ?_)
          subst hm1
          exact wk_cutw [(102, 102), (103, 103)] ⟨_, rfl, rfl⟩
        · replace hm1 := sel_f h hm1
          repeat (refine sl ?_)
          subst hm1
          exact wk_cutw [(102, 102), (103, 103)] ⟨_, rfl, rfl⟩
      rintro _ ⟨x4, rfl, rfl⟩
      repeat (refine sl ?_)
      refine wc_cond rfl (fun h => ?_) (fun h => ?_)
      · replace hm0 := sel_t h hm0
        refine wc_seq ?_
        refine wc_region ?_
        repeat (refine sl ?_)
        refine wc_ret ?_
        repeat (refine sl ?_)
        subst hm0
        exact wk_ret ⟨rfl, rfl⟩
      · replace hm0 := sel_f h hm0
        refine wc_seq ?_
        refine wc_region ?_
        repeat (refine sl ?_)
        refine wc_cond rfl (fun h => ?_) (fun h => ?_)
        · replace hm0 := sel_t h hm0
          refine wc_seq ?_
          refine wc_region ?_
          repeat (refine sl ?_)
          refine wc_ret ?_
          repeat (refine sl ?_)
          subst hm0
          exact wk_ret ⟨rfl, rfl⟩
        · replace hm0 := sel_f h hm0
          refine wc_skip ?_
          repeat (refine sl ?_)
          refine wc_seq ?_
          refine wc_region ?_
          repeat (refine sl ?_)
          refine wc_ret ?_
          repeat (refine sl ?_)
          subst hm0
          exact wk_ret ⟨rfl, rfl⟩

def Mkeyspace_Valid (r1 : Rng) : Bool :=
  bnd (Mkeyspace_ValidBound r1.lo) fun y2 =>
  sel y2 (
    bnd (Mkeyspace_ValidBound r1.hi) fun y3 =>
    sel y3 (
      bnd (Mkeyspace_Compare r1.lo r1.hi) fun y4 =>
      decide (y4 ≤ 0)) (
      false)) (
    false)
set_option maxRecDepth 100000 in
set_option maxHeartbeats 4000000 in
theorem Mkeyspace_Valid_sp {r1 : Rng} {y : Bool} (hm : Mkeyspace_Valid r1 = y) : Spec Tryd.prog 42 [.a [vS r1.lo.key, vB r1.lo.top, vS r1.hi.key, vB r1.hi.top]] [] fun u h => u = vB y ∧ h = [] := by
  refine Spec.intro Tryd.func42 rfl rfl Tryd.ntmps42 Tryd.results42 rfl fun B w0 ρ0 => ?_
  simp only [slots, List.map_nil, List.map_cons, Nat.reduceAdd]
  unfold Mkeyspace_Valid at hm
  have hm0 := hm
  clear hm
  refine wc_seq ?_
  refine wc_region ?_
  repeat (refine sl ?_)
  refine wc_seq ?_
  refine wc_region ?_
  repeat (refine sl ?_)
  obtain ⟨y2, hy, hm0⟩ := bnd_o hm0
  refine wl_cq (Mkeyspace_ValidBound_sp (hm := hy)) ?_
  repeat (refine sl ?_)
  refine wl_gp rfl rfl rfl rfl (fun h => ?_) (fun h => ?_)
  · replace hm0 := sel_t h hm0
    repeat (refine sl ?_)
    obtain ⟨y3, hy, hm0⟩ := bnd_o hm0
    refine wl_cq (Mkeyspace_ValidBound_sp (hm := hy)) ?_
    repeat (refine sl ?_)
    refine wl_gp rfl rfl rfl rfl (fun h => ?_) (fun h => ?_)
    · replace hm0 := sel_t h hm0
      repeat (refine sl ?_)
      obtain ⟨y4, hy, hm0⟩ := bnd_o hm0
      refine wl_cq (Mkeyspace_Compare_sp (hm := hy)) ?_
      repeat (refine sl ?_)
      refine wc_ret ?_
      repeat (refine sl ?_)
      subst hm0
      exact wk_ret ⟨rfl, rfl⟩
    · replace hm0 := sel_f h hm0
      repeat (refine sl ?_)
      refine wc_ret ?_
      repeat (refine sl ?_)
      subst hm0
      exact wk_ret ⟨rfl, rfl⟩
  · replace hm0 := sel_f h hm0
    repeat (refine sl ?_)
    refine wc_ret ?_
    repeat (refine sl ?_)
    subst hm0
    exact wk_ret ⟨rfl, rfl⟩

def Mkeyspace_Empty (r1 : Rng) : Bool :=
  bnd (Mkeyspace_Valid r1) fun y2 =>
  sel (!y2) (
    true) (
    bnd (Mkeyspace_Compare r1.lo r1.hi) fun y3 =>
    decide (y3 = 0))
set_option maxRecDepth 100000 in
set_option maxHeartbeats 4000000 in
theorem Mkeyspace_Empty_sp {r1 : Rng} {y : Bool} (hm : Mkeyspace_Empty r1 = y) : Spec Tryd.prog 84 [.a [vS r1.lo.key, vB r1.lo.top, vS r1.hi.key, vB r1.hi.top]] [] fun u h => u = vB y ∧ h = [] := by
  refine Spec.intro Tryd.func84 rfl rfl Tryd.ntmps84 Tryd.results84 rfl fun B w0 ρ0 => ?_
  simp only [slots, List.map_nil, List.map_cons, Nat.reduceAdd]
  unfold Mkeyspace_Empty at hm
  have hm0 := hm
  clear hm
  refine wc_seq ?_
  refine wc_region ?_
  repeat (refine sl ?_)
  refine wc_seq ?_
  refine wc_region ?_
  repeat (refine sl ?_)
  obtain ⟨y2, hy, hm0⟩ := bnd_o hm0
  refine wl_cq (Mkeyspace_Valid_sp (hm := hy)) ?_
  repeat (refine sl ?_)
  refine wl_gp rfl rfl rfl rfl (fun h => ?_) (fun h => ?_)
  · replace hm0 := sel_t h hm0
    repeat (refine sl ?_)
    refine wc_ret ?_
    repeat (refine sl ?_)
    subst hm0
    exact wk_ret ⟨rfl, rfl⟩
  · replace hm0 := sel_f h hm0
    repeat (refine sl ?_)
    obtain ⟨y3, hy, hm0⟩ := bnd_o hm0
    refine wl_cq (Mkeyspace_Compare_sp (hm := hy)) ?_
    repeat (refine sl ?_)
    refine wc_ret ?_
    repeat (refine sl ?_)
    subst hm0
    exact wk_ret ⟨rfl, rfl⟩

def Mkeyspace_Contains (r1 : Rng) (k2 : ByteArray) : Bool :=
  bnd (Mkeyspace_Empty r1) fun y3 =>
  sel (!y3) (
    bnd (Mkeyspace_ValidKey k2) fun y4 =>
    sel y4 (
      bnd (Mkeyspace_Compare r1.lo (Bnd.mk k2 false)) fun y5 =>
      sel (decide (y5 ≤ 0)) (
        bnd (Mkeyspace_Compare (Bnd.mk k2 false) r1.hi) fun y6 =>
        decide (y6 < 0)) (
        false)) (
      false)) (
    false)
set_option maxRecDepth 100000 in
set_option maxHeartbeats 4000000 in
theorem Mkeyspace_Contains_sp {r1 : Rng} {k2 : ByteArray} {y : Bool} (hm : Mkeyspace_Contains r1 k2 = y) : Spec Tryd.prog 78 [.a [vS r1.lo.key, vB r1.lo.top, vS r1.hi.key, vB r1.hi.top], vS k2] [] fun u h => u = vB y ∧ h = [] := by
  refine Spec.intro Tryd.func78 rfl rfl Tryd.ntmps78 Tryd.results78 rfl fun B w0 ρ0 => ?_
  simp only [slots, List.map_nil, List.map_cons, Nat.reduceAdd]
  unfold Mkeyspace_Contains at hm
  have hm0 := hm
  clear hm
  refine wc_seq ?_
  refine wc_region ?_
  repeat (refine sl ?_)
  refine wc_seq ?_
  refine wc_region ?_
  repeat (refine sl ?_)
  refine wc_seq ?_
  refine wc_region ?_
  repeat (refine sl ?_)
  obtain ⟨y3, hy, hm0⟩ := bnd_o hm0
  refine wl_cq (Mkeyspace_Empty_sp (hm := hy)) ?_
  repeat (refine sl ?_)
  refine wl_gp rfl rfl rfl rfl (fun h => ?_) (fun h => ?_)
  · replace hm0 := sel_t h hm0
    repeat (refine sl ?_)
    obtain ⟨y4, hy, hm0⟩ := bnd_o hm0
    refine wl_cq (Mkeyspace_ValidKey_sp (hm := hy)) ?_
    repeat (refine sl ?_)
    refine wl_gp rfl rfl rfl rfl (fun h => ?_) (fun h => ?_)
    · replace hm0 := sel_t h hm0
      repeat (refine sl ?_)
      obtain ⟨y5, hy, hm0⟩ := bnd_o hm0
      refine wl_cq (Mkeyspace_Compare_sp (hm := hy)) ?_
      repeat (refine sl ?_)
      refine wl_gp rfl rfl rfl rfl (fun h => ?_) (fun h => ?_)
      · replace hm0 := sel_t h hm0
        repeat (refine sl ?_)
        obtain ⟨y6, hy, hm0⟩ := bnd_o hm0
        refine wl_cq (Mkeyspace_Compare_sp (hm := hy)) ?_
        repeat (refine sl ?_)
        refine wc_ret ?_
        repeat (refine sl ?_)
        subst hm0
        exact wk_ret ⟨rfl, rfl⟩
      · replace hm0 := sel_f h hm0
        repeat (refine sl ?_)
        refine wc_ret ?_
        repeat (refine sl ?_)
        subst hm0
        exact wk_ret ⟨rfl, rfl⟩
    · replace hm0 := sel_f h hm0
      repeat (refine sl ?_)
      refine wc_ret ?_
      repeat (refine sl ?_)
      subst hm0
      exact wk_ret ⟨rfl, rfl⟩
  · replace hm0 := sel_f h hm0
    repeat (refine sl ?_)
    refine wc_ret ?_
    repeat (refine sl ?_)
    subst hm0
    exact wk_ret ⟨rfl, rfl⟩

def Mtable_validRow (r1 : Kv) : Bool :=
  bnd (Mkeyspace_ValidKey r1.key) fun y2 =>
  sel y2 (
    decide ((r1.val.size : Int) ≤ 64)) (
    false)
set_option maxRecDepth 100000 in
set_option maxHeartbeats 4000000 in
theorem Mtable_validRow_sp {r1 : Kv} {y : Bool} (hm : Mtable_validRow r1 = y) : Spec Tryd.prog 77 [.a [vS r1.key, vS r1.val]] [] fun u h => u = vB y ∧ h = [] := by
  refine Spec.intro Tryd.func77 rfl rfl Tryd.ntmps77 Tryd.results77 rfl fun B w0 ρ0 => ?_
  simp only [slots, List.map_nil, List.map_cons, Nat.reduceAdd]
  unfold Mtable_validRow at hm
  have hm0 := hm
  clear hm
  refine wc_seq ?_
  refine wc_region ?_
  repeat (refine sl ?_)
  refine wc_seq ?_
  refine wc_region ?_
  repeat (refine sl ?_)
  obtain ⟨y2, hy, hm0⟩ := bnd_o hm0
  refine wl_cq (Mkeyspace_ValidKey_sp (hm := hy)) ?_
  repeat (refine sl ?_)
  refine wl_gp rfl rfl rfl rfl (fun h => ?_) (fun h => ?_)
  · replace hm0 := sel_t h hm0
    repeat (refine sl ?_)
    refine wc_ret ?_
    repeat (refine sl ?_)
    subst hm0
    exact wk_ret ⟨rfl, rfl⟩
  · replace hm0 := sel_f h hm0
    repeat (refine sl ?_)
    refine wc_ret ?_
    repeat (refine sl ?_)
    subst hm0
    exact wk_ret ⟨rfl, rfl⟩

def Mtable_Valid_l1 (t1 : List Kv) : List Kv → Int → Option (Ctl Bool Unit)
  | [], i =>
    some (Ctl.nxt ())
  | r2 :: xs3, i =>
    bnd (Mtable_validRow r2) fun y5 =>
    sel (!y5) (
      some (Ctl.ret false)) (
      sel (decide (0 < i)) (
        obnd (lget t1 (i64w (i - 1))) fun e6 =>
        sel (!bl e6.key r2.key) (
          some (Ctl.ret false)) (
          Mtable_Valid_l1 t1 xs3 (i + 1))) (
        Mtable_Valid_l1 t1 xs3 (i + 1)))
def Mtable_Valid (t1 : List Kv) : Option Bool :=
  sel (decide (1024 < (t1.length : Int))) (
    some false) (
    obnd (
      Mtable_Valid_l1 t1 t1 0 : Option (Ctl Bool Unit)) fun mu => ocbnd mu fun (_ : Unit) =>
    some true)
set_option maxRecDepth 100000 in
set_option maxHeartbeats 4000000 in
theorem Mtable_Valid_sp {t1 : List Kv} {y : Bool} (hm : Mtable_Valid t1 = some y) : Spec Tryd.prog 51 [.d (lst Kv.ds t1)] [] fun u h => u = vB y ∧ h = [] := by
  refine Spec.intro Tryd.func51 rfl rfl Tryd.ntmps51 Tryd.results51 rfl fun B w0 ρ0 => ?_
  simp only [slots, List.map_nil, List.map_cons, Nat.reduceAdd]
  unfold Mtable_Valid at hm
  have hm0 := hm
  clear hm
  refine wc_seq ?_
  refine wc_region ?_
  repeat (refine sl ?_)
  refine wc_seq ?_
  refine wc_seq ?_
  refine wc_region ?_
  repeat (refine sl ?_)
  refine wc_cond rfl (fun h => ?_) (fun h => ?_)
  · replace hm0 := sel_t h hm0
    refine wc_seq ?_
    refine wc_region ?_
    repeat (refine sl ?_)
    refine wc_ret ?_
    repeat (refine sl ?_)
    obtain rfl := Option.some.inj hm0
    exact wk_ret ⟨rfl, rfl⟩
  · replace hm0 := sel_f h hm0
    refine wc_skip ?_
    repeat (refine sl ?_)
    refine wc_seq ?_
    refine wc_seq ?_
    refine wc_region ?_
    repeat (refine sl ?_)
    obtain ⟨mu1, hm1, hm0⟩ := obnd_o hm0
    refine wc_cut' (fun st => mu1 = Ctl.nxt () ∧ st = ⟨[], []⟩) ?_ ?_
    · refine wc_block ?_
      refine wc_len 8 rfl (fun hlenm4 => ?_)
      refine wc_loopw (fun κ st => ∃ (m4 : Nat) , κ = t1.length - m4 ∧ m4 ≤ t1.length ∧ Mtable_Valid_l1 t1 (t1.drop m4) (m4 : Int) = some mu1 ∧ st = ⟨[(0, .d (lst Kv.ds t1)), (8, .d (lst Kv.ds t1)), (9, vI (t1.length : Int)), (10, vI (m4 : Int))], []⟩) [] ⟨0, rfl, Nat.zero_le _, hm1, rfl⟩ ?_
      rintro κ _ ⟨m4, rfl, hlem4, hm1, rfl⟩
      rcases Nat.lt_or_ge m4 t1.length with hltm4 | hgem4
      · obtain ⟨r2, hxm4, hdr⟩ := drop_c hltm4
        rw [hdr, Mtable_Valid_l1.eq_2] at hm1
        refine wc_seq ?_
        refine wc_region ?_
        repeat (refine sl ?_)
        refine wc_seq ?_
        refine wc_cond_tt (lt_t hltm4) rfl ?_
        refine wc_skip ?_
        repeat (refine sl ?_)
        refine wc_seq ?_
        refine wc_block ?_
        refine wc_seq ?_
        refine wc_region ?_
        repeat (refine sl ?_)
        refine wl_r (o_ixm (ys := [dS r2.key, dS r2.val]) hxm4 rfl rfl rfl rfl) rfl rfl rfl ?_
        repeat (refine sl ?_)
        refine wc_seq ?_
        refine wc_draw (id := 6) [⟨0, 0, [4]⟩, ⟨1, 1, [15]⟩, ⟨2, 3, [16]⟩, ⟨3, 7, [17]⟩, ⟨4, 15, [3, 18]⟩, ⟨5, 31, [18, 19]⟩, ⟨6, 63, [18, 20]⟩, ⟨7, 127, [0, 21]⟩, ⟨8, 127, [3, 21]⟩, ⟨9, 383, [21, 23]⟩, ⟨10, 1023, [21, 22, 24]⟩, ⟨11, 2047, [21, 25]⟩, ⟨12, 4095, [21, 26]⟩, ⟨13, 127, [4, 21]⟩, ⟨14, 8319, [21, 28]⟩, ⟨15, 32767, [21, 27, 29]⟩, ⟨16, 65535, [18, 21, 30]⟩, ⟨17, 131071, [18, 31]⟩] mixed (by kernel_rfl) ?_
        repeat (refine sl ?_)
        obtain ⟨y5, hy, hm1⟩ := bnd_o hm1
        refine wd_cs (Mtable_validRow_sp (hm := hy)) rfl rfl rfl (by repeat (first | exact Vws.nil | apply Vws.cons | exact Vw.nil | exact Vw.d _ | exact Vw.q _ | apply Vw.a)) rfl rfl (by first | exact .no rfl | exact .y rfl rfl rfl rfl) rfl rfl rfl ?_
        repeat (refine sl ?_)
        refine wd_gp rfl rfl rfl rfl (fun h => ?_) (fun h => ?_)
        · replace hm1 := sel_t h hm1
          repeat (refine sl ?_)
          refine wc_cond_t rfl ?_
          refine wc_seq ?_
          refine wc_region ?_
          repeat (refine sl ?_)
          refine wc_ret ?_
          repeat (refine sl ?_)
          obtain rfl := Option.some.inj hm1
          replace hm0 := ocbnd_r hm0
          obtain rfl := Option.some.inj hm0
          exact wk_ret ⟨rfl, rfl⟩
        · replace hm1 := sel_f h hm1
          repeat (refine sl ?_)
          refine wd_gp rfl rfl rfl rfl (fun h => ?_) (fun h => ?_)
          · replace hm1 := sel_t h hm1
            repeat (refine sl ?_)
            obtain ⟨e6, hy, hm1⟩ := obnd_o hm1
            refine wd_r [] (o_ixg (ys := [dS e6.key, dS e6.val]) hy rfl rfl rfl rfl) rfl (by first | exact .no rfl | exact .y rfl rfl rfl rfl) rfl rfl ?_
            repeat (refine sl ?_)
            refine wc_cond rfl (fun h => ?_) (fun h => ?_)
            · replace hm1 := sel_t h hm1
              refine wc_seq ?_
              refine wc_region ?_
              repeat (refine sl ?_)
              refine wc_ret ?_
              repeat (refine sl ?_)
              obtain rfl := Option.some.inj hm1
              replace hm0 := ocbnd_r hm0
              obtain rfl := Option.some.inj hm0
              exact wk_ret ⟨rfl, rfl⟩
            · replace hm1 := sel_f h hm1
              refine wc_skip ?_
              repeat (refine sl ?_)
              refine wc_region ?_
              repeat (refine sl ?_)
              refine wl_r (o_inc hltm4 hlenm4 rfl rfl rfl) rfl rfl rfl ?_
              repeat (refine sl ?_)
              exact wk_loopw [] ⟨m4 + 1, rfl, hltm4, hm1, rfl⟩ (by omega)
          · replace hm1 := sel_f h hm1
            repeat (refine sl ?_)
            refine wc_cond_f rfl ?_
            refine wc_skip ?_
            repeat (refine sl ?_)
            refine wc_region ?_
            repeat (refine sl ?_)
            refine wl_r (o_inc hltm4 hlenm4 rfl rfl rfl) rfl rfl rfl ?_
            repeat (refine sl ?_)
            exact wk_loopw [] ⟨m4 + 1, rfl, hltm4, hm1, rfl⟩ (by omega)
      · rw [drop_n hgem4, Mtable_Valid_l1.eq_1] at hm1
        refine wc_seq ?_
        refine wc_region ?_
        repeat (refine sl ?_)
        refine wc_seq ?_
        refine wc_cond_ff (lt_f hgem4) rfl ?_
        refine wc_exit ?_
        repeat (refine sl ?_)
        obtain rfl := Option.some.inj hm1
        exact wk_cutw [] ⟨rfl, rfl⟩
    rintro _ ⟨rfl, rfl⟩
    replace hm0 := ocbnd_n hm0
    repeat (refine sl ?_)
    refine wc_seq ?_
    refine wc_region ?_
    repeat (refine sl ?_)
    refine wc_ret ?_
    repeat (refine sl ?_)
    obtain rfl := Option.some.inj hm0
    exact wk_ret ⟨rfl, rfl⟩

def Mtable_Slice_l1 (r2 : Rng) : List Kv → List Kv → Option (List Kv)
  | [], out3 =>
    some out3
  | r4 :: xs5, out3 =>
    bnd (Mkeyspace_Contains r2 r4.key) fun y7 =>
    sel y7 (
      obnd (app out3 ([r4] : List Kv)) fun l8 =>
      Mtable_Slice_l1 r2 xs5 l8) (
      Mtable_Slice_l1 r2 xs5 out3)
def Mtable_Slice (t1 : List Kv) (r2 : Rng) : Option (List Kv) :=
  obnd (
    Mtable_Slice_l1 r2 t1 [] : Option (List Kv)) fun out9 =>
  some out9
set_option maxRecDepth 100000 in
set_option maxHeartbeats 4000000 in
theorem Mtable_Slice_sp {t1 : List Kv} {r2 : Rng} {y : List Kv} (hm : Mtable_Slice t1 r2 = some y) : Spec Tryd.prog 52 [.d (lst Kv.ds t1), .a [vS r2.lo.key, vB r2.lo.top, vS r2.hi.key, vB r2.hi.top]] [] fun u h => u = .d (lst Kv.ds y) ∧ h = [] := by
  refine Spec.intro Tryd.func52 rfl rfl Tryd.ntmps52 Tryd.results52 rfl fun B w0 ρ0 => ?_
  simp only [slots, List.map_nil, List.map_cons, Nat.reduceAdd]
  unfold Mtable_Slice at hm
  have hm0 := hm
  clear hm
  refine wc_seq ?_
  refine wc_region ?_
  repeat (refine sl ?_)
  refine wc_seq ?_
  refine wc_region ?_
  repeat (refine sl ?_)
  refine wc_seq ?_
  refine wc_seq ?_
  refine wc_region ?_
  repeat (refine sl ?_)
  obtain ⟨mu1, hm1, hm0⟩ := obnd_o hm0
  refine wc_cut' (fun st => ∃ (out9 : List Kv), out9 = mu1 ∧ st = ⟨[(5, .d (lst Kv.ds out9))], []⟩) ?_ ?_
  · refine wc_block ?_
    refine wc_wk (wk_nil 5 5001 59 2 rfl rfl) ?_
    refine wc_len 8 rfl (fun hlenm6 => ?_)
    refine wc_loopw (fun κ st => ∃ (m6 : Nat) (out3 : List Kv), κ = t1.length - m6 ∧ m6 ≤ t1.length ∧ Mtable_Slice_l1 r2 (t1.drop m6) out3 = some mu1 ∧ st = ⟨[(3, .p 103 0), (5, .h 5001), (8, .d (lst Kv.ds t1)), (9, vI (t1.length : Int)), (10, vI (m6 : Int))], [(103, some (.box 50 [vS r2.lo.key, vB r2.lo.top, vS r2.hi.key, vB r2.hi.top])), (5001, some (arrT 59 2 Kv.ds out3))]⟩) [(103, 103), (5001, 5001)] ⟨0, _, rfl, Nat.zero_le _, hm1, rfl⟩ ?_
    rintro κ _ ⟨m6, out3, rfl, hlem6, hm1, rfl⟩
    rcases Nat.lt_or_ge m6 t1.length with hltm6 | hgem6
    · obtain ⟨r4, hxm6, hdr⟩ := drop_c hltm6
      rw [hdr, Mtable_Slice_l1.eq_2] at hm1
      refine wc_seq ?_
      refine wc_region ?_
      repeat (refine sl ?_)
      refine wc_seq ?_
      refine wc_cond_tt (lt_t hltm6) rfl ?_
      refine wc_skip ?_
      repeat (refine sl ?_)
      refine wc_seq ?_
      refine wc_block ?_
      refine wc_seq ?_
      refine wc_region ?_
      repeat (refine sl ?_)
      refine wl_r (o_ixm (ys := [dS r4.key, dS r4.val]) hxm6 rfl rfl rfl rfl) rfl rfl rfl ?_
      repeat (refine sl ?_)
      refine wc_seq ?_
      refine wc_region ?_
      repeat (refine sl ?_)
      obtain ⟨y7, hy, hm1⟩ := bnd_o hm1
      refine wl_cq (Mkeyspace_Contains_sp (hm := hy)) ?_
      repeat (refine sl ?_)
      refine wc_cond rfl (fun h => ?_) (fun h => ?_)
      · replace hm1 := sel_t h hm1
        refine wc_region ?_
        repeat (refine sl ?_)
        refine wl_bt Kv.ds [r4] rfl rfl (by simp only [flatV, cellsV, List.cons_append, List.nil_append, List.append_nil]; exact rfl) rfl rfl rfl rfl rfl rfl ?_
        repeat (refine sl ?_)
        obtain ⟨l8, hy, hm1⟩ := obnd_o hm1
        refine wl_2 (n_app (k' := 121) hy rfl rfl rfl rfl rfl rfl rfl rfl) rfl rfl rfl rfl ?_
        repeat (refine sl ?_)
        refine wc_region ?_
        repeat (refine sl ?_)
        refine wl_r (o_inc hltm6 hlenm6 rfl rfl rfl) rfl rfl rfl ?_
        repeat (refine sl ?_)
        exact wk_loopw [(103, 103), (5001, 121)] ⟨m6 + 1, _, rfl, hltm6, hm1, rfl⟩ (by omega)
      · replace hm1 := sel_f h hm1
        refine wc_skip ?_
        repeat (refine sl ?_)
        refine wc_region ?_
        repeat (refine sl ?_)
        refine wl_r (o_inc hltm6 hlenm6 rfl rfl rfl) rfl rfl rfl ?_
        repeat (refine sl ?_)
        exact wk_loopw [(103, 103), (5001, 5001)] ⟨m6 + 1, _, rfl, hltm6, hm1, rfl⟩ (by omega)
    · rw [drop_n hgem6, Mtable_Slice_l1.eq_1] at hm1
      refine wc_seq ?_
      refine wc_region ?_
      repeat (refine sl ?_)
      refine wc_seq ?_
      refine wc_cond_ff (lt_f hgem6) rfl ?_
      refine wc_exit ?_
      repeat (refine sl ?_)
      obtain rfl := Option.some.inj hm1
      exact wk_cutw [] ⟨_, rfl, rfl⟩
  rintro _ ⟨out9, rfl, rfl⟩
  repeat (refine sl ?_)
  refine wc_seq ?_
  refine wc_region ?_
  repeat (refine sl ?_)
  refine wc_ret ?_
  repeat (refine sl ?_)
  obtain rfl := Option.some.inj hm0
  exact wk_ret ⟨rfl, rfl⟩

def Mfold_Number_l1 (digits5 : ByteArray) : Nat → Int → Nat → Option (Ctl (Int × Bool) Int)
  | 0, _, _ => none
  | fuel + 1, n9, x10 =>
    sel (decide (x10 < digits5.size)) (
      bnd (Utf8.decode digits5 x10) fun r11 =>
      obnd (
        sel (decide ((r11.1 : Int) < 48)) (
          some true) (
          some (decide (57 < (r11.1 : Int)))) : Option Bool) fun x12 =>
      sel x12 (
        some (Ctl.ret (0, false))) (
        sel (decide (1000000000000 < i64w ((i64w (n9 * 10)) + (i64w (IntKind.i32.wrap ((r11.1 : Int) - 48)))))) (
          some (Ctl.ret (0, false))) (
          Mfold_Number_l1 digits5 fuel (i64w ((i64w (n9 * 10)) + (i64w (IntKind.i32.wrap ((r11.1 : Int) - 48))))) (x10 + r11.2)))) (
      some (Ctl.nxt n9))
def Mfold_Number (value1 : ByteArray) : Option (Int × Bool) :=
  obnd (
    sel (decide (0 < (value1.size : Int))) (
      obnd (sget value1 0) fun b2 =>
      some (decide (b2 = 45))) (
      some false) : Option Bool) fun x3 =>
  obnd (
    sel x3 (
      obnd (ssl value1 1 (value1.size : Int)) fun s4 =>
      some (s4, true)) (
      some (value1, false)) : Option (ByteArray × Bool)) fun (digits5, minus6) =>
  obnd (
    sel (decide (digits5 = ⟨#[]⟩)) (
      some true) (
      obnd (sget digits5 0) fun b7 =>
      sel (decide (b7 = 48)) (
        sel (decide (1 < (digits5.size : Int))) (
          some true) (
          some minus6)) (
        some false)) : Option Bool) fun x8 =>
  sel x8 (
    some (0, false)) (
    obnd (
      Mfold_Number_l1 digits5 FU 0 0 : Option (Ctl (Int × Bool) Int)) fun mu => ocbnd mu fun n13 =>
    sel minus6 (
      some (i64w (-n13), true)) (
      some (n13, true)))
set_option maxRecDepth 100000 in
set_option maxHeartbeats 4000000 in
theorem Mfold_Number_sp {value1 : ByteArray} {y : (Int × Bool)} (hm : Mfold_Number value1 = some y) : Spec Tryd.prog 90 [vS value1] [] fun u h => u = .t [vI y.1, vB y.2] ∧ h = [] := by
  refine Spec.intro Tryd.func90 rfl rfl Tryd.ntmps90 Tryd.results90 rfl fun B w0 ρ0 => ?_
  simp only [slots, List.map_nil, List.map_cons, Nat.reduceAdd]
  unfold Mfold_Number at hm
  have hm0 := hm
  clear hm
  refine wc_seq ?_
  refine wc_region ?_
  repeat (refine sl ?_)
  refine wc_seq ?_
  refine wc_region ?_
  repeat (refine sl ?_)
  refine wc_seq ?_
  refine wc_seq ?_
  obtain ⟨mu1, hm1, hm0⟩ := obnd_o hm0
  refine wc_cut' (fun st => ∃ (x3 : Bool), x3 = mu1 ∧ st = ⟨[(0, vS value1), (4, vS value1), (5, vB false), (17, vB x3)], []⟩) ?_ ?_
  · refine wc_region ?_
    repeat (refine sl ?_)
    refine wl_gp rfl rfl rfl rfl (fun h => ?_) (fun h => ?_)
    · replace hm1 := sel_t h hm1
      repeat (refine sl ?_)
      obtain ⟨b2, hy, hm1⟩ := obnd_o hm1
      refine wl_r (o_sget hy rfl rfl rfl (by kernel_rfl)) rfl rfl rfl ?_
      repeat (refine sl ?_)
      obtain rfl := Option.some.inj hm1
      exact wk_cutw [] ⟨_, rfl, rfl⟩
    · replace hm1 := sel_f h hm1
      repeat (refine sl ?_)
      obtain rfl := Option.some.inj hm1
      exact wk_cutw [] ⟨_, rfl, rfl⟩
  rintro _ ⟨x3, rfl, rfl⟩
  repeat (refine sl ?_)
  obtain ⟨mu1, hm1, hm0⟩ := obnd_o hm0
  refine wc_cut' (fun st => ∃ (digits5 : ByteArray) (minus6 : Bool), mu1 = (digits5, minus6) ∧ st = ⟨[(4, vS digits5), (5, vB minus6)], []⟩) ?_ ?_
  · refine wc_cond rfl (fun h => ?_) (fun h => ?_)
    · replace hm1 := sel_t h hm1
      refine wc_region ?_
      repeat (refine sl ?_)
      obtain ⟨s4, hy, hm1⟩ := obnd_o hm1
      refine wl_r (o_ssl hy rfl rfl (by kernel_rfl) rfl rfl) rfl rfl rfl ?_
      repeat (refine sl ?_)
      obtain rfl := Option.some.inj hm1
      exact wk_cutw [] ⟨_, _, rfl, rfl⟩
    · replace hm1 := sel_f h hm1
      refine wc_skip ?_
      repeat (refine sl ?_)
      obtain rfl := Option.some.inj hm1
      exact wk_cutw [] ⟨_, _, rfl, rfl⟩
  rintro _ ⟨digits5, minus6, rfl, rfl⟩
  repeat (refine sl ?_)
  refine wc_seq ?_
  refine wc_seq ?_
  obtain ⟨mu1, hm1, hm0⟩ := obnd_o hm0
  refine wc_cut' (fun st => ∃ (x8 : Bool), x8 = mu1 ∧ st = ⟨[(4, vS digits5), (5, vB minus6), (34, vB x8)], []⟩) ?_ ?_
  · refine wc_region ?_
    repeat (refine sl ?_)
    refine wl_gp rfl rfl rfl rfl (fun h => ?_) (fun h => ?_)
    · replace hm1 := sel_t h hm1
      repeat (refine sl ?_)
      obtain rfl := Option.some.inj hm1
      exact wk_cutw [] ⟨_, rfl, rfl⟩
    · replace hm1 := sel_f h hm1
      repeat (refine sl ?_)
      obtain ⟨b7, hy, hm1⟩ := obnd_o hm1
      refine wl_r (o_sget hy rfl rfl rfl (by kernel_rfl)) rfl rfl rfl ?_
      repeat (refine sl ?_)
      refine wl_gp rfl rfl rfl rfl (fun h => ?_) (fun h => ?_)
      · replace hm1 := sel_t h hm1
        repeat (refine sl ?_)
        refine wl_gp rfl rfl rfl rfl (fun h => ?_) (fun h => ?_)
        · replace hm1 := sel_t h hm1
          repeat (refine sl ?_)
          obtain rfl := Option.some.inj hm1
          exact wk_cutw [] ⟨_, rfl, rfl⟩
        · replace hm1 := sel_f h hm1
          repeat (refine sl ?_)
          obtain rfl := Option.some.inj hm1
          exact wk_cutw [] ⟨_, rfl, rfl⟩
      · replace hm1 := sel_f h hm1
        repeat (refine sl ?_)
        obtain rfl := Option.some.inj hm1
        exact wk_cutw [] ⟨_, rfl, rfl⟩
  rintro _ ⟨x8, rfl, rfl⟩
  repeat (refine sl ?_)
  refine wc_cond rfl (fun h => ?_) (fun h => ?_)
  · replace hm0 := sel_t h hm0
    refine wc_seq ?_
    refine wc_region ?_
    repeat (refine sl ?_)
    refine wc_ret ?_
    repeat (refine sl ?_)
    obtain rfl := Option.some.inj hm0
    exact wk_ret ⟨rfl, rfl⟩
  · replace hm0 := sel_f h hm0
    refine wc_skip ?_
    repeat (refine sl ?_)
    refine wc_seq ?_
    refine wc_region ?_
    repeat (refine sl ?_)
    refine wc_seq ?_
    refine wc_seq ?_
    refine wc_region ?_
    repeat (refine sl ?_)
    refine wl_1 (o_range (k := 136) rfl rfl rfl rfl (by kernel_rfl)) rfl rfl rfl rfl ?_
    repeat (refine sl ?_)
    obtain ⟨mu1, hm1, hm0⟩ := obnd_o hm0
    refine wc_cut' (fun st => ∃ (n13 : Int), mu1 = Ctl.nxt n13 ∧ st = ⟨[(5, vB minus6), (6, vI n13)], []⟩) ?_ ?_
    · refine wc_block ?_
      refine wc_loopw (fun κ st => ∃ (n9 : Int) (x10 : Nat), Mfold_Number_l1 digits5 κ n9 x10 = some mu1 ∧ st = ⟨[(5, vB minus6), (6, vI n9), (36, .p 136 0)], [(136, some (.ob (.stringIter digits5 x10)))]⟩) [(136, 136)] ⟨_, _, hm1, rfl⟩ ?_
      rintro κ _ ⟨n9, x10, hm1, rfl⟩
      cases κ with
      | zero => rw [Mfold_Number_l1.eq_1] at hm1; cases hm1
      | succ κ =>
        rw [Mfold_Number_l1.eq_2] at hm1
        refine wc_seq ?_
        refine wc_region ?_
        repeat (refine sl ?_)
        refine by_dec (p := x10 < digits5.size) (fun h => ?_) (fun h => ?_)
        · replace hm1 := sel_t h hm1
          repeat (refine sl ?_)
          obtain ⟨r11, hy, hm1⟩ := bnd_o hm1
          refine wl_1 (lo := 0) (nn := 0) (o_next_t rfl rfl rfl (of_decide_eq_true h) hy) rfl rfl rfl (fresh0 _ _) ?_
          repeat (refine sl ?_)
          refine wc_seq ?_
          refine wc_cond_t rfl ?_
          refine wc_skip ?_
          repeat (refine sl ?_)
          refine wc_block ?_
          refine wc_seq ?_
          refine wc_region ?_
          repeat (refine sl ?_)
          refine wc_seq ?_
          refine wc_seq ?_
          obtain ⟨mu2, hm2, hm1⟩ := obnd_o hm1
          refine wc_cut' (fun st => ∃ (x12 : Bool), x12 = mu2 ∧ st = ⟨[(5, vB minus6), (6, vI n9), (8, .d (.c (.int .i32 (r11.1 : Int)))), (36, .p 136 0), (45, vB x12)], [(136, some (.ob (.stringIter digits5 (x10 + r11.2))))]⟩) ?_ ?_
          · refine wc_region ?_
            repeat (refine sl ?_)
            refine wl_gp rfl rfl rfl rfl (fun h => ?_) (fun h => ?_)
            · replace hm2 := sel_t h hm2
              repeat (refine sl ?_)
              obtain rfl := Option.some.inj hm2
              exact wk_cutw [(136, 136)] ⟨_, rfl, rfl⟩
            · replace hm2 := sel_f h hm2
              repeat (refine sl ?_)
              obtain rfl := Option.some.inj hm2
              exact wk_cutw [(136, 136)] ⟨_, rfl, rfl⟩
          rintro _ ⟨x12, rfl, rfl⟩
          repeat (refine sl ?_)
          refine wc_cond rfl (fun h => ?_) (fun h => ?_)
          · replace hm1 := sel_t h hm1
            refine wc_seq ?_
            refine wc_region ?_
            repeat (refine sl ?_)
            refine wc_ret ?_
            repeat (refine sl ?_)
            obtain rfl := Option.some.inj hm1
            replace hm0 := ocbnd_r hm0
            obtain rfl := Option.some.inj hm0
            exact wk_ret ⟨rfl, rfl⟩
          · replace hm1 := sel_f h hm1
            refine wc_skip ?_
            repeat (refine sl ?_)
            refine wc_seq ?_
            refine wc_region ?_
            repeat (refine sl ?_)
            refine wl_r (o_cvi (k1 := .i32) (k2 := .i64) rfl rfl (by kernel_rfl) (by kernel_rfl) rfl) rfl rfl rfl ?_
            repeat (refine sl ?_)
            refine wl_r (o_add rfl rfl rfl rfl) rfl rfl rfl ?_
            repeat (refine sl ?_)
            refine wc_seq ?_
            refine wc_region ?_
            repeat (refine sl ?_)
            refine wc_cond rfl (fun h => ?_) (fun h => ?_)
            · replace hm1 := sel_t h hm1
              refine wc_seq ?_
              refine wc_region ?_
              repeat (refine sl ?_)
              refine wc_ret ?_
              repeat (refine sl ?_)
              obtain rfl := Option.some.inj hm1
              replace hm0 := ocbnd_r hm0
              obtain rfl := Option.some.inj hm0
              exact wk_ret ⟨rfl, rfl⟩
            · replace hm1 := sel_f h hm1
              refine wc_skip ?_
              repeat (refine sl ?_)
              exact wk_loopw [(136, 136)] ⟨_, _, hm1, rfl⟩ (Nat.lt_succ_self _)
        · replace hm1 := sel_f h hm1
          refine wl_r (o_next_f rfl rfl rfl (of_decide_eq_false h)) rfl rfl rfl ?_
          repeat (refine sl ?_)
          refine wc_seq ?_
          refine wc_cond_f rfl ?_
          refine wc_exit ?_
          repeat (refine sl ?_)
          obtain rfl := Option.some.inj hm1
          exact wk_cutw [] ⟨_, rfl, rfl⟩
    rintro _ ⟨n13, rfl, rfl⟩
    replace hm0 := ocbnd_n hm0
    repeat (refine sl ?_)
    refine wc_seq ?_
    refine wc_seq ?_
    refine wc_region ?_
    repeat (refine sl ?_)
    refine wc_cond rfl (fun h => ?_) (fun h => ?_)
    · replace hm0 := sel_t h hm0
      refine wc_region ?_
      repeat (refine sl ?_)
      refine wc_seq ?_
      refine wc_region ?_
      repeat (refine sl ?_)
      refine wc_ret ?_
      repeat (refine sl ?_)
      obtain rfl := Option.some.inj hm0
      exact wk_ret ⟨rfl, rfl⟩
    · replace hm0 := sel_f h hm0
      refine wc_skip ?_
      repeat (refine sl ?_)
      refine wc_seq ?_
      refine wc_region ?_
      repeat (refine sl ?_)
      refine wc_ret ?_
      repeat (refine sl ?_)
      obtain rfl := Option.some.inj hm0
      exact wk_ret ⟨rfl, rfl⟩

structure Tsum where
  Count : Int
  Numbers : Int
  Sum : Int
  Low : Int
  High : Int
  First : ByteArray
  Last : ByteArray
  deriving DecidableEq
def Tsum.ds (x : Tsum) : List D := [dI x.Count, dI x.Numbers, dI x.Sum, dI x.Low, dI x.High, dS x.First, dS x.Last]
instance : Len Tsum.ds 7 := ⟨fun _ => rfl⟩
def Mfold_sum_add (s1 : Tsum) (r2 : Kv) : Option Tsum :=
  obnd (
    sel (decide (s1.Count = 0)) (
      some r2.key) (
      some s1.First) : Option ByteArray) fun x3 =>
  obnd (Mfold_Number r2.val) fun y4 =>
  sel (!y4.2) (
    some (Tsum.mk (i64w (s1.Count + 1)) s1.Numbers s1.Sum s1.Low s1.High x3 r2.key)) (
    obnd (
      sel (decide (s1.Numbers = 0)) (
        some true) (
        some (decide (y4.1 < s1.Low))) : Option Bool) fun x5 =>
    obnd (
      sel x5 (
        some y4.1) (
        some s1.Low) : Option Int) fun x6 =>
    obnd (
      sel (decide (s1.Numbers = 0)) (
        some true) (
        some (decide (s1.High < y4.1))) : Option Bool) fun x7 =>
    obnd (
      sel x7 (
        some y4.1) (
        some s1.High) : Option Int) fun x8 =>
    some (Tsum.mk (i64w (s1.Count + 1)) (i64w (s1.Numbers + 1)) (i64w (s1.Sum + y4.1)) x6 x8 x3 r2.key))
set_option maxRecDepth 100000 in
set_option maxHeartbeats 4000000 in
theorem Mfold_sum_add_sp {s1 : Tsum} {r2 : Kv} {y : Tsum} (hm : Mfold_sum_add s1 r2 = some y) : Spec Tryd.prog 79 [.p 0 0, .a [vS r2.key, vS r2.val]] [(0, some (.box 93 [vI s1.Count, vI s1.Numbers, vI s1.Sum, vI s1.Low, vI s1.High, vS s1.First, vS s1.Last]))] fun u h => u = .t [] ∧ h = [(0, some (.box 93 [vI y.Count, vI y.Numbers, vI y.Sum, vI y.Low, vI y.High, vS y.First, vS y.Last]))] := by
  refine Spec.intro Tryd.func79 rfl rfl Tryd.ntmps79 Tryd.results79 rfl fun B w0 ρ0 => ?_
  simp only [slots, List.map_nil, List.map_cons, Nat.reduceAdd]
  unfold Mfold_sum_add at hm
  have hm0 := hm
  clear hm
  refine wc_seq ?_
  refine wc_region ?_
  repeat (refine sl ?_)
  refine wc_seq ?_
  refine wc_seq ?_
  refine wc_region ?_
  repeat (refine sl ?_)
  obtain ⟨mu1, hm1, hm0⟩ := obnd_o hm0
  refine wc_cut' (fun st => ∃ (x3 : ByteArray), x3 = mu1 ∧ st = ⟨[(0, .p 0 0), (3, .p 103 0)], [(0, some (.box 93 [vI s1.Count, vI s1.Numbers, vI s1.Sum, vI s1.Low, vI s1.High, vS x3, vS s1.Last])), (103, some (.box 59 [vS r2.key, vS r2.val]))]⟩) ?_ ?_
  · refine wc_cond rfl (fun h => ?_) (fun h => ?_)
    · replace hm1 := sel_t h hm1
      refine wc_region ?_
      repeat (refine sl ?_)
      obtain rfl := Option.some.inj hm1
      exact wk_cutw [(0, 0), (103, 103)] ⟨_, rfl, rfl⟩
    · replace hm1 := sel_f h hm1
      refine wc_skip ?_
      repeat (refine sl ?_)
      obtain rfl := Option.some.inj hm1
      exact wk_cutw [(0, 0), (103, 103)] ⟨_, rfl, rfl⟩
  rintro _ ⟨x3, rfl, rfl⟩
  repeat (refine sl ?_)
  refine wc_seq ?_
  refine wc_region ?_
  repeat (refine sl ?_)
  refine wl_r (o_add rfl rfl rfl rfl) rfl rfl rfl ?_
  repeat (refine sl ?_)
  refine wc_seq ?_
  refine wc_region ?_
  repeat (refine sl ?_)
  refine wc_seq ?_
  refine wc_region ?_
  repeat (refine sl ?_)
  obtain ⟨y4, hy, hm0⟩ := obnd_o hm0
  refine wl_cq (Mfold_Number_sp (hm := hy)) ?_
  repeat (refine sl ?_)
  refine wc_seq ?_
  refine wc_seq ?_
  refine wc_region ?_
  repeat (refine sl ?_)
  refine wc_cond rfl (fun h => ?_) (fun h => ?_)
  · replace hm0 := sel_t h hm0
    refine wc_ret ?_
    repeat (refine sl ?_)
    obtain rfl := Option.some.inj hm0
    exact wk_reti [(0, 0)] ⟨rfl, rfl⟩
  · replace hm0 := sel_f h hm0
    refine wc_skip ?_
    repeat (refine sl ?_)
    refine wc_seq ?_
    refine wc_seq ?_
    obtain ⟨mu1, hm1, hm0⟩ := obnd_o hm0
    refine wc_cut' (fun st => ∃ (x5 : Bool), x5 = mu1 ∧ st = ⟨[(0, .p 0 0), (4, vI y4.1), (48, vB x5)], [(0, some (.box 93 [vI (i64w (s1.Count + 1)), vI s1.Numbers, vI s1.Sum, vI s1.Low, vI s1.High, vS x3, vS r2.key]))]⟩) ?_ ?_
    · refine wc_region ?_
      repeat (refine sl ?_)
      refine wl_gp rfl rfl rfl rfl (fun h => ?_) (fun h => ?_)
      · replace hm1 := sel_t h hm1
        repeat (refine sl ?_)
        obtain rfl := Option.some.inj hm1
        exact wk_cutw [(0, 0)] ⟨_, rfl, rfl⟩
      · replace hm1 := sel_f h hm1
        repeat (refine sl ?_)
        obtain rfl := Option.some.inj hm1
        exact wk_cutw [(0, 0)] ⟨_, rfl, rfl⟩
    rintro _ ⟨x5, rfl, rfl⟩
    repeat (refine sl ?_)
    obtain ⟨mu1, hm1, hm0⟩ := obnd_o hm0
    refine wc_cut' (fun st => ∃ (x6 : Int), x6 = mu1 ∧ st = ⟨[(0, .p 0 0), (4, vI y4.1)], [(0, some (.box 93 [vI (i64w (s1.Count + 1)), vI s1.Numbers, vI s1.Sum, vI x6, vI s1.High, vS x3, vS r2.key]))]⟩) ?_ ?_
    · refine wc_cond rfl (fun h => ?_) (fun h => ?_)
      · replace hm1 := sel_t h hm1
        refine wc_region ?_
        repeat (refine sl ?_)
        obtain rfl := Option.some.inj hm1
        exact wk_cutw [(0, 0)] ⟨_, rfl, rfl⟩
      · replace hm1 := sel_f h hm1
        refine wc_skip ?_
        repeat (refine sl ?_)
        obtain rfl := Option.some.inj hm1
        exact wk_cutw [(0, 0)] ⟨_, rfl, rfl⟩
    rintro _ ⟨x6, rfl, rfl⟩
    repeat (refine sl ?_)
    refine wc_seq ?_
    refine wc_seq ?_
    obtain ⟨mu1, hm1, hm0⟩ := obnd_o hm0
    refine wc_cut' (fun st => ∃ (x7 : Bool), x7 = mu1 ∧ st = ⟨[(0, .p 0 0), (4, vI y4.1), (65, vB x7)], [(0, some (.box 93 [vI (i64w (s1.Count + 1)), vI s1.Numbers, vI s1.Sum, vI x6, vI s1.High, vS x3, vS r2.key]))]⟩) ?_ ?_
    · refine wc_region ?_
      repeat (refine sl ?_)
      refine wl_gp rfl rfl rfl rfl (fun h => ?_) (fun h => ?_)
      · replace hm1 := sel_t h hm1
        repeat (refine sl ?_)
        obtain rfl := Option.some.inj hm1
        exact wk_cutw [(0, 0)] ⟨_, rfl, rfl⟩
      · replace hm1 := sel_f h hm1
        repeat (refine sl ?_)
        obtain rfl := Option.some.inj hm1
        exact wk_cutw [(0, 0)] ⟨_, rfl, rfl⟩
    rintro _ ⟨x7, rfl, rfl⟩
    repeat (refine sl ?_)
    obtain ⟨mu1, hm1, hm0⟩ := obnd_o hm0
    refine wc_cut' (fun st => ∃ (x8 : Int), x8 = mu1 ∧ st = ⟨[(0, .p 0 0), (4, vI y4.1)], [(0, some (.box 93 [vI (i64w (s1.Count + 1)), vI s1.Numbers, vI s1.Sum, vI x6, vI x8, vS x3, vS r2.key]))]⟩) ?_ ?_
    · refine wc_cond rfl (fun h => ?_) (fun h => ?_)
      · replace hm1 := sel_t h hm1
        refine wc_region ?_
        repeat (refine sl ?_)
        obtain rfl := Option.some.inj hm1
        exact wk_cutw [(0, 0)] ⟨_, rfl, rfl⟩
      · replace hm1 := sel_f h hm1
        refine wc_skip ?_
        repeat (refine sl ?_)
        obtain rfl := Option.some.inj hm1
        exact wk_cutw [(0, 0)] ⟨_, rfl, rfl⟩
    rintro _ ⟨x8, rfl, rfl⟩
    repeat (refine sl ?_)
    refine wc_seq ?_
    refine wc_region ?_
    repeat (refine sl ?_)
    refine wl_r (o_add rfl rfl rfl rfl) rfl rfl rfl ?_
    repeat (refine sl ?_)
    refine wc_region ?_
    repeat (refine sl ?_)
    refine wl_r (o_add rfl rfl rfl rfl) rfl rfl rfl ?_
    repeat (refine sl ?_)
    obtain rfl := Option.some.inj hm0
    exact wk_reti_n [(0, 0)] ⟨rfl, rfl⟩

structure TFold where
  Count : Int
  Numbers : Int
  Sum : Int
  Low : Int
  High : Int
  First : ByteArray
  Last : ByteArray
  deriving DecidableEq
def TFold.ds (x : TFold) : List D := [dI x.Count, dI x.Numbers, dI x.Sum, dI x.Low, dI x.High, dS x.First, dS x.Last]
instance : Len TFold.ds 7 := ⟨fun _ => rfl⟩
def Mfold_Of_l1 : List Kv → Int → Int → Int → Int → Int → ByteArray → ByteArray → Option (Int × Int × Int × Int × Int × ByteArray × ByteArray)
  | [], s2, s3, s4, s5, s6, s7, s8 =>
    some (s2, s3, s4, s5, s6, s7, s8)
  | r9 :: xs10, s2, s3, s4, s5, s6, s7, s8 =>
    obnd (Mfold_sum_add (Tsum.mk s2 s3 s4 s5 s6 s7 s8) r9) fun y12 =>
    Mfold_Of_l1 xs10 y12.Count y12.Numbers y12.Sum y12.Low y12.High y12.First y12.Last
def Mfold_Of (rows1 : List Kv) : Option TFold :=
  obnd (
    Mfold_Of_l1 rows1 0 0 0 0 0 ⟨#[]⟩ ⟨#[]⟩ : Option (Int × Int × Int × Int × Int × ByteArray × ByteArray)) fun (s13, s14, s15, s16, s17, s18, s19) =>
  some (TFold.mk s13 s14 s15 s16 s17 s18 s19)
set_option maxRecDepth 100000 in
set_option maxHeartbeats 4000000 in
theorem Mfold_Of_sp {rows1 : List Kv} {y : TFold} (hm : Mfold_Of rows1 = some y) : Spec Tryd.prog 53 [.d (lst Kv.ds rows1)] [] fun u h => u = .a [vI y.Count, vI y.Numbers, vI y.Sum, vI y.Low, vI y.High, vS y.First, vS y.Last] ∧ h = [] := by
  refine Spec.intro Tryd.func53 rfl rfl Tryd.ntmps53 Tryd.results53 rfl fun B w0 ρ0 => ?_
  simp only [slots, List.map_nil, List.map_cons, Nat.reduceAdd]
  unfold Mfold_Of at hm
  have hm0 := hm
  clear hm
  refine wc_seq ?_
  refine wc_region ?_
  repeat (refine sl ?_)
  refine wc_seq ?_
  refine wc_region ?_
  repeat (refine sl ?_)
  refine wc_seq ?_
  refine wc_seq ?_
  refine wc_region ?_
  repeat (refine sl ?_)
  obtain ⟨mu1, hm1, hm0⟩ := obnd_o hm0
  refine wc_cut' (fun st => ∃ (s13 : Int) (s14 : Int) (s15 : Int) (s16 : Int) (s17 : Int) (s18 : ByteArray) (s19 : ByteArray), mu1 = (s13, s14, s15, s16, s17, s18, s19) ∧ st = ⟨[(2, .p 102 0), (3, .p 103 0)], [(102, some (.box 39 [vI 0, vI 0, vI 0, vI 0, vI 0, vS ⟨#[]⟩, vS ⟨#[]⟩])), (103, some (.box 93 [vI s13, vI s14, vI s15, vI s16, vI s17, vS s18, vS s19]))]⟩) ?_ ?_
  · refine wc_block ?_
    refine wc_len 6 rfl (fun hlenm11 => ?_)
    refine wc_loopw (fun κ st => ∃ (m11 : Nat) (s2 : Int) (s3 : Int) (s4 : Int) (s5 : Int) (s6 : Int) (s7 : ByteArray) (s8 : ByteArray), κ = rows1.length - m11 ∧ m11 ≤ rows1.length ∧ Mfold_Of_l1 (rows1.drop m11) s2 s3 s4 s5 s6 s7 s8 = some mu1 ∧ st = ⟨[(2, .p 102 0), (3, .p 103 0), (6, .d (lst Kv.ds rows1)), (7, vI (rows1.length : Int)), (8, vI (m11 : Int))], [(102, some (.box 39 [vI 0, vI 0, vI 0, vI 0, vI 0, vS ⟨#[]⟩, vS ⟨#[]⟩])), (103, some (.box 93 [vI s2, vI s3, vI s4, vI s5, vI s6, vS s7, vS s8]))]⟩) [(102, 102), (103, 103)] ⟨0, _, _, _, _, _, _, _, rfl, Nat.zero_le _, hm1, rfl⟩ ?_
    rintro κ _ ⟨m11, s2, s3, s4, s5, s6, s7, s8, rfl, hlem11, hm1, rfl⟩
    rcases Nat.lt_or_ge m11 rows1.length with hltm11 | hgem11
    · obtain ⟨r9, hxm11, hdr⟩ := drop_c hltm11
      rw [hdr, Mfold_Of_l1.eq_2] at hm1
      refine wc_seq ?_
      refine wc_region ?_
      repeat (refine sl ?_)
      refine wc_seq ?_
      refine wc_cond_tt (lt_t hltm11) rfl ?_
      refine wc_skip ?_
      repeat (refine sl ?_)
      refine wc_seq ?_
      refine wc_block ?_
      refine wc_seq ?_
      refine wc_region ?_
      repeat (refine sl ?_)
      refine wl_r (o_ixm (ys := [dS r9.key, dS r9.val]) hxm11 rfl rfl rfl rfl) rfl rfl rfl ?_
      repeat (refine sl ?_)
      refine wc_region ?_
      repeat (refine sl ?_)
      obtain ⟨y12, hy, hm1⟩ := obnd_o hm1
      refine wl_iq (Mfold_sum_add_sp (hm := hy)) 103 ?_
      repeat (refine sl ?_)
      refine wc_region ?_
      repeat (refine sl ?_)
      refine wl_r (o_inc hltm11 hlenm11 rfl rfl rfl) rfl rfl rfl ?_
      repeat (refine sl ?_)
      exact wk_loopw [(102, 102), (103, 103)] ⟨m11 + 1, _, _, _, _, _, _, _, rfl, hltm11, hm1, rfl⟩ (by omega)
    · rw [drop_n hgem11, Mfold_Of_l1.eq_1] at hm1
      refine wc_seq ?_
      refine wc_region ?_
      repeat (refine sl ?_)
      refine wc_seq ?_
      refine wc_cond_ff (lt_f hgem11) rfl ?_
      refine wc_exit ?_
      repeat (refine sl ?_)
      obtain rfl := Option.some.inj hm1
      exact wk_cutw [(102, 102), (103, 103)] ⟨_, _, _, _, _, _, _, rfl, rfl⟩
  rintro _ ⟨s13, s14, s15, s16, s17, s18, s19, rfl, rfl⟩
  repeat (refine sl ?_)
  refine wc_seq ?_
  refine wc_region ?_
  repeat (refine sl ?_)
  refine wc_ret ?_
  repeat (refine sl ?_)
  obtain rfl := Option.some.inj hm0
  exact wk_ret ⟨rfl, rfl⟩

def Mref21_Number_l1 (s5 : ByteArray) : Nat → Int → Int → Option (Ctl (Int × Bool) Int)
  | 0, _, _ => none
  | fuel + 1, n9, i10 =>
    obnd (
      sel (decide (i10 < (s5.size : Int))) (
        some (Ctl.nxt ())) (
        some (Ctl.ret (Ctl.nxt n9))) : Option (Ctl (Ctl (Int × Bool) Int) Unit)) fun mu => ocbnd mu fun (_ : Unit) =>
    obnd (
      obnd (sget s5 i10) fun b11 =>
      sel (decide (b11 < 48)) (
        some true) (
        obnd (sget s5 i10) fun b12 =>
        some (decide (57 < b12))) : Option Bool) fun x13 =>
    sel x13 (
      some (Ctl.ret (0, false))) (
      obnd (sget s5 i10) fun b14 =>
      Mref21_Number_l1 s5 fuel (i64w ((i64w (10 * n9)) + (i64w (IntKind.u8.wrap (b14 - 48))))) (i64w (i10 + 1)))
def Mref21_Number (value1 : ByteArray) : Option (Int × Bool) :=
  obnd (
    sel (decide (1 < (value1.size : Int))) (
      obnd (sget value1 0) fun b2 =>
      some (decide (b2 = 45))) (
      some false) : Option Bool) fun x3 =>
  obnd (
    sel x3 (
      obnd (ssl value1 1 (value1.size : Int)) fun s4 =>
      some (s4, true)) (
      some (value1, false)) : Option (ByteArray × Bool)) fun (s5, neg6) =>
  obnd (
    sel (decide ((s5.size : Int) = 0)) (
      some true) (
      sel (decide (13 < (s5.size : Int))) (
        some true) (
        obnd (sget s5 0) fun b7 =>
        sel (decide (b7 = 48)) (
          sel (decide (1 < (s5.size : Int))) (
            some true) (
            some neg6)) (
          some false))) : Option Bool) fun x8 =>
  sel x8 (
    some (0, false)) (
    obnd (
      Mref21_Number_l1 s5 FU 0 0 : Option (Ctl (Int × Bool) Int)) fun mu => ocbnd mu fun n15 =>
    sel (decide (1000000000000 < n15)) (
      some (0, false)) (
      sel neg6 (
        some (i64w (-n15), true)) (
        some (n15, true))))
def Mref21_one (r1 : Kv) : Option TFold :=
  obnd (Mref21_Number r1.val) fun y2 =>
  sel y2.2 (
    some (TFold.mk 1 1 y2.1 y2.1 y2.1 r1.key r1.key)) (
    some (TFold.mk 1 0 0 0 0 r1.key r1.key))
def Mref21_Join (a1 : TFold) (b2 : TFold) : TFold :=
  bnd (
    sel (decide (b2.Numbers = 0)) (
      (a1.Low, a1.High)) (
      (min a1.Low b2.Low, max a1.High b2.High)) : (Int × Int)) fun (f3, f4) =>
  bnd (
    sel (decide (a1.Numbers = 0)) (
      (b2.Low, b2.High)) (
      (f3, f4)) : (Int × Int)) fun (f5, f6) =>
  bnd (
    sel (decide (a1.Count = 0)) (
      b2.First) (
      a1.First) : ByteArray) fun f7 =>
  sel (decide (b2.Count = 0)) (
    (TFold.mk (i64w (a1.Count + b2.Count)) (i64w (a1.Numbers + b2.Numbers)) (i64w (a1.Sum + b2.Sum)) f5 f6 f7 a1.Last)) (
    (TFold.mk (i64w (a1.Count + b2.Count)) (i64w (a1.Numbers + b2.Numbers)) (i64w (a1.Sum + b2.Sum)) f5 f6 f7 b2.Last))
set_option maxRecDepth 100000 in
set_option maxHeartbeats 4000000 in
theorem Mref21_Join_sp {a1 : TFold} {b2 : TFold} {y : TFold} (hm : Mref21_Join a1 b2 = y) : Spec Tryd.prog 24 [.a [vI a1.Count, vI a1.Numbers, vI a1.Sum, vI a1.Low, vI a1.High, vS a1.First, vS a1.Last], .a [vI b2.Count, vI b2.Numbers, vI b2.Sum, vI b2.Low, vI b2.High, vS b2.First, vS b2.Last]] [] fun u h => u = .a [vI y.Count, vI y.Numbers, vI y.Sum, vI y.Low, vI y.High, vS y.First, vS y.Last] ∧ h = [] := by
  refine Spec.intro Tryd.func24 rfl rfl Tryd.ntmps24 Tryd.results24 rfl fun B w0 ρ0 => ?_
  simp only [slots, List.map_nil, List.map_cons, Nat.reduceAdd]
  unfold Mref21_Join at hm
  have hm0 := hm
  clear hm
  refine wc_seq ?_
  refine wc_region ?_
  repeat (refine sl ?_)
  refine wc_seq ?_
  refine wc_region ?_
  repeat (refine sl ?_)
  refine wl_r (o_add rfl rfl rfl rfl) rfl rfl rfl ?_
  repeat (refine sl ?_)
  refine wl_r (o_add rfl rfl rfl rfl) rfl rfl rfl ?_
  repeat (refine sl ?_)
  refine wl_r (o_add rfl rfl rfl rfl) rfl rfl rfl ?_
  repeat (refine sl ?_)
  refine wc_seq ?_
  refine wc_seq ?_
  refine wc_region ?_
  repeat (refine sl ?_)
  obtain ⟨mu1, hm1, hm0⟩ := bnd_o hm0
  refine wc_cut' (fun st => ∃ (f3 : Int) (f4 : Int), mu1 = (f3, f4) ∧ st = ⟨[(2, .p 102 0), (3, .p 103 0), (4, .p 104 0), (5, .p 105 0)], [(102, some (.box 39 [vI a1.Count, vI a1.Numbers, vI a1.Sum, vI a1.Low, vI a1.High, vS a1.First, vS a1.Last])), (103, some (.box 39 [vI b2.Count, vI b2.Numbers, vI b2.Sum, vI b2.Low, vI b2.High, vS b2.First, vS b2.Last])), (104, some (.box 39 [vI 0, vI 0, vI 0, vI 0, vI 0, vS ⟨#[]⟩, vS ⟨#[]⟩])), (105, some (.box 39 [vI (i64w (a1.Count + b2.Count)), vI (i64w (a1.Numbers + b2.Numbers)), vI (i64w (a1.Sum + b2.Sum)), vI f3, vI f4, vS a1.First, vS b2.Last]))]⟩) ?_ ?_
  · refine wc_cond rfl (fun h => ?_) (fun h => ?_)
    · replace hm1 := sel_t h hm1
      refine wc_draw (id := 3) [⟨0, 0, [2]⟩, ⟨1, 1, [39]⟩, ⟨2, 0, [2]⟩, ⟨3, 4, [41]⟩, ⟨4, 3, [5]⟩, ⟨5, 19, [40, 43]⟩, ⟨6, 63, [5]⟩, ⟨7, 127, [42, 44]⟩] mixed (by kernel_rfl) ?_
      repeat (refine sl ?_)
      subst hm1
      exact wk_cutw [(102, 102), (103, 103), (104, 104), (105, 105)] ⟨_, _, rfl, rfl⟩
    · replace hm1 := sel_f h hm1
      refine wc_skip ?_
      repeat (refine sl ?_)
      subst hm1
      exact wk_cutw [(102, 102), (103, 103), (104, 104), (105, 105)] ⟨_, _, rfl, rfl⟩
  rintro _ ⟨f3, f4, rfl, rfl⟩
  repeat (refine sl ?_)
  refine wc_seq ?_
  refine wc_seq ?_
  refine wc_region ?_
  repeat (refine sl ?_)
  obtain ⟨mu1, hm1, hm0⟩ := bnd_o hm0
  refine wc_cut' (fun st => ∃ (f5 : Int) (f6 : Int), mu1 = (f5, f6) ∧ st = ⟨[(2, .p 102 0), (3, .p 103 0), (4, .p 104 0), (5, .p 105 0)], [(102, some (.box 39 [vI a1.Count, vI a1.Numbers, vI a1.Sum, vI a1.Low, vI a1.High, vS a1.First, vS a1.Last])), (103, some (.box 39 [vI b2.Count, vI b2.Numbers, vI b2.Sum, vI b2.Low, vI b2.High, vS b2.First, vS b2.Last])), (104, some (.box 39 [vI 0, vI 0, vI 0, vI 0, vI 0, vS ⟨#[]⟩, vS ⟨#[]⟩])), (105, some (.box 39 [vI (i64w (a1.Count + b2.Count)), vI (i64w (a1.Numbers + b2.Numbers)), vI (i64w (a1.Sum + b2.Sum)), vI f5, vI f6, vS a1.First, vS b2.Last]))]⟩) ?_ ?_
  · refine wc_cond rfl (fun h => ?_) (fun h => ?_)
    · replace hm1 := sel_t h hm1
      refine wc_draw (id := 5) [⟨0, 0, [3]⟩, ⟨1, 1, [48]⟩, ⟨2, 0, [3]⟩, ⟨3, 4, [50]⟩, ⟨4, 3, [5]⟩, ⟨5, 19, [49, 52]⟩, ⟨6, 63, [5]⟩, ⟨7, 127, [51, 53]⟩] mixed (by kernel_rfl) ?_
      repeat (refine sl ?_)
      subst hm1
      exact wk_cutw [(102, 102), (103, 103), (104, 104), (105, 105)] ⟨_, _, rfl, rfl⟩
    · replace hm1 := sel_f h hm1
      refine wc_skip ?_
      repeat (refine sl ?_)
      subst hm1
      exact wk_cutw [(102, 102), (103, 103), (104, 104), (105, 105)] ⟨_, _, rfl, rfl⟩
  rintro _ ⟨f5, f6, rfl, rfl⟩
  repeat (refine sl ?_)
  refine wc_seq ?_
  refine wc_seq ?_
  refine wc_region ?_
  repeat (refine sl ?_)
  obtain ⟨mu1, hm1, hm0⟩ := bnd_o hm0
  refine wc_cut' (fun st => ∃ (f7 : ByteArray), f7 = mu1 ∧ st = ⟨[(2, .p 102 0), (3, .p 103 0), (4, .p 104 0), (5, .p 105 0)], [(102, some (.box 39 [vI a1.Count, vI a1.Numbers, vI a1.Sum, vI a1.Low, vI a1.High, vS a1.First, vS a1.Last])), (103, some (.box 39 [vI b2.Count, vI b2.Numbers, vI b2.Sum, vI b2.Low, vI b2.High, vS b2.First, vS b2.Last])), (104, some (.box 39 [vI 0, vI 0, vI 0, vI 0, vI 0, vS ⟨#[]⟩, vS ⟨#[]⟩])), (105, some (.box 39 [vI (i64w (a1.Count + b2.Count)), vI (i64w (a1.Numbers + b2.Numbers)), vI (i64w (a1.Sum + b2.Sum)), vI f5, vI f6, vS f7, vS b2.Last]))]⟩) ?_ ?_
  · refine wc_cond rfl (fun h => ?_) (fun h => ?_)
    · replace hm1 := sel_t h hm1
      refine wc_region ?_
      repeat (refine sl ?_)
      subst hm1
      exact wk_cutw [(102, 102), (103, 103), (104, 104), (105, 105)] ⟨_, rfl, rfl⟩
    · replace hm1 := sel_f h hm1
      refine wc_skip ?_
      repeat (refine sl ?_)
      subst hm1
      exact wk_cutw [(102, 102), (103, 103), (104, 104), (105, 105)] ⟨_, rfl, rfl⟩
  rintro _ ⟨f7, rfl, rfl⟩
  repeat (refine sl ?_)
  refine wc_seq ?_
  refine wc_seq ?_
  refine wc_region ?_
  repeat (refine sl ?_)
  refine wc_cond rfl (fun h => ?_) (fun h => ?_)
  · replace hm0 := sel_t h hm0
    refine wc_region ?_
    repeat (refine sl ?_)
    refine wc_seq ?_
    refine wc_region ?_
    repeat (refine sl ?_)
    refine wc_ret ?_
    repeat (refine sl ?_)
    subst hm0
    exact wk_ret ⟨rfl, rfl⟩
  · replace hm0 := sel_f h hm0
    refine wc_skip ?_
    repeat (refine sl ?_)
    refine wc_seq ?_
    refine wc_region ?_
    repeat (refine sl ?_)
    refine wc_ret ?_
    repeat (refine sl ?_)
    subst hm0
    exact wk_ret ⟨rfl, rfl⟩

def Mref21_Of_l1 : List Kv → Int → Int → Int → Int → Int → ByteArray → ByteArray → Option (Int × Int × Int × Int × Int × ByteArray × ByteArray)
  | [], f2, f3, f4, f5, f6, f7, f8 =>
    some (f2, f3, f4, f5, f6, f7, f8)
  | r9 :: xs10, f2, f3, f4, f5, f6, f7, f8 =>
    obnd (Mref21_one r9) fun y12 =>
    bnd (Mref21_Join (TFold.mk f2 f3 f4 f5 f6 f7 f8) y12) fun y13 =>
    Mref21_Of_l1 xs10 y13.Count y13.Numbers y13.Sum y13.Low y13.High y13.First y13.Last
def Mref21_Of (rows1 : List Kv) : Option TFold :=
  obnd (
    Mref21_Of_l1 rows1 0 0 0 0 0 ⟨#[]⟩ ⟨#[]⟩ : Option (Int × Int × Int × Int × Int × ByteArray × ByteArray)) fun (f14, f15, f16, f17, f18, f19, f20) =>
  some (TFold.mk f14 f15 f16 f17 f18 f19 f20)
def Mclone_List_api_Row_ (l1 : List Kv) : Option (List Kv) :=
  obnd (app ([] : List Kv) l1) fun l2 =>
  some l2
set_option maxRecDepth 100000 in
set_option maxHeartbeats 4000000 in
theorem Mclone_List_api_Row__sp {l1 : List Kv} {y : List Kv} (hm : Mclone_List_api_Row_ l1 = some y) : Spec Tryd.prog 62 [.d (lst Kv.ds l1)] [] fun u h => u = .d (lst Kv.ds y) ∧ h = [] := by
  refine Spec.intro Tryd.func62 rfl rfl Tryd.ntmps62 Tryd.results62 rfl fun B w0 ρ0 => ?_
  simp only [slots, List.map_nil, List.map_cons, Nat.reduceAdd]
  unfold Mclone_List_api_Row_ at hm
  have hm0 := hm
  clear hm
  refine wc_seq ?_
  refine wc_region ?_
  repeat (refine sl ?_)
  refine wc_seq ?_
  refine wc_region ?_
  repeat (refine sl ?_)
  obtain ⟨l2, hy, hm0⟩ := obnd_o hm0
  refine wl_1 (n_appn (k := 104) hy rfl rfl rfl rfl rfl rfl) rfl rfl rfl rfl ?_
  repeat (refine sl ?_)
  refine wc_ret ?_
  repeat (refine sl ?_)
  obtain rfl := Option.some.inj hm0
  exact wk_ret ⟨rfl, rfl⟩

def Mquery_Take (q1 : TQuery) (rows2 : List Kv) : Option (List Kv) :=
  sel (decide (q1.Kind = 3)) (
    obnd (lsl rows2 0 (min (max q1.Count 0) (rows2.length : Int))) fun l3 =>
    obnd (Mclone_List_api_Row_ l3) fun y4 =>
    some y4) (
    sel (decide (q1.Kind = 4)) (
      obnd (lsl rows2 (i64w ((rows2.length : Int) - (min (max q1.Count 0) (rows2.length : Int)))) (rows2.length : Int)) fun l5 =>
      obnd (Mclone_List_api_Row_ l5) fun y6 =>
      some y6) (
      obnd (Mclone_List_api_Row_ rows2) fun y7 =>
      some y7))
set_option maxRecDepth 100000 in
set_option maxHeartbeats 4000000 in
theorem Mquery_Take_sp {q1 : TQuery} {rows2 : List Kv} {y : List Kv} (hm : Mquery_Take q1 rows2 = some y) : Spec Tryd.prog 32 [.a [vI q1.Kind, .d (lst Rng.ds q1.Ranges), vS q1.Key, vI q1.Count], .d (lst Kv.ds rows2)] [] fun u h => u = .d (lst Kv.ds y) ∧ h = [] := by
  refine Spec.intro Tryd.func32 rfl rfl Tryd.ntmps32 Tryd.results32 rfl fun B w0 ρ0 => ?_
  simp only [slots, List.map_nil, List.map_cons, Nat.reduceAdd]
  unfold Mquery_Take at hm
  have hm0 := hm
  clear hm
  refine wc_seq ?_
  refine wc_region ?_
  repeat (refine sl ?_)
  refine wc_seq ?_
  refine wc_region ?_
  repeat (refine sl ?_)
  refine wc_seq ?_
  refine wc_seq ?_
  refine wc_region ?_
  repeat (refine sl ?_)
  refine wc_block ?_
  refine wc_seq ?_
  refine wc_region ?_
  repeat (refine sl ?_)
  refine wc_cond rfl (fun h => ?_) (fun h => ?_)
  · replace hm0 := sel_t h hm0
    refine wc_region ?_
    repeat (refine sl ?_)
    obtain ⟨l3, hy, hm0⟩ := obnd_o hm0
    refine wl_r (o_lsl hy rfl rfl rfl rfl) rfl rfl rfl ?_
    repeat (refine sl ?_)
    refine wc_seq ?_
    refine wc_region ?_
    repeat (refine sl ?_)
    obtain ⟨y4, hy, hm0⟩ := obnd_o hm0
    refine wl_cq (Mclone_List_api_Row__sp (hm := hy)) ?_
    repeat (refine sl ?_)
    refine wc_ret ?_
    repeat (refine sl ?_)
    obtain rfl := Option.some.inj hm0
    exact wk_ret ⟨rfl, rfl⟩
  · replace hm0 := sel_f h hm0
    refine wc_seq ?_
    refine wc_region ?_
    repeat (refine sl ?_)
    refine wc_cond rfl (fun h => ?_) (fun h => ?_)
    · replace hm0 := sel_t h hm0
      refine wc_region ?_
      repeat (refine sl ?_)
      obtain ⟨l5, hy, hm0⟩ := obnd_o hm0
      refine wl_r (o_lsl hy rfl rfl rfl rfl) rfl rfl rfl ?_
      repeat (refine sl ?_)
      refine wc_seq ?_
      refine wc_region ?_
      repeat (refine sl ?_)
      obtain ⟨y6, hy, hm0⟩ := obnd_o hm0
      refine wl_cq (Mclone_List_api_Row__sp (hm := hy)) ?_
      repeat (refine sl ?_)
      refine wc_ret ?_
      repeat (refine sl ?_)
      obtain rfl := Option.some.inj hm0
      exact wk_ret ⟨rfl, rfl⟩
    · replace hm0 := sel_f h hm0
      refine wc_skip ?_
      repeat (refine sl ?_)
      refine wc_seq ?_
      refine wc_region ?_
      repeat (refine sl ?_)
      obtain ⟨y7, hy, hm0⟩ := obnd_o hm0
      refine wl_cq (Mclone_List_api_Row__sp (hm := hy)) ?_
      repeat (refine sl ?_)
      refine wc_ret ?_
      repeat (refine sl ?_)
      obtain rfl := Option.some.inj hm0
      exact wk_ret ⟨rfl, rfl⟩

def Mref22_Check_l1 : List Rng → Ctl Int Unit
  | [] =>
    Ctl.nxt ()
  | r3 :: xs4 =>
    bnd (Mref1_Valid r3) fun y6 =>
    sel (!y6) (
      Ctl.ret 1) (
      Mref22_Check_l1 xs4)
def Mref22_Check (q1 : TQuery) : Int :=
  bnd (
    sel (decide (q1.Kind < 1)) (
      true) (
      decide (4 < q1.Kind)) : Bool) fun x2 =>
  sel x2 (
    1) (
    sel (decide (64 < (q1.Ranges.length : Int))) (
      3) (
      bnd (
        Mref22_Check_l1 q1.Ranges : Ctl Int Unit) fun mu => cbnd mu fun (_ : Unit) =>
      bnd (
        bnd (Mref1_ValidKey q1.Key) fun y7 =>
        sel (!y7) (
          true) (
          sel (decide (0 < (q1.Ranges.length : Int))) (
            sel (!decide (q1.Kind = 1)) (
              true) (
              sel (!decide (q1.Key = ⟨#[]⟩)) (
                decide (q1.Kind = 1)) (
                false))) (
            sel (!decide (q1.Key = ⟨#[]⟩)) (
              decide (q1.Kind = 1)) (
              false))) : Bool) fun x8 =>
      sel x8 (
        1) (
        bnd (
          sel (decide (q1.Kind = 3)) (
            true) (
            decide (q1.Kind = 4)) : Bool) fun counts9 =>
        sel counts9 (
          sel (decide (q1.Count < 1)) (
            2) (
            sel (decide (1024 < q1.Count)) (
              2) (
              sel (!counts9) (
                sel (!decide (q1.Count = 0)) (
                  2) (
                  0)) (
                0)))) (
          sel (!counts9) (
            sel (!decide (q1.Count = 0)) (
              2) (
              0)) (
            0)))))
def Mref22_Take (q1 : TQuery) (rows2 : List Kv) : Option (List Kv) :=
  sel (decide (q1.Kind = 3)) (
    obnd (lsl rows2 0 (max 0 (min q1.Count (rows2.length : Int)))) fun l3 =>
    obnd (app ([] : List Kv) l3) fun l4 =>
    some l4) (
    sel (decide (q1.Kind = 4)) (
      obnd (lsl rows2 (i64w ((rows2.length : Int) - (max 0 (min q1.Count (rows2.length : Int))))) (rows2.length : Int)) fun l5 =>
      obnd (app ([] : List Kv) l5) fun l6 =>
      some l6) (
      obnd (app ([] : List Kv) rows2) fun l7 =>
      some l7))
structure TAnswer where
  Rows : List Kv
  Fold : TFold
  deriving DecidableEq
def TAnswer.ds (x : TAnswer) : List D := [lst Kv.ds x.Rows, dI x.Fold.Count, dI x.Fold.Numbers, dI x.Fold.Sum, dI x.Fold.Low, dI x.Fold.High, dS x.Fold.First, dS x.Fold.Last]
instance : Len TAnswer.ds 8 := ⟨fun _ => rfl⟩

end Go.Proofs.YtjnnkpkbgdknmaaDoor
namespace Go.Proofs.YtjnnkpkbgdknmaaDoor
set_option linter.unusedSimpArgs false
set_option linter.unusedVariables false
open Go.RowKit
attribute [local irreducible] WK WC WL Wk Rel OpD OpV WD WO Op.bytesLess cmp vk vb vld emp contains
end Go.Proofs.YtjnnkpkbgdknmaaDoor
namespace Go.Proofs.YtjnnkpkbgdknmaaDoor
set_option linter.unusedSimpArgs false
set_option linter.unusedVariables false
open Go.RowKit
def mks : List (Value × Value) := [(.int .i64 1, .func (.func 64) #[] #[]), (.int .i64 2, .func (.func 65) #[] #[]), (.int .i64 3, .func (.func 67) #[] #[]), (.int .i64 4, .func (.func 68) #[] #[])]
theorem mks_nil (k : Int) : isNilF (mget .nilFunc k mks) = decide (k < 1 ∨ 4 < k) := by
  simp only [mks, mget]
  repeat' split
  all_goals (simp only [isNilF]; symm; first | (rw [decide_eq_false]; omega) | (rw [decide_eq_true]; omega))
theorem mks_fn (k : Int) : isFn (mget .nilFunc k mks) = true := by
  simp only [mks, mget]
  repeat' split
  all_goals rfl
attribute [local irreducible] WK WC WL Wk Rel OpD OpV WD WO Op.bytesLess cmp vk vb vld emp contains
instance makers_ct : Ct Tryd.prog 41 [] True (.d (.m mks)) := ⟨fun _ => by
  refine Spec.intro Tryd.func41 rfl rfl Tryd.ntmps41 Tryd.results41 rfl fun B w0 ρ0 => ?_; simp only [slots, List.map_nil, List.map_cons, Nat.reduceAdd]
  (repeat' (first | refine sw ?_ | (refine swt ?_; intro x τ hx) | (refine sp ?_ ?_ <;> (intro h; (first | (have h2 : (_ : Bool) = _ := h; clear h2; subst h) | skip); (try simp only [decide_eq_true_eq, decide_eq_false_iff_not, Bool.not_eq_true', Bool.not_eq_false', Kv.eta, Bnd.eta, Rng.eta, tn_sub1] at h); (first | (have h2 : (_ : Bool) = _ := h; clear h2; subst h) | skip))) | fail))
  all_goals (first | refine wk_pure rfl (by first | exact trivial | exact resT_cell rfl rfl (by exact inferInstance) trivial) rfl (by first | exact Vw.fmp rfl rfl rfl | exact Vw.nil | exact Vw.d _ | (repeat (first | exact Vws.nil | apply Vws.cons | exact Vw.nil | exact Vw.d _ | apply Vw.a | apply Vw.t | exact Vw.fh rfl rfl (vws_dm _) | exact Vw.fh rfl rfl Vws.nil)); done) ?_ | refine wk_pure_n rfl (by first | exact trivial | exact resT_cell rfl rfl (by exact inferInstance) trivial) rfl (by first | exact Vw.fmp rfl rfl rfl | exact Vw.nil | exact Vw.d _ | (repeat (first | exact Vws.nil | apply Vws.cons | exact Vw.nil | exact Vw.d _ | apply Vw.a | apply Vw.t | exact Vw.fh rfl rfl (vws_dm _) | exact Vw.fh rfl rfl Vws.nil)); done) ?_)
  all_goals exact ⟨rfl, rfl⟩⟩
set_option maxHeartbeats 4000000 in
instance qcheck_p (k c : Int) (l : List Rng) (key : ByteArray) : Ct Tryd.prog 14 [vQ k l key c] (l.length < 1000000) (vI (qchk k l key c)) := ⟨fun hl => by
  have hmk := mks_nil k
  have hfn := mks_fn k
  refine Spec.intro Tryd.func14 rfl rfl Tryd.ntmps14 Tryd.results14 rfl fun B w0 ρ0 => ?_; simp only [slots, List.map_nil, List.map_cons, Nat.reduceAdd]
  (repeat' (first | refine sw ?_ | refine wc_draw (id := 1) [⟨1, 0, [1]⟩, ⟨2, 2, [6]⟩, ⟨0, 0, []⟩, ⟨3, 7, [5, 7]⟩, ⟨4, 15, [8]⟩] mixed (by kernel_rfl) ?_ | (refine swt ?_; intro x τ hx) | (refine sp ?_ ?_ <;> (intro h; (first | (have h2 : (_ : Bool) = _ := h; clear h2; subst h) | skip); (try simp only [decide_eq_true_eq, decide_eq_false_iff_not, Bool.not_eq_true', Bool.not_eq_false', Kv.eta, Bnd.eta, Rng.eta, tn_sub1] at h); (first | (have h2 : (_ : Bool) = _ := h; clear h2; subst h) | skip))) | fail))
  all_goals (try simp only [hmk, decide_eq_true_eq, decide_eq_false_iff_not] at *)
  all_goals (try ((first | refine wk_pure rfl (by first | exact trivial | exact resT_cell rfl rfl (by exact inferInstance) trivial) rfl (by first | exact Vw.fmp rfl rfl rfl | exact Vw.nil | exact Vw.d _ | (repeat (first | exact Vws.nil | apply Vws.cons | exact Vw.nil | exact Vw.d _ | apply Vw.a | apply Vw.t | exact Vw.fh rfl rfl (vws_dm _) | exact Vw.fh rfl rfl Vws.nil)); done) ?_ | refine wk_pure_n rfl (by first | exact trivial | exact resT_cell rfl rfl (by exact inferInstance) trivial) rfl (by first | exact Vw.fmp rfl rfl rfl | exact Vw.nil | exact Vw.d _ | (repeat (first | exact Vws.nil | apply Vws.cons | exact Vw.nil | exact Vw.d _ | apply Vw.a | apply Vw.t | exact Vw.fh rfl rfl (vws_dm _) | exact Vw.fh rfl rfl Vws.nil)); done) ?_); refine ⟨?_, rfl⟩; (try simp only [Bool.not_eq_true, Bool.not_eq_false, decide_eq_true_eq, decide_eq_false_iff_not] at *); first | (simp_all [qchk]; done) | (simp_all [qchk] <;> omega) | grind [qchk]))
  refine wc_loop (fun κ st => ∃ (m : Nat), κ = l.length - m ∧ (m ≤ l.length ∧ ∀ j (h : j < l.length), j < m → vld l[j] = true) ∧ st = ⟨[(1, .p 101 0), (15, .d (lst Rng.ds l)), (16, vI l.length), (17, vI (m : Int))], [(101, some (.box 25 [vI k, .d (lst Rng.ds l), vS key, vI c]))]⟩) (l.length - (0)) ⟨[(1, .p 101 0), (15, .d (lst Rng.ds l)), (16, vI l.length), (17, vI ((0) : Int))], [(101, some (.box 25 [vI k, .d (lst Rng.ds l), vS key, vI c]))]⟩ (wk [(101, 101)] rfl rfl rfl rfl (by repeat (first | refine VH.cons rfl rfl vb_tpb ?_ | refine VH.cons rfl rfl (Vb.ob _) ?_ | exact VS.nil | exact VH.nil | exact Vws.nil | refine VS.cons rfl ?_ ?_ | refine VH.cons rfl rfl (Vb.box ?_) ?_ | refine VH.cons rfl rfl (Vb.arr ?_) ?_ | exact vws_dm _ | refine Vws.cons ?_ ?_ | exact Vw.d _ | exact Vw.p rfl | exact Vw.h rfl | exact Vw.e rfl | exact Vw.s rfl | exact Vw.q _ | refine Vw.a ?_ | refine Vw.t ?_ | exact Vw.nil | exact Vw.fh rfl rfl (vws_dm _) | exact Vw.un _)) (by repeat (first | refine VH.cons rfl rfl vb_tpb ?_ | refine VH.cons rfl rfl (Vb.ob _) ?_ | exact VS.nil | exact VH.nil | exact Vws.nil | refine VS.cons rfl ?_ ?_ | refine VH.cons rfl rfl (Vb.box ?_) ?_ | refine VH.cons rfl rfl (Vb.arr ?_) ?_ | exact vws_dm _ | refine Vws.cons ?_ ?_ | exact Vw.d _ | exact Vw.p rfl | exact Vw.h rfl | exact Vw.e rfl | exact Vw.s rfl | exact Vw.q _ | refine Vw.a ?_ | refine Vw.t ?_ | exact Vw.nil | exact Vw.fh rfl rfl (vws_dm _) | exact Vw.un _))) ⟨0, rfl, ?_, rfl⟩ ?_; rotate_left; rintro κ _ ⟨m, rfl, hP, rfl⟩; rotate_left
  · exact ⟨by omega, fun j _ h => by omega⟩
  obtain ⟨hm, hP⟩ := hP
  (repeat' (first | refine sw ?_ | refine wc_draw (id := 1) [⟨1, 0, [1]⟩, ⟨2, 2, [6]⟩, ⟨0, 0, []⟩, ⟨3, 7, [5, 7]⟩, ⟨4, 15, [8]⟩] mixed (by kernel_rfl) ?_ | (refine swt ?_; intro x τ hx) | (refine sp ?_ ?_ <;> (intro h; (first | (have h2 : (_ : Bool) = _ := h; clear h2; subst h) | skip); (try simp only [decide_eq_true_eq, decide_eq_false_iff_not, Bool.not_eq_true', Bool.not_eq_false', Kv.eta, Bnd.eta, Rng.eta, tn_sub1] at h); (first | (have h2 : (_ : Bool) = _ := h; clear h2; subst h) | skip))) | fail))
  all_goals (try (have hA := all_of hP (by omega)))
  all_goals (try (have hA := all_not (p := vld) (l := l) (m := m) (by omega) (by simp only [Rng.eta, *]; rfl)))
  all_goals (try ((first | refine wk_pure rfl (by first | exact trivial | exact resT_cell rfl rfl (by exact inferInstance) trivial) rfl (by first | exact Vw.fmp rfl rfl rfl | exact Vw.nil | exact Vw.d _ | (repeat (first | exact Vws.nil | apply Vws.cons | exact Vw.nil | exact Vw.d _ | apply Vw.a | apply Vw.t | exact Vw.fh rfl rfl (vws_dm _) | exact Vw.fh rfl rfl Vws.nil)); done) ?_ | refine wk_pure_n rfl (by first | exact trivial | exact resT_cell rfl rfl (by exact inferInstance) trivial) rfl (by first | exact Vw.fmp rfl rfl rfl | exact Vw.nil | exact Vw.d _ | (repeat (first | exact Vws.nil | apply Vws.cons | exact Vw.nil | exact Vw.d _ | apply Vw.a | apply Vw.t | exact Vw.fh rfl rfl (vws_dm _) | exact Vw.fh rfl rfl Vws.nil)); done) ?_); refine ⟨?_, rfl⟩; (try simp only [Bool.not_eq_true, Bool.not_eq_false, decide_eq_true_eq, decide_eq_false_iff_not] at *); first | (simp_all [qchk]; done) | (simp_all [qchk] <;> omega) | grind [qchk]))
  refine wk_loop_n (l.length - (m + 1)) (st' := ⟨[(1, .p 101 0), (15, .d (lst Rng.ds l)), (16, vI l.length), (17, vI ((m + 1) : Int))], [(101, some (.box 25 [vI k, .d (lst Rng.ds l), vS key, vI c]))]⟩) (wk [(101, 101)] rfl rfl rfl rfl (by repeat (first | refine VH.cons rfl rfl vb_tpb ?_ | refine VH.cons rfl rfl (Vb.ob _) ?_ | exact VS.nil | exact VH.nil | exact Vws.nil | refine VS.cons rfl ?_ ?_ | refine VH.cons rfl rfl (Vb.box ?_) ?_ | refine VH.cons rfl rfl (Vb.arr ?_) ?_ | exact vws_dm _ | refine Vws.cons ?_ ?_ | exact Vw.d _ | exact Vw.p rfl | exact Vw.h rfl | exact Vw.e rfl | exact Vw.s rfl | exact Vw.q _ | refine Vw.a ?_ | refine Vw.t ?_ | exact Vw.nil | exact Vw.fh rfl rfl (vws_dm _) | exact Vw.un _)) (by repeat (first | refine VH.cons rfl rfl vb_tpb ?_ | refine VH.cons rfl rfl (Vb.ob _) ?_ | exact VS.nil | exact VH.nil | exact Vws.nil | refine VS.cons rfl ?_ ?_ | refine VH.cons rfl rfl (Vb.box ?_) ?_ | refine VH.cons rfl rfl (Vb.arr ?_) ?_ | exact vws_dm _ | refine Vws.cons ?_ ?_ | exact Vw.d _ | exact Vw.p rfl | exact Vw.h rfl | exact Vw.e rfl | exact Vw.s rfl | exact Vw.q _ | refine Vw.a ?_ | refine Vw.t ?_ | exact Vw.nil | exact Vw.fh rfl rfl (vws_dm _) | exact Vw.un _))) ?_ ⟨m + 1, rfl, ?_, rfl⟩
  · omega
  · refine ⟨by omega, fun j h1 h2 => ?_⟩
    by_cases e : j = m
    · subst e; assumption
    · exact hP j h1 (by omega)⟩
end Go.Proofs.YtjnnkpkbgdknmaaDoor
namespace Go.Proofs.YtjnnkpkbgdknmaaDoor
set_option linter.unusedSimpArgs false
set_option linter.unusedVariables false
open Go.RowKit
def qrs (k : Int) (l : List Rng) (key : ByteArray) : List Rng := if k = 1 then l else if k = 2 then [pfx key] else if k = 3 then [⟨⟨key, false⟩, ⟨⟨#[]⟩, true⟩⟩] else [⟨⟨⟨#[]⟩, false⟩, ⟨key, false⟩⟩]
def qranges (k : Int) (l : List Rng) (key : ByteArray) (c : Int) : List Rng := if qchk k l key c = 0 then union (qrs k l key) else []
theorem qchk_0 {k c : Int} {l : List Rng} {key : ByteArray} (h : qchk k l key c = 0) : (k = 1 ∨ k = 2 ∨ k = 3 ∨ k = 4) ∧ (k ≠ 1 → l = []) ∧ l.length ≤ 64 := by
  unfold qchk at h
  by_cases a1 : k < 1 ∨ 4 < k
  · simp [a1] at h
  by_cases a2 : 64 < l.length
  · simp [a1, a2] at h
  by_cases a3 : l.all vld = false
  · rw [if_neg a1, if_neg a2, if_pos a3] at h; omega
  by_cases a4 : vk key = false ∨ (0 < l.length ∧ k ≠ 1) ∨ (key ≠ ⟨#[]⟩ ∧ k = 1)
  · rw [if_neg a1, if_neg a2, if_neg a3, if_pos a4] at h; omega
  exact ⟨by omega, fun h1 => List.eq_nil_of_length_eq_zero (Nat.eq_zero_of_not_pos fun h2 => a4 (.inr (.inl ⟨h2, h1⟩))), by omega⟩
attribute [local irreducible] WK WC WL Wk Rel OpD OpV WD WO Op.bytesLess cmp vk vb vld emp contains
attribute [local irreducible] union pfx
instance maker1_p (k c : Int) (l : List Rng) (key : ByteArray) : Ct Tryd.prog 64 [vQ k l key c] True (.d (lst Rng.ds l)) := ⟨fun _ => by
  refine Spec.intro Tryd.func64 rfl rfl Tryd.ntmps64 Tryd.results64 rfl fun B w0 ρ0 => ?_; simp only [slots, List.map_nil, List.map_cons, Nat.reduceAdd]
  (repeat' (first | refine sw ?_ | (refine swt ?_; intro x τ hx) | (refine sp ?_ ?_ <;> (intro h; (first | (have h2 : (_ : Bool) = _ := h; clear h2; subst h) | skip); (try simp only [decide_eq_true_eq, decide_eq_false_iff_not, Bool.not_eq_true', Bool.not_eq_false', Kv.eta, Bnd.eta, Rng.eta, tn_sub1] at h); (first | (have h2 : (_ : Bool) = _ := h; clear h2; subst h) | skip))) | fail))
  all_goals (first | refine wk_pure rfl (by first | exact trivial | exact resT_cell rfl rfl (by exact inferInstance) trivial) rfl (by first | exact Vw.fmp rfl rfl rfl | exact Vw.nil | exact Vw.d _ | (repeat (first | exact Vws.nil | apply Vws.cons | exact Vw.nil | exact Vw.d _ | apply Vw.a | apply Vw.t | exact Vw.fh rfl rfl (vws_dm _) | exact Vw.fh rfl rfl Vws.nil)); done) ?_ | refine wk_pure_n rfl (by first | exact trivial | exact resT_cell rfl rfl (by exact inferInstance) trivial) rfl (by first | exact Vw.fmp rfl rfl rfl | exact Vw.nil | exact Vw.d _ | (repeat (first | exact Vws.nil | apply Vws.cons | exact Vw.nil | exact Vw.d _ | apply Vw.a | apply Vw.t | exact Vw.fh rfl rfl (vws_dm _) | exact Vw.fh rfl rfl Vws.nil)); done) ?_)
  all_goals exact ⟨rfl, rfl⟩⟩
instance maker2_p (k c : Int) (l : List Rng) (key : ByteArray) : Ct Tryd.prog 65 [vQ k l key c] True (.d (lst Rng.ds [pfx key])) := ⟨fun _ => by
  refine Spec.intro Tryd.func65 rfl rfl Tryd.ntmps65 Tryd.results65 rfl fun B w0 ρ0 => ?_; simp only [slots, List.map_nil, List.map_cons, Nat.reduceAdd]
  (repeat' (first | refine wl_bt Rng.ds [pfx key] rfl rfl (by simp only [flatV, cellsV, List.cons_append, List.nil_append, List.append_nil]; exact rfl) rfl rfl rfl rfl rfl rfl ?_ | refine wd_bt Rng.ds [pfx key] rfl rfl (by simp only [flatV, cellsV, List.cons_append, List.nil_append, List.append_nil]; exact rfl) rfl rfl rfl rfl (by first | exact .no rfl | exact .y rfl rfl rfl rfl) rfl rfl ?_ | refine sw ?_ | (refine swt ?_; intro x τ hx) | (refine sp ?_ ?_ <;> (intro h; (first | (have h2 : (_ : Bool) = _ := h; clear h2; subst h) | skip); (try simp only [decide_eq_true_eq, decide_eq_false_iff_not, Bool.not_eq_true', Bool.not_eq_false', Kv.eta, Bnd.eta, Rng.eta, tn_sub1] at h); (first | (have h2 : (_ : Bool) = _ := h; clear h2; subst h) | skip))) | fail))
  all_goals (first | refine wk_pure rfl (by first | exact trivial | exact resT_cell rfl rfl (by exact inferInstance) trivial) rfl (by first | exact Vw.fmp rfl rfl rfl | exact Vw.nil | exact Vw.d _ | (repeat (first | exact Vws.nil | apply Vws.cons | exact Vw.nil | exact Vw.d _ | apply Vw.a | apply Vw.t | exact Vw.fh rfl rfl (vws_dm _) | exact Vw.fh rfl rfl Vws.nil)); done) ?_ | refine wk_pure_n rfl (by first | exact trivial | exact resT_cell rfl rfl (by exact inferInstance) trivial) rfl (by first | exact Vw.fmp rfl rfl rfl | exact Vw.nil | exact Vw.d _ | (repeat (first | exact Vws.nil | apply Vws.cons | exact Vw.nil | exact Vw.d _ | apply Vw.a | apply Vw.t | exact Vw.fh rfl rfl (vws_dm _) | exact Vw.fh rfl rfl Vws.nil)); done) ?_)
  all_goals exact ⟨rfl, rfl⟩⟩
instance maker3_p (k c : Int) (l : List Rng) (key : ByteArray) : Ct Tryd.prog 67 [vQ k l key c] True (.d (lst Rng.ds [⟨⟨key, false⟩, ⟨⟨#[]⟩, true⟩⟩])) := ⟨fun _ => by
  refine Spec.intro Tryd.func67 rfl rfl Tryd.ntmps67 Tryd.results67 rfl fun B w0 ρ0 => ?_; simp only [slots, List.map_nil, List.map_cons, Nat.reduceAdd]
  (repeat' (first | refine wl_bt Rng.ds [⟨⟨key, false⟩, ⟨⟨#[]⟩, true⟩⟩] rfl rfl (by simp only [flatV, cellsV, List.cons_append, List.nil_append, List.append_nil]; exact rfl) rfl rfl rfl rfl rfl rfl ?_ | refine wd_bt Rng.ds [⟨⟨key, false⟩, ⟨⟨#[]⟩, true⟩⟩] rfl rfl (by simp only [flatV, cellsV, List.cons_append, List.nil_append, List.append_nil]; exact rfl) rfl rfl rfl rfl (by first | exact .no rfl | exact .y rfl rfl rfl rfl) rfl rfl ?_ | refine sw ?_ | (refine swt ?_; intro x τ hx) | (refine sp ?_ ?_ <;> (intro h; (first | (have h2 : (_ : Bool) = _ := h; clear h2; subst h) | skip); (try simp only [decide_eq_true_eq, decide_eq_false_iff_not, Bool.not_eq_true', Bool.not_eq_false', Kv.eta, Bnd.eta, Rng.eta, tn_sub1] at h); (first | (have h2 : (_ : Bool) = _ := h; clear h2; subst h) | skip))) | fail))
  all_goals (first | refine wk_pure rfl (by first | exact trivial | exact resT_cell rfl rfl (by exact inferInstance) trivial) rfl (by first | exact Vw.fmp rfl rfl rfl | exact Vw.nil | exact Vw.d _ | (repeat (first | exact Vws.nil | apply Vws.cons | exact Vw.nil | exact Vw.d _ | apply Vw.a | apply Vw.t | exact Vw.fh rfl rfl (vws_dm _) | exact Vw.fh rfl rfl Vws.nil)); done) ?_ | refine wk_pure_n rfl (by first | exact trivial | exact resT_cell rfl rfl (by exact inferInstance) trivial) rfl (by first | exact Vw.fmp rfl rfl rfl | exact Vw.nil | exact Vw.d _ | (repeat (first | exact Vws.nil | apply Vws.cons | exact Vw.nil | exact Vw.d _ | apply Vw.a | apply Vw.t | exact Vw.fh rfl rfl (vws_dm _) | exact Vw.fh rfl rfl Vws.nil)); done) ?_)
  all_goals exact ⟨rfl, rfl⟩⟩
instance maker4_p (k c : Int) (l : List Rng) (key : ByteArray) : Ct Tryd.prog 68 [vQ k l key c] True (.d (lst Rng.ds [⟨⟨⟨#[]⟩, false⟩, ⟨key, false⟩⟩])) := ⟨fun _ => by
  refine Spec.intro Tryd.func68 rfl rfl Tryd.ntmps68 Tryd.results68 rfl fun B w0 ρ0 => ?_; simp only [slots, List.map_nil, List.map_cons, Nat.reduceAdd]
  (repeat' (first | refine wl_bt Rng.ds [⟨⟨⟨#[]⟩, false⟩, ⟨key, false⟩⟩] rfl rfl (by simp only [flatV, cellsV, List.cons_append, List.nil_append, List.append_nil]; exact rfl) rfl rfl rfl rfl rfl rfl ?_ | refine wd_bt Rng.ds [⟨⟨⟨#[]⟩, false⟩, ⟨key, false⟩⟩] rfl rfl (by simp only [flatV, cellsV, List.cons_append, List.nil_append, List.append_nil]; exact rfl) rfl rfl rfl rfl (by first | exact .no rfl | exact .y rfl rfl rfl rfl) rfl rfl ?_ | refine sw ?_ | (refine swt ?_; intro x τ hx) | (refine sp ?_ ?_ <;> (intro h; (first | (have h2 : (_ : Bool) = _ := h; clear h2; subst h) | skip); (try simp only [decide_eq_true_eq, decide_eq_false_iff_not, Bool.not_eq_true', Bool.not_eq_false', Kv.eta, Bnd.eta, Rng.eta, tn_sub1] at h); (first | (have h2 : (_ : Bool) = _ := h; clear h2; subst h) | skip))) | fail))
  all_goals (first | refine wk_pure rfl (by first | exact trivial | exact resT_cell rfl rfl (by exact inferInstance) trivial) rfl (by first | exact Vw.fmp rfl rfl rfl | exact Vw.nil | exact Vw.d _ | (repeat (first | exact Vws.nil | apply Vws.cons | exact Vw.nil | exact Vw.d _ | apply Vw.a | apply Vw.t | exact Vw.fh rfl rfl (vws_dm _) | exact Vw.fh rfl rfl Vws.nil)); done) ?_ | refine wk_pure_n rfl (by first | exact trivial | exact resT_cell rfl rfl (by exact inferInstance) trivial) rfl (by first | exact Vw.fmp rfl rfl rfl | exact Vw.nil | exact Vw.d _ | (repeat (first | exact Vws.nil | apply Vws.cons | exact Vw.nil | exact Vw.d _ | apply Vw.a | apply Vw.t | exact Vw.fh rfl rfl (vws_dm _) | exact Vw.fh rfl rfl Vws.nil)); done) ?_)
  all_goals exact ⟨rfl, rfl⟩⟩
instance qranges_p (k c : Int) (l : List Rng) (key : ByteArray) : Ct Tryd.prog 23 [vQ k l key c] (l.length < 1000000) (.d (lst Rng.ds (qranges k l key c))) := ⟨fun hl => by
  refine Spec.intro Tryd.func23 rfl rfl Tryd.ntmps23 Tryd.results23 rfl fun B w0 ρ0 => ?_; simp only [slots, List.map_nil, List.map_cons, Nat.reduceAdd]
  (repeat' (first | refine sw ?_ | refine wc_draw (id := 3) [⟨1, 0, [1]⟩, ⟨2, 2, [7]⟩, ⟨4, 0, [1]⟩, ⟨0, 0, []⟩, ⟨3, 7, [6, 8]⟩, ⟨5, 31, [9, 10]⟩, ⟨6, 63, [11]⟩, ⟨7, 127, [12]⟩] mixed (by kernel_rfl) ?_ | (refine swt ?_; intro x τ hx) | (refine sp ?_ ?_ <;> (intro h; (first | (have h2 : (_ : Bool) = _ := h; clear h2; subst h) | skip); (try simp only [decide_eq_true_eq, decide_eq_false_iff_not, Bool.not_eq_true', Bool.not_eq_false', Kv.eta, Bnd.eta, Rng.eta, tn_sub1] at h); (first | (have h2 : (_ : Bool) = _ := h; clear h2; subst h) | skip))) | fail))
  · (first | refine wk_pure rfl (by first | exact trivial | exact resT_cell rfl rfl (by exact inferInstance) trivial) rfl (by first | exact Vw.fmp rfl rfl rfl | exact Vw.nil | exact Vw.d _ | (repeat (first | exact Vws.nil | apply Vws.cons | exact Vw.nil | exact Vw.d _ | apply Vw.a | apply Vw.t | exact Vw.fh rfl rfl (vws_dm _) | exact Vw.fh rfl rfl Vws.nil)); done) ?_ | refine wk_pure_n rfl (by first | exact trivial | exact resT_cell rfl rfl (by exact inferInstance) trivial) rfl (by first | exact Vw.fmp rfl rfl rfl | exact Vw.nil | exact Vw.d _ | (repeat (first | exact Vws.nil | apply Vws.cons | exact Vw.nil | exact Vw.d _ | apply Vw.a | apply Vw.t | exact Vw.fh rfl rfl (vws_dm _) | exact Vw.fh rfl rfl Vws.nil)); done) ?_)
    refine ⟨?_, rfl⟩
    rw [qranges, if_neg h]; rfl
  have hq := qchk_0 h
  rcases hq.1 with rfl | rfl | rfl | rfl
  all_goals (repeat' (first | refine sw ?_ | refine wc_draw (id := 3) [⟨1, 0, [1]⟩, ⟨2, 2, [7]⟩, ⟨4, 0, [1]⟩, ⟨0, 0, []⟩, ⟨3, 7, [6, 8]⟩, ⟨5, 31, [9, 10]⟩, ⟨6, 63, [11]⟩, ⟨7, 127, [12]⟩] mixed (by kernel_rfl) ?_ | (refine swt ?_; intro x τ hx) | (refine sp ?_ ?_ <;> (intro h; (first | (have h2 : (_ : Bool) = _ := h; clear h2; subst h) | skip); (try simp only [decide_eq_true_eq, decide_eq_false_iff_not, Bool.not_eq_true', Bool.not_eq_false', Kv.eta, Bnd.eta, Rng.eta, tn_sub1] at h); (first | (have h2 : (_ : Bool) = _ := h; clear h2; subst h) | skip))) | fail))
  all_goals (first | refine wk_pure rfl (by first | exact trivial | exact resT_cell rfl rfl (by exact inferInstance) trivial) rfl (by first | exact Vw.fmp rfl rfl rfl | exact Vw.nil | exact Vw.d _ | (repeat (first | exact Vws.nil | apply Vws.cons | exact Vw.nil | exact Vw.d _ | apply Vw.a | apply Vw.t | exact Vw.fh rfl rfl (vws_dm _) | exact Vw.fh rfl rfl Vws.nil)); done) ?_ | refine wk_pure_n rfl (by first | exact trivial | exact resT_cell rfl rfl (by exact inferInstance) trivial) rfl (by first | exact Vw.fmp rfl rfl rfl | exact Vw.nil | exact Vw.d _ | (repeat (first | exact Vws.nil | apply Vws.cons | exact Vw.nil | exact Vw.d _ | apply Vw.a | apply Vw.t | exact Vw.fh rfl rfl (vws_dm _) | exact Vw.fh rfl rfl Vws.nil)); done) ?_)
  all_goals (refine ⟨?_, rfl⟩; rw [qranges, if_pos h, qrs]; first | rw [if_pos (by omega)] | rw [if_neg (by omega), if_pos (by omega)] | rw [if_neg (by omega), if_neg (by omega), if_pos (by omega)] | rw [if_neg (by omega), if_neg (by omega), if_neg (by omega)])⟩
end Go.Proofs.YtjnnkpkbgdknmaaDoor
namespace Go.Proofs.YtjnnkpkbgdknmaaDoor
set_option linter.unusedSimpArgs false
set_option linter.unusedVariables false
open Go.RowKit
def Mquery_Check (q : TQuery) : Option Int := if q.Ranges.length < 1000000 then some (qchk q.Kind q.Ranges q.Key q.Count) else none
theorem Mquery_Check_sp {q : TQuery} {y : Int} (hm : Mquery_Check q = some y) : Spec Tryd.prog 14 [vQ q.Kind q.Ranges q.Key q.Count] [] fun u h => u = vI y ∧ h = [] := by
  unfold Mquery_Check at hm
  split at hm
  · obtain rfl := Option.some.inj hm
    exact (qcheck_p _ _ _ _).out (by assumption)
  · cases hm
def Mquery_Ranges (q : TQuery) : Option (List Rng) := if q.Ranges.length < 1000000 then some (qranges q.Kind q.Ranges q.Key q.Count) else none
theorem Mquery_Ranges_sp {q : TQuery} {y : List Rng} (hm : Mquery_Ranges q = some y) : Spec Tryd.prog 23 [vQ q.Kind q.Ranges q.Key q.Count] [] fun u h => u = .d (lst Rng.ds y) ∧ h = [] := by
  unfold Mquery_Ranges at hm
  split at hm
  · obtain rfl := Option.some.inj hm
    exact (inferInstance : Ct Tryd.prog 23 [vQ q.Kind q.Ranges q.Key q.Count] _ _).out (by assumption)
  · cases hm
def Mref22_Ranges (q : TQuery) : Option (List Rng) := if q.Ranges.length < 1000000 then some (qranges q.Kind q.Ranges q.Key q.Count) else none
attribute [local irreducible] WK WC WL Wk Rel OpD OpV WD WO sel bnd obnd app lget lsl sget ssl scat letg iquo irem Op.bytesLess
attribute [local irreducible] qchk qranges union
def Mquery_Answer_l1 (t1 : List Kv) : List Rng → List Kv → Option (List Kv)
  | [], rows6 =>
    some rows6
  | r7 :: xs8, rows6 =>
    obnd (Mtable_Slice t1 r7) fun y10 =>
    obnd (app rows6 y10) fun l11 =>
    Mquery_Answer_l1 t1 xs8 l11
def Mquery_Answer (t1 : List Kv) (q2 : TQuery) : Option (TAnswer × Int) :=
  obnd (Mquery_Check q2) fun y3 =>
  sel (!decide (y3 = 0)) (
    some ((TAnswer.mk [] (TFold.mk 0 0 0 0 0 ⟨#[]⟩ ⟨#[]⟩)), y3)) (
    obnd (Mtable_Valid t1) fun y4 =>
    sel (!y4) (
      some ((TAnswer.mk [] (TFold.mk 0 0 0 0 0 ⟨#[]⟩ ⟨#[]⟩)), 1)) (
      obnd (Mquery_Ranges q2) fun y5 =>
      obnd (
        Mquery_Answer_l1 t1 y5 [] : Option (List Kv)) fun rows12 =>
      obnd (Mquery_Take q2 rows12) fun y13 =>
      obnd (Mfold_Of y13) fun y14 =>
      some ((TAnswer.mk y13 y14), 0)))
set_option maxRecDepth 100000 in
set_option maxHeartbeats 4000000 in
theorem Mquery_Answer_sp {t1 : List Kv} {q2 : TQuery} {y : (TAnswer × Int)} (hm : Mquery_Answer t1 q2 = some y) : Spec Tryd.prog 18 [.d (lst Kv.ds t1), .a [vI q2.Kind, .d (lst Rng.ds q2.Ranges), vS q2.Key, vI q2.Count]] [] fun u h => u = .t [.a [.d (lst Kv.ds y.1.Rows), vI y.1.Fold.Count, vI y.1.Fold.Numbers, vI y.1.Fold.Sum, vI y.1.Fold.Low, vI y.1.Fold.High, vS y.1.Fold.First, vS y.1.Fold.Last], vI y.2] ∧ h = [] := by
  refine Spec.intro Tryd.func18 rfl rfl Tryd.ntmps18 Tryd.results18 rfl fun B w0 ρ0 => ?_
  simp only [slots, List.map_nil, List.map_cons, Nat.reduceAdd]
  unfold Mquery_Answer at hm
  have hm0 := hm
  clear hm
  refine wc_seq ?_
  refine wc_region ?_
  repeat (refine sl ?_)
  refine wc_seq ?_
  refine wc_seq ?_
  refine wc_region ?_
  repeat (refine sl ?_)
  obtain ⟨y3, hy, hm0⟩ := obnd_o hm0
  refine wl_cq (Mquery_Check_sp (hm := hy)) ?_
  repeat (refine sl ?_)
  refine wc_seq ?_
  refine wc_region ?_
  repeat (refine sl ?_)
  refine wc_cond rfl (fun h => ?_) (fun h => ?_)
  · replace hm0 := sel_t h hm0
    refine wc_seq ?_
    refine wc_region ?_
    repeat (refine sl ?_)
    refine wc_ret ?_
    repeat (refine sl ?_)
    obtain rfl := Option.some.inj hm0
    exact wk_ret ⟨rfl, rfl⟩
  · replace hm0 := sel_f h hm0
    refine wc_skip ?_
    repeat (refine sl ?_)
    refine wc_seq ?_
    refine wc_seq ?_
    refine wc_region ?_
    repeat (refine sl ?_)
    obtain ⟨y4, hy, hm0⟩ := obnd_o hm0
    refine wl_cq (Mtable_Valid_sp (hm := hy)) ?_
    repeat (refine sl ?_)
    refine wc_cond rfl (fun h => ?_) (fun h => ?_)
    · replace hm0 := sel_t h hm0
      refine wc_seq ?_
      refine wc_region ?_
      repeat (refine sl ?_)
      refine wc_ret ?_
      repeat (refine sl ?_)
      obtain rfl := Option.some.inj hm0
      exact wk_ret ⟨rfl, rfl⟩
    · replace hm0 := sel_f h hm0
      refine wc_skip ?_
      repeat (refine sl ?_)
      refine wc_seq ?_
      refine wc_region ?_
      repeat (refine sl ?_)
      refine wc_seq ?_
      refine wc_seq ?_
      refine wc_region ?_
      repeat (refine sl ?_)
      obtain ⟨y5, hy, hm0⟩ := obnd_o hm0
      refine wl_cq (Mquery_Ranges_sp (hm := hy)) ?_
      repeat (refine sl ?_)
      obtain ⟨mu1, hm1, hm0⟩ := obnd_o hm0
      refine wc_cut' (fun st => ∃ (rows12 : List Kv), rows12 = mu1 ∧ st = ⟨[(3, .p 103 0), (4, .p 104 0), (7, .d (lst Kv.ds rows12))], [(103, some (.box 25 [vI q2.Kind, .d (lst Rng.ds q2.Ranges), vS q2.Key, vI q2.Count])), (104, some (.box 41 [.d (.c (.slice none 0 0)), vI 0, vI 0, vI 0, vI 0, vI 0, vS ⟨#[]⟩, vS ⟨#[]⟩]))]⟩) ?_ ?_
      · refine wc_block ?_
        refine wc_wk (wk_nil 7 5001 59 2 rfl rfl) ?_
        refine wc_len 21 rfl (fun hlenm9 => ?_)
        refine wc_loopw (fun κ st => ∃ (m9 : Nat) (rows6 : List Kv), κ = y5.length - m9 ∧ m9 ≤ y5.length ∧ Mquery_Answer_l1 t1 (y5.drop m9) rows6 = some mu1 ∧ st = ⟨[(0, .d (lst Kv.ds t1)), (3, .p 103 0), (4, .p 104 0), (7, .h 5001), (21, .d (lst Rng.ds y5)), (22, vI (y5.length : Int)), (23, vI (m9 : Int))], [(103, some (.box 25 [vI q2.Kind, .d (lst Rng.ds q2.Ranges), vS q2.Key, vI q2.Count])), (104, some (.box 41 [.d (.c (.slice none 0 0)), vI 0, vI 0, vI 0, vI 0, vI 0, vS ⟨#[]⟩, vS ⟨#[]⟩])), (5001, some (arrT 59 2 Kv.ds rows6))]⟩) [(103, 103), (104, 104), (5001, 5001)] ⟨0, _, rfl, Nat.zero_le _, hm1, rfl⟩ ?_
        rintro κ _ ⟨m9, rows6, rfl, hlem9, hm1, rfl⟩
        rcases Nat.lt_or_ge m9 y5.length with hltm9 | hgem9
        · obtain ⟨r7, hxm9, hdr⟩ := drop_c hltm9
          rw [hdr, Mquery_Answer_l1.eq_2] at hm1
          refine wc_seq ?_
          refine wc_region ?_
          repeat (refine sl ?_)
          refine wc_seq ?_
          refine wc_cond_tt (lt_t hltm9) rfl ?_
          refine wc_skip ?_
          repeat (refine sl ?_)
          refine wc_seq ?_
          refine wc_block ?_
          refine wc_seq ?_
          refine wc_region ?_
          repeat (refine sl ?_)
          refine wl_r (o_ixm (ys := [dS r7.lo.key, dB r7.lo.top, dS r7.hi.key, dB r7.hi.top]) hxm9 rfl rfl rfl rfl) rfl rfl rfl ?_
          repeat (refine sl ?_)
          refine wc_region ?_
          repeat (refine sl ?_)
          obtain ⟨y10, hy, hm1⟩ := obnd_o hm1
          refine wl_cq (Mtable_Slice_sp (hm := hy)) ?_
          repeat (refine sl ?_)
          obtain ⟨l11, hy, hm1⟩ := obnd_o hm1
          refine wl_2 (n_app (k' := 131) hy rfl rfl rfl rfl rfl rfl rfl rfl) rfl rfl rfl rfl ?_
          repeat (refine sl ?_)
          refine wc_region ?_
          repeat (refine sl ?_)
          refine wl_r (o_inc hltm9 hlenm9 rfl rfl rfl) rfl rfl rfl ?_
          repeat (refine sl ?_)
          exact wk_loopw [(103, 103), (104, 104), (5001, 131)] ⟨m9 + 1, _, rfl, hltm9, hm1, rfl⟩ (by omega)
        · rw [drop_n hgem9, Mquery_Answer_l1.eq_1] at hm1
          refine wc_seq ?_
          refine wc_region ?_
          repeat (refine sl ?_)
          refine wc_seq ?_
          refine wc_cond_ff (lt_f hgem9) rfl ?_
          refine wc_exit ?_
          repeat (refine sl ?_)
          obtain rfl := Option.some.inj hm1
          exact wk_cutw [(103, 103), (104, 104)] ⟨_, rfl, rfl⟩
      rintro _ ⟨rows12, rfl, rfl⟩
      repeat (refine sl ?_)
      refine wc_seq ?_
      refine wc_region ?_
      repeat (refine sl ?_)
      obtain ⟨y13, hy, hm0⟩ := obnd_o hm0
      refine wl_cq (Mquery_Take_sp (hm := hy)) ?_
      repeat (refine sl ?_)
      refine wc_seq ?_
      refine wc_region ?_
      repeat (refine sl ?_)
      obtain ⟨y14, hy, hm0⟩ := obnd_o hm0
      refine wl_cq (Mfold_Of_sp (hm := hy)) ?_
      repeat (refine sl ?_)
      refine wc_ret ?_
      repeat (refine sl ?_)
      obtain rfl := Option.some.inj hm0
      exact wk_ret ⟨rfl, rfl⟩

def Mref22_Answer_l1 (t1 : List Kv) : List Rng → List Kv → Option (List Kv)
  | [], rows6 =>
    some rows6
  | r7 :: xs8, rows6 =>
    obnd (Mref20_Slice t1 r7) fun y10 =>
    obnd (app rows6 y10) fun l11 =>
    Mref22_Answer_l1 t1 xs8 l11
def Mref22_Answer (t1 : List Kv) (q2 : TQuery) : Option (TAnswer × Int) :=
  bnd (Mref22_Check q2) fun y3 =>
  sel (!decide (y3 = 0)) (
    some ((TAnswer.mk [] (TFold.mk 0 0 0 0 0 ⟨#[]⟩ ⟨#[]⟩)), y3)) (
    obnd (Mref20_Valid t1) fun y4 =>
    sel (!y4) (
      some ((TAnswer.mk [] (TFold.mk 0 0 0 0 0 ⟨#[]⟩ ⟨#[]⟩)), 1)) (
      obnd (Mref22_Ranges q2) fun y5 =>
      obnd (
        Mref22_Answer_l1 t1 y5 [] : Option (List Kv)) fun rows12 =>
      obnd (Mref22_Take q2 rows12) fun y13 =>
      obnd (Mref21_Of y13) fun y14 =>
      some ((TAnswer.mk y13 y14), 0)))
end Go.Proofs.YtjnnkpkbgdknmaaDoor
namespace Go.Proofs.YtjnnkpkbgdknmaaDoor
set_option linter.unusedSimpArgs false
set_option linter.unusedVariables false
open Go.RowKit
attribute [local irreducible] WK WC WL Wk Rel OpD OpV WD WO sel bnd obnd app lget lsl sget ssl scat letg iquo irem Op.bytesLess
attribute [local irreducible] qchk qranges union
def Mlaw22_awake : Option Bool :=
  obnd (Mquery_Ranges (TQuery.mk 2 [] (⟨#[97, 98]⟩) 0)) fun y1 =>
  obnd (Mquery_Answer ([(Kv.mk ⟨#[97]⟩ ⟨#[]⟩), (Kv.mk ⟨#[98]⟩ ⟨#[49]⟩), (Kv.mk ⟨#[99]⟩ ⟨#[]⟩)] : List Kv) (TQuery.mk 4 [] ⟨#[99]⟩ 1)) fun y2 =>
  sel (decide ((y1.length : Int) = 1)) (
    obnd (lget y1 0) fun e3 =>
    sel (decide (e3.lo.key = ⟨#[97, 98]⟩) && decide (e3.lo.top = false) && decide (e3.hi.key = ⟨#[97, 99]⟩) && decide (e3.hi.top = false)) (
      sel (decide (y2.2 = 0)) (
        sel (decide ((y2.1.Rows.length : Int) = 1)) (
          obnd (lget y2.1.Rows 0) fun e4 =>
          sel (decide (e4.key = ⟨#[98]⟩)) (
            some (decide (y2.1.Fold.Sum = 1))) (
            some false)) (
          some false)) (
        some false)) (
      some false)) (
    some false)
set_option maxRecDepth 100000 in
set_option maxHeartbeats 4000000 in
theorem Mlaw22_awake_sp {y : Bool} (hm : Mlaw22_awake = some y) : Spec Tryd.prog 10 [] [] fun u h => u = vB y ∧ h = [] := by
  refine Spec.intro Tryd.func10 rfl rfl Tryd.ntmps10 Tryd.results10 rfl fun B w0 ρ0 => ?_
  simp only [slots, List.map_nil, List.map_cons, Nat.reduceAdd]
  unfold Mlaw22_awake at hm
  have hm0 := hm
  clear hm
  refine wc_seq ?_
  refine wc_region ?_
  repeat (refine sl ?_)
  refine wc_seq ?_
  refine wc_region ?_
  repeat (refine sl ?_)
  obtain ⟨y1, hy, hm0⟩ := obnd_o hm0
  refine wl_cq (Mquery_Ranges_sp (hm := hy)) ?_
  repeat (refine sl ?_)
  refine wc_seq ?_
  refine wc_region ?_
  repeat (refine sl ?_)
  refine wl_bt Kv.ds [(Kv.mk ⟨#[97]⟩ ⟨#[]⟩), (Kv.mk ⟨#[98]⟩ ⟨#[49]⟩), (Kv.mk ⟨#[99]⟩ ⟨#[]⟩)] rfl rfl (by simp only [flatV, cellsV, List.cons_append, List.nil_append, List.append_nil]; exact rfl) rfl rfl rfl rfl rfl rfl ?_
  repeat (refine sl ?_)
  obtain ⟨y2, hy, hm0⟩ := obnd_o hm0
  refine wl_cq (Mquery_Answer_sp (hm := hy)) ?_
  repeat (refine sl ?_)
  refine wc_seq ?_
  refine wc_region ?_
  repeat (refine sl ?_)
  refine wl_gp rfl rfl rfl rfl (fun h => ?_) (fun h => ?_)
  · replace hm0 := sel_t h hm0
    repeat (refine sl ?_)
    obtain ⟨e3, hy, hm0⟩ := obnd_o hm0
    refine wl_r (o_ixg (ys := [dS e3.lo.key, dB e3.lo.top, dS e3.hi.key, dB e3.hi.top]) hy rfl rfl rfl rfl) rfl rfl rfl ?_
    repeat (refine sl ?_)
    refine wl_gp rfl rfl rfl rfl (fun h => ?_) (fun h => ?_)
    · replace hm0 := sel_t h hm0
      repeat (refine sl ?_)
      refine wl_gp rfl rfl rfl rfl (fun h => ?_) (fun h => ?_)
      · replace hm0 := sel_t h hm0
        repeat (refine sl ?_)
        refine wl_gp rfl rfl rfl rfl (fun h => ?_) (fun h => ?_)
        · replace hm0 := sel_t h hm0
          repeat (refine sl ?_)
          obtain ⟨e4, hy, hm0⟩ := obnd_o hm0
          refine wl_r (o_ixg (ys := [dS e4.key, dS e4.val]) hy rfl rfl rfl rfl) rfl rfl rfl ?_
          repeat (refine sl ?_)
          refine wl_gp rfl rfl rfl rfl (fun h => ?_) (fun h => ?_)
          · replace hm0 := sel_t h hm0
            repeat (refine sl ?_)
            refine wc_ret ?_
            repeat (refine sl ?_)
            obtain rfl := Option.some.inj hm0
            exact wk_ret ⟨rfl, rfl⟩
          · replace hm0 := sel_f h hm0
            repeat (refine sl ?_)
            refine wc_ret ?_
            repeat (refine sl ?_)
            obtain rfl := Option.some.inj hm0
            exact wk_ret ⟨rfl, rfl⟩
        · replace hm0 := sel_f h hm0
          repeat (refine sl ?_)
          refine wc_ret ?_
          repeat (refine sl ?_)
          obtain rfl := Option.some.inj hm0
          exact wk_ret ⟨rfl, rfl⟩
      · replace hm0 := sel_f h hm0
        repeat (refine sl ?_)
        refine wc_ret ?_
        repeat (refine sl ?_)
        obtain rfl := Option.some.inj hm0
        exact wk_ret ⟨rfl, rfl⟩
    · replace hm0 := sel_f h hm0
      repeat (refine sl ?_)
      refine wc_ret ?_
      repeat (refine sl ?_)
      obtain rfl := Option.some.inj hm0
      exact wk_ret ⟨rfl, rfl⟩
  · replace hm0 := sel_f h hm0
    repeat (refine sl ?_)
    refine wc_ret ?_
    repeat (refine sl ?_)
    obtain rfl := Option.some.inj hm0
    exact wk_ret ⟨rfl, rfl⟩

def Mlaw22_QueryUnion_l1 : Nat → List Int → Int → List Rng → Int → Option (List Rng)
  | 0, _, _, _, _ => none
  | fuel + 1, x5, x6, q7, i8 =>
    obnd (
      sel (decide (0 ≤ i8)) (
        some (Ctl.nxt ())) (
        some (Ctl.ret q7)) : Option (Ctl (List Rng) Unit)) fun mu => ocbnd mu fun (_ : Unit) =>
    obnd (Mwld_Tape_Proper (TTape.mk x5 x6)) fun y9 =>
    obnd (app q7 ([y9.1] : List Rng)) fun l10 =>
    Mlaw22_QueryUnion_l1 fuel y9.2.l y9.2.at_ l10 (i64w (i8 - 1))
def Mlaw22_QueryUnion_l2 (y3 : (List Kv × TTape)) : List Rng → List Kv → Int → Int → Int → Int → Int → ByteArray → ByteArray → Option (Ctl Bool (List Kv × Int × Int × Int × Int × Int × ByteArray × ByteArray))
  | [], rows14, f15, f16, f17, f18, f19, f20, f21 =>
    some (Ctl.nxt (rows14, f15, f16, f17, f18, f19, f20, f21))
  | r22 :: xs23, rows14, f15, f16, f17, f18, f19, f20, f21 =>
    obnd (Mquery_Answer y3.1 (TQuery.mk 1 ([r22] : List Rng) ⟨#[]⟩ 0)) fun y25 =>
    sel (!decide (y25.2 = 0)) (
      some (Ctl.ret false)) (
      obnd (app rows14 y25.1.Rows) fun l26 =>
      bnd (Mref21_Join (TFold.mk f15 f16 f17 f18 f19 f20 f21) y25.1.Fold) fun y27 =>
      Mlaw22_QueryUnion_l2 y3 xs23 l26 y27.Count y27.Numbers y27.Sum y27.Low y27.High y27.First y27.Last)
def Mlaw22_QueryUnion (l1 : List Int) : Option Bool :=
  obnd (Mwld_New l1) fun y2 =>
  obnd (Mwld_Tape_Rows y2 10) fun y3 =>
  obnd (Mwld_Tape_Next y3.2 4) fun y4 =>
  obnd (
    Mlaw22_QueryUnion_l1 FU y4.2.l y4.2.at_ [] y4.1 : Option (List Rng)) fun q11 =>
  obnd (Mquery_Answer y3.1 (TQuery.mk 1 q11 ⟨#[]⟩ 0)) fun y12 =>
  obnd (Mquery_Ranges (TQuery.mk 1 q11 ⟨#[]⟩ 0)) fun y13 =>
  obnd (
    Mlaw22_QueryUnion_l2 y3 y13 [] 0 0 0 0 0 ⟨#[]⟩ ⟨#[]⟩ : Option (Ctl Bool (List Kv × Int × Int × Int × Int × Int × ByteArray × ByteArray))) fun mu => ocbnd mu fun (rows28, f29, f30, f31, f32, f33, f34, f35) =>
  sel (decide (y12.2 = 0)) (
    obnd (Mref20_Same y12.1.Rows rows28) fun y36 =>
    sel y36 (
      sel (decide (y12.1.Fold.Count = f29) && decide (y12.1.Fold.Numbers = f30) && decide (y12.1.Fold.Sum = f31) && decide (y12.1.Fold.Low = f32) && decide (y12.1.Fold.High = f33) && decide (y12.1.Fold.First = f34) && decide (y12.1.Fold.Last = f35)) (
        obnd (Mref20_Valid y12.1.Rows) fun y37 =>
        sel y37 (
          obnd (Mlaw22_awake) fun y38 =>
          some y38) (
          some false)) (
        some false)) (
      some false)) (
    some false)
set_option maxRecDepth 100000 in
set_option maxHeartbeats 4000000 in
theorem Mlaw22_QueryUnion_sp {l1 : List Int} {y : Bool} (hm : Mlaw22_QueryUnion l1 = some y) : Spec Tryd.prog 5 [.d (lst dsI l1)] [] fun u h => u = vB y ∧ h = [] := by
  refine Spec.intro Tryd.func5 rfl rfl Tryd.ntmps5 Tryd.results5 rfl fun B w0 ρ0 => ?_
  simp only [slots, List.map_nil, List.map_cons, Nat.reduceAdd]
  unfold Mlaw22_QueryUnion at hm
  have hm0 := hm
  clear hm
  refine wc_seq ?_
  refine wc_region ?_
  repeat (refine sl ?_)
  refine wc_seq ?_
  refine wc_region ?_
  repeat (refine sl ?_)
  obtain ⟨y2, hy, hm0⟩ := obnd_o hm0
  refine wl_mkn (u' := .p 201601 0) (h' := [(201601, some (.box 69 [.d (lst dsI y2.l), vI y2.at_]))]) (Mwld_New_sp (hm := hy)) 201600 rfl rfl rfl (by repeat (first | exact Vws.nil | apply Vws.cons | exact Vw.nil | exact Vw.d _ | exact Vw.q _ | apply Vw.a)) rfl (by (try simp only [renH, Option.map_some, Blk.ren, rens_d]); rfl) rfl rfl rfl rfl ?_
  repeat (refine sl ?_)
  refine wc_seq ?_
  refine wc_region ?_
  repeat (refine sl ?_)
  obtain ⟨y3, hy, hm0⟩ := obnd_o hm0
  refine wl_iq (Mwld_Tape_Rows_sp (hm := hy)) 201601 ?_
  repeat (refine sl ?_)
  refine wc_seq ?_
  refine wc_region ?_
  repeat (refine sl ?_)
  refine wc_seq ?_
  refine wc_seq ?_
  refine wc_region ?_
  repeat (refine sl ?_)
  obtain ⟨y4, hy, hm0⟩ := obnd_o hm0
  refine wl_iq (Mwld_Tape_Next_sp (hm := hy)) 201601 ?_
  repeat (refine sl ?_)
  obtain ⟨mu1, hm1, hm0⟩ := obnd_o hm0
  refine wc_cut' (fun st => ∃ (q11 : List Rng), q11 = mu1 ∧ st = ⟨[(4, .d (lst Kv.ds y3.1)), (5, .p 105 0)], [(105, some (.box 25 [vI 1, .d (lst Rng.ds q11), vS ⟨#[]⟩, vI 0]))]⟩) ?_ ?_
  · refine wc_block ?_
    refine wc_wk (wk_nilb 105 1 5001 50 4 rfl rfl rfl rfl) ?_
    refine wc_loopw (fun κ st => ∃ (x5 : List Int) (x6 : Int) (q7 : List Rng) (i8 : Int), Mlaw22_QueryUnion_l1 κ x5 x6 q7 i8 = some mu1 ∧ st = ⟨[(3, .p 201601 0), (4, .d (lst Kv.ds y3.1)), (5, .p 105 0), (6, vI i8)], [(105, some (.box 25 [vI 1, .h 5001, vS ⟨#[]⟩, vI 0])), (5001, some (arrT 50 4 Rng.ds q7)), (201601, some (.box 69 [.d (lst dsI x5), vI x6]))]⟩) [(105, 105), (5001, 5001), (201601, 201601)] ⟨_, _, _, _, hm1, rfl⟩ ?_
    rintro κ _ ⟨x5, x6, q7, i8, hm1, rfl⟩
    cases κ with
    | zero => rw [Mlaw22_QueryUnion_l1.eq_1] at hm1; cases hm1
    | succ κ =>
      rw [Mlaw22_QueryUnion_l1.eq_2] at hm1
      refine wc_seq ?_
      refine wc_seq ?_
      refine wc_region ?_
      repeat (refine sl ?_)
      obtain ⟨mu2, hm2, hm1⟩ := obnd_o hm1
      refine wc_cut' (fun st => mu2 = Ctl.nxt () ∧ st = ⟨[(3, .p 201601 0), (4, .d (lst Kv.ds y3.1)), (5, .p 105 0), (6, vI i8)], [(105, some (.box 25 [vI 1, .h 5001, vS ⟨#[]⟩, vI 0])), (5001, some (arrT 50 4 Rng.ds q7)), (201601, some (.box 69 [.d (lst dsI x5), vI x6]))]⟩) ?_ ?_
      · refine wc_cond rfl (fun h => ?_) (fun h => ?_)
        · replace hm2 := sel_t h hm2
          refine wc_skip ?_
          repeat (refine sl ?_)
          obtain rfl := Option.some.inj hm2
          exact wk_cutw [(105, 105), (5001, 5001), (201601, 201601)] ⟨rfl, rfl⟩
        · replace hm2 := sel_f h hm2
          refine wc_exit ?_
          repeat (refine sl ?_)
          obtain rfl := Option.some.inj hm2
          replace hm1 := ocbnd_r hm1
          obtain rfl := Option.some.inj hm1
          exact wk_cutw [(105, 105)] ⟨_, rfl, rfl⟩
      rintro _ ⟨rfl, rfl⟩
      replace hm1 := ocbnd_n hm1
      repeat (refine sl ?_)
      refine wc_seq ?_
      refine wc_block ?_
      refine wc_draw (id := 7) [⟨0, 0, [5]⟩, ⟨1, 1, [26]⟩, ⟨2, 0, [3]⟩, ⟨3, 4, [28]⟩, ⟨4, 12, [29]⟩, ⟨5, 31, [27, 30]⟩, ⟨6, 63, [5]⟩, ⟨7, 127, [31, 32]⟩] mixed (by kernel_rfl) ?_
      repeat (refine sl ?_)
      obtain ⟨y9, hy, hm1⟩ := obnd_o hm1
      refine wd_io (Mwld_Tape_Proper_sp (hm := hy)) 201601 rfl rfl rfl (by repeat (first | exact Vws.nil | apply Vws.cons | exact Vw.nil | exact Vw.d _ | exact Vw.q _ | exact Vw.p rfl | apply Vw.a)) rfl (Vb.box (by repeat (first | exact Vws.nil | apply Vws.cons | exact Vw.nil | exact Vw.d _ | exact Vw.q _ | exact Vw.p rfl | apply Vw.a))) rfl rfl rfl (by first | exact .no rfl | exact .y rfl rfl rfl rfl) rfl rfl rfl rfl ?_
      repeat (refine sl ?_)
      refine wd_bt Rng.ds [y9.1] rfl rfl (by simp only [flatV, cellsV, List.cons_append, List.nil_append, List.append_nil]; exact rfl) rfl rfl rfl rfl (by first | exact .no rfl | exact .y rfl rfl rfl rfl) rfl rfl ?_
      repeat (refine sl ?_)
      obtain ⟨l10, hy, hm1⟩ := obnd_o hm1
      refine wd_app (k' := 131) hy rfl rfl rfl rfl rfl rfl rfl rfl (by first | exact .no rfl | exact .y rfl rfl rfl rfl) rfl rfl rfl ?_
      repeat (refine sl ?_)
      refine wc_region ?_
      repeat (refine sl ?_)
      exact wk_loopw [(105, 105), (5001, 131), (201601, 201601)] ⟨_, _, _, _, hm1, rfl⟩ (Nat.lt_succ_self _)
  rintro _ ⟨q11, rfl, rfl⟩
  repeat (refine sl ?_)
  refine wc_seq ?_
  refine wc_region ?_
  repeat (refine sl ?_)
  obtain ⟨y12, hy, hm0⟩ := obnd_o hm0
  refine wl_cq (Mquery_Answer_sp (hm := hy)) ?_
  repeat (refine sl ?_)
  refine wc_seq ?_
  refine wc_region ?_
  repeat (refine sl ?_)
  refine wc_seq ?_
  refine wc_region ?_
  repeat (refine sl ?_)
  refine wc_seq ?_
  refine wc_seq ?_
  refine wc_region ?_
  repeat (refine sl ?_)
  obtain ⟨y13, hy, hm0⟩ := obnd_o hm0
  refine wl_cq (Mquery_Ranges_sp (hm := hy)) ?_
  repeat (refine sl ?_)
  obtain ⟨mu1, hm1, hm0⟩ := obnd_o hm0
  refine wc_cut' (fun st => ∃ (rows28 : List Kv) (f29 : Int) (f30 : Int) (f31 : Int) (f32 : Int) (f33 : Int) (f34 : ByteArray) (f35 : ByteArray), mu1 = Ctl.nxt (rows28, f29, f30, f31, f32, f33, f34, f35) ∧ st = ⟨[(7, .p 107 0), (8, vI y12.2), (9, .d (lst Kv.ds rows28)), (10, .p 110 0)], [(107, some (.box 41 [.d (lst Kv.ds y12.1.Rows), vI y12.1.Fold.Count, vI y12.1.Fold.Numbers, vI y12.1.Fold.Sum, vI y12.1.Fold.Low, vI y12.1.Fold.High, vS y12.1.Fold.First, vS y12.1.Fold.Last])), (110, some (.box 39 [vI f29, vI f30, vI f31, vI f32, vI f33, vS f34, vS f35]))]⟩) ?_ ?_
  · refine wc_block ?_
    refine wc_wk (wk_nil 9 5002 59 2 rfl rfl) ?_
    refine wc_len 40 rfl (fun hlenm24 => ?_)
    refine wc_loopw (fun κ st => ∃ (m24 : Nat) (rows14 : List Kv) (f15 : Int) (f16 : Int) (f17 : Int) (f18 : Int) (f19 : Int) (f20 : ByteArray) (f21 : ByteArray), κ = y13.length - m24 ∧ m24 ≤ y13.length ∧ Mlaw22_QueryUnion_l2 y3 (y13.drop m24) rows14 f15 f16 f17 f18 f19 f20 f21 = some mu1 ∧ st = ⟨[(4, .d (lst Kv.ds y3.1)), (7, .p 107 0), (8, vI y12.2), (9, .h 5002), (10, .p 110 0), (40, .d (lst Rng.ds y13)), (41, vI (y13.length : Int)), (42, vI (m24 : Int))], [(107, some (.box 41 [.d (lst Kv.ds y12.1.Rows), vI y12.1.Fold.Count, vI y12.1.Fold.Numbers, vI y12.1.Fold.Sum, vI y12.1.Fold.Low, vI y12.1.Fold.High, vS y12.1.Fold.First, vS y12.1.Fold.Last])), (110, some (.box 39 [vI f15, vI f16, vI f17, vI f18, vI f19, vS f20, vS f21])), (5002, some (arrT 59 2 Kv.ds rows14))]⟩) [(107, 107), (110, 110), (5002, 5002)] ⟨0, _, _, _, _, _, _, _, _, rfl, Nat.zero_le _, hm1, rfl⟩ ?_
    rintro κ _ ⟨m24, rows14, f15, f16, f17, f18, f19, f20, f21, rfl, hlem24, hm1, rfl⟩
    rcases Nat.lt_or_ge m24 y13.length with hltm24 | hgem24
    · obtain ⟨r22, hxm24, hdr⟩ := drop_c hltm24
      rw [hdr, Mlaw22_QueryUnion_l2.eq_2] at hm1
      refine wc_seq ?_
      refine wc_region ?_
      repeat (refine sl ?_)
      refine wc_seq ?_
      refine wc_cond_tt (lt_t hltm24) rfl ?_
      refine wc_skip ?_
      repeat (refine sl ?_)
      refine wc_seq ?_
      refine wc_block ?_
      refine wc_seq ?_
      refine wc_region ?_
      repeat (refine sl ?_)
      refine wl_r (o_ixm (ys := [dS r22.lo.key, dB r22.lo.top, dS r22.hi.key, dB r22.hi.top]) hxm24 rfl rfl rfl rfl) rfl rfl rfl ?_
      repeat (refine sl ?_)
      refine wc_seq ?_
      refine wc_region ?_
      repeat (refine sl ?_)
      refine wl_bt Rng.ds [r22] rfl rfl (by simp only [flatV, cellsV, List.cons_append, List.nil_append, List.append_nil]; exact rfl) rfl rfl rfl rfl rfl rfl ?_
      repeat (refine sl ?_)
      obtain ⟨y25, hy, hm1⟩ := obnd_o hm1
      refine wl_cq (Mquery_Answer_sp (hm := hy)) ?_
      repeat (refine sl ?_)
      refine wc_seq ?_
      refine wc_seq ?_
      refine wc_region ?_
      repeat (refine sl ?_)
      refine wc_cond rfl (fun h => ?_) (fun h => ?_)
      · replace hm1 := sel_t h hm1
        refine wc_seq ?_
        refine wc_region ?_
        repeat (refine sl ?_)
        refine wc_ret ?_
        repeat (refine sl ?_)
        obtain rfl := Option.some.inj hm1
        replace hm0 := ocbnd_r hm0
        obtain rfl := Option.some.inj hm0
        exact wk_ret ⟨rfl, rfl⟩
      · replace hm1 := sel_f h hm1
        refine wc_skip ?_
        repeat (refine sl ?_)
        refine wc_seq ?_
        refine wc_region ?_
        repeat (refine sl ?_)
        obtain ⟨l26, hy, hm1⟩ := obnd_o hm1
        refine wl_2 (n_app (k' := 159) hy rfl rfl rfl rfl rfl rfl rfl rfl) rfl rfl rfl rfl ?_
        repeat (refine sl ?_)
        refine wc_region ?_
        repeat (refine sl ?_)
        obtain ⟨y27, hy, hm1⟩ := bnd_o hm1
        refine wl_cq (Mref21_Join_sp (hm := hy)) ?_
        repeat (refine sl ?_)
        refine wc_region ?_
        repeat (refine sl ?_)
        refine wl_r (o_inc hltm24 hlenm24 rfl rfl rfl) rfl rfl rfl ?_
        repeat (refine sl ?_)
        exact wk_loopw [(107, 107), (110, 110), (5002, 159)] ⟨m24 + 1, _, _, _, _, _, _, _, _, rfl, hltm24, hm1, rfl⟩ (by omega)
    · rw [drop_n hgem24, Mlaw22_QueryUnion_l2.eq_1] at hm1
      refine wc_seq ?_
      refine wc_region ?_
      repeat (refine sl ?_)
      refine wc_seq ?_
      refine wc_cond_ff (lt_f hgem24) rfl ?_
      refine wc_exit ?_
      repeat (refine sl ?_)
      obtain rfl := Option.some.inj hm1
      exact wk_cutw [(107, 107), (110, 110)] ⟨_, _, _, _, _, _, _, _, rfl, rfl⟩
  rintro _ ⟨rows28, f29, f30, f31, f32, f33, f34, f35, rfl, rfl⟩
  replace hm0 := ocbnd_n hm0
  repeat (refine sl ?_)
  refine wc_seq ?_
  refine wc_region ?_
  repeat (refine sl ?_)
  refine wl_gp rfl rfl rfl rfl (fun h => ?_) (fun h => ?_)
  · replace hm0 := sel_t h hm0
    repeat (refine sl ?_)
    obtain ⟨y36, hy, hm0⟩ := obnd_o hm0
    refine wl_cq (Mref20_Same_sp (hm := hy)) ?_
    repeat (refine sl ?_)
    refine wl_gp rfl rfl rfl rfl (fun h => ?_) (fun h => ?_)
    · replace hm0 := sel_t h hm0
      repeat (refine sl ?_)
      refine wl_gp rfl rfl rfl rfl (fun h => ?_) (fun h => ?_)
      · replace hm0 := sel_t h hm0
        repeat (refine sl ?_)
        obtain ⟨y37, hy, hm0⟩ := obnd_o hm0
        refine wl_cq (Mref20_Valid_sp (hm := hy)) ?_
        repeat (refine sl ?_)
        refine wl_gp rfl rfl rfl rfl (fun h => ?_) (fun h => ?_)
        · replace hm0 := sel_t h hm0
          repeat (refine sl ?_)
          obtain ⟨y38, hy, hm0⟩ := obnd_o hm0
          refine wl_cq (Mlaw22_awake_sp (hm := hy)) ?_
          repeat (refine sl ?_)
          refine wc_ret ?_
          repeat (refine sl ?_)
          obtain rfl := Option.some.inj hm0
          exact wk_ret ⟨rfl, rfl⟩
        · replace hm0 := sel_f h hm0
          repeat (refine sl ?_)
          refine wc_ret ?_
          repeat (refine sl ?_)
          obtain rfl := Option.some.inj hm0
          exact wk_ret ⟨rfl, rfl⟩
      · replace hm0 := sel_f h hm0
        repeat (refine sl ?_)
        refine wc_ret ?_
        repeat (refine sl ?_)
        obtain rfl := Option.some.inj hm0
        exact wk_ret ⟨rfl, rfl⟩
    · replace hm0 := sel_f h hm0
      repeat (refine sl ?_)
      refine wc_ret ?_
      repeat (refine sl ?_)
      obtain rfl := Option.some.inj hm0
      exact wk_ret ⟨rfl, rfl⟩
  · replace hm0 := sel_f h hm0
    repeat (refine sl ?_)
    refine wc_ret ?_
    repeat (refine sl ?_)
    obtain rfl := Option.some.inj hm0
    exact wk_ret ⟨rfl, rfl⟩

def Mlaw22_QueryNearest_l1 (y5 : (ByteArray × TTape)) (q6 : Int) : List Kv → List Kv → List Kv → Option (List Kv × List Kv)
  | [], up11, down12 =>
    some (up11, down12)
  | r13 :: xs14, up11, down12 =>
    obnd (
      sel (!bl r13.key y5.1) (
        some (decide ((up11.length : Int) < i64w (1 + (i64w q6))))) (
        some false) : Option Bool) fun x16 =>
    obnd (
      sel x16 (
        obnd (app up11 ([r13] : List Kv)) fun l17 =>
        some l17) (
        some up11) : Option (List Kv)) fun up18 =>
    sel (bl r13.key y5.1) (
      obnd (app down12 ([r13] : List Kv)) fun l19 =>
      Mlaw22_QueryNearest_l1 y5 q6 xs14 up18 l19) (
      Mlaw22_QueryNearest_l1 y5 q6 xs14 up18 down12)
def Mlaw22_QueryNearest (l1 : List Int) (n2 : Int) : Option Bool :=
  obnd (Mwld_New l1) fun y3 =>
  obnd (Mwld_Tape_Rows y3 10) fun y4 =>
  obnd (Mwld_Tape_Key y4.2) fun y5 =>
  obnd (irem n2 8) fun q6 =>
  obnd (Mquery_Answer y4.1 (TQuery.mk 3 [] y5.1 (i64w (1 + (i64w q6))))) fun y7 =>
  obnd (Mquery_Answer y4.1 (TQuery.mk 4 [] y5.1 (i64w (1 + (i64w q6))))) fun y8 =>
  obnd (Mquery_Answer y4.1 (TQuery.mk 3 [] y5.1 (i64w ((i64w (1 + (i64w q6))) + 1)))) fun y9 =>
  obnd (
    sel (!decide (y7.2 = 0)) (
      some true) (
      sel (!decide (y8.2 = 0)) (
        some true) (
        some (!decide (y9.2 = 0)))) : Option Bool) fun x10 =>
  sel x10 (
    some false) (
    obnd (
      Mlaw22_QueryNearest_l1 y5 q6 y4.1 [] [] : Option (List Kv × List Kv)) fun (up20, down21) =>
    obnd (lsl down21 (max 0 (i64w ((down21.length : Int) - (i64w (1 + (i64w q6)))))) (down21.length : Int)) fun l22 =>
    obnd (Mref20_Same y7.1.Rows up20) fun y23 =>
    sel y23 (
      obnd (Mref20_Same y8.1.Rows l22) fun y24 =>
      sel y24 (
        sel (decide ((up20.length : Int) ≤ (y9.1.Rows.length : Int))) (
          obnd (lsl y9.1.Rows 0 (up20.length : Int)) fun l25 =>
          obnd (Mref20_Same l25 up20) fun y26 =>
          sel y26 (
            obnd (Mlaw22_awake) fun y27 =>
            some y27) (
            some false)) (
          some false)) (
        some false)) (
      some false))
set_option maxRecDepth 100000 in
set_option maxHeartbeats 4000000 in
theorem Mlaw22_QueryNearest_sp {l1 : List Int} {n2 : Int} {y : Bool} (hm : Mlaw22_QueryNearest l1 n2 = some y) : Spec Tryd.prog 6 [.d (lst dsI l1), .d (.c (.int .u8 n2))] [] fun u h => u = vB y ∧ h = [] := by
  refine Spec.intro Tryd.func6 rfl rfl Tryd.ntmps6 Tryd.results6 rfl fun B w0 ρ0 => ?_
  simp only [slots, List.map_nil, List.map_cons, Nat.reduceAdd]
  unfold Mlaw22_QueryNearest at hm
  have hm0 := hm
  clear hm
  refine wc_seq ?_
  refine wc_region ?_
  repeat (refine sl ?_)
  refine wc_seq ?_
  refine wc_region ?_
  repeat (refine sl ?_)
  obtain ⟨y3, hy, hm0⟩ := obnd_o hm0
  refine wl_mkn (u' := .p 202001 0) (h' := [(202001, some (.box 69 [.d (lst dsI y3.l), vI y3.at_]))]) (Mwld_New_sp (hm := hy)) 202000 rfl rfl rfl (by repeat (first | exact Vws.nil | apply Vws.cons | exact Vw.nil | exact Vw.d _ | exact Vw.q _ | apply Vw.a)) rfl (by (try simp only [renH, Option.map_some, Blk.ren, rens_d]); rfl) rfl rfl rfl rfl ?_
  repeat (refine sl ?_)
  refine wc_seq ?_
  refine wc_region ?_
  repeat (refine sl ?_)
  obtain ⟨y4, hy, hm0⟩ := obnd_o hm0
  refine wl_iq (Mwld_Tape_Rows_sp (hm := hy)) 202001 ?_
  repeat (refine sl ?_)
  refine wc_seq ?_
  refine wc_region ?_
  repeat (refine sl ?_)
  obtain ⟨y5, hy, hm0⟩ := obnd_o hm0
  refine wl_iq (Mwld_Tape_Key_sp (hm := hy)) 202001 ?_
  repeat (refine sl ?_)
  refine wc_seq ?_
  refine wc_region ?_
  repeat (refine sl ?_)
  obtain ⟨q6, hy, hm0⟩ := obnd_o hm0
  refine wl_r (o_irem hy rfl rfl rfl) rfl rfl rfl ?_
  repeat (refine sl ?_)
  refine wl_r (o_cvi (k1 := .u8) (k2 := .i64) rfl rfl (by kernel_rfl) (by kernel_rfl) rfl) rfl rfl rfl ?_
  repeat (refine sl ?_)
  refine wl_r (o_add rfl rfl rfl rfl) rfl rfl rfl ?_
  repeat (refine sl ?_)
  refine wc_seq ?_
  refine wc_region ?_
  repeat (refine sl ?_)
  obtain ⟨y7, hy, hm0⟩ := obnd_o hm0
  refine wl_cq (Mquery_Answer_sp (hm := hy)) ?_
  repeat (refine sl ?_)
  refine wc_seq ?_
  refine wc_region ?_
  repeat (refine sl ?_)
  obtain ⟨y8, hy, hm0⟩ := obnd_o hm0
  refine wl_cq (Mquery_Answer_sp (hm := hy)) ?_
  repeat (refine sl ?_)
  refine wc_seq ?_
  refine wc_region ?_
  repeat (refine sl ?_)
  refine wl_r (o_add rfl rfl rfl rfl) rfl rfl rfl ?_
  repeat (refine sl ?_)
  obtain ⟨y9, hy, hm0⟩ := obnd_o hm0
  refine wl_cq (Mquery_Answer_sp (hm := hy)) ?_
  repeat (refine sl ?_)
  refine wc_seq ?_
  refine wc_seq ?_
  obtain ⟨mu1, hm1, hm0⟩ := obnd_o hm0
  refine wc_cut' (fun st => ∃ (x10 : Bool), x10 = mu1 ∧ st = ⟨[(6, .d (lst Kv.ds y4.1)), (7, vS y5.1), (8, vI (i64w (1 + (i64w q6)))), (9, .p 109 0), (11, .p 111 0), (13, .p 113 0), (63, vB x10)], [(109, some (.box 41 [.d (lst Kv.ds y7.1.Rows), vI y7.1.Fold.Count, vI y7.1.Fold.Numbers, vI y7.1.Fold.Sum, vI y7.1.Fold.Low, vI y7.1.Fold.High, vS y7.1.Fold.First, vS y7.1.Fold.Last])), (111, some (.box 41 [.d (lst Kv.ds y8.1.Rows), vI y8.1.Fold.Count, vI y8.1.Fold.Numbers, vI y8.1.Fold.Sum, vI y8.1.Fold.Low, vI y8.1.Fold.High, vS y8.1.Fold.First, vS y8.1.Fold.Last])), (113, some (.box 41 [.d (lst Kv.ds y9.1.Rows), vI y9.1.Fold.Count, vI y9.1.Fold.Numbers, vI y9.1.Fold.Sum, vI y9.1.Fold.Low, vI y9.1.Fold.High, vS y9.1.Fold.First, vS y9.1.Fold.Last]))]⟩) ?_ ?_
  · refine wc_region ?_
    repeat (refine sl ?_)
    refine wl_gp rfl rfl rfl rfl (fun h => ?_) (fun h => ?_)
    · replace hm1 := sel_t h hm1
      repeat (refine sl ?_)
      obtain rfl := Option.some.inj hm1
      exact wk_cutw [(109, 109), (111, 111), (113, 113)] ⟨_, rfl, rfl⟩
    · replace hm1 := sel_f h hm1
      repeat (refine sl ?_)
      refine wl_gp rfl rfl rfl rfl (fun h => ?_) (fun h => ?_)
      · replace hm1 := sel_t h hm1
        repeat (refine sl ?_)
        obtain rfl := Option.some.inj hm1
        exact wk_cutw [(109, 109), (111, 111), (113, 113)] ⟨_, rfl, rfl⟩
      · replace hm1 := sel_f h hm1
        repeat (refine sl ?_)
        obtain rfl := Option.some.inj hm1
        exact wk_cutw [(109, 109), (111, 111), (113, 113)] ⟨_, rfl, rfl⟩
  rintro _ ⟨x10, rfl, rfl⟩
  repeat (refine sl ?_)
  refine wc_cond rfl (fun h => ?_) (fun h => ?_)
  · replace hm0 := sel_t h hm0
    refine wc_seq ?_
    refine wc_region ?_
    repeat (refine sl ?_)
    refine wc_ret ?_
    repeat (refine sl ?_)
    obtain rfl := Option.some.inj hm0
    exact wk_ret ⟨rfl, rfl⟩
  · replace hm0 := sel_f h hm0
    refine wc_skip ?_
    repeat (refine sl ?_)
    refine wc_seq ?_
    refine wc_region ?_
    repeat (refine sl ?_)
    refine wc_seq ?_
    refine wc_seq ?_
    refine wc_region ?_
    repeat (refine sl ?_)
    obtain ⟨mu1, hm1, hm0⟩ := obnd_o hm0
    refine wc_cut' (fun st => ∃ (up20 : List Kv) (down21 : List Kv), mu1 = (up20, down21) ∧ st = ⟨[(8, vI (i64w (1 + (i64w q6)))), (9, .p 109 0), (11, .p 111 0), (13, .p 113 0), (15, .d (lst Kv.ds up20)), (16, .d (lst Kv.ds down21))], [(109, some (.box 41 [.d (lst Kv.ds y7.1.Rows), vI y7.1.Fold.Count, vI y7.1.Fold.Numbers, vI y7.1.Fold.Sum, vI y7.1.Fold.Low, vI y7.1.Fold.High, vS y7.1.Fold.First, vS y7.1.Fold.Last])), (111, some (.box 41 [.d (lst Kv.ds y8.1.Rows), vI y8.1.Fold.Count, vI y8.1.Fold.Numbers, vI y8.1.Fold.Sum, vI y8.1.Fold.Low, vI y8.1.Fold.High, vS y8.1.Fold.First, vS y8.1.Fold.Last])), (113, some (.box 41 [.d (lst Kv.ds y9.1.Rows), vI y9.1.Fold.Count, vI y9.1.Fold.Numbers, vI y9.1.Fold.Sum, vI y9.1.Fold.Low, vI y9.1.Fold.High, vS y9.1.Fold.First, vS y9.1.Fold.Last]))]⟩) ?_ ?_
    · refine wc_block ?_
      refine wc_wk (wk_nil 15 5001 59 2 rfl rfl) ?_
      refine wc_wk (wk_nil 16 5002 59 2 rfl rfl) ?_
      refine wc_len 64 rfl (fun hlenm15 => ?_)
      refine wc_loopw (fun κ st => ∃ (m15 : Nat) (up11 : List Kv) (down12 : List Kv), κ = y4.1.length - m15 ∧ m15 ≤ y4.1.length ∧ Mlaw22_QueryNearest_l1 y5 q6 (y4.1.drop m15) up11 down12 = some mu1 ∧ st = ⟨[(7, vS y5.1), (8, vI (i64w (1 + (i64w q6)))), (9, .p 109 0), (11, .p 111 0), (13, .p 113 0), (15, .h 5001), (16, .h 5002), (64, .d (lst Kv.ds y4.1)), (65, vI (y4.1.length : Int)), (66, vI (m15 : Int))], [(109, some (.box 41 [.d (lst Kv.ds y7.1.Rows), vI y7.1.Fold.Count, vI y7.1.Fold.Numbers, vI y7.1.Fold.Sum, vI y7.1.Fold.Low, vI y7.1.Fold.High, vS y7.1.Fold.First, vS y7.1.Fold.Last])), (111, some (.box 41 [.d (lst Kv.ds y8.1.Rows), vI y8.1.Fold.Count, vI y8.1.Fold.Numbers, vI y8.1.Fold.Sum, vI y8.1.Fold.Low, vI y8.1.Fold.High, vS y8.1.Fold.First, vS y8.1.Fold.Last])), (113, some (.box 41 [.d (lst Kv.ds y9.1.Rows), vI y9.1.Fold.Count, vI y9.1.Fold.Numbers, vI y9.1.Fold.Sum, vI y9.1.Fold.Low, vI y9.1.Fold.High, vS y9.1.Fold.First, vS y9.1.Fold.Last])), (5001, some (arrT 59 2 Kv.ds up11)), (5002, some (arrT 59 2 Kv.ds down12))]⟩) [(109, 109), (111, 111), (113, 113), (5001, 5001), (5002, 5002)] ⟨0, _, _, rfl, Nat.zero_le _, hm1, rfl⟩ ?_
      rintro κ _ ⟨m15, up11, down12, rfl, hlem15, hm1, rfl⟩
      rcases Nat.lt_or_ge m15 y4.1.length with hltm15 | hgem15
      · obtain ⟨r13, hxm15, hdr⟩ := drop_c hltm15
        rw [hdr, Mlaw22_QueryNearest_l1.eq_2] at hm1
        refine wc_seq ?_
        refine wc_region ?_
        repeat (refine sl ?_)
        refine wc_seq ?_
        refine wc_cond_tt (lt_t hltm15) rfl ?_
        refine wc_skip ?_
        repeat (refine sl ?_)
        refine wc_seq ?_
        refine wc_block ?_
        refine wc_seq ?_
        refine wc_region ?_
        repeat (refine sl ?_)
        refine wl_r (o_ixm (ys := [dS r13.key, dS r13.val]) hxm15 rfl rfl rfl rfl) rfl rfl rfl ?_
        repeat (refine sl ?_)
        refine wc_seq ?_
        refine wc_seq ?_
        obtain ⟨mu2, hm2, hm1⟩ := obnd_o hm1
        refine wc_cut' (fun st => ∃ (x16 : Bool), x16 = mu2 ∧ st = ⟨[(7, vS y5.1), (8, vI (i64w (1 + (i64w q6)))), (9, .p 109 0), (11, .p 111 0), (13, .p 113 0), (15, .h 5001), (16, .h 5002), (18, .p 118 0), (64, .d (lst Kv.ds y4.1)), (65, vI (y4.1.length : Int)), (66, vI (m15 : Int)), (79, vB x16)], [(109, some (.box 41 [.d (lst Kv.ds y7.1.Rows), vI y7.1.Fold.Count, vI y7.1.Fold.Numbers, vI y7.1.Fold.Sum, vI y7.1.Fold.Low, vI y7.1.Fold.High, vS y7.1.Fold.First, vS y7.1.Fold.Last])), (111, some (.box 41 [.d (lst Kv.ds y8.1.Rows), vI y8.1.Fold.Count, vI y8.1.Fold.Numbers, vI y8.1.Fold.Sum, vI y8.1.Fold.Low, vI y8.1.Fold.High, vS y8.1.Fold.First, vS y8.1.Fold.Last])), (113, some (.box 41 [.d (lst Kv.ds y9.1.Rows), vI y9.1.Fold.Count, vI y9.1.Fold.Numbers, vI y9.1.Fold.Sum, vI y9.1.Fold.Low, vI y9.1.Fold.High, vS y9.1.Fold.First, vS y9.1.Fold.Last])), (118, some (.box 59 [vS r13.key, vS r13.val])), (5001, some (arrT 59 2 Kv.ds up11)), (5002, some (arrT 59 2 Kv.ds down12))]⟩) ?_ ?_
        · refine wc_region ?_
          repeat (refine sl ?_)
          refine wl_gp rfl rfl rfl rfl (fun h => ?_) (fun h => ?_)
          · replace hm2 := sel_t h hm2
            repeat (refine sl ?_)
            obtain rfl := Option.some.inj hm2
            exact wk_cutw [(109, 109), (111, 111), (113, 113), (118, 118), (5001, 5001), (5002, 5002)] ⟨_, rfl, rfl⟩
          · replace hm2 := sel_f h hm2
            repeat (refine sl ?_)
            obtain rfl := Option.some.inj hm2
            exact wk_cutw [(109, 109), (111, 111), (113, 113), (118, 118), (5001, 5001), (5002, 5002)] ⟨_, rfl, rfl⟩
        rintro _ ⟨x16, rfl, rfl⟩
        repeat (refine sl ?_)
        obtain ⟨mu2, hm2, hm1⟩ := obnd_o hm1
        refine wc_cut' (fun st => ∃ (up18 : List Kv), up18 = mu2 ∧ st = ⟨[(7, vS y5.1), (8, vI (i64w (1 + (i64w q6)))), (9, .p 109 0), (11, .p 111 0), (13, .p 113 0), (15, .h 5003), (16, .h 5002), (18, .p 118 0), (64, .d (lst Kv.ds y4.1)), (65, vI (y4.1.length : Int)), (66, vI (m15 : Int))], [(109, some (.box 41 [.d (lst Kv.ds y7.1.Rows), vI y7.1.Fold.Count, vI y7.1.Fold.Numbers, vI y7.1.Fold.Sum, vI y7.1.Fold.Low, vI y7.1.Fold.High, vS y7.1.Fold.First, vS y7.1.Fold.Last])), (111, some (.box 41 [.d (lst Kv.ds y8.1.Rows), vI y8.1.Fold.Count, vI y8.1.Fold.Numbers, vI y8.1.Fold.Sum, vI y8.1.Fold.Low, vI y8.1.Fold.High, vS y8.1.Fold.First, vS y8.1.Fold.Last])), (113, some (.box 41 [.d (lst Kv.ds y9.1.Rows), vI y9.1.Fold.Count, vI y9.1.Fold.Numbers, vI y9.1.Fold.Sum, vI y9.1.Fold.Low, vI y9.1.Fold.High, vS y9.1.Fold.First, vS y9.1.Fold.Last])), (118, some (.box 59 [vS r13.key, vS r13.val])), (5002, some (arrT 59 2 Kv.ds down12)), (5003, some (arrT 59 2 Kv.ds up18))]⟩) ?_ ?_
        · refine wc_cond rfl (fun h => ?_) (fun h => ?_)
          · replace hm2 := sel_t h hm2
            refine wc_region ?_
            repeat (refine sl ?_)
            refine wl_bt Kv.ds [r13] rfl rfl (by simp only [flatV, cellsV, List.cons_append, List.nil_append, List.append_nil]; exact rfl) rfl rfl rfl rfl rfl rfl ?_
            repeat (refine sl ?_)
            obtain ⟨l17, hy, hm2⟩ := obnd_o hm2
            refine wl_2 (n_app (k' := 183) hy rfl rfl rfl rfl rfl rfl rfl rfl) rfl rfl rfl rfl ?_
            repeat (refine sl ?_)
            obtain rfl := Option.some.inj hm2
            exact wk_cutw [(109, 109), (111, 111), (113, 113), (118, 118), (5002, 5002), (5003, 183)] ⟨_, rfl, rfl⟩
          · replace hm2 := sel_f h hm2
            refine wc_skip ?_
            repeat (refine sl ?_)
            obtain rfl := Option.some.inj hm2
            exact wk_cutw [(109, 109), (111, 111), (113, 113), (118, 118), (5002, 5002), (5003, 5001)] ⟨_, rfl, rfl⟩
        rintro _ ⟨up18, rfl, rfl⟩
        repeat (refine sl ?_)
        refine wc_seq ?_
        refine wc_region ?_
        repeat (refine sl ?_)
        refine wc_cond rfl (fun h => ?_) (fun h => ?_)
        · replace hm1 := sel_t h hm1
          refine wc_region ?_
          repeat (refine sl ?_)
          refine wl_bt Kv.ds [r13] rfl rfl (by simp only [flatV, cellsV, List.cons_append, List.nil_append, List.append_nil]; exact rfl) rfl rfl rfl rfl rfl rfl ?_
          repeat (refine sl ?_)
          obtain ⟨l19, hy, hm1⟩ := obnd_o hm1
          refine wl_2 (n_app (k' := 191) hy rfl rfl rfl rfl rfl rfl rfl rfl) rfl rfl rfl rfl ?_
          repeat (refine sl ?_)
          refine wc_region ?_
          repeat (refine sl ?_)
          refine wl_r (o_inc hltm15 hlenm15 rfl rfl rfl) rfl rfl rfl ?_
          repeat (refine sl ?_)
          exact wk_loopw [(109, 109), (111, 111), (113, 113), (5001, 5003), (5002, 191)] ⟨m15 + 1, _, _, rfl, hltm15, hm1, rfl⟩ (by omega)
        · replace hm1 := sel_f h hm1
          refine wc_skip ?_
          repeat (refine sl ?_)
          refine wc_region ?_
          repeat (refine sl ?_)
          refine wl_r (o_inc hltm15 hlenm15 rfl rfl rfl) rfl rfl rfl ?_
          repeat (refine sl ?_)
          exact wk_loopw [(109, 109), (111, 111), (113, 113), (5001, 5003), (5002, 5002)] ⟨m15 + 1, _, _, rfl, hltm15, hm1, rfl⟩ (by omega)
      · rw [drop_n hgem15, Mlaw22_QueryNearest_l1.eq_1] at hm1
        refine wc_seq ?_
        refine wc_region ?_
        repeat (refine sl ?_)
        refine wc_seq ?_
        refine wc_cond_ff (lt_f hgem15) rfl ?_
        refine wc_exit ?_
        repeat (refine sl ?_)
        obtain rfl := Option.some.inj hm1
        exact wk_cutw [(109, 109), (111, 111), (113, 113)] ⟨_, _, rfl, rfl⟩
    rintro _ ⟨up20, down21, rfl, rfl⟩
    repeat (refine sl ?_)
    refine wc_seq ?_
    refine wc_region ?_
    repeat (refine sl ?_)
    obtain ⟨l22, hy, hm0⟩ := obnd_o hm0
    refine wl_r (o_lsl hy rfl rfl rfl rfl) rfl rfl rfl ?_
    repeat (refine sl ?_)
    refine wc_seq ?_
    refine wc_region ?_
    repeat (refine sl ?_)
    obtain ⟨y23, hy, hm0⟩ := obnd_o hm0
    refine wl_cq (Mref20_Same_sp (hm := hy)) ?_
    repeat (refine sl ?_)
    refine wl_gp rfl rfl rfl rfl (fun h => ?_) (fun h => ?_)
    · replace hm0 := sel_t h hm0
      repeat (refine sl ?_)
      obtain ⟨y24, hy, hm0⟩ := obnd_o hm0
      refine wl_cq (Mref20_Same_sp (hm := hy)) ?_
      repeat (refine sl ?_)
      refine wl_gp rfl rfl rfl rfl (fun h => ?_) (fun h => ?_)
      · replace hm0 := sel_t h hm0
        repeat (refine sl ?_)
        refine wl_gp rfl rfl rfl rfl (fun h => ?_) (fun h => ?_)
        · replace hm0 := sel_t h hm0
          repeat (refine sl ?_)
          obtain ⟨l25, hy, hm0⟩ := obnd_o hm0
          refine wl_r (o_lsl hy rfl rfl rfl rfl) rfl rfl rfl ?_
          repeat (refine sl ?_)
          obtain ⟨y26, hy, hm0⟩ := obnd_o hm0
          refine wl_cq (Mref20_Same_sp (hm := hy)) ?_
          repeat (refine sl ?_)
          refine wl_gp rfl rfl rfl rfl (fun h => ?_) (fun h => ?_)
          · replace hm0 := sel_t h hm0
            repeat (refine sl ?_)
            obtain ⟨y27, hy, hm0⟩ := obnd_o hm0
            refine wl_cq (Mlaw22_awake_sp (hm := hy)) ?_
            repeat (refine sl ?_)
            refine wc_ret ?_
            repeat (refine sl ?_)
            obtain rfl := Option.some.inj hm0
            exact wk_ret ⟨rfl, rfl⟩
          · replace hm0 := sel_f h hm0
            repeat (refine sl ?_)
            refine wc_ret ?_
            repeat (refine sl ?_)
            obtain rfl := Option.some.inj hm0
            exact wk_ret ⟨rfl, rfl⟩
        · replace hm0 := sel_f h hm0
          repeat (refine sl ?_)
          refine wc_ret ?_
          repeat (refine sl ?_)
          obtain rfl := Option.some.inj hm0
          exact wk_ret ⟨rfl, rfl⟩
      · replace hm0 := sel_f h hm0
        repeat (refine sl ?_)
        refine wc_ret ?_
        repeat (refine sl ?_)
        obtain rfl := Option.some.inj hm0
        exact wk_ret ⟨rfl, rfl⟩
    · replace hm0 := sel_f h hm0
      repeat (refine sl ?_)
      refine wc_ret ?_
      repeat (refine sl ?_)
      obtain rfl := Option.some.inj hm0
      exact wk_ret ⟨rfl, rfl⟩

end Go.Proofs.YtjnnkpkbgdknmaaDoor
namespace Go.Proofs.YtjnnkpkbgdknmaaDoor
set_option linter.unusedSimpArgs false
set_option linter.unusedVariables false
open Go.RowKit
theorem i64w_id {a : Int} (h1 : -9223372036854775808 ≤ a) (h2 : a ≤ 9223372036854775807) : i64w a = a := w64 h1 h2
theorem i64w_rng (a : Int) : -9223372036854775808 ≤ i64w a ∧ i64w a ≤ 9223372036854775807 := by
  constructor
  · simp [i64w, IntKind.wrap, IntKind.bits, IntKind.signed]; split <;> omega
  · simp [i64w, IntKind.wrap, IntKind.bits, IntKind.signed]; split <;> omega
theorem i64w_i64w (a : Int) : i64w (i64w a) = i64w a := i64w_id (i64w_rng a).1 (i64w_rng a).2
theorem sel_true {α : Type} (x y : α) : sel true x y = x := rfl
theorem sel_false {α : Type} (x y : α) : sel false x y = y := rfl
theorem sel_and (a b : Bool) : sel a b false = (a && b) := by cases a <;> rfl
theorem sel_or (a b : Bool) : sel a true b = (a || b) := by cases a <;> rfl
theorem eq_keyspace_ValidKey (k : ByteArray) : Mkeyspace_ValidKey k = vk k := by simp [Mkeyspace_ValidKey, vk]; omega
theorem eq_keyspace_ValidBound (b : Bnd) : Mkeyspace_ValidBound b = vb b := by
  simp only [Mkeyspace_ValidBound, bnd_eq, eq_keyspace_ValidKey, vb, sel_and, sel_or]
  congr 2
  rcases b with ⟨⟨⟨l⟩⟩, t⟩
  cases l <;> simp [ByteArray.toList_eq]
theorem eq_keyspace_Compare (a b : Bnd) : Mkeyspace_Compare a b = cmp a b := by
  rcases a with ⟨a, s⟩
  rcases b with ⟨b, t⟩
  have hi := bytesLess_irrefl a.toList
  have hs : bl a b = true → bl b a = false := fun h => by
    cases h2 : bl b a with
    | false => rfl
    | true => have := bytesLess_trans h h2; rw [hi] at this; cases this
  simp only [Mkeyspace_Compare, bnd_eq, sel_ite, cmp, Bnd.lt]
  cases s <;> cases t <;> simp
  all_goals (split <;> simp_all)
theorem eq_keyspace_Valid (r : Rng) : Mkeyspace_Valid r = vld r := by
  simp only [Mkeyspace_Valid, bnd_eq, eq_keyspace_ValidBound, eq_keyspace_Compare, sel_and, vld, Bool.and_assoc]
theorem eq_keyspace_Empty (r : Rng) : Mkeyspace_Empty r = emp r := by
  simp only [Mkeyspace_Empty, bnd_eq, eq_keyspace_Valid, eq_keyspace_Compare, sel_or, emp]
  congr 1
theorem eq_keyspace_Contains (r : Rng) (k : ByteArray) : Mkeyspace_Contains r k = contains r k := by
  simp only [Mkeyspace_Contains, bnd_eq, eq_keyspace_Empty, eq_keyspace_ValidKey, eq_keyspace_Compare, sel_and, contains, Bool.and_assoc]
theorem eq_ref1_ValidKey (k : ByteArray) : Mref1_ValidKey k = vk k := by simp [Mref1_ValidKey, vk]; omega
theorem eq_ref1_ValidBound (b : Bnd) : Mref1_ValidBound b = vb b := by
  simp only [Mref1_ValidBound, bnd_eq, eq_ref1_ValidKey, vb, sel_and, sel_or]
  congr 2
  rcases b with ⟨⟨⟨l⟩⟩, t⟩
  cases l <;> simp [ByteArray.toList_eq]
theorem eq_ref1_Compare (a b : Bnd) : Mref1_Compare a b = cmp a b := by
  rcases a with ⟨a, s⟩
  rcases b with ⟨b, t⟩
  have hi := bytesLess_irrefl a.toList
  have hs : bl a b = true → bl b a = false := fun h => by
    cases h2 : bl b a with
    | false => rfl
    | true => have := bytesLess_trans h h2; rw [hi] at this; cases this
  simp only [Mref1_Compare, bnd_eq, sel_ite, cmp, Bnd.lt]
  cases s <;> cases t <;> simp
  all_goals (split <;> simp_all)
theorem eq_ref1_Valid (r : Rng) : Mref1_Valid r = vld r := by
  simp only [Mref1_Valid, bnd_eq, eq_ref1_ValidBound, eq_ref1_Compare, sel_and, vld, Bool.and_assoc]
theorem eq_ref1_Empty (r : Rng) : Mref1_Empty r = emp r := by
  simp only [Mref1_Empty, bnd_eq, eq_ref1_Valid, eq_ref1_Compare, sel_or, emp]
  congr 1
theorem eq_ref1_Contains (r : Rng) (k : ByteArray) : Mref1_Contains r k = contains r k := by
  simp only [Mref1_Contains, bnd_eq, eq_ref1_Empty, eq_ref1_ValidKey, eq_ref1_Compare, sel_and, contains, Bool.and_assoc]
theorem lget_nat {α : Type} (l : List α) (m : Nat) : lget l (m : Int) = l[m]? := by
  unfold lget; rw [if_pos (by omega)]; simp
theorem app_le {α : Type} {xs ys : List α} (h : xs.length + ys.length ≤ 4294967296) : app xs ys = some (xs ++ ys) := if_pos h
theorem lsl_le {α : Type} {xs : List α} {lo hi : Int} (h : 0 ≤ lo ∧ lo ≤ hi ∧ hi ≤ xs.length) : lsl xs lo hi = some ((xs.drop lo.toNat).take (hi.toNat - lo.toNat)) := if_pos h
theorem eq_table_Slice_l1 (r : Rng) : ∀ (t out : List Kv), t.length + out.length ≤ 4294967296 → Mtable_Slice_l1 r t out = some (out ++ t.filter fun x => contains r x.key)
  | [], out, _ => by simp [Mtable_Slice_l1]
  | x :: t, out, h => by
    simp only [List.length_cons] at h
    rw [Mtable_Slice_l1.eq_2, bnd_eq, sel_ite]
    have hk : (@contains r x.key) = true ∨ contains r x.key = false := by cases contains r x.key <;> simp
    first
      | rw [eq_ref1_Contains]
      | rw [eq_keyspace_Contains]
    rcases hk with hk | hk
    · rw [if_pos hk, app_le (by simp; omega), obnd_some, eq_table_Slice_l1 r t _ (by simp; omega), List.filter_cons, if_pos hk, List.append_assoc]; rfl
    · rw [if_neg (by simp [hk]), eq_table_Slice_l1 r t _ (by omega), List.filter_cons, if_neg (by simp [hk])]
theorem eq_table_Slice (r : Rng) (t : List Kv) (h : t.length ≤ 4294967296) : Mtable_Slice t r = some (t.filter fun x => contains r x.key) := by
  rw [Mtable_Slice, eq_table_Slice_l1 r t [] (by simpa using h), obnd_some]; rfl
theorem eq_ref20_Slice_l1 (r : Rng) : ∀ (t out : List Kv), t.length + out.length ≤ 4294967296 → Mref20_Slice_l1 r t out = some (out ++ t.filter fun x => contains r x.key)
  | [], out, _ => by simp [Mref20_Slice_l1]
  | x :: t, out, h => by
    simp only [List.length_cons] at h
    rw [Mref20_Slice_l1.eq_2, bnd_eq, sel_ite]
    have hk : (@contains r x.key) = true ∨ contains r x.key = false := by cases contains r x.key <;> simp
    first
      | rw [eq_ref1_Contains]
      | rw [eq_keyspace_Contains]
    rcases hk with hk | hk
    · rw [if_pos hk, app_le (by simp; omega), obnd_some, eq_ref20_Slice_l1 r t _ (by simp; omega), List.filter_cons, if_pos hk, List.append_assoc]; rfl
    · rw [if_neg (by simp [hk]), eq_ref20_Slice_l1 r t _ (by omega), List.filter_cons, if_neg (by simp [hk])]
theorem eq_ref20_Slice (r : Rng) (t : List Kv) (h : t.length ≤ 4294967296) : Mref20_Slice t r = some (t.filter fun x => contains r x.key) := by
  rw [Mref20_Slice, eq_ref20_Slice_l1 r t [] (by simpa using h), obnd_some]; rfl
def okT (τ : TTape) : Prop := τ.l.length ≤ 600 ∧ 0 ≤ τ.at_ ∧ τ.at_ ≤ τ.l.length
theorem new_ok (l : List Int) : ∃ τ, Mwld_New l = some τ ∧ okT τ := by
  unfold Mwld_New
  rw [sel_ite]
  split
  · rename_i h
    simp only [decide_eq_true_eq] at h
    rw [lsl_le (by omega), obnd_some]
    exact ⟨_, rfl, by simp [okT]; omega⟩
  · rename_i h
    simp only [decide_eq_true_eq] at h
    exact ⟨_, rfl, by simp [okT]; omega⟩
theorem irem_ne {a b : Int} (h : b ≠ 0) : irem a b = some (a.tmod b) := if_neg h
theorem mod_ok (v n : Int) (h1 : 1 ≤ n) (h2 : n ≤ 9223372036854775807) : ∃ x, Mwld_Mod v n = some x ∧ 0 ≤ x ∧ x < n := by
  have g1 := Int.lt_tmod_of_pos v (show 0 < n by omega)
  have g2 := Int.tmod_lt_of_pos v (show 0 < n by omega)
  unfold Mwld_Mod
  rw [irem_ne (by omega), obnd_some, sel_ite]
  split
  · rename_i h
    simp only [decide_eq_true_eq] at h
    exact ⟨_, rfl, by rw [i64w_id] <;> omega, by rw [i64w_id] <;> omega⟩
  · rename_i h
    simp only [decide_eq_true_eq] at h
    exact ⟨_, rfl, by omega, by omega⟩
def Cho (n r : Int) : Prop := 0 ≤ r ∧ (1 ≤ n → r < n) ∧ (n < 1 → r = 0)
theorem next_ok {τ : TTape} (h : okT τ) (n : Int) (h2 : n ≤ 9223372036854775807) : ∃ x τ', Mwld_Tape_Next τ n = some (x, τ') ∧ okT τ' ∧ Cho n x := by
  obtain ⟨g1, g2, g3⟩ := h
  unfold Mwld_Tape_Next
  simp only [sel_ite]
  by_cases a1 : n < 1
  · simp only [a1, decide_true, if_true, obnd_some]
    exact ⟨_, _, rfl, ⟨g1, g2, g3⟩, by unfold Cho; omega⟩
  by_cases a2 : (τ.l.length : Int) ≤ τ.at_
  · simp only [a1, a2, decide_true, decide_false, Bool.false_eq_true, if_false, if_true, obnd_some]
    exact ⟨_, _, rfl, ⟨g1, g2, g3⟩, by unfold Cho; omega⟩
  · simp only [a1, a2, decide_true, decide_false, Bool.false_eq_true, if_false, obnd_some]
    have e1 : i64w (τ.at_ + 1) = τ.at_ + 1 := i64w_id (by omega) (by omega)
    have e2 : i64w (τ.at_ + 1 - 1) = τ.at_ := by rw [i64w_id (by omega) (by omega)]; omega
    obtain ⟨m, hm⟩ := Int.eq_ofNat_of_zero_le g2
    rw [e1, e2, hm, lget_nat, List.getElem?_eq_getElem (by omega), obnd_some]
    obtain ⟨x, hx, h3, h4⟩ := mod_ok τ.l[m] n (by omega) h2
    rw [hx, obnd_some]
    exact ⟨_, _, rfl, ⟨g1, by simp only; omega, by simp only; omega⟩, by unfold Cho; omega⟩
theorem bool_ok {τ : TTape} (h : okT τ) (n : Int) (h2 : n ≤ 9223372036854775807) : ∃ b τ', Mwld_Tape_Bool τ n = some (b, τ') ∧ okT τ' := by
  obtain ⟨x, τ', e, h', -⟩ := next_ok h n h2
  exact ⟨_, _, by unfold Mwld_Tape_Bool; rw [e, obnd_some], h'⟩
theorem scat_le {s t : ByteArray} (h : s.size + t.size ≤ 9223372036854775807) : scat s t = some (s ++ t) := if_pos h
theorem long_l1_ok (s : ByteArray) (n : Int) (hs : s.size ≤ 100) (hn : n ≤ 1000) : ∀ (k fuel : Nat) (out : ByteArray) (i : Int), 0 ≤ i → n - i = k → k < fuel → (out.size : Int) ≤ 100 * i → ∃ r, Mwld_long_l1 s n fuel out i = some r ∧ r.size = out.size + k * s.size
  | _, 0, _, _, _, _, h, _ => absurd h (by omega)
  | 0, fuel + 1, out, i, h0, h1, _, h2 => by
    rw [Mwld_long_l1.eq_2, sel_ite, if_neg (by simp; omega)]
    exact ⟨out, rfl, by simp⟩
  | k + 1, fuel + 1, out, i, h0, h1, h3, h2 => by
    rw [Mwld_long_l1.eq_2, sel_ite, if_pos (by simp; omega), scat_le (by omega), obnd_some, i64w_id (by omega) (by omega)]
    obtain ⟨r, e, h4⟩ := long_l1_ok s n hs hn k fuel (out ++ s) (i + 1) (by omega) (by omega) (by omega) (by rw [ByteArray.size_append]; omega)
    exact ⟨r, e, by rw [h4, ByteArray.size_append, Nat.succ_mul]; omega⟩
theorem long_ok (s : ByteArray) (n : Nat) (hs : s.size ≤ 100) (hn : n ≤ 1000) : ∃ r, Mwld_long s n = some r ∧ r.size = n * s.size := by
  obtain ⟨r, e, h⟩ := long_l1_ok s n hs (by omega) n FU ⟨#[]⟩ 0 (by omega) (by omega) (by unfold FU; omega) (by decide)
  refine ⟨r, by unfold Mwld_long; rw [e, obnd_some], ?_⟩
  rw [h]
  have : (⟨#[]⟩ : ByteArray).size = 0 := rfl
  rw [this]; simp
theorem letg_ok {i : Int} (h : Cho 6 i) : ∃ s, letg i = some s ∧ s.size ≤ 1 := by
  unfold Cho at h
  unfold letg
  rw [if_pos ⟨h.1, h.2.1 (by omega)⟩]
  exact ⟨_, rfl, letter_le _⟩
theorem key_l1_ok : ∀ (fuel : Nat) (l : List Int) (a : Int) (out : ByteArray) (i : Int), okT ⟨l, a⟩ → i.toNat < fuel → i ≤ 3 → (out.size : Int) + max i 0 ≤ 3 → ∃ k l' a', Mwld_Tape_Key_l1 fuel l a out i = some (k, l', a') ∧ okT ⟨l', a'⟩ ∧ k.size ≤ 3
  | 0, _, _, _, _, _, h1, _, _ => absurd h1 (by omega)
  | fuel + 1, l, a, out, i, h, h1, h2, h3 => by
    rw [Mwld_Tape_Key_l1.eq_2, sel_ite]
    by_cases hi : 0 < i
    · simp only [hi, decide_true, if_true, obnd_some, ocbnd_nxt]
      obtain ⟨x, τ', e, h', hx⟩ := next_ok h 6 (by omega)
      rw [e, obnd_some]
      obtain ⟨s, es, hs⟩ := letg_ok hx
      simp only
      rw [es, obnd_some, scat_le (by omega), obnd_some, i64w_id (by omega) (by omega)]
      exact key_l1_ok fuel _ _ _ _ h' (by omega) (by omega) (by rw [ByteArray.size_append]; omega)
    · simp only [hi, decide_false, Bool.false_eq_true, if_false, obnd_some, ocbnd_ret]
      exact ⟨_, _, _, rfl, h, by omega⟩
theorem vk_le {k : ByteArray} (h : k.size ≤ 64) : vk k = true := by simpa [vk] using h
theorem key_ok {τ : TTape} (h : okT τ) : ∃ k τ', Mwld_Tape_Key τ = some (k, τ') ∧ okT τ' ∧ k.size ≤ 64 := by
  unfold Mwld_Tape_Key
  obtain ⟨x, τ1, e1, h1, hx⟩ := next_ok h 12 (by omega)
  rw [e1, obnd_some, sel_ite]
  simp only
  by_cases c1 : x = 10
  · rw [if_pos (by simpa using c1)]
    obtain ⟨y, τ2, e2, h2, hy⟩ := next_ok h1 6 (by omega)
    rw [e2, obnd_some]
    obtain ⟨s, es, hs⟩ := letg_ok hy
    obtain ⟨r, er, hr⟩ := long_ok s 64 (by omega) (by omega)
    simp only
    rw [es, obnd_some, show (64 : Int) = ((64 : Nat) : Int) from rfl, er, obnd_some]
    exact ⟨_, _, rfl, h2, by rw [hr]; omega⟩
  · rw [if_neg (by simpa using c1), sel_ite]
    by_cases c2 : x = 11
    · rw [if_pos (by simpa using c2)]
      exact ⟨_, _, rfl, h1, by decide⟩
    · rw [if_neg (by simpa using c2)]
      obtain ⟨y, τ2, e2, h2, hy⟩ := next_ok h1 3 (by omega)
      unfold Cho at hy
      rw [e2, obnd_some]
      simp only
      rw [i64w_id (by omega) (by omega)]
      have hz : (⟨#[]⟩ : ByteArray).size = 0 := rfl
      obtain ⟨k, l', a', e, h3, hk⟩ := key_l1_ok FU τ2.l τ2.at_ ⟨#[]⟩ (1 + y) h2 (by unfold FU; omega) (by omega) (by rw [hz]; omega)
      rw [e, obnd_some]
      exact ⟨_, _, rfl, h3, by simp only; omega⟩
theorem oddKey_ok {τ : TTape} (h : okT τ) : ∃ k τ', Mwld_Tape_OddKey τ = some (k, τ') ∧ okT τ' ∧ k.size ≤ 65 := by
  unfold Mwld_Tape_OddKey
  obtain ⟨b, τ1, e1, h1⟩ := bool_ok h 10 (by omega)
  rw [e1, obnd_some, sel_ite]
  simp only
  split
  · obtain ⟨y, τ2, e2, h2, hy⟩ := next_ok h1 6 (by omega)
    rw [e2, obnd_some]
    obtain ⟨s, es, hs⟩ := letg_ok hy
    obtain ⟨r, er, hr⟩ := long_ok s 65 (by omega) (by omega)
    simp only
    rw [es, obnd_some, show (65 : Int) = ((65 : Nat) : Int) from rfl, er, obnd_some]
    exact ⟨_, _, rfl, h2, by rw [hr]; omega⟩
  · obtain ⟨k, τ2, e2, h2, hk⟩ := key_ok h1
    rw [e2, obnd_some]
    exact ⟨_, _, rfl, h2, by simp only; omega⟩
theorem bound_ok {τ : TTape} (h : okT τ) : ∃ b τ', Mwld_Tape_Bound τ = some (b, τ') ∧ okT τ' ∧ b.key.size ≤ 65 := by
  unfold Mwld_Tape_Bound
  obtain ⟨x, τ1, e1, h1, hx⟩ := next_ok h 9 (by omega)
  rw [e1, obnd_some, sel_ite]
  simp only
  split
  · exact ⟨_, _, rfl, h1, by decide⟩
  · rw [sel_ite]
    split
    · obtain ⟨k, τ2, e2, h2, hk⟩ := oddKey_ok h1
      obtain ⟨b, τ3, e3, h3⟩ := bool_ok h2 3 (by omega)
      rw [e2, obnd_some]; simp only; rw [e3, obnd_some]
      exact ⟨_, _, rfl, h3, hk⟩
    · obtain ⟨k, τ2, e2, h2, hk⟩ := key_ok h1
      rw [e2, obnd_some]
      exact ⟨_, _, rfl, h2, by simp only; omega⟩
theorem range_ok {τ : TTape} (h : okT τ) : ∃ r τ', Mwld_Tape_Range τ = some (r, τ') ∧ okT τ' ∧ r.lo.key.size ≤ 65 ∧ r.hi.key.size ≤ 65 := by
  unfold Mwld_Tape_Range
  obtain ⟨a, τ1, e1, h1, ha⟩ := bound_ok h
  obtain ⟨b, τ2, e2, h2, hb⟩ := bound_ok h1
  obtain ⟨c, τ3, e3, h3⟩ := bool_ok h2 6 (by omega)
  rw [e1, obnd_some]; simp only; rw [e2, obnd_some]; simp only; rw [e3, obnd_some]
  simp only [sel_ite]
  repeat' split
  all_goals first | exact ⟨_, _, rfl, h3, ha, hb⟩ | exact ⟨_, _, rfl, h3, hb, ha⟩
theorem proper_ok {τ : TTape} (h : okT τ) : ∃ r τ', Mwld_Tape_Proper τ = some (r, τ') ∧ okT τ' ∧ emp r = false := by
  unfold Mwld_Tape_Proper
  obtain ⟨r, τ1, e1, h1, -⟩ := range_ok h
  rw [e1, obnd_some, bnd_eq, eq_ref1_Empty, sel_ite]
  split
  · exact ⟨_, _, rfl, h1, by kernel_rfl⟩
  · rename_i hne
    exact ⟨_, _, rfl, h1, by simpa using hne⟩
theorem value_ok {τ : TTape} (h : okT τ) : ∃ v τ', Mwld_Tape_Value τ = some (v, τ') ∧ okT τ' ∧ v.size ≤ 64 := by
  unfold Mwld_Tape_Value
  obtain ⟨x, τ1, e1, h1, hx⟩ := next_ok h 9 (by omega)
  rw [e1, obnd_some, sel_ite]
  simp only
  split
  · exact ⟨_, _, rfl, h1, by decide⟩
  rw [sel_ite]
  split
  · obtain ⟨r, er, hr⟩ := long_ok ⟨#[57]⟩ 64 (by decide) (by omega)
    rw [show (64 : Int) = ((64 : Nat) : Int) from rfl, er, obnd_some]
    exact ⟨_, _, rfl, h1, by rw [hr]; decide⟩
  rw [sel_ite]
  split
  · exact ⟨_, _, rfl, h1, by decide⟩
  · obtain ⟨y, τ2, e2, h2, hy⟩ := next_ok h1 6 (by omega)
    unfold Cho at hy
    rw [e2, obnd_some]
    simp only
    obtain ⟨m, rfl⟩ := Int.eq_ofNat_of_zero_le hy.1
    rw [lget_nat]
    have hm : m = 0 ∨ m = 1 ∨ m = 2 ∨ m = 3 ∨ m = 4 ∨ m = 5 := by omega
    rcases hm with rfl | rfl | rfl | rfl | rfl | rfl <;> exact ⟨_, _, rfl, h2, by decide⟩
end Go.Proofs.YtjnnkpkbgdknmaaDoor
namespace Go.Proofs.YtjnnkpkbgdknmaaDoor
set_option linter.unusedSimpArgs false
set_option linter.unusedVariables false
open Go.RowKit
attribute [local irreducible] tpb
def ins (x : Kv) : List Kv → List Kv
  | [] => [x]
  | r :: t => if bl x.key r.key then x :: r :: t else r :: ins x t
def wthout (k : ByteArray) (l : List Kv) : List Kv := l.filter fun r => !decide (r.key = k)
def wth (x : Kv) (l : List Kv) : List Kv := ins x (wthout x.key l)
theorem ins_len (x : Kv) (l : List Kv) : (ins x l).length = l.length + 1 := by
  induction l with
  | nil => rfl
  | cons r t ih => simp only [ins]; split <;> simp [ih]
theorem wth_len (x : Kv) (l : List Kv) : (wth x l).length ≤ l.length + 1 := by
  rw [wth, ins_len]; have := List.length_filter_le (fun r : Kv => !decide (r.key = x.key)) l; unfold wthout; omega
attribute [local irreducible] WK WC WL Wk Rel OpD OpV WD WO Op.bytesLess cmp vk vb vld emp contains
def put (x : Kv) (l : List Kv) : List Kv × Int := if tvalid l && vrow x then (if 1024 < (wth x l).length then ([], 16) else (wth x l, 0)) else ([], 1)
theorem tvalid_one (x : Kv) : tvalid [x] = vrow x := by
  simp [tvalid, okAt, List.range_succ]
theorem tvalid_iff (l : List Kv) : tvalid l = true ↔ l.length ≤ 1024 ∧ (∀ r ∈ l, vrow r = true) ∧ l.Pairwise (fun a b => bl a.key b.key = true) := by
  constructor
  · intro h
    simp only [tvalid, Bool.and_eq_true, decide_eq_true_eq, List.all_eq_true, List.mem_range] at h
    obtain ⟨h0, h⟩ := h
    have h' : ∀ m (hm : m < l.length), vrow l[m] = true ∧ (m = 0 ∨ bl (l[m - 1]'(by omega)).key l[m].key = true) := fun m hm => by
      have := h m hm
      rw [okAt_eq hm] at this
      simpa using this
    refine ⟨h0, fun r hr => ?_, ?_⟩
    · obtain ⟨m, hm, rfl⟩ := List.mem_iff_getElem.1 hr
      exact (h' m hm).1
    · rw [List.pairwise_iff_getElem]
      intro i j hi hj hij
      obtain ⟨d, rfl⟩ := Nat.exists_eq_add_of_lt hij
      induction d with
      | zero => simpa using (h' (i + 0 + 1) hj).2
      | succ d ih =>
        have h1 := ih (by omega) (by omega)
        have h2 := (h' (i + (d + 1) + 1) hj).2
        simp only [Nat.add_eq_zero_iff, Nat.one_ne_zero, and_false, false_or, Nat.add_sub_cancel] at h2
        exact bytesLess_trans h1 h2
  · rintro ⟨h0, h1, h2⟩
    refine tvalid_t h0 fun j hj => ?_
    rw [okAt_eq hj, h1 _ (List.getElem_mem _)]
    rw [List.pairwise_iff_getElem] at h2
    by_cases e : j = 0
    · simp [e]
    · simp [h2 (j - 1) j (by omega) hj (by omega)]
theorem ins_mem {x r : Kv} {l : List Kv} : r ∈ ins x l ↔ r = x ∨ r ∈ l := by
  induction l with
  | nil => simp [ins]
  | cons a t ih => simp only [ins]; split <;> simp [ih]; grind
theorem ins_pw {x : Kv} {l : List Kv} (h : l.Pairwise (fun a b => bl a.key b.key = true)) (hx : ∀ r ∈ l, r.key ≠ x.key) : (ins x l).Pairwise (fun a b => bl a.key b.key = true) := by
  induction l with
  | nil => simp [ins]
  | cons a t ih =>
    rw [List.pairwise_cons] at h
    simp only [ins]
    split
    · rename_i hb
      rw [List.pairwise_cons]
      refine ⟨fun b hb' => ?_, List.pairwise_cons.2 h⟩
      rcases List.mem_cons.1 hb' with rfl | hb'
      · exact hb
      · exact bytesLess_trans hb (h.1 b hb')
    · rename_i hb
      rw [List.pairwise_cons]
      refine ⟨fun b hb' => ?_, ih h.2 fun r hr => hx r (List.mem_cons_of_mem _ hr)⟩
      rcases ins_mem.1 hb' with rfl | hb'
      · cases hba : bl a.key b.key with
        | true => rfl
        | false => 
          have := bytesLess_total (by simpa using hb) hba
          have h3 := hx a List.mem_cons_self
          exfalso; apply h3
          have h4 := ba_eqE b.key a.key
          simp only [this, BEq.rfl] at h4
          exact (of_decide_eq_true h4.symm).symm
      · exact h.1 b hb'
theorem put_valid {x : Kv} {l : List Kv} (h : tvalid l = true) (hx : vrow x = true) (hl : l.length < 1024) : put x l = (wth x l, 0) ∧ tvalid (wth x l) = true ∧ (wth x l).length ≤ l.length + 1 := by
  have h1 := wth_len x l
  refine ⟨by simp only [put, h, hx, Bool.and_self, if_true]; rw [if_neg (by omega)], ?_, h1⟩
  rw [tvalid_iff] at h ⊢
  obtain ⟨g0, g1, g2⟩ := h
  refine ⟨by omega, fun r hr => ?_, ins_pw (List.Pairwise.filter _ g2) fun r hr => by simpa using (List.mem_filter.1 hr).2⟩
  rcases ins_mem.1 hr with rfl | hr
  · exact hx
  · exact g1 r (List.mem_filter.1 hr).1
theorem contains_lo {r : Rng} (h : emp r = false) : contains r r.lo.key = true := by
  obtain ⟨⟨a, s⟩, ⟨b, t⟩⟩ := r
  have hi := bytesLess_irrefl a.toList
  simp only [emp, contains, vld, vb, vk, cmp, Bnd.lt] at *
  cases s <;> cases t <;> simp_all <;> grind
end Go.Proofs.YtjnnkpkbgdknmaaDoor
