/-
  Lemmas: Models and walks
-/
import Derived.Test.YtohpjdeohpamaaaGreatPA21
import Derived.Test.YtohpjdeohpamaaaGreatPA24
set_option linter.unusedSimpArgs false
set_option linter.unusedVariables false
namespace Go.Proofs.YtohpjdeohpamaaaGreat
open Go.RowKit
set_option maxRecDepth 100000
set_option maxHeartbeats 4000000
attribute [local irreducible] WK WC WL Wk Rel OpD OpV WD WO sel bnd obnd app lget lsl sget ssl scat letg iquo irem Op.bytesLess
attribute [local irreducible] qchk qranges union mlk mset mput ment cpy
def Msort_Search_l1 (f2 : Int → Option Bool) : Nat → Int → Int → Option Int
  | 0, _, _ => none
  | fuel + 1, i3, j4 =>
  obnd (
   sel (decide (i3 < j4)) (
    some (Ctl.nxt ())) (
    some (Ctl.ret i3)) : Option (Ctl Int Unit)) fun mu => ocbnd mu fun (_ : Unit) =>
  obnd (f2 (i64w (shrI .u64 (IntKind.u64.wrap (i64w (i3 + j4))) 1))) fun y5 =>
  sel (!y5) (
   Msort_Search_l1 f2 fuel (i64w ((i64w (shrI .u64 (IntKind.u64.wrap (i64w (i3 + j4))) 1)) + 1)) j4) (
   Msort_Search_l1 f2 fuel i3 (i64w (shrI .u64 (IntKind.u64.wrap (i64w (i3 + j4))) 1)))
def Msort_Search (n1 : Int) (f2 : Int → Option Bool) : Option Int :=
 obnd (
  Msort_Search_l1 f2 FU 0 n1 : Option Int) fun i6 =>
 some i6
theorem Msort_Search_sp {n1 : Int} {f2 : Int → Option Bool} {f2c : FuncId} {f2q : List (List D)} (hf2 : ∀ {x0 : Int} {y : Bool}, f2 x0 = some y → Spec Tryz.prog f2c ([vI x0] ++ f2q.map V.q) [] fun u h => u = vB y ∧ h = []) {y : Int} (hm : Msort_Search n1 f2 = some y) : Spec Tryz.prog 49 [vI n1, .d (.fn f2c f2q)] [] fun u h => u = vI y ∧ h = [] := by
 refine si Tryz.func49 Tryz.ntmps49 Tryz.results49 fun B w0 ρ0 => ?_
 unfold Msort_Search at hm
 refine sr ?_
 refine sr ?_
 refine wc_seq ?_
 obtain ⟨mu1, hm1, hm⟩ := obnd_o hm
 refine wc_cut' (fun st => ∃ (i6 : Int), i6 = mu1 ∧ st = ⟨[(5, vI i6)], []⟩) ?_ ?_
 ·refine wc_block ?_
  refine wc_loopw (fun κ st => ∃ (i3 : Int) (j4 : Int), Msort_Search_l1 f2 κ i3 j4 = some mu1 ∧ st = ⟨[(1, .d (.fn f2c f2q)), (5, vI i3), (6, vI j4)], []⟩) [] ⟨_, _, hm1, rfl⟩ ?_
  rintro κ _ ⟨i3, j4, hm1, rfl⟩
  cases κ with
  | zero => rw [Msort_Search_l1.eq_1] at hm1; cases hm1
  | succ κ =>
   rw [Msort_Search_l1.eq_2] at hm1
   refine sr ?_
   obtain ⟨mu2, hm2, hm1⟩ := obnd_o hm1
   refine wc_cut' (fun st => mu2 = Ctl.nxt () ∧ st = ⟨[(1, .d (.fn f2c f2q)), (5, vI i3), (6, vI j4)], []⟩) ?_ ?_
   ·refine wc_cs hm2 ?_ ?_ <;> clear hm2 <;> intro hm2
    ·refine sx ?_
     cases hm2
     exact wk_cutw [] ⟨rfl, rfl⟩
    refine wc_exit ?_
    refine ss ?_
    cases hm2
    replace hm1 := ocbnd_r hm1
    cases hm1
    exact wk_cutw [] ⟨_, rfl, rfl⟩
   rintro _ ⟨rfl, rfl⟩
   replace hm1 := ocbnd_n hm1
   refine sr ?_
   refine wl_r (o_add rfl rfl rfl rfl) rfl rfl rfl ?_
   refine ss ?_
   refine wl_r (o_cvi (k1 := .i64) (k2 := .u64) rfl rfl (by kernel_rfl) (by kernel_rfl) rfl) rfl rfl rfl ?_
   refine ss ?_
   refine wl_r (o_shr (by decide) rfl rfl rfl) rfl rfl rfl ?_
   refine ss ?_
   refine wl_r (o_cvi (k1 := .u64) (k2 := .i64) rfl rfl (by kernel_rfl) (by kernel_rfl) rfl) rfl rfl rfl ?_
   refine sr ?_
   obtain ⟨y5, hy, hm1⟩ := obnd_o hm1
   refine wl_cf (hf2 hy) ?_
   refine ss ?_
   refine wc_cs hm1 ?_ ?_ <;> clear hm1 <;> intro hm1
   ·refine sr ?_
    refine wl_r (o_add rfl rfl rfl rfl) rfl rfl rfl ?_
    refine ss ?_
    exact wk_loopw [] ⟨_, _, hm1, rfl⟩ (Nat.lt_succ_self _)
   refine sr ?_
   exact wk_loopw [] ⟨_, _, hm1, rfl⟩ (Nat.lt_succ_self _)
 rintro _ ⟨i6, rfl, rfl⟩
 refine sr ?_
 refine sx ?_
 cases hm
 exact wk_r

def Mtable_place_1 (i1 : Int) (c2 : List Kv) (c3 : Bnd) : Option Bool :=
 obnd (lget c2 i1) fun e4 =>
 bnd (Mkeyspace_Compare (Bnd.mk e4.key false) c3) fun y5 =>
 some (decide (0 ≤ y5))
theorem Mtable_place_1_sp {i1 : Int} {c2 : List Kv} {c3 : Bnd} {y : Bool} (hm : Mtable_place_1 i1 c2 c3 = some y) : Spec Tryz.prog 50 [vI i1, .q [lst Kv.ds c2], .q [dS c3.key, dB c3.top]] [] fun u h => u = vB y ∧ h = [] := by
 refine si Tryz.func50 Tryz.ntmps50 Tryz.results50 fun B w0 ρ0 => ?_
 unfold Mtable_place_1 at hm
 refine sr ?_
 refine wc_seq ?_
 refine wc_draw (id := 1) [⟨0, 0, [1]⟩, ⟨1, 0, [0]⟩, ⟨2, 3, [5, 6]⟩, ⟨3, 7, [7]⟩, ⟨4, 15, [8]⟩, ⟨5, 31, [9]⟩, ⟨6, 0, [2]⟩, ⟨7, 127, [10, 11]⟩, ⟨8, 255, [12]⟩, ⟨9, 511, [13]⟩] mixed (by kernel_rfl) ?_
 refine ss ?_
 obtain ⟨e4, hy, hm⟩ := obnd_o hm
 refine wd_r [] (o_ixg (ys := [dS e4.key, dS e4.val]) hy rfl rfl rfl rfl) rfl (by first | exact .no rfl | exact .y rfl rfl rfl rfl) rfl rfl ?_
 refine ss ?_
 obtain ⟨y5, hy, hm⟩ := bnd_o hm
 refine wd_cs (Mkeyspace_Compare_sp (hm := hy)) rfl rfl rfl (by repeat (first | exact Vws.nil | apply Vws.cons | exact Vw.nil | exact Vw.d _ | exact Vw.q _ | apply Vw.a)) rfl rfl (by first | exact .no rfl | exact .y rfl rfl rfl rfl) rfl rfl rfl ?_
 refine sx ?_
 cases hm
 exact wk_r
def Mtable_place (t1 : List Kv) (b2 : Bnd) : Option Int :=
 obnd (Msort_Search (t1.length : Int) (fun x0 => Mtable_place_1 x0 t1 b2)) fun y3 =>
 some y3
theorem Mtable_place_sp {t1 : List Kv} {b2 : Bnd} {y : Int} (hm : Mtable_place t1 b2 = some y) : Spec Tryz.prog 32 [.d (lst Kv.ds t1), .a [vS b2.key, vB b2.top]] [] fun u h => u = vI y ∧ h = [] := by
 refine si Tryz.func32 Tryz.ntmps32 Tryz.results32 fun B w0 ρ0 => ?_
 unfold Mtable_place at hm
 refine sr ?_
 refine sr ?_
 refine wl_wkw [] ⟨[(2, .q [lst Kv.ds t1]), (3, .q [dS b2.key, dB b2.top]), (4, vI 0), (6, vI (t1.length : Int))], []⟩ ?_
 refine ss ?_
 refine wl_r (o_mkfn rfl rfl) rfl rfl rfl ?_
 refine ss ?_
 obtain ⟨y3, hy, hm⟩ := obnd_o hm
 refine wl_cq (Msort_Search_sp (f2c := 50) (f2q := [[lst Kv.ds t1], [dS b2.key, dB b2.top]]) (hf2 := fun h => Mtable_place_1_sp (hm := h)) (hm := hy)) ?_
 refine sx ?_
 cases hm
 exact wk_r

def Mtable_ValidWrite (w1 : TWrite) : Bool :=
 bnd (Mkeyspace_ValidKey w1.Key) fun y2 =>
 sel y2 (
  sel (decide ((w1.Value.size : Int) ≤ 64)) (
   sel (!w1.Delete) (
    true) (
    decide (w1.Value = ⟨#[]⟩))) (
   false)) (
  false)
theorem Mtable_ValidWrite_sp {w1 : TWrite} {y : Bool} (hm : Mtable_ValidWrite w1 = y) : Spec Tryz.prog 31 [.a [vS w1.Key, vS w1.Value, vB w1.Delete]] [] fun u h => u = vB y ∧ h = [] := by
 refine si Tryz.func31 Tryz.ntmps31 Tryz.results31 fun B w0 ρ0 => ?_
 unfold Mtable_ValidWrite at hm
 refine sr ?_
 refine sr ?_
 obtain ⟨y2, hy, hm⟩ := bnd_o hm
 refine wl_cq (Mkeyspace_ValidKey_sp (hm := hy)) ?_
 refine ss ?_
 refine wl_sg hm ?_ ?_ <;> clear hm <;> intro hm
 ·refine ss ?_
  refine wl_sg hm ?_ ?_ <;> clear hm <;> intro hm
  ·refine ss ?_
   refine wl_sg hm ?_ ?_ <;> clear hm <;> intro hm
   ·refine sx ?_
    subst hm
    exact wk_r
   refine sx ?_
   subst hm
   exact wk_r
  refine sx ?_
  subst hm
  exact wk_r
 refine sx ?_
 subst hm
 exact wk_r

def Mtable_Get_l1 (key2 : ByteArray) : List Kv → Ctl (ByteArray × Bool) Unit
  | [] =>
  Ctl.nxt ()
  | r3 :: xs4 =>
  sel (decide (r3.key = key2)) (
   Ctl.ret (r3.val, true)) (
   Mtable_Get_l1 key2 xs4)
def Mtable_Get (t1 : List Kv) (key2 : ByteArray) : (ByteArray × Bool) :=
 bnd (
  Mtable_Get_l1 key2 t1 : Ctl (ByteArray × Bool) Unit) fun mu => cbnd mu fun (_ : Unit) =>
 (⟨#[]⟩, false)
theorem Mtable_Get_sp {t1 : List Kv} {key2 : ByteArray} {y : (ByteArray × Bool)} (hm : Mtable_Get t1 key2 = y) : Spec Tryz.prog 19 [.d (lst Kv.ds t1), vS key2] [] fun u h => u = .t [vS y.1, vB y.2] ∧ h = [] := by
 refine si Tryz.func19 Tryz.ntmps19 Tryz.results19 fun B w0 ρ0 => ?_
 unfold Mtable_Get at hm
 refine sr ?_
 refine sr ?_
 obtain ⟨mu1, hm1, hm⟩ := bnd_o hm
 refine wc_cut' (fun st => mu1 = Ctl.nxt () ∧ st = ⟨[], []⟩) ?_ ?_
 ·refine wc_block ?_
  refine wc_len 8 rfl (fun hlenm5 => ?_)
  refine wc_loopw (fun κ st => ∃ (m5 : Nat) , κ = t1.length - m5 ∧ m5 ≤ t1.length ∧ Mtable_Get_l1 key2 (t1.drop m5) = mu1 ∧ st = ⟨[(1, vS key2), (8, .d (lst Kv.ds t1)), (9, vI (t1.length : Int)), (10, vI (m5 : Int))], []⟩) [] ⟨0, rfl, Nat.zero_le _, hm1, rfl⟩ ?_
  rintro κ _ ⟨m5, rfl, hlem5, hm1, rfl⟩
  rcases Nat.lt_or_ge m5 t1.length with hltm5 | hgem5
  ·obtain ⟨r3, hxm5, hdr⟩ := drop_c hltm5
   rw [hdr, Mtable_Get_l1.eq_2] at hm1
   refine sr ?_
   refine wc_seq ?_
   refine wc_cond_tt (lt_t hltm5) rfl ?_
   refine sx ?_
   refine sr ?_
   refine wl_r (o_ixm (ys := [dS r3.key, dS r3.val]) hxm5 rfl rfl rfl rfl) rfl rfl rfl ?_
   refine sr ?_
   refine wc_cs hm1 ?_ ?_ <;> clear hm1 <;> intro hm1
   ·refine sr ?_
    refine sx ?_
    subst hm1
    replace hm := cbnd_r hm
    subst hm
    exact wk_r
   refine sx ?_
   refine sr ?_
   refine wl_r (o_inc hltm5 hlenm5 rfl rfl rfl) rfl rfl rfl ?_
   refine ss ?_
   exact wk_loopw [] ⟨m5 + 1, rfl, hltm5, hm1, rfl⟩ (by omega)
  ·rw [drop_n hgem5, Mtable_Get_l1.eq_1] at hm1
   refine sr ?_
   refine wc_seq ?_
   refine wc_cond_ff (lt_f hgem5) rfl ?_
   refine wc_exit ?_
   refine ss ?_
   subst hm1
   exact wk_cutw [] ⟨rfl, rfl⟩
 rintro _ ⟨rfl, rfl⟩
 replace hm := cbnd_n hm
 refine sr ?_
 refine sx ?_
 subst hm
 exact wk_r

def Mtable_Apply_l1 : List TWrite → List Kv → Option (Ctl (List Kv × Int) (List Kv))
  | [], out5 =>
  some (Ctl.nxt out5)
  | r6 :: xs7, out5 =>
  bnd (Mtable_ValidWrite r6) fun y9 =>
  sel (!y9) (
   some (Ctl.ret ([], 1))) (
   obnd (Mtable_place out5 (Bnd.mk r6.Key false)) fun y10 =>
   obnd (
    sel (decide (y10 < (out5.length : Int))) (
     obnd (lget out5 y10) fun e11 =>
     some (decide (e11.key = r6.Key))) (
     some false) : Option Bool) fun found12 =>
   obnd (
    sel r6.Delete (
     some found12) (
     some false) : Option Bool) fun x13 =>
   sel x13 (
    obnd (lsl out5 0 y10) fun l14 =>
    obnd (lsl out5 (i64w (y10 + 1)) (out5.length : Int)) fun l15 =>
    obnd (apd out5 l14 l15) fun l16 =>
    Mtable_Apply_l1 xs7 l16) (
    sel r6.Delete (
     Mtable_Apply_l1 xs7 out5) (
     sel found12 (
      obnd (lget out5 y10) fun e17 =>
      bnd ((Kv.mk e17.key r6.Value)) fun e19 =>
      bnd (out5.set (Int.toNat y10) e19) fun l18 =>
      Mtable_Apply_l1 xs7 l18) (
      sel (decide ((out5.length : Int) = 1024)) (
       some (Ctl.ret ([], 16))) (
       obnd (app out5 ([(Kv.mk ⟨#[]⟩ ⟨#[]⟩)] : List Kv)) fun l20 =>
       obnd (lsl l20 (i64w (y10 + 1)) (l20.length : Int)) fun l21 =>
       obnd (lsl l20 y10 (l20.length : Int)) fun l22 =>
       bnd (cpy l20 (Int.toNat (i64w (y10 + 1))) (Int.toNat y10) (min l22.length l21.length)) fun l23 =>
       obnd (lget l23 y10) fun e24 =>
       bnd ((Kv.mk r6.Key r6.Value)) fun e26 =>
       bnd (l23.set (Int.toNat y10) e26) fun l25 =>
       Mtable_Apply_l1 xs7 l25)))))
def Mtable_Apply (t1 : List Kv) (l2 : List TWrite) : Option (List Kv × Int) :=
 obnd (Mtable_Valid t1) fun y3 =>
 sel (!y3) (
  some ([], 1)) (
  obnd (app ([] : List Kv) t1) fun l4 =>
  obnd (
   Mtable_Apply_l1 l2 l4 : Option (Ctl (List Kv × Int) (List Kv))) fun mu => ocbnd mu fun out27 =>
  some (out27, 0))
theorem Mtable_Apply_sp {t1 : List Kv} {l2 : List TWrite} {y : (List Kv × Int)} (hm : Mtable_Apply t1 l2 = some y) : Spec Tryz.prog 18 [.d (lst Kv.ds t1), .d (lst TWrite.ds l2)] [] fun u h => u = .t [.d (lst Kv.ds y.1), vI y.2] ∧ h = [] := by
 refine si Tryz.func18 Tryz.ntmps18 Tryz.results18 fun B w0 ρ0 => ?_
 unfold Mtable_Apply at hm
 refine sr ?_
 refine sr ?_
 obtain ⟨y3, hy, hm⟩ := obnd_o hm
 refine wl_cq (Mtable_Valid_sp (hm := hy)) ?_
 refine ss ?_
 refine wc_cs hm ?_ ?_ <;> clear hm <;> intro hm
 ·refine sr ?_
  refine sx ?_
  cases hm
  exact wk_r
 refine sx ?_
 refine sr ?_
 obtain ⟨l4, hy, hm⟩ := obnd_o hm
 refine wl_1 (n_appn (k := 115) hy rfl rfl rfl rfl rfl rfl) rfl rfl rfl rfl ?_
 refine sr ?_
 obtain ⟨mu1, hm1, hm⟩ := obnd_o hm
 refine wc_cut' (fun st => ∃ (out27 : List Kv), mu1 = Ctl.nxt out27 ∧ st = ⟨[(6, .d (lst Kv.ds out27))], []⟩) ?_ ?_
 ·refine wc_block ?_
  refine wc_len 16 rfl (fun hlenm8 => ?_)
  refine wc_loopw (fun κ st => ∃ (m8 : Nat) (out5 : List Kv), κ = l2.length - m8 ∧ m8 ≤ l2.length ∧ Mtable_Apply_l1 (l2.drop m8) out5 = some mu1 ∧ st = ⟨[(6, .h 5001), (16, .d (lst TWrite.ds l2)), (17, vI (l2.length : Int)), (18, vI (m8 : Int))], [(5001, some (arrT 54 2 Kv.ds out5))]⟩) [(5001, 115)] ⟨0, _, rfl, Nat.zero_le _, hm1, rfl⟩ ?_
  rintro κ _ ⟨m8, out5, rfl, hlem8, hm1, rfl⟩
  rcases Nat.lt_or_ge m8 l2.length with hltm8 | hgem8
  ·obtain ⟨r6, hxm8, hdr⟩ := drop_c hltm8
   rw [hdr, Mtable_Apply_l1.eq_2] at hm1
   refine sr ?_
   refine wc_seq ?_
   refine wc_cond_tt (lt_t hltm8) rfl ?_
   refine sx ?_
   refine sr ?_
   refine wl_r (o_ixm (ys := [dS r6.Key, dS r6.Value, dB r6.Delete]) hxm8 rfl rfl rfl rfl) rfl rfl rfl ?_
   refine sr ?_
   obtain ⟨y9, hy, hm1⟩ := bnd_o hm1
   refine wl_cq (Mtable_ValidWrite_sp (hm := hy)) ?_
   refine ss ?_
   refine wc_cs hm1 ?_ ?_ <;> clear hm1 <;> intro hm1
   ·refine sr ?_
    refine sx ?_
    cases hm1
    replace hm := ocbnd_r hm
    cases hm
    exact wk_r
   refine sx ?_
   refine sr ?_
   obtain ⟨y10, hy, hm1⟩ := obnd_o hm1
   refine wl_lend (Mtable_place_sp (hm := hy)) ?_
   refine ss ?_
   refine wc_seq ?_
   obtain ⟨mu2, hm2, hm1⟩ := obnd_o hm1
   refine wc_cut' (fun st => ∃ (found12 : Bool), found12 = mu2 ∧ st = ⟨[(6, .h 5001), (8, .p 108 0), (9, vI y10), (10, vB found12), (16, .d (lst TWrite.ds l2)), (17, vI (l2.length : Int)), (18, vI (m8 : Int))], [(108, some (.box 51 [vS r6.Key, vS r6.Value, vB r6.Delete])), (5001, some (arrT 54 2 Kv.ds out5))]⟩) ?_ ?_
   ·refine wc_draw (id := 10) [⟨0, 0, [9]⟩, ⟨1, 0, [6]⟩, ⟨2, 2, [31]⟩, ⟨3, 7, [30, 32]⟩, ⟨4, 15, [33]⟩, ⟨5, 31, [6, 34]⟩, ⟨6, 31, [9, 34]⟩, ⟨7, 127, [34, 35, 36]⟩, ⟨8, 255, [34, 37]⟩, ⟨9, 511, [34, 38]⟩, ⟨10, 31, [8, 34]⟩, ⟨11, 1055, [34, 40]⟩, ⟨12, 4095, [34, 39, 41]⟩, ⟨13, 8191, [34, 42]⟩, ⟨14, 16383, [43]⟩] mixed (by kernel_rfl) ?_
    refine ss ?_
    refine wd_gp rfl rfl rfl rfl (fun h => ?_) (fun h => ?_)
    ·replace hm2 := sel_t h hm2
     refine ss ?_
     obtain ⟨e11, hy, hm2⟩ := obnd_o hm2
     have hge11 := hy
     refine wd_ixo hy rfl rfl rfl rfl rfl (by first | exact .no rfl | exact .y rfl rfl rfl rfl) rfl rfl ?_
     refine ss ?_
     refine wd_ldo (kk := 5001) (f := Kv.ds) (zz := 2) (u := vS e11.key) (off := 0) hge11 rfl rfl rfl (by exact inferInstance) rfl rfl rfl (by first | exact .no rfl | exact .y rfl rfl rfl rfl) rfl rfl ?_
     refine ss ?_
     cases hm2
     exact wk_cutw [(108, 108), (5001, 5001)] ⟨_, rfl, rfl⟩
    replace hm2 := sel_f h hm2
    refine ss ?_
    cases hm2
    exact wk_cutw [(108, 108), (5001, 5001)] ⟨_, rfl, rfl⟩
   rintro _ ⟨found12, rfl, rfl⟩
   refine ss ?_
   refine wc_block ?_
   refine wc_seq ?_
   obtain ⟨mu2, hm2, hm1⟩ := obnd_o hm1
   refine wc_cut' (fun st => ∃ (x13 : Bool), x13 = mu2 ∧ st = ⟨[(6, .h 5001), (8, .p 108 0), (9, vI y10), (10, vB found12), (16, .d (lst TWrite.ds l2)), (17, vI (l2.length : Int)), (18, vI (m8 : Int)), (64, vB x13)], [(108, some (.box 51 [vS r6.Key, vS r6.Value, vB r6.Delete])), (5001, some (arrT 54 2 Kv.ds out5))]⟩) ?_ ?_
   ·refine sr ?_
    refine wl_sg hm2 ?_ ?_ <;> clear hm2 <;> intro hm2
    ·refine ss ?_
     cases hm2
     exact wk_cutw [(108, 108), (5001, 5001)] ⟨_, rfl, rfl⟩
    refine ss ?_
    cases hm2
    exact wk_cutw [(108, 108), (5001, 5001)] ⟨_, rfl, rfl⟩
   rintro _ ⟨x13, rfl, rfl⟩
   refine ss ?_
   refine wc_cs hm1 ?_ ?_ <;> clear hm1 <;> intro hm1
   ·refine wc_draw (id := 15) [⟨0, 0, [6]⟩, ⟨1, 0, [9]⟩, ⟨2, 3, [70, 71]⟩, ⟨3, 0, [6]⟩, ⟨4, 0, [9]⟩, ⟨5, 16, [74]⟩, ⟨6, 56, [73, 75]⟩, ⟨7, 127, [72, 76]⟩, ⟨8, 255, [77]⟩] mixed (by kernel_rfl) ?_
    refine ss ?_
    obtain ⟨l14, hy, hm1⟩ := obnd_o hm1
    have hvl14 := hy
    refine wd_slv hy rfl rfl rfl rfl rfl rfl (by first | exact .no rfl | exact .y rfl rfl rfl rfl) rfl rfl ?_
    refine ss ?_
    refine wd_r [] (o_add rfl rfl rfl rfl) rfl (by first | exact .no rfl | exact .y rfl rfl rfl rfl) rfl rfl ?_
    refine ss ?_
    obtain ⟨l15, hy, hm1⟩ := obnd_o hm1
    have hvl15 := hy
    refine wd_slv hy rfl rfl rfl rfl rfl rfl (by first | exact .no rfl | exact .y rfl rfl rfl rfl) rfl rfl ?_
    refine ss ?_
    obtain ⟨l16, hy, hm1⟩ := obnd_o hm1
    refine wd_del (k' := 177) hy hvl14 hvl15 rfl rfl rfl rfl rfl rfl rfl (by first | exact .no rfl | exact .y rfl rfl rfl rfl) rfl rfl rfl ?_
    refine sr ?_
    refine wl_r (o_inc hltm8 hlenm8 rfl rfl rfl) rfl rfl rfl ?_
    refine ss ?_
    exact wk_loopw [(5001, 177)] ⟨m8 + 1, _, rfl, hltm8, hm1, rfl⟩ (by omega)
   refine sr ?_
   refine wc_cs hm1 ?_ ?_ <;> clear hm1 <;> intro hm1
   ·refine sx ?_
    refine sr ?_
    refine wl_r (o_inc hltm8 hlenm8 rfl rfl rfl) rfl rfl rfl ?_
    refine ss ?_
    exact wk_loopw [(5001, 5001)] ⟨m8 + 1, _, rfl, hltm8, hm1, rfl⟩ (by omega)
   refine sr ?_
   refine wc_cs hm1 ?_ ?_ <;> clear hm1 <;> intro hm1
   ·refine sr ?_
    obtain ⟨e17, hy, hm1⟩ := obnd_o hm1
    have hge17 := hy
    refine wl_r (o_ixo hy rfl rfl rfl rfl) rfl rfl rfl ?_
    refine ss ?_
    obtain ⟨e19, hy, hm1⟩ := bnd_o hm1
    have hxe19 := hy
    refine ss ?_
    obtain ⟨l18, hy, hm1⟩ := bnd_o hm1
    refine wl_0 (lo := 0) (nn := 0) (o_sto (k := 5001) (f := Kv.ds) (zz := 2) (off := 1) hge17 hy rfl rfl rfl rfl (by exact inferInstance) rfl (by rw [← hxe19]; rfl)) rfl rfl (fresh0 _ _) ?_
    have hge19 := lget_set hge17 e19
    rw [hy] at hge19
    refine sr ?_
    refine wl_r (o_inc hltm8 hlenm8 rfl rfl rfl) rfl rfl rfl ?_
    refine ss ?_
    exact wk_loopw [(5001, 5001)] ⟨m8 + 1, _, rfl, hltm8, hm1, rfl⟩ (by omega)
   refine sr ?_
   refine wc_cs hm1 ?_ ?_ <;> clear hm1 <;> intro hm1
   ·refine sr ?_
    refine sx ?_
    cases hm1
    replace hm := ocbnd_r hm
    cases hm
    exact wk_r
   refine sr ?_
   refine wl_bt Kv.ds [(Kv.mk ⟨#[]⟩ ⟨#[]⟩)] rfl rfl (by simp only [flatV, cellsV, List.cons_append, List.nil_append, List.append_nil]; exact rfl) rfl rfl rfl rfl rfl rfl ?_
   refine ss ?_
   obtain ⟨l20, hy, hm1⟩ := obnd_o hm1
   refine wl_2 (n_app (k' := 147) hy rfl rfl rfl rfl rfl rfl rfl rfl) rfl rfl rfl rfl ?_
   refine ss ?_
   refine wc_seq ?_
   refine wc_draw (id := 12) [⟨0, 0, [6]⟩, ⟨1, 0, [9]⟩, ⟨2, 2, [49]⟩, ⟨3, 7, [48, 50]⟩, ⟨4, 0, [6]⟩, ⟨5, 0, [9]⟩, ⟨6, 48, [52, 53]⟩, ⟨7, 127, [51, 54]⟩] mixed (by kernel_rfl) ?_
   refine ss ?_
   refine wd_r [] (o_add rfl rfl rfl rfl) rfl (by first | exact .no rfl | exact .y rfl rfl rfl rfl) rfl rfl ?_
   refine ss ?_
   obtain ⟨l21, hy, hm1⟩ := obnd_o hm1
   have hvl21 := hy
   refine wd_slv hy rfl rfl rfl rfl rfl rfl (by first | exact .no rfl | exact .y rfl rfl rfl rfl) rfl rfl ?_
   refine ss ?_
   obtain ⟨l22, hy, hm1⟩ := obnd_o hm1
   have hvl22 := hy
   refine wd_slv hy rfl rfl rfl rfl rfl rfl (by first | exact .no rfl | exact .y rfl rfl rfl rfl) rfl rfl ?_
   refine ss ?_
   obtain ⟨l23, hy, hm1⟩ := bnd_o hm1
   refine wd_1 (lo := 0) (nn := 0) [147] (n_cpy hvl21 hvl22 hy rfl rfl rfl rfl) rfl (by first | exact .no rfl | exact .y rfl rfl rfl rfl) rfl rfl rfl ?_
   refine sr ?_
   obtain ⟨e24, hy, hm1⟩ := obnd_o hm1
   have hge24 := hy
   refine wl_r (o_ixo hy rfl rfl rfl rfl) rfl rfl rfl ?_
   refine ss ?_
   obtain ⟨e26, hy, hm1⟩ := bnd_o hm1
   have hxe26 := hy
   refine ss ?_
   obtain ⟨l25, hy, hm1⟩ := bnd_o hm1
   refine wl_0 (lo := 0) (nn := 0) (o_sto (k := 147) (f := Kv.ds) (zz := 2) (off := 0) hge24 hy rfl rfl rfl rfl (by exact inferInstance) rfl (by rw [← hxe26]; rfl)) rfl rfl (fresh0 _ _) ?_
   have hge26 := lget_set hge24 e26
   rw [hy] at hge26
   refine sr ?_
   refine wl_r (o_inc hltm8 hlenm8 rfl rfl rfl) rfl rfl rfl ?_
   refine ss ?_
   exact wk_loopw [(5001, 147)] ⟨m8 + 1, _, rfl, hltm8, hm1, rfl⟩ (by omega)
  ·rw [drop_n hgem8, Mtable_Apply_l1.eq_1] at hm1
   refine sr ?_
   refine wc_seq ?_
   refine wc_cond_ff (lt_f hgem8) rfl ?_
   refine wc_exit ?_
   refine ss ?_
   cases hm1
   exact wk_cutw [] ⟨_, rfl, rfl⟩
 rintro _ ⟨out27, rfl, rfl⟩
 replace hm := ocbnd_n hm
 refine sr ?_
 refine sx ?_
 cases hm
 exact wk_r

def Maudit_Moment_l2 (a2 : TAnswer) : List Kv → Int → Option (Ctl (Ctl (Ctl (Int × Bool) Unit) Unit) Unit)
  | [], i =>
  some (Ctl.nxt ())
  | r9 :: xs10, i =>
  obnd (lget a2.Rows i) fun e12 =>
  sel (!(decide (r9.key = e12.key) && decide (r9.val = e12.val))) (
   some (Ctl.ret (Ctl.nxt ()))) (
   Maudit_Moment_l2 a2 xs10 (i + 1))
def Maudit_Moment_l1 (q1 : TQuery) (a2 : TAnswer) : List (List Kv) → Int → Option (Ctl (Int × Bool) Unit)
  | [], i =>
  some (Ctl.nxt ())
  | r4 :: xs5, i =>
  obnd (
   obnd (Mquery_Answer r4 q1) fun y7 =>
   obnd (
    sel (!decide (y7.2 = 0)) (
     some true) (
     sel (!decide ((y7.1.Rows.length : Int) = (a2.Rows.length : Int))) (
      some true) (
      some (!(decide (y7.1.Fold.Count = a2.Fold.Count) && decide (y7.1.Fold.Numbers = a2.Fold.Numbers) && decide (y7.1.Fold.Sum = a2.Fold.Sum) && decide (y7.1.Fold.Low = a2.Fold.Low) && decide (y7.1.Fold.High = a2.Fold.High) && decide (y7.1.Fold.First = a2.Fold.First) && decide (y7.1.Fold.Last = a2.Fold.Last))))) : Option Bool) fun x8 =>
   obnd (
    sel x8 (
     some (Ctl.ret (Ctl.nxt ()))) (
     some (Ctl.nxt ())) : Option (Ctl (Ctl (Ctl (Int × Bool) Unit) Unit) Unit)) fun mu => ocbnd mu fun (_ : Unit) =>
   obnd (
    Maudit_Moment_l2 a2 y7.1.Rows 0 : Option (Ctl (Ctl (Ctl (Int × Bool) Unit) Unit) Unit)) fun mu => ocbnd mu fun (_ : Unit) =>
   some (Ctl.ret (Ctl.ret (i, true))) : Option (Ctl (Ctl (Int × Bool) Unit) Unit)) fun mu => ocbnd mu fun (_ : Unit) =>
  Maudit_Moment_l1 q1 a2 xs5 (i + 1)
def Maudit_Moment (q1 : TQuery) (a2 : TAnswer) (tables3 : List (List Kv)) : Option (Int × Bool) :=
 obnd (
  Maudit_Moment_l1 q1 a2 tables3 0 : Option (Ctl (Int × Bool) Unit)) fun mu => ocbnd mu fun (_ : Unit) =>
 some (0, false)
theorem Maudit_Moment_sp {q1 : TQuery} {a2 : TAnswer} {tables3 : List (List Kv)} {y : (Int × Bool)} (hm : Maudit_Moment q1 a2 tables3 = some y) : Spec Tryz.prog 22 [.a [vI q1.Kind, .d (lst Rng.ds q1.Ranges), vS q1.Key, vI q1.Count], .a [.d (lst Kv.ds a2.Rows), vI a2.Fold.Count, vI a2.Fold.Numbers, vI a2.Fold.Sum, vI a2.Fold.Low, vI a2.Fold.High, vS a2.Fold.First, vS a2.Fold.Last], .d (lst (dsL Kv.ds) tables3)] [] fun u h => u = .t [vI y.1, vB y.2] ∧ h = [] := by
 refine si Tryz.func22 Tryz.ntmps22 Tryz.results22 fun B w0 ρ0 => ?_
 unfold Maudit_Moment at hm
 refine sr ?_
 refine wc_scope ?_
 refine wc_seq ?_
 refine wc_label ?_
 refine sr ?_
 obtain ⟨mu1, hm1, hm⟩ := obnd_o hm
 refine wc_cut' (fun st => mu1 = Ctl.nxt () ∧ st = ⟨[], []⟩) ?_ ?_
 ·refine wc_block ?_
  refine wc_len 14 rfl (fun hlenm6 => ?_)
  refine wc_loopw (fun κ st => ∃ (m6 : Nat) , κ = tables3.length - m6 ∧ m6 ≤ tables3.length ∧ Maudit_Moment_l1 q1 a2 (tables3.drop m6) (m6 : Int) = some mu1 ∧ st = ⟨[(3, .p 103 0), (4, .p 104 0), (14, .d (lst (dsL Kv.ds) tables3)), (15, vI (tables3.length : Int)), (16, vI (m6 : Int))], [(103, some (.box 29 [vI q1.Kind, .d (lst Rng.ds q1.Ranges), vS q1.Key, vI q1.Count])), (104, some (.box 77 [.d (lst Kv.ds a2.Rows), vI a2.Fold.Count, vI a2.Fold.Numbers, vI a2.Fold.Sum, vI a2.Fold.Low, vI a2.Fold.High, vS a2.Fold.First, vS a2.Fold.Last]))]⟩) [(103, 103), (104, 104)] ⟨0, rfl, Nat.zero_le _, hm1, rfl⟩ ?_
  rintro κ _ ⟨m6, rfl, hlem6, hm1, rfl⟩
  rcases Nat.lt_or_ge m6 tables3.length with hltm6 | hgem6
  ·obtain ⟨r4, hxm6, hdr⟩ := drop_c hltm6
   rw [hdr, Maudit_Moment_l1.eq_2] at hm1
   refine sr ?_
   refine wc_seq ?_
   refine wc_cond_tt (lt_t hltm6) rfl ?_
   refine sx ?_
   refine wc_seq ?_
   obtain ⟨mu2, hm2, hm1⟩ := obnd_o hm1
   refine wc_cut' (fun st => mu2 = Ctl.nxt () ∧ st = ⟨[(3, .p 103 0), (4, .p 104 0), (14, .d (lst (dsL Kv.ds) tables3)), (15, vI (tables3.length : Int)), (16, vI (m6 : Int))], [(103, some (.box 29 [vI q1.Kind, .d (lst Rng.ds q1.Ranges), vS q1.Key, vI q1.Count])), (104, some (.box 77 [.d (lst Kv.ds a2.Rows), vI a2.Fold.Count, vI a2.Fold.Numbers, vI a2.Fold.Sum, vI a2.Fold.Low, vI a2.Fold.High, vS a2.Fold.First, vS a2.Fold.Last]))]⟩) ?_ ?_
   ·refine sr ?_
    refine wl_r (o_ixm (ys := [lst Kv.ds r4]) hxm6 rfl rfl rfl rfl) rfl rfl rfl ?_
    refine sr ?_
    obtain ⟨y7, hy, hm2⟩ := obnd_o hm2
    refine wl_cq (Mquery_Answer_sp (hm := hy)) ?_
    refine ss ?_
    refine wc_seq ?_
    refine wc_seq ?_
    obtain ⟨mu3, hm3, hm2⟩ := obnd_o hm2
    refine wc_cut' (fun st => ∃ (x8 : Bool), x8 = mu3 ∧ st = ⟨[(3, .p 103 0), (4, .p 104 0), (8, vI (m6 : Int)), (10, .p 110 0), (14, .d (lst (dsL Kv.ds) tables3)), (15, vI (tables3.length : Int)), (16, vI (m6 : Int)), (44, vB x8)], [(103, some (.box 29 [vI q1.Kind, .d (lst Rng.ds q1.Ranges), vS q1.Key, vI q1.Count])), (104, some (.box 77 [.d (lst Kv.ds a2.Rows), vI a2.Fold.Count, vI a2.Fold.Numbers, vI a2.Fold.Sum, vI a2.Fold.Low, vI a2.Fold.High, vS a2.Fold.First, vS a2.Fold.Last])), (110, some (.box 77 [.d (lst Kv.ds y7.1.Rows), vI y7.1.Fold.Count, vI y7.1.Fold.Numbers, vI y7.1.Fold.Sum, vI y7.1.Fold.Low, vI y7.1.Fold.High, vS y7.1.Fold.First, vS y7.1.Fold.Last]))]⟩) ?_ ?_
    ·refine sr ?_
     refine wl_sg hm3 ?_ ?_ <;> clear hm3 <;> intro hm3
     ·refine ss ?_
      cases hm3
      exact wk_cutw [(103, 103), (104, 104), (110, 110)] ⟨_, rfl, rfl⟩
     refine ss ?_
     refine wl_sg hm3 ?_ ?_ <;> clear hm3 <;> intro hm3
     ·refine ss ?_
      cases hm3
      exact wk_cutw [(103, 103), (104, 104), (110, 110)] ⟨_, rfl, rfl⟩
     refine ss ?_
     cases hm3
     exact wk_cutw [(103, 103), (104, 104), (110, 110)] ⟨_, rfl, rfl⟩
    rintro _ ⟨x8, rfl, rfl⟩
    refine ss ?_
    obtain ⟨mu3, hm3, hm2⟩ := obnd_o hm2
    refine wc_cut' (fun st => mu3 = Ctl.nxt () ∧ st = ⟨[(3, .p 103 0), (4, .p 104 0), (8, vI (m6 : Int)), (10, .p 110 0), (14, .d (lst (dsL Kv.ds) tables3)), (15, vI (tables3.length : Int)), (16, vI (m6 : Int))], [(103, some (.box 29 [vI q1.Kind, .d (lst Rng.ds q1.Ranges), vS q1.Key, vI q1.Count])), (104, some (.box 77 [.d (lst Kv.ds a2.Rows), vI a2.Fold.Count, vI a2.Fold.Numbers, vI a2.Fold.Sum, vI a2.Fold.Low, vI a2.Fold.High, vS a2.Fold.First, vS a2.Fold.Last])), (110, some (.box 77 [.d (lst Kv.ds y7.1.Rows), vI y7.1.Fold.Count, vI y7.1.Fold.Numbers, vI y7.1.Fold.Sum, vI y7.1.Fold.Low, vI y7.1.Fold.High, vS y7.1.Fold.First, vS y7.1.Fold.Last]))]⟩) ?_ ?_
    ·refine wc_cs hm3 ?_ ?_ <;> clear hm3 <;> intro hm3
     ·refine wc_exit ?_
      refine ss ?_
      cases hm3
      replace hm2 := ocbnd_r hm2
      cases hm2
      exact wk_cutw [(103, 103), (104, 104)] ⟨rfl, rfl⟩
     refine sx ?_
     cases hm3
     exact wk_cutw [(103, 103), (104, 104), (110, 110)] ⟨rfl, rfl⟩
    rintro _ ⟨rfl, rfl⟩
    replace hm2 := ocbnd_n hm2
    refine sr ?_
    obtain ⟨mu3, hm3, hm2⟩ := obnd_o hm2
    refine wc_cut' (fun st => mu3 = Ctl.nxt () ∧ st = ⟨[(8, vI (m6 : Int))], []⟩) ?_ ?_
    ·refine wc_block ?_
     refine wc_len 46 rfl (fun hlenm11 => ?_)
     refine wc_loopw (fun κ st => ∃ (m11 : Nat) , κ = y7.1.Rows.length - m11 ∧ m11 ≤ y7.1.Rows.length ∧ Maudit_Moment_l2 a2 (y7.1.Rows.drop m11) (m11 : Int) = some mu3 ∧ st = ⟨[(3, .p 103 0), (4, .p 104 0), (8, vI (m6 : Int)), (14, .d (lst (dsL Kv.ds) tables3)), (15, vI (tables3.length : Int)), (16, vI (m6 : Int)), (46, .d (lst Kv.ds y7.1.Rows)), (47, vI (y7.1.Rows.length : Int)), (48, vI (m11 : Int))], [(103, some (.box 29 [vI q1.Kind, .d (lst Rng.ds q1.Ranges), vS q1.Key, vI q1.Count])), (104, some (.box 77 [.d (lst Kv.ds a2.Rows), vI a2.Fold.Count, vI a2.Fold.Numbers, vI a2.Fold.Sum, vI a2.Fold.Low, vI a2.Fold.High, vS a2.Fold.First, vS a2.Fold.Last]))]⟩) [(103, 103), (104, 104)] ⟨0, rfl, Nat.zero_le _, hm3, rfl⟩ ?_
     rintro κ _ ⟨m11, rfl, hlem11, hm3, rfl⟩
     rcases Nat.lt_or_ge m11 y7.1.Rows.length with hltm11 | hgem11
     ·obtain ⟨r9, hxm11, hdr⟩ := drop_c hltm11
      rw [hdr, Maudit_Moment_l2.eq_2] at hm3
      refine sr ?_
      refine wc_seq ?_
      refine wc_cond_tt (lt_t hltm11) rfl ?_
      refine sx ?_
      refine sr ?_
      refine wl_r (o_ixm (ys := [dS r9.key, dS r9.val]) hxm11 rfl rfl rfl rfl) rfl rfl rfl ?_
      refine ss ?_
      refine wc_seq ?_
      refine wc_draw (id := 9) [⟨0, 0, [13]⟩, ⟨1, 0, [4]⟩, ⟨2, 2, [54]⟩, ⟨3, 0, [12]⟩, ⟨4, 14, [55, 56]⟩, ⟨5, 30, [57]⟩, ⟨6, 63, [53, 58]⟩] mixed (by kernel_rfl) ?_
      refine ss ?_
      obtain ⟨e12, hy, hm3⟩ := obnd_o hm3
      refine wd_r [] (o_ixg (ys := [dS e12.key, dS e12.val]) hy rfl rfl rfl rfl) rfl (by first | exact .no rfl | exact .y rfl rfl rfl rfl) rfl rfl ?_
      refine ss ?_
      refine wc_cs hm3 ?_ ?_ <;> clear hm3 <;> intro hm3
      ·refine wc_exit ?_
       refine ss ?_
       cases hm3
       replace hm2 := ocbnd_r hm2
       cases hm2
       exact wk_cutw [(103, 103), (104, 104)] ⟨rfl, rfl⟩
      refine sx ?_
      refine sr ?_
      refine wl_r (o_inc hltm11 hlenm11 rfl rfl rfl) rfl rfl rfl ?_
      refine ss ?_
      exact wk_loopw [(103, 103), (104, 104)] ⟨m11 + 1, rfl, hltm11, hm3, rfl⟩ (by omega)
     ·rw [drop_n hgem11, Maudit_Moment_l2.eq_1] at hm3
      refine sr ?_
      refine wc_seq ?_
      refine wc_cond_ff (lt_f hgem11) rfl ?_
      refine wc_exit ?_
      refine ss ?_
      cases hm3
      exact wk_cutw [] ⟨rfl, rfl⟩
    rintro _ ⟨rfl, rfl⟩
    replace hm2 := ocbnd_n hm2
    refine sr ?_
    refine sx ?_
    cases hm2
    replace hm1 := ocbnd_r hm1
    cases hm1
    replace hm := ocbnd_r hm
    cases hm
    exact wk_r
   rintro _ ⟨rfl, rfl⟩
   replace hm1 := ocbnd_n hm1
   refine sr ?_
   refine wl_r (o_inc hltm6 hlenm6 rfl rfl rfl) rfl rfl rfl ?_
   refine ss ?_
   exact wk_loopw [(103, 103), (104, 104)] ⟨m6 + 1, rfl, hltm6, hm1, rfl⟩ (by omega)
  ·rw [drop_n hgem6, Maudit_Moment_l1.eq_1] at hm1
   refine sr ?_
   refine wc_seq ?_
   refine wc_cond_ff (lt_f hgem6) rfl ?_
   refine wc_exit ?_
   refine ss ?_
   cases hm1
   exact wk_cutw [] ⟨rfl, rfl⟩
 rintro _ ⟨rfl, rfl⟩
 replace hm := ocbnd_n hm
 refine sr ?_
 refine sx ?_
 cases hm
 exact wk_r

structure Tauditor where
  now : List Kv
  tables : List (List Kv)
  begun : List (Int × Int)
  asked : List (Int × TQuery)
  ended : List (Int × Bool)
  deriving DecidableEq
def Maudit_auditor_record (a1 : Tauditor) (i2 : Int) (r3 : TRecord) : Option (Int × Tauditor) :=
 obnd (
  sel (decide (r3.Kind = 1)) (
   obnd (Mtable_Apply a1.now r3.Writes) fun y4 =>
   sel (!decide (y4.2 = 0)) (
    some (Ctl.ret (y4.2, a1))) (
    some (Ctl.nxt (y4.1, a1.begun, a1.asked, a1.ended)))) (
   sel (decide (r3.Kind = 2)) (
    bnd (Mtable_Get a1.now r3.Key) fun y5 =>
    sel (!decide (y5.1 = r3.Value)) (
     some (Ctl.ret (11, a1))) (
     sel (!(y5.2 == r3.Has)) (
      some (Ctl.ret (11, a1))) (
      some (Ctl.nxt (a1.now, a1.begun, a1.asked, a1.ended))))) (
    sel (decide (r3.Kind = 3)) (
     bnd (mlk 0 r3.Query a1.begun) fun v6 =>
     sel (mhas r3.Query a1.begun) (
      some (Ctl.ret (7, a1))) (
      bnd (ment 0 r3.Query a1.begun) fun m7 =>
      obnd (mput m7 (midx r3.Query a1.begun : Int) i2) fun m8 =>
      bnd (ment (TQuery.mk 0 [] ⟨#[]⟩ 0) r3.Query a1.asked) fun m9 =>
      obnd (mput m9 (midx r3.Query a1.asked : Int) r3.Receipt.Query) fun m10 =>
      some (Ctl.nxt (a1.now, m8, m10, a1.ended)))) (
     sel (decide (r3.Kind = 4)) (
      bnd (mlk 0 r3.Query a1.begun) fun v11 =>
      obnd (
       sel (!(mhas r3.Query a1.begun)) (
        some true) (
        bnd (mlk false r3.Query a1.ended) fun v12 =>
        sel v12 (
         some true) (
         bnd (mlk (TQuery.mk 0 [] ⟨#[]⟩ 0) r3.Query a1.asked) fun v13 =>
         obnd (Mquery_Same v13 r3.Receipt.Query) fun y14 =>
         some (!y14))) : Option Bool) fun x15 =>
      sel x15 (
       some (Ctl.ret (7, a1))) (
       obnd (Mreceipt_Check r3.Receipt) fun y16 =>
       sel (!decide (y16.2 = 0)) (
        some (Ctl.ret (y16.2, a1))) (
        obnd (lsl a1.tables v11 (a1.tables.length : Int)) fun l17 =>
        obnd (app l17 ([a1.now] : List (List Kv))) fun l18 =>
        obnd (Maudit_Moment r3.Receipt.Query y16.1 l18) fun y19 =>
        sel (!y19.2) (
         some (Ctl.ret (11, a1))) (
         bnd (mset r3.Query true a1.ended) fun m20 =>
         some (Ctl.nxt (a1.now, a1.begun, a1.asked, m20)))))) (
      some (Ctl.ret (1, a1)))))) : Option (Ctl (Int × Tauditor) (List Kv × List (Int × Int) × List (Int × TQuery) × List (Int × Bool)))) fun mu => ocbnd mu fun (x21, m22, m23, m24) =>
 obnd (app a1.tables ([x21] : List (List Kv))) fun l25 =>
 some (0, (Tauditor.mk x21 l25 m22 m23 m24))
theorem Maudit_auditor_record_sp {a1 : Tauditor} {i2 : Int} {r3 : TRecord} {y : (Int × Tauditor)} (hm : Maudit_auditor_record a1 i2 r3 = some y) : Spec Tryz.prog 11 [.p 0 0, vI i2, .a [vI r3.Kind, .d (lst TWrite.ds r3.Writes), vS r3.Key, vS r3.Value, vB r3.Has, vI r3.Query, vI r3.Receipt.Query.Kind, .d (lst Rng.ds r3.Receipt.Query.Ranges), vS r3.Receipt.Query.Key, vI r3.Receipt.Query.Count, .d (lst TVisit.ds r3.Receipt.First), .d (lst TVisit.ds r3.Receipt.Second)]] [(0, some (.box 62 [.d (lst Kv.ds a1.now), .h 1, .mp 2, .mp 3, .mp 4])), (1, some (arrT 22 1 (dsL Kv.ds) a1.tables)), (2, some (mtT false dsI a1.begun)), (3, some (mtT true TQuery.ds a1.asked)), (4, some (mtT false dsB a1.ended))] fun u h => u = vI y.1 ∧ h = [(0, some (.box 62 [.d (lst Kv.ds y.2.now), .h 51, .mp 2, .mp 3, .mp 4])), (1, none), (51, some (arrT 22 1 (dsL Kv.ds) y.2.tables)), (2, some (mtT false dsI y.2.begun)), (3, some (mtT true TQuery.ds y.2.asked)), (4, some (mtT false dsB y.2.ended))] := by
 refine siw Tryz.func11 Tryz.ntmps11 Tryz.results11 fun B w0 ρ0 => ?_
 unfold Maudit_auditor_record at hm
 refine sr ?_
 refine sr ?_
 obtain ⟨mu1, hm1, hm⟩ := obnd_o hm
 refine wc_cut' (fun st => ∃ (x21 : List Kv) (m22 : List (Int × Int)) (m23 : List (Int × TQuery)) (m24 : List (Int × Bool)), mu1 = Ctl.nxt (x21, m22, m23, m24) ∧ st = ⟨[(0, .p 0 0)], [(0, some (.box 62 [.d (lst Kv.ds x21), .h 1, .mp 2, .mp 3, .mp 4])), (1, some (arrT 22 1 (dsL Kv.ds) a1.tables)), (2, some (mtT false dsI m22)), (3, some (mtT true TQuery.ds m23)), (4, some (mtT false dsB m24))]⟩) ?_ ?_
 ·refine sr ?_
  refine wc_cs hm1 ?_ ?_ <;> clear hm1 <;> intro hm1
  ·refine wc_seq ?_
   refine wc_draw (id := 4) [⟨0, 0, [0]⟩, ⟨1, 1, [24]⟩, ⟨2, 3, [25]⟩, ⟨3, 7, [26]⟩, ⟨4, 0, [5]⟩, ⟨5, 16, [28]⟩, ⟨6, 63, [27, 29]⟩, ⟨7, 127, [30]⟩, ⟨8, 255, [23]⟩, ⟨9, 255, [23]⟩, ⟨10, 511, [31]⟩, ⟨11, 2047, [32]⟩] mixed (by kernel_rfl) ?_
   refine ss ?_
   obtain ⟨y4, hy, hm1⟩ := obnd_o hm1
   refine wd_cs (Mtable_Apply_sp (hm := hy)) rfl rfl rfl (by repeat (first | exact Vws.nil | apply Vws.cons | exact Vw.nil | exact Vw.d _ | exact Vw.q _ | apply Vw.a)) rfl rfl (by first | exact .no rfl | exact .y rfl rfl rfl rfl) rfl rfl rfl ?_
   refine sr ?_
   refine wc_cs hm1 ?_ ?_ <;> clear hm1 <;> intro hm1
   ·refine sr ?_
    refine sx ?_
    cases hm1
    replace hm := ocbnd_r hm
    cases hm
    exact wk_retw [(0, 0), (1, 1), (51, 1), (2, 2), (3, 3), (4, 4)] ⟨rfl, rfl⟩
   refine sx ?_
   refine sr ?_
   cases hm1
   exact wk_cutw [(0, 0), (1, 1), (2, 2), (3, 3), (4, 4)] ⟨_, _, _, _, rfl, rfl⟩
  refine sr ?_
  refine wc_cs hm1 ?_ ?_ <;> clear hm1 <;> intro hm1
  ·refine wc_seq ?_
   refine wc_draw (id := 9) [⟨0, 0, [0]⟩, ⟨1, 1, [43]⟩, ⟨2, 3, [44]⟩, ⟨3, 7, [45]⟩, ⟨4, 0, [5]⟩, ⟨5, 16, [47]⟩, ⟨6, 63, [46, 48]⟩, ⟨7, 127, [49]⟩, ⟨8, 255, [42]⟩, ⟨9, 255, [42]⟩, ⟨10, 511, [50]⟩, ⟨11, 2047, [51]⟩] mixed (by kernel_rfl) ?_
   refine ss ?_
   obtain ⟨y5, hy, hm1⟩ := bnd_o hm1
   refine wd_cs (Mtable_Get_sp (hm := hy)) rfl rfl rfl (by repeat (first | exact Vws.nil | apply Vws.cons | exact Vw.nil | exact Vw.d _ | exact Vw.q _ | apply Vw.a)) rfl rfl (by first | exact .no rfl | exact .y rfl rfl rfl rfl) rfl rfl rfl ?_
   refine sr ?_
   refine wl_sg hm1 ?_ ?_ <;> clear hm1 <;> intro hm1
   ·refine ss ?_
    refine wc_cond_t rfl ?_
    refine sr ?_
    refine sx ?_
    cases hm1
    replace hm := ocbnd_r hm
    cases hm
    exact wk_retw [(0, 0), (1, 1), (51, 1), (2, 2), (3, 3), (4, 4)] ⟨rfl, rfl⟩
   refine ss ?_
   refine wc_cs hm1 ?_ ?_ <;> clear hm1 <;> intro hm1
   ·refine sr ?_
    refine sx ?_
    cases hm1
    replace hm := ocbnd_r hm
    cases hm
    exact wk_retw [(0, 0), (1, 1), (51, 1), (2, 2), (3, 3), (4, 4)] ⟨rfl, rfl⟩
   refine sx ?_
   cases hm1
   exact wk_cutw [(0, 0), (1, 1), (2, 2), (3, 3), (4, 4)] ⟨_, _, _, _, rfl, rfl⟩
  refine sr ?_
  refine wc_cs hm1 ?_ ?_ <;> clear hm1 <;> intro hm1
  ·refine wc_seq ?_
   refine wc_seq ?_
   refine wc_draw (id := 13) [⟨0, 0, [0]⟩, ⟨1, 1, [65]⟩, ⟨2, 3, [66]⟩, ⟨3, 7, [67]⟩, ⟨4, 0, [5]⟩, ⟨5, 16, [69]⟩, ⟨6, 63, [68, 70]⟩, ⟨7, 127, [71]⟩, ⟨8, 255, [64]⟩, ⟨9, 255, [64]⟩, ⟨10, 511, [72]⟩, ⟨11, 2047, [73]⟩] mixed (by kernel_rfl) ?_
   refine ss ?_
   obtain ⟨v6, hy, hm1⟩ := bnd_o hm1
   refine wd_r [2] (o_lk (zz := 0) (zv := .int .i64 0) (f := dsI) hy (by exact rfl) rfl rfl rfl rfl (by exact inferInstance) rfl (by kernel_rfl) (by intro _ _ _; first | exact .d (.c rfl) | (refine .a ?_; repeat (first | exact .nil | refine .cons (.d (.c rfl)) ?_ | refine .cons (.d (.nil none 0)) ?_)))) rfl (by first | exact .no rfl | exact .y rfl rfl rfl rfl) rfl rfl ?_
   refine sr ?_
   refine wc_cs hm1 ?_ ?_ <;> clear hm1 <;> intro hm1
   ·refine sr ?_
    refine sx ?_
    cases hm1
    replace hm := ocbnd_r hm
    cases hm
    exact wk_retw [(0, 0), (1, 1), (51, 1), (2, 2), (3, 3), (4, 4)] ⟨rfl, rfl⟩
   refine sx ?_
   refine wc_draw (id := 16) [⟨0, 0, [0]⟩, ⟨1, 1, [75]⟩, ⟨2, 3, [76]⟩, ⟨3, 7, [77]⟩, ⟨4, 0, [5]⟩, ⟨5, 16, [79]⟩, ⟨6, 0, [0]⟩, ⟨7, 64, [81]⟩, ⟨8, 192, [82]⟩, ⟨9, 448, [83]⟩, ⟨10, 0, [5]⟩, ⟨11, 1024, [85]⟩, ⟨12, 0, [1]⟩, ⟨13, 0, [5]⟩, ⟨14, 8192, [88]⟩, ⟨15, 24576, [89]⟩, ⟨16, 1023, [78, 80]⟩, ⟨17, 66559, [91]⟩, ⟨18, 201727, [78, 87, 92]⟩, ⟨19, 466943, [84, 86]⟩, ⟨20, 991231, [93]⟩, ⟨21, 2097151, [84, 90, 94]⟩] mixed (by kernel_rfl) ?_
   refine ss ?_
   obtain ⟨m7, hy, hm1⟩ := bnd_o hm1
   refine wd_1 (lo := 0) (nn := 0) [2] (o_ment (zz := 0) (zv := .int .i64 0) (f := dsI) rfl rfl rfl rfl (by exact inferInstance) rfl (by kernel_rfl) (by intro _ _ _; first | exact .d (.c rfl) | (refine .a ?_; repeat (first | exact .nil | refine .cons (.d (.c rfl)) ?_ | refine .cons (.d (.nil none 0)) ?_))) rfl hy) rfl (by first | exact .no rfl | exact .y rfl rfl rfl rfl) rfl rfl rfl ?_
   refine ss ?_
   obtain ⟨m8, hy, hm1⟩ := obnd_o hm1
   refine wd_0 [2] (o_est (f := dsI) hy rfl rfl rfl rfl rfl rfl) rfl (by first | exact .no rfl | exact .y rfl rfl rfl rfl) rfl ?_
   refine ss ?_
   obtain ⟨m9, hy, hm1⟩ := bnd_o hm1
   refine wd_1 (lo := 0) (nn := 0) [3] (o_ment (zz := (TQuery.mk 0 [] ⟨#[]⟩ 0)) (zv := .agg #[.int .i64 0, .slice none 0 0, .string ⟨#[]⟩, .int .i64 0]) (f := TQuery.ds) rfl rfl rfl rfl (by exact inferInstance) rfl (by kernel_rfl) (by intro _ _ _; first | exact .d (.c rfl) | (refine .a ?_; repeat (first | exact .nil | refine .cons (.d (.c rfl)) ?_ | refine .cons (.d (.nil none 0)) ?_))) rfl hy) rfl (by first | exact .no rfl | exact .y rfl rfl rfl rfl) rfl rfl rfl ?_
   refine ss ?_
   obtain ⟨m10, hy, hm1⟩ := obnd_o hm1
   refine wd_0 [3] (o_est (f := TQuery.ds) hy rfl rfl rfl rfl rfl rfl) rfl (by first | exact .no rfl | exact .y rfl rfl rfl rfl) rfl ?_
   refine ss ?_
   cases hm1
   exact wk_cutw [(0, 0), (1, 1), (2, 2), (3, 3), (4, 4)] ⟨_, _, _, _, rfl, rfl⟩
  refine sr ?_
  refine wc_cs hm1 ?_ ?_ <;> clear hm1 <;> intro hm1
  ·refine wc_seq ?_
   refine wc_draw (id := 18) [⟨0, 0, [0]⟩, ⟨1, 1, [98]⟩, ⟨2, 3, [99]⟩, ⟨3, 7, [100]⟩, ⟨4, 0, [5]⟩, ⟨5, 16, [102]⟩, ⟨6, 63, [101, 103]⟩, ⟨7, 127, [104]⟩, ⟨8, 255, [97]⟩, ⟨9, 255, [97]⟩, ⟨10, 511, [105]⟩, ⟨11, 2047, [106]⟩] mixed (by kernel_rfl) ?_
   refine ss ?_
   obtain ⟨v11, hy, hm1⟩ := bnd_o hm1
   refine wd_r [2] (o_lk (zz := 0) (zv := .int .i64 0) (f := dsI) hy (by exact rfl) rfl rfl rfl rfl (by exact inferInstance) rfl (by kernel_rfl) (by intro _ _ _; first | exact .d (.c rfl) | (refine .a ?_; repeat (first | exact .nil | refine .cons (.d (.c rfl)) ?_ | refine .cons (.d (.nil none 0)) ?_)))) rfl (by first | exact .no rfl | exact .y rfl rfl rfl rfl) rfl rfl ?_
   refine ss ?_
   refine wc_seq ?_
   refine wc_seq ?_
   obtain ⟨mu2, hm2, hm1⟩ := obnd_o hm1
   refine wc_cut' (fun st => ∃ (x15 : Bool), x15 = mu2 ∧ st = ⟨[(0, .p 0 0), (5, .p 105 0), (13, vI v11), (131, vB x15)], [(0, some (.box 62 [.d (lst Kv.ds a1.now), .h 1, .mp 2, .mp 3, .mp 4])), (1, some (arrT 22 1 (dsL Kv.ds) a1.tables)), (2, some (mtT false dsI a1.begun)), (3, some (mtT true TQuery.ds a1.asked)), (4, some (mtT false dsB a1.ended)), (105, some (.box 34 [vI r3.Kind, .d (lst TWrite.ds r3.Writes), vS r3.Key, vS r3.Value, vB r3.Has, vI r3.Query, vI r3.Receipt.Query.Kind, .d (lst Rng.ds r3.Receipt.Query.Ranges), vS r3.Receipt.Query.Key, vI r3.Receipt.Query.Count, .d (lst TVisit.ds r3.Receipt.First), .d (lst TVisit.ds r3.Receipt.Second)]))]⟩) ?_ ?_
   ·refine wc_draw (id := 19) [⟨0, 0, [14]⟩, ⟨1, 1, [107]⟩, ⟨2, 3, [108]⟩, ⟨3, 7, [0, 109]⟩, ⟨4, 15, [109, 110]⟩, ⟨5, 31, [109, 111]⟩, ⟨6, 63, [109, 112]⟩, ⟨7, 7, [5, 109]⟩, ⟨8, 135, [109, 114]⟩, ⟨9, 511, [109, 113, 115]⟩, ⟨10, 1023, [109, 116]⟩, ⟨11, 2047, [117]⟩, ⟨12, 4095, [0, 118]⟩, ⟨13, 8191, [118, 119]⟩, ⟨14, 16383, [118, 120]⟩, ⟨15, 32767, [118, 121]⟩, ⟨16, 4095, [5, 118]⟩, ⟨17, 69631, [118, 123]⟩, ⟨18, 262143, [118, 122, 124]⟩, ⟨19, 4095, [5, 118]⟩, ⟨20, 528383, [118, 126]⟩, ⟨21, 1576959, [118, 127]⟩, ⟨22, 4194303, [118, 125, 128]⟩, ⟨23, 8388607, [118, 129]⟩, ⟨24, 16777215, [118, 130]⟩] mixed (by kernel_rfl) ?_
    refine ss ?_
    refine wd_gp rfl rfl rfl rfl (fun h => ?_) (fun h => ?_)
    ·replace hm2 := sel_t h hm2
     refine ss ?_
     cases hm2
     exact wk_cutw [(0, 0), (1, 1), (2, 2), (3, 3), (4, 4), (105, 105)] ⟨_, rfl, rfl⟩
    replace hm2 := sel_f h hm2
    refine ss ?_
    obtain ⟨v12, hy, hm2⟩ := bnd_o hm2
    refine wd_r [4] (o_lk (zz := false) (zv := .bool false) (f := dsB) hy (by exact rfl) rfl rfl rfl rfl (by exact inferInstance) rfl (by kernel_rfl) (by intro _ _ _; first | exact .d (.c rfl) | (refine .a ?_; repeat (first | exact .nil | refine .cons (.d (.c rfl)) ?_ | refine .cons (.d (.nil none 0)) ?_)))) rfl (by first | exact .no rfl | exact .y rfl rfl rfl rfl) rfl rfl ?_
    refine ss ?_
    refine wd_gp rfl rfl rfl rfl (fun h => ?_) (fun h => ?_)
    ·replace hm2 := sel_t h hm2
     refine ss ?_
     cases hm2
     exact wk_cutw [(0, 0), (1, 1), (2, 2), (3, 3), (4, 4), (105, 105)] ⟨_, rfl, rfl⟩
    replace hm2 := sel_f h hm2
    refine ss ?_
    obtain ⟨v13, hy, hm2⟩ := bnd_o hm2
    refine wd_r [3] (o_lk (zz := (TQuery.mk 0 [] ⟨#[]⟩ 0)) (zv := .agg #[.int .i64 0, .slice none 0 0, .string ⟨#[]⟩, .int .i64 0]) (f := TQuery.ds) hy (by exact rfl) rfl rfl rfl rfl (by exact inferInstance) rfl (by kernel_rfl) (by intro _ _ _; first | exact .d (.c rfl) | (refine .a ?_; repeat (first | exact .nil | refine .cons (.d (.c rfl)) ?_ | refine .cons (.d (.nil none 0)) ?_)))) rfl (by first | exact .no rfl | exact .y rfl rfl rfl rfl) rfl rfl ?_
    refine ss ?_
    obtain ⟨y14, hy, hm2⟩ := obnd_o hm2
    refine wd_cs (Mquery_Same_sp (hm := hy)) rfl rfl rfl (by repeat (first | exact Vws.nil | apply Vws.cons | exact Vw.nil | exact Vw.d _ | exact Vw.q _ | apply Vw.a)) rfl rfl (by first | exact .no rfl | exact .y rfl rfl rfl rfl) rfl rfl rfl ?_
    refine ss ?_
    cases hm2
    exact wk_cutw [(0, 0), (1, 1), (2, 2), (3, 3), (4, 4), (105, 105)] ⟨_, rfl, rfl⟩
   rintro _ ⟨x15, rfl, rfl⟩
   refine ss ?_
   refine wc_cs hm1 ?_ ?_ <;> clear hm1 <;> intro hm1
   ·refine sr ?_
    refine sx ?_
    cases hm1
    replace hm := ocbnd_r hm
    cases hm
    exact wk_retw [(0, 0), (1, 1), (51, 1), (2, 2), (3, 3), (4, 4)] ⟨rfl, rfl⟩
   refine sx ?_
   refine sr ?_
   obtain ⟨y16, hy, hm1⟩ := obnd_o hm1
   refine wl_cq (Mreceipt_Check_sp (hm := hy)) ?_
   refine sr ?_
   refine wc_cs hm1 ?_ ?_ <;> clear hm1 <;> intro hm1
   ·refine sr ?_
    refine sx ?_
    cases hm1
    replace hm := ocbnd_r hm
    cases hm
    exact wk_retw [(0, 0), (1, 1), (51, 1), (2, 2), (3, 3), (4, 4)] ⟨rfl, rfl⟩
   refine sx ?_
   refine wc_seq ?_
   refine wc_seq ?_
   refine wc_draw (id := 24) [⟨0, 0, [5]⟩, ⟨1, 1, [142]⟩, ⟨2, 3, [143]⟩, ⟨3, 0, [15]⟩, ⟨4, 0, [0]⟩, ⟨5, 16, [146]⟩, ⟨6, 48, [147]⟩, ⟨7, 112, [148]⟩, ⟨8, 0, [13]⟩, ⟨9, 0, [0]⟩, ⟨10, 512, [151]⟩, ⟨11, 1536, [152]⟩, ⟨12, 3584, [153]⟩, ⟨13, 7680, [154]⟩, ⟨14, 0, [0]⟩, ⟨15, 16384, [156]⟩, ⟨16, 49152, [157]⟩, ⟨17, 114688, [158]⟩, ⟨18, 245760, [159]⟩, ⟨19, 524272, [149, 150, 155, 160]⟩, ⟨20, 0, [0]⟩, ⟨21, 1048576, [162]⟩, ⟨22, 3145728, [163]⟩, ⟨23, 7340032, [164]⟩, ⟨24, 15728640, [165]⟩, ⟨25, 33554416, [161, 166]⟩, ⟨26, 67108863, [144, 145, 167]⟩, ⟨27, 134217727, [168]⟩, ⟨28, 268435455, [141]⟩, ⟨29, 268435455, [141]⟩, ⟨30, 536870911, [169]⟩, ⟨31, 2147483647, [170]⟩] mixed (by kernel_rfl) ?_
   refine ss ?_
   obtain ⟨l17, hy, hm1⟩ := obnd_o hm1
   have hvl17 := hy
   refine wd_r [1] (o_slv3 hy rfl rfl rfl rfl rfl rfl) rfl (by first | exact .no rfl | exact .y rfl rfl rfl rfl) rfl rfl ?_
   refine ss ?_
   refine wd_bt (dsL Kv.ds) [a1.now] rfl rfl (by simp only [flatV, cellsV, List.cons_append, List.nil_append, List.append_nil]; exact rfl) rfl rfl rfl rfl (by first | exact .no rfl | exact .y rfl rfl rfl rfl) rfl rfl ?_
   refine ss ?_
   obtain ⟨l18, hy, hm1⟩ := obnd_o hm1
   refine wd_1 [1] (n_appsc (k' := 267) hy hvl17 (by simp) rfl rfl rfl rfl rfl rfl rfl) rfl (by first | exact .no rfl | exact .y rfl rfl rfl rfl) rfl rfl rfl ?_
   refine ss ?_
   obtain ⟨y19, hy, hm1⟩ := obnd_o hm1
   refine wd_lend [267] (Maudit_Moment_sp (hm := hy)) rfl rfl rfl (by repeat (first | exact Vws.nil | apply Vws.cons | exact Vw.nil | exact Vw.d _ | exact Vw.q _ | apply Vw.a | exact Vw.fh rfl rfl (vws_dm _) | exact Vw.fh rfl rfl Vws.nil)) (by repeat (first | exact ClVs.nil | apply ClVs.cons | exact ClV.c _ | apply ClV.a | apply ClV.t)) rfl (by first | exact .no rfl | exact .y rfl rfl rfl rfl) rfl rfl rfl ?_
   refine sr ?_
   refine wc_cs hm1 ?_ ?_ <;> clear hm1 <;> intro hm1
   ·refine sr ?_
    refine sx ?_
    cases hm1
    replace hm := ocbnd_r hm
    cases hm
    exact wk_retw [(0, 0), (1, 1), (51, 1), (2, 2), (3, 3), (4, 4)] ⟨rfl, rfl⟩
   refine sx ?_
   refine wc_draw (id := 27) [⟨0, 0, [0]⟩, ⟨1, 1, [173]⟩, ⟨2, 3, [174]⟩, ⟨3, 7, [175]⟩, ⟨4, 0, [5]⟩, ⟨5, 16, [177]⟩, ⟨6, 63, [176, 178]⟩] mixed (by kernel_rfl) ?_
   refine ss ?_
   obtain ⟨m20, hy, hm1⟩ := bnd_o hm1
   refine wd_0 [4] (o_upd (f := dsB) rfl rfl rfl rfl rfl (by exact inferInstance) rfl rfl hy) rfl (by first | exact .no rfl | exact .y rfl rfl rfl rfl) rfl ?_
   refine ss ?_
   cases hm1
   exact wk_cutw [(0, 0), (1, 1), (2, 2), (3, 3), (4, 4)] ⟨_, _, _, _, rfl, rfl⟩
  refine sr ?_
  refine sx ?_
  cases hm1
  replace hm := ocbnd_r hm
  cases hm
  exact wk_retw [(0, 0), (1, 1), (51, 1), (2, 2), (3, 3), (4, 4)] ⟨rfl, rfl⟩
 rintro _ ⟨x21, m22, m23, m24, rfl, rfl⟩
 replace hm := ocbnd_n hm
 refine ss ?_
 refine wc_seq ?_
 refine wc_draw (id := 28) [⟨0, 0, [0]⟩, ⟨1, 0, [0]⟩, ⟨2, 2, [180]⟩, ⟨3, 6, [181]⟩, ⟨4, 14, [182]⟩, ⟨5, 0, [0]⟩, ⟨6, 32, [184]⟩, ⟨7, 96, [185]⟩, ⟨8, 224, [186]⟩, ⟨9, 480, [187]⟩, ⟨10, 1022, [183, 188]⟩, ⟨11, 2047, [179]⟩, ⟨12, 4095, [190]⟩, ⟨13, 8191, [189, 191]⟩] mixed (by kernel_rfl) ?_
 refine ss ?_
 refine wd_bt (dsL Kv.ds) [x21] rfl rfl (by simp only [flatV, cellsV, List.cons_append, List.nil_append, List.append_nil]; exact rfl) rfl rfl rfl rfl (by first | exact .no rfl | exact .y rfl rfl rfl rfl) rfl rfl ?_
 refine ss ?_
 obtain ⟨l25, hy, hm⟩ := obnd_o hm
 refine wd_app (k' := 289) hy rfl rfl rfl rfl rfl rfl rfl rfl (by first | exact .no rfl | exact .y rfl rfl rfl rfl) rfl rfl rfl ?_
 refine sr ?_
 refine sx ?_
 cases hm
 exact wk_retw [(0, 0), (1, 1), (51, 289), (2, 2), (3, 3), (4, 4)] ⟨rfl, rfl⟩

def Maudit_Check_l1 : List TRecord → Int → List Kv → List (List Kv) → List (Int × Int) → List (Int × TQuery) → List (Int × Bool) → Option (Ctl (Int × Int) Unit)
  | [], i, x4, x5, m6, m7, m8 =>
  some (Ctl.nxt ())
  | r9 :: xs10, i, x4, x5, m6, m7, m8 =>
  obnd (Maudit_auditor_record (Tauditor.mk x4 x5 m6 m7 m8) i r9) fun y12 =>
  sel (!decide (y12.1 = 0)) (
   some (Ctl.ret (i, y12.1))) (
   Maudit_Check_l1 xs10 (i + 1) y12.2.now y12.2.tables y12.2.begun y12.2.asked y12.2.ended)
def Maudit_Check (t1 : List Kv) (l2 : List TRecord) : Option (Int × Int) :=
 sel (decide (4096 < (l2.length : Int))) (
  some (0, 3)) (
  obnd (Mtable_Valid t1) fun y3 =>
  sel (!y3) (
   some (0, 1)) (
   obnd (
    Maudit_Check_l1 l2 0 t1 ([] : List (List Kv)) ([] : List (Int × Int)) ([] : List (Int × TQuery)) ([] : List (Int × Bool)) : Option (Ctl (Int × Int) Unit)) fun mu => ocbnd mu fun (_ : Unit) =>
   some ((l2.length : Int), 0)))
theorem Maudit_Check_sp {t1 : List Kv} {l2 : List TRecord} {y : (Int × Int)} (hm : Maudit_Check t1 l2 = some y) : Spec Tryz.prog 6 [.d (lst Kv.ds t1), .d (lst TRecord.ds l2)] [] fun u h => u = .t [vI y.1, vI y.2] ∧ h = [] := by
 refine si Tryz.func6 Tryz.ntmps6 Tryz.results6 fun B w0 ρ0 => ?_
 unfold Maudit_Check at hm
 refine sr ?_
 refine sr ?_
 refine wc_cs hm ?_ ?_ <;> clear hm <;> intro hm
 ·refine sr ?_
  refine sx ?_
  cases hm
  exact wk_r
 refine sx ?_
 refine sr ?_
 obtain ⟨y3, hy, hm⟩ := obnd_o hm
 refine wl_cq (Mtable_Valid_sp (hm := hy)) ?_
 refine ss ?_
 refine wc_cs hm ?_ ?_ <;> clear hm <;> intro hm
 ·refine sr ?_
  refine sx ?_
  cases hm
  exact wk_r
 refine sx ?_
 refine sr ?_
 refine wl_1 (o_mkmt (k := 117) dsI false rfl rfl rfl) rfl rfl rfl rfl ?_
 refine ss ?_
 refine wl_1 (o_mkmt (k := 118) TQuery.ds true rfl rfl rfl) rfl rfl rfl rfl ?_
 refine ss ?_
 refine wl_1 (o_mkmt (k := 119) dsB false rfl rfl rfl) rfl rfl rfl rfl ?_
 refine ss ?_
 first | refine wl_wk (wk_nilb 121 1 5001 22 1 rfl rfl rfl rfl) ?_ | refine wc_wk (wk_nilb 121 1 5001 22 1 rfl rfl rfl rfl) ?_
 refine sr ?_
 obtain ⟨mu1, hm1, hm⟩ := obnd_o hm
 refine wc_cut' (fun st => mu1 = Ctl.nxt () ∧ st = ⟨[(1, .d (lst TRecord.ds l2))], []⟩) ?_ ?_
 ·refine wc_block ?_
  refine wc_len 22 rfl (fun hlenm11 => ?_)
  refine wc_loopw (fun κ st => ∃ (m11 : Nat) (x4 : List Kv) (x5 : List (List Kv)) (m6 : List (Int × Int)) (m7 : List (Int × TQuery)) (m8 : List (Int × Bool)), κ = l2.length - m11 ∧ m11 ≤ l2.length ∧ Maudit_Check_l1 (l2.drop m11) (m11 : Int) x4 x5 m6 m7 m8 = some mu1 ∧ st = ⟨[(1, .d (lst TRecord.ds l2)), (6, .p 121 0), (22, .d (lst TRecord.ds l2)), (23, vI (l2.length : Int)), (24, vI (m11 : Int))], [(117, some (mtT false dsI m6)), (118, some (mtT true TQuery.ds m7)), (119, some (mtT false dsB m8)), (121, some (.box 62 [.d (lst Kv.ds x4), .h 5002, .mp 117, .mp 118, .mp 119])), (5002, some (arrT 22 1 (dsL Kv.ds) x5))]⟩) [(117, 117), (118, 118), (119, 119), (121, 121), (5002, 5001)] ⟨0, _, _, _, _, _, rfl, Nat.zero_le _, hm1, rfl⟩ ?_
  rintro κ _ ⟨m11, x4, x5, m6, m7, m8, rfl, hlem11, hm1, rfl⟩
  rcases Nat.lt_or_ge m11 l2.length with hltm11 | hgem11
  ·obtain ⟨r9, hxm11, hdr⟩ := drop_c hltm11
   rw [hdr, Maudit_Check_l1.eq_2] at hm1
   refine sr ?_
   refine wc_seq ?_
   refine wc_cond_tt (lt_t hltm11) rfl ?_
   refine sx ?_
   refine sr ?_
   refine wl_r (o_ixm (ys := [dI r9.Kind, lst TWrite.ds r9.Writes, dS r9.Key, dS r9.Value, dB r9.Has, dI r9.Query, dI r9.Receipt.Query.Kind, lst Rng.ds r9.Receipt.Query.Ranges, dS r9.Receipt.Query.Key, dI r9.Receipt.Query.Count, lst TVisit.ds r9.Receipt.First, lst TVisit.ds r9.Receipt.Second]) hxm11 rfl rfl rfl rfl) rfl rfl rfl ?_
   refine sr ?_
   obtain ⟨y12, hy, hm1⟩ := obnd_o hm1
   refine wl_gq (Maudit_auditor_record_sp (hm := hy)) [(0, 121), (1, 5002), (2, 117), (3, 118), (4, 119)] 203200 (vI y12.1) [(121, some (.box 62 [.d (lst Kv.ds y12.2.now), .h 203251, .mp 117, .mp 118, .mp 119])), (5002, none), (203251, some (arrT 22 1 (dsL Kv.ds) y12.2.tables)), (117, some (mtT false dsI y12.2.begun)), (118, some (mtT true TQuery.ds y12.2.asked)), (119, some (mtT false dsB y12.2.ended))] ?_
   refine sr ?_
   refine wc_cs hm1 ?_ ?_ <;> clear hm1 <;> intro hm1
   ·refine sr ?_
    refine sx ?_
    cases hm1
    replace hm := ocbnd_r hm
    cases hm
    exact wk_r
   refine sx ?_
   refine sr ?_
   refine wl_r (o_inc hltm11 hlenm11 rfl rfl rfl) rfl rfl rfl ?_
   refine ss ?_
   exact wk_loopw [(117, 117), (118, 118), (119, 119), (121, 121), (5002, 203251)] ⟨m11 + 1, _, _, _, _, _, rfl, hltm11, hm1, rfl⟩ (by omega)
  ·rw [drop_n hgem11, Maudit_Check_l1.eq_1] at hm1
   refine sr ?_
   refine wc_seq ?_
   refine wc_cond_ff (lt_f hgem11) rfl ?_
   refine wc_exit ?_
   refine ss ?_
   cases hm1
   exact wk_cutw [] ⟨rfl, rfl⟩
 rintro _ ⟨rfl, rfl⟩
 replace hm := ocbnd_n hm
 refine sr ?_
 refine sx ?_
 cases hm
 exact wk_r

end Go.Proofs.YtohpjdeohpamaaaGreat
