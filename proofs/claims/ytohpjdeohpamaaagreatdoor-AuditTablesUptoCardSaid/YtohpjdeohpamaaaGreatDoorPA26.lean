/-
  Lemmas: Models and walks
-/
import Derived.Test.YtohpjdeohpamaaaGreatDoorPA19
import Derived.Test.YtohpjdeohpamaaaGreatDoorPA24
import Derived.Test.YtohpjdeohpamaaaGreatDoorPA25
set_option linter.unusedSimpArgs false
set_option linter.unusedVariables false
namespace Go.Proofs.YtohpjdeohpamaaaGreatDoor
open Go.RowKit
set_option maxRecDepth 100000
set_option maxHeartbeats 4000000
attribute [local irreducible] WK WC WL Wk Rel OpD OpV WD WO sel bnd obnd app lget lsl sget ssl scat letg iquo irem Op.bytesLess
attribute [local irreducible] qchk qranges union
def Mref20_Do (t1 : List Kv) (w2 : TWrite) : Option (List Kv × Int) :=
 bnd (Mref20_ValidWrite w2) fun y3 =>
 sel (!y3) (
  some ([], 1)) (
  sel w2.Delete (
   obnd (Mref20_without t1 w2.Key) fun y4 =>
   some (y4, 0)) (
   obnd (Mref20_Put t1 (Kv.mk w2.Key w2.Value)) fun y5 =>
   some (y5.1, y5.2)))
theorem Mref20_Do_sp {t1 : List Kv} {w2 : TWrite} {y : (List Kv × Int)} (hm : Mref20_Do t1 w2 = some y) : Spec Tryz.prog 64 [.d (lst Kv.ds t1), .a [vS w2.Key, vS w2.Value, vB w2.Delete]] [] fun u h => u = .t [.d (lst Kv.ds y.1), vI y.2] ∧ h = [] := by
 refine si Tryz.func64 Tryz.ntmps64 Tryz.results64 fun B w0 ρ0 => ?_
 unfold Mref20_Do at hm
 refine sr ?_
 refine sr ?_
 obtain ⟨y3, hy, hm⟩ := bnd_o hm
 refine wl_cq (Mref20_ValidWrite_sp (hm := hy)) ?_
 refine ss ?_
 refine wc_cs hm ?_ ?_ <;> clear hm <;> intro hm
 ·refine sr ?_
  refine sx ?_
  cases hm
  exact wk_r
 refine sx ?_
 refine sr ?_
 refine wc_cs hm ?_ ?_ <;> clear hm <;> intro hm
 ·refine sr ?_
  obtain ⟨y4, hy, hm⟩ := obnd_o hm
  refine wl_cq (Mref20_without_sp (hm := hy)) ?_
  refine sx ?_
  cases hm
  exact wk_r
 refine sx ?_
 refine sr ?_
 obtain ⟨y5, hy, hm⟩ := obnd_o hm
 refine wl_cq (Mref20_Put_sp (hm := hy)) ?_
 refine sx ?_
 cases hm
 exact wk_r

def Mref20_Apply_l1 : List TWrite → List Kv → Option (Ctl (List Kv × Int) (List Kv))
  | [], t4 =>
  some (Ctl.nxt t4)
  | r5 :: xs6, t4 =>
  obnd (Mref20_Do t4 r5) fun y8 =>
  sel (!decide (y8.2 = 0)) (
   some (Ctl.ret ([], y8.2))) (
   Mref20_Apply_l1 xs6 y8.1)
def Mref20_Apply (t1 : List Kv) (l2 : List TWrite) : Option (List Kv × Int) :=
 obnd (Mref20_Valid t1) fun y3 =>
 sel (!y3) (
  some ([], 1)) (
  obnd (
   Mref20_Apply_l1 l2 t1 : Option (Ctl (List Kv × Int) (List Kv))) fun mu => ocbnd mu fun t9 =>
  obnd (app ([] : List Kv) t9) fun l10 =>
  some (l10, 0))
theorem Mref20_Apply_sp {t1 : List Kv} {l2 : List TWrite} {y : (List Kv × Int)} (hm : Mref20_Apply t1 l2 = some y) : Spec Tryz.prog 26 [.d (lst Kv.ds t1), .d (lst TWrite.ds l2)] [] fun u h => u = .t [.d (lst Kv.ds y.1), vI y.2] ∧ h = [] := by
 refine si Tryz.func26 Tryz.ntmps26 Tryz.results26 fun B w0 ρ0 => ?_
 unfold Mref20_Apply at hm
 refine sr ?_
 refine sr ?_
 obtain ⟨y3, hy, hm⟩ := obnd_o hm
 refine wl_cq (Mref20_Valid_sp (hm := hy)) ?_
 refine ss ?_
 refine wc_cs hm ?_ ?_ <;> clear hm <;> intro hm
 ·refine sr ?_
  refine sx ?_
  cases hm
  exact wk_r
 refine sx ?_
 refine sr ?_
 obtain ⟨mu1, hm1, hm⟩ := obnd_o hm
 refine wc_cut' (fun st => ∃ (t9 : List Kv), mu1 = Ctl.nxt t9 ∧ st = ⟨[(0, .d (lst Kv.ds t9))], []⟩) ?_ ?_
 ·refine wc_block ?_
  refine wc_len 13 rfl (fun hlenm7 => ?_)
  refine wc_loopw (fun κ st => ∃ (m7 : Nat) (t4 : List Kv), κ = l2.length - m7 ∧ m7 ≤ l2.length ∧ Mref20_Apply_l1 (l2.drop m7) t4 = some mu1 ∧ st = ⟨[(0, .d (lst Kv.ds t4)), (13, .d (lst TWrite.ds l2)), (14, vI (l2.length : Int)), (15, vI (m7 : Int))], []⟩) [] ⟨0, _, rfl, Nat.zero_le _, hm1, rfl⟩ ?_
  rintro κ _ ⟨m7, t4, rfl, hlem7, hm1, rfl⟩
  rcases Nat.lt_or_ge m7 l2.length with hltm7 | hgem7
  ·obtain ⟨r5, hxm7, hdr⟩ := drop_c hltm7
   rw [hdr, Mref20_Apply_l1.eq_2] at hm1
   refine sr ?_
   refine wc_seq ?_
   refine wc_cond_tt (lt_t hltm7) rfl ?_
   refine sx ?_
   refine sr ?_
   refine wl_r (o_ixm (ys := [dS r5.Key, dS r5.Value, dB r5.Delete]) hxm7 rfl rfl rfl rfl) rfl rfl rfl ?_
   refine sr ?_
   obtain ⟨y8, hy, hm1⟩ := obnd_o hm1
   refine wl_cq (Mref20_Do_sp (hm := hy)) ?_
   refine sr ?_
   refine wc_cs hm1 ?_ ?_ <;> clear hm1 <;> intro hm1
   ·refine sr ?_
    refine sx ?_
    cases hm1
    replace hm := ocbnd_r hm
    cases hm
    exact wk_r
   refine sx ?_
   refine sr ?_
   refine sr ?_
   refine wl_r (o_inc hltm7 hlenm7 rfl rfl rfl) rfl rfl rfl ?_
   refine ss ?_
   exact wk_loopw [] ⟨m7 + 1, _, rfl, hltm7, hm1, rfl⟩ (by omega)
  ·rw [drop_n hgem7, Mref20_Apply_l1.eq_1] at hm1
   refine sr ?_
   refine wc_seq ?_
   refine wc_cond_ff (lt_f hgem7) rfl ?_
   refine wc_exit ?_
   refine ss ?_
   cases hm1
   exact wk_cutw [] ⟨_, rfl, rfl⟩
 rintro _ ⟨t9, rfl, rfl⟩
 replace hm := ocbnd_n hm
 refine sr ?_
 obtain ⟨l10, hy, hm⟩ := obnd_o hm
 refine wl_1 (n_appn (k := 131) hy rfl rfl rfl rfl rfl rfl) rfl rfl rfl rfl ?_
 refine sx ?_
 cases hm
 exact wk_r

end Go.Proofs.YtohpjdeohpamaaaGreatDoor
