/-
  Lemmas: Totality of what the laws of the audit draw
-/
import Derived.Test.YtohpjdeohpamaaaGreatDoorPA19
import Derived.Test.YtohpjdeohpamaaaGreatDoorPA24
import Derived.Test.YtohpjdeohpamaaaGreatDoorPA25
import Derived.Test.YtohpjdeohpamaaaGreatDoorPA18
import Derived.Test.YtohpjdeohpamaaaGreatDoorPA22
import Derived.Test.YtohpjdeohpamaaaGreatDoorPA26
import Derived.Test.YtohpjdeohpamaaaGreatDoorPA9
import Derived.Test.YtohpjdeohpamaaaGreatDoorPA27
import Derived.Test.YtohpjdeohpamaaaGreatDoorPA28
import Derived.Test.YtohpjdeohpamaaaGreatDoorPA29
import Derived.Test.YtohpjdeohpamaaaGreatDoorGAuditMomentsX1
import Derived.Test.YtohpjdeohpamaaaGreatDoorGAuditMomentsX2
set_option linter.unusedSimpArgs false
set_option linter.unusedVariables false
namespace Go.Proofs.YtohpjdeohpamaaaGreatDoor
open Go.RowKit
set_option maxRecDepth 100000
set_option maxHeartbeats 4000000
attribute [local irreducible] WK WC WL Wk Rel OpD OpV WD WO sel bnd obnd app lget lsl sget ssl scat letg iquo irem Op.bytesLess
attribute [local irreducible] qchk qranges union
def Mref20_Get_l1 (key2 : ByteArray) : List Kv → Ctl (ByteArray × Bool) Unit
  | [] =>
  Ctl.nxt ()
  | r3 :: xs4 =>
  sel (decide (r3.key = key2)) (
   Ctl.ret (r3.val, true)) (
   Mref20_Get_l1 key2 xs4)
def Mref20_Get (t1 : List Kv) (key2 : ByteArray) : (ByteArray × Bool) :=
 bnd (
  Mref20_Get_l1 key2 t1 : Ctl (ByteArray × Bool) Unit) fun mu => cbnd mu fun (_ : Unit) =>
 (⟨#[]⟩, false)
theorem Mref20_Get_sp {t1 : List Kv} {key2 : ByteArray} {y : (ByteArray × Bool)} (hm : Mref20_Get t1 key2 = y) : Spec Tryz.prog 38 [.d (lst Kv.ds t1), vS key2] [] fun u h => u = .t [vS y.1, vB y.2] ∧ h = [] := by
 refine si Tryz.func38 Tryz.ntmps38 Tryz.results38 fun B w0 ρ0 => ?_
 unfold Mref20_Get at hm
 refine sr ?_
 refine sr ?_
 obtain ⟨mu1, hm1, hm⟩ := bnd_o hm
 refine wc_cut' (fun st => mu1 = Ctl.nxt () ∧ st = ⟨[], []⟩) ?_ ?_
 ·refine wc_block ?_
  refine wc_len 8 rfl (fun hlenm5 => ?_)
  refine wc_loopw (fun κ st => ∃ (m5 : Nat) , κ = t1.length - m5 ∧ m5 ≤ t1.length ∧ Mref20_Get_l1 key2 (t1.drop m5) = mu1 ∧ st = ⟨[(1, vS key2), (8, .d (lst Kv.ds t1)), (9, vI (t1.length : Int)), (10, vI (m5 : Int))], []⟩) [] ⟨0, rfl, Nat.zero_le _, hm1, rfl⟩ ?_
  rintro κ _ ⟨m5, rfl, hlem5, hm1, rfl⟩
  rcases Nat.lt_or_ge m5 t1.length with hltm5 | hgem5
  ·obtain ⟨r3, hxm5, hdr⟩ := drop_c hltm5
   rw [hdr, Mref20_Get_l1.eq_2] at hm1
   refine sr ?_
   refine wc_seq ?_
   refine wc_cond_tt (lt_t hltm5) rfl ?_
   refine sx ?_
   refine sr ?_
   refine wl_r (o_ixm (ys := [dS r3.key, dS r3.val]) hxm5 rfl rfl rfl rfl) rfl rfl rfl ?_
   refine sr ?_
   refine wc_cs hm1 ?_ ?_ <;> clear hm1 <;> intro hm1
   ·refine sr ?_
    refine sx ?_
    subst hm1
    replace hm := cbnd_r hm
    subst hm
    exact wk_r
   refine sx ?_
   refine sr ?_
   refine wl_r (o_inc hltm5 hlenm5 rfl rfl rfl) rfl rfl rfl ?_
   refine ss ?_
   exact wk_loopw [] ⟨m5 + 1, rfl, hltm5, hm1, rfl⟩ (by omega)
  ·rw [drop_n hgem5, Mref20_Get_l1.eq_1] at hm1
   refine sr ?_
   refine wc_seq ?_
   refine wc_cond_ff (lt_f hgem5) rfl ?_
   refine wc_exit ?_
   refine ss ?_
   subst hm1
   exact wk_cutw [] ⟨rfl, rfl⟩
 rintro _ ⟨rfl, rfl⟩
 replace hm := cbnd_n hm
 refine sr ?_
 refine sx ?_
 subst hm
 exact wk_r

def Mref37_Tables_l1 : List TRecord → List Kv → List (List Kv) → Option (Ctl (List (List Kv) × Int) (List (List Kv)))
  | [], t4, out5 =>
  some (Ctl.nxt out5)
  | r6 :: xs7, t4, out5 =>
  sel (decide (r6.Kind = 1)) (
   obnd (Mref20_Apply t4 r6.Writes) fun y9 =>
   sel (!decide (y9.2 = 0)) (
    some (Ctl.ret ([], y9.2))) (
    obnd (app out5 ([y9.1] : List (List Kv))) fun l10 =>
    Mref37_Tables_l1 xs7 y9.1 l10)) (
   obnd (app out5 ([t4] : List (List Kv))) fun l11 =>
   Mref37_Tables_l1 xs7 t4 l11)
def Mref37_Tables (t1 : List Kv) (l2 : List TRecord) : Option (List (List Kv) × Int) :=
 sel (decide (4096 < (l2.length : Int))) (
  some ([], 3)) (
  obnd (Mref20_Valid t1) fun y3 =>
  sel (!y3) (
   some ([], 1)) (
   obnd (
    Mref37_Tables_l1 l2 t1 [] : Option (Ctl (List (List Kv) × Int) (List (List Kv)))) fun mu => ocbnd mu fun out12 =>
   some (out12, 0)))
def Mref37_Moment_l1 (q1 : TQuery) (a2 : TAnswer) : List (List Kv) → Int → Option (Ctl (Int × Bool) Unit)
  | [], i =>
  some (Ctl.nxt ())
  | r4 :: xs5, i =>
  obnd (Mref22_Answer r4 q1) fun y7 =>
  sel (decide (y7.2 = 0)) (
   obnd (Mref22_SameAnswer a2 y7.1) fun y8 =>
   sel y8 (
    some (Ctl.ret (i, true))) (
    Mref37_Moment_l1 q1 a2 xs5 (i + 1))) (
   Mref37_Moment_l1 q1 a2 xs5 (i + 1))
def Mref37_Moment (q1 : TQuery) (a2 : TAnswer) (tables3 : List (List Kv)) : Option (Int × Bool) :=
 obnd (
  Mref37_Moment_l1 q1 a2 tables3 0 : Option (Ctl (Int × Bool) Unit)) fun mu => ocbnd mu fun (_ : Unit) =>
 some (0, false)
theorem Mref37_Moment_sp {q1 : TQuery} {a2 : TAnswer} {tables3 : List (List Kv)} {y : (Int × Bool)} (hm : Mref37_Moment q1 a2 tables3 = some y) : Spec Tryz.prog 18 [.a [vI q1.Kind, .d (lst Rng.ds q1.Ranges), vS q1.Key, vI q1.Count], .a [.d (lst Kv.ds a2.Rows), vI a2.Fold.Count, vI a2.Fold.Numbers, vI a2.Fold.Sum, vI a2.Fold.Low, vI a2.Fold.High, vS a2.Fold.First, vS a2.Fold.Last], .d (lst (dsL Kv.ds) tables3)] [] fun u h => u = .t [vI y.1, vB y.2] ∧ h = [] := by
 refine si Tryz.func18 Tryz.ntmps18 Tryz.results18 fun B w0 ρ0 => ?_
 unfold Mref37_Moment at hm
 refine sr ?_
 refine sr ?_
 obtain ⟨mu1, hm1, hm⟩ := obnd_o hm
 refine wc_cut' (fun st => mu1 = Ctl.nxt () ∧ st = ⟨[], []⟩) ?_ ?_
 ·refine wc_block ?_
  refine wc_len 12 rfl (fun hlenm6 => ?_)
  refine wc_loopw (fun κ st => ∃ (m6 : Nat) , κ = tables3.length - m6 ∧ m6 ≤ tables3.length ∧ Mref37_Moment_l1 q1 a2 (tables3.drop m6) (m6 : Int) = some mu1 ∧ st = ⟨[(3, .p 103 0), (4, .p 104 0), (12, .d (lst (dsL Kv.ds) tables3)), (13, vI (tables3.length : Int)), (14, vI (m6 : Int))], [(103, some (.box 25 [vI q1.Kind, .d (lst Rng.ds q1.Ranges), vS q1.Key, vI q1.Count])), (104, some (.box 30 [.d (lst Kv.ds a2.Rows), vI a2.Fold.Count, vI a2.Fold.Numbers, vI a2.Fold.Sum, vI a2.Fold.Low, vI a2.Fold.High, vS a2.Fold.First, vS a2.Fold.Last]))]⟩) [(103, 103), (104, 104)] ⟨0, rfl, Nat.zero_le _, hm1, rfl⟩ ?_
  rintro κ _ ⟨m6, rfl, hlem6, hm1, rfl⟩
  rcases Nat.lt_or_ge m6 tables3.length with hltm6 | hgem6
  ·obtain ⟨r4, hxm6, hdr⟩ := drop_c hltm6
   rw [hdr, Mref37_Moment_l1.eq_2] at hm1
   refine sr ?_
   refine wc_seq ?_
   refine wc_cond_tt (lt_t hltm6) rfl ?_
   refine sx ?_
   refine sr ?_
   refine wl_r (o_ixm (ys := [lst Kv.ds r4]) hxm6 rfl rfl rfl rfl) rfl rfl rfl ?_
   refine sr ?_
   obtain ⟨y7, hy, hm1⟩ := obnd_o hm1
   refine wl_cq (Mref22_Answer_sp (hm := hy)) ?_
   refine sr ?_
   refine wl_sg hm1 ?_ ?_ <;> clear hm1 <;> intro hm1
   ·refine ss ?_
    obtain ⟨y8, hy, hm1⟩ := obnd_o hm1
    refine wl_cq (Mref22_SameAnswer_sp (hm := hy)) ?_
    refine ss ?_
    refine wc_cs hm1 ?_ ?_ <;> clear hm1 <;> intro hm1
    ·refine sr ?_
     refine sx ?_
     cases hm1
     replace hm := ocbnd_r hm
     cases hm
     exact wk_r
    refine sx ?_
    refine sr ?_
    refine wl_r (o_inc hltm6 hlenm6 rfl rfl rfl) rfl rfl rfl ?_
    refine ss ?_
    exact wk_loopw [(103, 103), (104, 104)] ⟨m6 + 1, rfl, hltm6, hm1, rfl⟩ (by omega)
   refine ss ?_
   refine wc_cond_f rfl ?_
   refine sx ?_
   refine sr ?_
   refine wl_r (o_inc hltm6 hlenm6 rfl rfl rfl) rfl rfl rfl ?_
   refine ss ?_
   exact wk_loopw [(103, 103), (104, 104)] ⟨m6 + 1, rfl, hltm6, hm1, rfl⟩ (by omega)
  ·rw [drop_n hgem6, Mref37_Moment_l1.eq_1] at hm1
   refine sr ?_
   refine wc_seq ?_
   refine wc_cond_ff (lt_f hgem6) rfl ?_
   refine wc_exit ?_
   refine ss ?_
   cases hm1
   exact wk_cutw [] ⟨rfl, rfl⟩
 rintro _ ⟨rfl, rfl⟩
 replace hm := ocbnd_n hm
 refine sr ?_
 refine sx ?_
 cases hm
 exact wk_r

end Go.Proofs.YtohpjdeohpamaaaGreatDoor
namespace Go.Proofs.YtohpjdeohpamaaaGreatDoor
open Go.RowKit
section
variable {k : ByteArray} {t A C : List Kv} {b : Option Kv}
end
theorem apply_len (t : List Kv) (l : List TWrite) : (applyW t l).1.length ≤ 1024 := by
  by_cases h : (applyW t l).2 = 0
  · exact ((tvalid_iff _).1 (apply_valid h)).1
  · unfold applyW at h ⊢
    by_cases ht : tvalid t = true
    · rw [if_pos ht] at h ⊢
      cases e : actl l t with
      | nxt t' => rw [e] at h; exact absurd rfl h
      | ret r => simp [(actl_ret e).1]
    · rw [if_neg ht]; simp
end Go.Proofs.YtohpjdeohpamaaaGreatDoor
namespace Go.Proofs.YtohpjdeohpamaaaGreatDoor
open Go.RowKit
open Classical in
theorem numD_f {mn : Bool} {d : ByteArray} (h : badN mn d) : numD mn d = (0, false) := if_pos h
theorem numD_t {mn : Bool} {d : ByteArray} (h : ¬ badN mn d) : numD mn d = (if mn then - (dval d d.size : Int) else dval d d.size, true) := if_neg h
theorem dval_lt {d : ByteArray} : ∀ {k : Nat}, (∀ j, j < k → isD d j) → dval d k < 10 ^ k
  | 0, _ => by simp [dval]
  | k + 1, h => by
    have h1 := dval_lt (k := k) fun j hj => h j (by omega)
    have h2 := h k (by omega)
    unfold isD at h2
    rw [dval, Nat.pow_succ]; omega
theorem dval_mono {d : ByteArray} {k m : Nat} (h : k ≤ m) : dval d k ≤ dval d m := by
  induction m with
  | zero => rw [Nat.le_zero.1 h]; exact Nat.le_refl _
  | succ m ih =>
    rcases Nat.lt_or_ge k (m + 1) with h1 | h1
    · have := ih (by omega); rw [dval]; omega
    · rw [show k = m + 1 by omega]; exact Nat.le_refl _
theorem dval_big {d : ByteArray} (h0 : 49 ≤ (d.get! 0).toNat) : ∀ {k : Nat}, 10 ^ k ≤ dval d (k + 1)
  | 0 => by simp [dval]; omega
  | k + 1 => by
    have := dval_big h0 (k := k)
    rw [dval, Nat.pow_succ]; omega
theorem dval_13 {d : ByteArray} {k : Nat} (h : ∀ j, j < k → isD d j) (hk : k ≤ 13) : dval d k < 10000000000000 := by
  have h1 := dval_lt h
  have h2 : 10 ^ k ≤ 10 ^ 13 := Nat.pow_le_pow_right (by decide) hk
  omega
theorem badN_1 {mn : Bool} {d : ByteArray} (h : d.size = 0) : badN mn d := .inl h
theorem badN_2 {mn : Bool} {d : ByteArray} (h : 13 < d.size) : badN mn d := .inr (.inl h)
theorem badN_4 {mn : Bool} {d : ByteArray} (k : Nat) (h : k < d.size) (h1 : ¬ isD d k) : badN mn d := .inr (.inr (.inr (.inl fun h2 => h1 (h2 k h))))
theorem badN_5 {mn : Bool} {d : ByteArray} (h : 1000000000000 < dval d d.size) : badN mn d := .inr (.inr (.inr (.inr h)))
theorem get_lt (d : ByteArray) (m : Nat) : (d.get! m).toNat < 256 := (d.get! m).toNat_lt
attribute [local irreducible] WK WC WL Wk Rel OpD OpV WD WO Op.bytesLess cmp vk vb vld emp contains
attribute [local irreducible] numD num
theorem good_num {mn : Bool} {d : ByteArray} (h1 : d.size ≠ 0) (h2 : d.size ≤ 13) (h3 : (d.get! 0).toNat = 48 → d.size ≤ 1 ∧ mn = false) (h4 : ∀ j, j < d.size → isD d j) (h5 : dval d d.size ≤ 1000000000000) : ¬ badN mn d := by
  rintro (h | h | ⟨h, h'⟩ | h | h)
  · exact h1 h
  · omega
  · obtain ⟨g1, g2⟩ := h3 h
    rcases h' with h' | h'
    · omega
    · rw [g2] at h'; cases h'
  · exact h h4
  · omega
end Go.Proofs.YtohpjdeohpamaaaGreatDoor
namespace Go.Proofs.YtohpjdeohpamaaaGreatDoor
open Go.RowKit
theorem sget_lt {s : ByteArray} {m : Nat} (h : m < s.size) : sget s (m : Int) = some ((s.get! m).toNat : Int) := by
  unfold sget; rw [if_pos (by omega)]; simp
theorem dec_ascii {s : ByteArray} {i : Nat} (h : i < s.size) (hb : (s.get! i).toNat < 128) : Utf8.decode s i = ((s.get! i).toNat, 1) := by
  unfold Utf8.decode
  simp only [Nat.add_zero, Utf8.runeError]
  rw [if_pos (by simpa using hb)]
theorem obnd_if {α β : Type} {p : Prop} [Decidable p] (a b : α) (k : α → Option β) : obnd (if p then some a else some b) k = k (if p then a else b) := by split <;> rfl
theorem i32w_id {a : Int} (h1 : -2147483648 ≤ a) (h2 : a ≤ 2147483647) : IntKind.i32.wrap a = a := wi32 h1 h2
theorem u8w_id {a : Int} (h1 : 0 ≤ a) (h2 : a ≤ 255) : IntKind.u8.wrap a = a := wu8 h1 h2
theorem ref21_num_l1 (s : ByteArray) (hs : s.size ≤ 13) : ∀ (fuel m : Nat), s.size - m < fuel → m ≤ s.size → (∀ j, j < m → isD s j) →
    Mref21_Number_l1 s fuel (dval s m : Int) (m : Int) = some (open Classical in if allD s then .nxt (dval s s.size : Int) else .ret (0, false))
  | 0, _, h, _, _ => absurd h (by omega)
  | fuel + 1, m, h, hm, hd => by
    rw [Mref21_Number_l1.eq_2, sel_ite]
    by_cases hi : m < s.size
    · rw [if_pos (by simpa using hi), obnd_some, ocbnd_nxt, sget_lt hi]
      simp only [obnd_some]
      have hb := get_lt s m
      have hv := dval_13 hd (by omega)
      by_cases hdm : isD s m
      · have hdm' := hdm
        unfold isD at hdm'
        have e1 : decide (((s.get! m).toNat : Int) < 48) = false := decide_eq_false (by omega)
        have e2 : decide (57 < ((s.get! m).toNat : Int)) = false := decide_eq_false (by omega)
        rw [e1, sel_false, e2, obnd_some, sel_false, u8w_id (by omega) (by omega), i64w_id (a := 10 * (dval s m : Int)) (by omega) (by omega), i64w_id (a := ((s.get! m).toNat : Int) - 48) (by omega) (by omega), i64w_id (by omega) (by omega), i64w_id (by omega) (by omega)]
        have := ref21_num_l1 s hs fuel (m + 1) (by omega) (by omega) (fun j hj => by
          rcases Nat.lt_or_ge j m with h1 | h1
          · exact hd j h1
          · rw [show j = m by omega]; exact hdm)
        have e3 : ((dval s (m + 1) : Nat) : Int) = 10 * (dval s m : Int) + (((s.get! m).toNat : Int) - 48) := by rw [dval]; omega
        rw [e3] at this
        rw [← this]; congr 1
      · have hna : ¬ allD s := fun h => hdm (h m hi)
        rw [if_neg hna]
        unfold isD at hdm
        by_cases h48 : ((s.get! m).toNat : Int) < 48
        · rw [decide_eq_true h48, sel_true, obnd_some, sel_true]
        · rw [decide_eq_false h48, sel_false, obnd_some, decide_eq_true (by omega), sel_true]
    · rw [if_neg (by simpa using hi), obnd_some, ocbnd_ret]
      obtain rfl : m = s.size := by omega
      rw [if_pos (show allD s from fun k hk => hd k hk)]
theorem fold_num_l1 (s : ByteArray) (hs : s.size ≤ 4000000000) : ∀ (fuel m : Nat), s.size - m < fuel → m ≤ s.size → (∀ j, j < m → isD s j) → dval s m ≤ 1000000000000 →
    Mfold_Number_l1 s fuel (dval s m : Int) m = some (open Classical in if allD s ∧ dval s s.size ≤ 1000000000000 then .nxt (dval s s.size : Int) else .ret (0, false))
  | 0, _, h, _, _, _ => absurd h (by omega)
  | fuel + 1, m, h, hm, hd, hv => by
    rw [Mfold_Number_l1.eq_2, sel_ite]
    by_cases hi : m < s.size
    · rw [if_pos (by simpa using hi), bnd_eq]
      have hb := get_lt s m
      by_cases hdm : isD s m
      · have hdm' := hdm
        unfold isD at hdm'
        rw [dec_ascii hi (by omega)]
        have e1 : decide (((s.get! m).toNat : Int) < 48) = false := decide_eq_false (by omega)
        have e2 : decide (57 < ((s.get! m).toNat : Int)) = false := decide_eq_false (by omega)
        simp only
        rw [e1, sel_false, e2, obnd_some, sel_false, i32w_id (by omega) (by omega), i64w_id (a := (dval s m : Int) * 10) (by omega) (by omega), i64w_id (a := ((s.get! m).toNat : Int) - 48) (by omega) (by omega), i64w_id (by omega) (by omega)]
        have e3 : ((dval s (m + 1) : Nat) : Int) = (dval s m : Int) * 10 + (((s.get! m).toNat : Int) - 48) := by rw [dval]; omega
        rw [← e3, sel_ite]
        by_cases hbig : dval s (m + 1) ≤ 1000000000000
        · rw [if_neg (by simp; omega)]
          exact fold_num_l1 s hs fuel (m + 1) (by omega) (by omega) (fun j hj => by
            rcases Nat.lt_or_ge j m with h1 | h1
            · exact hd j h1
            · rw [show j = m by omega]; exact hdm) hbig
        · rw [if_pos (by simp; omega), if_neg]
          rintro ⟨-, h2⟩
          have := dval_mono (d := s) (show m + 1 ≤ s.size by omega)
          omega
      · have hna : ¬ (allD s ∧ dval s s.size ≤ 1000000000000) := fun h => hdm (h.1 m hi)
        rw [if_neg hna]
        have hrej : (Utf8.decode s m).1 < 48 ∨ 57 < (Utf8.decode s m).1 := by
          apply Classical.byContradiction
          intro hc
          have := dec_lt (s := s) (i := m) (c := (Utf8.decode s m).1) (wd := (Utf8.decode s m).2) rfl (by omega)
          apply hdm
          unfold isD
          omega
        by_cases h48 : ((Utf8.decode s m).1 : Int) < 48
        · rw [decide_eq_true h48, sel_true, obnd_some, sel_true]
        · rw [decide_eq_false h48, sel_false, obnd_some, decide_eq_true (by omega), sel_true]
    · rw [if_neg (by simpa using hi)]
      obtain rfl : m = s.size := by omega
      rw [if_pos (show allD s ∧ dval s s.size ≤ 1000000000000 from ⟨fun k hk => hd k hk, hv⟩)]
theorem ba_size0 {s : ByteArray} : s = ⟨#[]⟩ ↔ s.size = 0 := by
  constructor
  · rintro rfl; rfl
  · intro h
    obtain ⟨d⟩ := s
    have : d = #[] := Array.eq_empty_of_size_eq_zero h
    rw [this]
theorem num_tail (s : ByteArray) (hs : s.size ≤ 4000000000) (neg : Bool) :
    (obnd (sel (decide (s = ⟨#[]⟩)) (some true) (obnd (sget s 0) fun b7 => sel (decide (b7 = 48)) (sel (decide (1 < (s.size : Int))) (some true) (some neg)) (some false)) : Option Bool) fun x8 =>
      sel x8 (some (0, false)) (obnd (Mfold_Number_l1 s FU 0 0 : Option (Ctl (Int × Bool) Int)) fun mu => ocbnd mu fun n13 => sel neg (some (i64w (-n13), true)) (some (n13, true)))) =
    some (numD neg s) ∧
    (obnd (sel (decide ((s.size : Int) = 0)) (some true) (sel (decide (13 < (s.size : Int))) (some true) (obnd (sget s 0) fun b7 => sel (decide (b7 = 48)) (sel (decide (1 < (s.size : Int))) (some true) (some neg)) (some false))) : Option Bool) fun x8 =>
      sel x8 (some (0, false)) (obnd (Mref21_Number_l1 s FU 0 0 : Option (Ctl (Int × Bool) Int)) fun mu => ocbnd mu fun n15 => sel (decide (1000000000000 < n15)) (some (0, false)) (sel neg (some (i64w (-n15), true)) (some (n15, true))))) =
    some (numD neg s) := by
  by_cases h0 : s.size = 0
  · rw [decide_eq_true (ba_size0.2 h0), sel_true, obnd_some, sel_true, decide_eq_true (by omega), sel_true, obnd_some, sel_true, numD_f (badN_1 h0)]
    exact ⟨rfl, rfl⟩
  have hp := fold_num_l1 s hs FU 0 (by unfold FU; omega) (Nat.zero_le _) (fun j h => absurd h (by omega)) (by simp [dval])
  have e0 : ((dval s 0 : Nat) : Int) = 0 := rfl
  rw [e0] at hp
  have es := sget_lt (s := s) (m := 0) (by omega)
  rw [show ((0 : Nat) : Int) = 0 from rfl] at es
  rw [decide_eq_false (fun h => h0 (ba_size0.1 h)), decide_eq_false (show ¬ (s.size : Int) = 0 by omega), sel_false, sel_false, es, obnd_some]
  have hb := get_lt s 0
  -- a leading nought
  by_cases hz : (s.get! 0).toNat = 48 ∧ (1 < s.size ∨ neg = true)
  · have hbad : badN neg s := .inr (.inr (.inl hz))
    have e1 : decide (((s.get! 0).toNat : Int) = 48) = true := decide_eq_true (by omega)
    have e2 : sel (decide (1 < (s.size : Int))) (some true) (some neg) = some true := by
      by_cases h1 : 1 < s.size
      · rw [decide_eq_true (by omega), sel_true]
      · rw [decide_eq_false (by omega), sel_false, hz.2.resolve_left h1]
    rw [e1, sel_true, e2, obnd_some, sel_true, numD_f hbad]
    refine ⟨rfl, ?_⟩
    by_cases h13 : 13 < s.size
    · rw [decide_eq_true (by omega), sel_true, obnd_some, sel_true]
    · rw [decide_eq_false (by omega), sel_false, obnd_some, sel_true]
  · have e3 : sel (decide (((s.get! 0).toNat : Int) = 48)) (sel (decide (1 < (s.size : Int))) (some true) (some neg)) (some false) = some false := by
      by_cases h48 : (s.get! 0).toNat = 48
      · have h1 : ¬ 1 < s.size := fun h => hz ⟨h48, .inl h⟩
        have h2 : neg = false := by cases neg with
          | false => rfl
          | true => exact absurd ⟨h48, .inr rfl⟩ hz
        rw [decide_eq_true (by omega), sel_true, decide_eq_false (by omega), sel_false, h2]
      · rw [decide_eq_false (by omega), sel_false]
    rw [e3, obnd_some, sel_false, hp, obnd_some]
    by_cases h13 : 13 < s.size
    · rw [decide_eq_true (by omega), sel_true, obnd_some, sel_true, numD_f (badN_2 h13)]
      refine ⟨?_, rfl⟩
      rw [if_neg, ocbnd_ret]
      rintro ⟨ha, hv⟩
      have h49 : 49 ≤ (s.get! 0).toNat := by
        have h1 := ha 0 (by omega)
        unfold isD at h1
        have h2 : (s.get! 0).toNat ≠ 48 := fun h => hz ⟨h, .inl (by omega)⟩
        omega
      have h3 : 10 ^ 13 ≤ dval s 14 := dval_big h49 (k := 13)
      have h4 := dval_mono (d := s) (show 14 ≤ s.size by omega)
      omega
    · have hr := ref21_num_l1 s (by omega) FU 0 (by unfold FU; omega) (Nat.zero_le _) (fun j h => absurd h (by omega))
      rw [e0, show ((0 : Nat) : Int) = 0 from rfl] at hr
      rw [decide_eq_false (by omega), sel_false, obnd_some, sel_false, hr, obnd_some]
      by_cases ha : allD s
      · by_cases hv : dval s s.size ≤ 1000000000000
        · have hg : ¬ badN neg s := good_num h0 (by omega) (fun h => ⟨by
            apply Classical.byContradiction; intro h1; exact hz ⟨h, .inl (by omega)⟩, by
            cases neg with
            | false => rfl
            | true => exact absurd ⟨h, .inr rfl⟩ hz⟩) ha hv
          rw [if_pos ⟨ha, hv⟩, if_pos ha, ocbnd_nxt, ocbnd_nxt, numD_t hg, decide_eq_false (by omega), sel_false]
          cases neg with
          | false => exact ⟨rfl, rfl⟩
          | true => rw [sel_true, i64w_id (by omega) (by omega)]; exact ⟨rfl, rfl⟩
        · rw [if_neg (fun h => hv h.2), if_pos ha, ocbnd_ret, ocbnd_nxt, numD_f (badN_5 (by omega)), decide_eq_true (by omega), sel_true]
          exact ⟨rfl, rfl⟩
      · have hbad : badN neg s := .inr (.inr (.inr (.inl ha)))
        rw [if_neg (fun h => ha h.1), if_neg ha, ocbnd_ret, ocbnd_ret, numD_f hbad]
        exact ⟨rfl, rfl⟩
def NB (r : Int × Bool) : Prop := -1000000000000 ≤ r.1 ∧ r.1 ≤ 1000000000000
theorem numD_nb (mn : Bool) (d : ByteArray) : NB (numD mn d) := by
  by_cases h : badN mn d
  · rw [numD_f h]; exact ⟨by simp, by simp⟩
  · rw [numD_t h]
    have : dval d d.size ≤ 1000000000000 := by
      apply Classical.byContradiction; intro hc; exact h (badN_5 (by omega))
    unfold NB
    cases mn <;> simp <;> omega
theorem number_eq (s : ByteArray) (hs : s.size ≤ 4000000000) : ∃ r, Mfold_Number s = some r ∧ Mref21_Number s = some r ∧ NB r := by
  have key : ∀ b c : Bool, (sel (decide (0 < (s.size : Int))) (obnd (sget s 0) fun b2 => some (decide (b2 = 45))) (some false)) = some b → (sel (decide (1 < (s.size : Int))) (obnd (sget s 0) fun b2 => some (decide (b2 = 45))) (some false)) = some c →
      (b = false → c = false) → (b = true → 0 < s.size) → (b = true → c = false → s.size = 1 ∧ (s.get! 0).toNat = 45) → ∃ r, Mfold_Number s = some r ∧ Mref21_Number s = some r ∧ NB r := by
    intro b c hb hc h1 h2 h3
    unfold Mfold_Number Mref21_Number
    rw [hb, hc, obnd_some, obnd_some]
    cases b with
    | false =>
      rw [h1 rfl, sel_false, obnd_some]
      exact ⟨_, (num_tail s hs false).1, (num_tail s hs false).2, numD_nb _ _⟩
    | true =>
      have e : ssl s 1 (s.size : Int) = some (s.extract 1 s.size) := by
        have := h2 rfl
        unfold ssl; rw [if_pos (by omega)]; simp
      rw [e, obnd_some, sel_true, obnd_some]
      have hz : (s.extract 1 s.size).size = s.size - 1 := by simp [ByteArray.size_extract]
      cases c with
      | true =>
        rw [sel_true, obnd_some]
        exact ⟨_, (num_tail _ (by omega) true).1, (num_tail _ (by omega) true).2, numD_nb _ _⟩
      | false =>
        obtain ⟨g1, g2⟩ := h3 rfl rfl
        rw [sel_false, obnd_some]
        refine ⟨_, (num_tail _ (by omega) true).1, ?_, numD_nb _ _⟩
        refine (num_tail s hs false).2.trans ?_
        rw [numD_f (mn := false) (d := s) (badN_4 0 (by omega) (by unfold isD; omega)), numD_f (mn := true) (d := s.extract 1 s.size) (badN_1 (by omega))]
  by_cases h0 : s.size = 0
  · refine key false false ?_ ?_ (fun h => h) (fun h => by cases h) (fun h => by cases h)
    · rw [decide_eq_false (by omega), sel_false]
    · rw [decide_eq_false (by omega), sel_false]
  have es := sget_lt (s := s) (m := 0) (by omega)
  rw [show ((0 : Nat) : Int) = 0 from rfl] at es
  by_cases h1 : 1 < s.size
  · refine key (decide (((s.get! 0).toNat : Int) = 45)) (decide (((s.get! 0).toNat : Int) = 45)) ?_ ?_ (fun h => h) (fun _ => by omega) (fun h h' => by rw [h] at h'; cases h')
    · rw [decide_eq_true (by omega), sel_true, es, obnd_some]
    · rw [decide_eq_true (by omega), sel_true, es, obnd_some]
  · refine key (decide (((s.get! 0).toNat : Int) = 45)) false ?_ ?_ (fun _ => rfl) (fun _ => by omega) (fun h _ => ⟨by omega, by have := of_decide_eq_true h; omega⟩)
    · rw [decide_eq_true (by omega), sel_true, es, obnd_some]
    · rw [decide_eq_false (by omega), sel_false]
def sumF (s : TFold) : Tsum := ⟨s.Count, s.Numbers, s.Sum, s.Low, s.High, s.First, s.Last⟩
def fok (k : Nat) (f : TFold) : Prop := 0 ≤ f.Count ∧ f.Count ≤ k ∧ 0 ≤ f.Numbers ∧ f.Numbers ≤ k ∧ i64w f.Sum = f.Sum ∧ (f.Numbers = 0 → f.Low = 0 ∧ f.High = 0)
theorem add_eq (k : Nat) (f : TFold) (hk : k < 1000000000) (hf : fok k f) (r : Kv) (hr : r.val.size ≤ 4000000000) : ∃ g o, Mfold_sum_add (sumF f) r = some (sumF g) ∧ Mref21_one r = some o ∧ Mref21_Join f o = g ∧ fok (k + 1) g := by
  obtain ⟨n, e1, e2, -⟩ := number_eq r.val hr
  obtain ⟨n, b⟩ := n
  obtain ⟨c, m, s, lo, hi, fi, la⟩ := f
  obtain ⟨g1, g2, g3, g4, g5, g6⟩ := hf
  simp only at g1 g2 g3 g4 g5 g6
  cases b with
  | false =>
    refine ⟨⟨c + 1, m, s, lo, hi, if c = 0 then r.key else fi, r.key⟩, ⟨1, 0, 0, 0, 0, r.key, r.key⟩, ?_, ?_, ?_, ?_⟩
    · dsimp only [Mfold_sum_add, sumF]
      simp only [e1, sel_ite, decide_eq_true_eq, obnd_if, obnd_some, Bool.not_false, if_true]
      rw [i64w_id (a := c + 1) (by omega) (by omega)]
    · simp only [Mref21_one, e2, sel_ite, obnd_some, Bool.false_eq_true, if_false]
    · simp only [Mref21_Join, bnd_eq, sel_ite, Int.add_zero, g5, decide_eq_true_eq]
      rw [i64w_id (a := c + 1) (by omega) (by omega), i64w_id (a := m) (by omega) (by omega)]
      by_cases hm : m = 0
      · obtain ⟨rfl, rfl⟩ := g6 hm
        subst hm
        simp
      · simp [hm]
    · refine ⟨?_, ?_, ?_, ?_, g5, g6⟩ <;> simp only <;> omega
  | true =>
    refine ⟨⟨c + 1, m + 1, i64w (s + n), if m = 0 ∨ n < lo then n else lo, if m = 0 ∨ hi < n then n else hi, if c = 0 then r.key else fi, r.key⟩, ⟨1, 1, n, n, n, r.key, r.key⟩, ?_, ?_, ?_, ?_⟩
    · dsimp only [Mfold_sum_add, sumF]
      simp only [e1, sel_ite, decide_eq_true_eq, obnd_if, obnd_some, Bool.not_true, Bool.false_eq_true, if_false]
      rw [i64w_id (a := c + 1) (by omega) (by omega), i64w_id (a := m + 1) (by omega) (by omega)]
      by_cases hm : m = 0
      · simp [hm]
      · simp [hm]
    · simp only [Mref21_one, e2, sel_ite, obnd_some, if_true]
    · simp only [Mref21_Join, bnd_eq, sel_ite, decide_eq_true_eq]
      rw [i64w_id (a := c + 1) (by omega) (by omega), i64w_id (a := m + 1) (by omega) (by omega)]
      by_cases hm : m = 0
      · simp [hm]
      · have hlo : min lo n = if n < lo then n else lo := by split <;> omega
        have hhi : max hi n = if hi < n then n else hi := by split <;> omega
        simp [hm, hlo, hhi]
    · refine ⟨?_, ?_, ?_, ?_, i64w_i64w _, ?_⟩ <;> simp only <;> omega
theorem of_l1_eq : ∀ (l : List Kv) (k : Nat) (f : TFold), k + l.length < 1000000000 → fok k f → (∀ r ∈ l, r.val.size ≤ 4000000000) →
    ∃ g : TFold, fok (k + l.length) g ∧ Mfold_Of_l1 l f.Count f.Numbers f.Sum f.Low f.High f.First f.Last = some (g.Count, g.Numbers, g.Sum, g.Low, g.High, g.First, g.Last) ∧ Mref21_Of_l1 l f.Count f.Numbers f.Sum f.Low f.High f.First f.Last = some (g.Count, g.Numbers, g.Sum, g.Low, g.High, g.First, g.Last)
  | [], k, f, _, hf, _ => ⟨f, hf, rfl, rfl⟩
  | r :: l, k, f, hk, hf, hr => by
    simp only [List.length_cons] at hk
    obtain ⟨g, o, e1, e2, e3, e4⟩ := add_eq k f (by omega) hf r (hr r List.mem_cons_self)
    obtain ⟨q, h0, h1, h2⟩ := of_l1_eq l (k + 1) g (by omega) e4 fun x hx => hr x (List.mem_cons_of_mem _ hx)
    refine ⟨q, by rw [List.length_cons, show k + (l.length + 1) = k + 1 + l.length by omega]; exact h0, ?_, ?_⟩
    · rw [Mfold_Of_l1.eq_2]
      have : (Tsum.mk f.Count f.Numbers f.Sum f.Low f.High f.First f.Last) = sumF f := rfl
      rw [this, e1, obnd_some]
      exact h1
    · rw [Mref21_Of_l1.eq_2, e2, obnd_some, bnd_eq]
      have : (TFold.mk f.Count f.Numbers f.Sum f.Low f.High f.First f.Last) = f := rfl
      rw [this, e3]
      exact h2
theorem of_eq (l : List Kv) (hl : l.length < 1000000000) (hr : ∀ r ∈ l, r.val.size ≤ 4000000000) : ∃ g, Mfold_Of l = some g ∧ Mref21_Of l = some g ∧ fok l.length g := by
  obtain ⟨g, h0, h1, h2⟩ := of_l1_eq l 0 ⟨0, 0, 0, 0, 0, ⟨#[]⟩, ⟨#[]⟩⟩ (by omega) ⟨by simp, by simp, by simp, by simp, by kernel_rfl, fun _ => ⟨rfl, rfl⟩⟩ hr
  refine ⟨g, ?_, ?_, by simpa using h0⟩
  · unfold Mfold_Of; rw [h1, obnd_some]
  · unfold Mref21_Of; rw [h2, obnd_some]
end Go.Proofs.YtohpjdeohpamaaaGreatDoor
namespace Go.Proofs.YtohpjdeohpamaaaGreatDoor
open Go.RowKit
theorem take_eq (q : TQuery) (l : List Kv) (h : l.length ≤ 1000000000) : Mquery_Take q l = some (qtk q.Kind q.Count l) ∧ Mref22_Take q l = some (qtk q.Kind q.Count l) := by
  have hmm : min (max q.Count 0) (l.length : Int) = max 0 (min q.Count (l.length : Int)) := by omega
  unfold Mquery_Take Mref22_Take Mclone_List_api_Row_ qtk
  rw [hmm]
  generalize hn : max 0 (min q.Count (l.length : Int)) = n
  simp only [sel_ite, decide_eq_true_eq]
  by_cases h3 : q.Kind = 3
  · rw [if_pos h3, if_pos h3, if_pos h3, lsl_le (by omega), obnd_some, app_le (by simp; omega)]
    simp [obnd_some, app_le, show l.length ≤ 4294967296 by omega, show min n.toNat l.length ≤ 4294967296 by omega]
  · rw [if_neg h3, if_neg h3, if_neg h3]
    by_cases h4 : q.Kind = 4
    · rw [if_pos h4, if_pos h4, if_pos h4, i64w_id (by omega) (by omega), lsl_le (by omega), obnd_some, app_le (by simp; omega)]
      simp only [obnd_some, List.nil_append]
      have e : ((l.length : Int) - n).toNat = l.length - n.toNat := by omega
      rw [e, List.take_of_length_le (by simp)]
      refine ⟨rfl, ?_⟩
      rw [app_le (by simp; omega)]; rfl
    · rw [if_neg h4, if_neg h4, if_neg h4, app_le (by simp; omega)]
      simp [obnd_some]
theorem eq_ref22_Answer_l1 (t : List Kv) (ht : t.length ≤ 1024) : ∀ (rs : List Rng) (out : List Kv), out.length + rs.length * 1024 ≤ 1000000000 → Mref22_Answer_l1 t rs out = some (out ++ qslices t rs)
  | [], out, _ => by simp [Mref22_Answer_l1, qslices]
  | r :: rs, out, h => by
    have hf := List.length_filter_le (fun x : Kv => contains r x.key) t
    rw [Mref22_Answer_l1.eq_2, eq_ref20_Slice _ _ (by omega), obnd_some, app_le (by omega), obnd_some, eq_ref22_Answer_l1 t ht rs _ (by simp at h ⊢; omega)]
    simp [qslices]
theorem qtk_sub (k c : Int) (l : List Kv) : ∀ r ∈ qtk k c l, r ∈ l := by
  intro r h
  unfold qtk at h
  split at h
  · exact List.mem_of_mem_take h
  split at h
  · exact List.mem_of_mem_drop h
  · exact h
theorem qslices_sub (t : List Kv) (rs : List Rng) : ∀ r ∈ qslices t rs, r ∈ t := by
  intro r h
  simp only [qslices, List.mem_flatMap, List.mem_filter] at h
  obtain ⟨_, _, h, _⟩ := h
  exact h
theorem qslices_len (t : List Kv) (rs : List Rng) : (qslices t rs).length ≤ rs.length * t.length := by
  induction rs with
  | nil => simp [qslices]
  | cons r rs ih =>
    have hf := List.length_filter_le (fun x : Kv => contains r x.key) t
    simp only [qslices, List.flatMap_cons, List.length_append, List.length_cons, Nat.succ_mul] at ih ⊢
    omega
end Go.Proofs.YtohpjdeohpamaaaGreatDoor
namespace Go.Proofs.YtohpjdeohpamaaaGreatDoor
open Go.RowKit
theorem eq_query_Answer_l1 (t : List Kv) (ht : t.length ≤ 1024) : ∀ (rs : List Rng) (out : List Kv), out.length + rs.length * 1024 ≤ 1000000000 → Mquery_Answer_l1 t rs out = some (out ++ qslices t rs)
  | [], out, _ => by simp [Mquery_Answer_l1, qslices]
  | r :: rs, out, h => by
    have hf := List.length_filter_le (fun x : Kv => contains r x.key) t
    rw [Mquery_Answer_l1.eq_2, eq_table_Slice _ _ (by omega), obnd_some, app_le (by omega), obnd_some, eq_query_Answer_l1 t ht rs _ (by simp at h ⊢; omega)]
    simp [qslices]
theorem answer_eq (t : List Kv) (q : TQuery) (hq : q.Ranges.length < 1000000) : ∃ a e, Mquery_Answer t q = some (a, e) ∧ Mref22_Answer t q = some (a, e) ∧
    e = (if qchk q.Kind q.Ranges q.Key q.Count = 0 then (if tvalid t then 0 else 1) else qchk q.Kind q.Ranges q.Key q.Count) ∧
    (e = 0 → a.Rows = qtk q.Kind q.Count (qslices t (qranges q.Kind q.Ranges q.Key q.Count)) ∧ Mfold_Of a.Rows = some a.Fold ∧ Mref21_Of a.Rows = some a.Fold) := by
  unfold Mquery_Answer Mref22_Answer
  rw [eq_query_Check q hq, obnd_some, bnd_eq, eq_ref22_Check, (eq_ranges q hq).1, (eq_ranges q hq).2, eq_table_Valid, eq_ref20_Valid]
  by_cases h0 : qchk q.Kind q.Ranges q.Key q.Count = 0
  · rw [decide_eq_true h0, if_pos h0]
    simp only [Bool.not_true, sel_false, obnd_some]
    cases hv : tvalid t with
    | false => exact ⟨_, _, rfl, rfl, rfl, fun h => by cases h⟩
    | true =>
      simp only [Bool.not_true, sel_false, if_true]
      have ht := (tvalid_iff t).1 hv
      have hrl := qranges_le q.Kind q.Ranges q.Key q.Count
      generalize qranges q.Kind q.Ranges q.Key q.Count = R at hrl ⊢
      have hsl := qslices_len t R
      have hsz : (qslices t R).length ≤ 64 * 1024 := Nat.le_trans hsl (Nat.mul_le_mul hrl ht.1)
      rw [eq_query_Answer_l1 t ht.1 R [] (by simp; omega), eq_ref22_Answer_l1 t ht.1 R [] (by simp; omega), obnd_some, obnd_some, List.nil_append]
      obtain ⟨k1, k2⟩ := take_eq q (qslices t R) (by omega)
      rw [k1, k2, obnd_some, obnd_some]
      have hlen : (qtk q.Kind q.Count (qslices t R)).length ≤ (qslices t R).length := by
        unfold qtk; split
        · simp; omega
        split
        · simp
        · exact Nat.le_refl _
      obtain ⟨g, e1, e2, -⟩ := of_eq (qtk q.Kind q.Count (qslices t R)) (by omega) (fun r hr => by
        have h1 := ht.2.1 r (qslices_sub _ _ r (qtk_sub _ _ _ r hr))
        simp only [vrow, Bool.and_eq_true, decide_eq_true_eq] at h1
        omega)
      rw [e1, e2]
      exact ⟨_, _, rfl, rfl, rfl, fun _ => ⟨rfl, e1, e2⟩⟩
  · rw [decide_eq_false h0, if_neg h0]
    simp only [Bool.not_false, sel_true]
    exact ⟨_, _, rfl, rfl, rfl, fun h => absurd h h0⟩
end Go.Proofs.YtohpjdeohpamaaaGreatDoor
-- LEFT awake_ok
namespace Go.Proofs.YtohpjdeohpamaaaGreatDoor
open Go.RowKit
theorem ref37_Tables_l1 : ∀ (l : List TRecord) (t : List Kv) (out : List (List Kv)), l.length + out.length ≤ 1000000 → Mref37_Tables_l1 l t out = some (tabl l t out)
  | [], t, out, _ => rfl
  | r :: rs, t, out, hl => by
    simp only [List.length_cons] at hl
    rw [Mref37_Tables_l1, tabl]
    by_cases hk : r.Kind = 1
    · rw [decide_eq_true hk, sel_true, eq_ref20_Apply, obnd_some, if_pos hk]
      by_cases h0 : (applyW t r.Writes).2 = 0
      · rw [decide_eq_true h0, if_pos h0]
        simp only [Bool.not_true, sel_false]
        rw [app_le (by simp; omega), obnd_some]
        exact ref37_Tables_l1 rs _ _ (by simp; omega)
      · rw [decide_eq_false h0, if_neg h0]; rfl
    · rw [decide_eq_false hk, sel_false, if_neg hk, app_le (by simp; omega), obnd_some]
      exact ref37_Tables_l1 rs _ _ (by simp; omega)
theorem eq_ref37_Tables (t : List Kv) (l : List TRecord) : Mref37_Tables t l = some (tabs t l) := by
  unfold Mref37_Tables tabs
  by_cases hl : 4096 < l.length
  · rw [decide_eq_true (by omega), if_pos hl]; rfl
  · rw [decide_eq_false (by omega), if_neg hl, sel_false, eq_ref20_Valid, obnd_some]
    cases ht : tvalid t with
    | false => rfl
    | true =>
      simp only [Bool.not_true, sel_false, if_true]
      rw [ref37_Tables_l1 l t [] (by simp; omega), obnd_some]
      cases tabl l t [] <;> rfl
theorem sameAnswer_eq (a b : TAnswer) : Mref22_SameAnswer a b = some (decide (a = b)) := by
  unfold Mref22_SameAnswer
  rw [eq_ref20_Same, obnd_some]
  obtain ⟨r1, ⟨c1, n1, s1, l1, h1, f1, t1⟩⟩ := a
  obtain ⟨r2, ⟨c2, n2, s2, l2, h2, f2, t2⟩⟩ := b
  by_cases h : r1 = r2
  · subst h; simp [sel_true, Bool.and_assoc]
  · simp [h, sel_false]
theorem mom_rows (a : TAnswer) (l : List Kv) (h : l.length = a.Rows.length) : ∀ (xs : List Kv) (m : Nat), l.drop m = xs → m ≤ l.length → Maudit_Moment_l2 a xs (m : Int) = some (sel (decide (l.drop m = a.Rows.drop m)) (.nxt ()) (.ret (.nxt ())))
  | [], m, hd, hm => by
    have h1 : l.length ≤ m := by simpa using hd
    rw [Maudit_Moment_l2, List.drop_eq_nil_of_le h1, List.drop_eq_nil_of_le (by omega)]; rfl
  | x :: xs, m, hd, hm => by
    obtain ⟨h1, h2⟩ := drop_get hd
    have hlt : m < l.length := (List.getElem?_eq_some_iff.1 h1).1
    have hlt' : m < a.Rows.length := by omega
    have hx : l[m] = x := (List.getElem?_eq_some_iff.1 h1).2
    rw [Maudit_Moment_l2, lget_nat, List.getElem?_eq_getElem hlt', obnd_some, kv_eqb, drop_step hlt, drop_step hlt', hx]
    by_cases e : x = a.Rows[m]
    · rw [decide_eq_true e]
      simp only [Bool.not_true, sel_false]
      have := mom_rows a l h xs (m + 1) h2 (by omega)
      rw [show ((m + 1 : Nat) : Int) = (m : Int) + 1 by omega] at this
      rw [this, e]
      congr 2
      simp only [decide_eq_decide]
      constructor
      · intro h; rw [h]
      · intro h; exact (List.cons.inj h).2
    · rw [decide_eq_false e, decide_eq_false (by intro h; exact e (List.cons.inj h).1)]; rfl
theorem fold_eqb (f g : TFold) : (decide (f.Count = g.Count) && decide (f.Numbers = g.Numbers) && decide (f.Sum = g.Sum) && decide (f.Low = g.Low) && decide (f.High = g.High) && decide (f.First = g.First) && decide (f.Last = g.Last)) = decide (f = g) := by
  obtain ⟨c1, n1, s1, l1, h1, f1, t1⟩ := f
  obtain ⟨c2, n2, s2, l2, h2, f2, t2⟩ := g
  simp [Bool.and_assoc]
theorem audit_Moment_l1 (q : TQuery) (a : TAnswer) (hq : q.Ranges.length < 1000000) : ∀ (ts : List (List Kv)) (i : Int), Maudit_Moment_l1 q a ts i = some (momW q a ts i)
  | [], i => rfl
  | t :: ts, i => by
    have ih := audit_Moment_l1 q a hq ts (i + 1)
    obtain ⟨b, e, h1, -, -, -⟩ := answer_eq t q hq
    rw [Maudit_Moment_l1, momW, h1, obnd_some]
    simp only
    rw [fold_eqb]
    have hnx : ∀ c : Bool, (b, e) ≠ (a, (0 : Int)) → (c = true → ∃ u : Unit, True) → True := fun _ _ _ => trivial
    by_cases he : e = 0
    · subst he
      simp only [decide_true, Bool.not_true, sel_false]
      by_cases hl : b.Rows.length = a.Rows.length
      · rw [decide_eq_true (show (b.Rows.length : Int) = (a.Rows.length : Int) by omega)]
        simp only [Bool.not_true, sel_false]
        by_cases hf : b.Fold = a.Fold
        · rw [decide_eq_true hf]
          simp only [Bool.not_true, obnd_some, sel_false]
          have := mom_rows a b.Rows hl b.Rows 0 rfl (Nat.zero_le _)
          rw [show ((0 : Nat) : Int) = 0 from rfl] at this
          show obnd (obnd (Maudit_Moment_l2 a b.Rows 0) _) _ = _
          rw [this]
          simp only [List.drop_zero, obnd_some]
          by_cases hr : b.Rows = a.Rows
          · rw [decide_eq_true hr, if_pos (by rw [show b = a by cases a; cases b; simp_all])]; rfl
          · rw [decide_eq_false hr, if_neg (by intro h; simp only [Option.some.injEq, Prod.mk.injEq] at h; exact hr (by rw [h.1]))]
            exact ih
        · rw [decide_eq_false hf, if_neg (by intro h; simp only [Option.some.injEq, Prod.mk.injEq] at h; exact hf (by rw [h.1]))]
          exact ih
      · rw [decide_eq_false (show ¬ (b.Rows.length : Int) = (a.Rows.length : Int) by omega), if_neg (by intro h; simp only [Option.some.injEq, Prod.mk.injEq] at h; exact hl (by rw [h.1]))]
        exact ih
    · rw [decide_eq_false he, if_neg (by intro h; simp only [Option.some.injEq, Prod.mk.injEq] at h; exact he h.2)]
      exact ih
theorem ref37_Moment_l1 (q : TQuery) (a : TAnswer) (hq : q.Ranges.length < 1000000) : ∀ (ts : List (List Kv)) (i : Int), Mref37_Moment_l1 q a ts i = some (momW q a ts i)
  | [], i => rfl
  | t :: ts, i => by
    have ih := ref37_Moment_l1 q a hq ts (i + 1)
    obtain ⟨b, e, h1, h2, -, -⟩ := answer_eq t q hq
    rw [Mref37_Moment_l1, momW, h1, h2, obnd_some]
    by_cases he : e = 0
    · subst he
      simp only [decide_true, sel_true]
      rw [sameAnswer_eq, obnd_some]
      by_cases hr : a = b
      · rw [decide_eq_true hr, if_pos (by rw [hr])]; rfl
      · rw [decide_eq_false hr, if_neg (by intro h; simp only [Option.some.injEq, Prod.mk.injEq] at h; exact hr h.1.symm)]
        exact ih
    · rw [decide_eq_false he, if_neg (by intro h; simp only [Option.some.injEq, Prod.mk.injEq] at h; exact he h.2)]
      exact ih
theorem eq_audit_Moment (q : TQuery) (a : TAnswer) (ts : List (List Kv)) (hq : q.Ranges.length < 1000000) : Maudit_Moment q a ts = some (mom q a ts) := by
  unfold Maudit_Moment mom
  rw [audit_Moment_l1 q a hq, obnd_some]
  cases momW q a ts 0 <;> rfl
theorem eq_ref37_Moment (q : TQuery) (a : TAnswer) (ts : List (List Kv)) (hq : q.Ranges.length < 1000000) : Mref37_Moment q a ts = some (mom q a ts) := by
  unfold Mref37_Moment mom
  rw [ref37_Moment_l1 q a hq, obnd_some]
  cases momW q a ts 0 <;> rfl
end Go.Proofs.YtohpjdeohpamaaaGreatDoor
namespace Go.Proofs.YtohpjdeohpamaaaGreatDoor
open Go.RowKit
section
variable {α β γ : Type} {M : Option α} {P Q : α → Prop} {b : Bool}
theorem tot_bnd {k : β → Option α} {x : β} (h : Tot (k x) Q) : Tot (bnd x k) Q := h
theorem tot_lsl {l : List α} {Q : List α → Prop} {lo hi : Int} (h : 0 ≤ lo ∧ lo ≤ hi ∧ hi ≤ l.length) (hq : Q ((l.drop lo.toNat).take (hi.toNat - lo.toNat))) : Tot (lsl l lo hi) Q := ⟨_, lsl_le h, hq⟩
theorem tot_i64 {a : Int} (h1 : -9223372036854775808 ≤ a := by omega) (h2 : a ≤ 9223372036854775807 := by omega) : i64w a = a := i64w_id h1 h2
end
section
variable {τ : TTape}
theorem tot_query (h : okT τ) : Tot (Mwld_Tape_Query τ) fun y => okT y.2 ∧ qok y.1 := by
  obtain ⟨x, τ', e, h1, h2⟩ := query_ok h
  exact ⟨_, e, h1, h2⟩
theorem tot_oddQuery (h : okT τ) : Tot (Mwld_Tape_OddQuery τ) fun y => okT y.2 ∧ y.1.Ranges.length ≤ 100 := by
  obtain ⟨x, τ', e, h1, h2⟩ := oddQuery_ok h
  exact ⟨_, e, h1, h2⟩
end
end Go.Proofs.YtohpjdeohpamaaaGreatDoor
namespace Go.Proofs.YtohpjdeohpamaaaGreatDoor
open Go.RowKit
set_option maxRecDepth 100000
set_option maxHeartbeats 4000000
attribute [local irreducible] WK WC WL Wk Rel OpD OpV WD WO sel bnd obnd app lget lsl sget ssl scat letg iquo irem Op.bytesLess
attribute [local irreducible] qchk qranges union
def Mlaw37_free_l1 : Nat → List Int → Int → List (List Kv) → List TRecord → Int → Option (List TRecord × List Int × Int)
  | 0, _, _, _, _, _ => none
  | fuel + 1, x4, x5, tables6, l7, i8 =>
  obnd (
   sel (decide (0 < i8)) (
    some (Ctl.nxt ())) (
    some (Ctl.ret (l7, x4, x5))) : Option (Ctl (List TRecord × List Int × Int) Unit)) fun mu => ocbnd mu fun (_ : Unit) =>
  obnd (lget tables6 (i64w ((tables6.length : Int) - 1))) fun e9 =>
  obnd (Mwld_Tape_Next (TTape.mk x4 x5) 5) fun y10 =>
  obnd (
   sel (decide (y10.1 = 0)) (
    some (decide (y10.1 = 0))) (
    some (decide (y10.1 = 1))) : Option Bool) fun x11 =>
  sel x11 (
   bnd (Mwld_All) fun y12 =>
   obnd (Mwld_Tape_WriteIn y10.2 y12) fun y13 =>
   bnd (Mwld_All) fun y14 =>
   obnd (Mwld_Tape_WriteIn y13.2 y14) fun y15 =>
   obnd (Mwld_Tape_Next y15.2 2) fun y16 =>
   obnd (lsl ([y13.1, y15.1] : List TWrite) 0 (i64w (1 + y16.1))) fun l17 =>
   obnd (Mref20_Apply e9 l17) fun y18 =>
   obnd (app l7 ([(TRecord.mk 1 l17 ⟨#[]⟩ ⟨#[]⟩ false 0 (TReceipt.mk (TQuery.mk 0 ([] : List Rng) ⟨#[]⟩ 0) ([] : List TVisit) ([] : List TVisit)))] : List TRecord)) fun l19 =>
   obnd (app tables6 ([y18.1] : List (List Kv))) fun l20 =>
   Mlaw37_free_l1 fuel y16.2.l y16.2.at_ l20 l19 (i64w (i8 - 1))) (
   sel (decide (y10.1 = 2)) (
    obnd (Mwld_Tape_Key y10.2) fun y21 =>
    bnd (Mref20_Get e9 y21.1) fun y22 =>
    obnd (app l7 ([(TRecord.mk 2 ([] : List TWrite) y21.1 y22.1 y22.2 0 (TReceipt.mk (TQuery.mk 0 ([] : List Rng) ⟨#[]⟩ 0) ([] : List TVisit) ([] : List TVisit)))] : List TRecord)) fun l23 =>
    obnd (app tables6 ([e9] : List (List Kv))) fun l24 =>
    Mlaw37_free_l1 fuel y21.2.l y21.2.at_ l24 l23 (i64w (i8 - 1))) (
    sel (decide (y10.1 = 3)) (
     obnd (Mwld_Tape_Next y10.2 4) fun y25 =>
     bnd (Mwld_Whole) fun y26 =>
     obnd (app l7 ([(TRecord.mk 3 ([] : List TWrite) ⟨#[]⟩ ⟨#[]⟩ false y25.1 (TReceipt.mk y26 ([] : List TVisit) ([] : List TVisit)))] : List TRecord)) fun l27 =>
     obnd (app tables6 ([e9] : List (List Kv))) fun l28 =>
     Mlaw37_free_l1 fuel y25.2.l y25.2.at_ l28 l27 (i64w (i8 - 1))) (
     sel (decide (y10.1 = 4)) (
      obnd (Mwld_Tape_Next y10.2 4) fun y29 =>
      obnd (Mwld_Tape_Next y29.2 (tables6.length : Int)) fun y30 =>
      obnd (lget tables6 y30.1) fun e31 =>
      bnd (Mlaw37_proof e31) fun y32 =>
      obnd (app l7 ([(TRecord.mk 4 ([] : List TWrite) ⟨#[]⟩ ⟨#[]⟩ false y29.1 y32)] : List TRecord)) fun l33 =>
      obnd (app tables6 ([e9] : List (List Kv))) fun l34 =>
      Mlaw37_free_l1 fuel y30.2.l y30.2.at_ l34 l33 (i64w (i8 - 1))) (
      obnd (app tables6 ([e9] : List (List Kv))) fun l35 =>
      Mlaw37_free_l1 fuel y10.2.l y10.2.at_ l35 l7 (i64w (i8 - 1))))))
def Mlaw37_free (t1 : TTape) : Option (List Kv × List TRecord × TTape) :=
 obnd (Mwld_Tape_Rows t1 3) fun y2 =>
 obnd (Mwld_Tape_Next y2.2 8) fun y3 =>
 obnd (
  Mlaw37_free_l1 FU y3.2.l y3.2.at_ ([y2.1] : List (List Kv)) [] (i64w (2 + y3.1)) : Option (List TRecord × List Int × Int)) fun (l36, x37, x38) =>
 some (y2.1, l36, (TTape.mk x37 x38))
theorem Mlaw37_free_sp {t1 : TTape} {y : (List Kv × List TRecord × TTape)} (hm : Mlaw37_free t1 = some y) : Spec Tryz.prog 11 [.p 0 0] [(0, some (.box 89 [.d (lst dsI t1.l), vI t1.at_]))] fun u h => u = .t [.d (lst Kv.ds y.1), .d (lst TRecord.ds y.2.1)] ∧ h = [(0, some (.box 89 [.d (lst dsI y.2.2.l), vI y.2.2.at_]))] := by
 refine si Tryz.func11 Tryz.ntmps11 Tryz.results11 fun B w0 ρ0 => ?_
 unfold Mlaw37_free at hm
 refine sr ?_
 refine sr ?_
 obtain ⟨y2, hy, hm⟩ := obnd_o hm
 refine wl_iq (Mwld_Tape_Rows_sp (hm := hy)) 0 ?_
 refine sr ?_
 refine wl_1 (n_bso (k := 116) (dsL Kv.ds) [y2.1] rfl rfl rfl rfl (by simp only [flatV, cellsV, List.cons_append, List.nil_append, List.append_nil]; exact rfl) rfl rfl) rfl rfl rfl rfl ?_
 refine sr ?_
 refine sr ?_
 obtain ⟨y3, hy, hm⟩ := obnd_o hm
 refine wl_iq (Mwld_Tape_Next_sp (hm := hy)) 0 ?_
 refine ss ?_
 refine wl_r (o_add rfl rfl rfl rfl) rfl rfl rfl ?_
 refine ss ?_
 obtain ⟨mu1, hm1, hm⟩ := obnd_o hm
 refine wc_cut' (fun st => ∃ (l36 : List TRecord) (x37 : List Int) (x38 : Int), mu1 = (l36, x37, x38) ∧ st = ⟨[(4, .d (lst Kv.ds y2.1)), (6, .d (lst TRecord.ds l36))], [(0, some (.box 89 [.d (lst dsI x37), vI x38]))]⟩) ?_ ?_
 ·refine wc_block ?_
  refine wc_wk (wk_nil 6 5002 65 12 rfl rfl) ?_
  refine wc_loopw (fun κ st => ∃ (x4 : List Int) (x5 : Int) (tables6 : List (List Kv)) (l7 : List TRecord) (i8 : Int), Mlaw37_free_l1 κ x4 x5 tables6 l7 i8 = some mu1 ∧ st = ⟨[(0, .p 0 0), (4, .d (lst Kv.ds y2.1)), (5, .h 5001), (6, .h 5002), (7, vI i8)], [(0, some (.box 89 [.d (lst dsI x4), vI x5])), (5001, some (arrT 26 1 (dsL Kv.ds) tables6)), (5002, some (arrT 65 12 TRecord.ds l7))]⟩) [(0, 0), (5001, 116), (5002, 5002)] ⟨_, _, _, _, _, hm1, rfl⟩ ?_
  rintro κ _ ⟨x4, x5, tables6, l7, i8, hm1, rfl⟩
  cases κ with
  | zero => rw [Mlaw37_free_l1.eq_1] at hm1; cases hm1
  | succ κ =>
   rw [Mlaw37_free_l1.eq_2] at hm1
   refine sr ?_
   obtain ⟨mu2, hm2, hm1⟩ := obnd_o hm1
   refine wc_cut' (fun st => mu2 = Ctl.nxt () ∧ st = ⟨[(0, .p 0 0), (4, .d (lst Kv.ds y2.1)), (5, .h 5001), (6, .h 5002), (7, vI i8)], [(0, some (.box 89 [.d (lst dsI x4), vI x5])), (5001, some (arrT 26 1 (dsL Kv.ds) tables6)), (5002, some (arrT 65 12 TRecord.ds l7))]⟩) ?_ ?_
   ·refine wc_cs hm2 ?_ ?_ <;> clear hm2 <;> intro hm2
    ·refine sx ?_
     cases hm2
     exact wk_cutw [(0, 0), (5001, 5001), (5002, 5002)] ⟨rfl, rfl⟩
    refine wc_exit ?_
    refine ss ?_
    cases hm2
    replace hm1 := ocbnd_r hm1
    cases hm1
    exact wk_cutw [(0, 0)] ⟨_, _, _, rfl, rfl⟩
   rintro _ ⟨rfl, rfl⟩
   replace hm1 := ocbnd_n hm1
   refine sr ?_
   obtain ⟨e9, hy, hm1⟩ := obnd_o hm1
   have hge9 := hy
   refine wl_r (o_ixo hy rfl rfl rfl rfl) rfl rfl rfl ?_
   refine ss ?_
   refine wl_r (o_ldo (k := 5001) (f := (dsL Kv.ds)) (zz := 1) (u := .d (lst Kv.ds e9)) (off := 0) hge9 rfl rfl rfl (by exact inferInstance) rfl rfl) rfl rfl rfl ?_
   refine sr ?_
   obtain ⟨y10, hy, hm1⟩ := obnd_o hm1
   refine wl_iq (Mwld_Tape_Next_sp (hm := hy)) 0 ?_
   refine sr ?_
   obtain ⟨mu2, hm2, hm1⟩ := obnd_o hm1
   refine wc_cut' (fun st => ∃ (x11 : Bool), x11 = mu2 ∧ st = ⟨[(0, .p 0 0), (4, .d (lst Kv.ds y2.1)), (5, .h 5001), (6, .h 5002), (7, vI i8), (8, .d (lst Kv.ds e9)), (31, vI y10.1), (32, vB x11)], [(0, some (.box 89 [.d (lst dsI y10.2.l), vI y10.2.at_])), (5001, some (arrT 26 1 (dsL Kv.ds) tables6)), (5002, some (arrT 65 12 TRecord.ds l7))]⟩) ?_ ?_
   ·refine wc_cs hm2 ?_ ?_ <;> clear hm2 <;> intro hm2
    ·refine sx ?_
     cases hm2
     exact wk_cutw [(0, 0), (5001, 5001), (5002, 5002)] ⟨_, rfl, rfl⟩
    refine sr ?_
    cases hm2
    exact wk_cutw [(0, 0), (5001, 5001), (5002, 5002)] ⟨_, rfl, rfl⟩
   rintro _ ⟨x11, rfl, rfl⟩
   refine ss ?_
   refine wc_cs hm1 ?_ ?_ <;> clear hm1 <;> intro hm1
   ·refine sr ?_
    obtain ⟨y12, hy, hm1⟩ := bnd_o hm1
    refine wl_cq (Mwld_All_sp (hm := hy)) ?_
    refine ss ?_
    obtain ⟨y13, hy, hm1⟩ := obnd_o hm1
    refine wl_iq (Mwld_Tape_WriteIn_sp (hm := hy)) 0 ?_
    refine ss ?_
    obtain ⟨y14, hy, hm1⟩ := bnd_o hm1
    refine wl_cq (Mwld_All_sp (hm := hy)) ?_
    refine ss ?_
    obtain ⟨y15, hy, hm1⟩ := obnd_o hm1
    refine wl_iq (Mwld_Tape_WriteIn_sp (hm := hy)) 0 ?_
    refine ss ?_
    refine wl_bt TWrite.ds [y13.1, y15.1] rfl rfl (by simp only [flatV, cellsV, List.cons_append, List.nil_append, List.append_nil]; exact rfl) rfl rfl rfl rfl rfl rfl ?_
    refine ss ?_
    obtain ⟨y16, hy, hm1⟩ := obnd_o hm1
    refine wl_iq (Mwld_Tape_Next_sp (hm := hy)) 0 ?_
    refine ss ?_
    refine wl_r (o_add rfl rfl rfl rfl) rfl rfl rfl ?_
    refine ss ?_
    obtain ⟨l17, hy, hm1⟩ := obnd_o hm1
    refine wl_r (o_lsl hy rfl rfl rfl rfl) rfl rfl rfl ?_
    refine sr ?_
    obtain ⟨y18, hy, hm1⟩ := obnd_o hm1
    refine wl_cq (Mref20_Apply_sp (hm := hy)) ?_
    refine sr ?_
    refine wl_wkw [(0, 0), (5001, 5001), (5002, 5002)] ⟨[(0, .p 0 0), (4, .d (lst Kv.ds y2.1)), (5, .h 5001), (6, .h 5002), (7, vI i8), (8, .d (lst Kv.ds y18.1)), (52, .h 5002), (54, .a [vI 1, .d (lst TWrite.ds l17), vS ⟨#[]⟩, vS ⟨#[]⟩, vB false, vI 0, vI 0, .d (lst Rng.ds ([] : List Rng)), vS ⟨#[]⟩, vI 0, .d (lst TVisit.ds ([] : List TVisit)), .d (lst TVisit.ds ([] : List TVisit))])], [(0, some (.box 89 [.d (lst dsI y16.2.l), vI y16.2.at_])), (5001, some (arrT 26 1 (dsL Kv.ds) tables6)), (5002, some (arrT 65 12 TRecord.ds l7))]⟩ ?_
    refine ss ?_
    refine wl_bt TRecord.ds [(TRecord.mk 1 l17 ⟨#[]⟩ ⟨#[]⟩ false 0 (TReceipt.mk (TQuery.mk 0 ([] : List Rng) ⟨#[]⟩ 0) ([] : List TVisit) ([] : List TVisit)))] rfl rfl (by simp only [flatV, cellsV, List.cons_append, List.nil_append, List.append_nil]; exact rfl) rfl rfl rfl rfl rfl rfl ?_
    refine ss ?_
    obtain ⟨l19, hy, hm1⟩ := obnd_o hm1
    refine wl_2 (n_app (k' := 156) hy rfl rfl rfl rfl rfl rfl rfl rfl) rfl rfl rfl rfl ?_
    refine sr ?_
    refine wl_bt (dsL Kv.ds) [y18.1] rfl rfl (by simp only [flatV, cellsV, List.cons_append, List.nil_append, List.append_nil]; exact rfl) rfl rfl rfl rfl rfl rfl ?_
    refine ss ?_
    obtain ⟨l20, hy, hm1⟩ := obnd_o hm1
    refine wl_2 (n_app (k' := 203) hy rfl rfl rfl rfl rfl rfl rfl rfl) rfl rfl rfl rfl ?_
    refine sr ?_
    exact wk_loopw [(0, 0), (5001, 203), (5002, 156)] ⟨_, _, _, _, _, hm1, rfl⟩ (Nat.lt_succ_self _)
   refine sr ?_
   refine wc_cs hm1 ?_ ?_ <;> clear hm1 <;> intro hm1
   ·refine sr ?_
    obtain ⟨y21, hy, hm1⟩ := obnd_o hm1
    refine wl_iq (Mwld_Tape_Key_sp (hm := hy)) 0 ?_
    refine sr ?_
    obtain ⟨y22, hy, hm1⟩ := bnd_o hm1
    refine wl_cq (Mref20_Get_sp (hm := hy)) ?_
    refine sr ?_
    refine wl_wkw [(0, 0), (5001, 5001), (5002, 5002)] ⟨[(0, .p 0 0), (4, .d (lst Kv.ds y2.1)), (5, .h 5001), (6, .h 5002), (7, vI i8), (8, .d (lst Kv.ds e9)), (67, .h 5002), (71, .a [vI 2, .d (lst TWrite.ds ([] : List TWrite)), vS y21.1, vS y22.1, vB y22.2, vI 0, vI 0, .d (lst Rng.ds ([] : List Rng)), vS ⟨#[]⟩, vI 0, .d (lst TVisit.ds ([] : List TVisit)), .d (lst TVisit.ds ([] : List TVisit))])], [(0, some (.box 89 [.d (lst dsI y21.2.l), vI y21.2.at_])), (5001, some (arrT 26 1 (dsL Kv.ds) tables6)), (5002, some (arrT 65 12 TRecord.ds l7))]⟩ ?_
    refine ss ?_
    refine wl_bt TRecord.ds [(TRecord.mk 2 ([] : List TWrite) y21.1 y22.1 y22.2 0 (TReceipt.mk (TQuery.mk 0 ([] : List Rng) ⟨#[]⟩ 0) ([] : List TVisit) ([] : List TVisit)))] rfl rfl (by simp only [flatV, cellsV, List.cons_append, List.nil_append, List.append_nil]; exact rfl) rfl rfl rfl rfl rfl rfl ?_
    refine ss ?_
    obtain ⟨l23, hy, hm1⟩ := obnd_o hm1
    refine wl_2 (n_app (k' := 173) hy rfl rfl rfl rfl rfl rfl rfl rfl) rfl rfl rfl rfl ?_
    refine sr ?_
    refine wl_bt (dsL Kv.ds) [e9] rfl rfl (by simp only [flatV, cellsV, List.cons_append, List.nil_append, List.append_nil]; exact rfl) rfl rfl rfl rfl rfl rfl ?_
    refine ss ?_
    obtain ⟨l24, hy, hm1⟩ := obnd_o hm1
    refine wl_2 (n_app (k' := 203) hy rfl rfl rfl rfl rfl rfl rfl rfl) rfl rfl rfl rfl ?_
    refine sr ?_
    exact wk_loopw [(0, 0), (5001, 203), (5002, 173)] ⟨_, _, _, _, _, hm1, rfl⟩ (Nat.lt_succ_self _)
   refine sr ?_
   refine wc_cs hm1 ?_ ?_ <;> clear hm1 <;> intro hm1
   ·refine sr ?_
    obtain ⟨y25, hy, hm1⟩ := obnd_o hm1
    refine wl_iq (Mwld_Tape_Next_sp (hm := hy)) 0 ?_
    refine ss ?_
    obtain ⟨y26, hy, hm1⟩ := bnd_o hm1
    refine wl_cq (Mwld_Whole_sp (hm := hy)) ?_
    refine ss ?_
    refine wl_wkw [(0, 0), (5001, 5001), (5002, 5002)] ⟨[(0, .p 0 0), (4, .d (lst Kv.ds y2.1)), (5, .h 5001), (6, .h 5002), (7, vI i8), (8, .d (lst Kv.ds e9)), (76, .h 5002), (81, .a [vI 3, .d (lst TWrite.ds ([] : List TWrite)), vS ⟨#[]⟩, vS ⟨#[]⟩, vB false, vI y25.1, vI y26.Kind, .d (lst Rng.ds y26.Ranges), vS y26.Key, vI y26.Count, .d (lst TVisit.ds ([] : List TVisit)), .d (lst TVisit.ds ([] : List TVisit))])], [(0, some (.box 89 [.d (lst dsI y25.2.l), vI y25.2.at_])), (5001, some (arrT 26 1 (dsL Kv.ds) tables6)), (5002, some (arrT 65 12 TRecord.ds l7))]⟩ ?_
    refine ss ?_
    refine wl_bt TRecord.ds [(TRecord.mk 3 ([] : List TWrite) ⟨#[]⟩ ⟨#[]⟩ false y25.1 (TReceipt.mk y26 ([] : List TVisit) ([] : List TVisit)))] rfl rfl (by simp only [flatV, cellsV, List.cons_append, List.nil_append, List.append_nil]; exact rfl) rfl rfl rfl rfl rfl rfl ?_
    refine ss ?_
    obtain ⟨l27, hy, hm1⟩ := obnd_o hm1
    refine wl_2 (n_app (k' := 183) hy rfl rfl rfl rfl rfl rfl rfl rfl) rfl rfl rfl rfl ?_
    refine sr ?_
    refine wl_bt (dsL Kv.ds) [e9] rfl rfl (by simp only [flatV, cellsV, List.cons_append, List.nil_append, List.append_nil]; exact rfl) rfl rfl rfl rfl rfl rfl ?_
    refine ss ?_
    obtain ⟨l28, hy, hm1⟩ := obnd_o hm1
    refine wl_2 (n_app (k' := 203) hy rfl rfl rfl rfl rfl rfl rfl rfl) rfl rfl rfl rfl ?_
    refine sr ?_
    exact wk_loopw [(0, 0), (5001, 203), (5002, 183)] ⟨_, _, _, _, _, hm1, rfl⟩ (Nat.lt_succ_self _)
   refine sr ?_
   refine wc_cs hm1 ?_ ?_ <;> clear hm1 <;> intro hm1
   ·refine sr ?_
    obtain ⟨y29, hy, hm1⟩ := obnd_o hm1
    refine wl_iq (Mwld_Tape_Next_sp (hm := hy)) 0 ?_
    refine ss ?_
    obtain ⟨y30, hy, hm1⟩ := obnd_o hm1
    refine wl_iq (Mwld_Tape_Next_sp (hm := hy)) 0 ?_
    refine ss ?_
    obtain ⟨e31, hy, hm1⟩ := obnd_o hm1
    have hge31 := hy
    refine wl_r (o_ixo hy rfl rfl rfl rfl) rfl rfl rfl ?_
    refine ss ?_
    refine wl_r (o_ldo (k := 5001) (f := (dsL Kv.ds)) (zz := 1) (u := .d (lst Kv.ds e31)) (off := 0) hge31 rfl rfl rfl (by exact inferInstance) rfl rfl) rfl rfl rfl ?_
    refine ss ?_
    obtain ⟨y32, hy, hm1⟩ := bnd_o hm1
    refine wl_cq (Mlaw37_proof_sp (hm := hy)) ?_
    refine ss ?_
    refine wl_wkw [(0, 0), (5001, 5001), (5002, 5002)] ⟨[(0, .p 0 0), (4, .d (lst Kv.ds y2.1)), (5, .h 5001), (6, .h 5002), (7, vI i8), (8, .d (lst Kv.ds e9)), (86, .h 5002), (97, .a [vI 4, .d (lst TWrite.ds ([] : List TWrite)), vS ⟨#[]⟩, vS ⟨#[]⟩, vB false, vI y29.1, vI y32.Query.Kind, .d (lst Rng.ds y32.Query.Ranges), vS y32.Query.Key, vI y32.Query.Count, .d (lst TVisit.ds y32.First), .d (lst TVisit.ds y32.Second)])], [(0, some (.box 89 [.d (lst dsI y30.2.l), vI y30.2.at_])), (5001, some (arrT 26 1 (dsL Kv.ds) tables6)), (5002, some (arrT 65 12 TRecord.ds l7))]⟩ ?_
    refine ss ?_
    refine wl_bt TRecord.ds [(TRecord.mk 4 ([] : List TWrite) ⟨#[]⟩ ⟨#[]⟩ false y29.1 y32)] rfl rfl (by simp only [flatV, cellsV, List.cons_append, List.nil_append, List.append_nil]; exact rfl) rfl rfl rfl rfl rfl rfl ?_
    refine ss ?_
    obtain ⟨l33, hy, hm1⟩ := obnd_o hm1
    refine wl_2 (n_app (k' := 199) hy rfl rfl rfl rfl rfl rfl rfl rfl) rfl rfl rfl rfl ?_
    refine sr ?_
    refine wl_bt (dsL Kv.ds) [e9] rfl rfl (by simp only [flatV, cellsV, List.cons_append, List.nil_append, List.append_nil]; exact rfl) rfl rfl rfl rfl rfl rfl ?_
    refine ss ?_
    obtain ⟨l34, hy, hm1⟩ := obnd_o hm1
    refine wl_2 (n_app (k' := 203) hy rfl rfl rfl rfl rfl rfl rfl rfl) rfl rfl rfl rfl ?_
    refine sr ?_
    exact wk_loopw [(0, 0), (5001, 203), (5002, 199)] ⟨_, _, _, _, _, hm1, rfl⟩ (Nat.lt_succ_self _)
   refine sx ?_
   refine sr ?_
   refine wl_bt (dsL Kv.ds) [e9] rfl rfl (by simp only [flatV, cellsV, List.cons_append, List.nil_append, List.append_nil]; exact rfl) rfl rfl rfl rfl rfl rfl ?_
   refine ss ?_
   obtain ⟨l35, hy, hm1⟩ := obnd_o hm1
   refine wl_2 (n_app (k' := 203) hy rfl rfl rfl rfl rfl rfl rfl rfl) rfl rfl rfl rfl ?_
   refine sr ?_
   exact wk_loopw [(0, 0), (5001, 203), (5002, 5002)] ⟨_, _, _, _, _, hm1, rfl⟩ (Nat.lt_succ_self _)
 rintro _ ⟨l36, x37, x38, rfl, rfl⟩
 refine sr ?_
 refine sx ?_
 cases hm
 exact wk_reti [(0, 0)] ⟨rfl, rfl⟩

end Go.Proofs.YtohpjdeohpamaaaGreatDoor
namespace Go.Proofs.YtohpjdeohpamaaaGreatDoor
open Go.RowKit
theorem tot_free_l1 : ∀ (fuel : Nat) (x : List Int) (a : Int) (tabs : List (List Kv)) (l : List TRecord) (i : Int) (n : Nat), okT ⟨x, a⟩ → 0 < tabs.length → tabs.length ≤ 100 → (∀ t ∈ tabs, t.length ≤ 1024) → okL n l → n ≤ 50 → i.toNat < fuel → (n : Int) + i ≤ 50 → (tabs.length : Int) + i ≤ 50 → Tot (Mlaw37_free_l1 fuel x a tabs l i) fun y => okT ⟨y.2.1, y.2.2⟩ ∧ okL 50 y.1
  | 0, _, _, _, _, _, _, _, _, _, _, _, _, hf, _, _ => by omega
  | fuel + 1, x, a, tabs, l, i, n, hτ, t0, t1, t2, hl, hn, hf, hi, hj => by
    have ih := fun (x : List Int) (a : Int) (tabs' : List (List Kv)) (l' : List TRecord) (n' : Nat) (h1 : okT ⟨x, a⟩) (h2 : tabs'.length = tabs.length + 1) (h3 : ∀ t ∈ tabs', t.length ≤ 1024) (h4 : okL n' l') (h5 : n' ≤ n + 1) (h6 : 0 < i) => tot_free_l1 fuel x a tabs' l' (i64w (i - 1)) n' h1 (by omega) (by omega) h3 h4 (by omega) (by rw [i64w_id (by omega) (by omega)]; omega) (by rw [i64w_id (by omega) (by omega)]; omega) (by rw [i64w_id (by omega) (by omega)]; omega)
    rw [Mlaw37_free_l1]
    by_cases h0 : ¬ 0 < i
    · rw [decide_eq_false h0]
      exact tot_some ⟨hτ, hl.up (by omega)⟩
    have h0 : 0 < i := by omega
    rw [decide_eq_true h0]
    simp only [sel_true, obnd_some, ocbnd_nxt]
    rw [tot_i64]
    have hadd : ∀ (t : List Kv), t.length ≤ 1024 → app tabs ([t] : List (List Kv)) = some (tabs ++ [t]) ∧ (tabs ++ [t]).length = tabs.length + 1 ∧ ∀ u ∈ tabs ++ [t], u.length ≤ 1024 := fun t ht => ⟨app_le (by simp; omega), by simp, fun u hu => by
      rcases List.mem_append.1 hu with hu | hu
      · exact t2 u hu
      · rw [List.mem_singleton.1 hu]; exact ht⟩
    have hll := hl.1
    have hrec : ∀ r : TRecord, app l ([r] : List TRecord) = some (l ++ [r]) := fun r => app_le (by simp; omega)
    refine tot_obnd (tot_lget (Q := fun t => t ∈ tabs) (by omega) (by omega) fun _ => List.getElem_mem _) fun e9 h9 => ?_
    have h9' := t2 e9 h9
    obtain ⟨g1, g2, g3⟩ := hadd e9 h9'
    refine tot_obnd (tot_next hτ (by omega)) fun y10 h10 => ?_
    refine tot_obnd (R := fun _ => True) (tot_sel (fun _ => tot_some trivial) fun _ => tot_some trivial) fun b _ => tot_sel (fun _ => ?_) fun _ => tot_sel (fun _ => ?_) fun _ => tot_sel (fun _ => ?_) fun _ => tot_sel (fun _ => ?_) fun _ => ?_
    · refine tot_bnd (tot_obnd (tot_writeIn h10.1) fun y13 h13 => tot_bnd (tot_obnd (tot_writeIn h13.1) fun y15 h15 => tot_obnd (tot_next h15.1 (by omega)) fun y16 h16 => ?_))
      have c16 := h16.2
      unfold Cho at c16
      rw [tot_i64]
      refine tot_obnd (tot_lsl (Q := fun z : List TWrite => z.length ≤ 1000) (by simp; omega) (by simp; omega)) fun z hz => ?_
      rw [eq_ref20_Apply, obnd_some, hrec, obnd_some]
      obtain ⟨k1, k2, k3⟩ := hadd (applyW e9 z).1 (apply_len _ _)
      rw [k1, obnd_some]
      exact ih _ _ _ _ (n + 1) h16.1 k2 k3 (hl.add okR_none hz) (by omega) h0
    · obtain ⟨k, τ1, e1, h1, -⟩ := key_ok h10.1
      rw [e1, obnd_some, bnd_eq, hrec, obnd_some, g1, obnd_some]
      exact ih _ _ _ _ (n + 1) h1 g2 g3 (hl.add okR_none (by simp)) (by omega) h0
    · refine tot_obnd (tot_next h10.1 (by omega)) fun y25 h25 => ?_
      rw [bnd_eq, hrec, obnd_some, g1, obnd_some]
      exact ih _ _ _ _ (n + 1) h25.1 g2 g3 (hl.add okR_begin (by simp)) (by omega) h0
    · refine tot_obnd (tot_next h10.1 (by omega)) fun y29 h29 => tot_obnd (tot_next h29.1 (by omega)) fun y30 h30 => ?_
      have c30 := h30.2
      unfold Cho at c30
      refine tot_obnd (tot_lget (Q := fun t => t ∈ tabs) (by omega) (by omega) fun _ => List.getElem_mem _) fun e31 h31 => ?_
      rw [bnd_eq, hrec, obnd_some, g1, obnd_some]
      exact ih _ _ _ _ (n + 1) h30.1 g2 g3 (hl.add (okR_proof (t2 e31 h31)) (by simp)) (by omega) h0
    · rw [g1, obnd_some]
      exact ih _ _ _ _ n h10.1 g2 g3 hl (by omega) h0
theorem tot_free {τ : TTape} (h : okT τ) : Tot (Mlaw37_free τ) fun y => tvalid y.1 = true ∧ y.1.length ≤ 3 ∧ okL 50 y.2.1 ∧ okT y.2.2 := by
  unfold Mlaw37_free
  refine tot_obnd (tot_rows h (by omega) (by omega)) fun y2 h2 => tot_obnd (tot_next h2.1 (by omega)) fun y3 h3 => ?_
  have c3 := h3.2
  unfold Cho at c3
  rw [tot_i64]
  have hv := h2.2.1
  refine tot_obnd (tot_free_l1 FU _ _ _ _ _ 0 h3.1 (by simp) (by simp) (fun t ht => by rw [List.mem_singleton.1 ht]; have := h2.2.2; omega) ⟨by simp, by simp⟩ (by omega) (by simp only [FU]; omega) (by simp; omega) (by simp; omega)) fun y hy => tot_some ⟨hv, by have := h2.2.2; simp only; omega, hy.2, hy.1⟩
end Go.Proofs.YtohpjdeohpamaaaGreatDoor
