/-
  Lemmas: A string out of a list of bytes.
-/
import Derived.Test.YticecfoigpcflaaGreatDoorPT25
import Derived.Test.YticecfoigpcflaaGreatDoorPT27
import Derived.Test.YticecfoigpcflaaGreatDoorPT31
import Derived.Test.YticecfoigpcflaaGreatDoorPT21
import Derived.Test.YticecfoigpcflaaGreatDoorPT29
import Derived.Laws.BytesString
set_option linter.unusedSimpArgs false
set_option linter.unusedVariables false
namespace Go.Proofs.YticecfoigpcflaaGreatDoor
open Go.RowKit
attribute [local irreducible] Tot sel bnd obnd ocbnd app lget lsl sstab
theorem nlt_tr {x y z : Bnd} (h1 : y.lt x = false) (h2 : z.lt y = false) : z.lt x = false := by
  unfold Bnd.lt at *
  cases hz : z.top <;> cases hy : y.top <;> cases hx : x.top <;> simp_all
  cases h : Op.bytesLess z.key.toList x.key.toList with
  | false => rfl
  | true =>
    cases g : Op.bytesLess y.key.toList z.key.toList with
    | true => rw [bytesLess_trans g h] at h1; cases h1
    | false => rw [bytesLess_total g h2] at h1; rw [h] at h1; cases h1
abbrev cutLt : Bnd → Bnd → Bool := fun e4 e5 => bnd (Mkeyspace_Compare e4 e5) fun y6 => decide (y6 < 0)
theorem cutLt_eq (a b : Bnd) : cutLt a b = a.lt b := by
  simp only [cutLt, bnd_eq, eq_keyspace_Compare]
  cases h : a.lt b with
  | true => exact decide_eq_true ((cmp_neg _ _).2 h)
  | false => exact decide_eq_false fun h2 => by rw [(cmp_neg _ _).1 h2] at h; cases h
theorem cut_wo : SM.Wo cutLt where
  asym x y h := by rw [cutLt_eq] at h ⊢; exact lt_asymm h
  tr x y z h1 h2 := by rw [cutLt_eq] at h1 h2 ⊢; exact nlt_tr h1 h2
theorem asc_get : ∀ d : List Bnd, (∀ (i j : Nat) (x y : Bnd), i < j → d[i]? = some x → d[j]? = some y → y.lt x = false) → Asc d
  | [], _ => trivial
  | c :: cs, h => ⟨fun x hx => by
    obtain ⟨j, hj⟩ := List.mem_iff_getElem?.1 hx
    exact h 0 (j + 1) c x (by omega) rfl (by simpa using hj), asc_get cs fun i j x y hij hx hy => h (i + 1) (j + 1) x y (by omega) (by simpa using hx) (by simpa using hy)⟩
theorem stab_asc (d : List Bnd) : Asc (SM.stab cutLt d) ∧ (SM.stab cutLt d).Perm d := by
  obtain ⟨h1, h2⟩ := SM.stab_spec cut_wo d
  refine ⟨asc_get _ fun i j x y hij hx hy => ?_, h1⟩
  have := h2 i j x y (Nat.zero_le _) hij (by rw [← h1.length_eq]; exact (List.getElem?_eq_some_iff.1 hy).1) hx hy
  rwa [cutLt_eq] at this
theorem prog_l2 (l4 : List Bnd) (hl : l4.length ≤ 100000) (r : Rng) : ∀ (k fuel m : Nat) (o : List Rng) (lo : Bnd), l4.length - m = k → m ≤ l4.length → k < fuel → o.length + k ≤ 1000000 →
    ∃ (q : List Rng) (x : Bnd), Mpaths_Split_l2 l4 r fuel o lo.key lo.top (m : Int) = some (q, x.key, x.top) ∧ q ++ [⟨x, r.hi⟩] = o ++ spl r.hi (l4.drop m) lo
  | 0, fuel, m, o, lo, h1, h2, h3, h4 => by
    obtain ⟨fuel, rfl⟩ : ∃ f, fuel = f + 1 := ⟨fuel - 1, by omega⟩
    refine ⟨o, lo, ?_, by rw [List.drop_of_length_le (by omega), spl]⟩
    rw [Mpaths_Split_l2, decide_eq_false (by omega), sel_false, obnd_some, ocbnd_ret]
  | k + 1, fuel, m, o, lo, h1, h2, h3, h4 => by
    obtain ⟨fuel, rfl⟩ : ∃ f, fuel = f + 1 := ⟨fuel - 1, by omega⟩
    obtain ⟨c, hx, hdr⟩ := drop_c (show m < l4.length by omega)
    rw [hdr, spl]
    have hcond : (bnd (vb c) fun y15 => sel y15 (bnd (cmp c (Bnd.mk lo.key lo.top)) fun y16 => sel (decide (0 < y16)) (bnd (cmp c r.hi) fun y17 => some (decide (y17 < 0))) (some false)) (some false)) = some (inC lo r.hi c) := by
      simp only [bnd_eq, inC, show (Bnd.mk lo.key lo.top) = lo from rfl]
      cases vb c with
      | false => rw [sel_false]; rfl
      | true =>
        rw [sel_true]
        by_cases g : 0 < cmp c lo
        · rw [decide_eq_true g, sel_true]; rfl
        · rw [decide_eq_false g, sel_false]; rfl
    rw [Mpaths_Split_l2, decide_eq_true (by omega), sel_true, obnd_some, ocbnd_nxt, lget_nat, hx, obnd_some, eq_keyspace_ValidBound, eq_keyspace_Compare, eq_keyspace_Compare, hcond, obnd_some, i64w_id (by omega) (by omega)]
    rw [show (m : Int) + 1 = ((m + 1 : Nat) : Int) by omega]
    cases hi : inC lo r.hi c with
    | false =>
      rw [sel_false, if_neg (by simp)]
      exact prog_l2 l4 hl r k fuel (m + 1) o lo (by omega) (by omega) (by omega) (by omega)
    | true =>
      rw [sel_true, if_pos rfl, app_le (by simp; omega), obnd_some]
      obtain ⟨q, x, e1, e2⟩ := prog_l2 l4 hl r k fuel (m + 1) (o ++ [⟨lo, c⟩]) c (by omega) (by omega) (by omega) (by simp; omega)
      exact ⟨q, x, e1, by rw [e2]; simp⟩
theorem prog_l1 (cs : List Bnd) (hc : cs.length ≤ 200) : ∀ (l o : List Rng), o.length + l.length * (cs.length + 1) ≤ 900000 → Mpaths_Split_l1 cs l o = some (o ++ spls cs l)
  | [], o, _ => by rw [Mpaths_Split_l1, spls, List.append_nil]
  | r :: l, o, h => by
    rw [List.length_cons, Nat.add_mul, Nat.one_mul] at h
    rw [Mpaths_Split_l1, spls, eq_keyspace_Empty, bnd_eq]
    cases he : emp r with
    | true => rw [sel_true, obnd_some, ocbnd_ret, obnd_some, prog_l1 cs hc l o (by omega), if_pos rfl, List.nil_append]
    | false =>
      have hs := spl_len r.hi cs r.lo
      obtain ⟨q, x, e1, e2⟩ := prog_l2 cs (by omega) r cs.length FU 0 o r.lo (by omega) (by omega) (by simp only [FU]; omega) (by omega)
      have hq : q.length + 1 = o.length + (spl r.hi cs r.lo).length := by
        have := congrArg List.length e2
        simpa using this
      rw [show ((0 : Nat) : Int) = 0 from rfl] at e1
      rw [sel_false, obnd_some, ocbnd_nxt, e1, obnd_some]
      simp only []
      rw [app_le (by simp; omega), obnd_some, obnd_some, show (Rng.mk (Bnd.mk x.key x.top) r.hi) = ⟨x, r.hi⟩ from rfl, e2, List.drop_zero, prog_l1 cs hc l _ (by rw [List.length_append]; omega), if_neg (by simp), List.append_assoc]
theorem eq_clone_Bounds (l : List Bnd) (h : l.length ≤ 4294967296) : Mclone_List_api_Bound_ l = some l := by
  unfold Mclone_List_api_Bound_
  rw [app_le (by simpa using h), obnd_some]; rfl
theorem eq_Split (l : List Rng) (cuts : List Bnd) (hl : l.length ≤ 200) (hc : cuts.length ≤ 200) : Mpaths_Split l cuts = some (spls (SM.stab cutLt cuts) l) ∧ Mref28_Split l cuts = some (spls (SM.stab cutLt cuts) l) := by
  obtain ⟨h1, h2⟩ := stab_asc cuts
  have hn := h2.length_eq
  refine ⟨?_, ref_Split cuts _ l h1 (fun c => h2.mem_iff) (by omega) hl⟩
  have hb : l.length * ((SM.stab cutLt cuts).length + 1) ≤ 200 * 201 := Nat.mul_le_mul hl (by omega)
  have hs : sstab cutLt cuts = some (SM.stab cutLt cuts) := by unfold sstab; rw [if_pos (by omega)]
  rw [Mpaths_Split, eq_clone_Bounds cuts (by omega), obnd_some, hs, obnd_some, prog_l1 _ (by omega) l [] (by simp; omega), obnd_some, List.nil_append]
theorem spl_cut {hi : Bnd} : ∀ (cs : List Bnd) (lo : Bnd), Cut hi lo (spl hi cs lo)
  | [], lo => .last
  | c :: cs, lo => by
    rw [spl]
    split
    · rename_i h
      obtain ⟨h1, h2, h3⟩ := inC_iff.1 h
      exact .cons h2 h3 h1 (spl_cut cs c)
    · exact spl_cut cs lo
theorem spls_pts (cs : List Bnd) : ∀ l : List Rng, (∀ r ∈ spls cs l, emp r = false) ∧ ∀ b, vb b = true → (Pt (spls cs l) b ↔ Pt (l.filter ne) b)
  | [] => ⟨by simp [spls], fun b _ => by simp [spls]⟩
  | r :: l => by
    obtain ⟨g1, g2⟩ := spls_pts cs l
    rw [spls]
    cases he : emp r with
    | true =>
      rw [if_pos rfl, List.nil_append, List.filter_cons_of_neg (by simp [ne, he])]
      exact ⟨g1, g2⟩
    | false =>
      rw [if_neg (by simp), List.filter_cons_of_pos (by simp [ne, he])]
      obtain ⟨v1, v2, v3⟩ := emp_vb he
      obtain ⟨k1, k2⟩ := cut_pts v2 (spl_cut cs r.lo) v1 v3
      refine ⟨fun x hx => (List.mem_append.1 hx).elim (k1 x) (g1 x), fun b hb => ?_⟩
      rw [pt_cons, ← g2 b hb, ← k2 b hb]
      simp only [Pt, List.mem_append]
      constructor
      · rintro ⟨x, h1 | h1, h2⟩
        · exact .inl ⟨x, h1, h2⟩
        · exact .inr ⟨x, h1, h2⟩
      · rintro (⟨x, h1, h2⟩ | ⟨x, h1, h2⟩)
        · exact ⟨x, .inl h1, h2⟩
        · exact ⟨x, .inr h1, h2⟩
end Go.Proofs.YticecfoigpcflaaGreatDoor
namespace Go.Proofs.YticecfoigpcflaaGreatDoor
open Go.RowKit
attribute [local irreducible] Tot sel bnd obnd ocbnd app lget lsl sstab
abbrev awQ : TQuery := ⟨1, [⟨⟨⟨#[97]⟩, false⟩, ⟨⟨#[109]⟩, false⟩⟩], ⟨#[]⟩, 0⟩
abbrev awC : List Bnd := [⟨⟨#[102]⟩, false⟩, ⟨⟨#[122]⟩, false⟩]
abbrev awR1 : Rng := ⟨⟨⟨#[97]⟩, false⟩, ⟨⟨#[102]⟩, false⟩⟩
abbrev awR2 : Rng := ⟨⟨⟨#[102]⟩, false⟩, ⟨⟨#[109]⟩, false⟩⟩
abbrev awR : Rng := ⟨⟨⟨#[97]⟩, false⟩, ⟨⟨#[109]⟩, false⟩⟩
theorem aw_union : union [awR] = [awR] := union_cut .last (by kernel_rfl)
theorem aw_qrg : qrg awQ = [awR] := by
  have e : qchk 1 [awR] ⟨#[]⟩ 0 = 0 := by kernel_rfl
  show qranges 1 [awR] ⟨#[]⟩ 0 = [awR]
  unfold qranges
  rw [if_pos e]
  exact aw_union
theorem aw_ranges : Mquery_Ranges awQ = some [awR] := by
  unfold Mquery_Ranges
  rw [if_pos (by decide)]
  exact congrArg some aw_qrg
theorem aw_zones : Mpaths_zones awQ awC = some [[awR1], [awR2]] := by
  have e : spls (SM.stab cutLt awC) [⟨⟨⟨#[97]⟩, false⟩, ⟨⟨#[109]⟩, false⟩⟩] = [awR1, awR2] := by kernel_rfl
  rw [Mpaths_zones, aw_ranges, obnd_some, (eq_Split _ awC (by decide) (by decide)).1, e]
  show obnd _ _ = _
  kernel_rfl
theorem aw_start (r : Rng) (h : stErr [awR] none [r] = 0) : Mwalk_Start awQ [r] = some (⟨awQ, [r], []⟩, 0) := by
  rw [eq_walk_Start awQ [r] (by decide)]
  unfold startW
  rw [if_neg (by rw [show qch awQ = 0 by kernel_rfl]; decide), if_neg (by simp), aw_qrg, if_pos h]
theorem aw_collect : Mpaths_collect awQ awC = some ([⟨awQ, [awR1], []⟩, ⟨awQ, [awR2], []⟩], 0) := by
  have e1 : Mquery_Check awQ = some 0 := by
    unfold Mquery_Check
    rw [if_pos (by decide)]
    kernel_rfl
  have e2 : Mpaths_collect_l1 awC awC 0 = some (Ctl.nxt ()) := by kernel_rfl
  have e3 : Mpaths_collect_l2 awQ [[awR1], [awR2]] [] = some (Ctl.nxt [⟨awQ, [awR1], []⟩, ⟨awQ, [awR2], []⟩]) := by
    rw [Mpaths_collect_l2, aw_start _ (by kernel_rfl), obnd_some]
    simp only [decide_true, Bool.not_true, sel_false]
    rw [app_le (by simp), obnd_some, Mpaths_collect_l2, aw_start _ (by kernel_rfl), obnd_some]
    simp only [decide_true, Bool.not_true, sel_false]
    rw [app_le (by simp), obnd_some, Mpaths_collect_l2]
    rfl
  rw [Mpaths_collect, e1, obnd_some]
  simp only [decide_true, Bool.not_true, sel_false]
  rw [decide_eq_false (by decide), sel_false, e2, obnd_some, ocbnd_nxt, aw_zones, obnd_some, e3, obnd_some, ocbnd_nxt]
theorem pawake_ok : Mlaw30_awake = some true := by
  have e : Mpaths_Start awQ awC = some (⟨awQ, awC, [⟨awQ, [awR1], []⟩, ⟨awQ, [awR2], []⟩], [⟨awQ, [awR1], []⟩, ⟨awQ, [awR2], []⟩], false⟩, 0) := by
    have e4 : Mclone_Walks [⟨awQ, [awR1], []⟩, ⟨awQ, [awR2], []⟩] = some [⟨awQ, [awR1], []⟩, ⟨awQ, [awR2], []⟩] := by kernel_rfl
    rw [Mpaths_Start, aw_collect, obnd_some]
    simp only [decide_true, Bool.not_true, sel_false]
    rw [eq_clone_Query _ (by decide), obnd_some, eq_clone_Bounds _ (by decide), obnd_some, e4, obnd_some]
  have e0 : Mlaw30_bounds ⟨#[97]⟩ ⟨#[109]⟩ = awR := rfl
  rw [Mlaw30_awake, e0, bnd_eq, show (TQuery.mk 1 ([awR] : List Rng) ⟨#[]⟩ 0) = awQ from rfl, e, obnd_some]
  show sel _ _ _ = _
  kernel_rfl
end Go.Proofs.YticecfoigpcflaaGreatDoor
namespace Go.Proofs.YticecfoigpcflaaGreatDoor
open Go.RowKit
def bstr (xs : List Int) : ByteArray := xs.foldl (fun r n => r.push (UInt8.ofNat n.toNat)) ByteArray.empty
section
variable {P : Program} {o : Oper} {H : Hp} {sl : List (Nat × V)} {x : Operand} {T1 T2 E : TypeId}
theorem rvs_u8 {w : World} {ok : Nat → Prop} {ρ : Lc} : ∀ {xs : List Int} {us : List Value}, RVs w ok ρ (xs.map fun a => V.d (.c (.int .u8 a))) us → us = xs.map (Value.int .u8)
  | [], _, .nil => rfl
  | x :: xs, _, .cons h1 h2 => by
    rw [rvs_u8 h2, rv_c h1]; rfl
theorem o_cvbs {f : Int → List D} {xs : List Int} (hop : o.op = .convert T1 T2 x) (hx : ev sl x = some (.d (lst f xs))) (hf : ∀ a, f a = [.c (.int .u8 a)]) (h1 : P.underlying T1 = some (.slice E)) (h2 : P.underlying E = some (.int .u8)) (h3 : P.underlying T2 = some .string) (h0 : xs ≠ []) : OpD P o H sl 0 0 (.d (.c (.string (bstr xs)))) [] := .read fun B a w ρ hs hr => by
  have hxs : (xs.flatMap f).map V.d = xs.map fun a => V.d (.c (.int .u8 a)) := by
    clear h0 hx
    induction xs with
    | nil => rfl
    | cons x xs ih => rw [List.flatMap_cons, hf, List.map_append, ih]; rfl
  obtain ⟨px, cx, hv, hmc, hxx⟩ := srcV_spec (m := xs.length) (ws := (xs.flatMap f).map .d) hr rfl (ev_spec hs hx)
  obtain ⟨b, o0, us, rfl, -, hus, -, hcell⟩ := hxx.resolve_left fun h => h0 (List.eq_nil_of_length_eq_zero h)
  rw [hxs] at hus
  have e := rvs_u8 hus
  subst e
  have hl := run_loadCells_list (P := P) w ⟨b, o0, none⟩ (xs.map (Value.int .u8)) fun j v hj => by rw [addr_add]; exact hcell j v hj
  rw [List.length_map] at hl
  refine ⟨_, ?_, .d (.c rfl)⟩
  unfold execOp; rw [hop]
  simp [hv, run_convert_bytes_string w T1 T2 E _ _ _ h1 h2 h3, run_bytesToString w _ _ _ _ hl, bstr]
end
end Go.Proofs.YticecfoigpcflaaGreatDoor
