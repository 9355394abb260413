/-
  Lemmas: A list that is made with a number of zero elements.
-/
import Derived.Test.YtohpjdeohpamaaaGreatPA31
import Derived.Test.YtohpjdeohpamaaaGreatPA25
import Derived.Test.YtohpjdeohpamaaaGreatPA29
import Derived.Test.YtohpjdeohpamaaaGreatPA16
import Derived.Test.YtohpjdeohpamaaaGreatPA20
import Derived.Test.YtohpjdeohpamaaaGreatPA9
import Derived.Laws.MakeOwn
set_option linter.unusedSimpArgs false
set_option linter.unusedVariables false
namespace Go.Proofs.YtohpjdeohpamaaaGreat
open Go.RowKit
def stB (q : Int) (r : TRecord) (i : Int) (z : Int × Bool) : Int × Bool := if r.Query = q then (if r.Kind = 3 ∧ z.1 < 0 then i else z.1, z.2 || decide (r.Kind = 4)) else z
theorem begin_cons (q : Int) (r : TRecord) (xs : List TRecord) (i a : Int) (e : Bool) : Mref37_begin_l1 q (r :: xs) i a e = Mref37_begin_l1 q xs (i + 1) (stB q r i (a, e)).1 (stB q r i (a, e)).2 := by
  rw [Mref37_begin_l1]
  unfold stB
  by_cases h : r.Query = q
  · rw [decide_eq_true h, if_pos h]
    simp only [Bool.not_true, sel_false, bnd_eq]
    by_cases k : r.Kind = 3
    · rw [decide_eq_true k, sel_true]
      by_cases n : a < 0 <;> cases e <;> simp [k, n, sel_true, sel_false]
    · rw [decide_eq_false k, sel_false, sel_false]
      cases e <;> simp [k, sel_true, sel_false]
  · rw [decide_eq_false h, if_neg h]; rfl
theorem begin_app (q : Int) (r : TRecord) : ∀ (p : List TRecord) (i a : Int) (e : Bool), Mref37_begin_l1 q (p ++ [r]) i a e = stB q r (i + p.length) (Mref37_begin_l1 q p i a e)
  | [], i, a, e => by
    rw [List.nil_append, begin_cons, Mref37_begin_l1, Mref37_begin_l1]
    simp
  | x :: xs, i, a, e => by
    rw [List.cons_append, begin_cons, begin_app q r xs, begin_cons]
    congr 1
    simp only [List.length_cons]; omega
def bOf (s : AS) (q : Int) : Int := match s.bg q with | none => -1 | some a => a.1
structure InvA (p : List TRecord) (s : AS) : Prop where
  bgn : ∀ q, Mref37_begin_l1 q p 0 (-1) false = (bOf s q, s.en q)
  rcd : ∀ q a, s.bg q = some a → 0 ≤ a.1 ∧ ∃ r, p[a.1.toNat]? = some r ∧ r.Receipt.Query = a.2
theorem InvA.step {p : List TRecord} {s : AS} (h : InvA p s) {r : TRecord} (h0 : (recW s p.length r).1 = 0) : InvA (p ++ [r]) (recW s p.length r).2 := by
  have keep : ∀ q a, s.bg q = some a → 0 ≤ a.1 ∧ ∃ r', (p ++ [r])[a.1.toNat]? = some r' ∧ r'.Receipt.Query = a.2 := fun q a e => by
    obtain ⟨g, r', e1, e2⟩ := h.rcd q a e
    refine ⟨g, r', ?_, e2⟩
    rw [List.getElem?_append_left (List.getElem?_eq_some_iff.1 e1).1]
    exact e1
  have same : ∀ q, r.Kind ≠ 3 → r.Kind ≠ 4 → Mref37_begin_l1 q (p ++ [r]) 0 (-1) false = (bOf s q, s.en q) := fun q k3 k4 => by
    rw [begin_app, h.bgn, stB]
    split
    · rw [if_neg (fun x => k3 x.1), decide_eq_false k4, Bool.or_false]
    · rfl
  unfold recW at h0 ⊢
  by_cases k1 : r.Kind = 1
  · rw [if_pos k1] at h0 ⊢
    split at h0
    · rename_i e; rw [if_pos e]; exact ⟨fun q => same q (by omega) (by omega), keep⟩
    · rename_i e; exact absurd h0 e
  rw [if_neg k1] at h0 ⊢
  by_cases k2 : r.Kind = 2
  · rw [if_pos k2] at h0 ⊢
    split at h0
    · rename_i e; rw [if_pos e]; exact ⟨fun q => same q (by omega) (by omega), keep⟩
    · cases h0
  rw [if_neg k2] at h0 ⊢
  by_cases k3 : r.Kind = 3
  · rw [if_pos k3] at h0 ⊢
    cases hb : s.bg r.Query with
    | some p => rw [hb] at h0; cases h0
    | none =>
      simp only
      refine ⟨fun q => ?_, fun q a e => ?_⟩
      · rw [begin_app, h.bgn, stB]
        by_cases e : r.Query = q
        · subst e
          rw [if_pos rfl]
          simp [bOf, hb, k3, AS.push]
        · rw [if_neg e]
          simp only [bOf, AS.push]
          rw [if_neg (fun x => e x.symm)]
      · simp only at e
        split at e
        · cases e
          refine ⟨by simp only; omega, r, ?_, rfl⟩
          simp
        · exact keep q a e
  rw [if_neg k3] at h0 ⊢
  by_cases k4 : r.Kind = 4
  · rw [if_pos k4] at h0 ⊢
    cases hb : s.bg r.Query with
    | none => rw [hb] at h0; cases h0
    | some p' =>
      rw [hb] at h0
      simp only at h0 ⊢
      split at h0
      · cases h0
      · rename_i e1
        rw [if_neg e1]
        split at h0
        · rename_i e2; exact absurd h0 e2
        · rename_i e2
          rw [if_neg e2]
          split at h0
          · rename_i e3
            rw [if_pos e3]
            refine ⟨fun q => ?_, keep⟩
            rw [begin_app, h.bgn, stB]
            by_cases e : r.Query = q
            · subst e
              rw [if_pos rfl, if_neg (fun x => k3 x.1)]
              simp [bOf, k4, AS.push]
            · rw [if_neg e]
              simp only [bOf, AS.push]
              rw [if_neg (fun x => e x.symm)]
          · cases h0
  · rw [if_neg k4] at h0; cases h0
def nowW (s : AS) (r : TRecord) : List Kv := if r.Kind = 1 then (applyW s.now r.Writes).1 else s.now
theorem nowW_eq {s : AS} {i : Int} {r : TRecord} (h0 : (recW s i r).1 = 0) : (recW s i r).2.now = nowW s r ∧ (recW s i r).2.tabs = s.tabs ++ [nowW s r] := by
  unfold recW at h0 ⊢
  unfold nowW
  by_cases k1 : r.Kind = 1
  · rw [if_pos k1] at h0 ⊢
    rw [if_pos k1]
    split at h0
    · rename_i e; rw [if_pos e]; exact ⟨rfl, rfl⟩
    · rename_i e; exact absurd h0 e
  rw [if_neg k1] at h0 ⊢
  rw [if_neg k1]
  by_cases k2 : r.Kind = 2
  · rw [if_pos k2] at h0 ⊢
    split at h0
    · rename_i e; rw [if_pos e]; exact ⟨rfl, rfl⟩
    · cases h0
  rw [if_neg k2] at h0 ⊢
  by_cases k3 : r.Kind = 3
  · rw [if_pos k3] at h0 ⊢
    cases hb : s.bg r.Query with
    | some p => rw [hb] at h0; cases h0
    | none => exact ⟨rfl, rfl⟩
  rw [if_neg k3] at h0 ⊢
  by_cases k4 : r.Kind = 4
  · rw [if_pos k4] at h0 ⊢
    cases hb : s.bg r.Query with
    | none => rw [hb] at h0; cases h0
    | some p' =>
      rw [hb] at h0
      simp only at h0 ⊢
      split at h0
      · cases h0
      · rename_i e1
        rw [if_neg e1]
        split at h0
        · rename_i e2; exact absurd h0 e2
        · rename_i e2
          rw [if_neg e2]
          split at h0
          · rename_i e3
            rw [if_pos e3]
            exact ⟨rfl, rfl⟩
          · cases h0
  · rw [if_neg k4] at h0; cases h0
theorem ref37_one {p rest : List TRecord} {s : AS} {r : TRecord} (ha : okA s p.length) (h : InvA p s) (hk : okR r.Receipt) (hw : r.Kind = 1 → (applyW s.now r.Writes).2 = 0) : Mref37_one (p ++ r :: rest) (p.length : Int) (s.tabs ++ [nowW s r]) s.now = some (recW s p.length r).1 := by
  obtain ⟨-, c2, c3⟩ := ckA_eq hk
  have hl := ha.len
  have ht := ha.top
  have g1 : lget (p ++ r :: rest) (p.length : Int) = some r := by rw [lget_nat]; simp
  have g2 : lsl (p ++ r :: rest) 0 (p.length : Int) = some p := by
    rw [lsl_le (by simp; omega)]
    simp
  have g3 : Mref37_begin p r.Query = (bOf s r.Query, s.en r.Query) := by
    unfold Mref37_begin
    rw [bnd_eq]
    exact h.bgn r.Query
  unfold Mref37_one recW
  rw [g1, obnd_some, g2, obnd_some, bnd_eq, g3]
  simp only
  by_cases k1 : r.Kind = 1
  · rw [decide_eq_true k1, if_pos k1, if_pos (hw k1), sel_true]
  rw [decide_eq_false k1, if_neg k1, sel_false]
  by_cases k2 : r.Kind = 2
  · rw [decide_eq_true k2, if_pos k2, sel_true, bnd_eq, eq_ref20_Get]
    generalize getW r.Key s.now = z
    obtain ⟨v, b⟩ := z
    by_cases e1 : v = r.Value
    · by_cases e2 : b = r.Has
      · simp [e1, e2, sel_false]
      · have : (b == r.Has) = false := by simpa using e2
        simp [e1, e2, this, sel_true, sel_false]
    · simp [e1, sel_true]
  rw [decide_eq_false k2, if_neg k2, sel_false]
  by_cases k3 : r.Kind = 3
  · rw [decide_eq_true k3, if_pos k3, sel_true]
    cases hb : s.bg r.Query with
    | some a =>
      have := (h.rcd _ _ hb).1
      simp [bOf, hb, this, sel_true]
    | none => simp [bOf, hb, sel_false]
  rw [decide_eq_false k3, if_neg k3, sel_false]
  by_cases k4 : r.Kind = 4
  · rw [decide_eq_true k4, if_pos k4, sel_true]
    cases hb : s.bg r.Query with
    | none => simp [bOf, hb, sel_true, obnd_some]
    | some a =>
      obtain ⟨b1, r', b2, b3⟩ := h.rcd _ _ hb
      have b4 := ha.bg _ _ hb
      have hq : bOf s r.Query = a.1 := by unfold bOf; rw [hb]
      have b5 := (List.getElem?_eq_some_iff.1 b2).1
      have g4 : lget (p ++ r :: rest) a.1 = some r' := by
        rw [show a.1 = ((a.1.toNat : Nat) : Int) by omega, lget_nat, List.getElem?_append_left b5]
        exact b2
      rw [hq]
      simp only
      rw [decide_eq_false (by omega), sel_false, g4, obnd_some, eq_ref22_Same, b3, obnd_some]
      have hx : (sel (s.en r.Query) (some true) (some (!decide (a.2 = r.Receipt.Query))) : Option Bool) = some (decide (s.en r.Query = true ∨ a.2 ≠ r.Receipt.Query)) := by
        cases s.en r.Query
        · by_cases e : a.2 = r.Receipt.Query <;> simp [e, sel_false]
        · simp [sel_true]
      rw [hx, obnd_some]
      by_cases e1 : s.en r.Query = true ∨ a.2 ≠ r.Receipt.Query
      · rw [decide_eq_true e1, if_pos e1, sel_true]
      · rw [decide_eq_false e1, if_neg e1, sel_false, c2, obnd_some]
        by_cases e2 : (ckA r.Receipt).2 = 0
        · rw [decide_eq_true e2, if_neg (by simp [e2])]
          simp only [Bool.not_true, sel_false]
          have g5 : lsl (s.tabs ++ [nowW s r]) a.1 (i64w ((p.length : Int) + 1)) = some (s.tabs.drop a.1.toNat ++ [s.now]) := by
            rw [i64w_id (by omega) (by omega), show ((p.length : Int) + 1) = ((s.tabs ++ [nowW s r]).length : Int) by simp; omega, lsl_end _ b1 (by simp; omega), List.drop_append_of_le_length (by omega)]
            unfold nowW
            rw [if_neg k1]
          rw [g5, obnd_some, eq_ref37_Moment _ _ _ hk.q, obnd_some]
          by_cases e3 : (mom r.Receipt.Query (ckA r.Receipt).1 (s.tabs.drop a.1.toNat ++ [s.now])).2 = true
          · rw [if_pos e3, e3]; rfl
          · rw [if_neg e3, Bool.eq_false_iff.2 e3]; rfl
        · rw [decide_eq_false e2, if_pos e2]; rfl
  · rw [decide_eq_false k4, if_neg k4]; rfl
theorem ref37_Check_l1 (l : List TRecord) : ∀ (rest p : List TRecord) (s : AS), l = p ++ rest → okA s p.length → InvA p s → l.length ≤ 4096 → (∀ r ∈ rest, okR r.Receipt) → Mref37_Check_l1 l rest (p.length : Int) s.now s.tabs = some (ctlU (runA rest p.length s))
  | [], _, _, _, _, _, _, _ => rfl
  | r :: rs, p, s, hl, ha, h, hn, hk => by
    have hlen := ha.len
    have htop : (p.length : Int) < 4096 := by subst hl; simp at hn; omega
    have happ : ∀ t, app s.tabs ([t] : List (List Kv)) = some (s.tabs ++ [t]) := fun t => app_le (by simp; omega)
    have go : (r.Kind = 1 → (applyW s.now r.Writes).2 = 0) → (obnd (app s.tabs ([nowW s r] : List (List Kv))) fun l11 => obnd (Mref37_one l (p.length : Int) l11 s.now) fun y12 => sel (!decide (y12 = 0)) (some (Ctl.ret ((p.length : Int), y12))) (Mref37_Check_l1 l rs ((p.length : Int) + 1) (nowW s r) l11)) = some (ctlU (runA (r :: rs) p.length s)) := fun hw => by
      rw [happ, obnd_some, runA]
      have h1 := ref37_one (rest := rs) ha h (hk r List.mem_cons_self) hw
      rw [← hl] at h1
      rw [h1, obnd_some]
      by_cases h0 : (recW s p.length r).1 = 0
      · rw [decide_eq_true h0, if_pos h0]
        simp only [Bool.not_true, sel_false]
        have := ref37_Check_l1 l rs (p ++ [r]) (recW s p.length r).2 (by rw [hl]; simp) (by have := ha.step (by omega) h0; simpa using this) (h.step h0) hn fun x hx => hk x (List.mem_cons_of_mem _ hx)
        rw [(nowW_eq h0).1, (nowW_eq h0).2] at this
        simpa using this
      · rw [decide_eq_false h0, if_neg h0]; rfl
    rw [Mref37_Check_l1]
    by_cases k1 : r.Kind = 1
    · rw [decide_eq_true k1, sel_true, eq_ref20_Apply, obnd_some]
      by_cases e : (applyW s.now r.Writes).2 = 0
      · rw [decide_eq_true e]
        simp only [Bool.not_true, sel_false, obnd_some, ocbnd_nxt]
        have := go fun _ => e
        rw [show nowW s r = (applyW s.now r.Writes).1 by unfold nowW; rw [if_pos k1]] at this
        exact this
      · rw [decide_eq_false e]
        simp only [Bool.not_false, sel_true, obnd_some]
        rw [runA]
        have : (recW s p.length r) = ((applyW s.now r.Writes).2, s) := by unfold recW; rw [if_pos k1, if_neg e]
        rw [this, if_neg e]
        rfl
    · rw [decide_eq_false k1, sel_false, obnd_some, ocbnd_nxt]
      have := go fun x => absurd x k1
      rw [show nowW s r = s.now by unfold nowW; rw [if_neg k1]] at this
      exact this
theorem eq_ref37_Check (t : List Kv) (l : List TRecord) (hk : ∀ r ∈ l, okR r.Receipt) : Mref37_Check t l = some (checkW t l) := by
  unfold Mref37_Check checkW
  by_cases hl : 4096 < l.length
  · rw [decide_eq_true (by omega), if_pos hl]; rfl
  · rw [decide_eq_false (by omega), if_neg hl, sel_false, eq_ref20_Valid, obnd_some]
    cases ht : tvalid t with
    | false => rfl
    | true =>
      simp only [Bool.not_true, sel_false, if_true]
      have := ref37_Check_l1 l l [] (AS0 t) rfl (okA0 ht) ⟨fun _ => rfl, fun _ _ h => by cases h⟩ (by omega) hk
      rw [show ((([] : List TRecord).length : Nat) : Int) = 0 from rfl] at this
      rw [show ((AS0 t).now) = t from rfl, show (AS0 t).tabs = [] from rfl] at this
      rw [this, obnd_some]
      cases runA l 0 (AS0 t) <;> rfl
end Go.Proofs.YtohpjdeohpamaaaGreat
namespace Go.Proofs.YtohpjdeohpamaaaGreat
open Go.RowKit
set_option maxRecDepth 100000
set_option maxHeartbeats 4000000
attribute [local irreducible] WK WC WL Wk Rel OpD OpV WD WO sel bnd obnd app lget lsl sget ssl scat letg iquo irem Op.bytesLess
attribute [local irreducible] qchk qranges union
def Mwld_Whole : TQuery :=
 bnd (Mwld_All) fun y1 =>
 (TQuery.mk 1 ([y1] : List Rng) ⟨#[]⟩ 0)
theorem Mwld_Whole_sp {y : TQuery} (hm : Mwld_Whole = y) : Spec Tryz.prog 8 [] [] fun u h => u = .a [vI y.Kind, .d (lst Rng.ds y.Ranges), vS y.Key, vI y.Count] ∧ h = [] := by
 refine si Tryz.func8 Tryz.ntmps8 Tryz.results8 fun B w0 ρ0 => ?_
 unfold Mwld_Whole at hm
 refine sr ?_
 refine sr ?_
 obtain ⟨y1, hy, hm⟩ := bnd_o hm
 refine wl_cq (Mwld_All_sp (hm := hy)) ?_
 refine ss ?_
 refine wl_bt Rng.ds [y1] rfl rfl (by simp only [flatV, cellsV, List.cons_append, List.nil_append, List.append_nil]; exact rfl) rfl rfl rfl rfl rfl rfl ?_
 refine sx ?_
 subst hm
 exact wk_r

def Mlaw37_visits (rows1 : List Kv) : List TVisit :=
 bnd (Mwld_All) fun y2 =>
 bnd (Mwld_All) fun y3 =>
 ([(TVisit.mk (TView.mk 1 y2 (TStamp.mk 0 0) rows1) y3)] : List TVisit)
theorem Mlaw37_visits_sp {rows1 : List Kv} {y : List TVisit} (hm : Mlaw37_visits rows1 = y) : Spec Tryz.prog 16 [.d (lst Kv.ds rows1)] [] fun u h => u = .d (lst TVisit.ds y) ∧ h = [] := by
 refine si Tryz.func16 Tryz.ntmps16 Tryz.results16 fun B w0 ρ0 => ?_
 unfold Mlaw37_visits at hm
 refine sr ?_
 refine sr ?_
 obtain ⟨y2, hy, hm⟩ := bnd_o hm
 refine wl_cq (Mwld_All_sp (hm := hy)) ?_
 refine ss ?_
 obtain ⟨y3, hy, hm⟩ := bnd_o hm
 refine wl_cq (Mwld_All_sp (hm := hy)) ?_
 refine ss ?_
 refine wl_bt TVisit.ds [(TVisit.mk (TView.mk 1 y2 (TStamp.mk 0 0) rows1) y3)] rfl rfl (by simp only [flatV, cellsV, List.cons_append, List.nil_append, List.append_nil]; exact rfl) rfl rfl rfl rfl rfl rfl ?_
 refine sx ?_
 subst hm
 exact wk_r

def Mlaw37_proof (rows1 : List Kv) : TReceipt :=
 bnd (Mwld_Whole) fun y2 =>
 bnd (Mlaw37_visits rows1) fun y3 =>
 bnd (Mlaw37_visits rows1) fun y4 =>
 (TReceipt.mk y2 y3 y4)
theorem Mlaw37_proof_sp {rows1 : List Kv} {y : TReceipt} (hm : Mlaw37_proof rows1 = y) : Spec Tryz.prog 9 [.d (lst Kv.ds rows1)] [] fun u h => u = .a [vI y.Query.Kind, .d (lst Rng.ds y.Query.Ranges), vS y.Query.Key, vI y.Query.Count, .d (lst TVisit.ds y.First), .d (lst TVisit.ds y.Second)] ∧ h = [] := by
 refine si Tryz.func9 Tryz.ntmps9 Tryz.results9 fun B w0 ρ0 => ?_
 unfold Mlaw37_proof at hm
 refine sr ?_
 refine sr ?_
 obtain ⟨y2, hy, hm⟩ := bnd_o hm
 refine wl_cq (Mwld_Whole_sp (hm := hy)) ?_
 refine ss ?_
 obtain ⟨y3, hy, hm⟩ := bnd_o hm
 refine wl_cq (Mlaw37_visits_sp (hm := hy)) ?_
 refine ss ?_
 obtain ⟨y4, hy, hm⟩ := bnd_o hm
 refine wl_cq (Mlaw37_visits_sp (hm := hy)) ?_
 refine sx ?_
 subst hm
 exact wk_r

def Mlaw37_small_l2 (l7 : List TVisit) : Nat → Int → Int → Option Int
  | 0, _, _ => none
  | fuel + 1, n8, x9 =>
  obnd (
   sel (decide (x9 < (l7.length : Int))) (
    some (Ctl.nxt ())) (
    some (Ctl.ret n8)) : Option (Ctl Int Unit)) fun mu => ocbnd mu fun (_ : Unit) =>
  obnd (lget l7 x9) fun e10 =>
  Mlaw37_small_l2 l7 fuel (i64w (n8 + (e10.View.Rows.length : Int))) (i64w (x9 + 1))
def Mlaw37_small_l1 : List TRecord → Int → Option Int
  | [], n2 =>
  some n2
  | r3 :: xs4, n2 =>
  obnd (
   obnd (app ([] : List TVisit) r3.Receipt.First) fun l6 =>
   obnd (app l6 r3.Receipt.Second) fun l7 =>
   obnd (
    Mlaw37_small_l2 l7 FU (i64w (n2 + (i64w ((i64w ((i64w ((r3.Writes.length : Int) + (r3.Receipt.First.length : Int))) + (r3.Receipt.Second.length : Int))) + (r3.Receipt.Query.Ranges.length : Int))))) 0 : Option Int) fun n11 =>
   some n11 : Option Int) fun n12 =>
  Mlaw37_small_l1 xs4 n12
def Mlaw37_small (l1 : List TRecord) : Option Bool :=
 obnd (
  Mlaw37_small_l1 l1 (l1.length : Int) : Option Int) fun n13 =>
 some (decide (n13 ≤ 200))
theorem Mlaw37_small_sp {l1 : List TRecord} {y : Bool} (hm : Mlaw37_small l1 = some y) : Spec Tryz.prog 4 [.d (lst TRecord.ds l1)] [] fun u h => u = vB y ∧ h = [] := by
 refine si Tryz.func4 Tryz.ntmps4 Tryz.results4 fun B w0 ρ0 => ?_
 unfold Mlaw37_small at hm
 refine sr ?_
 refine sr ?_
 refine sr ?_
 obtain ⟨mu1, hm1, hm⟩ := obnd_o hm
 refine wc_cut' (fun st => ∃ (n13 : Int), n13 = mu1 ∧ st = ⟨[(3, vI n13)], []⟩) ?_ ?_
 ·refine wc_block ?_
  refine wc_len 10 rfl (fun hlenm5 => ?_)
  refine wc_loopw (fun κ st => ∃ (m5 : Nat) (n2 : Int), κ = l1.length - m5 ∧ m5 ≤ l1.length ∧ Mlaw37_small_l1 (l1.drop m5) n2 = some mu1 ∧ st = ⟨[(3, vI n2), (10, .d (lst TRecord.ds l1)), (11, vI (l1.length : Int)), (12, vI (m5 : Int))], []⟩) [] ⟨0, _, rfl, Nat.zero_le _, hm1, rfl⟩ ?_
  rintro κ _ ⟨m5, n2, rfl, hlem5, hm1, rfl⟩
  rcases Nat.lt_or_ge m5 l1.length with hltm5 | hgem5
  ·obtain ⟨r3, hxm5, hdr⟩ := drop_c hltm5
   rw [hdr, Mlaw37_small_l1.eq_2] at hm1
   refine sr ?_
   refine wc_seq ?_
   refine wc_cond_tt (lt_t hltm5) rfl ?_
   refine sx ?_
   refine wc_seq ?_
   obtain ⟨mu2, hm2, hm1⟩ := obnd_o hm1
   refine wc_cut' (fun st => ∃ (n12 : Int), n12 = mu2 ∧ st = ⟨[(3, vI n12), (10, .d (lst TRecord.ds l1)), (11, vI (l1.length : Int)), (12, vI (m5 : Int))], []⟩) ?_ ?_
   ·refine sr ?_
    refine wl_r (o_ixm (ys := [dI r3.Kind, lst TWrite.ds r3.Writes, dS r3.Key, dS r3.Value, dB r3.Has, dI r3.Query, dI r3.Receipt.Query.Kind, lst Rng.ds r3.Receipt.Query.Ranges, dS r3.Receipt.Query.Key, dI r3.Receipt.Query.Count, lst TVisit.ds r3.Receipt.First, lst TVisit.ds r3.Receipt.Second]) hxm5 rfl rfl rfl rfl) rfl rfl rfl ?_
    refine sr ?_
    refine wl_r (o_add rfl rfl rfl rfl) rfl rfl rfl ?_
    refine ss ?_
    refine wl_r (o_add rfl rfl rfl rfl) rfl rfl rfl ?_
    refine ss ?_
    refine wl_r (o_add rfl rfl rfl rfl) rfl rfl rfl ?_
    refine ss ?_
    refine wl_r (o_add rfl rfl rfl rfl) rfl rfl rfl ?_
    refine ss ?_
    refine wc_seq ?_
    refine wc_draw (id := 6) [⟨0, 0, [5]⟩, ⟨1, 1, [37]⟩, ⟨2, 3, [38]⟩, ⟨3, 7, [39]⟩, ⟨4, 0, [5]⟩, ⟨5, 16, [41]⟩, ⟨6, 48, [42]⟩, ⟨7, 127, [40, 43]⟩, ⟨8, 255, [44]⟩, ⟨9, 0, []⟩] mixed (by kernel_rfl) ?_
    refine ss ?_
    obtain ⟨l6, hy, hm2⟩ := obnd_o hm2
    refine wd_1 [] (n_appn (k := 140) hy rfl rfl rfl rfl rfl rfl) rfl (by first | exact .no rfl | exact .y rfl rfl rfl rfl) rfl rfl rfl ?_
    refine ss ?_
    obtain ⟨l7, hy, hm2⟩ := obnd_o hm2
    refine wd_app (k' := 144) hy rfl rfl rfl rfl rfl rfl rfl rfl (by first | exact .no rfl | exact .y rfl rfl rfl rfl) rfl rfl rfl ?_
    refine ss ?_
    obtain ⟨mu3, hm3, hm2⟩ := obnd_o hm2
    refine wc_cut' (fun st => ∃ (n11 : Int), n11 = mu3 ∧ st = ⟨[(3, vI n11), (10, .d (lst TRecord.ds l1)), (11, vI (l1.length : Int)), (12, vI (m5 : Int))], []⟩) ?_ ?_
    ·refine wc_block ?_
     refine wc_loopw (fun κ st => ∃ (n8 : Int) (x9 : Int), Mlaw37_small_l2 l7 κ n8 x9 = some mu3 ∧ st = ⟨[(3, vI n8), (10, .d (lst TRecord.ds l1)), (11, vI (l1.length : Int)), (12, vI (m5 : Int)), (44, .h 144), (45, vI (l7.length : Int)), (46, vI x9)], [(144, some (arrT 48 12 TVisit.ds l7))]⟩) [(144, 144)] ⟨_, _, hm3, rfl⟩ ?_
     rintro κ _ ⟨n8, x9, hm3, rfl⟩
     cases κ with
     | zero => rw [Mlaw37_small_l2.eq_1] at hm3; cases hm3
     | succ κ =>
      rw [Mlaw37_small_l2.eq_2] at hm3
      refine sr ?_
      refine wc_seq ?_
      obtain ⟨mu4, hm4, hm3⟩ := obnd_o hm3
      refine wc_cut' (fun st => mu4 = Ctl.nxt () ∧ st = ⟨[(3, vI n8), (10, .d (lst TRecord.ds l1)), (11, vI (l1.length : Int)), (12, vI (m5 : Int)), (44, .h 144), (45, vI (l7.length : Int)), (46, vI x9)], [(144, some (arrT 48 12 TVisit.ds l7))]⟩) ?_ ?_
      ·refine wc_cs hm4 ?_ ?_ <;> clear hm4 <;> intro hm4
       ·refine sx ?_
        cases hm4
        exact wk_cutw [(144, 144)] ⟨rfl, rfl⟩
       refine wc_exit ?_
       refine ss ?_
       cases hm4
       replace hm3 := ocbnd_r hm3
       cases hm3
       exact wk_cutw [] ⟨_, rfl, rfl⟩
      rintro _ ⟨rfl, rfl⟩
      replace hm3 := ocbnd_n hm3
      refine sr ?_
      obtain ⟨e10, hy, hm3⟩ := obnd_o hm3
      have hge10 := hy
      refine wl_r (o_ixo hy rfl rfl rfl rfl) rfl rfl rfl ?_
      refine ss ?_
      refine wl_r (o_ldo (k := 144) (f := TVisit.ds) (zz := 12) (u := .a [vI e10.View.Owner, vS e10.View.Interval.lo.key, vB e10.View.Interval.lo.top, vS e10.View.Interval.hi.key, vB e10.View.Interval.hi.top, vI e10.View.Stamp.Epoch, vI e10.View.Stamp.Version, .d (lst Kv.ds e10.View.Rows), vS e10.Part.lo.key, vB e10.Part.lo.top, vS e10.Part.hi.key, vB e10.Part.hi.top]) (off := 0) hge10 rfl rfl rfl (by exact inferInstance) rfl rfl) rfl rfl rfl ?_
      refine sr ?_
      refine wl_r (o_add rfl rfl rfl rfl) rfl rfl rfl ?_
      refine sr ?_
      refine wl_r (o_add rfl rfl rfl rfl) rfl rfl rfl ?_
      refine ss ?_
      exact wk_loopw [(144, 144)] ⟨_, _, hm3, rfl⟩ (Nat.lt_succ_self _)
    rintro _ ⟨n11, rfl, rfl⟩
    refine ss ?_
    cases hm2
    exact wk_cutw [] ⟨_, rfl, rfl⟩
   rintro _ ⟨n12, rfl, rfl⟩
   refine sr ?_
   refine wl_r (o_inc hltm5 hlenm5 rfl rfl rfl) rfl rfl rfl ?_
   refine ss ?_
   exact wk_loopw [] ⟨m5 + 1, _, rfl, hltm5, hm1, rfl⟩ (by omega)
  ·rw [drop_n hgem5, Mlaw37_small_l1.eq_1] at hm1
   refine sr ?_
   refine wc_seq ?_
   refine wc_cond_ff (lt_f hgem5) rfl ?_
   refine wc_exit ?_
   refine ss ?_
   cases hm1
   exact wk_cutw [] ⟨_, rfl, rfl⟩
 rintro _ ⟨n13, rfl, rfl⟩
 refine sr ?_
 refine sx ?_
 cases hm
 exact wk_r

def Mlaw37_awake : Option Bool :=
 bnd (Mwld_Whole) fun y1 =>
 bnd (Mlaw37_proof []) fun y2 =>
 obnd (Maudit_Check [] ([(TRecord.mk 3 ([] : List TWrite) ⟨#[]⟩ ⟨#[]⟩ false 0 (TReceipt.mk y1 ([] : List TVisit) ([] : List TVisit))), (TRecord.mk 1 ([(TWrite.mk ⟨#[97]⟩ ⟨#[49]⟩ false)] : List TWrite) ⟨#[]⟩ ⟨#[]⟩ false 0 (TReceipt.mk (TQuery.mk 0 ([] : List Rng) ⟨#[]⟩ 0) ([] : List TVisit) ([] : List TVisit))), (TRecord.mk 4 ([] : List TWrite) ⟨#[]⟩ ⟨#[]⟩ false 0 y2)] : List TRecord)) fun y3 =>
 bnd (Mlaw37_proof ([(Kv.mk ⟨#[98]⟩ ⟨#[]⟩)] : List Kv)) fun y4 =>
 obnd (lget ([(TRecord.mk 3 ([] : List TWrite) ⟨#[]⟩ ⟨#[]⟩ false 0 (TReceipt.mk y1 ([] : List TVisit) ([] : List TVisit))), (TRecord.mk 1 ([(TWrite.mk ⟨#[97]⟩ ⟨#[49]⟩ false)] : List TWrite) ⟨#[]⟩ ⟨#[]⟩ false 0 (TReceipt.mk (TQuery.mk 0 ([] : List Rng) ⟨#[]⟩ 0) ([] : List TVisit) ([] : List TVisit))), (TRecord.mk 4 ([] : List TWrite) ⟨#[]⟩ ⟨#[]⟩ false 0 y2)] : List TRecord) 2) fun e5 =>
 bnd ((TRecord.mk e5.Kind e5.Writes e5.Key e5.Value e5.Has e5.Query y4)) fun e7 =>
 bnd (([(TRecord.mk 3 ([] : List TWrite) ⟨#[]⟩ ⟨#[]⟩ false 0 (TReceipt.mk y1 ([] : List TVisit) ([] : List TVisit))), (TRecord.mk 1 ([(TWrite.mk ⟨#[97]⟩ ⟨#[49]⟩ false)] : List TWrite) ⟨#[]⟩ ⟨#[]⟩ false 0 (TReceipt.mk (TQuery.mk 0 ([] : List Rng) ⟨#[]⟩ 0) ([] : List TVisit) ([] : List TVisit))), (TRecord.mk 4 ([] : List TWrite) ⟨#[]⟩ ⟨#[]⟩ false 0 y2)] : List TRecord).set (Int.toNat 2) e7) fun l6 =>
 obnd (Maudit_Check [] l6) fun y8 =>
 sel (decide (y3.1 = 3)) (
  sel (decide (y3.2 = 0)) (
   sel (decide (y8.1 = 2)) (
    some (decide (y8.2 = 11))) (
    some false)) (
   some false)) (
  some false)
theorem Mlaw37_awake_sp {y : Bool} (hm : Mlaw37_awake = some y) : Spec Tryz.prog 5 [] [] fun u h => u = vB y ∧ h = [] := by
 refine si Tryz.func5 Tryz.ntmps5 Tryz.results5 fun B w0 ρ0 => ?_
 unfold Mlaw37_awake at hm
 refine sr ?_
 refine sr ?_
 obtain ⟨y1, hy, hm⟩ := bnd_o hm
 refine wl_cq (Mwld_Whole_sp (hm := hy)) ?_
 refine ss ?_
 refine wl_bt TWrite.ds [(TWrite.mk ⟨#[97]⟩ ⟨#[49]⟩ false)] rfl rfl (by simp only [flatV, cellsV, List.cons_append, List.nil_append, List.append_nil]; exact rfl) rfl rfl rfl rfl rfl rfl ?_
 refine ss ?_
 obtain ⟨y2, hy, hm⟩ := bnd_o hm
 refine wl_cq (Mlaw37_proof_sp (hm := hy)) ?_
 refine ss ?_
 refine wl_wkw [] ⟨[(8, .a [vI 3, .d (lst TWrite.ds ([] : List TWrite)), vS ⟨#[]⟩, vS ⟨#[]⟩, vB false, vI 0, vI y1.Kind, .d (lst Rng.ds y1.Ranges), vS y1.Key, vI y1.Count, .d (lst TVisit.ds ([] : List TVisit)), .d (lst TVisit.ds ([] : List TVisit))]), (11, .a [vI 1, .d (lst TWrite.ds ([(TWrite.mk ⟨#[97]⟩ ⟨#[49]⟩ false)] : List TWrite)), vS ⟨#[]⟩, vS ⟨#[]⟩, vB false, vI 0, vI 0, .d (lst Rng.ds ([] : List Rng)), vS ⟨#[]⟩, vI 0, .d (lst TVisit.ds ([] : List TVisit)), .d (lst TVisit.ds ([] : List TVisit))]), (13, .a [vI 4, .d (lst TWrite.ds ([] : List TWrite)), vS ⟨#[]⟩, vS ⟨#[]⟩, vB false, vI 0, vI y2.Query.Kind, .d (lst Rng.ds y2.Query.Ranges), vS y2.Query.Key, vI y2.Query.Count, .d (lst TVisit.ds y2.First), .d (lst TVisit.ds y2.Second)])], []⟩ ?_
 refine ss ?_
 refine wl_1 (n_bso (k := 114) TRecord.ds [(TRecord.mk 3 ([] : List TWrite) ⟨#[]⟩ ⟨#[]⟩ false 0 (TReceipt.mk y1 ([] : List TVisit) ([] : List TVisit))), (TRecord.mk 1 ([(TWrite.mk ⟨#[97]⟩ ⟨#[49]⟩ false)] : List TWrite) ⟨#[]⟩ ⟨#[]⟩ false 0 (TReceipt.mk (TQuery.mk 0 ([] : List Rng) ⟨#[]⟩ 0) ([] : List TVisit) ([] : List TVisit))), (TRecord.mk 4 ([] : List TWrite) ⟨#[]⟩ ⟨#[]⟩ false 0 y2)] rfl rfl rfl rfl (by simp only [flatV, cellsV, List.cons_append, List.nil_append, List.append_nil]; exact rfl) rfl rfl) rfl rfl rfl rfl ?_
 refine sr ?_
 obtain ⟨y3, hy, hm⟩ := obnd_o hm
 refine wl_lend (Maudit_Check_sp (hm := hy)) ?_
 refine sr ?_
 refine wl_bt Kv.ds [(Kv.mk ⟨#[98]⟩ ⟨#[]⟩)] rfl rfl (by simp only [flatV, cellsV, List.cons_append, List.nil_append, List.append_nil]; exact rfl) rfl rfl rfl rfl rfl rfl ?_
 refine ss ?_
 obtain ⟨y4, hy, hm⟩ := bnd_o hm
 refine wl_cq (Mlaw37_proof_sp (hm := hy)) ?_
 refine ss ?_
 obtain ⟨e5, hy, hm⟩ := obnd_o hm
 have hge5 := hy
 refine wl_r (o_ixo hy rfl rfl rfl rfl) rfl rfl rfl ?_
 refine ss ?_
 obtain ⟨e7, hy, hm⟩ := bnd_o hm
 have hxe7 := hy
 refine ss ?_
 obtain ⟨l6, hy, hm⟩ := bnd_o hm
 refine wl_0 (lo := 0) (nn := 0) (o_sto (k := 114) (f := TRecord.ds) (zz := 12) (off := 6) hge5 hy rfl rfl rfl rfl (by exact inferInstance) rfl (by rw [← hxe7]; rfl)) rfl rfl (fresh0 _ _) ?_
 have hge7 := lget_set hge5 e7
 rw [hy] at hge7
 refine sr ?_
 obtain ⟨y8, hy, hm⟩ := obnd_o hm
 refine wl_lend (Maudit_Check_sp (hm := hy)) ?_
 refine sr ?_
 refine wl_sg hm ?_ ?_ <;> clear hm <;> intro hm
 ·refine ss ?_
  refine wl_sg hm ?_ ?_ <;> clear hm <;> intro hm
  ·refine ss ?_
   refine wl_sg hm ?_ ?_ <;> clear hm <;> intro hm
   ·refine sx ?_
    cases hm
    exact wk_r
   refine sx ?_
   cases hm
   exact wk_r
  refine sx ?_
  cases hm
  exact wk_r
 refine sx ?_
 cases hm
 exact wk_r

end Go.Proofs.YtohpjdeohpamaaaGreat
namespace Go.Proofs.YtohpjdeohpamaaaGreat
open Go.RowKit
instance opnb3 : OpnB Tryz.prog 3 dsI (inK .i64) := opnb_of (opn_i64 Tryz.underlying3)
instance opnb9 : OpnB Tryz.prog 9 dsS szS := opnb_of (opn_str Tryz.underlying9)
instance opnb4 : OpnB Tryz.prog 4 dsB anyB := opnb_of (opn_bool Tryz.underlying4)
def TWrite.okb (x : TWrite) : Prop := szS x.Key ∧ szS x.Value ∧ anyB x.Delete
instance opnb51 : OpnB Tryz.prog 51 TWrite.ds TWrite.okb := ⟨fun {H enc W fuel cs x} h hb => by
  obtain ⟨xs, n, -, hxe, hl, hlen, hf⟩ := DataW.trod_struct Tryz.underlying51 h
  rw [hxe] at hb
  simp only [Rows.uptoBulk] at hb
  replace hb : Rows.uptoBulkAll (xs.map (·.1)) ≤ 1048576 := by omega
  obtain ⟨a0, i0, r0⟩ := of_fieldb (T := 9) (o := 0) (c := 1) (f := dsS) (I := szS) hf hlen 0 rfl rfl rfl (by kernel_rfl) hb
  obtain ⟨a1, i1, r1⟩ := of_fieldb (T := 9) (o := 1) (c := 1) (f := dsS) (I := szS) hf hlen 1 rfl rfl rfl (by kernel_rfl) hb
  obtain ⟨a2, i2, r2⟩ := of_fieldb (T := 4) (o := 2) (c := 1) (f := dsB) (I := anyB) hf hlen 2 rfl rfl rfl (by kernel_rfl) hb
  exact ⟨⟨a0, a1, a2⟩, ⟨i0, i1, i2⟩, (chain_of r0 (chain_of r1 (chain_of r2 (fin_of hl (by kernel_rfl)))))⟩⟩
instance opnb26 : OpnB Tryz.prog 26 (dsL TWrite.ds) (allB TWrite.okb) := opnb_slice (E := 51) Tryz.underlying26 (z := 3) (by kernel_rfl) (by decide)
def Bnd.okb (x : Bnd) : Prop := szS x.key ∧ anyB x.top
instance opnb40 : OpnB Tryz.prog 40 Bnd.ds Bnd.okb := ⟨fun {H enc W fuel cs x} h hb => by
  obtain ⟨xs, n, -, hxe, hl, hlen, hf⟩ := DataW.trod_struct Tryz.underlying40 h
  rw [hxe] at hb
  simp only [Rows.uptoBulk] at hb
  replace hb : Rows.uptoBulkAll (xs.map (·.1)) ≤ 1048576 := by omega
  obtain ⟨a0, i0, r0⟩ := of_fieldb (T := 9) (o := 0) (c := 1) (f := dsS) (I := szS) hf hlen 0 rfl rfl rfl (by kernel_rfl) hb
  obtain ⟨a1, i1, r1⟩ := of_fieldb (T := 4) (o := 1) (c := 1) (f := dsB) (I := anyB) hf hlen 1 rfl rfl rfl (by kernel_rfl) hb
  exact ⟨⟨a0, a1⟩, ⟨i0, i1⟩, (chain_of r0 (chain_of r1 (fin_of hl (by kernel_rfl))))⟩⟩
def Rng.okb (x : Rng) : Prop := Bnd.okb x.lo ∧ Bnd.okb x.hi
instance opnb42 : OpnB Tryz.prog 42 Rng.ds Rng.okb := ⟨fun {H enc W fuel cs x} h hb => by
  obtain ⟨xs, n, -, hxe, hl, hlen, hf⟩ := DataW.trod_struct Tryz.underlying42 h
  rw [hxe] at hb
  simp only [Rows.uptoBulk] at hb
  replace hb : Rows.uptoBulkAll (xs.map (·.1)) ≤ 1048576 := by omega
  obtain ⟨a0, i0, r0⟩ := of_fieldb (T := 40) (o := 0) (c := 2) (f := Bnd.ds) (I := Bnd.okb) hf hlen 0 rfl rfl rfl (by kernel_rfl) hb
  obtain ⟨a1, i1, r1⟩ := of_fieldb (T := 40) (o := 2) (c := 2) (f := Bnd.ds) (I := Bnd.okb) hf hlen 1 rfl rfl rfl (by kernel_rfl) hb
  exact ⟨⟨a0, a1⟩, ⟨i0, i1⟩, (chain_of r0 (chain_of r1 (fin_of hl (by kernel_rfl))))⟩⟩
instance opnb27 : OpnB Tryz.prog 27 (dsL Rng.ds) (allB Rng.okb) := opnb_slice (E := 42) Tryz.underlying27 (z := 4) (by kernel_rfl) (by decide)
def TQuery.okb (x : TQuery) : Prop := (inK .i64) x.Kind ∧ (allB Rng.okb) x.Ranges ∧ szS x.Key ∧ (inK .i64) x.Count
instance opnb29 : OpnB Tryz.prog 29 TQuery.ds TQuery.okb := ⟨fun {H enc W fuel cs x} h hb => by
  obtain ⟨xs, n, -, hxe, hl, hlen, hf⟩ := DataW.trod_struct Tryz.underlying29 h
  rw [hxe] at hb
  simp only [Rows.uptoBulk] at hb
  replace hb : Rows.uptoBulkAll (xs.map (·.1)) ≤ 1048576 := by omega
  obtain ⟨a0, i0, r0⟩ := of_fieldb (T := 3) (o := 0) (c := 1) (f := dsI) (I := (inK .i64)) hf hlen 0 rfl rfl rfl (by kernel_rfl) hb
  obtain ⟨a1, i1, r1⟩ := of_fieldb (T := 27) (o := 1) (c := 1) (f := (dsL Rng.ds)) (I := (allB Rng.okb)) hf hlen 1 rfl rfl rfl (by kernel_rfl) hb
  obtain ⟨a2, i2, r2⟩ := of_fieldb (T := 9) (o := 2) (c := 1) (f := dsS) (I := szS) hf hlen 2 rfl rfl rfl (by kernel_rfl) hb
  obtain ⟨a3, i3, r3⟩ := of_fieldb (T := 3) (o := 3) (c := 1) (f := dsI) (I := (inK .i64)) hf hlen 3 rfl rfl rfl (by kernel_rfl) hb
  exact ⟨⟨a0, a1, a2, a3⟩, ⟨i0, i1, i2, i3⟩, (chain_of r0 (chain_of r1 (chain_of r2 (chain_of r3 (fin_of hl (by kernel_rfl))))))⟩⟩
def TStamp.okb (x : TStamp) : Prop := (inK .i64) x.Epoch ∧ (inK .i64) x.Version
instance opnb44 : OpnB Tryz.prog 44 TStamp.ds TStamp.okb := ⟨fun {H enc W fuel cs x} h hb => by
  obtain ⟨xs, n, -, hxe, hl, hlen, hf⟩ := DataW.trod_struct Tryz.underlying44 h
  rw [hxe] at hb
  simp only [Rows.uptoBulk] at hb
  replace hb : Rows.uptoBulkAll (xs.map (·.1)) ≤ 1048576 := by omega
  obtain ⟨a0, i0, r0⟩ := of_fieldb (T := 3) (o := 0) (c := 1) (f := dsI) (I := (inK .i64)) hf hlen 0 rfl rfl rfl (by kernel_rfl) hb
  obtain ⟨a1, i1, r1⟩ := of_fieldb (T := 3) (o := 1) (c := 1) (f := dsI) (I := (inK .i64)) hf hlen 1 rfl rfl rfl (by kernel_rfl) hb
  exact ⟨⟨a0, a1⟩, ⟨i0, i1⟩, (chain_of r0 (chain_of r1 (fin_of hl (by kernel_rfl))))⟩⟩
def Kv.okb (x : Kv) : Prop := szS x.key ∧ szS x.val
instance opnb54 : OpnB Tryz.prog 54 Kv.ds Kv.okb := ⟨fun {H enc W fuel cs x} h hb => by
  obtain ⟨xs, n, -, hxe, hl, hlen, hf⟩ := DataW.trod_struct Tryz.underlying54 h
  rw [hxe] at hb
  simp only [Rows.uptoBulk] at hb
  replace hb : Rows.uptoBulkAll (xs.map (·.1)) ≤ 1048576 := by omega
  obtain ⟨a0, i0, r0⟩ := of_fieldb (T := 9) (o := 0) (c := 1) (f := dsS) (I := szS) hf hlen 0 rfl rfl rfl (by kernel_rfl) hb
  obtain ⟨a1, i1, r1⟩ := of_fieldb (T := 9) (o := 1) (c := 1) (f := dsS) (I := szS) hf hlen 1 rfl rfl rfl (by kernel_rfl) hb
  exact ⟨⟨a0, a1⟩, ⟨i0, i1⟩, (chain_of r0 (chain_of r1 (fin_of hl (by kernel_rfl))))⟩⟩
instance opnb22 : OpnB Tryz.prog 22 (dsL Kv.ds) (allB Kv.okb) := opnb_slice (E := 54) Tryz.underlying22 (z := 2) (by kernel_rfl) (by decide)
def TView.okb (x : TView) : Prop := (inK .i64) x.Owner ∧ Rng.okb x.Interval ∧ TStamp.okb x.Stamp ∧ (allB Kv.okb) x.Rows
instance opnb46 : OpnB Tryz.prog 46 TView.ds TView.okb := ⟨fun {H enc W fuel cs x} h hb => by
  obtain ⟨xs, n, -, hxe, hl, hlen, hf⟩ := DataW.trod_struct Tryz.underlying46 h
  rw [hxe] at hb
  simp only [Rows.uptoBulk] at hb
  replace hb : Rows.uptoBulkAll (xs.map (·.1)) ≤ 1048576 := by omega
  obtain ⟨a0, i0, r0⟩ := of_fieldb (T := 3) (o := 0) (c := 1) (f := dsI) (I := (inK .i64)) hf hlen 0 rfl rfl rfl (by kernel_rfl) hb
  obtain ⟨a1, i1, r1⟩ := of_fieldb (T := 42) (o := 1) (c := 4) (f := Rng.ds) (I := Rng.okb) hf hlen 1 rfl rfl rfl (by kernel_rfl) hb
  obtain ⟨a2, i2, r2⟩ := of_fieldb (T := 44) (o := 5) (c := 2) (f := TStamp.ds) (I := TStamp.okb) hf hlen 2 rfl rfl rfl (by kernel_rfl) hb
  obtain ⟨a3, i3, r3⟩ := of_fieldb (T := 22) (o := 7) (c := 1) (f := (dsL Kv.ds)) (I := (allB Kv.okb)) hf hlen 3 rfl rfl rfl (by kernel_rfl) hb
  exact ⟨⟨a0, a1, a2, a3⟩, ⟨i0, i1, i2, i3⟩, (chain_of r0 (chain_of r1 (chain_of r2 (chain_of r3 (fin_of hl (by kernel_rfl))))))⟩⟩
def TVisit.okb (x : TVisit) : Prop := TView.okb x.View ∧ Rng.okb x.Part
instance opnb48 : OpnB Tryz.prog 48 TVisit.ds TVisit.okb := ⟨fun {H enc W fuel cs x} h hb => by
  obtain ⟨xs, n, -, hxe, hl, hlen, hf⟩ := DataW.trod_struct Tryz.underlying48 h
  rw [hxe] at hb
  simp only [Rows.uptoBulk] at hb
  replace hb : Rows.uptoBulkAll (xs.map (·.1)) ≤ 1048576 := by omega
  obtain ⟨a0, i0, r0⟩ := of_fieldb (T := 46) (o := 0) (c := 8) (f := TView.ds) (I := TView.okb) hf hlen 0 rfl rfl rfl (by kernel_rfl) hb
  obtain ⟨a1, i1, r1⟩ := of_fieldb (T := 42) (o := 8) (c := 4) (f := Rng.ds) (I := Rng.okb) hf hlen 1 rfl rfl rfl (by kernel_rfl) hb
  exact ⟨⟨a0, a1⟩, ⟨i0, i1⟩, (chain_of r0 (chain_of r1 (fin_of hl (by kernel_rfl))))⟩⟩
instance opnb30 : OpnB Tryz.prog 30 (dsL TVisit.ds) (allB TVisit.okb) := opnb_slice (E := 48) Tryz.underlying30 (z := 12) (by kernel_rfl) (by decide)
def TReceipt.okb (x : TReceipt) : Prop := TQuery.okb x.Query ∧ (allB TVisit.okb) x.First ∧ (allB TVisit.okb) x.Second
instance opnb32 : OpnB Tryz.prog 32 TReceipt.ds TReceipt.okb := ⟨fun {H enc W fuel cs x} h hb => by
  obtain ⟨xs, n, -, hxe, hl, hlen, hf⟩ := DataW.trod_struct Tryz.underlying32 h
  rw [hxe] at hb
  simp only [Rows.uptoBulk] at hb
  replace hb : Rows.uptoBulkAll (xs.map (·.1)) ≤ 1048576 := by omega
  obtain ⟨a0, i0, r0⟩ := of_fieldb (T := 29) (o := 0) (c := 4) (f := TQuery.ds) (I := TQuery.okb) hf hlen 0 rfl rfl rfl (by kernel_rfl) hb
  obtain ⟨a1, i1, r1⟩ := of_fieldb (T := 30) (o := 4) (c := 1) (f := (dsL TVisit.ds)) (I := (allB TVisit.okb)) hf hlen 1 rfl rfl rfl (by kernel_rfl) hb
  obtain ⟨a2, i2, r2⟩ := of_fieldb (T := 30) (o := 5) (c := 1) (f := (dsL TVisit.ds)) (I := (allB TVisit.okb)) hf hlen 2 rfl rfl rfl (by kernel_rfl) hb
  exact ⟨⟨a0, a1, a2⟩, ⟨i0, i1, i2⟩, (chain_of r0 (chain_of r1 (chain_of r2 (fin_of hl (by kernel_rfl)))))⟩⟩
def TRecord.okb (x : TRecord) : Prop := (inK .i64) x.Kind ∧ (allB TWrite.okb) x.Writes ∧ szS x.Key ∧ szS x.Value ∧ anyB x.Has ∧ (inK .i64) x.Query ∧ TReceipt.okb x.Receipt
instance opnb34 : OpnB Tryz.prog 34 TRecord.ds TRecord.okb := ⟨fun {H enc W fuel cs x} h hb => by
  obtain ⟨xs, n, -, hxe, hl, hlen, hf⟩ := DataW.trod_struct Tryz.underlying34 h
  rw [hxe] at hb
  simp only [Rows.uptoBulk] at hb
  replace hb : Rows.uptoBulkAll (xs.map (·.1)) ≤ 1048576 := by omega
  obtain ⟨a0, i0, r0⟩ := of_fieldb (T := 3) (o := 0) (c := 1) (f := dsI) (I := (inK .i64)) hf hlen 0 rfl rfl rfl (by kernel_rfl) hb
  obtain ⟨a1, i1, r1⟩ := of_fieldb (T := 26) (o := 1) (c := 1) (f := (dsL TWrite.ds)) (I := (allB TWrite.okb)) hf hlen 1 rfl rfl rfl (by kernel_rfl) hb
  obtain ⟨a2, i2, r2⟩ := of_fieldb (T := 9) (o := 2) (c := 1) (f := dsS) (I := szS) hf hlen 2 rfl rfl rfl (by kernel_rfl) hb
  obtain ⟨a3, i3, r3⟩ := of_fieldb (T := 9) (o := 3) (c := 1) (f := dsS) (I := szS) hf hlen 3 rfl rfl rfl (by kernel_rfl) hb
  obtain ⟨a4, i4, r4⟩ := of_fieldb (T := 4) (o := 4) (c := 1) (f := dsB) (I := anyB) hf hlen 4 rfl rfl rfl (by kernel_rfl) hb
  obtain ⟨a5, i5, r5⟩ := of_fieldb (T := 3) (o := 5) (c := 1) (f := dsI) (I := (inK .i64)) hf hlen 5 rfl rfl rfl (by kernel_rfl) hb
  obtain ⟨a6, i6, r6⟩ := of_fieldb (T := 32) (o := 6) (c := 6) (f := TReceipt.ds) (I := TReceipt.okb) hf hlen 6 rfl rfl rfl (by kernel_rfl) hb
  exact ⟨⟨a0, a1, a2, a3, a4, a5, a6⟩, ⟨i0, i1, i2, i3, i4, i5, i6⟩, (chain_of r0 (chain_of r1 (chain_of r2 (chain_of r3 (chain_of r4 (chain_of r5 (chain_of r6 (fin_of hl (by kernel_rfl)))))))))⟩⟩
instance opnb23 : OpnB Tryz.prog 23 (dsL TRecord.ds) (allB TRecord.okb) := opnb_slice (E := 34) Tryz.underlying23 (z := 12) (by kernel_rfl) (by decide)
end Go.Proofs.YtohpjdeohpamaaaGreat
namespace Go.Proofs.YtohpjdeohpamaaaGreat
open Go.RowKit
def rowsN : List TVisit → Nat
  | [] => 0
  | v :: r => v.View.Rows.length + rowsN r
def smV (r : TRecord) : Nat := r.Writes.length + r.Receipt.First.length + r.Receipt.Second.length + r.Receipt.Query.Ranges.length + rowsN (r.Receipt.First ++ r.Receipt.Second)
def totN : List TRecord → Nat
  | [] => 0
  | r :: l => smV r + totN l
theorem rowsN_le {b : Nat} : ∀ {l : List TVisit}, (∀ v ∈ l, v.View.Rows.length ≤ b) → rowsN l ≤ l.length * b
  | [], _ => by simp [rowsN]
  | v :: r, h => by
    have h1 := h v List.mem_cons_self
    have h2 := rowsN_le fun x hx => h x (List.mem_cons_of_mem _ hx)
    simp only [rowsN, List.length_cons, Nat.add_mul, Nat.one_mul]; omega
theorem totN_le {b : Nat} : ∀ {l : List TRecord}, (∀ v ∈ l, smV v ≤ b) → totN l ≤ l.length * b
  | [], _ => by simp [totN]
  | v :: r, h => by
    have h1 := h v List.mem_cons_self
    have h2 := totN_le fun x hx => h x (List.mem_cons_of_mem _ hx)
    simp only [totN, List.length_cons, Nat.add_mul, Nat.one_mul]; omega
theorem rowsN_mem : ∀ {l : List TVisit} {v : TVisit}, v ∈ l → v.View.Rows.length ≤ rowsN l
  | x :: r, v, h => by
    simp only [rowsN]
    rcases List.mem_cons.1 h with rfl | h
    · omega
    · have := rowsN_mem h; omega
theorem totN_mem : ∀ {l : List TRecord} {v : TRecord}, v ∈ l → smV v ≤ totN l
  | x :: r, v, h => by
    simp only [totN]
    rcases List.mem_cons.1 h with rfl | h
    · omega
    · have := totN_mem h; omega
theorem small_v2 (l : List TVisit) (hl : l.length ≤ 4000000) : ∀ (k fuel : Nat) (n : Int) (m : Nat), m + k = l.length → k < fuel → 0 ≤ n → n + rowsN (l.drop m) ≤ 4611686018427387904 → Mlaw37_small_l2 l fuel n (m : Int) = some (n + rowsN (l.drop m))
  | _, 0, _, _, _, h, _, _ => absurd h (by omega)
  | 0, fuel + 1, n, m, h, _, _, _ => by
    rw [Mlaw37_small_l2, decide_eq_false (by omega), List.drop_eq_nil_of_le (by omega)]
    simp [rowsN, sel_false, obnd_some, ocbnd]
  | k + 1, fuel + 1, n, m, h, hf, h0, hb => by
    rw [Mlaw37_small_l2, decide_eq_true (by omega)]
    simp only [sel_true, obnd_some, ocbnd_nxt]
    have hm : m < l.length := by omega
    rw [List.drop_eq_getElem_cons hm] at hb ⊢
    simp only [rowsN] at hb ⊢
    rw [lget_nat, List.getElem?_eq_getElem hm, obnd_some, i64w_id (a := (m : Int) + 1) (by omega) (by omega), i64w_id (by omega) (by omega)]
    have := small_v2 l hl k fuel (n + (l[m].View.Rows.length : Int)) (m + 1) (by omega) (by omega) (by omega) (by omega)
    rw [show ((m + 1 : Nat) : Int) = (m : Int) + 1 by omega] at this
    rw [this]
    congr 1; omega
theorem small_v1 : ∀ (l : List TRecord) (n : Int), (∀ r ∈ l, r.Receipt.First.length ≤ 1048576 ∧ r.Receipt.Second.length ≤ 1048576) → 0 ≤ n → n + totN l ≤ 4611686018427387904 → Mlaw37_small_l1 l n = some (n + totN l)
  | [], n, _, _, _ => by simp [Mlaw37_small_l1, totN]
  | x :: xs, n, h, h0, hb => by
    obtain ⟨h1, h2⟩ := h x List.mem_cons_self
    simp only [totN, smV] at hb
    rw [Mlaw37_small_l1, app_le (by simp; omega), obnd_some, List.nil_append, app_le (by omega), obnd_some]
    rw [i64w_id (a := (x.Writes.length : Int) + (x.Receipt.First.length : Int)) (by omega) (by omega), i64w_id (a := (x.Writes.length : Int) + (x.Receipt.First.length : Int) + (x.Receipt.Second.length : Int)) (by omega) (by omega), i64w_id (a := (x.Writes.length : Int) + (x.Receipt.First.length : Int) + (x.Receipt.Second.length : Int) + (x.Receipt.Query.Ranges.length : Int)) (by omega) (by omega), i64w_id (by omega) (by omega)]
    have e := small_v2 (x.Receipt.First ++ x.Receipt.Second) (by simp; omega) _ FU (n + ((x.Writes.length : Int) + (x.Receipt.First.length : Int) + (x.Receipt.Second.length : Int) + (x.Receipt.Query.Ranges.length : Int))) 0 (Nat.zero_add _) (by simp [FU]; omega) (by omega) (by rw [List.drop_zero]; omega)
    rw [show ((0 : Nat) : Int) = 0 from rfl, List.drop_zero] at e
    rw [e]
    simp only [obnd_some]
    rw [small_v1 xs _ (fun y hy => h y (List.mem_cons_of_mem _ hy)) (by omega) (by omega)]
    congr 1
    simp only [totN, smV]; omega
theorem small_val {l : List TRecord} (h : allB TRecord.okb l) : Mlaw37_small l = some (decide (l.length + totN l ≤ 200)) := by
  have hs : ∀ r ∈ l, r.Receipt.First.length ≤ 1048576 ∧ r.Receipt.Second.length ≤ 1048576 := fun r hr => by
    obtain ⟨-, -, -, -, -, -, -, h1, h2⟩ := h.2 r hr
    exact ⟨h1.1, h2.1⟩
  have hv : ∀ r ∈ l, smV r ≤ 2199027449856 := fun r hr => by
    obtain ⟨-, hw, -, -, -, -, hq, h1, h2⟩ := h.2 r hr
    have g1 := hw.1
    have g2 := hq.2.1.1
    have g3 := h1.1
    have g4 := h2.1
    have g5 : rowsN (r.Receipt.First ++ r.Receipt.Second) ≤ (r.Receipt.First ++ r.Receipt.Second).length * 1048576 := rowsN_le fun v hv => by
      rcases List.mem_append.1 hv with hv | hv
      · exact (h1.2 v hv).1.2.2.2.1
      · exact (h2.2 v hv).1.2.2.2.1
    rw [List.length_append] at g5
    unfold smV; omega
  have ht := totN_le hv
  have hl := h.1
  unfold Mlaw37_small
  rw [small_v1 l (l.length : Int) hs (by omega) (by omega), obnd_some]
  congr 1
  exact decide_eq_decide.2 (by omega)
theorem small_rec {l : List TRecord} (h : l.length + totN l ≤ 200) {r : TRecord} (hr : r ∈ l) : r.Writes.length ≤ 200 ∧ r.Receipt.Query.Ranges.length ≤ 200 ∧ okC r.Receipt.First ∧ okC r.Receipt.Second := by
  have h1 := totN_mem hr
  unfold smV at h1
  refine ⟨by omega, by omega, ⟨by omega, fun v hv => ?_⟩, ⟨by omega, fun v hv => ?_⟩⟩
  · have := rowsN_mem (List.mem_append_left r.Receipt.Second hv); omega
  · have := rowsN_mem (List.mem_append_right r.Receipt.First hv); omega
end Go.Proofs.YtohpjdeohpamaaaGreat
namespace Go.Proofs.YtohpjdeohpamaaaGreat
open Go.RowKit
theorem aawake_ok : Mlaw37_awake = some true := by kernel_rfl
end Go.Proofs.YtohpjdeohpamaaaGreat
namespace Go.Proofs.YtohpjdeohpamaaaGreat
open Go.RowKit
attribute [local simp] Sem.run_bind Sem.run_pure Result.andThen_ok
theorem rep_get {α : Type} {zs : List α} : ∀ {n j : Nat}, j < n * zs.length → (List.replicate n zs).flatten[j]? = zs[j % zs.length]?
  | 0, j, h => by simp at h
  | n + 1, j, h => by
    rw [List.replicate_succ, List.flatten_cons]
    by_cases hj : j < zs.length
    · rw [List.getElem?_append_left hj, Nat.mod_eq_of_lt hj]
    · rw [List.getElem?_append_right (by omega), rep_get (by rw [Nat.add_mul, Nat.one_mul] at h; omega)]
      rw [Nat.mod_eq_sub_mod (a := j) (by omega)]
theorem rds_rep {w : World} {ok : Nat → Prop} {α : Type} {f : α → List D} {e : α} {zs : List Value} (h : RDs w ok (f e) zs) : ∀ n : Nat, RDs w ok ((List.replicate n e).flatMap f) (List.replicate n zs).flatten
  | 0 => .nil
  | n + 1 => by
    rw [List.replicate_succ, List.replicate_succ, List.flatMap_cons, List.flatten_cons]
    exact h.append (rds_rep h n)
section
variable {P : Program} {o : Oper} {H : Hp} {sl : List (Nat × V)} {x y : Operand} {E t : TypeId} {n z bytes : Nat} {α : Type}
theorem o_mksd (f : α → List D) (e : α) {zs : List Value} [hS : Sl P t E z bytes] (hop : o.op = .makeSlice t x y) (hx : ev sl x = some (vI (n : Int))) (hy : ev sl y = some (vI (n : Int))) (hz : ZeroIs P E zs) (hzl : zs.length = z) (hn : (Nat.ble (n * bytes) 281474976710656 && Nat.ble n 16777216 && Nat.ble 1 z) = true) (hd : ∀ (w : World) (ok : Nat → Prop), RDs w ok (f e) zs) :
    OpV P o H sl 0 0 fun u h => u = .d (lst f (List.replicate n e)) ∧ h = [] := fun B a w ρ hup _ hs hr hfr => by
  simp only [Bool.and_eq_true, Nat.ble_eq] at hn
  obtain ⟨⟨hn1, hn2⟩, hn3⟩ := hn
  obtain ⟨i, zv, g1, g2, g3, g4, g5⟩ := hS.el
  unfold ZeroIs at hz
  rw [g1] at hz
  simp only [Option.bind_some, g2, Option.map_some, Option.some.injEq] at hz
  have ex : a.eval x = .int .i64 (n : Int) := by
    have h := ev_spec hs hx
    generalize a.eval x = v at h
    cases h with | d h => cases h with | c _ => rfl
  have ey : a.eval y = .int .i64 (n : Int) := by
    have h := ev_spec hs hy
    generalize a.eval y = v at h
    cases h with | d h => cases h with | c _ => rfl
  have hb' : (i.bytes : Int) * (n : Int) ≤ 281474976710656 := by
    have h : ((i.bytes * n : Nat) : Int) ≤ 281474976710656 := by rw [g4, Nat.mul_comm]; omega
    rwa [Int.natCast_mul] at h
  have hrun := run_make (P := P) w t E i zv hS.un g1 g2 .i64 .i64 (n : Int) (n : Int) (by omega) (by omega) hb' (by omega)
  simp only [Int.toNat_natCast] at hrun
  rw [g3] at hrun
  have hh : (execOp a.eval o).run P w = .ok (.value (.slice (some ⟨w.heap.size, 0, none⟩) n n)) (w.alloc (.cells (madeCells zv.cells (n * z)) E)) := by
    unfold execOp; rw [hop]
    simp only [Sem.run_bind, ex, ey, hrun, Result.andThen_ok, Sem.run_pure]
  unfold Oper.wp
  rw [hh]
  have hold : ∀ b, b < w.heap.size → (w.alloc (.cells (madeCells zv.cells (n * z)) E)).heap[b]? = w.heap[b]? := fun b hb => Below.heap_alloc _ _ _ hb
  have hst : Stl w (w.alloc (.cells (madeCells zv.cells (n * z)) E)) (okb B w ρ) (okb B (w.alloc (.cells (madeCells zv.cells (n * z)) E)) ρ) := fun b ⟨hb, hB, ho⟩ => ⟨⟨by simp; omega, hB, ho⟩, hold b hb⟩
  refine ⟨_, _, [], ρ, rfl, ⟨rfl, rfl⟩, ⟨rfl, rfl, rfl, by simp, fun _ _ h => h, fun k l h => .inl h, fun b hb _ => hold b hb, fun k hk => by simp [look] at hk, fun k blk hk => by simp [look] at hk, fun k k' blk blk' l l' b hk => by simp [look] at hk⟩, ?_⟩
  unfold lst
  rw [List.length_replicate]
  refine .d (.l (Nat.le_refl _) (by unfold maxLen; omega) ⟨by simp, hup _ (Nat.le_refl _), fun k l hk e => ?_⟩ (rds_rep (hd _ _) n) fun j v hv => ?_)
  · have := hr.lt k l _ hk e; omega
  · have hj := (List.getElem?_eq_some_iff.1 hv).1
    have hzz : zv.cells.size = zs.length := by rw [← hz]; simp
    have hlen : ((List.replicate n zs).flatten).length = n * z := by simp [hzl]
    rw [hlen] at hj
    rw [rep_get (by rw [hzl]; exact hj)] at hv
    rw [World.cell?, heap_alloc_new w _]
    have hc : (madeCells zv.cells (n * z))[j]? = some v := by
      unfold madeCells
      have hm : j % zv.cells.size < zv.cells.size := Nat.mod_lt _ (by omega)
      rw [Array.getElem?_map, Array.getElem?_range, if_pos hj, Option.map_some, getElem!_pos zv.cells (j % zv.cells.size) hm]
      rw [← hz] at hv
      simp only [Array.length_toList, Array.getElem?_toList] at hv
      rw [Array.getElem?_eq_getElem hm] at hv
      exact hv
    simpa using hc
end
section
variable {Γ : Cx} {k : Kont} {sl : List (Nat × V)} {hp : Hp} {o : Oper} {ops : Array Oper} {i an d z bytes n : Nat} {ts : List Nat} {r : List PI} {F : List Ft} {t E : TypeId} {x y : Operand} {zs : List Value} {rest : List Oper} {α : Type}
theorem wl_mks (f : α → List D) (e : α) [hS : Sl Γ.P t E z bytes] (hop : o.op = .makeSlice t x y) (hx : ev sl x = some (vI (n : Int))) (hy : ev sl y = some (vI (n : Int))) (hz : ZeroIs Γ.P E zs) (hzl : zs.length = z) (hn : (Nat.ble (n * bytes) 281474976710656 && Nat.ble n 16777216 && Nat.ble 1 z) = true) (hD : ∀ (w : World) (ok : Nat → Prop), RDs w ok (f e) zs)
    (hg : o.guard = none) (hd : o.dst = some d) (hdl : Nat.blt d Γ.nt = true) (hk : WL Γ ops rest k ⟨(d, .d (lst f (List.replicate n e))) :: sl, hp⟩) : WL Γ ops (o :: rest) k ⟨sl, hp⟩ := by
  exact wl_v (o_mksd f e hop hx hy hz hzl hn hD) hg hd hdl (fresh0 _ _) (by rintro _ _ ⟨rfl, rfl⟩; exact hk)
end
end Go.Proofs.YtohpjdeohpamaaaGreat
