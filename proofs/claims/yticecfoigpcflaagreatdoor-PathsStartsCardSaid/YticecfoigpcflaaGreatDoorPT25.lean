/-
  Lemmas: Plain laws of the models
-/
import Derived.Test.YticecfoigpcflaaGreatDoorPT21
import Derived.Test.YticecfoigpcflaaGreatDoorPT23
import Derived.Test.YticecfoigpcflaaGreatDoorPT24
set_option linter.unusedSimpArgs false
set_option linter.unusedVariables false
namespace Go.Proofs.YticecfoigpcflaaGreatDoor
open Go.RowKit
theorem cuts_l2 (out : List Bnd) (hout : out.length ≤ 1000) (y : Bnd × TTape) : ∀ (fuel : Nat) (l : List Int) (a : Int) (k : Nat), okT ⟨l, a⟩ → k ≤ out.length → k < fuel → Tot (Mwld_Tape_Cuts_l2 out y fuel l a (k : Int)) fun z => okT ⟨z.1, z.2.1⟩ ∧ 0 ≤ z.2.2 ∧ z.2.2 ≤ out.length
  | 0, _, _, _, _, _, h => absurd h (by omega)
  | fuel + 1, l, a, k, h, hk, hf => by
    rw [Mwld_Tape_Cuts_l2.eq_2]
    have stay : okT ⟨l, a⟩ ∧ 0 ≤ (k : Int) ∧ (k : Int) ≤ out.length := ⟨h, by omega, by omega⟩
    refine tot_sel (fun h1 => ?_) fun _ => tot_some stay
    have h1 : 0 < (k : Int) := of_decide_eq_true h1
    rw [tot_i64]
    refine tot_obnd (tot_lget (Q := fun _ => True) (by omega) (by omega) fun _ => trivial) fun e _ => tot_bnd (tot_sel (fun _ => tot_obnd (tot_bool h (by omega)) fun z hz => tot_sel (fun _ => ?_) fun _ => tot_some ⟨hz, by simp only; omega, by simp only; omega⟩) fun _ => tot_some stay)
    rw [show (k : Int) - 1 = ((k - 1 : Nat) : Int) by omega]
    exact cuts_l2 out hout y fuel _ _ (k - 1) hz (by omega) (by omega)
theorem cuts_l1 : ∀ (fuel : Nat) (l : List Int) (a : Int) (out : List Bnd) (i : Int), okT ⟨l, a⟩ → i.toNat < fuel → i ≤ 100 → (out.length : Int) + max i 0 ≤ 900 → Tot (Mwld_Tape_Cuts_l1 fuel l a out i) fun z => okT ⟨z.2.1, z.2.2⟩ ∧ (z.1.length : Int) ≤ out.length + max i 0
  | 0, _, _, _, _, _, h, _, _ => absurd h (by omega)
  | fuel + 1, l, a, out, i, h, hf, hi, ho => by
    rw [Mwld_Tape_Cuts_l1.eq_2]
    refine tot_join (R := fun _ => 0 < i) (tot_sel (fun h1 => tot_some (show 0 < i from of_decide_eq_true h1)) fun _ => tot_some ⟨h, by simp only; omega⟩) fun _ h1 => ?_
    refine tot_obnd (R := fun z => okT ⟨z.1, z.2.1⟩ ∧ z.2.2.length ≤ out.length + 1) ?_ ?_
    · refine tot_obnd (tot_bound h) fun y hy => tot_obnd (cuts_l2 out (by omega) y FU y.2.l y.2.at_ out.length hy.1 (Nat.le_refl _) (by unfold FU; omega)) ?_
      rintro ⟨l1, a1, k1⟩ ⟨g1, g2, g3⟩
      simp only at g1 g2 g3 ⊢
      refine tot_obnd (R := fun z => okT ⟨z.1, z.2.1⟩) ?_ ?_
      · have tl : ∀ (τ : TTape), okT τ → ∀ b : Bool, Tot (sel b (obnd (Mwld_Tape_Bool τ 20) fun y22 => some (y22.2.l, y22.2.at_, !y22.1)) (some (τ.l, τ.at_, false))) fun z => okT ⟨z.1, z.2.1⟩ := fun τ hτ b => tot_sel (fun _ => tot_obnd (tot_bool hτ (by omega)) fun z hz => tot_some hz) fun _ => tot_some hτ
        refine tot_sel (fun h2 => ?_) fun _ => tot_bnd (tl ⟨l1, a1⟩ g1 _)
        have h2 : 0 < k1 := of_decide_eq_true h2
        rw [tot_i64]
        refine tot_obnd (tot_lget (Q := fun _ => True) (by omega) (by omega) fun _ => trivial) fun e _ => tot_bnd (tot_sel (fun _ => ?_) fun _ => tot_bnd (tl ⟨l1, a1⟩ g1 _))
        exact tot_obnd (tot_bool g1 (by omega)) fun z hz => tot_sel (fun _ => tot_some hz) fun _ => tot_bnd (tl z.2 hz _)
      · rintro ⟨l2, a2, b2⟩ g4
        simp only at g4 ⊢
        refine tot_join (R := fun _ => True) (tot_sel (fun _ => tot_some ⟨g4, by simp only; omega⟩) fun _ => tot_some trivial) fun _ _ => ?_
        refine tot_obnd (tot_lsl (Q := fun l => (l.length : Int) = k1) (by omega) (by simp; omega)) fun l30 e30 => ?_
        refine tot_obnd (tot_app (Q := fun l => (l.length : Int) = k1) (by simp; omega) (by simp; omega)) fun l31 e31 => ?_
        refine tot_obnd (tot_app (Q := fun l => (l.length : Int) = k1 + 1) (by simp; omega) (by simp; omega)) fun l32 e32 => ?_
        refine tot_obnd (tot_lsl (Q := fun l => (l.length : Int) = out.length - k1) (by omega) (by simp; omega)) fun l33 e33 => ?_
        refine tot_obnd (tot_app (Q := fun l => (l.length : Int) = out.length + 1) (by omega) (by simp; omega)) fun l34 e34 => ?_
        exact tot_some ⟨g4, by simp only; omega⟩
    · rintro ⟨l2, a2, o2⟩ ⟨g1, g2⟩
      simp only at g1 g2 ⊢
      rw [tot_i64]
      exact tot_mono (cuts_l1 fuel l2 a2 o2 (i - 1) g1 (by omega) (by omega) (by omega)) fun z hz => ⟨hz.1, by have := hz.2; omega⟩
theorem tot_cuts {τ : TTape} (h : okT τ) {n : Int} (h0 : 0 ≤ n) (hn : n ≤ 50) : Tot (Mwld_Tape_Cuts τ n) fun y => okT y.2 ∧ (y.1.length : Int) ≤ n := by
  unfold Mwld_Tape_Cuts
  rw [tot_i64]
  refine tot_obnd (tot_next h (by omega)) fun y hy => ?_
  obtain ⟨h1, h2⟩ := hy
  unfold Cho at h2
  refine tot_obnd (cuts_l1 FU y.2.l y.2.at_ [] y.1 h1 (by unfold FU; omega) (by omega) (by simp; omega)) ?_
  rintro ⟨o, l, a⟩ ⟨g1, g2⟩
  simp only [List.length_nil] at g1 g2
  exact tot_some ⟨g1, by simp only; omega⟩
end Go.Proofs.YticecfoigpcflaaGreatDoor
namespace Go.Proofs.YticecfoigpcflaaGreatDoor
open Go.RowKit
attribute [local irreducible] Tot sel bnd obnd ocbnd app lget lsl
def inC (lo hi c : Bnd) : Bool := vb c && decide (0 < cmp c lo) && decide (cmp c hi < 0)
def spl (hi : Bnd) : List Bnd → Bnd → List Rng
  | [], lo => [⟨lo, hi⟩]
  | c :: cs, lo => if inC lo hi c = true then ⟨lo, c⟩ :: spl hi cs c else spl hi cs lo
theorem inC_iff {lo hi c : Bnd} : inC lo hi c = true ↔ vb c = true ∧ lo.lt c = true ∧ c.lt hi = true := by
  unfold inC
  simp only [Bool.and_eq_true, decide_eq_true_eq, cmp_pos, cmp_neg, and_assoc]
theorem least_l3 (lo : Bnd) : ∀ (cs : List Bnd) (x : Bnd), ∃ b : Bnd, Mref28_Split_l3 lo.key lo.top cs x.key x.top = some (b.key, b.top) ∧ (b = x ∨ (b ∈ cs ∧ vb b = true ∧ lo.lt b = true ∧ b.lt x = true)) ∧ (∀ c ∈ cs, vb c = true → lo.lt c = true → c.lt b = false)
  | [], x => ⟨x, rfl, .inl rfl, fun c h => by cases h⟩
  | c :: cs, x => by
    rw [Mref28_Split_l3, eq_ref1_ValidBound, eq_ref1_Compare, eq_ref1_Compare]
    simp only [bnd_eq]
    have keep : (vb c = true → lo.lt c = true → c.lt x = false) → ∃ b : Bnd, Mref28_Split_l3 lo.key lo.top cs x.key x.top = some (b.key, b.top) ∧ (b = x ∨ (b ∈ c :: cs ∧ vb b = true ∧ lo.lt b = true ∧ b.lt x = true)) ∧ (∀ d ∈ c :: cs, vb d = true → lo.lt d = true → d.lt b = false) := fun hc => by
      obtain ⟨b, e, h1, h2⟩ := least_l3 lo cs x
      refine ⟨b, e, h1.imp id fun h => ⟨List.mem_cons_of_mem _ h.1, h.2⟩, fun d hd g1 g2 => ?_⟩
      rcases List.mem_cons.1 hd with rfl | hd
      · rcases h1 with rfl | ⟨-, -, -, h1⟩
        · exact hc g1 g2
        · cases hdb : d.lt b with
          | false => rfl
          | true => have := hc g1 g2; rw [lt_trans hdb h1] at this; cases this
      · exact h2 d hd g1 g2
    have e0 : (⟨lo.key, lo.top⟩ : Bnd) = lo := rfl
    have e1 : (⟨x.key, x.top⟩ : Bnd) = x := rfl
    rw [e0, e1]
    cases hv : vb c with
    | false => rw [sel_false]; exact keep fun h => by rw [hv] at h; cases h
    | true =>
      rw [sel_true]
      by_cases h1 : 0 < cmp c lo
      · rw [decide_eq_true h1, sel_true]
        by_cases h2 : cmp c x < 0
        · rw [decide_eq_true h2, sel_true]
          obtain ⟨b, e, g1, g2⟩ := least_l3 lo cs c
          refine ⟨b, e, .inr ?_, fun d hd p1 p2 => ?_⟩
          · rcases g1 with rfl | ⟨q1, q2, q3, q4⟩
            · exact ⟨List.mem_cons_self, hv, (cmp_pos _ _).1 h1, (cmp_neg _ _).1 h2⟩
            · exact ⟨List.mem_cons_of_mem _ q1, q2, q3, lt_trans q4 ((cmp_neg _ _).1 h2)⟩
          · rcases List.mem_cons.1 hd with rfl | hd
            · rcases g1 with rfl | ⟨-, -, -, q4⟩
              · exact lt_irrefl _
              · exact lt_asymm q4
            · exact g2 d hd p1 p2
        · rw [decide_eq_false h2, sel_false]
          exact keep fun _ _ => by
            cases hcx : c.lt x with
            | false => rfl
            | true => exact absurd ((cmp_neg _ _).2 hcx) h2
      · rw [decide_eq_false h1, sel_false]
        exact keep fun _ hl => absurd ((cmp_pos _ _).2 hl) h1
def Asc : List Bnd → Prop
  | [] => True
  | c :: cs => (∀ d ∈ cs, d.lt c = false) ∧ Asc cs
theorem empb_iff {lo hi : Bnd} (h1 : vb lo = true) (h2 : vb hi = true) : emp ⟨lo, hi⟩ = false ↔ lo.lt hi = true := by
  unfold emp vld
  rw [h1, h2]
  rcases cmp_rng lo hi with h | h | h <;> rw [h]
  · simp; exact (cmp_neg _ _).1 (by omega)
  · simp; exact ((cmp_eq0 _ _).1 h).1
  · simp; exact lt_asymm ((cmp_pos _ _).1 (by omega))
theorem emp_vb {r : Rng} (h : emp r = false) : vb r.lo = true ∧ vb r.hi = true ∧ r.lo.lt r.hi = true := by
  have h0 := h
  unfold emp vld at h
  simp only [Bool.or_eq_false_iff, Bool.not_eq_false', Bool.and_eq_true] at h
  have h1 : vb r.lo = true ∧ vb r.hi = true := by grind
  exact ⟨h1.1, h1.2, (empb_iff h1.1 h1.2).1 h0⟩
theorem spl_len (hi : Bnd) : ∀ (cs : List Bnd) (lo : Bnd), (spl hi cs lo).length ≤ cs.length + 1
  | [], _ => by simp [spl]
  | c :: cs, lo => by
    rw [spl]
    have := spl_len hi cs c
    have := spl_len hi cs lo
    split <;> simp <;> omega
theorem ref_l2 (cuts : List Bnd) (r : Rng) (hh : vb r.hi = true) : ∀ (cs : List Bnd) (lo : Bnd) (o : List Rng) (fuel : Nat), Asc cs → (∀ c ∈ cs, c ∈ cuts) → (∀ c ∈ cuts, inC lo r.hi c = true → c ∈ cs) → vb lo = true → lo.lt r.hi = true → cs.length + 2 ≤ fuel → o.length + cs.length + 2 ≤ 1000000 →
    Mref28_Split_l2 cuts r fuel o lo.key lo.top = some (o ++ spl r.hi cs lo)
  | [], lo, o, fuel, _, _, H, hl, hlt, hf, ho => by
    obtain ⟨fuel, rfl⟩ : ∃ f, fuel = f + 2 := ⟨fuel - 2, by simp at hf; omega⟩
    have he : emp (Rng.mk (Bnd.mk lo.key lo.top) r.hi) = false := (empb_iff hl hh).2 hlt
    have he2 : emp (Rng.mk (Bnd.mk r.hi.key r.hi.top) r.hi) = true := by
      cases h : emp (Rng.mk (Bnd.mk r.hi.key r.hi.top) r.hi) with
      | true => rfl
      | false => have := (empb_iff hh hh).1 h; rw [lt_irrefl] at this; cases this
    obtain ⟨b, e, h1, -⟩ := least_l3 lo cuts r.hi
    have hb : b = r.hi := by
      rcases h1 with h1 | ⟨q1, q2, q3, q4⟩
      · exact h1
      · exact absurd (H b q1 (inC_iff.2 ⟨q2, q3, q4⟩)) (by simp)
    subst hb
    have ea : app o [Rng.mk (Bnd.mk lo.key lo.top) (Bnd.mk r.hi.key r.hi.top)] = some (o ++ [⟨lo, r.hi⟩]) := app_le (by simp at ho ⊢; omega)
    rw [Mref28_Split_l2, eq_ref1_Empty, he]
    simp only [bnd_eq, Bool.not_false, sel_true, obnd_some, ocbnd_nxt, e, ea, spl]
    rw [Mref28_Split_l2, eq_ref1_Empty, he2]
    simp only [bnd_eq, Bool.not_true, sel_false, obnd_some, ocbnd_ret]
  | c :: cs, lo, o, fuel, hA, hS, H, hl, hlt, hf, ho => by
    rw [spl]
    simp only [List.length_cons] at hf ho
    cases hi : inC lo r.hi c with
    | false =>
      rw [if_neg (by simp)]
      refine ref_l2 cuts r hh cs lo o fuel hA.2 (fun d hd => hS d (List.mem_cons_of_mem _ hd)) (fun d hd h => ?_) hl hlt (by omega) (by omega)
      rcases List.mem_cons.1 (H d hd h) with rfl | h2
      · rw [hi] at h; cases h
      · exact h2
    | true =>
      rw [if_pos rfl]
      obtain ⟨p1, p2, p3⟩ := inC_iff.1 hi
      obtain ⟨fuel, rfl⟩ : ∃ f, fuel = f + 1 := ⟨fuel - 1, by omega⟩
      have he : emp (Rng.mk (Bnd.mk lo.key lo.top) r.hi) = false := (empb_iff hl hh).2 hlt
      obtain ⟨b, e, h1, h2⟩ := least_l3 lo cuts r.hi
      have hcb := h2 c (hS c List.mem_cons_self) p1 p2
      have hb : b = c := by
        rcases h1 with rfl | ⟨q1, q2, q3, q4⟩
        · rw [p3] at hcb; cases hcb
        · rcases List.mem_cons.1 (H b q1 (inC_iff.2 ⟨q2, q3, q4⟩)) with h | h
          · exact h
          · exact lt_total q2 p1 (hA.1 b h) hcb
      subst hb
      have ea : app o [Rng.mk (Bnd.mk lo.key lo.top) (Bnd.mk b.key b.top)] = some (o ++ [⟨lo, b⟩]) := app_le (by simp; omega)
      rw [Mref28_Split_l2, eq_ref1_Empty, he]
      simp only [bnd_eq, Bool.not_false, sel_true, obnd_some, ocbnd_nxt, e, ea]
      have key := ref_l2 cuts r hh cs b (o ++ [⟨lo, b⟩]) fuel hA.2 (fun d hd => hS d (List.mem_cons_of_mem _ hd)) (fun d hd h => ?_) p1 p3 (by omega) (by simp; omega)
      · rw [List.append_assoc] at key; exact key
      · obtain ⟨g1, g2, g3⟩ := inC_iff.1 h
        rcases List.mem_cons.1 (H d hd (inC_iff.2 ⟨g1, lt_trans p2 g2, g3⟩)) with rfl | h3
        · rw [lt_irrefl] at g2; cases g2
        · exact h3
def spls (cs : List Bnd) : List Rng → List Rng
  | [] => []
  | r :: l => (if emp r = true then [] else spl r.hi cs r.lo) ++ spls cs l
theorem ref_l1 (cuts cs : List Bnd) (hA : Asc cs) (hp : ∀ c, c ∈ cs ↔ c ∈ cuts) (hc : cs.length ≤ 200) : ∀ (l o : List Rng), o.length + l.length * (cs.length + 1) ≤ 900000 → Mref28_Split_l1 cuts l o = some (o ++ spls cs l)
  | [], o, _ => by rw [Mref28_Split_l1, spls, List.append_nil]
  | r :: l, o, h => by
    rw [List.length_cons, Nat.add_mul, Nat.one_mul] at h
    rw [Mref28_Split_l1, spls]
    cases he : emp r with
    | true =>
      rw [show Mref28_Split_l2 cuts r FU o r.lo.key r.lo.top = some o by
        rw [show FU = 4294967295 + 1 from rfl, Mref28_Split_l2, eq_ref1_Empty, show (Rng.mk (Bnd.mk r.lo.key r.lo.top) r.hi) = r from rfl, he]
        simp only [bnd_eq, Bool.not_true, sel_false, obnd_some, ocbnd_ret]]
      rw [obnd_some, obnd_some, ref_l1 cuts cs hA hp hc l o (by omega), if_pos rfl, List.nil_append]
    | false =>
      obtain ⟨v1, v2, v3⟩ := emp_vb he
      rw [ref_l2 cuts r v2 cs r.lo o FU hA (fun c => (hp c).1) (fun c h _ => (hp c).2 h) v1 v3 (by simp only [FU]; omega) (by omega)]
      have := spl_len r.hi cs r.lo
      rw [obnd_some, obnd_some, ref_l1 cuts cs hA hp hc l _ (by rw [List.length_append]; omega), if_neg (by simp), List.append_assoc]
theorem ref_Split (cuts cs : List Bnd) (l : List Rng) (hA : Asc cs) (hp : ∀ c, c ∈ cs ↔ c ∈ cuts) (hc : cs.length ≤ 200) (hl : l.length ≤ 200) : Mref28_Split l cuts = some (spls cs l) := by
  have : l.length * (cs.length + 1) ≤ 200 * 201 := Nat.mul_le_mul hl (by omega)
  rw [Mref28_Split, ref_l1 cuts cs hA hp hc l [] (by simp; omega), obnd_some, List.nil_append]
end Go.Proofs.YticecfoigpcflaaGreatDoor
namespace Go.Proofs.YticecfoigpcflaaGreatDoor
open Go.RowKit
theorem eq_ref22_Check_l1 : ∀ l : List Rng, Mref22_Check_l1 l = sel (l.all vld) (.nxt ()) (.ret 1)
  | [] => rfl
  | r :: l => by
    rw [Mref22_Check_l1.eq_2, bnd_eq, eq_ref1_Valid, eq_ref22_Check_l1 l, List.all_cons]
    cases vld r <;> rfl
theorem eq_ref22_Check (q : TQuery) : Mref22_Check q = qchk q.Kind q.Ranges q.Key q.Count := by
  obtain ⟨k, l, key, c⟩ := q
  unfold Mref22_Check qchk
  simp only [bnd_eq, eq_ref22_Check_l1, eq_ref1_ValidKey, sel_ite, decide_eq_true_eq, Bool.not_eq_true', decide_eq_false_iff_not]
  by_cases a1 : k < 1 ∨ 4 < k
  · rcases a1 with a1 | a1
    · simp [a1]
    · have : ¬ k < 1 := by omega
      simp [a1, this]
  have b1 : ¬ k < 1 := by omega
  have b2 : ¬ 4 < k := by omega
  by_cases a2 : 64 < l.length
  · have : 64 < (l.length : Int) := by omega
    simp [b1, b2, a2, this]
  have b3 : ¬ 64 < (l.length : Int) := by omega
  cases hv : l.all vld with
  | false => simp [b1, b2, a2, b3, hv, cbnd_ret]
  | true =>
    simp only [b1, b2, a2, b3, hv, if_true, if_false, cbnd_nxt, Bool.false_eq_true, or_self, decide_false]
    have hl : (0 < (l.length : Int)) ↔ 0 < l.length := by omega
    by_cases h1 : vk key = false
    · simp [h1]
    · have h1' : vk key = true := by simpa using h1
      by_cases h2 : 0 < l.length <;> by_cases h3 : k = 1 <;> by_cases h4 : key = ⟨#[]⟩ <;> by_cases h5 : k = 3 <;> by_cases h6 : k = 4 <;> first
        | (exfalso; omega)
        | (simp [h1', h2, h3, h4, h5, h6] <;> (repeat' split) <;> first | rfl | omega | (simp_all; done) | (simp_all; omega))
end Go.Proofs.YticecfoigpcflaaGreatDoor
namespace Go.Proofs.YticecfoigpcflaaGreatDoor
open Go.RowKit
theorem eq_clone_Ranges (l : List Rng) (h : l.length ≤ 4294967296) : Mclone_List_api_Range_ l = some l := by
  unfold Mclone_List_api_Range_
  rw [app_le (by simpa using h), obnd_some, List.nil_append]
theorem eq_clone_Rows (l : List Kv) (h : l.length ≤ 4294967296) : Mclone_List_api_Row_ l = some l := by
  unfold Mclone_List_api_Row_
  rw [app_le (by simpa using h), obnd_some, List.nil_append]
theorem eq_clone_Query (q : TQuery) (h : q.Ranges.length ≤ 4294967296) : Mclone_Query q = some q := by
  unfold Mclone_Query
  rw [eq_clone_Ranges _ h, obnd_some]
theorem eq_clone_View (v : TView) (h : v.Rows.length ≤ 4294967296) : Mclone_View v = some v := by
  unfold Mclone_View
  rw [eq_clone_Rows _ h, obnd_some]
theorem clone_Visits_l1 (y l : List TVisit) (hl : l.length = y.length) (hy : y.length ≤ 1000000) (hr : ∀ v ∈ l, v.View.Rows.length ≤ 4294967296) : ∀ (k fuel m : Nat), m + k = y.length → k < fuel → Mclone_Visits_l1 y fuel l (m : Int) = some l
  | _, 0, _, _, h => absurd h (by omega)
  | 0, fuel + 1, m, h1, _ => by
    rw [Mclone_Visits_l1.eq_2, decide_eq_false (by omega), sel_false, obnd_some, ocbnd_ret]
  | k + 1, fuel + 1, m, h1, h2 => by
    have hm : m < l.length := by omega
    rw [Mclone_Visits_l1.eq_2, decide_eq_true (by omega), sel_true, obnd_some, ocbnd_nxt, lget_nat, List.getElem?_eq_getElem hm, obnd_some, eq_clone_View _ (hr _ (List.getElem_mem hm)), obnd_some, obnd_some, bnd_eq, bnd_eq, i64w_id (by omega) (by omega), show (m : Int) + 1 = ((m + 1 : Nat) : Int) by omega]
    have e : l.set (Int.toNat (m : Int)) (TVisit.mk l[m].View l[m].Part) = l := by
      rw [Int.toNat_natCast]; exact List.set_getElem_self hm
    rw [e]
    exact clone_Visits_l1 y l hl hy hr k fuel (m + 1) (by omega) (by omega)
theorem eq_clone_Visits (l : List TVisit) (h : l.length ≤ 1000000) (hr : ∀ v ∈ l, v.View.Rows.length ≤ 4294967296) : Mclone_Visits l = some l := by
  unfold Mclone_Visits Mclone_List_api_Visit_
  rw [app_le (by simp; omega), obnd_some, List.nil_append, obnd_some, show (0 : Int) = ((0 : Nat) : Int) from rfl, clone_Visits_l1 l l rfl h hr l.length FU 0 (by omega) (by unfold FU; omega), obnd_some]
structure okW (w : TWalk) : Prop where
  q : w.Query.Ranges.length ≤ 1000
  todo : w.Todo.length ≤ 1000
  vis : w.Visits.length ≤ 1000
  rows : ∀ v ∈ w.Visits, v.View.Rows.length ≤ 10000
theorem eq_clone_Walk (w : TWalk) (h : okW w) : Mclone_Walk w = some w := by
  have h1 := h.q
  have h2 := h.todo
  have h3 := h.vis
  unfold Mclone_Walk
  rw [eq_clone_Query _ (by omega), obnd_some, eq_clone_Ranges _ (by omega), obnd_some, eq_clone_Visits _ (by omega) (fun v hv => by have := h.rows v hv; omega), obnd_some]
def inside (o i : Rng) : Bool := !emp o && decide (cmp o.lo i.lo ≤ 0) && decide (cmp i.hi o.hi ≤ 0)
theorem eq_walk_Inside (o i : Rng) : Mwalk_Inside o i = inside o i := by
  unfold Mwalk_Inside inside
  simp only [bnd_eq, eq_keyspace_Empty, eq_keyspace_Compare, sel_and, Bool.and_assoc]
def befr (p : Option Rng) (r : Rng) : Bool := match p with | some x => decide (cmp r.lo x.hi < 0) | none => false
def stErr (all : List Rng) : Option Rng → List Rng → Int
  | _, [] => 0
  | p, r :: l => if emp r = true then 1 else if befr p r = true then 8 else if (all.any fun x => inside x r) = true then stErr all (some r) l else 2
def W0 : TWalk := ⟨⟨0, [], ⟨#[]⟩, 0⟩, [], []⟩
def qch (q : TQuery) : Int := qchk q.Kind q.Ranges q.Key q.Count
def qrg (q : TQuery) : List Rng := qranges q.Kind q.Ranges q.Key q.Count
def startW (q : TQuery) (l : List Rng) : TWalk × Int := if qch q ≠ 0 then (W0, qch q) else if 128 < l.length then (W0, 3) else if stErr (qrg q) none l = 0 then (⟨q, l, []⟩, 0) else (W0, stErr (qrg q) none l)
theorem walk_Start_l2 (r : Rng) : ∀ (l : List Rng) (b : Bool), Mwalk_Start_l2 r l b = some (b || l.any fun x => inside x r)
  | [], b => by simp [Mwalk_Start_l2]
  | x :: l, b => by
    rw [Mwalk_Start_l2.eq_2, bnd_eq, eq_walk_Inside, walk_Start_l2 r l, walk_Start_l2 r l]
    cases b <;> simp [sel_true, sel_false]
def prevR (rs : List Rng) : Nat → Option Rng
  | 0 => none
  | m + 1 => rs[m]?
def stC (e : Int) : Ctl (TWalk × Int) Unit := if e = 0 then .nxt () else .ret (W0, e)
theorem walk_Start_l1 (rs all : List Rng) (hrs : rs.length ≤ 1000) : ∀ (xs : List Rng) (m : Nat), rs.drop m = xs → m ≤ rs.length → Mwalk_Start_l1 rs all xs (m : Int) = some (stC (stErr all (prevR rs m) xs))
  | [], m, _, _ => rfl
  | r :: xs, m, h, hm => by
    obtain ⟨h1, h2⟩ := drop_get h
    obtain ⟨h3, h4⟩ := List.getElem?_eq_some_iff.1 h1
    have ih := walk_Start_l1 rs all hrs xs (m + 1) h2 h3
    rw [Mwalk_Start_l1.eq_2, bnd_eq, eq_keyspace_Empty, show (m : Int) + 1 = ((m + 1 : Nat) : Int) by omega, ih, stErr.eq_2]
    have hp : (sel (decide ((0 : Int) < (m : Int))) (obnd (lget rs (i64w ((m : Int) - 1))) fun e9 => bnd (Mkeyspace_Compare r.lo e9.hi) fun y10 => some (decide (y10 < 0))) (some false)) = some (befr (prevR rs m) r) := by
      cases m with
      | zero => rfl
      | succ m =>
        rw [decide_eq_true (by omega), sel_true, i64w_id (by omega) (by omega), show ((m + 1 : Nat) : Int) - 1 = (m : Int) by omega, lget_nat, List.getElem?_eq_getElem (by omega), obnd_some, bnd_eq, eq_keyspace_Compare]
        simp only [prevR, befr]
        rw [List.getElem?_eq_getElem (by omega)]
    cases emp r with
    | true => rfl
    | false =>
      simp only [Bool.false_eq_true, if_false]
      rw [sel_false, hp, obnd_some]
      generalize (befr (prevR rs m) r) = b
      cases b with
      | true => rfl
      | false =>
        simp only [Bool.false_eq_true, if_false]
        rw [sel_false, walk_Start_l2, obnd_some, Bool.false_or]
        have e : prevR rs (m + 1) = some r := h1
        rw [e]
        cases (all.any fun x => inside x r) <;> rfl
theorem eq_walk_Start (q : TQuery) (l : List Rng) (hq : q.Ranges.length < 1000000) : Mwalk_Start q l = some (startW q l) := by
  have e1 : Mquery_Check q = some (qch q) := if_pos hq
  have e2 : Mquery_Ranges q = some (qrg q) := if_pos hq
  unfold Mwalk_Start startW
  rw [e1, obnd_some, e2, obnd_some]
  by_cases h1 : qch q = 0
  · rw [decide_eq_true h1, Bool.not_true, sel_false, if_neg (by simpa using h1)]
    by_cases h2 : 128 < l.length
    · rw [decide_eq_true (by omega), sel_true, if_pos h2]; rfl
    · have hl : l.length ≤ 128 := by omega
      have := walk_Start_l1 l (qrg q) (by omega) l 0 rfl (Nat.zero_le _)
      rw [show ((0 : Nat) : Int) = 0 from rfl] at this
      rw [decide_eq_false (by omega), sel_false, if_neg h2, this, obnd_some]
      show ocbnd (stC (stErr (qrg q) none l)) _ = _
      unfold stC
      by_cases h3 : stErr (qrg q) none l = 0
      · rw [if_pos h3, if_pos h3, ocbnd_nxt, eq_clone_Query _ (by omega), obnd_some, eq_clone_Ranges _ (by omega), obnd_some]
      · rw [if_neg h3, if_neg h3, ocbnd_ret]
  · rw [decide_eq_false h1, Bool.not_false, sel_true, if_pos h1]; rfl
theorem sameRange_refl (r : Rng) : Mref24_SameRange r r = true := by
  unfold Mref24_SameRange
  simp only [bnd_eq, eq_ref1_Compare, cmp_self]; rfl
theorem sameQuery_l1 (a : TQuery) : ∀ (xs : List Rng) (m : Nat), a.Ranges.drop m = xs → Mref22_Same_l1 a a xs (m : Int) = some (.nxt ())
  | [], _, _ => rfl
  | r :: xs, m, h => by
    obtain ⟨h1, h2⟩ := drop_get h
    rw [Mref22_Same_l1.eq_2]
    simp only [lget_nat, h1, obnd_some, decide_true, Bool.and_self, Bool.not_true, sel_false]
    exact sameQuery_l1 a xs (m + 1) h2
theorem sameQuery_refl (a : TQuery) : Mref22_Same a a = some true := by
  unfold Mref22_Same
  have := sameQuery_l1 a a.Ranges 0 rfl
  rw [show ((0 : Nat) : Int) = 0 from rfl] at this
  simp only [decide_true, Bool.not_true, sel_false, obnd_some, this, ocbnd_nxt]
theorem sameRows_l1 (a : List Kv) : ∀ (xs : List Kv) (m : Nat), a.drop m = xs → Mref20_Same_l1 a a xs (m : Int) = some (.nxt ())
  | [], _, _ => rfl
  | r :: xs, m, h => by
    obtain ⟨h1, h2⟩ := drop_get h
    rw [Mref20_Same_l1.eq_2]
    simp only [lget_nat, h1, obnd_some, decide_true, Bool.and_self, Bool.not_true, sel_false]
    exact sameRows_l1 a xs (m + 1) h2
theorem sameRows_refl (a : List Kv) : Mref20_Same a a = some true := by
  unfold Mref20_Same
  have := sameRows_l1 a a 0 rfl
  rw [show ((0 : Nat) : Int) = 0 from rfl] at this
  simp only [decide_true, Bool.not_true, sel_false, obnd_some, this, ocbnd_nxt]
theorem sameVisit_refl (v : TVisit) : Mref28_SameVisit v v = some true := by
  unfold Mref28_SameVisit
  simp only [decide_true, Bool.and_self, sel_true, bnd_eq, sameRange_refl, sameRows_refl, obnd_some]
theorem sameVisits_l1 (a : List TVisit) : ∀ (xs : List TVisit) (m : Nat), a.drop m = xs → Mref28_SameVisits_l1 a a xs (m : Int) = some (.nxt ())
  | [], _, _ => rfl
  | r :: xs, m, h => by
    obtain ⟨h1, h2⟩ := drop_get h
    rw [Mref28_SameVisits_l1.eq_2]
    simp only [lget_nat, h1, obnd_some, sameVisit_refl, Bool.not_true, sel_false]
    exact sameVisits_l1 a xs (m + 1) h2
theorem sameVisits_refl (a : List TVisit) : Mref28_SameVisits a a = some true := by
  unfold Mref28_SameVisits
  have := sameVisits_l1 a a 0 rfl
  rw [show ((0 : Nat) : Int) = 0 from rfl] at this
  simp only [decide_true, Bool.not_true, sel_false, obnd_some, this, ocbnd_nxt]
theorem sameRanges_l1 (a : List Rng) : ∀ (xs : List Rng) (m : Nat), a.drop m = xs → Mref28_SameRanges_l1 a a xs (m : Int) = some (.nxt ())
  | [], _, _ => rfl
  | r :: xs, m, h => by
    obtain ⟨h1, h2⟩ := drop_get h
    rw [Mref28_SameRanges_l1.eq_2]
    simp only [lget_nat, h1, obnd_some, bnd_eq, sameRange_refl, Bool.not_true, sel_false]
    exact sameRanges_l1 a xs (m + 1) h2
theorem sameRanges_refl (a : List Rng) : Mref28_SameRanges a a = some true := by
  unfold Mref28_SameRanges
  have := sameRanges_l1 a a 0 rfl
  rw [show ((0 : Nat) : Int) = 0 from rfl] at this
  simp only [decide_true, Bool.not_true, sel_false, obnd_some, this, ocbnd_nxt]
theorem sameWalk_refl (w : TWalk) : Mref28_SameWalk w w = some true := by
  unfold Mref28_SameWalk
  simp only [sameQuery_refl, sameRanges_refl, sameVisits_refl, obnd_some, sel_true]
end Go.Proofs.YticecfoigpcflaaGreatDoor
-- LEFT eq_ref28_Start ref28_Start_l1 ref28_Start_l2
namespace Go.Proofs.YticecfoigpcflaaGreatDoor
open Go.RowKit
def stOk (s : TStamp) : Bool := decide (0 ≤ s.Epoch) && decide (s.Epoch ≤ 1099511627776) && decide (0 ≤ s.Version) && decide (s.Version ≤ 1099511627776)
def numOk (n : Int) : Bool := decide (1 ≤ n) && decide (n ≤ 2147483647)
def validV (v : TView) : Bool := numOk v.Owner && !emp v.Interval && stOk v.Stamp && tvalid v.Rows && v.Rows.all fun x => contains v.Interval x.key
end Go.Proofs.YticecfoigpcflaaGreatDoor
