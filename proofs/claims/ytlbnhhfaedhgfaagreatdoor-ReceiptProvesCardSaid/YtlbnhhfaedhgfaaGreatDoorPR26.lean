/-
  Lemmas: Plain laws of the models: the tape's nets: their views are valid, tile the key space, and have the rows of one table. / Models and walks: the example of chapter 28. / Plain laws of the models: starts, steps and views of walks keep what is asked of them. / Plain words: the parts of a walk: pieces that stand for one range; what is left to do and what was visited tile the ranges of the start. / Plain laws of the models: lists of ranges compared; what a walk does with a view that is valid. / The number that a value is: plain, and in the reference. / Plain laws of the models: numbers and aggregates: the program's are the reference's. / Plain laws of the models: what is taken of rows; answers of the reference.
-/
import Derived.Test.YtlbnhhfaedhgfaaGreatDoorPR24
import Derived.Test.YtlbnhhfaedhgfaaGreatDoorPR25
import Derived.Test.YtlbnhhfaedhgfaaGreatDoorPR22
import Derived.Test.YtlbnhhfaedhgfaaGreatDoorPR10
import Derived.Test.YtlbnhhfaedhgfaaGreatDoorPR19
import Derived.Test.YtlbnhhfaedhgfaaGreatDoorPR20
namespace Go.Proofs.YtlbnhhfaedhgfaaGreatDoor
set_option linter.unusedSimpArgs false
set_option linter.unusedVariables false
open Go.RowKit
theorem tvalid_flt {t : List Kv} (h : tvalid t = true) (p : Kv → Bool) : tvalid (t.filter p) = true := by
  rw [tvalid_iff] at h ⊢
  obtain ⟨h1, h2, h3⟩ := h
  exact ⟨Nat.le_trans (List.length_filter_le _ _) h1, fun r hr => h2 r (List.mem_filter.1 hr).1, h3.filter p⟩
theorem all_flt (r : Rng) (t : List Kv) : ((t.filter fun x => contains r x.key).all fun x => contains r x.key) = true := List.all_eq_true.2 fun x hx => (List.mem_filter.1 hx).2
def P0 : TPart := ⟨0, 0, 0, ⟨0, 0⟩, zr, []⟩
def copyC (r : Rng) (s : TStamp) (t : List Kv) : TCopy := ⟨r, s, t, [], P0, P0, 0, 0⟩
theorem eq_ref24_New {r : Rng} {s : TStamp} {t : List Kv} (hr : vld r = true) (hs : stOk s = true) (ht : tvalid t = true) (hw : (t.all fun x => contains r x.key) = true) : Mref24_New r s t = some (copyC r s t, 0) := by
  have := ((tvalid_iff t).1 ht).1
  unfold Mref24_New
  rw [bnd_eq, eq_ref1_Valid, hr, Bool.not_true, sel_false, bnd_eq, eq_ref23_Valid, hs, eq_ref20_Valid, ht, eq_ref20_Within, bnd_eq, hw, app_le (by simp; omega)]
  simp only [obnd_some, Bool.not_true, sel_false, List.nil_append]
  rfl
theorem eq_ref24_Valid {r : Rng} {s : TStamp} {t : List Kv} (hr : vld r = true) (hs : stOk s = true) (ht : tvalid t = true) (hw : (t.all fun x => contains r x.key) = true) : Mref24_Valid (copyC r s t) = some true := by
  have h0 := ((tvalid_iff t).1 ht).1
  have ha : ∀ x : Rng, Mref24_apart P0 x = some true := fun x => rfl
  unfold Mref24_Valid copyC
  simp only [bnd_eq, eq_ref1_Valid, eq_ref23_Valid, eq_ref20_Valid, eq_ref20_Within, hr, hs, ht, hw, obnd_some, Bool.not_true, sel_false, ha]
  have e1 : decide (64 < ((([] : List TWrite).length : Nat) : Int)) = false := rfl
  have e2 : decide (1024 < i64w ((t.length : Int) + ((([] : List TWrite).length : Nat) : Int))) = false := decide_eq_false (by
    have : ((([] : List TWrite).length : Nat) : Int) = 0 := rfl
    rw [this, i64w_id (by omega) (by omega)]; omega)
  have e3 : decide (P0.Serial = 0) = true := rfl
  rw [e1, e2, e3]
  rfl
theorem place_none (id : Int) : ∀ (l : List TMember) (i : Int), (∀ m ∈ l, m.ID ≠ id) → Mref25_place_l1 id l i = .nxt ()
  | [], _, _ => rfl
  | m :: l, i, h => by
    rw [Mref25_place_l1.eq_2, decide_eq_false (h m List.mem_cons_self), sel_false]
    exact place_none id l _ fun x hx => h x (List.mem_cons_of_mem _ hx)
theorem eq_place (n : Int) (b : Bool) (l : List TMember) (id : Int) (h : ∀ m ∈ l, m.ID ≠ id) : Mref25_place ⟨n, b, l⟩ id = -1 := by
  unfold Mref25_place
  simp only
  rw [place_none id l 0 h]; rfl
theorem new_l1 (b : Bool) : ∀ ids : List Int, (∀ i ∈ ids, numOk i = true) → Mref25_New_l1 ids b = some b
  | [], _ => rfl
  | i :: l, h => by
    have ih := new_l1 b l fun x hx => h x (List.mem_cons_of_mem _ hx)
    rw [Mref25_New_l1.eq_2, bnd_eq, eq_ref24_Number, h i List.mem_cons_self, Bool.not_true]
    cases b with
    | true => rw [sel_true]; exact ih
    | false => rw [sel_false]; exact ih
theorem new_l2 (n : Int) (c : TCopy) : ∀ (ids : List Int) (acc : List TMember), ids.Nodup → (∀ m ∈ acc, m.ID ∉ ids) → acc.length + ids.length ≤ 1000 → Mref25_New_l2 n c ids acc = some (.nxt (acc ++ ids.map fun i => ⟨i, true, c⟩))
  | [], acc, _, _, _ => by rw [Mref25_New_l2.eq_1]; simp
  | i :: l, acc, h, h1, h2 => by
    have hh := List.nodup_cons.1 h
    simp only [List.length_cons] at h2
    rw [Mref25_New_l2.eq_2, bnd_eq, eq_place _ _ _ _ (fun m hm e => h1 m hm (by rw [e]; exact List.mem_cons_self)), decide_eq_false (by omega), sel_false, app_le (by simp; omega), obnd_some]
    rw [new_l2 n c l _ hh.2 (fun m hm => by
      rcases List.mem_append.1 hm with hm | hm
      · exact fun h3 => h1 m hm (List.mem_cons_of_mem _ h3)
      · rw [List.mem_singleton.1 hm]; exact hh.1) (by simp; omega)]
    simp
theorem eq_ref25_New {r : Rng} {s : TStamp} {t : List Kv} (hr : vld r = true) (hs : stOk s = true) (ht : tvalid t = true) (hw : (t.all fun x => contains r x.key) = true) {n : Int} (hn : numOk n = true) {ids : List Int} (h0 : 0 < ids.length) (h5 : ids.length ≤ 5) (hi : ∀ i ∈ ids, numOk i = true) (hd : ids.Nodup) :
    Mref25_New n ids (copyC r s t) = some (⟨n, true, ids.map fun i => ⟨i, true, copyC r s t⟩⟩, 0) := by
  unfold Mref25_New
  rw [bnd_eq, eq_ref24_Number, hn, eq_ref24_Valid hr hs ht hw, decide_eq_false (by omega)]
  simp only [Bool.not_true, sel_false, obnd_some]
  rw [new_l1 _ ids hi, obnd_some, sel_false, decide_eq_false (by omega), sel_false, new_l2 _ _ _ _ hd (by simp) (by simp; omega), obnd_some, ocbnd_nxt]
  simp
def Tl (t : List Kv) : Bnd → List TView → Bnd → Prop
  | a, [], b => a = b
  | a, v :: l, b => v.Interval.lo = a ∧ emp v.Interval = false ∧ validV v = true ∧ v.Rows = t.filter (fun x => contains v.Interval x.key) ∧ Tl t v.Interval.hi l b
theorem Tl.snoc {t : List Kv} {v : TView} : ∀ {l : List TView} {a b : Bnd}, Tl t a l b → v.Interval.lo = b → emp v.Interval = false → validV v = true → v.Rows = t.filter (fun x => contains v.Interval x.key) → Tl t a (l ++ [v]) v.Interval.hi
  | [], a, b, h, h1, h2, h3, h4 => ⟨by rw [h1]; exact h.symm, h2, h3, h4, rfl⟩
  | x :: l, a, b, ⟨g1, g2, g3, g4, g5⟩, h1, h2, h3, h4 => ⟨g1, g2, g3, g4, g5.snoc h1 h2 h3 h4⟩
theorem Tl.mem {t : List Kv} : ∀ {l : List TView} {a b : Bnd}, Tl t a l b → ∀ v ∈ l, validV v = true ∧ v.Rows = t.filter (fun x => contains v.Interval x.key) ∧ emp v.Interval = false
  | [], _, _, _, _, hv => by simp at hv
  | x :: l, a, b, ⟨g1, g2, g3, g4, g5⟩, v, hv => by
    rcases List.mem_cons.1 hv with rfl | hv
    · exact ⟨g3, g4, g2⟩
    · exact g5.mem v hv
def Sh (gs : List TGroup) (vs : List TView) : Prop := gs.map Mref25_View = vs.map fun v => some (v, 0)
theorem Sh.len {gs : List TGroup} {vs : List TView} (h : Sh gs vs) : gs.length = vs.length := by
  have := congrArg List.length h
  simpa using this
theorem vld_of {r : Rng} (h : emp r = false) : vld r = true := by
  unfold emp at h
  cases hv : vld r with
  | true => rfl
  | false => rw [hv] at h; simp at h
theorem ids_ok {n k : Int} (hn : 1 ≤ n ∧ n ≤ 1000) (hk : 0 ≤ k ∧ k < 3) : ∃ l, lsl ([i64w (10 * n), i64w (i64w (10 * n) + 1), i64w (i64w (10 * n) + 2)] : List Int) 0 (i64w (1 + k)) = some (10 * n :: l) ∧ (10 * n :: l).length ≤ 5 ∧ (∀ i ∈ 10 * n :: l, numOk i = true) ∧ (10 * n :: l).Nodup := by
  have e0 : i64w (10 * n) = 10 * n := i64w_id (by omega) (by omega)
  have e1 : i64w (10 * n + 1) = 10 * n + 1 := i64w_id (by omega) (by omega)
  have e2 : i64w (10 * n + 2) = 10 * n + 2 := i64w_id (by omega) (by omega)
  have e3 : i64w (1 + k) = 1 + k := i64w_id (by omega) (by omega)
  rw [e0, e1, e2, e3]
  have no : ∀ x : Int, 1 ≤ x → x ≤ 100000 → numOk x = true := fun x h1 h2 => by unfold numOk; rw [decide_eq_true h1, decide_eq_true (by omega)]; rfl
  have hk3 : k = 0 ∨ k = 1 ∨ k = 2 := by omega
  rcases hk3 with rfl | rfl | rfl
  · refine ⟨[], rfl, by simp, fun i hi => ?_, by simp⟩
    simp only [List.mem_cons, List.not_mem_nil, or_false] at hi
    exact no i (by omega) (by omega)
  · refine ⟨[10 * n + 1], rfl, by simp, fun i hi => ?_, by simp; omega⟩
    simp only [List.mem_cons, List.not_mem_nil, or_false] at hi
    exact no i (by omega) (by omega)
  · refine ⟨[10 * n + 1, 10 * n + 2], rfl, by simp, fun i hi => ?_, by simp; omega⟩
    simp only [List.mem_cons, List.not_mem_nil, or_false] at hi
    exact no i (by omega) (by omega)
theorem net_step {τ : TTape} (hτ : okT τ) {t : List Kv} (ht : tvalid t = true) {out : List TGroup} {vs : List TView} (hsh : Sh out vs) {a : Bnd} {x : Rng} (htl : Tl t a vs x.lo) (hx : emp x = false) (hl : out.length ≤ 500) {K : List TGroup → TTape → Option (List TGroup × List Int × Int)} {Q : List TGroup × List Int × Int → Prop}
    (hK : ∀ (g : TGroup) (v : TView) (τ' : TTape), okT τ' → Sh (out ++ [g]) (vs ++ [v]) → Tl t a (vs ++ [v]) x.hi → Tot (K (out ++ [g]) τ') Q) :
    Tot (obnd (Mwld_Tape_Next τ 3) fun y19 =>
        obnd (Mwld_Tape_Next y19.2 2) fun y20 =>
        obnd (Mref20_Slice t x) fun y21 =>
        obnd (Mref24_New x (TStamp.mk y19.1 y20.1) y21) fun y22 =>
        obnd (Mwld_Tape_Next y20.2 3) fun y23 =>
        obnd (lsl ([i64w (10 * (i64w ((out.length : Int) + 1))), i64w ((i64w (10 * (i64w ((out.length : Int) + 1)))) + 1), i64w ((i64w (10 * (i64w ((out.length : Int) + 1)))) + 2)] : List Int) 0 (i64w (1 + y23.1))) fun l24 =>
        obnd (Mref25_New (i64w ((out.length : Int) + 1)) l24 y22.1) fun y25 =>
        obnd (app out ([y25.1] : List TGroup)) fun l26 => K l26 y23.2) Q := by
  have h0 := ((tvalid_iff t).1 ht).1
  have hv := vld_of hx
  refine tot_obnd (tot_next hτ (by omega)) fun y19 h19 => tot_obnd (tot_next h19.1 (by omega)) fun y20 h20 => ?_
  have c19 := h19.2
  have c20 := h20.2
  unfold Cho at c19 c20
  have hs : stOk ⟨y19.1, y20.1⟩ = true := by
    unfold stOk
    rw [decide_eq_true (by simp only; omega), decide_eq_true (by simp only; omega), decide_eq_true (by simp only; omega), decide_eq_true (by simp only; omega)]; rfl
  have ht2 := tvalid_flt ht fun z => contains x z.key
  have hw := all_flt x t
  rw [eq_ref20_Slice _ _ (by omega), obnd_some, eq_ref24_New hv hs ht2 hw, obnd_some]
  refine tot_obnd (tot_next h20.1 (by omega)) fun y23 h23 => ?_
  have c23 := h23.2
  unfold Cho at c23
  rw [i64w_id (a := (out.length : Int) + 1) (by omega) (by omega)]
  obtain ⟨l, e, h5, hi, hd⟩ := ids_ok (n := (out.length : Int) + 1) (k := y23.1) (by omega) (by omega)
  have hn : numOk ((out.length : Int) + 1) = true := by unfold numOk; rw [decide_eq_true (by omega), decide_eq_true (by omega)]; rfl
  rw [e, obnd_some, eq_ref25_New hv hs ht2 hw hn (by simp) h5 hi hd, obnd_some, app_le (by simp; omega), obnd_some]
  refine hK _ ⟨10 * ((out.length : Int) + 1), x, ⟨y19.1, y20.1⟩, t.filter fun z => contains x z.key⟩ _ h23.1 ?_ ?_
  · unfold Sh at hsh ⊢
    rw [List.map_append, List.map_append, hsh]
    congr 1
  · exact Tl.snoc (v := ⟨10 * ((out.length : Int) + 1), x, ⟨y19.1, y20.1⟩, t.filter fun z => contains x z.key⟩) htl rfl hx (by
      unfold validV
      simp only
      rw [hi _ List.mem_cons_self, hx, hs, ht2, hw]; rfl) rfl
def topB : Bnd := ⟨⟨#[]⟩, true⟩
theorem vb_top : vb topB = true := by kernel_rfl
theorem top_eq {b : Bnd} (h : vb b = true) (ht : b.top = true) : b = topB := by
  obtain ⟨k, t⟩ := b
  simp only at ht
  subst ht
  simp only [vb, Bool.not_true, Bool.false_or, Bool.and_eq_true] at h
  obtain ⟨⟨l⟩⟩ := k
  have := h.2
  rw [ByteArray.toList_eq] at this
  cases l with
  | nil => rfl
  | cons a l => simp at this
theorem emp_top {b : Bnd} (h : vb b = true) (he : emp ⟨b, topB⟩ = true) : b = topB := by
  cases ht : b.top with
  | true => exact top_eq h ht
  | false =>
    exfalso
    have h1 : b.lt topB = true := by simp [Bnd.lt, ht, topB]
    have h2 : cmp b topB < 0 := (cmp_neg _ _).2 h1
    unfold emp vld at he
    simp only at he
    rw [h, vb_top, decide_eq_true (by omega)] at he
    have h3 : cmp b topB = 0 := by simpa using he
    omega
theorem emp_of {a b : Bnd} (ha : vb a = true) (hb : vb b = true) (h : 0 < cmp b a) : emp ⟨a, b⟩ = false := by
  have h2 : cmp a b = - cmp b a := cmp_swap b a
  unfold emp vld
  simp only
  rw [ha, hb, decide_eq_true (by omega)]
  have : (cmp a b == 0) = false := by
    cases hh : cmp a b == 0 with
    | false => rfl
    | true => have := eq_of_beq hh; omega
  rw [this]; rfl
theorem net_l1 (τ0 : TTape) (t : List Kv) (ht : tvalid t = true) (cuts : List Bnd × TTape) (hc : cuts.1.length ≤ 100) : ∀ (fuel : Nat) (l : List Int) (a : Int) (out : List TGroup) (lo : Bnd) (i : Nat) (vs : List TView), okT ⟨l, a⟩ → cuts.1.length + 1 - i < fuel → out.length ≤ i → (i ≤ cuts.1.length + 1) → Sh out vs → Tl t zb vs lo → vb lo = true → (i = cuts.1.length + 1 → lo = topB) →
    Tot (Mwld_Tape_Net_l1 (t, τ0) Mwld_All cuts fuel l a out lo.key lo.top (i : Int)) fun z => okT ⟨z.2.1, z.2.2⟩ ∧ z.1.length ≤ cuts.1.length + 1 ∧ ∃ vs, Sh z.1 vs ∧ Tl t zb vs topB
  | 0, _, _, _, _, _, _, _, h, _, _, _, _, _, _ => absurd h (by omega)
  | fuel + 1, l, a, out, lo, i, vs, h, hf, ho, hi, hs, htl, hlo, hend => by
    rw [Mwld_Tape_Net_l1.eq_2]
    refine tot_join (R := fun _ => i ≤ cuts.1.length) (tot_sel (fun h1 => tot_some (by have := of_decide_eq_true h1; show i ≤ cuts.1.length; omega)) fun h1 => tot_some ⟨h, by simp only; omega, vs, hs, ?_⟩) fun _ h1 => ?_
    · have h1 := of_decide_eq_false h1
      rw [hend (by omega)] at htl; exact htl
    have next : ∀ (τ : TTape) (out' : List TGroup) (lo' : Bnd) (vs' : List TView), okT τ → out'.length ≤ i + 1 → Sh out' vs' → Tl t zb vs' lo' → vb lo' = true → (i = cuts.1.length → lo' = topB) → Tot (Mwld_Tape_Net_l1 (t, τ0) Mwld_All cuts fuel τ.l τ.at_ out' lo'.key lo'.top (i64w ((i : Int) + 1))) fun z => okT ⟨z.2.1, z.2.2⟩ ∧ z.1.length ≤ cuts.1.length + 1 ∧ ∃ vs, Sh z.1 vs ∧ Tl t zb vs topB := fun τ out' lo' vs' g1 g2 g3 g4 g5 g6 => by
      rw [i64w_id (by omega) (by omega), show (i : Int) + 1 = ((i + 1 : Nat) : Int) by omega]
      exact net_l1 τ0 t ht cuts hc fuel τ.l τ.at_ out' lo' (i + 1) vs' g1 (by omega) g2 (by omega) g3 g4 g5 (fun h => g6 (by omega))
    refine tot_obnd (R := fun b => b = true → ∃ h : i < cuts.1.length, vb cuts.1[i] = true ∧ 0 < cmp cuts.1[i] lo) (tot_sel (fun h2 => ?_) fun _ => tot_some (by simp)) fun b hb => ?_
    · have h2 : i < cuts.1.length := by have := of_decide_eq_true h2; omega
      rw [lget_nat, List.getElem?_eq_getElem h2, obnd_some, bnd_eq, eq_ref1_ValidBound]
      refine tot_sel (fun h3 => ?_) fun _ => tot_some (by simp)
      rw [obnd_some, bnd_eq, eq_ref1_Compare]
      exact tot_some fun h4 => ⟨h2, h3, of_decide_eq_true h4⟩
    refine tot_sel (fun h2 => ?_) fun _ => tot_sel (fun h3 => ?_) fun h3 => ?_
    · obtain ⟨h3, h4, h5⟩ := hb h2
      rw [lget_nat, List.getElem?_eq_getElem h3, obnd_some, bnd_eq, eq_ref1_Empty]
      have he : emp ⟨lo, cuts.1[i]⟩ = false := emp_of hlo h4 h5
      refine tot_sel (fun h6 => ?_) fun _ => ?_
      · exact absurd (he.symm.trans h6) (by simp)
      · exact net_step (τ := ⟨l, a⟩) h ht hs (x := ⟨lo, cuts.1[i]⟩) htl he (by omega) (K := fun o τ => Mwld_Tape_Net_l1 (t, τ0) Mwld_All cuts fuel τ.l τ.at_ o cuts.1[i].key cuts.1[i].top (i64w ((i : Int) + 1))) fun g v τ' k1 k2 k3 => next τ' _ cuts.1[i] _ k1 (by simp; omega) k2 k3 h4 (fun h => by omega)
    · have h3 := of_decide_eq_true h3
      exact next ⟨l, a⟩ out lo vs h (by omega) hs htl hlo (fun h => by omega)
    · have h3 := of_decide_eq_false h3
      rw [bnd_eq, eq_ref1_Empty]
      have eh : Mwld_All.hi = topB := rfl
      refine tot_sel (fun h6 => ?_) fun h6 => ?_
      · exact next ⟨l, a⟩ out lo vs h (by omega) hs htl hlo (fun _ => emp_top hlo (by rw [← eh]; exact h6))
      · exact net_step (τ := ⟨l, a⟩) h ht hs (x := ⟨lo, Mwld_All.hi⟩) htl h6 (by omega) (K := fun o τ => Mwld_Tape_Net_l1 (t, τ0) Mwld_All cuts fuel τ.l τ.at_ o Mwld_All.hi.key Mwld_All.hi.top (i64w ((i : Int) + 1))) fun g v τ' k1 k2 k3 => next τ' _ Mwld_All.hi _ k1 (by simp; omega) k2 k3 vb_top (fun _ => eh)
theorem views_l1 : ∀ (gs : List TGroup) (vs out : List TView), Sh gs vs → out.length + gs.length ≤ 1000 → Mwld_Views_l1 gs out = some (out ++ vs)
  | [], vs, out, h, _ => by
    have := h.len
    have e : vs = [] := List.eq_nil_of_length_eq_zero (by simpa using this.symm)
    rw [e, Mwld_Views_l1.eq_1]; simp
  | g :: gs, vs, out, h, hl => by
    cases vs with
    | nil => have := h.len; simp at this
    | cons v vs =>
      unfold Sh at h
      simp only [List.map_cons, List.cons.injEq] at h
      simp only [List.length_cons] at hl
      rw [Mwld_Views_l1.eq_2, h.1, obnd_some, decide_eq_true rfl, sel_true, app_le (by simp; omega), obnd_some, views_l1 gs vs _ h.2 (by simp; omega)]
      simp
theorem tot_net {τ : TTape} (h : okT τ) {n : Int} (h0 : 1 ≤ n) (hn : n ≤ 40) {γ : Type} {K : List TView → TTape → Option γ} {Q : γ → Prop} (hK : ∀ (t : List Kv) (vs : List TView) (τ' : TTape), okT τ' → tvalid t = true → t.length ≤ 8 → (vs.length : Int) ≤ n → Tl t zb vs topB → Tot (K vs τ') Q) :
    Tot (obnd (Mwld_Tape_Net τ n) fun y => obnd (Mwld_Views y.1) fun z => K z y.2) Q := by
  refine tot_obnd (R := fun y => okT y.2 ∧ ∃ t vs, tvalid t = true ∧ t.length ≤ 8 ∧ y.1.length ≤ n ∧ Sh y.1 vs ∧ Tl t zb vs topB) ?_ ?_
  · unfold Mwld_Tape_Net
    refine tot_obnd (tot_rows h (by omega) (by omega)) fun y3 h3 => ?_
    obtain ⟨g1, g2, g3⟩ := h3
    rw [i64w_id (by omega) (by omega), bnd_eq]
    refine tot_obnd (tot_cuts g1 (by omega) (by omega)) fun y5 h5 => ?_
    obtain ⟨k1, k2⟩ := h5
    have := net_l1 y3.2 y3.1 g2 y5 (by omega) FU y5.2.l y5.2.at_ [] zb 0 [] k1 (by unfold FU; omega) (by simp) (by omega) rfl rfl (by kernel_rfl) (fun h => by omega)
    refine tot_obnd this ?_
    rintro ⟨o, l, a⟩ ⟨m1, m2, vs, m3, m4⟩
    simp only at m1 m2 m3 m4
    exact tot_some ⟨m1, y3.1, vs, g2, by omega, by simp only; omega, m3, m4⟩
  · rintro ⟨gs, τ'⟩ ⟨h1, t, vs, h2, h3, h4, h5, h6⟩
    simp only at h1 h4 h5 ⊢
    unfold Mwld_Views
    have := h5.len
    rw [views_l1 gs vs [] h5 (by simp; omega), obnd_some, List.nil_append, obnd_some]
    exact hK t vs τ' h1 h2 h3 (by omega) h6
end Go.Proofs.YtlbnhhfaedhgfaaGreatDoor
namespace Go.Proofs.YtlbnhhfaedhgfaaGreatDoor
set_option linter.unusedSimpArgs false
set_option linter.unusedVariables false
open Go.RowKit
set_option maxRecDepth 100000
set_option maxHeartbeats 4000000
attribute [local irreducible] WK WC WL Wk Rel OpD OpV WD WO sel bnd obnd app lget lsl sget ssl scat letg iquo irem Op.bytesLess
attribute [local irreducible] qchk qranges union
end Go.Proofs.YtlbnhhfaedhgfaaGreatDoor
namespace Go.Proofs.YtlbnhhfaedhgfaaGreatDoor
set_option linter.unusedSimpArgs false
set_option linter.unusedVariables false
open Go.RowKit
theorem mrg_len2 : ∀ (l : List Rng) (c : Rng), (mrg c l).length ≤ l.length + 1
  | [], c => by simp [mrg]
  | r :: l, c => by
    unfold mrg
    split
    · have := mrg_len2 l ⟨c.lo, greater c.hi r.hi⟩
      simp; omega
    · have := mrg_len2 l r
      simp; omega
theorem union_len2 (l : List Rng) : (union l).length ≤ l.length := by
  unfold union
  have h1 : ((l.filter ne).mergeSort leLo).length ≤ l.length := by rw [List.length_mergeSort]; exact List.length_filter_le _ _
  cases h : (l.filter ne).mergeSort leLo with
  | nil => simp [mrgAll]
  | cons r l' =>
    rw [h] at h1
    have := mrg_len2 l' r
    simp only [mrgAll, List.length_cons] at h1 ⊢
    omega
theorem qrg_len2 {q : TQuery} (h : qok q) : (qrg q).length ≤ 4 := by
  obtain ⟨h1, h2, -⟩ := h
  unfold qrg qranges
  rw [if_pos h1]
  refine Nat.le_trans (union_len2 _) ?_
  unfold qrs
  split
  · exact h2
  · split
    · simp
    · split <;> simp
theorem W0_ok : okW W0 := ⟨by simp [W0], by simp [W0], by simp [W0], by simp [W0]⟩
theorem start_ok {q : TQuery} (hq : q.Ranges.length ≤ 1000) (l : List Rng) (hl : l.length ≤ 1000) : okW (startW q l).1 ∧ (startW q l).1.Visits.length = 0 := by
  unfold startW
  split
  · exact ⟨W0_ok, rfl⟩
  · split
    · exact ⟨W0_ok, rfl⟩
    · split
      · exact ⟨⟨hq, hl, by simp, by simp⟩, rfl⟩
      · exact ⟨W0_ok, rfl⟩
theorem cutT_len (r : Rng) : (cutT r).length ≤ 1 := by
  unfold cutT
  split <;> simp
theorem visit_len (v : TView) (p : Rng) (hv : v.Rows.length ≤ 10000) : (visitV v p).View.Rows.length ≤ 10000 := Nat.le_trans (List.length_filter_le _ _) hv
theorem step_ok {w : TWalk} (h : okW w) (hn : w.Visits.length ≤ 999) (v : TView) (hv : v.Rows.length ≤ 10000) (ht : w.Todo.isEmpty = false) (want part : Rng) : okW (stepW w v want part) ∧ (stepW w v want part).Visits.length = w.Visits.length + 1 ∧ (stepW w v want part).Todo.length ≤ w.Todo.length := by
  have h1 := h.todo
  have h2 : 0 < w.Todo.length := by
    cases hh : w.Todo with
    | nil => rw [hh] at ht; cases ht
    | cons a l => simp
  unfold stepW
  split
  · have h3 := cutT_len ⟨want.lo, part.lo⟩
    refine ⟨⟨h.q, by simp; omega, by simp; omega, fun x hx => ?_⟩, by simp, by simp; omega⟩
    simp only [List.mem_cons] at hx
    rcases hx with rfl | hx
    · exact visit_len v part hv
    · exact h.rows x hx
  · have h3 := cutT_len ⟨part.hi, want.hi⟩
    refine ⟨⟨h.q, by simp; omega, by simp; omega, fun x hx => ?_⟩, by simp, by simp; omega⟩
    simp only [List.mem_append, List.mem_singleton] at hx
    rcases hx with hx | rfl
    · exact h.rows x hx
    · exact visit_len v part hv
def goodV (vs : List TView) : Prop := vs ≠ [] ∧ vs.length ≤ 100 ∧ ∀ v ∈ vs, v.Rows.length ≤ 8
theorem Tl.good {t : List Kv} (ht : t.length ≤ 8) {vs : List TView} (hl : vs.length ≤ 100) (h : Tl t zb vs topB) : goodV vs := by
  refine ⟨fun e => ?_, hl, fun v hv => ?_⟩
  · subst e
    have : zb.top = topB.top := congrArg Bnd.top h
    cases this
  · rw [(h.mem v hv).2.1]
    exact Nat.le_trans (List.length_filter_le _ _) ht
end Go.Proofs.YtlbnhhfaedhgfaaGreatDoor
namespace Go.Proofs.YtlbnhhfaedhgfaaGreatDoor
set_option linter.unusedSimpArgs false
set_option linter.unusedVariables false
open Go.RowKit
structure Pcs (X : List Rng) (x : Rng) : Prop where
  ne : ∀ r ∈ X, emp r = false
  lo : ∀ r ∈ X, r.lo.lt x.lo = false
  hi : ∀ r ∈ X, x.hi.lt r.hi = false
  srt : X.Pairwise fun a b => b.lo.lt a.hi = false
  pts : ∀ b, vb b = true → (Pt X b ↔ Pt [x] b)
theorem pcs_self {x : Rng} (h : emp x = false) : Pcs [x] x := ⟨by simp [h], by simp [lt_irrefl], by simp [lt_irrefl], by simp, fun _ _ => Iff.rfl⟩
theorem pcs_two {x : Rng} {h : Bnd} (hx : emp x = false) (hv : vb h = true) (h1 : x.lo.lt h = true) (h2 : h.lt x.hi = true) : Pcs [⟨x.lo, h⟩, ⟨h, x.hi⟩] x := by
  obtain ⟨a1, a2, a3⟩ := (emp_iff x).1 hx
  refine ⟨fun r hr => ?_, fun r hr => ?_, fun r hr => ?_, by simp [lt_irrefl], fun b hb => ?_⟩
  · simp only [List.mem_cons, List.not_mem_nil, or_false] at hr
    rcases hr with rfl | rfl
    · rw [emp_mk a1 hv, h1]; rfl
    · rw [emp_mk hv a2, h2]; rfl
  · simp only [List.mem_cons, List.not_mem_nil, or_false] at hr
    rcases hr with rfl | rfl
    · exact lt_irrefl _
    · exact lt_asymm h1
  · simp only [List.mem_cons, List.not_mem_nil, or_false] at hr
    rcases hr with rfl | rfl
    · exact lt_asymm h2
    · exact lt_irrefl _
  · simp only [pt_cons, pt_nil, or_false]
    constructor
    · rintro (⟨g1, g2⟩ | ⟨g1, g2⟩)
      · exact ⟨g1, lt_trans g2 h2⟩
      · refine ⟨?_, g2⟩
        cases hh : b.lt x.lo with
        | false => rfl
        | true => rw [lt_trans hh h1] at g1; cases g1
    · rintro ⟨g1, g2⟩
      cases hh : b.lt h with
      | true => exact .inl ⟨g1, rfl⟩
      | false => exact .inr ⟨rfl, g2⟩
theorem pcs_up {x : Rng} {h : Bnd} (hx : emp x = false) (hv : vb h = true) (h1 : x.lo.lt h = true) (h2 : x.hi.lt h = false) : Pcs ([⟨x.lo, h⟩] ++ cutT ⟨h, x.hi⟩) x := by
  obtain ⟨a1, a2, a3⟩ := (emp_iff x).1 hx
  unfold cutT
  rw [emp_mk hv a2]
  cases hh : h.lt x.hi with
  | true => exact pcs_two hx hv h1 hh
  | false =>
    obtain rfl := lt_total hv a2 hh h2
    exact pcs_self hx
theorem pcs_dn {x : Rng} {h : Bnd} (hx : emp x = false) (hv : vb h = true) (h1 : h.lt x.lo = false) (h2 : h.lt x.hi = true) : Pcs (cutT ⟨x.lo, h⟩ ++ [⟨h, x.hi⟩]) x := by
  obtain ⟨a1, a2, a3⟩ := (emp_iff x).1 hx
  unfold cutT
  rw [emp_mk a1 hv]
  cases hh : x.lo.lt h with
  | true => exact pcs_two hx hv hh h2
  | false =>
    obtain rfl := lt_total a1 hv hh h1
    exact pcs_self hx
structure Gd (l m : List Rng) : Prop where
  ne : ∀ r ∈ l, emp r = false
  srt : l.Pairwise fun a b => b.lo.lt a.hi = false
  pts : ∀ b, vb b = true → (Pt l b ↔ Pt m b)
theorem pt_app {l m : List Rng} {b : Bnd} : Pt (l ++ m) b ↔ Pt l b ∨ Pt m b := by
  simp only [Pt, List.mem_append, or_and_right, exists_or]
theorem Gd.repl {A C X m : List Rng} {x : Rng} (g : Gd (A ++ x :: C) m) (p : Pcs X x) : Gd (A ++ X ++ C) m := by
  obtain ⟨n, s, t⟩ := g
  have hx : emp x = false := n x (by simp)
  obtain ⟨a1, a2, a3⟩ := (emp_iff x).1 hx
  rw [List.pairwise_append, List.pairwise_cons] at s
  obtain ⟨s1, ⟨s2, s3⟩, s4⟩ := s
  have key1 : ∀ a ∈ A, ∀ r ∈ X, r.lo.lt a.hi = false := fun a ha r hr => by
    have v1 := ((emp_iff a).1 (n a (by simp [ha]))).2.1
    have h1 := s4 a ha x (by simp)
    have h2 := p.lo r hr
    cases hh : r.lo.lt a.hi with
    | false => rfl
    | true => rw [lt_le v1 a1 hh h1] at h2; cases h2
  have key2 : ∀ r ∈ X, ∀ c ∈ C, c.lo.lt r.hi = false := fun r hr c hc => by
    have v1 := ((emp_iff r).1 (p.ne r hr)).2.1
    have h1 := s2 c hc
    have h2 := p.hi r hr
    cases hh : c.lo.lt r.hi with
    | false => rfl
    | true => rw [lt_le v1 a2 hh h2] at h1; cases h1
  refine ⟨fun r hr => ?_, ?_, fun b hb => ?_⟩
  · simp only [List.mem_append] at hr
    rcases hr with (hr | hr) | hr
    · exact n r (by simp [hr])
    · exact p.ne r hr
    · exact n r (by simp [hr])
  · rw [List.pairwise_append, List.pairwise_append]
    refine ⟨⟨s1, p.srt, key1⟩, s3, fun a ha c hc => ?_⟩
    rcases List.mem_append.1 ha with ha | ha
    · exact s4 a ha c (by simp [hc])
    · exact key2 a ha c hc
  · rw [← t b hb, pt_app, pt_app, pt_app, p.pts b hb, show x :: C = [x] ++ C from rfl, pt_app]
    exact or_assoc
theorem isect_up {i x : Rng} (hi : emp i = false) (hx : emp x = false) (h1 : x.lo.lt i.lo = false) (h2 : x.lo.lt i.hi = true) : ∃ h, isect i x = ⟨x.lo, h⟩ ∧ vb h = true ∧ x.lo.lt h = true ∧ x.hi.lt h = false := by
  obtain ⟨a1, a2, a3⟩ := (emp_iff x).1 hx
  obtain ⟨b1, b2, b3⟩ := (emp_iff i).1 hi
  have e : greater i.lo x.lo = x.lo := by
    rw [greater_if]
    cases hh : i.lo.lt x.lo with
    | true => rfl
    | false => exact lt_total b1 a1 hh h1
  rw [isect_ne hi hx, e, lesser_if]
  cases hh : x.hi.lt i.hi with
  | true =>
    simp only [if_true]
    rw [if_pos a3]
    exact ⟨_, rfl, a2, a3, lt_irrefl _⟩
  | false =>
    simp only [Bool.false_eq_true, if_false]
    rw [if_pos h2]
    exact ⟨_, rfl, b2, h2, hh⟩
theorem isect_dn {i x : Rng} (hi : emp i = false) (hx : emp x = false) (h1 : i.hi.lt x.hi = false) (h2 : i.lo.lt x.hi = true) : ∃ h, isect i x = ⟨h, x.hi⟩ ∧ vb h = true ∧ h.lt x.lo = false ∧ h.lt x.hi = true := by
  obtain ⟨a1, a2, a3⟩ := (emp_iff x).1 hx
  obtain ⟨b1, b2, b3⟩ := (emp_iff i).1 hi
  have e : lesser i.hi x.hi = x.hi := by
    rw [lesser_if]
    cases hh : x.hi.lt i.hi with
    | true => rfl
    | false => exact lt_total b2 a2 h1 hh
  rw [isect_ne hi hx, e, greater_if]
  cases hh : i.lo.lt x.lo with
  | true =>
    simp only [if_true]
    rw [if_pos a3]
    exact ⟨_, rfl, a1, lt_irrefl _, a3⟩
  | false =>
    simp only [Bool.false_eq_true, if_false]
    rw [if_pos h2]
    exact ⟨_, rfl, b1, hh, h2⟩
def partsW (w : TWalk) : List Rng := if downQ w.Query = true then w.Todo ++ w.Visits.map (·.Part) else w.Visits.map (·.Part) ++ w.Todo
theorem miss_up {x i : Rng} (h : missV false x i = false) : x.lo.lt i.lo = false ∧ x.lo.lt i.hi = true := by
  unfold missV at h
  simp only [Bool.false_eq_true, if_false, Bool.or_eq_false_iff, decide_eq_false_iff_not] at h
  obtain ⟨h1, h2⟩ := h
  refine ⟨?_, (cmp_pos _ _).1 (by omega)⟩
  cases hh : x.lo.lt i.lo with
  | false => rfl
  | true => exact absurd ((cmp_pos _ _).2 hh) h1
theorem miss_dn {x i : Rng} (h : missV true x i = false) : i.hi.lt x.hi = false ∧ i.lo.lt x.hi = true := by
  unfold missV at h
  simp only [if_true, Bool.or_eq_false_iff, decide_eq_false_iff_not] at h
  obtain ⟨h1, h2⟩ := h
  refine ⟨?_, (cmp_neg _ _).1 (by omega)⟩
  cases hh : i.hi.lt x.hi with
  | false => rfl
  | true => exact absurd ((cmp_neg _ _).2 hh) h1
theorem valid_emp {v : TView} (h : validV v = true) : emp v.Interval = false := by
  unfold validV at h
  simp only [Bool.and_eq_true, Bool.not_eq_true'] at h
  exact h.1.1.1.2
theorem step_good {w : TWalk} {m : List Rng} (g : Gd (partsW w) m) {v : TView} (hv : validV v = true) (hd : doneW w = false) (hm : missV (downQ w.Query) (pickW (downQ w.Query) w.Todo) v.Interval = false) :
    Gd (partsW (stepW w v (pickW (downQ w.Query) w.Todo) (isect v.Interval (pickW (downQ w.Query) w.Todo)))) m := by
  have ht := notDone hd
  have hi := valid_emp hv
  cases hq : downQ w.Query with
  | true =>
    obtain ⟨i, x, e2⟩ := snoc_of ht
    have ew : pickW true w.Todo = x := by rw [pickW, if_pos rfl, e2, List.getLast?_concat]; rfl
    rw [hq] at hm
    rw [ew] at hm ⊢
    unfold partsW at g
    rw [if_pos hq, e2, List.append_assoc] at g
    have hx : emp x = false := g.ne x (by simp)
    obtain ⟨k1, k2⟩ := miss_dn hm
    obtain ⟨h, e, j1, j2, j3⟩ := isect_dn hi hx k1 k2
    rw [e]
    have g' : Gd (i ++ x :: w.Visits.map (·.Part)) m := g
    have := g'.repl (pcs_dn hx j1 j2 j3)
    unfold stepW
    rw [if_pos hq]
    unfold partsW
    simp only
    rw [if_pos hq, e2, List.dropLast_concat]
    simpa [visitV] using this
  | false =>
    obtain ⟨x, t, e2⟩ := cons_of ht
    have ew : pickW false w.Todo = x := by rw [pickW, if_neg (by simp), e2]; rfl
    rw [hq] at hm
    rw [ew] at hm ⊢
    unfold partsW at g
    rw [if_neg (by simp [hq]), e2] at g
    have hx : emp x = false := g.ne x (by simp)
    obtain ⟨k1, k2⟩ := miss_up hm
    obtain ⟨h, e, j1, j2, j3⟩ := isect_up hi hx k1 k2
    rw [e]
    have := g.repl (pcs_up hx j1 j2 j3)
    unfold stepW
    rw [if_neg (by simp [hq])]
    unfold partsW
    simp only
    rw [if_neg (by simp [hq]), e2, List.tail_cons]
    simpa [visitV] using this
theorem Nrm.gd {l : List Rng} (h : Nrm l) : Gd l l := ⟨h.ne, h.gap.imp fun g => lt_asymm g, fun _ _ => Iff.rfl⟩
theorem Gd.union {l m : List Rng} (g : Gd l m) (hm : Nrm m) : union l = m := union_eq hm fun b hb => by rw [filter_ne g.ne]; exact g.pts b hb
theorem qrg_nrm (q : TQuery) : Nrm (qrg q) := by
  unfold qrg qranges
  split
  · exact (union_nrm _).1
  · exact ⟨by simp, by simp⟩
theorem stErr_0 (all : List Rng) : ∀ (l : List Rng) (p : Option Rng), (∀ r ∈ l, emp r = false ∧ r ∈ all) → l.Pairwise (fun a b => b.lo.lt a.hi = false) → (∀ x, p = some x → ∀ r ∈ l, r.lo.lt x.hi = false) → stErr all p l = 0
  | [], _, _, _, _ => by rw [stErr.eq_1]
  | r :: l, p, h1, h2, h3 => by
    have hr := h1 r List.mem_cons_self
    obtain ⟨s1, s2⟩ := List.pairwise_cons.1 h2
    have hb : befr p r = false := by
      cases p with
      | none => rfl
      | some x =>
        have := h3 x rfl r List.mem_cons_self
        unfold befr
        simp only
        refine decide_eq_false fun hh => ?_
        rw [(cmp_neg _ _).1 hh] at this; cases this
    have ha : (all.any fun x => inside x r) = true := by
      refine List.any_eq_true.2 ⟨r, hr.2, ?_⟩
      unfold inside
      rw [hr.1, cmp_self, cmp_self]; rfl
    rw [stErr.eq_2, hr.1, hb, ha, if_neg (by simp), if_neg (by simp), if_pos rfl]
    exact stErr_0 all l (some r) (fun x hx => h1 x (List.mem_cons_of_mem _ hx)) s2 fun x hx y hy => by
      obtain rfl := Option.some.inj hx
      exact s1 y hy
theorem start_all {q : TQuery} (h : qok q) : startW q (qrg q) = (⟨q, qrg q, []⟩, 0) := by
  have hl := qrg_len2 h
  have hn := (qrg_nrm q).gd
  have h0 : qch q = 0 := h.1
  unfold startW
  rw [if_neg (by simp [h0]), if_neg (by omega), if_pos (stErr_0 _ _ _ (fun r hr => ⟨hn.ne r hr, hr⟩) hn.srt (by simp))]
theorem start_good (q : TQuery) : Gd (partsW ⟨q, qrg q, []⟩) (qrg q) := by
  have := (qrg_nrm q).gd
  unfold partsW
  split <;> simpa using this
theorem tot_net2 {τ : TTape} (h : okT τ) {n : Int} (h0 : 1 ≤ n) (hn : n ≤ 40) {γ : Type} {K : List TGroup × TTape → List TView → Option γ} {Q : γ → Prop} (hK : ∀ (y : List TGroup × TTape) (t : List Kv) (vs : List TView), okT y.2 → tvalid t = true → t.length ≤ 8 → (vs.length : Int) ≤ n → Tl t zb vs topB → Tot (K y vs) Q) :
    Tot (obnd (Mwld_Tape_Net τ n) fun y => obnd (Mwld_Views y.1) fun z => K y z) Q := by
  have := tot_net h h0 hn (K := fun z τ' => some (z, τ')) (Q := fun z => okT z.2 ∧ ∃ t, tvalid t = true ∧ t.length ≤ 8 ∧ (z.1.length : Int) ≤ n ∧ Tl t zb z.1 topB) fun t vs τ' h1 h2 h3 h4 h5 => tot_some ⟨h1, t, h2, h3, h4, h5⟩
  obtain ⟨z, e, h1, t, h2, h3, h4, h5⟩ := this
  cases e1 : Mwld_Tape_Net τ n with
  | none => rw [e1] at e; cases e
  | some y =>
    rw [e1, obnd_some] at e
    cases e2 : Mwld_Views y.1 with
    | none => rw [e2] at e; cases e
    | some vs =>
      rw [e2, obnd_some] at e
      obtain rfl := Option.some.inj e
      rw [obnd_some, e2, obnd_some]
      exact hK y t vs h1 h2 h3 h4 h5
end Go.Proofs.YtlbnhhfaedhgfaaGreatDoor
namespace Go.Proofs.YtlbnhhfaedhgfaaGreatDoor
set_option linter.unusedSimpArgs false
set_option linter.unusedVariables false
open Go.RowKit
theorem stepW_q (w : TWalk) (v : TView) (a b : Rng) : (stepW w v a b).Query = w.Query := by
  unfold stepW
  split <;> rfl
end Go.Proofs.YtlbnhhfaedhgfaaGreatDoor
namespace Go.Proofs.YtlbnhhfaedhgfaaGreatDoor
set_option linter.unusedSimpArgs false
set_option linter.unusedVariables false
open Go.RowKit
def dval (d : ByteArray) : Nat → Nat
  | 0 => 0
  | k + 1 => dval d k * 10 + ((d.get! k).toNat - 48)
def isD (d : ByteArray) (k : Nat) : Prop := 48 ≤ (d.get! k).toNat ∧ (d.get! k).toNat ≤ 57
def allD (d : ByteArray) : Prop := ∀ k, k < d.size → isD d k
def badN (mn : Bool) (d : ByteArray) : Prop := d.size = 0 ∨ 13 < d.size ∨ ((d.get! 0).toNat = 48 ∧ (1 < d.size ∨ mn = true)) ∨ ¬ allD d ∨ 1000000000000 < dval d d.size
open Classical in
noncomputable def numD (mn : Bool) (d : ByteArray) : Int × Bool :=
  if badN mn d then (0, false) else (if mn then - (dval d d.size : Int) else dval d d.size, true)
noncomputable def num (s : ByteArray) : Int × Bool := if 1 < s.size ∧ (s.get! 0).toNat = 45 then numD true (s.extract 1 s.size) else numD false s
theorem numD_f {mn : Bool} {d : ByteArray} (h : badN mn d) : numD mn d = (0, false) := if_pos h
theorem numD_t {mn : Bool} {d : ByteArray} (h : ¬ badN mn d) : numD mn d = (if mn then - (dval d d.size : Int) else dval d d.size, true) := if_neg h
theorem dval_lt {d : ByteArray} : ∀ {k : Nat}, (∀ j, j < k → isD d j) → dval d k < 10 ^ k
  | 0, _ => by simp [dval]
  | k + 1, h => by
    have h1 := dval_lt (k := k) fun j hj => h j (by omega)
    have h2 := h k (by omega)
    unfold isD at h2
    rw [dval, Nat.pow_succ]; omega
theorem dval_mono {d : ByteArray} {k m : Nat} (h : k ≤ m) : dval d k ≤ dval d m := by
  induction m with
  | zero => rw [Nat.le_zero.1 h]; exact Nat.le_refl _
  | succ m ih =>
    rcases Nat.lt_or_ge k (m + 1) with h1 | h1
    · have := ih (by omega); rw [dval]; omega
    · rw [show k = m + 1 by omega]; exact Nat.le_refl _
theorem dval_big {d : ByteArray} (h0 : 49 ≤ (d.get! 0).toNat) : ∀ {k : Nat}, 10 ^ k ≤ dval d (k + 1)
  | 0 => by simp [dval]; omega
  | k + 1 => by
    have := dval_big h0 (k := k)
    rw [dval, Nat.pow_succ]; omega
theorem dval_13 {d : ByteArray} {k : Nat} (h : ∀ j, j < k → isD d j) (hk : k ≤ 13) : dval d k < 10000000000000 := by
  have h1 := dval_lt h
  have h2 : 10 ^ k ≤ 10 ^ 13 := Nat.pow_le_pow_right (by decide) hk
  omega
theorem badN_1 {mn : Bool} {d : ByteArray} (h : d.size = 0) : badN mn d := .inl h
theorem badN_2 {mn : Bool} {d : ByteArray} (h : 13 < d.size) : badN mn d := .inr (.inl h)
theorem badN_4 {mn : Bool} {d : ByteArray} (k : Nat) (h : k < d.size) (h1 : ¬ isD d k) : badN mn d := .inr (.inr (.inr (.inl fun h2 => h1 (h2 k h))))
theorem badN_5 {mn : Bool} {d : ByteArray} (h : 1000000000000 < dval d d.size) : badN mn d := .inr (.inr (.inr (.inr h)))
theorem get_lt (d : ByteArray) (m : Nat) : (d.get! m).toNat < 256 := (d.get! m).toNat_lt
attribute [local irreducible] WK WC WL Wk Rel OpD OpV WD WO Op.bytesLess cmp vk vb vld emp contains
attribute [local irreducible] numD num
theorem good_num {mn : Bool} {d : ByteArray} (h1 : d.size ≠ 0) (h2 : d.size ≤ 13) (h3 : (d.get! 0).toNat = 48 → d.size ≤ 1 ∧ mn = false) (h4 : ∀ j, j < d.size → isD d j) (h5 : dval d d.size ≤ 1000000000000) : ¬ badN mn d := by
  rintro (h | h | ⟨h, h'⟩ | h | h)
  · exact h1 h
  · omega
  · obtain ⟨g1, g2⟩ := h3 h
    rcases h' with h' | h'
    · omega
    · rw [g2] at h'; cases h'
  · exact h h4
  · omega
end Go.Proofs.YtlbnhhfaedhgfaaGreatDoor
namespace Go.Proofs.YtlbnhhfaedhgfaaGreatDoor
set_option linter.unusedSimpArgs false
set_option linter.unusedVariables false
open Go.RowKit
theorem sget_lt {s : ByteArray} {m : Nat} (h : m < s.size) : sget s (m : Int) = some ((s.get! m).toNat : Int) := by
  unfold sget; rw [if_pos (by omega)]; simp
theorem dec_ascii {s : ByteArray} {i : Nat} (h : i < s.size) (hb : (s.get! i).toNat < 128) : Utf8.decode s i = ((s.get! i).toNat, 1) := by
  unfold Utf8.decode
  simp only [Nat.add_zero, Utf8.runeError]
  rw [if_pos (by simpa using hb)]
theorem obnd_if {α β : Type} {p : Prop} [Decidable p] (a b : α) (k : α → Option β) : obnd (if p then some a else some b) k = k (if p then a else b) := by split <;> rfl
theorem i32w_id {a : Int} (h1 : -2147483648 ≤ a) (h2 : a ≤ 2147483647) : IntKind.i32.wrap a = a := wi32 h1 h2
theorem u8w_id {a : Int} (h1 : 0 ≤ a) (h2 : a ≤ 255) : IntKind.u8.wrap a = a := wu8 h1 h2
theorem ref21_num_l1 (s : ByteArray) (hs : s.size ≤ 13) : ∀ (fuel m : Nat), s.size - m < fuel → m ≤ s.size → (∀ j, j < m → isD s j) →
    Mref21_Number_l1 s fuel (dval s m : Int) (m : Int) = some (open Classical in if allD s then .nxt (dval s s.size : Int) else .ret (0, false))
  | 0, _, h, _, _ => absurd h (by omega)
  | fuel + 1, m, h, hm, hd => by
    rw [Mref21_Number_l1.eq_2, sel_ite]
    by_cases hi : m < s.size
    · rw [if_pos (by simpa using hi), obnd_some, ocbnd_nxt, sget_lt hi]
      simp only [obnd_some]
      have hb := get_lt s m
      have hv := dval_13 hd (by omega)
      by_cases hdm : isD s m
      · have hdm' := hdm
        unfold isD at hdm'
        have e1 : decide (((s.get! m).toNat : Int) < 48) = false := decide_eq_false (by omega)
        have e2 : decide (57 < ((s.get! m).toNat : Int)) = false := decide_eq_false (by omega)
        rw [e1, sel_false, e2, obnd_some, sel_false, u8w_id (by omega) (by omega), i64w_id (a := 10 * (dval s m : Int)) (by omega) (by omega), i64w_id (a := ((s.get! m).toNat : Int) - 48) (by omega) (by omega), i64w_id (by omega) (by omega), i64w_id (by omega) (by omega)]
        have := ref21_num_l1 s hs fuel (m + 1) (by omega) (by omega) (fun j hj => by
          rcases Nat.lt_or_ge j m with h1 | h1
          · exact hd j h1
          · rw [show j = m by omega]; exact hdm)
        have e3 : ((dval s (m + 1) : Nat) : Int) = 10 * (dval s m : Int) + (((s.get! m).toNat : Int) - 48) := by rw [dval]; omega
        rw [e3] at this
        rw [← this]; congr 1
      · have hna : ¬ allD s := fun h => hdm (h m hi)
        rw [if_neg hna]
        unfold isD at hdm
        by_cases h48 : ((s.get! m).toNat : Int) < 48
        · rw [decide_eq_true h48, sel_true, obnd_some, sel_true]
        · rw [decide_eq_false h48, sel_false, obnd_some, decide_eq_true (by omega), sel_true]
    · rw [if_neg (by simpa using hi), obnd_some, ocbnd_ret]
      obtain rfl : m = s.size := by omega
      rw [if_pos (show allD s from fun k hk => hd k hk)]
theorem fold_num_l1 (s : ByteArray) (hs : s.size ≤ 4000000000) : ∀ (fuel m : Nat), s.size - m < fuel → m ≤ s.size → (∀ j, j < m → isD s j) → dval s m ≤ 1000000000000 →
    Mfold_Number_l1 s fuel (dval s m : Int) m = some (open Classical in if allD s ∧ dval s s.size ≤ 1000000000000 then .nxt (dval s s.size : Int) else .ret (0, false))
  | 0, _, h, _, _, _ => absurd h (by omega)
  | fuel + 1, m, h, hm, hd, hv => by
    rw [Mfold_Number_l1.eq_2, sel_ite]
    by_cases hi : m < s.size
    · rw [if_pos (by simpa using hi), bnd_eq]
      have hb := get_lt s m
      by_cases hdm : isD s m
      · have hdm' := hdm
        unfold isD at hdm'
        rw [dec_ascii hi (by omega)]
        have e1 : decide (((s.get! m).toNat : Int) < 48) = false := decide_eq_false (by omega)
        have e2 : decide (57 < ((s.get! m).toNat : Int)) = false := decide_eq_false (by omega)
        simp only
        rw [e1, sel_false, e2, obnd_some, sel_false, i32w_id (by omega) (by omega), i64w_id (a := (dval s m : Int) * 10) (by omega) (by omega), i64w_id (a := ((s.get! m).toNat : Int) - 48) (by omega) (by omega), i64w_id (by omega) (by omega)]
        have e3 : ((dval s (m + 1) : Nat) : Int) = (dval s m : Int) * 10 + (((s.get! m).toNat : Int) - 48) := by rw [dval]; omega
        rw [← e3, sel_ite]
        by_cases hbig : dval s (m + 1) ≤ 1000000000000
        · rw [if_neg (by simp; omega)]
          exact fold_num_l1 s hs fuel (m + 1) (by omega) (by omega) (fun j hj => by
            rcases Nat.lt_or_ge j m with h1 | h1
            · exact hd j h1
            · rw [show j = m by omega]; exact hdm) hbig
        · rw [if_pos (by simp; omega), if_neg]
          rintro ⟨-, h2⟩
          have := dval_mono (d := s) (show m + 1 ≤ s.size by omega)
          omega
      · have hna : ¬ (allD s ∧ dval s s.size ≤ 1000000000000) := fun h => hdm (h.1 m hi)
        rw [if_neg hna]
        have hrej : (Utf8.decode s m).1 < 48 ∨ 57 < (Utf8.decode s m).1 := by
          apply Classical.byContradiction
          intro hc
          have := dec_lt (s := s) (i := m) (c := (Utf8.decode s m).1) (wd := (Utf8.decode s m).2) rfl (by omega)
          apply hdm
          unfold isD
          omega
        by_cases h48 : ((Utf8.decode s m).1 : Int) < 48
        · rw [decide_eq_true h48, sel_true, obnd_some, sel_true]
        · rw [decide_eq_false h48, sel_false, obnd_some, decide_eq_true (by omega), sel_true]
    · rw [if_neg (by simpa using hi)]
      obtain rfl : m = s.size := by omega
      rw [if_pos (show allD s ∧ dval s s.size ≤ 1000000000000 from ⟨fun k hk => hd k hk, hv⟩)]
theorem ba_size0 {s : ByteArray} : s = ⟨#[]⟩ ↔ s.size = 0 := by
  constructor
  · rintro rfl; rfl
  · intro h
    obtain ⟨d⟩ := s
    have : d = #[] := Array.eq_empty_of_size_eq_zero h
    rw [this]
theorem num_tail (s : ByteArray) (hs : s.size ≤ 4000000000) (neg : Bool) :
    (obnd (sel (decide (s = ⟨#[]⟩)) (some true) (obnd (sget s 0) fun b7 => sel (decide (b7 = 48)) (sel (decide (1 < (s.size : Int))) (some true) (some neg)) (some false)) : Option Bool) fun x8 =>
      sel x8 (some (0, false)) (obnd (Mfold_Number_l1 s FU 0 0 : Option (Ctl (Int × Bool) Int)) fun mu => ocbnd mu fun n13 => sel neg (some (i64w (-n13), true)) (some (n13, true)))) =
    some (numD neg s) ∧
    (obnd (sel (decide ((s.size : Int) = 0)) (some true) (sel (decide (13 < (s.size : Int))) (some true) (obnd (sget s 0) fun b7 => sel (decide (b7 = 48)) (sel (decide (1 < (s.size : Int))) (some true) (some neg)) (some false))) : Option Bool) fun x8 =>
      sel x8 (some (0, false)) (obnd (Mref21_Number_l1 s FU 0 0 : Option (Ctl (Int × Bool) Int)) fun mu => ocbnd mu fun n15 => sel (decide (1000000000000 < n15)) (some (0, false)) (sel neg (some (i64w (-n15), true)) (some (n15, true))))) =
    some (numD neg s) := by
  by_cases h0 : s.size = 0
  · rw [decide_eq_true (ba_size0.2 h0), sel_true, obnd_some, sel_true, decide_eq_true (by omega), sel_true, obnd_some, sel_true, numD_f (badN_1 h0)]
    exact ⟨rfl, rfl⟩
  have hp := fold_num_l1 s hs FU 0 (by unfold FU; omega) (Nat.zero_le _) (fun j h => absurd h (by omega)) (by simp [dval])
  have e0 : ((dval s 0 : Nat) : Int) = 0 := rfl
  rw [e0] at hp
  have es := sget_lt (s := s) (m := 0) (by omega)
  rw [show ((0 : Nat) : Int) = 0 from rfl] at es
  rw [decide_eq_false (fun h => h0 (ba_size0.1 h)), decide_eq_false (show ¬ (s.size : Int) = 0 by omega), sel_false, sel_false, es, obnd_some]
  have hb := get_lt s 0
  -- a leading nought
  by_cases hz : (s.get! 0).toNat = 48 ∧ (1 < s.size ∨ neg = true)
  · have hbad : badN neg s := .inr (.inr (.inl hz))
    have e1 : decide (((s.get! 0).toNat : Int) = 48) = true := decide_eq_true (by omega)
    have e2 : sel (decide (1 < (s.size : Int))) (some true) (some neg) = some true := by
      by_cases h1 : 1 < s.size
      · rw [decide_eq_true (by omega), sel_true]
      · rw [decide_eq_false (by omega), sel_false, hz.2.resolve_left h1]
    rw [e1, sel_true, e2, obnd_some, sel_true, numD_f hbad]
    refine ⟨rfl, ?_⟩
    by_cases h13 : 13 < s.size
    · rw [decide_eq_true (by omega), sel_true, obnd_some, sel_true]
    · rw [decide_eq_false (by omega), sel_false, obnd_some, sel_true]
  · have e3 : sel (decide (((s.get! 0).toNat : Int) = 48)) (sel (decide (1 < (s.size : Int))) (some true) (some neg)) (some false) = some false := by
      by_cases h48 : (s.get! 0).toNat = 48
      · have h1 : ¬ 1 < s.size := fun h => hz ⟨h48, .inl h⟩
        have h2 : neg = false := by cases neg with
          | false => rfl
          | true => exact absurd ⟨h48, .inr rfl⟩ hz
        rw [decide_eq_true (by omega), sel_true, decide_eq_false (by omega), sel_false, h2]
      · rw [decide_eq_false (by omega), sel_false]
    rw [e3, obnd_some, sel_false, hp, obnd_some]
    by_cases h13 : 13 < s.size
    · rw [decide_eq_true (by omega), sel_true, obnd_some, sel_true, numD_f (badN_2 h13)]
      refine ⟨?_, rfl⟩
      rw [if_neg, ocbnd_ret]
      rintro ⟨ha, hv⟩
      have h49 : 49 ≤ (s.get! 0).toNat := by
        have h1 := ha 0 (by omega)
        unfold isD at h1
        have h2 : (s.get! 0).toNat ≠ 48 := fun h => hz ⟨h, .inl (by omega)⟩
        omega
      have h3 : 10 ^ 13 ≤ dval s 14 := dval_big h49 (k := 13)
      have h4 := dval_mono (d := s) (show 14 ≤ s.size by omega)
      omega
    · have hr := ref21_num_l1 s (by omega) FU 0 (by unfold FU; omega) (Nat.zero_le _) (fun j h => absurd h (by omega))
      rw [e0, show ((0 : Nat) : Int) = 0 from rfl] at hr
      rw [decide_eq_false (by omega), sel_false, obnd_some, sel_false, hr, obnd_some]
      by_cases ha : allD s
      · by_cases hv : dval s s.size ≤ 1000000000000
        · have hg : ¬ badN neg s := good_num h0 (by omega) (fun h => ⟨by
            apply Classical.byContradiction; intro h1; exact hz ⟨h, .inl (by omega)⟩, by
            cases neg with
            | false => rfl
            | true => exact absurd ⟨h, .inr rfl⟩ hz⟩) ha hv
          rw [if_pos ⟨ha, hv⟩, if_pos ha, ocbnd_nxt, ocbnd_nxt, numD_t hg, decide_eq_false (by omega), sel_false]
          cases neg with
          | false => exact ⟨rfl, rfl⟩
          | true => rw [sel_true, i64w_id (by omega) (by omega)]; exact ⟨rfl, rfl⟩
        · rw [if_neg (fun h => hv h.2), if_pos ha, ocbnd_ret, ocbnd_nxt, numD_f (badN_5 (by omega)), decide_eq_true (by omega), sel_true]
          exact ⟨rfl, rfl⟩
      · have hbad : badN neg s := .inr (.inr (.inr (.inl ha)))
        rw [if_neg (fun h => ha h.1), if_neg ha, ocbnd_ret, ocbnd_ret, numD_f hbad]
        exact ⟨rfl, rfl⟩
def NB (r : Int × Bool) : Prop := -1000000000000 ≤ r.1 ∧ r.1 ≤ 1000000000000
theorem numD_nb (mn : Bool) (d : ByteArray) : NB (numD mn d) := by
  by_cases h : badN mn d
  · rw [numD_f h]; exact ⟨by simp, by simp⟩
  · rw [numD_t h]
    have : dval d d.size ≤ 1000000000000 := by
      apply Classical.byContradiction; intro hc; exact h (badN_5 (by omega))
    unfold NB
    cases mn <;> simp <;> omega
theorem number_eq (s : ByteArray) (hs : s.size ≤ 4000000000) : ∃ r, Mfold_Number s = some r ∧ Mref21_Number s = some r ∧ NB r := by
  have key : ∀ b c : Bool, (sel (decide (0 < (s.size : Int))) (obnd (sget s 0) fun b2 => some (decide (b2 = 45))) (some false)) = some b → (sel (decide (1 < (s.size : Int))) (obnd (sget s 0) fun b2 => some (decide (b2 = 45))) (some false)) = some c →
      (b = false → c = false) → (b = true → 0 < s.size) → (b = true → c = false → s.size = 1 ∧ (s.get! 0).toNat = 45) → ∃ r, Mfold_Number s = some r ∧ Mref21_Number s = some r ∧ NB r := by
    intro b c hb hc h1 h2 h3
    unfold Mfold_Number Mref21_Number
    rw [hb, hc, obnd_some, obnd_some]
    cases b with
    | false =>
      rw [h1 rfl, sel_false, obnd_some]
      exact ⟨_, (num_tail s hs false).1, (num_tail s hs false).2, numD_nb _ _⟩
    | true =>
      have e : ssl s 1 (s.size : Int) = some (s.extract 1 s.size) := by
        have := h2 rfl
        unfold ssl; rw [if_pos (by omega)]; simp
      rw [e, obnd_some, sel_true, obnd_some]
      have hz : (s.extract 1 s.size).size = s.size - 1 := by simp [ByteArray.size_extract]
      cases c with
      | true =>
        rw [sel_true, obnd_some]
        exact ⟨_, (num_tail _ (by omega) true).1, (num_tail _ (by omega) true).2, numD_nb _ _⟩
      | false =>
        obtain ⟨g1, g2⟩ := h3 rfl rfl
        rw [sel_false, obnd_some]
        refine ⟨_, (num_tail _ (by omega) true).1, ?_, numD_nb _ _⟩
        refine (num_tail s hs false).2.trans ?_
        rw [numD_f (mn := false) (d := s) (badN_4 0 (by omega) (by unfold isD; omega)), numD_f (mn := true) (d := s.extract 1 s.size) (badN_1 (by omega))]
  by_cases h0 : s.size = 0
  · refine key false false ?_ ?_ (fun h => h) (fun h => by cases h) (fun h => by cases h)
    · rw [decide_eq_false (by omega), sel_false]
    · rw [decide_eq_false (by omega), sel_false]
  have es := sget_lt (s := s) (m := 0) (by omega)
  rw [show ((0 : Nat) : Int) = 0 from rfl] at es
  by_cases h1 : 1 < s.size
  · refine key (decide (((s.get! 0).toNat : Int) = 45)) (decide (((s.get! 0).toNat : Int) = 45)) ?_ ?_ (fun h => h) (fun _ => by omega) (fun h h' => by rw [h] at h'; cases h')
    · rw [decide_eq_true (by omega), sel_true, es, obnd_some]
    · rw [decide_eq_true (by omega), sel_true, es, obnd_some]
  · refine key (decide (((s.get! 0).toNat : Int) = 45)) false ?_ ?_ (fun _ => rfl) (fun _ => by omega) (fun h _ => ⟨by omega, by have := of_decide_eq_true h; omega⟩)
    · rw [decide_eq_true (by omega), sel_true, es, obnd_some]
    · rw [decide_eq_false (by omega), sel_false]
def sumF (s : TFold) : Tsum := ⟨s.Count, s.Numbers, s.Sum, s.Low, s.High, s.First, s.Last⟩
def fok (k : Nat) (f : TFold) : Prop := 0 ≤ f.Count ∧ f.Count ≤ k ∧ 0 ≤ f.Numbers ∧ f.Numbers ≤ k ∧ i64w f.Sum = f.Sum ∧ (f.Numbers = 0 → f.Low = 0 ∧ f.High = 0)
theorem add_eq (k : Nat) (f : TFold) (hk : k < 1000000000) (hf : fok k f) (r : Kv) (hr : r.val.size ≤ 4000000000) : ∃ g o, Mfold_sum_add (sumF f) r = some (sumF g) ∧ Mref21_one r = some o ∧ Mref21_Join f o = g ∧ fok (k + 1) g := by
  obtain ⟨n, e1, e2, -⟩ := number_eq r.val hr
  obtain ⟨n, b⟩ := n
  obtain ⟨c, m, s, lo, hi, fi, la⟩ := f
  obtain ⟨g1, g2, g3, g4, g5, g6⟩ := hf
  simp only at g1 g2 g3 g4 g5 g6
  cases b with
  | false =>
    refine ⟨⟨c + 1, m, s, lo, hi, if c = 0 then r.key else fi, r.key⟩, ⟨1, 0, 0, 0, 0, r.key, r.key⟩, ?_, ?_, ?_, ?_⟩
    · dsimp only [Mfold_sum_add, sumF]
      simp only [e1, sel_ite, decide_eq_true_eq, obnd_if, obnd_some, Bool.not_false, if_true]
      rw [i64w_id (a := c + 1) (by omega) (by omega)]
    · simp only [Mref21_one, e2, sel_ite, obnd_some, Bool.false_eq_true, if_false]
    · simp only [Mref21_Join, bnd_eq, sel_ite, Int.add_zero, g5, decide_eq_true_eq]
      rw [i64w_id (a := c + 1) (by omega) (by omega), i64w_id (a := m) (by omega) (by omega)]
      by_cases hm : m = 0
      · obtain ⟨rfl, rfl⟩ := g6 hm
        subst hm
        simp
      · simp [hm]
    · refine ⟨?_, ?_, ?_, ?_, g5, g6⟩ <;> simp only <;> omega
  | true =>
    refine ⟨⟨c + 1, m + 1, i64w (s + n), if m = 0 ∨ n < lo then n else lo, if m = 0 ∨ hi < n then n else hi, if c = 0 then r.key else fi, r.key⟩, ⟨1, 1, n, n, n, r.key, r.key⟩, ?_, ?_, ?_, ?_⟩
    · dsimp only [Mfold_sum_add, sumF]
      simp only [e1, sel_ite, decide_eq_true_eq, obnd_if, obnd_some, Bool.not_true, Bool.false_eq_true, if_false]
      rw [i64w_id (a := c + 1) (by omega) (by omega), i64w_id (a := m + 1) (by omega) (by omega)]
      by_cases hm : m = 0
      · simp [hm]
      · simp [hm]
    · simp only [Mref21_one, e2, sel_ite, obnd_some, if_true]
    · simp only [Mref21_Join, bnd_eq, sel_ite, decide_eq_true_eq]
      rw [i64w_id (a := c + 1) (by omega) (by omega), i64w_id (a := m + 1) (by omega) (by omega)]
      by_cases hm : m = 0
      · simp [hm]
      · have hlo : min lo n = if n < lo then n else lo := by split <;> omega
        have hhi : max hi n = if hi < n then n else hi := by split <;> omega
        simp [hm, hlo, hhi]
    · refine ⟨?_, ?_, ?_, ?_, i64w_i64w _, ?_⟩ <;> simp only <;> omega
theorem of_l1_eq : ∀ (l : List Kv) (k : Nat) (f : TFold), k + l.length < 1000000000 → fok k f → (∀ r ∈ l, r.val.size ≤ 4000000000) →
    ∃ g : TFold, fok (k + l.length) g ∧ Mfold_Of_l1 l f.Count f.Numbers f.Sum f.Low f.High f.First f.Last = some (g.Count, g.Numbers, g.Sum, g.Low, g.High, g.First, g.Last) ∧ Mref21_Of_l1 l f.Count f.Numbers f.Sum f.Low f.High f.First f.Last = some (g.Count, g.Numbers, g.Sum, g.Low, g.High, g.First, g.Last)
  | [], k, f, _, hf, _ => ⟨f, hf, rfl, rfl⟩
  | r :: l, k, f, hk, hf, hr => by
    simp only [List.length_cons] at hk
    obtain ⟨g, o, e1, e2, e3, e4⟩ := add_eq k f (by omega) hf r (hr r List.mem_cons_self)
    obtain ⟨q, h0, h1, h2⟩ := of_l1_eq l (k + 1) g (by omega) e4 fun x hx => hr x (List.mem_cons_of_mem _ hx)
    refine ⟨q, by rw [List.length_cons, show k + (l.length + 1) = k + 1 + l.length by omega]; exact h0, ?_, ?_⟩
    · rw [Mfold_Of_l1.eq_2]
      have : (Tsum.mk f.Count f.Numbers f.Sum f.Low f.High f.First f.Last) = sumF f := rfl
      rw [this, e1, obnd_some]
      exact h1
    · rw [Mref21_Of_l1.eq_2, e2, obnd_some, bnd_eq]
      have : (TFold.mk f.Count f.Numbers f.Sum f.Low f.High f.First f.Last) = f := rfl
      rw [this, e3]
      exact h2
theorem of_eq (l : List Kv) (hl : l.length < 1000000000) (hr : ∀ r ∈ l, r.val.size ≤ 4000000000) : ∃ g, Mfold_Of l = some g ∧ Mref21_Of l = some g ∧ fok l.length g := by
  obtain ⟨g, h0, h1, h2⟩ := of_l1_eq l 0 ⟨0, 0, 0, 0, 0, ⟨#[]⟩, ⟨#[]⟩⟩ (by omega) ⟨by simp, by simp, by simp, by simp, by kernel_rfl, fun _ => ⟨rfl, rfl⟩⟩ hr
  refine ⟨g, ?_, ?_, by simpa using h0⟩
  · unfold Mfold_Of; rw [h1, obnd_some]
  · unfold Mref21_Of; rw [h2, obnd_some]
end Go.Proofs.YtlbnhhfaedhgfaaGreatDoor
namespace Go.Proofs.YtlbnhhfaedhgfaaGreatDoor
set_option linter.unusedSimpArgs false
set_option linter.unusedVariables false
open Go.RowKit
theorem take_eq (q : TQuery) (l : List Kv) (h : l.length ≤ 1000000000) : Mquery_Take q l = some (qtk q.Kind q.Count l) ∧ Mref22_Take q l = some (qtk q.Kind q.Count l) := by
  have hmm : min (max q.Count 0) (l.length : Int) = max 0 (min q.Count (l.length : Int)) := by omega
  unfold Mquery_Take Mref22_Take Mclone_List_api_Row_ qtk
  rw [hmm]
  generalize hn : max 0 (min q.Count (l.length : Int)) = n
  simp only [sel_ite, decide_eq_true_eq]
  by_cases h3 : q.Kind = 3
  · rw [if_pos h3, if_pos h3, if_pos h3, lsl_le (by omega), obnd_some, app_le (by simp; omega)]
    simp [obnd_some, app_le, show l.length ≤ 4294967296 by omega, show min n.toNat l.length ≤ 4294967296 by omega]
  · rw [if_neg h3, if_neg h3, if_neg h3]
    by_cases h4 : q.Kind = 4
    · rw [if_pos h4, if_pos h4, if_pos h4, i64w_id (by omega) (by omega), lsl_le (by omega), obnd_some, app_le (by simp; omega)]
      simp only [obnd_some, List.nil_append]
      have e : ((l.length : Int) - n).toNat = l.length - n.toNat := by omega
      rw [e, List.take_of_length_le (by simp)]
      refine ⟨rfl, ?_⟩
      rw [app_le (by simp; omega)]; rfl
    · rw [if_neg h4, if_neg h4, if_neg h4, app_le (by simp; omega)]
      simp [obnd_some]
theorem eq_ref22_Answer_l1 (t : List Kv) (ht : t.length ≤ 1024) : ∀ (rs : List Rng) (out : List Kv), out.length + rs.length * 1024 ≤ 1000000000 → Mref22_Answer_l1 t rs out = some (out ++ qslices t rs)
  | [], out, _ => by simp [Mref22_Answer_l1, qslices]
  | r :: rs, out, h => by
    have hf := List.length_filter_le (fun x : Kv => contains r x.key) t
    rw [Mref22_Answer_l1.eq_2, eq_ref20_Slice _ _ (by omega), obnd_some, app_le (by omega), obnd_some, eq_ref22_Answer_l1 t ht rs _ (by simp at h ⊢; omega)]
    simp [qslices]
theorem qtk_sub (k c : Int) (l : List Kv) : ∀ r ∈ qtk k c l, r ∈ l := by
  intro r h
  unfold qtk at h
  split at h
  · exact List.mem_of_mem_take h
  split at h
  · exact List.mem_of_mem_drop h
  · exact h
theorem qslices_sub (t : List Kv) (rs : List Rng) : ∀ r ∈ qslices t rs, r ∈ t := by
  intro r h
  simp only [qslices, List.mem_flatMap, List.mem_filter] at h
  obtain ⟨_, _, h, _⟩ := h
  exact h
theorem qslices_len (t : List Kv) (rs : List Rng) : (qslices t rs).length ≤ rs.length * t.length := by
  induction rs with
  | nil => simp [qslices]
  | cons r rs ih =>
    have hf := List.length_filter_le (fun x : Kv => contains r x.key) t
    simp only [qslices, List.flatMap_cons, List.length_append, List.length_cons, Nat.succ_mul] at ih ⊢
    omega
theorem answer_ref (t : List Kv) (q : TQuery) (hq : q.Ranges.length < 1000000) (h0 : qchk q.Kind q.Ranges q.Key q.Count = 0) (hv : tvalid t = true) : ∃ a, Mref22_Answer t q = some (a, 0) ∧ a.Rows = qtk q.Kind q.Count (qslices t (qranges q.Kind q.Ranges q.Key q.Count)) ∧ Mfold_Of a.Rows = some a.Fold ∧ Mref21_Of a.Rows = some a.Fold := by
  unfold Mref22_Answer
  rw [bnd_eq, eq_ref22_Check, (eq_ranges q hq).2, eq_ref20_Valid, decide_eq_true h0, hv]
  simp only [Bool.not_true, sel_false, obnd_some]
  have ht := (tvalid_iff t).1 hv
  have hrl := qranges_le q.Kind q.Ranges q.Key q.Count
  generalize qranges q.Kind q.Ranges q.Key q.Count = R at hrl ⊢
  have hsl := qslices_len t R
  have hsz : (qslices t R).length ≤ 64 * 1024 := Nat.le_trans hsl (Nat.mul_le_mul hrl ht.1)
  rw [eq_ref22_Answer_l1 t ht.1 R [] (by simp; omega), obnd_some, List.nil_append]
  have k2 := (take_eq q (qslices t R) (by omega)).2
  rw [k2, obnd_some]
  have hlen : (qtk q.Kind q.Count (qslices t R)).length ≤ (qslices t R).length := by
    unfold qtk; split
    · simp; omega
    split
    · simp
    · exact Nat.le_refl _
  obtain ⟨g, e1, e2, -⟩ := of_eq (qtk q.Kind q.Count (qslices t R)) (by omega) (fun r hr => by
    have h1 := ht.2.1 r (qslices_sub _ _ r (qtk_sub _ _ _ r hr))
    simp only [vrow, Bool.and_eq_true, decide_eq_true_eq] at h1
    omega)
  rw [e2]
  exact ⟨_, rfl, rfl, e1, e2⟩
end Go.Proofs.YtlbnhhfaedhgfaaGreatDoor
