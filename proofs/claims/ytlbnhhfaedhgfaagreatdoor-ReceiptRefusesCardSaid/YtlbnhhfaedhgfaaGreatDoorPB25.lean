/-
  Lemmas: Plain laws of the models
-/
import Derived.Test.YtlbnhhfaedhgfaaGreatDoorPB23
import Derived.Test.YtlbnhhfaedhgfaaGreatDoorPB24
import Derived.Test.YtlbnhhfaedhgfaaGreatDoorPB21
set_option linter.unusedSimpArgs false
set_option linter.unusedVariables false
namespace Go.Proofs.YtlbnhhfaedhgfaaGreatDoor
open Go.RowKit
theorem tvalid_flt {t : List Kv} (h : tvalid t = true) (p : Kv → Bool) : tvalid (t.filter p) = true := by
  rw [tvalid_iff] at h ⊢
  obtain ⟨h1, h2, h3⟩ := h
  exact ⟨Nat.le_trans (List.length_filter_le _ _) h1, fun r hr => h2 r (List.mem_filter.1 hr).1, h3.filter p⟩
theorem all_flt (r : Rng) (t : List Kv) : ((t.filter fun x => contains r x.key).all fun x => contains r x.key) = true := List.all_eq_true.2 fun x hx => (List.mem_filter.1 hx).2
def P0 : TPart := ⟨0, 0, 0, ⟨0, 0⟩, zr, []⟩
def copyC (r : Rng) (s : TStamp) (t : List Kv) : TCopy := ⟨r, s, t, [], P0, P0, 0, 0⟩
theorem eq_ref24_New {r : Rng} {s : TStamp} {t : List Kv} (hr : vld r = true) (hs : stOk s = true) (ht : tvalid t = true) (hw : (t.all fun x => contains r x.key) = true) : Mref24_New r s t = some (copyC r s t, 0) := by
  have := ((tvalid_iff t).1 ht).1
  unfold Mref24_New
  rw [bnd_eq, eq_ref1_Valid, hr, Bool.not_true, sel_false, bnd_eq, eq_ref23_Valid, hs, eq_ref20_Valid, ht, eq_ref20_Within, bnd_eq, hw, app_le (by simp; omega)]
  simp only [obnd_some, Bool.not_true, sel_false, List.nil_append]
  rfl
theorem eq_ref24_Valid {r : Rng} {s : TStamp} {t : List Kv} (hr : vld r = true) (hs : stOk s = true) (ht : tvalid t = true) (hw : (t.all fun x => contains r x.key) = true) : Mref24_Valid (copyC r s t) = some true := by
  have h0 := ((tvalid_iff t).1 ht).1
  have ha : ∀ x : Rng, Mref24_apart P0 x = some true := fun x => rfl
  unfold Mref24_Valid copyC
  simp only [bnd_eq, eq_ref1_Valid, eq_ref23_Valid, eq_ref20_Valid, eq_ref20_Within, hr, hs, ht, hw, obnd_some, Bool.not_true, sel_false, ha]
  have e1 : decide (64 < ((([] : List TWrite).length : Nat) : Int)) = false := rfl
  have e2 : decide (1024 < i64w ((t.length : Int) + ((([] : List TWrite).length : Nat) : Int))) = false := decide_eq_false (by
    have : ((([] : List TWrite).length : Nat) : Int) = 0 := rfl
    rw [this, i64w_id (by omega) (by omega)]; omega)
  have e3 : decide (P0.Serial = 0) = true := rfl
  rw [e1, e2, e3]
  rfl
theorem place_none (id : Int) : ∀ (l : List TMember) (i : Int), (∀ m ∈ l, m.ID ≠ id) → Mref25_place_l1 id l i = .nxt ()
  | [], _, _ => rfl
  | m :: l, i, h => by
    rw [Mref25_place_l1.eq_2, decide_eq_false (h m List.mem_cons_self), sel_false]
    exact place_none id l _ fun x hx => h x (List.mem_cons_of_mem _ hx)
theorem eq_place (n : Int) (b : Bool) (l : List TMember) (id : Int) (h : ∀ m ∈ l, m.ID ≠ id) : Mref25_place ⟨n, b, l⟩ id = -1 := by
  unfold Mref25_place
  simp only
  rw [place_none id l 0 h]; rfl
theorem new_l1 (b : Bool) : ∀ ids : List Int, (∀ i ∈ ids, numOk i = true) → Mref25_New_l1 ids b = some b
  | [], _ => rfl
  | i :: l, h => by
    have ih := new_l1 b l fun x hx => h x (List.mem_cons_of_mem _ hx)
    rw [Mref25_New_l1.eq_2, bnd_eq, eq_ref24_Number, h i List.mem_cons_self, Bool.not_true]
    cases b with
    | true => rw [sel_true]; exact ih
    | false => rw [sel_false]; exact ih
theorem new_l2 (n : Int) (c : TCopy) : ∀ (ids : List Int) (acc : List TMember), ids.Nodup → (∀ m ∈ acc, m.ID ∉ ids) → acc.length + ids.length ≤ 1000 → Mref25_New_l2 n c ids acc = some (.nxt (acc ++ ids.map fun i => ⟨i, true, c⟩))
  | [], acc, _, _, _ => by rw [Mref25_New_l2.eq_1]; simp
  | i :: l, acc, h, h1, h2 => by
    have hh := List.nodup_cons.1 h
    simp only [List.length_cons] at h2
    rw [Mref25_New_l2.eq_2, bnd_eq, eq_place _ _ _ _ (fun m hm e => h1 m hm (by rw [e]; exact List.mem_cons_self)), decide_eq_false (by omega), sel_false, app_le (by simp; omega), obnd_some]
    rw [new_l2 n c l _ hh.2 (fun m hm => by
      rcases List.mem_append.1 hm with hm | hm
      · exact fun h3 => h1 m hm (List.mem_cons_of_mem _ h3)
      · rw [List.mem_singleton.1 hm]; exact hh.1) (by simp; omega)]
    simp
theorem eq_ref25_New {r : Rng} {s : TStamp} {t : List Kv} (hr : vld r = true) (hs : stOk s = true) (ht : tvalid t = true) (hw : (t.all fun x => contains r x.key) = true) {n : Int} (hn : numOk n = true) {ids : List Int} (h0 : 0 < ids.length) (h5 : ids.length ≤ 5) (hi : ∀ i ∈ ids, numOk i = true) (hd : ids.Nodup) :
    Mref25_New n ids (copyC r s t) = some (⟨n, true, ids.map fun i => ⟨i, true, copyC r s t⟩⟩, 0) := by
  unfold Mref25_New
  rw [bnd_eq, eq_ref24_Number, hn, eq_ref24_Valid hr hs ht hw, decide_eq_false (by omega)]
  simp only [Bool.not_true, sel_false, obnd_some]
  rw [new_l1 _ ids hi, obnd_some, sel_false, decide_eq_false (by omega), sel_false, new_l2 _ _ _ _ hd (by simp) (by simp; omega), obnd_some, ocbnd_nxt]
  simp
def Tl (t : List Kv) : Bnd → List TView → Bnd → Prop
  | a, [], b => a = b
  | a, v :: l, b => v.Interval.lo = a ∧ emp v.Interval = false ∧ validV v = true ∧ v.Rows = t.filter (fun x => contains v.Interval x.key) ∧ Tl t v.Interval.hi l b
theorem Tl.snoc {t : List Kv} {v : TView} : ∀ {l : List TView} {a b : Bnd}, Tl t a l b → v.Interval.lo = b → emp v.Interval = false → validV v = true → v.Rows = t.filter (fun x => contains v.Interval x.key) → Tl t a (l ++ [v]) v.Interval.hi
  | [], a, b, h, h1, h2, h3, h4 => ⟨by rw [h1]; exact h.symm, h2, h3, h4, rfl⟩
  | x :: l, a, b, ⟨g1, g2, g3, g4, g5⟩, h1, h2, h3, h4 => ⟨g1, g2, g3, g4, g5.snoc h1 h2 h3 h4⟩
theorem Tl.mem {t : List Kv} : ∀ {l : List TView} {a b : Bnd}, Tl t a l b → ∀ v ∈ l, validV v = true ∧ v.Rows = t.filter (fun x => contains v.Interval x.key) ∧ emp v.Interval = false
  | [], _, _, _, _, hv => by simp at hv
  | x :: l, a, b, ⟨g1, g2, g3, g4, g5⟩, v, hv => by
    rcases List.mem_cons.1 hv with rfl | hv
    · exact ⟨g3, g4, g2⟩
    · exact g5.mem v hv
def Sh (gs : List TGroup) (vs : List TView) : Prop := gs.map Mref25_View = vs.map fun v => some (v, 0)
theorem Sh.len {gs : List TGroup} {vs : List TView} (h : Sh gs vs) : gs.length = vs.length := by
  have := congrArg List.length h
  simpa using this
theorem vld_of {r : Rng} (h : emp r = false) : vld r = true := by
  unfold emp at h
  cases hv : vld r with
  | true => rfl
  | false => rw [hv] at h; simp at h
theorem ids_ok {n k : Int} (hn : 1 ≤ n ∧ n ≤ 1000) (hk : 0 ≤ k ∧ k < 3) : ∃ l, lsl ([i64w (10 * n), i64w (i64w (10 * n) + 1), i64w (i64w (10 * n) + 2)] : List Int) 0 (i64w (1 + k)) = some (10 * n :: l) ∧ (10 * n :: l).length ≤ 5 ∧ (∀ i ∈ 10 * n :: l, numOk i = true) ∧ (10 * n :: l).Nodup := by
  have e0 : i64w (10 * n) = 10 * n := i64w_id (by omega) (by omega)
  have e1 : i64w (10 * n + 1) = 10 * n + 1 := i64w_id (by omega) (by omega)
  have e2 : i64w (10 * n + 2) = 10 * n + 2 := i64w_id (by omega) (by omega)
  have e3 : i64w (1 + k) = 1 + k := i64w_id (by omega) (by omega)
  rw [e0, e1, e2, e3]
  have no : ∀ x : Int, 1 ≤ x → x ≤ 100000 → numOk x = true := fun x h1 h2 => by unfold numOk; rw [decide_eq_true h1, decide_eq_true (by omega)]; rfl
  have hk3 : k = 0 ∨ k = 1 ∨ k = 2 := by omega
  rcases hk3 with rfl | rfl | rfl
  · refine ⟨[], rfl, by simp, fun i hi => ?_, by simp⟩
    simp only [List.mem_cons, List.not_mem_nil, or_false] at hi
    exact no i (by omega) (by omega)
  · refine ⟨[10 * n + 1], rfl, by simp, fun i hi => ?_, by simp; omega⟩
    simp only [List.mem_cons, List.not_mem_nil, or_false] at hi
    exact no i (by omega) (by omega)
  · refine ⟨[10 * n + 1, 10 * n + 2], rfl, by simp, fun i hi => ?_, by simp; omega⟩
    simp only [List.mem_cons, List.not_mem_nil, or_false] at hi
    exact no i (by omega) (by omega)
theorem net_step {τ : TTape} (hτ : okT τ) {t : List Kv} (ht : tvalid t = true) {out : List TGroup} {vs : List TView} (hsh : Sh out vs) {a : Bnd} {x : Rng} (htl : Tl t a vs x.lo) (hx : emp x = false) (hl : out.length ≤ 500) {K : List TGroup → TTape → Option (List TGroup × List Int × Int)} {Q : List TGroup × List Int × Int → Prop}
    (hK : ∀ (g : TGroup) (v : TView) (τ' : TTape), okT τ' → Sh (out ++ [g]) (vs ++ [v]) → Tl t a (vs ++ [v]) x.hi → Tot (K (out ++ [g]) τ') Q) :
    Tot (obnd (Mwld_Tape_Next τ 3) fun y19 =>
        obnd (Mwld_Tape_Next y19.2 2) fun y20 =>
        obnd (Mref20_Slice t x) fun y21 =>
        obnd (Mref24_New x (TStamp.mk y19.1 y20.1) y21) fun y22 =>
        obnd (Mwld_Tape_Next y20.2 3) fun y23 =>
        obnd (lsl ([i64w (10 * (i64w ((out.length : Int) + 1))), i64w ((i64w (10 * (i64w ((out.length : Int) + 1)))) + 1), i64w ((i64w (10 * (i64w ((out.length : Int) + 1)))) + 2)] : List Int) 0 (i64w (1 + y23.1))) fun l24 =>
        obnd (Mref25_New (i64w ((out.length : Int) + 1)) l24 y22.1) fun y25 =>
        obnd (app out ([y25.1] : List TGroup)) fun l26 => K l26 y23.2) Q := by
  have h0 := ((tvalid_iff t).1 ht).1
  have hv := vld_of hx
  refine tot_obnd (tot_next hτ (by omega)) fun y19 h19 => tot_obnd (tot_next h19.1 (by omega)) fun y20 h20 => ?_
  have c19 := h19.2
  have c20 := h20.2
  unfold Cho at c19 c20
  have hs : stOk ⟨y19.1, y20.1⟩ = true := by
    unfold stOk
    rw [decide_eq_true (by simp only; omega), decide_eq_true (by simp only; omega), decide_eq_true (by simp only; omega), decide_eq_true (by simp only; omega)]; rfl
  have ht2 := tvalid_flt ht fun z => contains x z.key
  have hw := all_flt x t
  rw [eq_ref20_Slice _ _ (by omega), obnd_some, eq_ref24_New hv hs ht2 hw, obnd_some]
  refine tot_obnd (tot_next h20.1 (by omega)) fun y23 h23 => ?_
  have c23 := h23.2
  unfold Cho at c23
  rw [i64w_id (a := (out.length : Int) + 1) (by omega) (by omega)]
  obtain ⟨l, e, h5, hi, hd⟩ := ids_ok (n := (out.length : Int) + 1) (k := y23.1) (by omega) (by omega)
  have hn : numOk ((out.length : Int) + 1) = true := by unfold numOk; rw [decide_eq_true (by omega), decide_eq_true (by omega)]; rfl
  rw [e, obnd_some, eq_ref25_New hv hs ht2 hw hn (by simp) h5 hi hd, obnd_some, app_le (by simp; omega), obnd_some]
  refine hK _ ⟨10 * ((out.length : Int) + 1), x, ⟨y19.1, y20.1⟩, t.filter fun z => contains x z.key⟩ _ h23.1 ?_ ?_
  · unfold Sh at hsh ⊢
    rw [List.map_append, List.map_append, hsh]
    congr 1
  · exact Tl.snoc (v := ⟨10 * ((out.length : Int) + 1), x, ⟨y19.1, y20.1⟩, t.filter fun z => contains x z.key⟩) htl rfl hx (by
      unfold validV
      simp only
      rw [hi _ List.mem_cons_self, hx, hs, ht2, hw]; rfl) rfl
def topB : Bnd := ⟨⟨#[]⟩, true⟩
theorem vb_top : vb topB = true := by kernel_rfl
theorem top_eq {b : Bnd} (h : vb b = true) (ht : b.top = true) : b = topB := by
  obtain ⟨k, t⟩ := b
  simp only at ht
  subst ht
  simp only [vb, Bool.not_true, Bool.false_or, Bool.and_eq_true] at h
  obtain ⟨⟨l⟩⟩ := k
  have := h.2
  rw [ByteArray.toList_eq] at this
  cases l with
  | nil => rfl
  | cons a l => simp at this
theorem emp_top {b : Bnd} (h : vb b = true) (he : emp ⟨b, topB⟩ = true) : b = topB := by
  cases ht : b.top with
  | true => exact top_eq h ht
  | false =>
    exfalso
    have h1 : b.lt topB = true := by simp [Bnd.lt, ht, topB]
    have h2 : cmp b topB < 0 := (cmp_neg _ _).2 h1
    unfold emp vld at he
    simp only at he
    rw [h, vb_top, decide_eq_true (by omega)] at he
    have h3 : cmp b topB = 0 := by simpa using he
    omega
theorem emp_of {a b : Bnd} (ha : vb a = true) (hb : vb b = true) (h : 0 < cmp b a) : emp ⟨a, b⟩ = false := by
  have h2 : cmp a b = - cmp b a := cmp_swap b a
  unfold emp vld
  simp only
  rw [ha, hb, decide_eq_true (by omega)]
  have : (cmp a b == 0) = false := by
    cases hh : cmp a b == 0 with
    | false => rfl
    | true => have := eq_of_beq hh; omega
  rw [this]; rfl
theorem net_l1 (τ0 : TTape) (t : List Kv) (ht : tvalid t = true) (cuts : List Bnd × TTape) (hc : cuts.1.length ≤ 100) : ∀ (fuel : Nat) (l : List Int) (a : Int) (out : List TGroup) (lo : Bnd) (i : Nat) (vs : List TView), okT ⟨l, a⟩ → cuts.1.length + 1 - i < fuel → out.length ≤ i → (i ≤ cuts.1.length + 1) → Sh out vs → Tl t zb vs lo → vb lo = true → (i = cuts.1.length + 1 → lo = topB) →
    Tot (Mwld_Tape_Net_l1 (t, τ0) Mwld_All cuts fuel l a out lo.key lo.top (i : Int)) fun z => okT ⟨z.2.1, z.2.2⟩ ∧ z.1.length ≤ cuts.1.length + 1 ∧ ∃ vs, Sh z.1 vs ∧ Tl t zb vs topB
  | 0, _, _, _, _, _, _, _, h, _, _, _, _, _, _ => absurd h (by omega)
  | fuel + 1, l, a, out, lo, i, vs, h, hf, ho, hi, hs, htl, hlo, hend => by
    rw [Mwld_Tape_Net_l1.eq_2]
    refine tot_join (R := fun _ => i ≤ cuts.1.length) (tot_sel (fun h1 => tot_some (by have := of_decide_eq_true h1; show i ≤ cuts.1.length; omega)) fun h1 => tot_some ⟨h, by simp only; omega, vs, hs, ?_⟩) fun _ h1 => ?_
    · have h1 := of_decide_eq_false h1
      rw [hend (by omega)] at htl; exact htl
    have next : ∀ (τ : TTape) (out' : List TGroup) (lo' : Bnd) (vs' : List TView), okT τ → out'.length ≤ i + 1 → Sh out' vs' → Tl t zb vs' lo' → vb lo' = true → (i = cuts.1.length → lo' = topB) → Tot (Mwld_Tape_Net_l1 (t, τ0) Mwld_All cuts fuel τ.l τ.at_ out' lo'.key lo'.top (i64w ((i : Int) + 1))) fun z => okT ⟨z.2.1, z.2.2⟩ ∧ z.1.length ≤ cuts.1.length + 1 ∧ ∃ vs, Sh z.1 vs ∧ Tl t zb vs topB := fun τ out' lo' vs' g1 g2 g3 g4 g5 g6 => by
      rw [i64w_id (by omega) (by omega), show (i : Int) + 1 = ((i + 1 : Nat) : Int) by omega]
      exact net_l1 τ0 t ht cuts hc fuel τ.l τ.at_ out' lo' (i + 1) vs' g1 (by omega) g2 (by omega) g3 g4 g5 (fun h => g6 (by omega))
    refine tot_obnd (R := fun b => b = true → ∃ h : i < cuts.1.length, vb cuts.1[i] = true ∧ 0 < cmp cuts.1[i] lo) (tot_sel (fun h2 => ?_) fun _ => tot_some (by simp)) fun b hb => ?_
    · have h2 : i < cuts.1.length := by have := of_decide_eq_true h2; omega
      rw [lget_nat, List.getElem?_eq_getElem h2, obnd_some, bnd_eq, eq_ref1_ValidBound]
      refine tot_sel (fun h3 => ?_) fun _ => tot_some (by simp)
      rw [obnd_some, bnd_eq, eq_ref1_Compare]
      exact tot_some fun h4 => ⟨h2, h3, of_decide_eq_true h4⟩
    refine tot_sel (fun h2 => ?_) fun _ => tot_sel (fun h3 => ?_) fun h3 => ?_
    · obtain ⟨h3, h4, h5⟩ := hb h2
      rw [lget_nat, List.getElem?_eq_getElem h3, obnd_some, bnd_eq, eq_ref1_Empty]
      have he : emp ⟨lo, cuts.1[i]⟩ = false := emp_of hlo h4 h5
      refine tot_sel (fun h6 => ?_) fun _ => ?_
      · exact absurd (he.symm.trans h6) (by simp)
      · exact net_step (τ := ⟨l, a⟩) h ht hs (x := ⟨lo, cuts.1[i]⟩) htl he (by omega) (K := fun o τ => Mwld_Tape_Net_l1 (t, τ0) Mwld_All cuts fuel τ.l τ.at_ o cuts.1[i].key cuts.1[i].top (i64w ((i : Int) + 1))) fun g v τ' k1 k2 k3 => next τ' _ cuts.1[i] _ k1 (by simp; omega) k2 k3 h4 (fun h => by omega)
    · have h3 := of_decide_eq_true h3
      exact next ⟨l, a⟩ out lo vs h (by omega) hs htl hlo (fun h => by omega)
    · have h3 := of_decide_eq_false h3
      rw [bnd_eq, eq_ref1_Empty]
      have eh : Mwld_All.hi = topB := rfl
      refine tot_sel (fun h6 => ?_) fun h6 => ?_
      · exact next ⟨l, a⟩ out lo vs h (by omega) hs htl hlo (fun _ => emp_top hlo (by rw [← eh]; exact h6))
      · exact net_step (τ := ⟨l, a⟩) h ht hs (x := ⟨lo, Mwld_All.hi⟩) htl h6 (by omega) (K := fun o τ => Mwld_Tape_Net_l1 (t, τ0) Mwld_All cuts fuel τ.l τ.at_ o Mwld_All.hi.key Mwld_All.hi.top (i64w ((i : Int) + 1))) fun g v τ' k1 k2 k3 => next τ' _ Mwld_All.hi _ k1 (by simp; omega) k2 k3 vb_top (fun _ => eh)
theorem views_l1 : ∀ (gs : List TGroup) (vs out : List TView), Sh gs vs → out.length + gs.length ≤ 1000 → Mwld_Views_l1 gs out = some (out ++ vs)
  | [], vs, out, h, _ => by
    have := h.len
    have e : vs = [] := List.eq_nil_of_length_eq_zero (by simpa using this.symm)
    rw [e, Mwld_Views_l1.eq_1]; simp
  | g :: gs, vs, out, h, hl => by
    cases vs with
    | nil => have := h.len; simp at this
    | cons v vs =>
      unfold Sh at h
      simp only [List.map_cons, List.cons.injEq] at h
      simp only [List.length_cons] at hl
      rw [Mwld_Views_l1.eq_2, h.1, obnd_some, decide_eq_true rfl, sel_true, app_le (by simp; omega), obnd_some, views_l1 gs vs _ h.2 (by simp; omega)]
      simp
theorem tot_net {τ : TTape} (h : okT τ) {n : Int} (h0 : 1 ≤ n) (hn : n ≤ 40) {γ : Type} {K : List TView → TTape → Option γ} {Q : γ → Prop} (hK : ∀ (t : List Kv) (vs : List TView) (τ' : TTape), okT τ' → tvalid t = true → t.length ≤ 8 → (vs.length : Int) ≤ n → Tl t zb vs topB → Tot (K vs τ') Q) :
    Tot (obnd (Mwld_Tape_Net τ n) fun y => obnd (Mwld_Views y.1) fun z => K z y.2) Q := by
  refine tot_obnd (R := fun y => okT y.2 ∧ ∃ t vs, tvalid t = true ∧ t.length ≤ 8 ∧ y.1.length ≤ n ∧ Sh y.1 vs ∧ Tl t zb vs topB) ?_ ?_
  · unfold Mwld_Tape_Net
    refine tot_obnd (tot_rows h (by omega) (by omega)) fun y3 h3 => ?_
    obtain ⟨g1, g2, g3⟩ := h3
    rw [i64w_id (by omega) (by omega), bnd_eq]
    refine tot_obnd (tot_cuts g1 (by omega) (by omega)) fun y5 h5 => ?_
    obtain ⟨k1, k2⟩ := h5
    have := net_l1 y3.2 y3.1 g2 y5 (by omega) FU y5.2.l y5.2.at_ [] zb 0 [] k1 (by unfold FU; omega) (by simp) (by omega) rfl rfl (by kernel_rfl) (fun h => by omega)
    refine tot_obnd this ?_
    rintro ⟨o, l, a⟩ ⟨m1, m2, vs, m3, m4⟩
    simp only at m1 m2 m3 m4
    exact tot_some ⟨m1, y3.1, vs, g2, by omega, by simp only; omega, m3, m4⟩
  · rintro ⟨gs, τ'⟩ ⟨h1, t, vs, h2, h3, h4, h5, h6⟩
    simp only at h1 h4 h5 ⊢
    unfold Mwld_Views
    have := h5.len
    rw [views_l1 gs vs [] h5 (by simp; omega), obnd_some, List.nil_append, obnd_some]
    exact hK t vs τ' h1 h2 h3 (by omega) h6
end Go.Proofs.YtlbnhhfaedhgfaaGreatDoor
namespace Go.Proofs.YtlbnhhfaedhgfaaGreatDoor
open Go.RowKit
theorem mrg_len2 : ∀ (l : List Rng) (c : Rng), (mrg c l).length ≤ l.length + 1
  | [], c => by simp [mrg]
  | r :: l, c => by
    unfold mrg
    split
    · have := mrg_len2 l ⟨c.lo, greater c.hi r.hi⟩
      simp; omega
    · have := mrg_len2 l r
      simp; omega
theorem union_len2 (l : List Rng) : (union l).length ≤ l.length := by
  unfold union
  have h1 : ((l.filter ne).mergeSort leLo).length ≤ l.length := by rw [List.length_mergeSort]; exact List.length_filter_le _ _
  cases h : (l.filter ne).mergeSort leLo with
  | nil => simp [mrgAll]
  | cons r l' =>
    rw [h] at h1
    have := mrg_len2 l' r
    simp only [mrgAll, List.length_cons] at h1 ⊢
    omega
theorem qrg_len2 {q : TQuery} (h : qok q) : (qrg q).length ≤ 4 := by
  obtain ⟨h1, h2, -⟩ := h
  unfold qrg qranges
  rw [if_pos h1]
  refine Nat.le_trans (union_len2 _) ?_
  unfold qrs
  split
  · exact h2
  · split
    · simp
    · split <;> simp
theorem W0_ok : okW W0 := ⟨by simp [W0], by simp [W0], by simp [W0], by simp [W0]⟩
theorem start_ok {q : TQuery} (hq : q.Ranges.length ≤ 1000) (l : List Rng) (hl : l.length ≤ 1000) : okW (startW q l).1 ∧ (startW q l).1.Visits.length = 0 := by
  unfold startW
  split
  · exact ⟨W0_ok, rfl⟩
  · split
    · exact ⟨W0_ok, rfl⟩
    · split
      · exact ⟨⟨hq, hl, by simp, by simp⟩, rfl⟩
      · exact ⟨W0_ok, rfl⟩
theorem cutT_len (r : Rng) : (cutT r).length ≤ 1 := by
  unfold cutT
  split <;> simp
theorem visit_len (v : TView) (p : Rng) (hv : v.Rows.length ≤ 10000) : (visitV v p).View.Rows.length ≤ 10000 := Nat.le_trans (List.length_filter_le _ _) hv
theorem step_ok {w : TWalk} (h : okW w) (hn : w.Visits.length ≤ 999) (v : TView) (hv : v.Rows.length ≤ 10000) (ht : w.Todo.isEmpty = false) (want part : Rng) : okW (stepW w v want part) ∧ (stepW w v want part).Visits.length = w.Visits.length + 1 ∧ (stepW w v want part).Todo.length ≤ w.Todo.length := by
  have h1 := h.todo
  have h2 : 0 < w.Todo.length := by
    cases hh : w.Todo with
    | nil => rw [hh] at ht; cases ht
    | cons a l => simp
  unfold stepW
  split
  · have h3 := cutT_len ⟨want.lo, part.lo⟩
    refine ⟨⟨h.q, by simp; omega, by simp; omega, fun x hx => ?_⟩, by simp, by simp; omega⟩
    simp only [List.mem_cons] at hx
    rcases hx with rfl | hx
    · exact visit_len v part hv
    · exact h.rows x hx
  · have h3 := cutT_len ⟨part.hi, want.hi⟩
    refine ⟨⟨h.q, by simp; omega, by simp; omega, fun x hx => ?_⟩, by simp, by simp; omega⟩
    simp only [List.mem_append, List.mem_singleton] at hx
    rcases hx with hx | rfl
    · exact h.rows x hx
    · exact visit_len v part hv
def goodV (vs : List TView) : Prop := vs ≠ [] ∧ vs.length ≤ 100 ∧ ∀ v ∈ vs, v.Rows.length ≤ 8
theorem Tl.good {t : List Kv} (ht : t.length ≤ 8) {vs : List TView} (hl : vs.length ≤ 100) (h : Tl t zb vs topB) : goodV vs := by
  refine ⟨fun e => ?_, hl, fun v hv => ?_⟩
  · subst e
    have : zb.top = topB.top := congrArg Bnd.top h
    cases this
  · rw [(h.mem v hv).2.1]
    exact Nat.le_trans (List.length_filter_le _ _) ht
theorem tot_stamp {τ : TTape} (h : okT τ) : Tot (Mwld_Tape_Stamp τ) fun y => okT y.2 := by
  unfold Mwld_Tape_Stamp
  exact tot_obnd (tot_pick h (by decide) (by decide)) fun y hy => tot_obnd (tot_pick hy.1 (by decide) (by decide)) fun z hz => tot_some hz.1
theorem tot_oddStamp {τ : TTape} (h : okT τ) : Tot (Mwld_Tape_OddStamp τ) fun y => okT y.2 := by
  unfold Mwld_Tape_OddStamp
  refine tot_obnd (tot_stamp h) fun y hy => tot_obnd (tot_next hy (by omega)) fun z hz => tot_sel (fun _ => tot_obnd (tot_pick hz.1 (by decide) (by decide)) fun u hu => tot_some hu.1) fun _ => tot_sel (fun _ => tot_obnd (tot_pick hz.1 (by decide) (by decide)) fun u hu => tot_some hu.1) fun _ => tot_some hz.1
theorem tot_view {τ : TTape} (h : okT τ) (r : Rng) : Tot (Mwld_Tape_View τ r) fun y => okT y.2 ∧ y.1.Rows.length ≤ 8 := by
  unfold Mwld_Tape_View
  refine tot_obnd (tot_next h (by omega)) fun y3 h3 => tot_obnd (tot_stamp h3.1) fun y4 h4 => tot_obnd (tot_rowsIn h4 r (by omega) (by omega)) fun y5 h5 => tot_obnd (tot_next h5.1 (by omega)) fun y6 h6 => ?_
  have hl : y5.1.length ≤ 4 := by have := h5.2.2.2; omega
  refine tot_sel (fun _ => tot_obnd (tot_pick h6.1 (by decide) (by decide)) fun u hu => tot_some ⟨hu.1, by simp only; omega⟩) fun _ => ?_
  refine tot_sel (fun _ => tot_obnd (tot_range h6.1) fun u hu => tot_some ⟨hu, by simp only; omega⟩) fun _ => ?_
  refine tot_sel (fun _ => tot_obnd (tot_oddStamp h6.1) fun u hu => tot_some ⟨hu, by simp only; omega⟩) fun _ => ?_
  refine tot_sel (fun _ => tot_obnd (tot_oddRows h6.1 (by omega)) fun u hu => tot_some ⟨hu.1, by have := hu.2; simp only; omega⟩) fun _ => ?_
  exact tot_some ⟨h6.1, by simp only; omega⟩
end Go.Proofs.YtlbnhhfaedhgfaaGreatDoor
