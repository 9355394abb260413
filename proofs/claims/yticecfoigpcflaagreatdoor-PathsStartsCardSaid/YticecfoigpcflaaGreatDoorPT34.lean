/-
  Lemmas: The law PathsStarts holds of its model.
-/
import Derived.Test.YticecfoigpcflaaGreatDoorPT32
import Derived.Test.YticecfoigpcflaaGreatDoorPT33
import Derived.Test.YticecfoigpcflaaGreatDoorPT21
set_option linter.unusedSimpArgs false
set_option linter.unusedVariables false
namespace Go.Proofs.YticecfoigpcflaaGreatDoor
open Go.RowKit
attribute [local irreducible] Tot sel bnd obnd ocbnd app lget lsl sstab
theorem spl_in {hi : Bnd} : ∀ (cs : List Bnd) (lo : Bnd), lo.lt hi = true → (∀ r ∈ spl hi cs lo, r.lo.lt lo = false ∧ hi.lt r.hi = false) ∧ (spl hi cs lo).Pairwise (fun a b => b.lo.lt a.hi = false)
  | [], lo, _ => by
    rw [spl]
    exact ⟨fun r hr => by rw [List.mem_singleton.1 hr]; exact ⟨lt_irrefl _, lt_irrefl _⟩, List.pairwise_singleton _ _⟩
  | c :: cs, lo, h => by
    rw [spl]
    split
    · rename_i hc
      obtain ⟨h1, h2, h3⟩ := inC_iff.1 hc
      obtain ⟨g1, g2⟩ := spl_in (hi := hi) cs c h3
      refine ⟨fun r hr => ?_, List.pairwise_cons.2 ⟨fun r hr => (g1 r hr).1, g2⟩⟩
      rcases List.mem_cons.1 hr with rfl | hr
      · exact ⟨lt_irrefl _, lt_asymm h3⟩
      · exact ⟨nlt_tr (lt_asymm h2) (g1 r hr).1, (g1 r hr).2⟩
    · exact spl_in cs lo h
theorem spls_in (cs : List Bnd) : ∀ l : List Rng, Nrm l → (∀ r ∈ spls cs l, ∃ x ∈ l, emp x = false ∧ r.lo.lt x.lo = false ∧ x.hi.lt r.hi = false) ∧ (spls cs l).Pairwise (fun a b => b.lo.lt a.hi = false)
  | [], _ => by simp [spls]
  | r :: l, h => by
    obtain ⟨p1, p2⟩ := List.pairwise_cons.1 h.gap
    have he := h.ne r List.mem_cons_self
    obtain ⟨g1, g2⟩ := spls_in cs l ⟨fun x hx => h.ne x (List.mem_cons_of_mem _ hx), p2⟩
    obtain ⟨k1, k2⟩ := spl_in (hi := r.hi) cs r.lo (emp_vb he).2.2
    rw [spls, if_neg (by simp [he])]
    refine ⟨fun x hx => ?_, List.pairwise_append.2 ⟨k2, g2, fun a ha b hb => ?_⟩⟩
    · rcases List.mem_append.1 hx with hx | hx
      · exact ⟨r, List.mem_cons_self, he, k1 x hx⟩
      · obtain ⟨y, h1, h2⟩ := g1 x hx
        exact ⟨y, List.mem_cons_of_mem _ h1, h2⟩
    · obtain ⟨y, h1, -, h2, -⟩ := g1 b hb
      exact nlt_tr (nlt_tr (k1 a ha).2 (lt_asymm (p1 y h1))) h2
theorem stErr_in (all : List Rng) : ∀ (l : List Rng) (p : Option Rng), (∀ r ∈ l, emp r = false ∧ ∃ x ∈ all, emp x = false ∧ r.lo.lt x.lo = false ∧ x.hi.lt r.hi = false) → l.Pairwise (fun a b => b.lo.lt a.hi = false) → (∀ x, p = some x → ∀ r ∈ l, r.lo.lt x.hi = false) → stErr all p l = 0
  | [], _, _, _, _ => by rw [stErr.eq_1]
  | r :: l, p, h1, h2, h3 => by
    obtain ⟨he, x, hx, hxe, hl, hh⟩ := h1 r List.mem_cons_self
    obtain ⟨s1, s2⟩ := List.pairwise_cons.1 h2
    have hb : befr p r = false := by
      cases p with
      | none => rfl
      | some x =>
        have := h3 x rfl r List.mem_cons_self
        unfold befr
        simp only
        refine decide_eq_false fun hh => ?_
        rw [(cmp_neg _ _).1 hh] at this; cases this
    have ha : (all.any fun x => inside x r) = true := by
      refine List.any_eq_true.2 ⟨x, hx, ?_⟩
      unfold inside
      have e1 : cmp x.lo r.lo ≤ 0 := by
        have : ¬ 0 < cmp x.lo r.lo := fun h => by rw [(cmp_pos _ _).1 h] at hl; cases hl
        omega
      have e2 : cmp r.hi x.hi ≤ 0 := by
        have : ¬ 0 < cmp r.hi x.hi := fun h => by rw [(cmp_pos _ _).1 h] at hh; cases hh
        omega
      rw [hxe, decide_eq_true e1, decide_eq_true e2]; rfl
    rw [stErr.eq_2, if_neg (by simp [he]), if_neg (by simp [hb]), if_pos ha]
    exact stErr_in all l (some r) (fun y hy => h1 y (List.mem_cons_of_mem _ hy)) s2 fun x hx y hy => by cases hx; exact s1 y hy
theorem countP_two {α : Type} (p q : α → Bool) (h : ∀ c, p c = true → q c = true → False) : ∀ l : List α, l.countP p + l.countP q ≤ l.countP fun c => p c || q c
  | [] => by simp
  | c :: l => by
    have ih := countP_two p q h l
    have hc := h c
    simp only [List.countP_cons]
    cases hp : p c <;> cases hq : q c
    · simp; omega
    · simp; omega
    · simp; omega
    · exact (hc hp hq).elim
theorem spl_cnt {hi : Bnd} : ∀ (cs : List Bnd) (lo : Bnd), (spl hi cs lo).length ≤ 1 + cs.countP fun c => lo.lt c && c.lt hi
  | [], lo => by simp [spl]
  | c :: cs, lo => by
    rw [spl, List.countP_cons]
    split
    · rename_i hc
      obtain ⟨h1, h2, h3⟩ := inC_iff.1 hc
      have ih := spl_cnt (hi := hi) cs c
      have hm : (cs.countP fun d => c.lt d && d.lt hi) ≤ cs.countP fun d => lo.lt d && d.lt hi := List.countP_mono_left fun d _ hd => by
        simp only [Bool.and_eq_true] at hd ⊢
        exact ⟨lt_trans h2 hd.1, hd.2⟩
      rw [h2, h3]
      simp only [List.length_cons, Bool.and_self, if_true]
      omega
    · have ih := spl_cnt (hi := hi) cs lo
      omega
theorem spls_cnt (cs : List Bnd) : ∀ l : List Rng, Nrm l → (spls cs l).length ≤ l.length + cs.countP fun c => l.any fun r => r.lo.lt c && c.lt r.hi
  | [], _ => by simp [spls]
  | r :: l, h => by
    obtain ⟨p1, p2⟩ := List.pairwise_cons.1 h.gap
    have ih := spls_cnt cs l ⟨fun x hx => h.ne x (List.mem_cons_of_mem _ hx), p2⟩
    have h1 := spl_cnt (hi := r.hi) cs r.lo
    have h2 := countP_two (fun c => r.lo.lt c && c.lt r.hi) (fun c => l.any fun r => r.lo.lt c && c.lt r.hi) (fun c g1 g2 => by
      simp only [Bool.and_eq_true] at g1
      obtain ⟨s, hs, g3⟩ := List.any_eq_true.1 g2
      simp only [Bool.and_eq_true] at g3
      have := lt_trans (lt_trans (lt_trans g3.1 g1.2) (p1 s hs)) g3.1
      rw [lt_trans g1.2 (p1 s hs) |> lt_asymm] at g3
      cases g3.1) cs
    rw [spls, if_neg (by simp [h.ne r List.mem_cons_self]), List.length_append]
    simp only [List.any_cons, List.length_cons]
    omega
theorem spls_128 (cs : List Bnd) (l : List Rng) (h : Nrm l) : (spls cs l).length ≤ l.length + cs.length := by
  have h1 := spls_cnt cs l h
  have h2 : (cs.countP fun c => l.any fun r => r.lo.lt c && c.lt r.hi) ≤ cs.length := List.countP_le_length
  omega
theorem zone_eq (r : Rng) : ∀ (l : List Bnd) (n : Int), Mpaths_zones_l2 r l n = some (Mref28_zone_l1 r.lo l n)
  | [], n => by rw [Mpaths_zones_l2, Mref28_zone_l1]
  | c :: l, n => by
    rw [Mpaths_zones_l2, Mref28_zone_l1, eq_keyspace_Compare, eq_ref1_Compare, bnd_eq, bnd_eq]
    by_cases h : cmp c r.lo ≤ 0
    · rw [decide_eq_true h, sel_true, sel_true]; exact zone_eq r l _
    · rw [decide_eq_false h, sel_false, sel_false]; exact zone_eq r l _
theorem zone_nn1 (b : Bnd) : ∀ (l : List Bnd) (n : Int), 0 ≤ n → n + l.length ≤ 100000 → 0 ≤ Mref28_zone_l1 b l n
  | [], n, h, _ => h
  | c :: l, n, h, hl => by
    simp only [List.length_cons] at hl
    rw [Mref28_zone_l1, bnd_eq, i64w_id (by omega) (by omega)]
    cases decide (Mref1_Compare c b ≤ 0) with
    | true => rw [sel_true]; exact zone_nn1 b l (n + 1) (by omega) (by omega)
    | false => rw [sel_false]; exact zone_nn1 b l n h (by omega)
abbrev mkw (q : TQuery) (z : List Rng) : TWalk := ⟨q, z, []⟩
theorem lget_end {α : Type} (A : List α) (e : α) (n : Int) (hn : n = (A.length : Int) + 1) (h : A.length ≤ 1000000) : lget (A ++ [e]) (i64w (n - 1)) = some e := by
  subst hn
  rw [i64w_id (by omega) (by omega), show (A.length : Int) + 1 - 1 = ((A.length : Nat) : Int) by omega, lget_nat]
  simp
theorem set_end {α : Type} (A : List α) (e x : α) (n : Int) (hn : n = (A.length : Int) + 1) (h : A.length ≤ 1000000) : (A ++ [e]).set (Int.toNat (i64w (n - 1))) x = A ++ [x] := by
  subst hn
  rw [i64w_id (by omega) (by omega), show (A.length : Int) + 1 - 1 = ((A.length : Nat) : Int) by omega, Int.toNat_natCast]
  simp
theorem zones_both (q : TQuery) (cuts : List Bnd) (hc : cuts.length ≤ 1000) : ∀ (S : List Rng) (out : List (List Rng)) (last : Int), (out ≠ [] ∨ last < 0) → out.length + S.length ≤ 100000 → (∀ z ∈ out, z.length + S.length ≤ 100000) →
    ∃ out' : List (List Rng), Mpaths_zones_l1 cuts S out last = some out' ∧ Mref28_StartPaths_l2 q cuts S (out.map (mkw q)) last = some (out'.map (mkw q)) ∧ out'.length ≤ out.length + S.length ∧ out'.flatten = out.flatten ++ S ∧ (cuts = [] → (∀ e, out = [e] → last = 0 → out' = [e ++ S]) ∧ (out = [] → out' = if S = [] then [] else [S]))
  | [], out, last, _, _, _ => ⟨out, by rw [Mpaths_zones_l1], by rw [Mref28_StartPaths_l2], by simp, by simp, fun _ => ⟨fun e h _ => by rw [h, List.append_nil], fun h => by rw [h]; rfl⟩⟩
  | r :: S, out, last, hl, hn, hz => by
    simp only [List.length_cons] at hn hz
    have hz0 : 0 ≤ Mref28_zone r.lo cuts := by unfold Mref28_zone; rw [bnd_eq]; exact zone_nn1 _ cuts 0 (by omega) (by omega)
    have ez : Mpaths_zones_l2 r cuts 0 = some (Mref28_zone r.lo cuts) := by rw [zone_eq, Mref28_zone, bnd_eq]
    have e0 : cuts = [] → Mref28_zone r.lo cuts = 0 := fun h => by subst h; unfold Mref28_zone; rw [bnd_eq, Mref28_zone_l1]
    -- the tail, once the last zone is named
    have key : ∀ (A : List (List Rng)) (e : List Rng) (z : Int), A.length + 1 + S.length ≤ 100000 → (∀ z ∈ A ++ [e], z.length + (S.length + 1) ≤ 100000) → ∃ out' : List (List Rng),
        (obnd (lget (A ++ [e]) (i64w (((A ++ [e]).length : Int) - 1))) fun e20 => obnd (app e20 ([r] : List Rng)) fun l21 => obnd (lget (A ++ [e]) (i64w (((A ++ [e]).length : Int) - 1))) fun e22 => bnd (l21) fun e23 => bnd ((A ++ [e]).set (Int.toNat (i64w (((A ++ [e]).length : Int) - 1))) e23) fun l24 => some (l24, z)) = some (A ++ [e ++ [r]], z) ∧
        Mpaths_zones_l1 cuts S (A ++ [e ++ [r]]) z = some out' ∧
        (obnd (lget ((A ++ [e]).map (mkw q)) (i64w ((((A ++ [e]).map (mkw q)).length : Int) - 1))) fun e24 => obnd (app e24.Todo ([r] : List Rng)) fun l25 => bnd ((TWalk.mk e24.Query l25 e24.Visits)) fun e26 => bnd (((A ++ [e]).map (mkw q)).set (Int.toNat (i64w ((((A ++ [e]).map (mkw q)).length : Int) - 1))) e26) fun l27 => Mref28_StartPaths_l2 q cuts S l27 z) = some (out'.map (mkw q)) ∧
        out'.length ≤ A.length + 1 + S.length ∧ out'.flatten = (A ++ [e]).flatten ++ r :: S ∧ (cuts = [] → A = [] → z = 0 → out' = [e ++ r :: S]) := fun A e z h1 h2 => by
      have he := h2 e (by simp)
      obtain ⟨out', g1, g2, g0, g3, g4⟩ := zones_both q cuts hc S (A ++ [e ++ [r]]) z (.inl (by simp)) (by simp; omega) (fun x hx => by
        rcases List.mem_append.1 hx with hx | hx
        · have := h2 x (List.mem_append.2 (.inl hx)); omega
        · rw [List.mem_singleton.1 hx]; simp; omega)
      refine ⟨out', ?_, g1, ?_, by simpa using g0, by rw [g3]; simp, fun c1 c2 c3 => by subst c2; rw [(g4 c1).1 (e ++ [r]) rfl c3]; simp⟩
      · rw [lget_end A e _ (by simp) (by omega), obnd_some, app_le (by simp; omega), obnd_some, obnd_some, bnd_eq, bnd_eq, set_end A e _ _ (by simp) (by omega)]
      · rw [List.map_append, List.map_singleton, lget_end (A.map (mkw q)) (mkw q e) _ (by simp) (by simp; omega), obnd_some, app_le (by simp; omega), obnd_some, bnd_eq, bnd_eq, set_end (A.map (mkw q)) (mkw q e) _ _ (by simp) (by simp; omega)]
        rw [List.map_append, List.map_singleton] at g2
        exact g2
    rw [Mpaths_zones_l1, Mref28_StartPaths_l2, ez, obnd_some, bnd_eq]
    by_cases h : Mref28_zone r.lo cuts = last
    · rw [decide_eq_true h, Bool.not_true, sel_false, sel_false, obnd_some, obnd_some]
      have hne : out ≠ [] := hl.resolve_right (by omega)
      obtain ⟨A, e, rfl⟩ : ∃ A e, out = A ++ [e] := ⟨out.dropLast, out.getLast hne, (List.dropLast_concat_getLast hne).symm⟩
      obtain ⟨out', g1, g2, g3, g0, g4, g5⟩ := key A e last (by simp at hn; omega) hz
      refine ⟨out', ?_, g3, by simp; omega, g4, fun hcs => ⟨fun e' he' h0 => ?_, fun h => by simp at h⟩⟩
      · dsimp only; rw [g1, obnd_some]; exact g2
      · cases A with
        | nil => cases he'; exact g5 hcs rfl h0
        | cons a A => simp at he'
    · rw [decide_eq_false h, Bool.not_false, sel_true, sel_true, app_le (by simp; omega), obnd_some, obnd_some, app_le (by simp; omega), obnd_some, obnd_some]
      obtain ⟨out', g1, g2, g3, g0, g4, g5⟩ := key out [] (Mref28_zone r.lo cuts) (by omega) (fun z hz' => by
        rcases List.mem_append.1 hz' with hz' | hz'
        · exact hz z hz'
        · rw [List.mem_singleton.1 hz']; simp; omega)
      rw [List.map_append, List.map_singleton] at g3
      refine ⟨out', ?_, g3, by simp; omega, by rw [g4]; simp, fun hcs => ⟨fun e he h0 => absurd (by rw [e0 hcs, h0]) h, fun h0 => ?_⟩⟩
      · dsimp only; rw [g1, obnd_some]; exact g2
      · rw [g5 hcs h0 (e0 hcs), if_neg (by simp), List.nil_append]
theorem zone_all {α : Type} {out : List (List α)} {z : List α} (h : z ∈ out) : z.Sublist out.flatten := List.sublist_flatten_of_mem h
abbrev PP0 : TPaths := TPaths.mk (TQuery.mk 0 [] ⟨#[]⟩ 0) [] [] [] false
theorem cuts_both (cuts : List Bnd) (hc : cuts.length ≤ 1000) : ∀ (xs : List Bnd) (m : Nat), cuts.drop m = xs → (Mpaths_collect_l1 cuts xs (m : Int) = some (Ctl.nxt ()) ∧ Mref28_StartPaths_l1 cuts xs (m : Int) = some (Ctl.nxt ())) ∨ ∃ e : Int, e ≠ 0 ∧ Mpaths_collect_l1 cuts xs (m : Int) = some (Ctl.ret ([], e)) ∧ Mref28_StartPaths_l1 cuts xs (m : Int) = some (Ctl.ret (PP0, e))
  | [], m, _ => .inl ⟨by rw [Mpaths_collect_l1], by rw [Mref28_StartPaths_l1]⟩
  | c :: xs, m, h => by
    obtain ⟨h1, h2⟩ := drop_get h
    obtain ⟨h3, h4⟩ := List.getElem?_eq_some_iff.1 h1
    have ih := cuts_both cuts hc xs (m + 1) h2
    rw [Mpaths_collect_l1, Mref28_StartPaths_l1, eq_keyspace_ValidBound, eq_ref1_ValidBound, bnd_eq, bnd_eq, show (m : Int) + 1 = ((m + 1 : Nat) : Int) by omega]
    cases vb c with
    | false => rw [Bool.not_false, sel_true, sel_true]; exact .inr ⟨1, by omega, rfl, rfl⟩
    | true =>
      rw [Bool.not_true, sel_false, sel_false]
      cases m with
      | zero => rw [decide_eq_false (by omega), sel_false, sel_false]; exact ih
      | succ m =>
        rw [decide_eq_true (by omega), sel_true, sel_true, i64w_id (by omega) (by omega), show ((m + 1 : Nat) : Int) - 1 = (m : Int) by omega, lget_nat, List.getElem?_eq_getElem (by omega), obnd_some, obnd_some, eq_keyspace_Compare, eq_ref1_Compare, bnd_eq, bnd_eq]
        by_cases g : cmp c cuts[m] ≤ 0
        · rw [decide_eq_true g, sel_true, sel_true]; exact .inr ⟨8, by omega, rfl, rfl⟩
        · rw [decide_eq_false g, sel_false, sel_false]; exact ih
theorem collect_l2 (q : TQuery) : ∀ (zs : List (List Rng)) (out : List TWalk), out.length + zs.length ≤ 100000 → (∀ z ∈ zs, Mwalk_Start q z = some (mkw q z, 0)) → Mpaths_collect_l2 q zs out = some (Ctl.nxt (out ++ zs.map (mkw q)))
  | [], out, _, _ => by rw [Mpaths_collect_l2]; simp
  | z :: zs, out, hn, h => by
    simp only [List.length_cons] at hn
    rw [Mpaths_collect_l2, h z List.mem_cons_self, obnd_some, decide_eq_true rfl, Bool.not_true, sel_false, app_le (by simp; omega), obnd_some, collect_l2 q zs _ (by simp; omega) fun x hx => h x (List.mem_cons_of_mem _ hx)]
    simp
theorem clone_Walks_l1 (y l : List TWalk) (hl : l.length = y.length) (hy : y.length ≤ 1000000) (hr : ∀ w ∈ l, okW w) : ∀ (k fuel m : Nat), m + k = y.length → k < fuel → Mclone_Walks_l1 y fuel l (m : Int) = some l
  | _, 0, _, _, h => absurd h (by omega)
  | 0, fuel + 1, m, h1, _ => by
    rw [Mclone_Walks_l1.eq_2, decide_eq_false (by omega), sel_false, obnd_some, ocbnd_ret]
  | k + 1, fuel + 1, m, h1, h2 => by
    have hm : m < l.length := by omega
    rw [Mclone_Walks_l1.eq_2, decide_eq_true (by omega), sel_true, obnd_some, ocbnd_nxt, lget_nat, List.getElem?_eq_getElem hm, obnd_some, eq_clone_Walk _ (hr _ (List.getElem_mem hm)), obnd_some, obnd_some, bnd_eq, bnd_eq, i64w_id (by omega) (by omega), show (m : Int) + 1 = ((m + 1 : Nat) : Int) by omega]
    have e : l.set (Int.toNat (m : Int)) l[m] = l := by
      rw [Int.toNat_natCast]; exact List.set_getElem_self hm
    rw [e]
    exact clone_Walks_l1 y l hl hy hr k fuel (m + 1) (by omega) (by omega)
theorem eq_clone_Walks (l : List TWalk) (h : l.length ≤ 1000000) (hr : ∀ w ∈ l, okW w) : Mclone_Walks l = some l := by
  unfold Mclone_Walks Mclone_List_api_Walk_
  rw [app_le (by simp; omega), obnd_some, List.nil_append, obnd_some, show (0 : Int) = ((0 : Nat) : Int) from rfl, clone_Walks_l1 l l rfl h hr l.length FU 0 (by omega) (by unfold FU; omega), obnd_some]
end Go.Proofs.YticecfoigpcflaaGreatDoor
namespace Go.Proofs.YticecfoigpcflaaGreatDoor
open Go.RowKit
attribute [local irreducible] Tot sel bnd obnd ocbnd app lget lsl sstab
theorem spls_nil : ∀ l : List Rng, (∀ r ∈ l, emp r = false) → spls [] l = l
  | [], _ => by rw [spls]
  | r :: l, h => by rw [spls, if_neg (by simp [h r List.mem_cons_self]), spl, spls_nil l fun x hx => h x (List.mem_cons_of_mem _ hx)]; rfl
theorem zonesW (q : TQuery) (b : List Bnd) (hq : q.Ranges.length < 1000000) (h0 : qch q = 0) (hb : b.length ≤ 64) : ∃ (zs : List (List Rng)) (cs : List Bnd), cs.length ≤ 64 ∧ zs.length ≤ 200 ∧ zs.flatten = spls cs (qrg q) ∧ Mpaths_zones q b = some zs ∧
    ∃ use13 : List Bnd, ∃ y14 : List Rng, (obnd (sel (decide (q.Kind = 3)) (some true) (some (decide (q.Kind = 4))) : Option Bool) fun x11 => (sel x11 (some []) (some b) : Option (List Bnd))) = some use13 ∧ Mref28_Split (qrg q) use13 = some y14 ∧ Mref28_StartPaths_l2 q use13 y14 [] (-1) = some (zs.map (mkw q)) := by
  have er : Mquery_Ranges q = some (qrg q) := if_pos hq
  have hl : (qrg q).length ≤ 64 := qranges_le _ _ _ _
  have hk := (qchk_0 h0).1
  have hn := qrg_nrm q
  by_cases h12 : q.Kind = 1 ∨ q.Kind = 2
  · obtain ⟨e1, e2⟩ := eq_Split (qrg q) b (by omega) (by omega)
    have hp := (stab_asc b).2.length_eq
    have hs := spls_128 (SM.stab cutLt b) (qrg q) hn
    obtain ⟨zs, g1, g2, g3, g4, -⟩ := zones_both q b (by omega) (spls (SM.stab cutLt b) (qrg q)) [] (-1) (.inr (by omega)) (by simp; omega) (by simp)
    refine ⟨zs, SM.stab cutLt b, by omega, by simp at g3; omega, by simpa using g4, ?_, b, _, ?_, e2, g2⟩
    · have hx : (sel (!decide (q.Kind = 1)) (some (!decide (q.Kind = 2))) (some false) : Option Bool) = some false := by
        rcases h12 with h | h
        · rw [decide_eq_true h, Bool.not_true, sel_false]
        · rw [decide_eq_false (by omega), decide_eq_true h, Bool.not_false, sel_true]; rfl
      rw [Mpaths_zones, er, obnd_some, hx, obnd_some, sel_false, e1, obnd_some, g1, obnd_some]
    · rw [decide_eq_false (by omega), decide_eq_false (by omega), sel_false, obnd_some, sel_false]
  · have h34 : q.Kind = 3 ∨ q.Kind = 4 := by
      have : q.Kind = 1 ∨ q.Kind = 2 ∨ q.Kind = 3 ∨ q.Kind = 4 := hk
      omega
    have e2 := (eq_Split (qrg q) [] (by omega) (by simp)).2
    have hst : SM.stab cutLt [] = [] := List.perm_nil.1 (stab_asc []).2
    rw [hst, spls_nil _ hn.ne] at e2
    obtain ⟨zs, -, g2, g3, g4, g5⟩ := zones_both q [] (by simp) (qrg q) [] (-1) (.inr (by omega)) (by simp; omega) (by simp)
    have g6 := (g5 rfl).2 rfl
    refine ⟨zs, [], by simp, by simp at g3; omega, by rw [spls_nil _ hn.ne]; simpa using g4, ?_, [], _, ?_, e2, g2⟩
    · rw [Mpaths_zones, er, obnd_some, decide_eq_false (by omega), Bool.not_false, sel_true, decide_eq_false (by omega), Bool.not_false, obnd_some, sel_true, g6]
      cases hq0 : qrg q with
      | nil => rw [decide_eq_true (by simp), sel_true, if_pos rfl]
      | cons r l => rw [decide_eq_false (by simp; omega), sel_false, if_neg (by simp)]
    · rcases h34 with h | h
      · rw [decide_eq_true h, sel_true, obnd_some, sel_true]
      · rw [decide_eq_false (by omega), decide_eq_true h, sel_false, obnd_some, sel_true]
theorem obnd_as {α β γ : Type} (x : Option α) (f : α → Option β) (g : β → Option γ) : (obnd x fun a => obnd (f a) g) = obnd (obnd x f) g := by
  cases x with
  | none => rw [obnd_none, obnd_none, obnd_none]
  | some a => rw [obnd_some, obnd_some]
theorem starts_both (q : TQuery) (b : List Bnd) (hq : q.Ranges.length ≤ 1000) (hb : b.length ≤ 1000) : ∃ (X : TPaths) (e : Int), Mpaths_Start q b = some (X, e) ∧ Mref28_StartPaths q b = some (X, e) := by
  have e1 : Mquery_Check q = some (qch q) := if_pos (by omega)
  have e2 : Mref22_Check q = qch q := eq_ref22_Check q
  have er : Mref22_Ranges q = some (qrg q) := if_pos (by omega)
  rw [Mpaths_Start, Mpaths_collect, Mref28_StartPaths, e1, e2, bnd_eq, obnd_some]
  by_cases h1 : qch q = 0
  · rw [decide_eq_true h1, Bool.not_true, sel_false, sel_false]
    by_cases h2 : 64 < b.length
    · rw [decide_eq_true (by omega), sel_true, sel_true, obnd_some, decide_eq_false (by decide), Bool.not_false, sel_true]
      exact ⟨_, _, rfl, rfl⟩
    · rw [decide_eq_false (by omega), sel_false, sel_false]
      have hcb := cuts_both b hb b 0 rfl
      rw [show ((0 : Nat) : Int) = 0 from rfl] at hcb
      rcases hcb with ⟨c1, c2⟩ | ⟨e, he, c1, c2⟩
      · obtain ⟨zs, cs, k1, k2, k3, k4, use13, y14, k5, k6, k7⟩ := zonesW q b (by omega) h1 (by omega)
        have hl : (qrg q).length ≤ 64 := qranges_le _ _ _ _
        have hs := spls_128 cs (qrg q) (qrg_nrm q)
        obtain ⟨i1, i2⟩ := spls_in cs (qrg q) (qrg_nrm q)
        have i3 := (spls_pts cs (qrg q)).1
        have hz : ∀ z ∈ zs, z.Sublist (spls cs (qrg q)) := fun z hz => by rw [← k3]; exact zone_all hz
        have hz2 : ∀ z ∈ zs, z.length ≤ 128 := fun z h => by have := (hz z h).length_le; omega
        have hw : ∀ z ∈ zs, Mwalk_Start q z = some (mkw q z, 0) := fun z h => by
          have s1 := hz z h
          have s2 := hz2 z h
          rw [eq_walk_Start q z (by omega), startW, if_neg (by simpa using h1), if_neg (by omega), if_pos]
          exact stErr_in (qrg q) z none (fun r hr => ⟨i3 r (s1.mem hr), i1 r (s1.mem hr)⟩) (i2.sublist s1) fun x hx => by cases hx
        have hok : ∀ w ∈ zs.map (mkw q), okW w := fun w hw => by
          obtain ⟨z, h, rfl⟩ := List.mem_map.1 hw
          have := hz2 z h
          exact ⟨hq, by show z.length ≤ 1000; omega, by simp, by simp⟩
        rw [c1, c2, obnd_some, obnd_some, ocbnd_nxt, ocbnd_nxt, k4, obnd_some, collect_l2 q zs [] (by simp; omega) hw, obnd_some, ocbnd_nxt, obnd_some, decide_eq_true rfl, Bool.not_true, sel_false]
        simp only [List.nil_append]
        rw [eq_clone_Query _ (by omega), obnd_some, eq_clone_Bounds _ (by omega), obnd_some, eq_clone_Walks _ (by simp; omega) hok, obnd_some]
        rw [app_le (by simp; omega), obnd_some, obnd_as, k5, obnd_some, er, obnd_some, k6, obnd_some, k7, obnd_some, app_le (by simp; omega), obnd_some]
        exact ⟨_, _, rfl, rfl⟩
      · rw [c1, c2, obnd_some, obnd_some, ocbnd_ret, ocbnd_ret, obnd_some, decide_eq_false he, Bool.not_false, sel_true]
        exact ⟨_, _, rfl, rfl⟩
  · rw [decide_eq_false h1, Bool.not_false, sel_true, sel_true, obnd_some, decide_eq_false h1, Bool.not_false, sel_true]
    exact ⟨_, _, rfl, rfl⟩
theorem samePaths_l1 (a : TPaths) : ∀ (xs : List Bnd) (m : Nat), a.Cuts.drop m = xs → Mref28_SamePaths_l1 a a xs (m : Int) = some (.nxt ())
  | [], _, _ => by rw [Mref28_SamePaths_l1]
  | r :: xs, m, h => by
    obtain ⟨h1, h2⟩ := drop_get h
    rw [Mref28_SamePaths_l1, lget_nat, h1, obnd_some, obnd_some, eq_ref1_Compare, bnd_eq, cmp_self, decide_eq_true rfl, Bool.not_true, sel_false]
    exact samePaths_l1 a xs (m + 1) h2
theorem samePaths_l2 (a : TPaths) : ∀ (xs : List TWalk) (m : Nat), a.First.drop m = xs → Mref28_SamePaths_l2 a a xs (m : Int) = some (.nxt ())
  | [], _, _ => by rw [Mref28_SamePaths_l2]
  | r :: xs, m, h => by
    obtain ⟨h1, h2⟩ := drop_get h
    rw [Mref28_SamePaths_l2, lget_nat, h1, obnd_some, obnd_some, sameWalk_refl, obnd_some, Bool.not_true, sel_false]
    exact samePaths_l2 a xs (m + 1) h2
theorem samePaths_l3 (a : TPaths) : ∀ (xs : List TWalk) (m : Nat), a.Second.drop m = xs → Mref28_SamePaths_l3 a a xs (m : Int) = some (.nxt ())
  | [], _, _ => by rw [Mref28_SamePaths_l3]
  | r :: xs, m, h => by
    obtain ⟨h1, h2⟩ := drop_get h
    rw [Mref28_SamePaths_l3, lget_nat, h1, obnd_some, obnd_some, sameWalk_refl, obnd_some, Bool.not_true, sel_false]
    exact samePaths_l3 a xs (m + 1) h2
theorem samePaths_refl (a : TPaths) : Mref28_SamePaths a a = some true := by
  have c1 := samePaths_l1 a a.Cuts 0 rfl
  have c2 := samePaths_l2 a a.First 0 rfl
  have c3 := samePaths_l3 a a.Second 0 rfl
  rw [show ((0 : Nat) : Int) = 0 from rfl] at c1 c2 c3
  rw [Mref28_SamePaths, sameQuery_refl, obnd_some]
  simp only [decide_true, Bool.not_true, sel_false, beq_self_eq_true, obnd_some]
  rw [c1, c2, c3]
  simp only [obnd_some, ocbnd_nxt]
theorem starts_l3 (q : TQuery) (hq : q.Ranges.length ≤ 1000) : ∀ bs : List (List Bnd), (∀ b ∈ bs, b.length ≤ 1000) → Mlaw30_PathsStarts_l3 q bs = some (Ctl.nxt ())
  | [], _ => by rw [Mlaw30_PathsStarts_l3]
  | b :: bs, h => by
    obtain ⟨X, e, e1, e2⟩ := starts_both q b hq (h b List.mem_cons_self)
    rw [Mlaw30_PathsStarts_l3, e1, obnd_some, e2, obnd_some, Mlaw30_same, decide_eq_true rfl, sel_true, samePaths_refl, obnd_some, obnd_some, Bool.not_true, sel_false]
    exact starts_l3 q hq bs fun c hc => h c (List.mem_cons_of_mem _ hc)
theorem starts_l2 (cuts y : List Bnd) (hc : cuts.length ≤ 1000) (hy : y.length ≤ 1000) : ∀ qs : List TQuery, (∀ q ∈ qs, q.Ranges.length ≤ 1000) → Mlaw30_PathsStarts_l2 cuts y qs = some (Ctl.nxt ())
  | [], _ => by rw [Mlaw30_PathsStarts_l2]
  | q :: qs, h => by
    rw [Mlaw30_PathsStarts_l2, starts_l3 q (h q List.mem_cons_self) _ (by simp; omega), obnd_some, ocbnd_nxt, obnd_some, ocbnd_nxt]
    exact starts_l2 cuts y hc hy qs fun c hc => h c (List.mem_cons_of_mem _ hc)
theorem bstr_size (n : Int) : (bstr [n]).size = 1 := rfl
theorem starts_l1 (y : Int × TTape) (h0 : 0 ≤ y.1) (h1 : y.1 ≤ 2) : ∀ (k fuel : Nat) (o : List Bnd), k + o.length = (64 + y.1).toNat → k < fuel → Tot (Mlaw30_PathsStarts_l1 y fuel o) fun z => z.length ≤ 100
  | _, 0, _, _, h => by omega
  | 0, fuel + 1, o, h, _ => by
    rw [Mlaw30_PathsStarts_l1, i64w_id (by omega) (by omega), decide_eq_false (by omega), sel_false, obnd_some, ocbnd_ret]
    exact tot_some (by omega)
  | k + 1, fuel + 1, o, h, hf => by
    rw [Mlaw30_PathsStarts_l1, i64w_id (by omega) (by omega), decide_eq_true (by omega), sel_true, obnd_some, ocbnd_nxt]
    have hs : scat ⟨#[107]⟩ (bstr ([IntKind.u8.wrap (o.length : Int)] : List Int)) = some (⟨#[107]⟩ ++ bstr ([IntKind.u8.wrap (o.length : Int)] : List Int)) := by
      unfold scat
      rw [if_pos (by rw [bstr_size]; decide)]
    rw [hs, obnd_some, app_le (by simp; omega), obnd_some]
    exact starts_l1 y h0 h1 k fuel _ (by simp; omega) (by omega)
theorem pathsStarts_ok (l : List Int) (raw : TQuery) (cuts : List Bnd) : Mlaw30_PathsStarts l raw cuts = some true := by
  suffices h : Tot (Mlaw30_PathsStarts l raw cuts) fun b => b = true by
    obtain ⟨b, e, rfl⟩ := tot_ex h
    exact e
  have aw : Tot (obnd Mlaw30_awake fun y5 => some y5) fun b => b = true := w_eq pawake_ok (tot_some rfl)
  unfold Mlaw30_PathsStarts
  refine w_obnd (w_sd (fun _ => w_sk ?_) fun h1 => w_sk ?_)
  · rw [sel_true]; exact aw
  refine w_sd (fun _ => aw) fun h2 => ?_
  refine tot_obnd (tot_new l) fun τ hτ => tot_obnd (tot_cuts hτ (by omega) (by omega)) fun y7 h7 => tot_obnd (tot_next h7.1 (by omega)) fun y8 h8 => ?_
  refine tot_obnd (R := fun y => okT ⟨y.1, y.2.1⟩ ∧ y.2.2.length ≤ 100) (w_sd (fun _ => tot_obnd (tot_bound h8.1) fun y9 h9 => w_app (by simp; omega) (tot_some ⟨h9.1, by simp; omega⟩)) fun _ => w_sd (fun _ => tot_obnd (tot_next h8.1 (by omega)) fun y11 h11 => ?_) fun _ => tot_some ⟨h8.1, by show y7.1.length ≤ 100; omega⟩) ?_
  · have hc := h11.2
    unfold Cho at hc
    refine tot_obnd (starts_l1 y11 (by omega) (by omega) (64 + y11.1).toNat FU [] (by simp) (by simp only [FU]; omega)) fun z hz => tot_some ⟨h11.1, hz⟩
  rintro ⟨x16, x17, y18⟩ ⟨g1, g2⟩
  simp only at g1 g2
  dsimp only
  refine tot_obnd (tot_query g1) fun y19 h19 => tot_obnd (tot_oddQuery h19.1) fun y20 h20 => ?_
  have hk := h19.2.2.1
  rw [starts_l2 cuts y18 (by omega) (by omega) _ (by simp; omega), obnd_some, ocbnd_nxt]
  exact aw
end Go.Proofs.YticecfoigpcflaaGreatDoor
