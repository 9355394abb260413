/-
  Lemmas: Regions that draw their order, over states: the rule. / Steps of a walk through a region that draws its order; calls whose outcome is one. / Operations over states: structs written out, slices written out, indexing, slicing, conversions, least and greatest, equal structs; typed lists. / Operations over states: slices written out, appends, slicing, stores into own slices. / Operations over states: slices written out, slicing, indexing, conversions, least and greatest, equal structs, stores into own slices; typed appends. / Rules of the walk in short: numbers of new blocks by the slots; nil turned into an own slice. / Rules of the walk in short, third part. / Maps that no one turns: looking up by a number; a function compared with nil. / Objects of the walk's own: strings ranged over, maps written out. / Facts on this translation: orders, the making of variables. / The types of this translation: how many cells they have, and their zero values. / The types of this translation, for walks over states. / Plain laws of bounds and ranges: a linear order, meets and joins. / Plain laws of a prefix: the range of the keys that begin with it. / What the program's structs hold, as deep values. / One rule for each step of a walk ('sw'); contracts found by instances ('Ct': one value and nothing else; 'Tc': calls that turn the tape). / Contracts: the tape's choices. / Contracts: keys, bounds, ranges of the keyspace. / Contracts: keys, bounds, ranges, rows of the tape. / Structs compared. / Contracts: tables. / Contracts: queries. / Contracts: queries of the tape; the tape's beginning. / The tape's beginning. / Plain words: lists of ranges, how they lie in memory; Tiles. / Ranges in slices: an element as a window.
-/
import Derived.Test.YtlbnhhfaedhgfaaDoorPW1
import Derived.MapKept
import Derived.Test.YtlbnhhfaedhgfaaDoorChecked
import Derived.Deep.DeepCutAuto
namespace Go.Proofs.YtlbnhhfaedhgfaaDoor
set_option linter.unusedSimpArgs false
set_option linter.unusedVariables false
open Go.RowKit

theorem OpV.mono {P : Program} {o : Oper} {H : Hp} {sl : List (Nat × V)} {lo nn : Nat} {ψ ψ' : V → Hp → Prop} (h : OpV P o H sl lo nn ψ) (hm : ∀ u h, ψ u h → ψ' u h) : OpV P o H sl lo nn ψ' := fun B a w ρ h1 h2 h3 h4 h5 =>
  Oper.wp_mono' (h B a w ρ h1 h2 h3 h4 h5) (fun _ _ ⟨v, u, h, ρ', g1, g2, g3⟩ => ⟨v, u, h, ρ', g1, hm _ _ g2, g3⟩) fun _ _ _ h => h
theorem Dv.mono {P : Program} {ops : Array Oper} {o : Oper} {H : Hp} {sl : List (Nat × V)} {lo nn : Nat} {ψ ψ' : V → Hp → Prop} (h : Dv P ops o H sl lo nn ψ) (hm : ∀ u h, ψ u h → ψ' u h) : Dv P ops o H sl lo nn ψ' := by
  rcases h with ⟨h1, h2⟩ | ⟨h1, h2⟩
  · exact .inl ⟨h1, h2.mono hm⟩
  · exact .inr ⟨h1, hm _ _ h2⟩
section
variable {Γ : Cx} {ops : Array Oper} {pl : List PI} {hp0 : Hp} {sl0 : List (Nat × V)} {k : Kont}
def dvs (Γ : Cx) (ops : Array Oper) (hp0 : Hp) (sl0 : List (Nat × V)) (E : List En) (p : En → Prop) : Prop := ∀ X e Y, E = X ++ e :: Y → p e → Dv Γ.P ops e.o (keep e.f.ks (hpE Y ++ hp0)) (keep e.f.p.ts (slE Y ++ sl0)) e.f.lo e.f.nn (fun u h => u = e.u ∧ h = e.h)
structure Inv8 (Γ : Cx) (ops : Array Oper) (pl : List PI) (hp0 : Hp) (sl0 : List (Nat × V)) (k : Kont) (E T : List En) (rest : List PI) : Prop where
  sim : Sim Γ ops pl hp0 E T rest
  wd : WD Γ ops k rest (E.map (·.f)) ⟨slE E ++ sl0, hpE E ++ hp0⟩
  nd : ∀ p r, rest = p :: r → (r.all fun q => bitN q.an p.i) = true
  dv : dvs Γ ops hp0 sl0 E fun e => ∀ x ∈ T, x.i ≠ e.i
structure Ls (ops : Array Oper) (listed : Array Bool) (T : List En) : Prop where
  nodup : (T.map (·.i)).Nodup
  size : listed.size = ops.size
  ls : ∀ i, i < ops.size → (listed.getD i false = true ↔ ∃ x ∈ T, x.i = i)
theorem absorb (p : En → Prop) : ∀ {rest : List PI} {E : List En}, pl = (E.map (·.f.p)).reverse ++ rest → Good Γ ops hp0 E → WD Γ ops k rest (E.map (·.f)) ⟨slE E ++ sl0, hpE E ++ hp0⟩ → dvs Γ ops hp0 sl0 E p →
    ∃ E' rest', pl = (E'.map (·.f.p)).reverse ++ rest' ∧ Good Γ ops hp0 E' ∧ WD Γ ops k rest' (E'.map (·.f)) ⟨slE E' ++ sl0, hpE E' ++ hp0⟩ ∧ (∀ p r, rest' = p :: r → (r.all fun q => bitN q.an p.i) = true) ∧ dvs Γ ops hp0 sl0 E' p ∧ ∀ x ∈ E, x ∈ E'
  | [], E, h1, h2, h3, h4 => ⟨E, [], h1, h2, h3, by simp, h4, fun _ h => h⟩
  | q :: r, E, h1, h2, h3, h4 => by
    have hwd := h3
    unfold WD at h3
    obtain ⟨o, ks, ws, lo, nn, ψ, g1, g2, g3, g4, g5, g6, g7, g8⟩ := h3
    rcases g7 with ⟨u, h, hψ, g7⟩ | g7
    · have ee : slE ((⟨⟨q, ks, ws, lo, nn⟩, o, u, h⟩ : En) :: E) ++ sl0 = put1 o.dst u (slE E ++ sl0) := by rw [slE, put1_app]
      have e2 : hpE ((⟨⟨q, ks, ws, lo, nn⟩, o, u, h⟩ : En) :: E) ++ hp0 = h ++ (hpE E ++ hp0) := by rw [hpE, List.append_assoc]
      obtain ⟨E', rest', i1, i2, i3, i4, i5, i6⟩ := absorb p (rest := r) (E := ⟨⟨q, ks, ws, lo, nn⟩, o, u, h⟩ :: E) (by rw [h1]; simp) (.cons h2 g1 g2 g3 g4 (g6 u h hψ)) (by rw [ee, e2]; exact g8 u h hψ) (fun X e Y he hp => by
        cases X with
        | nil =>
          simp only [List.nil_append, List.cons.injEq] at he
          obtain ⟨rfl, rfl⟩ := he
          exact g5.mono g7
        | cons x X =>
          simp only [List.cons_append, List.cons.injEq] at he
          exact h4 X e Y he.2 hp)
      exact ⟨E', rest', i1, i2, i3, i4, i5, fun x hx => i6 x (List.mem_cons_of_mem _ hx)⟩
    · exact ⟨E, q :: r, h1, h2, hwd, fun p' r' he => by simp only [List.cons.injEq] at he; obtain ⟨rfl, rfl⟩ := he; exact g7, h4, fun _ h => h⟩
variable {E T Y : List En} {rest : List PI} {f : Ft} {listed : Array Bool} {a : Act} {w : World}
theorem getD_true {n : Nat} (hs : listed.size = n) {i : Nat} (hi : i < n) : listed.getD i true = listed.getD i false := by
  have : i < listed.size := by omega
  simp [Array.getD, this]
theorem Sim.inrest (s : Sim Γ ops pl hp0 E T rest) {x : En} (hx : x ∈ E) {p : PI} (hp : p ∈ rest) (h : x.i = p.i) : False := by
  have hn := s.ok.nd
  rw [s.eq, List.map_append, List.nodup_append] at hn
  exact hn.2.2 x.i (List.mem_map.2 ⟨x.f.p, by simpa using ⟨x, hx, rfl⟩, rfl⟩) p.i (List.mem_map.2 ⟨p, hp, rfl⟩) h
theorem Sim.ancT (s : Sim Γ ops pl hp0 E T rest) {p : PI} {o : Oper} (hp : p ∈ pl) (ho : ops[p.i]? = some o) (he : ∀ e ∈ o.after, Region.binds .any e = true → ∃ x ∈ T, x.i = e.on) : ∀ j, bitN p.an j = true → ∃ y ∈ T, y.i = j := fun j hj => by
  obtain ⟨a, b, hab⟩ := List.append_of_mem hp
  obtain ⟨e, h1, h2, h3⟩ := s.ok.anc a p b o j hab ho hj
  obtain ⟨x, hx, h4⟩ := he e h1 h2
  rcases h3 with rfl | ⟨q, hq, h5, h6⟩
  · exact ⟨x, hx, h4⟩
  · have : x.f.p = q := pi_uq s.ok (s.inpl (s.sub x hx)) (by rw [hab]; exact List.mem_append_left _ hq) (h4.trans h5.symm)
    exact s.cl x hx j (by rw [this]; exact h6)
theorem Inv8.done (I : Inv8 Γ ops pl hp0 sl0 k E T rest) (L : Ls ops listed T) (hr : Rel Γ ⟨slE T ++ sl0, hpE T ++ hp0⟩ a w) (h0 : Region.ready .any ops listed = []) : QQ Γ k .normal a w := by
  have s := I.sim
  have hall : ∀ (n : Nat) (x : List PI) (p : PI) (b : List PI), x.length = n → pl = x ++ p :: b → ∃ y ∈ T, y.i = p.i := by
    intro n
    induction n using Nat.strongRecOn with
    | _ n ih =>
      intro x p b hx he
      have hpm : p ∈ pl := by rw [he]; simp
      have hlt := s.ok.lt p hpm
      apply Classical.byContradiction
      intro hno
      have h1 : listed.getD p.i false = false := by
        cases hb : listed.getD p.i false with
        | false => rfl
        | true => exact absurd ((L.ls p.i hlt).1 hb) hno
      have h2 : p.i ∈ Region.ready .any ops listed := mem_ready.2 ⟨by rw [getD_true L.size hlt]; exact h1, _, Array.getElem?_eq_getElem hlt, fun e h3 h4 => by
        have h5 := s.ok.edge x p b _ e he (Array.getElem?_eq_getElem hlt) h3 h4
        obtain ⟨q, hq, h6⟩ := List.mem_map.1 h5
        obtain ⟨x1, x2, rfl⟩ := List.append_of_mem hq
        obtain ⟨y, hy, h7⟩ := ih x1.length (by simp at hx; omega) x1 q (x2 ++ p :: b) rfl (by rw [he]; simp)
        have h8 : q.i < ops.size := s.ok.lt q (by rw [he]; simp)
        rw [← h6]
        exact (L.ls q.i h8).2 ⟨y, hy, h7⟩⟩
      rw [h0] at h2; cases h2
  have hallp : ∀ p ∈ pl, ∃ y ∈ T, y.i = p.i := fun p hp => by
    obtain ⟨x, b, h⟩ := List.append_of_mem hp
    exact hall _ x p b rfl h
  have hrest : rest = [] := by
    cases hr : rest with
    | nil => rfl
    | cons p r =>
      obtain ⟨y, hy, h1⟩ := hallp p (by rw [s.eq, hr]; simp)
      exact (s.inrest (s.sub y hy) (p := p) (by rw [hr]; simp) h1).elim
  have hmem : ∀ x, x ∈ E ↔ x ∈ T := fun x => ⟨fun hx => by
    obtain ⟨y, hy, h1⟩ := hallp _ (s.inpl hx)
    rw [← uq_of s.ok s.eq (s.sub y hy) hx h1]; exact hy, s.sub x⟩
  obtain ⟨ρ, hr⟩ := hr
  have hwd := I.wd
  rw [hrest] at hwd
  refine ⟨_, hwd, ρ, hr.look (fun t => ?_) fun j => ?_⟩
  · simp only
    rw [look_append, look_append]
    by_cases hex : ∃ e ∈ E, e.o.dst = some t
    · obtain ⟨e, he, hd⟩ := hex
      have huq : ∀ x ∈ E, x.o.dst = some t → x = e := fun x hx hxd => uq_of s.ok s.eq hx he (s.ok.dst _ _ _ _ t (s.good.mem hx).1 (s.good.mem he).1 hxd hd)
      rw [slE_some hd huq he, slE_some hd (fun x hx => huq x (s.sub x hx)) ((hmem e).1 he)]
    · rw [slE_none fun e he hd => hex ⟨e, he, hd⟩, slE_none fun e he hd => hex ⟨e, s.sub e he, hd⟩]
  · simp only
    have hcm := s.good.cm j
    rw [look_append, look_append, hpE_eq (srt_of s.ok s.eq) s.srt hcm (fun x hx y hy => hcm x (s.sub x hx) y (s.sub y hy)) fun x _ => hmem x]
theorem Ls.next (L : Ls ops listed T) {e : En} (hi : e.i < ops.size) (hno : ∀ x ∈ T, x.i ≠ e.i) : Ls ops (listed.setIfInBounds e.i true) (e :: T) := by
  refine ⟨?_, by simpa using L.size, fun j hj => ?_⟩
  · simp only [List.map_cons, List.nodup_cons]
    refine ⟨fun hm => ?_, L.nodup⟩
    obtain ⟨x, hx, h1⟩ := List.mem_map.1 hm
    exact hno x hx h1
  · by_cases h : e.i = j
    · have h2 : j < listed.size := by rw [L.size]; exact hj
      have h3 : (listed.setIfInBounds e.i true).getD j false = true := by rw [h]; simp [Array.getD, h2]
      rw [h3]
      exact ⟨fun _ => ⟨e, List.mem_cons_self, h⟩, fun _ => rfl⟩
    · rw [getD_set_ne false h, L.ls j hj]
      constructor
      · rintro ⟨x, hx, h1⟩; exact ⟨x, List.mem_cons_of_mem _ hx, h1⟩
      · rintro ⟨x, hx, h1⟩
        rcases List.mem_cons.1 hx with rfl | hx
        · exact absurd h1 h
        · exact ⟨x, hx, h1⟩
theorem Sim.next (s : Sim Γ ops pl hp0 E T rest) {E' : List En} {rest' : List PI} {e : En} (h1 : pl = (E'.map (·.f.p)).reverse ++ rest') (h2 : Good Γ ops hp0 E') (hs : ∀ x ∈ E, x ∈ E') (he : e ∈ E') (hno : ∀ x ∈ T, x.i ≠ e.i) (han : ∀ j, bitN e.f.p.an j = true → ∃ y ∈ T, y.i = j) : Sim Γ ops pl hp0 E' (e :: T) rest' := by
  refine ⟨s.ok, h1, h2, fun x hx => ?_, fun x hx j hj => ?_, List.pairwise_cons.2 ⟨fun y hy hb => ?_, s.srt⟩⟩
  · rcases List.mem_cons.1 hx with rfl | hx
    · exact he
    · exact hs x (s.sub x hx)
  · rcases List.mem_cons.1 hx with rfl | hx
    · obtain ⟨y, hy, h3⟩ := han j hj; exact ⟨y, List.mem_cons_of_mem _ hy, h3⟩
    · obtain ⟨y, hy, h3⟩ := s.cl x hx j hj; exact ⟨y, List.mem_cons_of_mem _ hy, h3⟩
  · obtain ⟨z, hz, h3⟩ := s.cl y hy _ hb
    exact hno z hz h3
theorem sim_run : ∀ (fuel : Nat) {E T : List En} {rest : List PI} {listed : Array Bool} {a : Act} {w : World}, Inv8 Γ ops pl hp0 sl0 k E T rest → Ls ops listed T → Rel Γ ⟨slE T ++ sl0, hpE T ++ hp0⟩ a w → fuel + T.length = ops.size → wpAny Γ.P .any ops (QQ Γ k) fuel listed a w
  | 0, E, T, rest, listed, a, w, I, L, hr, hf => by
    have h0 : Region.ready .any ops listed = [] := by
      apply List.eq_nil_iff_forall_not_mem.2
      intro i hi
      obtain ⟨h1, o, h2, -⟩ := mem_ready.1 hi
      have hi := (Array.getElem?_eq_some_iff.1 h2).1
      have h3 := nodup_all ops.size (T.map (·.i)) L.nodup (fun x hx => by
        obtain ⟨e, he, rfl⟩ := List.mem_map.1 hx
        exact I.sim.ok.lt _ (I.sim.inpl (I.sim.sub e he))) (by simpa using hf) i hi
      obtain ⟨e, he, h4⟩ := List.mem_map.1 h3
      rw [getD_true L.size hi, (L.ls i hi).2 ⟨e, he, h4⟩] at h1; cases h1
    exact ⟨h0, I.done L hr h0⟩
  | fuel + 1, E, T, rest, listed, a, w, I, L, hr, hf => by
    refine ⟨fun h0 => I.done L hr h0, fun i hi => ?_⟩
    have s := I.sim
    obtain ⟨h1, o, ho, hed⟩ := mem_ready.1 hi
    have hi := (Array.getElem?_eq_some_iff.1 ho).1
    rw [getD_true L.size hi] at h1
    have hno : ∀ x ∈ T, x.i ≠ i := fun x hx h => by
      rw [(L.ls i hi).2 ⟨x, hx, h⟩] at h1; cases h1
    obtain ⟨p, hp, rfl⟩ := List.mem_map.1 (s.ok.all i hi)
    have hT : ∀ e ∈ o.after, Region.binds .any e = true → ∃ x ∈ T, x.i = e.on := fun e he hb => by
      obtain ⟨a1, b1, hab⟩ := List.append_of_mem hp
      have h5 := s.ok.edge a1 p b1 o e hab ho he hb
      obtain ⟨q, hq, h6⟩ := List.mem_map.1 h5
      have h7 : e.on < ops.size := by rw [← h6]; exact s.ok.lt q (by rw [hab]; exact List.mem_append_left _ hq)
      exact (L.ls _ h7).1 (hed e he hb)
    have han := s.ancT hp ho hT
    have hor : p ∈ (E.map (·.f.p)).reverse ∨ p ∈ rest := by rw [s.eq] at hp; exact List.mem_append.1 hp
    rcases hor with hpE' | hpr
    · have : ∃ e ∈ E, e.f.p = p := by simpa using hpE'
      obtain ⟨e, he, rfl⟩ := this
      obtain ⟨X, Y, hE⟩ := List.append_of_mem he
      obtain ⟨g1, g2, g3, g4, g5, g6, g7⟩ := s.good.at hE
      have hY : ∀ x ∈ Y, x ∈ E := fun x hx => by rw [hE]; simp [hx]
      have hplY : pl = (Y.map (·.f.p)).reverse ++ e.f.p :: ((X.map (·.f.p)).reverse ++ rest) := by rw [s.eq, hE]; simp
      have A : At8 Γ ops pl hp0 E T Y e.f := ⟨hY, g5, g4, fun x hx => by
        rw [hE] at hx
        rcases List.mem_append.1 hx with hx | hx
        · exact .inr (.inr (g7 x hx))
        · rcases List.mem_cons.1 hx with rfl | hx
          · exact .inr (.inl rfl)
          · exact .inl hx, han, fun j hj => by
        have := s.ok.anc_mem _ rfl hplY hj
        obtain ⟨q, hq, h2⟩ := List.mem_map.1 this
        have : ∃ y ∈ Y, y.f.p = q := by simpa using hq
        obtain ⟨y, hy, rfl⟩ := this
        exact ⟨y, hy, h2⟩, hno, srt_of s.ok hplY, hp, fun x hx hb => s.ok.noY hplY hx hb⟩
      have ho' : o = e.o := Option.some.inj (ho.symm.trans g2)
      subst ho'
      refine A.run (sl0 := sl0) s hr g2 g3 (I.dv X e Y hE hno) ?_
      rintro u h a' w' ⟨rfl, rfl⟩ hr'
      refine sim_run fuel (T := e :: T) (rest := rest) (E := E) ⟨s.next s.eq s.good (fun _ h => h) he hno han, I.wd, I.nd, fun X e Y h1 h2 => I.dv X e Y h1 fun x hx => h2 x (List.mem_cons_of_mem _ hx)⟩ (L.next hi hno) ?_ (by simp only [List.length_cons]; omega)
      rw [slE, put1_app, hpE, List.append_assoc]; exact hr'
    · cases hrest : rest with
      | nil => rw [hrest] at hpr; cases hpr
      | cons q r =>
        have hq : p = q := by
          rw [hrest] at hpr
          rcases List.mem_cons.1 hpr with h | h
          · exact h
          · have h2 := List.all_eq_true.1 (I.nd q r hrest) p h
            obtain ⟨y, hy, h3⟩ := han _ h2
            exact (s.inrest (s.sub y hy) (p := q) (by rw [hrest]; simp) h3).elim
        subst hq
        have hwd := I.wd
        rw [hrest] at hwd
        unfold WD at hwd
        obtain ⟨o', ks, ws, lo, nn, ψ, g1, g2, g3, g4, g5, g6, -, g8⟩ := hwd
        have ho' : o = o' := Option.some.inj (ho.symm.trans g1)
        subst ho'
        have hplE : pl = (E.map (·.f.p)).reverse ++ p :: r := by rw [s.eq, hrest]
        have A : At8 Γ ops pl hp0 E T E ⟨p, ks, ws, lo, nn⟩ := ⟨fun _ h => h, g4, g3, fun x hx => .inl hx, han, fun j hj => by
          have := s.ok.anc_mem _ rfl hplE hj
          obtain ⟨q, hq, h2⟩ := List.mem_map.1 this
          have : ∃ y ∈ E, y.f.p = q := by simpa using hq
          obtain ⟨y, hy, rfl⟩ := this
          exact ⟨y, hy, h2⟩, hno, srt_of s.ok s.eq, hp, fun x hx hb => s.ok.noY hplE hx hb⟩
        refine A.run (sl0 := sl0) s hr g1 g2 g5 ?_
        intro u h a' w' hψ hr'
        have e1 : slE ((⟨⟨p, ks, ws, lo, nn⟩, o, u, h⟩ : En) :: E) ++ sl0 = put1 o.dst u (slE E ++ sl0) := by rw [slE, put1_app]
        have e2 : hpE ((⟨⟨p, ks, ws, lo, nn⟩, o, u, h⟩ : En) :: E) ++ hp0 = h ++ (hpE E ++ hp0) := by rw [hpE, List.append_assoc]
        obtain ⟨E', rest', i1, i2, i3, i4, i5, i6⟩ := absorb (pl := pl) (k := k) (sl0 := sl0) (fun e => ∀ x ∈ (⟨⟨p, ks, ws, lo, nn⟩, o, u, h⟩ : En) :: T, x.i ≠ e.i) (rest := r) (E := ⟨⟨p, ks, ws, lo, nn⟩, o, u, h⟩ :: E) (by rw [hplE]; simp) (.cons s.good g1 g2 g3 g4 (g6 u h hψ)) (by rw [e1, e2]; exact g8 u h hψ) (fun X e Y he hp => by
          cases X with
          | nil =>
            simp only [List.nil_append, List.cons.injEq] at he
            obtain ⟨rfl, rfl⟩ := he
            exact absurd rfl (hp _ List.mem_cons_self)
          | cons x X =>
            simp only [List.cons_append, List.cons.injEq] at he
            obtain ⟨rfl, he⟩ := he
            exact I.dv X e Y he fun x hx => hp x (List.mem_cons_of_mem _ hx))
        refine sim_run fuel (T := ⟨⟨p, ks, ws, lo, nn⟩, o, u, h⟩ :: T) (rest := rest') (E := E') ⟨s.next i1 i2 (fun x hx => i6 x (List.mem_cons_of_mem _ hx)) (i6 _ List.mem_cons_self) hno han, i3, i4, i5⟩ (L.next (e := ⟨⟨p, ks, ws, lo, nn⟩, o, u, h⟩) hi hno) ?_ (by simp only [List.length_cons]; omega)
        rw [slE, put1_app, hpE, List.append_assoc]; exact hr'
end
theorem Rel.drawn {Γ : Cx} {st : St} {a : Act} {w : World} (h : Rel Γ st a w) (n : Nat) : Rel Γ st a { w with drawn := n } := by
  obtain ⟨ρ, hr⟩ := h
  have s := Step.same (B := Γ.B) st.hp ρ (w := w) (w' := { w with drawn := n }) rfl rfl rfl rfl
  have := hr.step (d := none) (u := .un) (v := undef) (fun _ _ h => h) s .un (by simp)
  exact ⟨ρ, this⟩
theorem wc_draw {Γ : Cx} {k : Kont} {id : Nat} {l : List Oper} {sl : List (Nat × V)} {hp : Hp} (pl : List PI) (hm : Γ.P.follows .mixedOrders = true) (hc : chkPe l pl = true) (h : WD Γ l.toArray k pl [] ⟨sl, hp⟩) : WC Γ (.region id l.toArray true) k ⟨sl, hp⟩ := fun a w hr => by
  refine wp_region_any hm ?_
  have ok := PlanOk.of hc
  obtain ⟨E, rest, i1, i2, i3, i4, i5, -⟩ := absorb (Γ := Γ) (ops := l.toArray) (pl := pl) (hp0 := hp) (sl0 := sl) (k := k) (fun e => ∀ x ∈ ([] : List En), x.i ≠ e.i) (rest := pl) (E := []) (by simp) .nil h (fun X e Y he => by simp at he)
  refine sim_run l.toArray.size (E := E) (T := []) (rest := rest) ⟨⟨ok, i1, i2, by simp, by simp, .nil⟩, i3, i4, i5⟩ ⟨by simp, by simp, fun i hi => ?_⟩ (hr.drawn _) (by simp)
  simp [Array.getD]
end Go.Proofs.YtlbnhhfaedhgfaaDoor
namespace Go.Proofs.YtlbnhhfaedhgfaaDoor
set_option linter.unusedSimpArgs false
set_option linter.unusedVariables false
open Go.RowKit

section
variable {Γ : Cx} {k : Kont} {sl : List (Nat × V)} {hp : Hp} {o : Oper} {ops : Array Oper} {lo nn i an d : Nat} {ts : List Nat} {r : List PI} {F : List Ft} {u : V} {h : Hp}
theorem wd_nil (h : WK Γ k .normal ⟨sl, hp⟩) : WD Γ ops k [] F ⟨sl, hp⟩ := h
theorem inW_1 (k : Nat) (b : Option Blk) : inW [(k, b)] [k] = true := by simp [inW, memN]
theorem inW_2 (k k' : Nat) (b b' : Option Blk) : inW [(k, b), (k', b')] [k, k'] = true := by
  simp only [inW, List.all_cons, List.all_nil, Bool.and_true, Bool.and_eq_true]
  exact ⟨memN_iff.2 (by simp), memN_iff.2 (by simp)⟩
def WO (Γ : Cx) (ops : Array Oper) (k : Kont) (o : Oper) (i an : Nat) (ts : List Nat) (r : List PI) (F : List Ft) (st : St) : Prop := ops[i]? = some o → WD Γ ops k (⟨i, an, ts⟩ :: r) F st
theorem wd_op (ho : ops[i]? = some o) (h : WO Γ ops k o i an ts r F ⟨sl, hp⟩) : WD Γ ops k (⟨i, an, ts⟩ :: r) F ⟨sl, hp⟩ := h ho
theorem wd_s (hd : o.dst = some d) (hdl : Nat.blt d Γ.nt = true) (hw : Wt ops o (keep ts sl) false) (hk : WD Γ ops k r (⟨⟨i, an, ts⟩, [], [], 0, 0⟩ :: F) ⟨(d, .t []) :: sl, hp⟩) (hf : okF ⟨⟨i, an, ts⟩, [], [], 0, 0⟩ F = true) : WO Γ ops k o i an ts r F ⟨sl, hp⟩ := fun ho =>
  ⟨o, [], [], 0, 0, fun u h => u = .t [] ∧ h = [], ho, fun t e => by rw [hd] at e; cases e; exact blt_lt hdl, fresh0 _ _, hf, .inr ⟨hw, rfl, rfl⟩, by rintro _ _ ⟨rfl, rfl⟩; rfl, .inl ⟨_, _, ⟨rfl, rfl⟩, fun _ _ h => h⟩, by rintro _ _ ⟨rfl, rfl⟩; rw [hd]; exact hk⟩
theorem wd_c {ks ws : List Nat} (hm : OpV Γ.P o (keep ks hp) (keep ts sl) lo nn fun u' h' => u' = u ∧ h' = h) (hd : o.dst = some d) (hw : Wt ops o (keep ts sl) true) (hdl : Nat.blt d Γ.nt = true) (hin : inW h ws = true) (hfr : freshB hp lo nn = true) (hf : okF ⟨⟨i, an, ts⟩, ks, ws, lo, nn⟩ F = true)
    (hk : WD Γ ops k r (⟨⟨i, an, ts⟩, ks, ws, lo, nn⟩ :: F) ⟨(d, u) :: sl, h ++ hp⟩) : WO Γ ops k o i an ts r F ⟨sl, hp⟩ := fun ho =>
  ⟨o, ks, ws, lo, nn, _, ho, fun t e => by rw [hd] at e; cases e; exact blt_lt hdl, hfr, hf, .inl ⟨hw, hm⟩, by rintro _ _ ⟨rfl, rfl⟩; exact hin, .inl ⟨_, _, ⟨rfl, rfl⟩, fun _ _ h => h⟩, by rintro _ _ ⟨rfl, rfl⟩; rw [hd]; exact hk⟩
theorem wd_v (ks ws : List Nat) {ψ : V → Hp → Prop} (hm : OpV Γ.P o (keep ks hp) (keep ts sl) lo nn ψ) (hd : o.dst = some d) (hw : Wt ops o (keep ts sl) true) (hdl : Nat.blt d Γ.nt = true) (hfr : freshB hp lo nn = true) (hf : okF ⟨⟨i, an, ts⟩, ks, ws, lo, nn⟩ F = true) (hnd : (r.all fun q => bitN q.an i) = true) (hin : ∀ u h, ψ u h → inW h ws = true)
    (hk : ∀ u h, ψ u h → WD Γ ops k r (⟨⟨i, an, ts⟩, ks, ws, lo, nn⟩ :: F) ⟨(d, u) :: sl, h ++ hp⟩) : WO Γ ops k o i an ts r F ⟨sl, hp⟩ := fun ho =>
  ⟨o, ks, ws, lo, nn, ψ, ho, fun t e => by rw [hd] at e; cases e; exact blt_lt hdl, hfr, hf, .inl ⟨hw, hm⟩, hin, .inr hnd, fun u h hψ => by rw [hd]; exact hk u h hψ⟩
theorem wd_r (ks : List Nat) (hm : OpD Γ.P o (keep ks hp) (keep ts sl) 0 0 u []) (hd : o.dst = some d) (hw : Wt ops o (keep ts sl) true) (hdl : Nat.blt d Γ.nt = true) (hf : okF ⟨⟨i, an, ts⟩, ks, [], 0, 0⟩ F = true) (hk : WD Γ ops k r (⟨⟨i, an, ts⟩, ks, [], 0, 0⟩ :: F) ⟨(d, u) :: sl, hp⟩) : WO Γ ops k o i an ts r F ⟨sl, hp⟩ := fun ho =>
  wd_c hm.v hd hw hdl rfl (fresh0 _ _) hf hk ho
theorem wd_1 (ks : List Nat) {e : Nat} {b : Option Blk} (hm : OpD Γ.P o (keep ks hp) (keep ts sl) lo nn u [(e, b)]) (hd : o.dst = some d) (hw : Wt ops o (keep ts sl) true) (hdl : Nat.blt d Γ.nt = true) (hfr : freshB hp lo nn = true) (hf : okF ⟨⟨i, an, ts⟩, ks, [e], lo, nn⟩ F = true)
    (hk : WD Γ ops k r (⟨⟨i, an, ts⟩, ks, [e], lo, nn⟩ :: F) ⟨(d, u) :: sl, (e, b) :: hp⟩) : WO Γ ops k o i an ts r F ⟨sl, hp⟩ := fun ho => wd_c hm.v hd hw hdl (inW_1 _ _) hfr hf hk ho
theorem wd_2 (ks : List Nat) {e e' : Nat} {b b' : Option Blk} (hm : OpD Γ.P o (keep ks hp) (keep ts sl) lo nn u [(e, b), (e', b')]) (hd : o.dst = some d) (hw : Wt ops o (keep ts sl) true) (hdl : Nat.blt d Γ.nt = true) (hfr : freshB hp lo nn = true) (hf : okF ⟨⟨i, an, ts⟩, ks, [e, e'], lo, nn⟩ F = true)
    (hk : WD Γ ops k r (⟨⟨i, an, ts⟩, ks, [e, e'], lo, nn⟩ :: F) ⟨(d, u) :: sl, (e, b) :: (e', b') :: hp⟩) : WO Γ ops k o i an ts r F ⟨sl, hp⟩ := fun ho => wd_c hm.v hd hw hdl (inW_2 _ _ _ _) hfr hf hk ho
theorem wd_0 (ks : List Nat) {e : Nat} {b : Option Blk} (hm : OpD Γ.P o (keep ks hp) (keep ts sl) 0 0 u [(e, b)]) (hd : o.dst = none) (hw : Wt ops o (keep ts sl) true) (hf : okF ⟨⟨i, an, ts⟩, ks, [e], 0, 0⟩ F = true)
    (hk : WD Γ ops k r (⟨⟨i, an, ts⟩, ks, [e], 0, 0⟩ :: F) ⟨sl, (e, b) :: hp⟩) : WO Γ ops k o i an ts r F ⟨sl, hp⟩ := fun ho =>
  ⟨o, ks, [e], 0, 0, fun u' h' => u' = u ∧ h' = [(e, b)], ho, fun t h => (by rw [hd] at h; cases h), fresh0 _ _, hf, .inl ⟨hw, hm.v⟩, by rintro _ _ ⟨rfl, rfl⟩; exact inW_1 _ _, .inl ⟨_, _, ⟨rfl, rfl⟩, fun _ _ h => h⟩, by rintro _ _ ⟨rfl, rfl⟩; rw [hd]; exact hk⟩

theorem WK.of_wk {Γ : Cx} : ∀ {k : Kont} {e : Exit} {st st' : St}, Wk Γ st' st → WK Γ k e st → WK Γ k e st' := by
  intro k
  induction k with
  | fn post => intro e st st' hw h; cases e <;> first | exact h.elim | (obtain ⟨s, h1, h2⟩ := h; exact ⟨s, hw.trans h1, h2⟩)
  | seq y k ih => intro e st st' hw h; cases e <;> first | exact fun a w hr => h a w (hw a w hr) | exact ih hw h
  | block id k ih =>
    intro e st st' hw h
    cases e with
    | exit id' =>
      simp only [WK] at h ⊢
      split
      · rename_i e; rw [if_pos e] at h; exact ih hw h
      · rename_i e; rw [if_neg e] at h; exact ih hw h
    | _ => exact ih hw h
  | loop I n k ih => intro e st st' hw h; cases e <;> first | (obtain ⟨m, s, h1, h2⟩ := h; exact ⟨m, s, hw.trans h1, h2⟩) | exact ih hw h
  | cut I k ih => intro e st st' hw h; cases e <;> first | (obtain ⟨s, h1, h2⟩ := h; exact ⟨s, hw.trans h1, h2⟩) | exact ih hw h
theorem SR.look {B : Nat → Prop} {sl sl' : List (Nat × V)} {ρ : Lc} {a : Act} {w : World} (h : SR B sl ρ a w) (hl : ∀ t, look sl' t = look sl t) : SR B sl' ρ a w := fun t u hu => h t u (by rw [← hl]; exact hu)
theorem Wt.look {ops : Array Oper} {o : Oper} {sl sl' : List (Nat × V)} {b : Bool} (h : Wt ops o sl b) (hl : ∀ t, look sl' t = look sl t) : Wt ops o sl' b := by
  cases h with
  | no h => exact .no h
  | y h1 h2 h3 h4 => exact .y h1 h2 h3 (by rw [hl]; exact h4)
  | n h1 h2 h3 h4 h5 => exact .n h1 h2 h3 (by rw [hl]; exact h4) h5
  | u h1 h2 h3 h4 => exact .u h1 h2 h3 (by rw [hl]; exact h4)
theorem WD.look : ∀ {pl : List PI} {F : List Ft} {sl sl' : List (Nat × V)} {hp : Hp}, (∀ t, Go.Proofs.YtlbnhhfaedhgfaaDoor.look sl' t = Go.Proofs.YtlbnhhfaedhgfaaDoor.look sl t) → WD Γ ops k pl F ⟨sl, hp⟩ → WD Γ ops k pl F ⟨sl', hp⟩
  | [], F, sl, sl', hp, hl, h => WK.of_wk (st := ⟨sl, hp⟩) (st' := ⟨sl', hp⟩) (fun a w ⟨ρ, hr⟩ => ⟨ρ, hr.look (fun t => (hl t).symm) fun _ => rfl⟩) h
  | p :: r, F, sl, sl', hp, hl, ⟨o, ks, ws, lo, nn, ψ, g1, g2, g3, g4, g5, g6, g7, g8⟩ => by
    have hk : ∀ t, Go.Proofs.YtlbnhhfaedhgfaaDoor.look (keep p.ts sl') t = Go.Proofs.YtlbnhhfaedhgfaaDoor.look (keep p.ts sl) t := fun t => by rw [look_keep, look_keep, hl]
    refine ⟨o, ks, ws, lo, nn, ψ, g1, g2, g3, g4, ?_, g6, g7, fun u h hψ => WD.look (fun t => ?_) (g8 u h hψ)⟩
    · rcases g5 with ⟨h1, h2⟩ | ⟨h1, h2⟩
      · exact .inl ⟨h1.look hk, fun B a w ρ e1 e2 e3 e4 e5 => h2 B a w ρ e1 e2 (e3.look fun t => (hk t).symm) e4 e5⟩
      · exact .inr ⟨h1.look hk, h2⟩
    · simp only [look_put1, hl]
theorem wd_split (t : Nat) {b : Bool} {pl : List PI} (hb : look sl t = some (vB b)) (ht : b = true → WD Γ ops k pl F ⟨(t, vB true) :: sl, hp⟩) (hf : b = false → WD Γ ops k pl F ⟨(t, vB false) :: sl, hp⟩) : WD Γ ops k pl F ⟨sl, hp⟩ := by
  have key : ∀ s, look sl s = look ((t, vB b) :: sl) s := fun s => by
    rw [look_cons]; split
    · subst_vars; exact hb
    · rfl
  refine WD.look key ?_
  cases b
  · exact hf rfl
  · exact ht rfl
theorem wd_gp {j t : Nat} {oj : Oper} {b c : Bool} (hg : o.guard = some (j, b)) (hj : ops[j]? = some oj) (ht : oj.dst = some t) (hb : look sl t = some (vB c)) (h1 : c = true → WO Γ ops k o i an ts r F ⟨(t, vB true) :: sl, hp⟩) (h2 : c = false → WO Γ ops k o i an ts r F ⟨(t, vB false) :: sl, hp⟩) : WO Γ ops k o i an ts r F ⟨sl, hp⟩ := fun ho => wd_split t hb (fun e => h1 e ho) fun e => h2 e ho
theorem wl_gs' {rest : List Oper} {j t : Nat} {oj : Oper} {b c : Bool} (hg : o.guard = some (j, b)) (hj : ops[j]? = some oj) (ht : oj.dst = some t) (hb : look sl t = some (vB c)) (hne : (b != c) = true) (hd : o.dst = some d) (hdl : Nat.blt d Γ.nt = true)
    (hk : WL Γ ops rest k ⟨(d, .t []) :: sl, hp⟩) : WL Γ ops (o :: rest) k ⟨sl, hp⟩ := fun a w ⟨ρ, hr⟩ => by
  unfold wpList
  have hne' : b ≠ c := by simpa using hne
  rw [if_neg (by simp [Region.wanted, hg, yields hr.sr hj ht hb]; exact fun e => hne' e.symm)]
  have := hr.step (d := some d) (u := .t []) (v := undef) (fun _ _ h => h) (Step.refl hp ρ w) (RV.t RVs.nil) (fun t e => by cases e; exact blt_lt hdl)
  rw [hd]
  exact hk _ _ ⟨ρ, this⟩
theorem wl_gu {rest : List Oper} {j t : Nat} {oj : Oper} {b : Bool} (hg : o.guard = some (j, b)) (hj : ops[j]? = some oj) (ht : oj.dst = some t) (hb : look sl t = some (.t [])) (hd : o.dst = some d) (hdl : Nat.blt d Γ.nt = true)
    (hk : WL Γ ops rest k ⟨(d, .t []) :: sl, hp⟩) : WL Γ ops (o :: rest) k ⟨sl, hp⟩ := fun a w ⟨ρ, hr⟩ => by
  unfold wpList
  rw [if_neg (by simp [Region.wanted, hg, yields_u hr.sr hj ht hb])]
  have := hr.step (d := some d) (u := .t []) (v := undef) (fun _ _ h => h) (Step.refl hp ρ w) (RV.t RVs.nil) (fun t e => by cases e; exact blt_lt hdl)
  rw [hd]
  exact hk _ _ ⟨ρ, this⟩
theorem wl_c {rest : List Oper} (hm : OpV Γ.P o hp sl lo nn fun u' h' => u' = u ∧ h' = h) (hg : o.guard = none) (hd : o.dst = some d) (hdl : Nat.blt d Γ.nt = true) (hf : freshB hp lo nn = true) (hk : WL Γ ops rest k ⟨(d, u) :: sl, h ++ hp⟩) : WL Γ ops (o :: rest) k ⟨sl, hp⟩ :=
  wl_v hm hg hd hdl hf (by rintro _ _ ⟨rfl, rfl⟩; exact hk)
end
section
variable {Γ : Cx} {k : Kont} {sl : List (Nat × V)} {hp : Hp} {o : Oper} {ops : Array Oper} {i an d : Nat} {ts : List Nat} {r : List PI} {F : List Ft} {u v : V} {T T' E : TypeId} {x y : Operand} {n kk off z m o1 : Nat} {ag : Bool} {cs cs' : List V}
theorem keep1 {α : Type} (k : Nat) (l : List (Nat × α)) : look (keep [k] l) k = look l k := by rw [look_keep]; simp [memN]
theorem wd_ld (hop : o.op = .load T x) (hx : ev (keep ts sl) x = some (.p kk off)) (hH : look hp kk = some (some (.box T' cs))) (hT : Ty Γ.P T n ag) (hl : (Nat.ble (off + n) cs.length && (ag || n == 1)) = true) (hu : ldC ag n off cs = some u)
    (hd : o.dst = some d) (hw : Wt ops o (keep ts sl) true) (hdl : Nat.blt d Γ.nt = true) (hf : okF ⟨⟨i, an, ts⟩, [kk], [], 0, 0⟩ F = true) (hk : WD Γ ops k r (⟨⟨i, an, ts⟩, [kk], [], 0, 0⟩ :: F) ⟨(d, u) :: sl, hp⟩) : WO Γ ops k o i an ts r F ⟨sl, hp⟩ :=
  wd_r [kk] (o_load hop hx (by rw [keep1]; exact hH) hT hl hu) hd hw hdl hf hk
theorem wd_lde {z m : Nat} (hop : o.op = .load T x) (hx : ev (keep ts sl) x = some (.e kk off)) (hH : look hp kk = some (some (.arr E z m cs))) (hT : Ty Γ.P T n ag) (hl : (Nat.ble (off + n) cs.length && (ag || n == 1)) = true) (hu : ldC ag n off cs = some u)
    (hd : o.dst = some d) (hw : Wt ops o (keep ts sl) true) (hdl : Nat.blt d Γ.nt = true) (hf : okF ⟨⟨i, an, ts⟩, [kk], [], 0, 0⟩ F = true) (hk : WD Γ ops k r (⟨⟨i, an, ts⟩, [kk], [], 0, 0⟩ :: F) ⟨(d, u) :: sl, hp⟩) : WO Γ ops k o i an ts r F ⟨sl, hp⟩ :=
  wd_r [kk] (o_loade hop hx (by rw [keep1]; exact hH) hT hl hu) hd hw hdl hf hk
theorem wd_st (hop : o.op = .store T x y) (hx : ev (keep ts sl) x = some (.p kk off)) (hy : ev (keep ts sl) y = some u) (hH : look hp kk = some (some (.box T' cs))) (hT : Ty Γ.P T n ag) (hl : (Nat.ble (off + n) cs.length && (cellsV u).length == n && (cellsV u).all cellV) = true) (hc : stV off (cellsV u) cs = cs')
    (hd : o.dst = none) (hw : Wt ops o (keep ts sl) true) (hf : okF ⟨⟨i, an, ts⟩, [kk], [kk], 0, 0⟩ F = true) (hk : WD Γ ops k r (⟨⟨i, an, ts⟩, [kk], [kk], 0, 0⟩ :: F) ⟨sl, (kk, some (.box T' cs')) :: hp⟩) : WO Γ ops k o i an ts r F ⟨sl, hp⟩ :=
  wd_0 [kk] (o_store hop hx hy (by rw [keep1]; exact hH) hT hl hc) hd hw hf hk
theorem wd_lenh {t E' : TypeId} {z' bytes len : Nat} [hS : Sl Γ.P t E z bytes] (hop : o.op = .call { callee := .builtin .len, args := #[x], argTypes := #[t] }) (hx : ev (keep ts sl) x = some (.h kk)) (hH : look hp kk = some (some (.arr E' z' len cs)))
    (hd : o.dst = some d) (hw : Wt ops o (keep ts sl) true) (hdl : Nat.blt d Γ.nt = true) (hf : okF ⟨⟨i, an, ts⟩, [kk], [], 0, 0⟩ F = true) (hk : WD Γ ops k r (⟨⟨i, an, ts⟩, [kk], [], 0, 0⟩ :: F) ⟨(d, vI len) :: sl, hp⟩) : WO Γ ops k o i an ts r F ⟨sl, hp⟩ :=
  wd_r [kk] (o_len_h hop hx (by rw [keep1]; exact hH)) hd hw hdl hf hk
end
theorem o_call1 {P : Program} {o : Oper} {H H0 : Hp} {sl : List (Nat × V)} {f : FuncId} {us uc : List V} {x : Operand} {xs : Array Operand} {ats : Array TypeId} {u u' : V} {h h' : Hp} (M : Nat) (g : List (Nat × Nat)) (hs : Spec P f us H0 fun u1 h1 => u1 = u ∧ h1 = h)
    (hop : o.op = .call { callee := .value x, args := xs, argTypes := ats }) (hx : ev sl x = some (.d (.c (.func (.func f) #[] #[])))) (ha : evl sl xs.toList = some uc) (hv : Vws [] g uc us) (hH : VH [] H g H0)
    (hal : aliveB H g = true) (hol : olds g = true) (hlv : (g.all fun e => Nat.blt e.1 100 && match look H0 e.1 with | some (some _) => true | _ => false) = true) (hu : u.ren (rn g M) = u') (hh : renH (rn g M) h = h') :
    OpV P o H sl M 100 fun u1 h1 => u1 = u' ∧ h1 = h' :=
  (o_call M g hs hop hx ha hv hH hal hol hlv).mono (by rintro _ _ ⟨_, _, ⟨rfl, rfl⟩, rfl, rfl⟩; exact ⟨hu, hh⟩)
theorem o_callp {P : Program} {o : Oper} {H : Hp} {sl : List (Nat × V)} {f : FuncId} {us uc : List V} {x : Operand} {xs : Array Operand} {ats : Array TypeId} {u u' : V} (M : Nat) (hs : Spec P f us [] fun u1 h1 => u1 = u ∧ h1 = [])
    (hop : o.op = .call { callee := .value x, args := xs, argTypes := ats }) (hx : ev sl x = some (.d (.c (.func (.func f) #[] #[])))) (ha : evl sl xs.toList = some uc) (hv : Vws [] [] uc us) (hu : u.ren (rn [] M) = u') :
    OpV P o H sl M 100 fun u1 h1 => u1 = u' ∧ h1 = [] := o_call1 M [] hs hop hx ha hv VH.nil rfl rfl rfl hu rfl
end Go.Proofs.YtlbnhhfaedhgfaaDoor
namespace Go.Proofs.YtlbnhhfaedhgfaaDoor
set_option linter.unusedSimpArgs false
set_option linter.unusedVariables false
open Go.RowKit
attribute [local simp] Sem.run_bind Sem.run_pure Result.andThen_ok

abbrev lst {α : Type} (f : α → List D) (xs : List α) : D := .l xs.length (xs.flatMap f)
theorem flat_at {α : Type} {f : α → List D} {z : Nat} (hf : ∀ a, (f a).length = z) : ∀ {xs : List α} {m : Nat} {a : α}, xs[m]? = some a → ∀ j d, (f a)[j]? = some d → (xs.flatMap f)[m * z + j]? = some d
  | [], m, a, h, _, _, _ => by simp at h
  | x :: xs, 0, a, h, j, d, hj => by
    simp only [List.getElem?_cons_zero, Option.some.injEq] at h; subst h
    rw [List.flatMap_cons, Nat.zero_mul, Nat.zero_add, List.getElem?_append_left (List.getElem?_eq_some_iff.1 hj).1]; exact hj
  | x :: xs, m + 1, a, h, j, d, hj => by
    have e : (m + 1) * z + j = z + (m * z + j) := by rw [Nat.add_mul]; omega
    rw [List.flatMap_cons, List.getElem?_append_right (by rw [hf]; omega), hf, show (m + 1) * z + j - z = m * z + j by omega]
    exact flat_at hf (by simpa using h) j d hj
theorem flat_len {α : Type} {f : α → List D} {z : Nat} (hf : ∀ a, (f a).length = z) : ∀ xs : List α, (xs.flatMap f).length = xs.length * z
  | [] => by simp
  | x :: xs => by rw [List.flatMap_cons, List.length_append, hf, flat_len hf xs, List.length_cons, Nat.add_mul]; omega
theorem flat_drop {α : Type} {f : α → List D} {z : Nat} (hf : ∀ a, (f a).length = z) : ∀ (xs : List α) (n : Nat), (xs.flatMap f).drop (n * z) = (xs.drop n).flatMap f
  | xs, 0 => by simp
  | [], n + 1 => by simp
  | x :: xs, n + 1 => by
    rw [List.flatMap_cons, List.drop_succ_cons, ← flat_drop hf xs n, Nat.add_mul, Nat.one_mul, Nat.add_comm, ← List.drop_drop]
    congr 1
    exact List.drop_left' (hf x)
theorem flat_take {α : Type} {f : α → List D} {z : Nat} (hf : ∀ a, (f a).length = z) : ∀ (xs : List α) (n : Nat), (xs.flatMap f).take (n * z) = (xs.take n).flatMap f
  | xs, 0 => by simp
  | [], n + 1 => by simp
  | x :: xs, n + 1 => by
    rw [List.flatMap_cons, List.take_succ_cons, List.flatMap_cons, ← flat_take hf xs n, Nat.add_mul, Nat.one_mul, Nat.add_comm]
    rw [List.take_append, hf, List.take_of_length_le (by rw [hf]; omega)]
    congr 2; omega

section
variable {P : Program} {o : Oper} {H : Hp} {sl : List (Nat × V)} {u ux uy : V} {h : Hp} {x y : Operand} {T T' U E t : TypeId} {n k z off bytes m : Nat} {i : Int} {ag : Bool} {cs cs' : List V}
theorem o_ixe {α : Type} {f : α → List D} {xs : List α} {ys : List D} [hS : Sl P t E z bytes] (hop : o.op = .indexAddr t x y) (hx : ev sl x = some (.d (lst f xs))) (hy : ev sl y = some (vI i)) (hf : ∀ a, (f a).length = z) (hm : i = (m : Int)) (hl : m < xs.length) (hz : f (xs[m]'hl) = ys) : OpD P o H sl 0 0 (.q ys) [] := by
  subst hz
  exact o_ixq hop hx hy hm hl (flat_at hf (List.getElem?_eq_getElem hl))

theorem fillV_rel {w : World} {ok : Nat → Prop} {ρ : Lc} {pl : List (Nat × Nat)} {place : Nat → Option (Nat × Nat)} (hpl : ∀ i x, pl[i]? = some x → place i = some x) : ∀ {ps : List (Nat × V)} {vs : List (Nat × Value)} {c : List V} {us : List Value} {out : List V}, fillV pl c ps = some out → ps.length = vs.length → (∀ (j i : Nat) (u : V), ps[j]? = some (i, u) → ∃ v, vs[j]? = some (i, v) ∧ RV w ok ρ u v) → RVs w ok ρ c us → us.all Value.oneCell' = true →
    ∃ os : List Value, Instr.fill place us.toArray vs = some os.toArray ∧ RVs w ok ρ out os ∧ os.all Value.oneCell' = true
  | [], [], c, us, out, h, _, _, hc, h1 => by simp only [fillV, Option.some.injEq] at h; subst h; exact ⟨us, rfl, hc, h1⟩
  | [], v :: vs, c, us, out, h, hl, _, _, _ => by simp at hl
  | (i, u) :: ps, [], c, us, out, h, hl, _, _, _ => by simp at hl
  | (i, u) :: ps, (i', v) :: vs, c, us, out, h, hl, hr, hc, h1 => by
    obtain ⟨v0, h2, h3⟩ := hr 0 i u rfl
    simp only [List.getElem?_cons_zero, Option.some.injEq, Prod.mk.injEq] at h2
    obtain ⟨e1, e2⟩ := h2
    subst e1
    subst e2
    simp only [fillV] at h
    split at h
    · rename_i off n hp
      cases hb : (((cellsV u).length == n && Nat.ble (off + n) c.length) && (cellsV u).all cellV) with
      | false => rw [hb] at h; cases h
      | true =>
        rw [hb, cond_true] at h
        simp only [Bool.and_eq_true, beq_iff_eq, Nat.ble_eq] at hb
        obtain ⟨⟨g1, g2⟩, g3⟩ := hb
        obtain ⟨h4, h5⟩ := h3.cells g3
        have hlen := h4.length
        have hclen := hc.length
        obtain ⟨os, h6, h7, h8⟩ := fillV_rel hpl (ps := ps) (vs := vs) h (by simpa using hl) (fun j i u hj => by
          obtain ⟨v, h9, h10⟩ := hr (j + 1) i u (by simpa using hj)
          exact ⟨v, by simpa using h9, h10⟩) (stV_rel off h4 hc) (stL_one off h5 h1)
        refine ⟨os, ?_, h7, h8⟩
        simp only [Instr.fill, hpl _ _ hp]
        have hsz : v.cells.size = n := by rw [← Array.length_toList, hlen]; exact g1
        rw [if_neg (by simp [hsz]; omega)]
        have : v.cells.zipIdx.foldl (fun cs (x : Value × Nat) => cs.setIfInBounds (off + x.2) x.1) us.toArray = (stL off v.cells.toList us).toArray := by
          have := set_fold v.cells.toList 0 off us.toArray (by simp only [List.size_toArray, Array.length_toList]; omega)
          rw [stL_eq off v.cells.toList us (by simp only [Array.length_toList, hsz]; omega)]
          rw [← Array.foldl_toList, Array.toList_zipIdx]
          simpa using this
        rw [this]; exact h6
    · cases h
theorem evs_spec {B : Nat → Prop} {ρ : Lc} {a : Act} {w : World} (hs : SR B sl ρ a w) : ∀ {ps : List (Nat × Operand)} {l : List (Nat × V)}, evs sl ps = some l → l.length = ps.length ∧ ∀ (j i : Nat) (u : V), l[j]? = some (i, u) → ∃ v, (ps.map fun p => (p.1, a.eval p.2))[j]? = some (i, v) ∧ RV w (okb B w ρ) ρ u v
  | [], l, h => by simp only [evs, Option.some.injEq] at h; subst h; simp
  | (i, x) :: r, l, h => by
    simp only [evs] at h
    split at h
    · rename_i u l' h1 h2
      obtain rfl := Option.some.inj h
      obtain ⟨h3, h4⟩ := evs_spec hs h2
      refine ⟨by simp [h3], fun j i' u' hj => ?_⟩
      cases j with
      | zero =>
        simp only [List.getElem?_cons_zero, Option.some.injEq, Prod.mk.injEq] at hj
        obtain ⟨rfl, rfl⟩ := hj
        exact ⟨_, rfl, ev_spec hs h1⟩
      | succ j => simpa using h4 j i' u' (by simpa using hj)
    · cases h
theorem places_run {w : World} {fs : Array Field} {pl : List (Nat × Nat)} (h : (fs.toList.mapM fun fd => (P.info? fd.type).map fun i => (fd.offset, i.size)) = some pl) :
    (fs.mapM fun f => (do pure (f.offset, ← sizeOf f.type) : Sem (Nat × Nat))).run P w = .ok pl.toArray w := by
  have key : ∀ (l : List Field) (pl : List (Nat × Nat)), (l.mapM fun fd => (P.info? fd.type).map fun i => (fd.offset, i.size)) = some pl → (l.mapM fun f => (do pure (f.offset, ← sizeOf f.type) : Sem (Nat × Nat))).run P w = .ok pl w := by
    intro l
    induction l with
    | nil => intro pl h; simp at h; subst h; simp
    | cons f l ih =>
      intro pl h
      simp only [List.mapM_cons] at h
      cases hi : P.info? f.type with
      | none => simp [hi] at h
      | some i =>
        cases hl : l.mapM fun fd => (P.info? fd.type).map fun i => (fd.offset, i.size) with
        | none => simp [hi, hl] at h
        | some pl' =>
          simp [hi, hl] at h
          subst h
          have h1 := ih pl' hl
          have h2 : (do pure (f.offset, ← sizeOf f.type) : Sem (Nat × Nat)).run P w = .ok (f.offset, i.size) w := by simp [sizeOf, typeInfo, hi]
          rw [List.mapM_cons, Sem.run_bind]
          rw [h2]
          simp only [Result.andThen_ok]
          rw [Sem.run_bind, h1]
          simp
  have e : (fs.mapM fun f => (do pure (f.offset, ← sizeOf f.type) : Sem (Nat × Nat))) = (do let l ← fs.toList.mapM fun f => (do pure (f.offset, ← sizeOf f.type) : Sem (Nat × Nat)); pure l.toArray) := by
    obtain ⟨l⟩ := fs
    simp
  rw [e]
  simp only [Sem.run_bind, key _ _ h, Result.andThen_ok, Sem.run_pure]
theorem o_build {parts : Array (Nat × Operand)} {pl : List (Nat × Nat)} {zs : List Value} {l : List (Nat × V)} {out : List V} [hB : Bd P T pl zs] (hop : o.op = .build T parts) (hl : evs sl parts.toList = some l) (h1 : zs.all Value.oneCell' = true) (hf : fillV pl (zs.map fun v => V.d (.c v)) l = some out) : OpD P o H sl 0 0 (.a out) [] := .read fun B a w ρ hs _ => by
  obtain ⟨g1, g2⟩ := evs_spec hs hl
  have hp := hB.pl
  unfold places at hp
  cases hu : P.underlying T with
  | none => simp [hu] at hp
  | some d =>
    cases d <;> first | (simp [hu] at hp; done) | skip
    rename_i fs
    simp only [hu] at hp
    obtain ⟨os, h3, h4, h5⟩ := fillV_rel (w := w) (ok := okb B w ρ) (ρ := ρ) (pl := pl) (place := (pl.toArray[·]?)) (fun i x h => by simpa using h) (vs := (parts.toList.map fun p => (p.1, a.eval p.2))) hf (by rw [g1]; simp) g2 (rvs_c fun v hv => List.all_eq_true.1 h1 v hv) h1
    refine ⟨.agg os.toArray, ?_, .a h4⟩
    unfold execOp; rw [hop]
    have hz := hB.z
    unfold ZeroIs at hz
    cases hi : P.info? T with
    | none => simp [hi] at hz
    | some i =>
    cases hzv : i.zero with
    | none => simp [hi, hzv] at hz
    | some zv =>
    simp only [hi, hzv, Option.bind_some, Option.map_some, Option.some.injEq] at hz
    have hzc : zv.cells = zs.toArray := by rw [← hz]
    simp only [Instr.build, zeroValue, typeInfo, program, Sem.run_bind, Sem.run, hi, Sem.run_pure, Result.andThen_ok, hzv, run_underlying hu, places_run hp]
    have e : (parts.map fun (i, x) => (i, a.eval x)).toList = parts.toList.map fun p => (p.1, a.eval p.2) := by simp
    rw [e, hzc, h3]
    simp
def chkPl (z : Nat) : Nat → List (Nat × Nat) → Bool
  | _, [] => true
  | k, x :: r => (x.1 == k * z && x.2 == z) && chkPl z (k + 1) r
theorem chkPl_at {z : Nat} : ∀ {pl : List (Nat × Nat)} {k : Nat}, chkPl z k pl = true → ∀ i x, pl[i]? = some x → x = ((k + i) * z, z)
  | [], k, _, i, x, h => by simp at h
  | y :: r, k, hc, i, x, h => by
    simp only [chkPl, Bool.and_eq_true, beq_iff_eq] at hc
    cases i with
    | zero =>
      simp only [List.getElem?_cons_zero, Option.some.injEq] at h; subst h
      exact Prod.ext hc.1.1 hc.1.2
    | succ i =>
      have := chkPl_at hc.2 i x (by simpa using h)
      rw [this, show k + 1 + i = k + (i + 1) by omega]
class Ab (P : Program) (T : TypeId) (pl : outParam (List (Nat × Nat))) (zs : outParam (List Value)) : Prop where
  out : ∃ len E z, P.underlying T = some (.array len E) ∧ (P.info? E).map (·.size) = some z ∧ chkPl z 0 pl = true
  z : ZeroIs P T zs
theorem o_builda {parts : Array (Nat × Operand)} {pl : List (Nat × Nat)} {zs : List Value} {l : List (Nat × V)} {out : List V} [hB : Ab P T pl zs] (hop : o.op = .build T parts) (hl : evs sl parts.toList = some l) (h1 : zs.all Value.oneCell' = true) (hf : fillV pl (zs.map fun v => V.d (.c v)) l = some out) : OpD P o H sl 0 0 (.a out) [] := .read fun B a w ρ hs _ => by
  obtain ⟨g1, g2⟩ := evs_spec hs hl
  obtain ⟨len, E, z, hu, hE, hc⟩ := hB.out
  obtain ⟨os, h3, h4, h5⟩ := fillV_rel (w := w) (ok := okb B w ρ) (ρ := ρ) (pl := pl) (place := fun i => some (i * z, z)) (fun i x h => by have := chkPl_at hc i x h; simp at this; simp [this]) (vs := (parts.toList.map fun p => (p.1, a.eval p.2))) hf (by rw [g1]; simp) g2 (rvs_c fun v hv => List.all_eq_true.1 h1 v hv) h1
  refine ⟨.agg os.toArray, ?_, .a h4⟩
  unfold execOp; rw [hop]
  have hz := hB.z
  unfold ZeroIs at hz
  cases hi : P.info? T with
  | none => simp [hi] at hz
  | some i =>
  cases hzv : i.zero with
  | none => simp [hi, hzv] at hz
  | some zv =>
  cases hie : P.info? E with
  | none => simp [hie] at hE
  | some ie =>
  simp only [hie, Option.map_some, Option.some.injEq] at hE
  simp only [hi, hzv, Option.bind_some, Option.map_some, Option.some.injEq] at hz
  have hzc : zv.cells = zs.toArray := by rw [← hz]
  simp only [Instr.build, zeroValue, sizeOf, typeInfo, program, Sem.run_bind, Sem.run, hi, hie, Sem.run_pure, Result.andThen_ok, hzv, run_underlying hu]
  have e : (parts.map fun (i, x) => (i, a.eval x)).toList = parts.toList.map fun p => (p.1, a.eval p.2) := by simp
  rw [e, hzc, hE, h3]
  simp
end
end Go.Proofs.YtlbnhhfaedhgfaaDoor
namespace Go.Proofs.YtlbnhhfaedhgfaaDoor
set_option linter.unusedSimpArgs false
set_option linter.unusedVariables false
open Go.RowKit
attribute [local simp] Sem.run_bind Sem.run_pure Result.andThen_ok

abbrev arrT {α : Type} (E : TypeId) (z : Nat) (f : α → List D) (xs : List α) : Blk := .arr E z xs.length ((xs.flatMap f).map V.d)
def hdk : Option Nat → Hp
  | none => []
  | some k => [(k, none)]
theorem Step.arr {B : Nat → Prop} {H : Hp} {ρ : Lc} {w w' : World} {k : Nat} {l : Loc} {blk : Blk} (ko : Option Nat) (hk : ρ k = none) (h1 : w'.os = w.os) (h2 : w'.tape = w.tape) (h3 : w'.output = w.output) (hs : w.heap.size ≤ w'.heap.size)
    (hkeep : ∀ b, b < w.heap.size → (∀ k0 l0, ko = some k0 → ρ k0 = some l0 → l0.bl ≠ some b) → w'.heap[b]? = w.heap[b]?) (hl : ∀ b, l.bl = some b → (w.heap.size ≤ b ∧ b < w'.heap.size) ∨ ∃ k0 l0, ko = some k0 ∧ ρ k0 = some l0 ∧ l0.bl = some b)
    (hH : ∀ k0, ko = some k0 → k0 ≠ k ∧ ∃ blk, look H k0 = some (some blk)) (hrel : ∀ ok' ρ', Stl w w' (okb B w ρ) ok' → Ext ρ ρ' → blk.rel w' ok' ρ' l) : Step B H (hdk ko ++ [(k, some blk)]) ρ (upd ρ k l) w w' := by
  have hst : Stl w w' (okb B w ρ) (okb B w' (upd ρ k l)) := fun b ⟨hb, hB, ho⟩ => ⟨⟨by omega, hB, fun j l' hj e => by
    rcases upd_case hj with ⟨-, rfl⟩ | hj
    · rcases hl b e with h | ⟨k0, l0, -, h5, h6⟩
      · omega
      · exact ho k0 l0 h5 h6
    · exact ho j l' hj e⟩, hkeep b hb fun k0 l0 _ h5 => ho k0 l0 h5⟩
  have hlk : ∀ j x, look (hdk ko ++ [(k, some blk)]) j = some (some x) → j = k ∧ x = blk := fun j x hj => by
    cases ko with
    | none =>
      obtain ⟨h, e⟩ := look_one' hj
      exact ⟨h, Option.some.inj e⟩
    | some k0 =>
      simp only [hdk, List.cons_append, List.nil_append, look_cons] at hj
      split at hj
      · cases hj
      · obtain ⟨h, e⟩ := look_one' (x := some blk) (k := k) (by rw [look_cons]; exact hj)
        exact ⟨h, Option.some.inj e⟩
  have hkk : look (hdk ko ++ [(k, some blk)]) k = some (some blk) := by
    cases ko with
    | none => simp [hdk, look_cons]
    | some k0 => simp [hdk, look_cons, (hH k0 rfl).1]
  have hko : ∀ k0, ko = some k0 → look (hdk ko ++ [(k, some blk)]) k0 = some none := fun k0 e => by subst e; simp [hdk, look_cons]
  refine ⟨h1, h2, h3, hs, upd_ext hk, fun j l' hj => ?_, fun b hb hn => hkeep b hb fun k0 l0 e h5 => hn k0 l0 (by rw [hko k0 e]; simp) h5, fun j hj hn => ?_, fun j blk' hj => ?_, fun j j' _ _ _ _ _ hj hj' _ _ _ _ => (hlk j _ hj).1.trans (hlk j' _ hj').1.symm⟩
  · rcases upd_case hj with ⟨rfl, rfl⟩ | hj
    · refine .inr ⟨hk, by rw [hkk]; simp, fun b e => ?_⟩
      rcases hl b e with h | ⟨k0, l0, e0, h5, h6⟩
      · exact .inl h
      · exact .inr ⟨k0, l0, hko k0 e0, h5, h6⟩
    · exact .inl hj
  · cases ko with
    | none =>
      obtain rfl := look_one hj
      exact absurd hk hn
    | some k0 =>
      by_cases e : k0 = j
      · subst e; exact (hH k0 rfl).2
      · have : look [(k, some blk)] j ≠ none := by
          simp only [hdk, List.cons_append, List.nil_append] at hj
          rw [look_cons, if_neg e] at hj; exact hj
        obtain rfl := look_one this
        exact absurd hk hn
  · obtain ⟨rfl, rfl⟩ := hlk j _ hj
    exact ⟨l, upd_self _ _ _, hrel _ _ hst (upd_ext hk)⟩

def srcD : D → Option (Nat × List V)
  | .l m xs => some (m, xs.map .d)
  | .c (.slice none 0 0) => some (0, [])
  | .c _ => none
  | .m _ => none
def srcV (H : Hp) : V → Option (Nat × List V)
  | .d x => srcD x
  | .h k => match look H k with
    | some (some (.arr _ _ n cs)) => some (n, cs)
    | _ => none
  | .s k o m z => match look H k with
    | some (some (.arr _ _ _ cs)) => some (m, (cs.drop (o * z)).take (m * z))
    | _ => none
  | _ => none
theorem srcV_spec {B : Nat → Prop} {H : Hp} {ρ : Lc} {w : World} (hr : HR B H ρ w) {u : V} {v : Value} {m : Nat} {ws : List V} (hu : srcV H u = some (m, ws)) (hv : RV w (okb B w ρ) ρ u v) :
    ∃ p c, v = .slice p m c ∧ m ≤ c ∧ (m = 0 ∨ ∃ b o us, p = some ⟨b, o, none⟩ ∧ b < w.heap.size ∧ RVs w (okb B w ρ) ρ ws us ∧ us.all Value.oneCell' = true ∧ ∀ j x, us[j]? = some x → w.cell? ⟨b, o + j, none⟩ = some x) := by
  cases hv with
  | d hv =>
    cases hv with
    | m _ _ _ => simp [srcV, srcD] at hu
    | c h1 =>
      simp only [srcV, srcD] at hu
      split at hu
      · rename_i h; cases h
      · rename_i h; cases h
        simp only [Option.some.injEq, Prod.mk.injEq] at hu
        obtain ⟨rfl, rfl⟩ := hu
        exact ⟨none, 0, rfl, Nat.le_refl _, .inl rfl⟩
      · cases hu
      · cases hu
    | nil p c =>
      simp only [srcV, srcD, Option.some.injEq, Prod.mk.injEq] at hu
      obtain ⟨rfl, rfl⟩ := hu
      exact ⟨p, c, rfl, Nat.zero_le _, .inl rfl⟩
    | l h1 _ h2 h3 h4 =>
      simp only [srcV, srcD, Option.some.injEq, Prod.mk.injEq] at hu
      obtain ⟨rfl, rfl⟩ := hu
      exact ⟨_, _, rfl, h1, .inr ⟨_, _, _, rfl, h2.1, h3.toV, h3.one, h4⟩⟩
  | h hp =>
    simp only [srcV] at hu
    split at hu <;> first | (cases hu; done) | skip
    rename_i E z n cs hH
    simp only [Option.some.injEq, Prod.mk.injEq] at hu
    obtain ⟨rfl, rfl⟩ := hu
    obtain ⟨l, h1, h2⟩ := hr.rel _ _ hH
    rw [hp] at h1; obtain rfl := Option.some.inj h1
    rcases h2 with ⟨h3, rfl, rfl⟩ | ⟨g, cap, us, sp, h3, h4, h5, h6, h7, h8, h0, h9⟩
    · cases h3; exact ⟨_, _, rfl, Nat.le_refl _, .inl rfl⟩
    · cases h3
      exact ⟨_, _, rfl, h4, .inr ⟨g, 0, us, rfl, hr.lt _ _ g hp rfl, h9, h0, fun j x hj => by rw [Nat.zero_add, World.cell?, h6]; simp [List.getElem?_append_left (List.getElem?_eq_some_iff.1 hj).1, hj]⟩⟩
  | s hp hl hc =>
    simp only [srcV] at hu
    split at hu <;> first | (cases hu; done) | skip
    rename_i E z n cs hH
    simp only [Option.some.injEq, Prod.mk.injEq] at hu
    obtain ⟨rfl, rfl⟩ := hu
    obtain ⟨l, h1, h2⟩ := hr.rel _ _ hH
    rw [hp] at h1; obtain rfl := Option.some.inj h1
    rcases h2 with ⟨h3, rfl, rfl⟩ | ⟨g, cap, us, sp, h3, h4, h5, h6, h7, h8, h0, h9⟩
    · cases h3
    · cases h3
      refine ⟨_, _, rfl, by omega, .inr ⟨_, _, _, rfl, hr.lt _ _ _ hp rfl, (h9.drop _).take _, ?_, fun j x hj => ?_⟩⟩
      · exact List.all_eq_true.2 fun x hx => List.all_eq_true.1 h0 x (List.mem_of_mem_drop (List.mem_of_mem_take hx))
      · rw [List.getElem?_take] at hj
        split at hj
        · simp only [List.getElem?_drop] at hj
          rw [World.cell?, h6]
          simp [List.getElem?_append_left (List.getElem?_eq_some_iff.1 hj).1, hj]
        · cases hj
  | s0 =>
    simp only [srcV] at hu
    split at hu <;> first | (cases hu; done) | skip
    simp only [Option.some.injEq, Prod.mk.injEq] at hu
    obtain ⟨rfl, rfl⟩ := hu
    exact ⟨_, _, rfl, Nat.zero_le _, .inl rfl⟩
  | _ => simp [srcV] at hu

section
variable {P : Program} {o : Oper} {H : Hp} {sl : List (Nat × V)} {u ux uy : V} {h : Hp} {x y : Operand} {T T' U E t : TypeId} {n k z off bytes m : Nat} {i : Int} {ag : Bool} {cs cs' ws : List V}
set_option maxHeartbeats 1000000 in
theorem o_append_h (k' : Nat) [hS : Sl P t E z bytes] (hop : o.op = .call { callee := .builtin .append, args := #[x, y], argTypes := #[t, t] }) (hx : ev sl x = some (.h k)) (hy : ev sl y = some uy) (hH : look H k = some (some (.arr E z n cs))) (hsrc : srcV H uy = some (m, ws)) (hws : ws.length = m * z)
    (hb : (n + m) * bytes ≤ 140737488355328) (hm : n + m ≤ 9223372036854775807) (hkk : (!Nat.beq k k') = true) : OpD P o H sl k' 1 (.h k') [(k, none), (k', some (.arr E z (n + m) (cs ++ ws)))] := fun B a w ρ hs hr hfr => by
  have hfr := hfr k' (Nat.le_refl _) (by omega)
  have hkk : k ≠ k' := fun e => by subst e; simp at hkk
  obtain ⟨i, zv, hi, hz, rfl, rfl, hzs⟩ := hS.el
  have ht := hS.un
  obtain ⟨px, cx, hv, hmc, hxx⟩ := srcV_spec hr hsrc (ev_spec hs hy)
  have hx' := ev_spec hs hx
  obtain ⟨l, g1, g2⟩ := hr.rel _ _ hH
  have fin : ∀ (v v' : Value) (w' : World), a.eval x = v → (Builtin.append_ #[t, t] o.type #[v, .slice px m cx]).run P w = .ok v' w' → (execOp a.eval o).run P w = .ok (.value v') w' := fun v v' w' e hrun => by
    unfold execOp; rw [hop]
    simp [resolve, invoke, builtin, e, hv, hrun]
  have hH' : ∀ k0, some k = some k0 → k0 ≠ k' ∧ ∃ blk, look H k0 = some (some blk) := fun k0 e => by cases e; exact ⟨hkk, _, hH⟩
  have stay : ∀ (v : Value), ρ k = some (.arr v) → Blk.rel w (okb B w ρ) ρ (.arr E i.size (n + m) (cs ++ ws)) (.arr v) → Step B H (hdk (some k) ++ [(k', some (.arr E i.size (n + m) (cs ++ ws)))]) ρ (upd ρ k' (.arr v)) w w := fun v hv hrel =>
    Step.arr (some k) hfr rfl rfl rfl (Nat.le_refl _) (fun _ _ _ => rfl) (fun b e => .inr ⟨k, _, rfl, hv, e⟩) hH' fun ok' ρ' h1 h2 => Blk.rel_mono h1 h2 (fun _ _ => rfl) hrel
  generalize e : a.eval x = vx at hx'
  cases hx' with
  | h hp =>
    rw [g1] at hp
    obtain rfl := Option.some.inj hp
    rcases g2 with ⟨h1, rfl, rfl⟩ | ⟨g, cap, us, sp, h1, h2, h3, h4, h5, h6, h7, h8⟩
    · rw [h1] at e g1
      rcases Nat.eq_zero_or_pos m with rfl | hm0
      · obtain rfl : ws = [] := List.eq_nil_of_length_eq_zero (by simpa using hws)
        exact ⟨_, _, w, _, fin _ _ _ e (run_append_zero t _ E i ht hi _ _ _ _ _ (Nat.le_refl _)), .inl rfl, stay _ g1 (.inl ⟨rfl, rfl, rfl⟩), .h (upd_self _ _ _)⟩
      · obtain ⟨b, o0, vs, rfl, hbw, hvs, hone, hcell⟩ := hxx.resolve_left (by omega)
        have hvl := hvs.length
        have hr0 := run_append_nil (P := P) w t o.type E i zv ht hi hz ⟨b, o0, none⟩ m cx vs (by omega) (fun j u hj => by rw [addr_add]; exact hcell j u hj) hm0 (by omega) (by simp only [Nat.zero_add] at hb; omega)
        rw [ta] at hr0
        have hge := grownCap_ge w m 0 E
        have hle := grownCap_le_maxLen w m 0 E (by unfold maxLen; omega)
        refine ⟨_, _, _, _, fin _ _ _ e hr0, .inl rfl, Step.arr (l := .arr (.slice (some ⟨w.heap.size, 0, none⟩) m (grownCap w m 0 E))) (some k) hfr rfl rfl rfl (by simp) (fun b hb _ => Below.heap_alloc w.drew _ _ hb) (fun b e => by simp only [Loc.bl, Option.some.injEq] at e; subst e; exact .inl ⟨Nat.le_refl _, by simp⟩) hH' fun ok' ρ' h1 h2 => .inr ⟨w.heap.size, _, vs, _, by simp, by omega, hle, heap_alloc_new w.drew _, ?_, by simp; omega, hone, by simpa using hvs.mono h1 h2⟩, ?_⟩
        · simp only [List.length_append, List.size_toArray, Array.length_toList, size_zeroCells, hzs, hvl, hws, ← Nat.add_mul]
          congr 1; omega
        · exact .h (upd_self _ _ _)
    · rw [h1] at e g1
      have h9 := h8.length
      have holds : ∀ j u, us[j]? = some u → w.cell? ((⟨g, 0, none⟩ : Addr).add j) = some u := fun j u hj => by
        rw [addr_add, Nat.zero_add, World.cell?, h4]
        simp [List.getElem?_append_left (List.getElem?_eq_some_iff.1 hj).1, hj]
      rcases Nat.eq_zero_or_pos m with rfl | hm0
      · obtain rfl : ws = [] := List.eq_nil_of_length_eq_zero (by simpa using hws)
        exact ⟨_, _, w, _, fin _ _ _ e (run_append_zero t _ E i ht hi _ _ _ _ _ h2), .inl rfl, stay _ g1 (.inr ⟨g, cap, us, sp, rfl, h2, h3, h4, h5, h6, h7, by simpa using h8⟩), .h (upd_self _ _ _)⟩
      · obtain ⟨b, o0, vs, rfl, hbw, hvs, hone, hcell⟩ := hxx.resolve_left (by omega)
        have hvl := hvs.length
        have hnews : ∀ j u, vs[j]? = some u → w.cell? ((⟨b, o0, none⟩ : Addr).add j) = some u := fun j u hj => by rw [addr_add]; exact hcell j u hj
        have hlen : (us ++ vs).length = (n + m) * i.size := by rw [List.length_append, h6, hvl, hws, Nat.add_mul]
        by_cases hroom : n + m ≤ cap
        · have hfit : n * i.size + vs.length ≤ (us ++ sp).toArray.size := by
            rw [List.size_toArray, h5, hvl, hws, ← Nat.add_mul]; exact Nat.mul_le_mul_right _ hroom
          have hr0 := run_append_room (P := P) w t o.type E i ht hi g n cap (us ++ sp).toArray h4 ⟨b, o0, none⟩ m cx vs (by omega) hnews (List.all_eq_true.1 hone) hroom hfit
          have htake : (us ++ sp).take (n * i.size) = us := by rw [← h6]; exact List.take_left
          simp only [htake] at hr0
          refine ⟨_, _, _, _, fin _ _ _ e hr0, .inl rfl, Step.arr (l := .arr (.slice (some ⟨g, 0, none⟩) (n + m) cap)) (some k) hfr rfl rfl rfl (by simp) (fun b hb hn => setRow_other w g b _ fun e => hn k _ rfl g1 (by rw [e]; rfl)) (fun b e => .inr ⟨k, _, rfl, g1, e⟩) hH' fun ok' ρ' h1 h2 => .inr ⟨g, cap, us ++ vs, (us ++ sp).drop (n * i.size + vs.length), rfl, hroom, h3, setRow_heap w g _ _ _ _ h4, ?_, hlen, ?_, (h8.mono h1 h2).append (hvs.mono h1 h2)⟩, .h (upd_self _ _ _)⟩
          · rw [List.length_append, hlen, List.length_drop, h5, hvl, hws, ← Nat.add_mul]
            have := Nat.mul_le_mul_right i.size hroom
            omega
          · rw [List.all_append, h7, hone]; rfl
        · have hr0 := run_append_grow (P := P) w t o.type E i zv ht hi hz ⟨g, 0, none⟩ n cap us h6 holds ⟨b, o0, none⟩ m cx vs (by omega) hnews (by omega) (by omega) (growslice_fits (by omega) hb)
          rw [List.append_toArray, ta] at hr0
          have hge := grownCap_ge w (n + m) cap E
          have hle := grownCap_le_maxLen w (n + m) cap E (by unfold maxLen; omega)
          refine ⟨_, _, _, _, fin _ _ _ e hr0, .inl rfl, Step.arr (l := .arr (.slice (some ⟨w.heap.size, 0, none⟩) (n + m) (grownCap w (n + m) cap E))) (some k) hfr rfl rfl rfl (by simp) (fun b hb _ => Below.heap_alloc w.drew _ _ hb) (fun b e => by simp only [Loc.bl, Option.some.injEq] at e; subst e; exact .inl ⟨Nat.le_refl _, by simp⟩) hH' fun ok' ρ' h1 h2 => .inr ⟨w.heap.size, _, us ++ vs, _, rfl, hge, hle, heap_alloc_new w.drew _, ?_, hlen, ?_, (h8.mono h1 h2).append (hvs.mono h1 h2)⟩, .h (upd_self _ _ _)⟩
          · simp only [List.length_append, List.size_toArray, Array.length_toList, size_zeroCells, hzs] at hlen ⊢
            rw [hlen, ← Nat.add_mul]
            congr 1; omega
          · rw [List.all_append, h7, hone]; rfl
set_option maxHeartbeats 1000000 in
theorem o_append_p (k' : Nat) {N : Nat} [hS : Sl P t E z bytes] (hop : o.op = .call { callee := .builtin .append, args := #[x, y], argTypes := #[t, t] }) (hx : ev sl x = some (.s k 0 n z)) (hy : ev sl y = some uy) (hH : look H k = some (some (.arr E z N cs))) (hsrc : srcV H uy = some (m, ws)) (hws : ws.length = m * z)
    (hN : 0 < N) (hm : n + m ≤ N) (hkk : (!Nat.beq k k') = true) : OpD P o H sl k' 1 (.h k') [(k, none), (k', some (.arr E z (n + m) (cs.take (n * z) ++ ws)))] := fun B a w ρ hs hr hfr => by
  have hfr := hfr k' (Nat.le_refl _) (by omega)
  have hkk : k ≠ k' := fun e => by subst e; simp at hkk
  obtain ⟨i, zv, hi, hz, rfl, rfl, hzs⟩ := hS.el
  have ht := hS.un
  obtain ⟨px, cx, hv, hmc, hxx⟩ := srcV_spec hr hsrc (ev_spec hs hy)
  have hx' := ev_spec hs hx
  obtain ⟨l, g1, g2⟩ := hr.rel _ _ hH
  have fin : ∀ (v v' : Value) (w' : World), a.eval x = v → (Builtin.append_ #[t, t] o.type #[v, .slice px m cx]).run P w = .ok v' w' → (execOp a.eval o).run P w = .ok (.value v') w' := fun v v' w' e hrun => by
    unfold execOp; rw [hop]
    simp [resolve, invoke, builtin, e, hv, hrun]
  have hH' : ∀ k0, some k = some k0 → k0 ≠ k' ∧ ∃ blk, look H k0 = some (some blk) := fun k0 e => by cases e; exact ⟨hkk, _, hH⟩
  generalize e : a.eval x = vx at hx'
  cases hx' with
  | s0 hp hc =>
    rw [g1] at hp
    obtain rfl := Option.some.inj hp
    rcases g2 with ⟨h1, rfl, rfl⟩ | ⟨g, cap, us, sp, h1, h2, h3, h4, h5, h6, h7, h8⟩
    · omega
    · cases h1; omega
  | s hp hl hcap =>
    rw [g1] at hp
    obtain rfl := Option.some.inj hp
    rcases g2 with ⟨h1, rfl, rfl⟩ | ⟨g, cap, us, sp, h1, h2, h3, h4, h5, h6, h7, h8⟩
    · cases h1
    · have q := h1
      simp only [Value.slice.injEq, Option.some.injEq, Addr.mk.injEq, and_true] at q
      obtain ⟨q1, q2, q3⟩ := q
      obtain rfl := q1.symm
      obtain rfl := q2.symm
      obtain rfl := q3.symm
      clear h1
      have h9 := h8.length
      have hus : us = us.take (n * i.size) ++ us.drop (n * i.size) := (List.take_append_drop _ _).symm
      have hnl : n * i.size ≤ us.length := by rw [h6]; exact Nat.mul_le_mul_right _ (by omega)
      have ht1 : RVs w (okb B w ρ) ρ (cs.take (n * i.size)) (us.take (n * i.size)) := h8.take _
      have ho1 : (us.take (n * i.size)).all Value.oneCell' = true := List.all_eq_true.2 fun x hx => List.all_eq_true.1 h7 x (List.mem_of_mem_take hx)
      rw [Nat.zero_mul] at e
      rcases Nat.eq_zero_or_pos m with rfl | hm0
      · obtain rfl : ws = [] := List.eq_nil_of_length_eq_zero (by simpa using hws)
        refine ⟨_, _, w, _, fin _ _ _ e (run_append_zero t _ E i ht hi _ _ _ _ _ (by omega)), .inl rfl, Step.arr (l := .arr (.slice (some ⟨g, 0, none⟩) n cap)) (some k) hfr rfl rfl rfl (Nat.le_refl _) (fun _ _ _ => rfl) (fun b e => .inr ⟨k, _, rfl, g1, e⟩) hH' fun ok' ρ' h1 h2 => .inr ⟨g, cap, us.take (n * i.size), us.drop (n * i.size) ++ sp, rfl, by omega, h3, by rw [← List.append_assoc, List.take_append_drop]; exact h4, by rw [← List.append_assoc, List.take_append_drop]; exact h5, by rw [List.length_take]; simpa using Nat.min_eq_left hnl, ho1, by rw [List.append_nil]; exact ht1.mono h1 h2⟩, .h (upd_self _ _ _)⟩
      · obtain ⟨b, o0, vs, rfl, hbw, hvs, hone, hcell⟩ := hxx.resolve_left (by omega)
        have hvl := hvs.length
        have hnews : ∀ j u, vs[j]? = some u → w.cell? ((⟨b, o0, none⟩ : Addr).add j) = some u := fun j u hj => by rw [addr_add]; exact hcell j u hj
        have hlen : (us.take (n * i.size) ++ vs).length = (n + m) * i.size := by rw [List.length_append, List.length_take, Nat.min_eq_left hnl, hvl, hws, Nat.add_mul]
        have hroom : n + m ≤ cap := by omega
        have hfit : n * i.size + vs.length ≤ (us ++ sp).toArray.size := by
          rw [List.size_toArray, h5, hvl, hws, ← Nat.add_mul]; exact Nat.mul_le_mul_right _ hroom
        have hr0 := run_append_room (P := P) w t o.type E i ht hi g n cap (us ++ sp).toArray h4 ⟨b, o0, none⟩ m cx vs (by omega) hnews (List.all_eq_true.1 hone) hroom hfit
        have htake : (us ++ sp).take (n * i.size) = us.take (n * i.size) := List.take_append_of_le_length hnl
        simp only [htake] at hr0
        refine ⟨_, _, _, _, fin _ _ _ e hr0, .inl rfl, Step.arr (l := .arr (.slice (some ⟨g, 0, none⟩) (n + m) cap)) (some k) hfr rfl rfl rfl (by simp) (fun b hb hn => setRow_other w g b _ fun e => hn k _ rfl g1 (by rw [e]; rfl)) (fun b e => .inr ⟨k, _, rfl, g1, e⟩) hH' fun ok' ρ' h1 h2 => .inr ⟨g, cap, us.take (n * i.size) ++ vs, (us ++ sp).drop (n * i.size + vs.length), rfl, hroom, h3, setRow_heap w g _ _ _ _ h4, ?_, hlen, ?_, (ht1.mono h1 h2).append (hvs.mono h1 h2)⟩, .h (upd_self _ _ _)⟩
        · rw [List.length_append, hlen, List.length_drop, h5, hvl, hws, ← Nat.add_mul]
          have := Nat.mul_le_mul_right i.size hroom
          omega
        · rw [List.all_append, ho1, hone]; rfl
theorem o_append_n (k' : Nat) [hS : Sl P t E z bytes] (hop : o.op = .call { callee := .builtin .append, args := #[x, y], argTypes := #[t, t] }) (hx : ev sl x = some (.d (.c (.slice none 0 0)))) (hy : ev sl y = some uy) (hsrc : srcV H uy = some (m, ws)) (hws : ws.length = m * z)
    (hb : m * bytes ≤ 140737488355328) (hm : m ≤ 9223372036854775807) : OpD P o H sl k' 1 (.h k') [(k', some (.arr E z m ws))] := fun B a w ρ hs hr hfr => by
  have hfr := hfr k' (Nat.le_refl _) (by omega)
  obtain ⟨i, zv, hi, hz, rfl, rfl, hzs⟩ := hS.el
  have ht := hS.un
  obtain ⟨px, cx, hv, hmc, hxx⟩ := srcV_spec hr hsrc (ev_spec hs hy)
  have e := rv_c (ev_spec hs hx)
  have fin : ∀ (v' : Value) (w' : World), (Builtin.append_ #[t, t] o.type #[.slice none 0 0, .slice px m cx]).run P w = .ok v' w' → (execOp a.eval o).run P w = .ok (.value v') w' := fun v' w' hrun => by
    unfold execOp; rw [hop]
    simp [resolve, invoke, builtin, e, hv, hrun]
  rcases Nat.eq_zero_or_pos m with rfl | hm0
  · obtain rfl : ws = [] := List.eq_nil_of_length_eq_zero (by simpa using hws)
    exact ⟨_, _, w, _, fin _ _ (run_append_zero t _ E i ht hi _ _ _ _ _ (Nat.le_refl _)), .inl rfl, Step.arr (l := .arr (.slice none 0 0)) none hfr rfl rfl rfl (Nat.le_refl _) (fun _ _ _ => rfl) (fun b e => by cases e) (by simp) fun ok' ρ' h1 h2 => .inl ⟨rfl, rfl, rfl⟩, .h (upd_self _ _ _)⟩
  · obtain ⟨b, o0, vs, rfl, hbw, hvs, hone, hcell⟩ := hxx.resolve_left (by omega)
    have hvl := hvs.length
    have hr0 := run_append_nil (P := P) w t o.type E i zv ht hi hz ⟨b, o0, none⟩ m cx vs (by omega) (fun j u hj => by rw [addr_add]; exact hcell j u hj) hm0 (by omega) (by omega)
    rw [ta] at hr0
    have hge := grownCap_ge w m 0 E
    have hle := grownCap_le_maxLen w m 0 E (by unfold maxLen; omega)
    refine ⟨_, _, _, _, fin _ _ hr0, .inl rfl, Step.arr (l := .arr (.slice (some ⟨w.heap.size, 0, none⟩) m (grownCap w m 0 E))) none hfr rfl rfl rfl (by simp) (fun b hb _ => Below.heap_alloc w.drew _ _ hb) (fun b e => by simp only [Loc.bl, Option.some.injEq] at e; subst e; exact .inl ⟨Nat.le_refl _, by simp⟩) (by simp) fun ok' ρ' h1 h2 => .inr ⟨w.heap.size, _, vs, _, rfl, by omega, hle, heap_alloc_new w.drew _, ?_, by omega, hone, hvs.mono h1 h2⟩, ?_⟩
    · simp only [List.length_append, List.size_toArray, Array.length_toList, size_zeroCells, hzs, hvl, hws, ← Nat.add_mul]
      congr 1; omega
    · exact .h (upd_self _ _ _)
end
end Go.Proofs.YtlbnhhfaedhgfaaDoor
namespace Go.Proofs.YtlbnhhfaedhgfaaDoor
set_option linter.unusedSimpArgs false
set_option linter.unusedVariables false
open Go.RowKit
attribute [local simp] Sem.run_bind Sem.run_pure Result.andThen_ok

theorem flatV_rel {w : World} {ok : Nat → Prop} {ρ : Lc} {z : Nat} : ∀ {l : List (Nat × V)} {k : Nat} {vs : List (Nat × Value)} {out : List V}, flatV z k l = some out → l.length = vs.length → (∀ (j i : Nat) (u : V), l[j]? = some (i, u) → ∃ v, vs[j]? = some (i, v) ∧ RV w ok ρ u v) →
    inRow z k vs = true ∧ RVs w ok ρ out (flat vs) ∧ (flat vs).all Value.oneCell' = true ∧ out.length = vs.length * z
  | [], k, [], out, h, _, _ => by simp only [flatV, Option.some.injEq] at h; subst h; exact ⟨rfl, .nil, rfl, by simp⟩
  | [], k, v :: vs, out, h, hl, _ => by simp at hl
  | (i, u) :: l, k, [], out, h, hl, _ => by simp at hl
  | (i, u) :: l, k, (i', v) :: vs, out, h, hl, hr => by
    obtain ⟨v0, h2, h3⟩ := hr 0 i u rfl
    simp only [List.getElem?_cons_zero, Option.some.injEq, Prod.mk.injEq] at h2
    obtain ⟨e1, e2⟩ := h2
    subst e1
    subst e2
    simp only [flatV] at h
    cases hb : (i' == k && (cellsV u).length == z && (cellsV u).all cellV) with
    | false => rw [hb] at h; cases h
    | true =>
      rw [hb, cond_true] at h
      simp only [Bool.and_eq_true, beq_iff_eq] at hb
      obtain ⟨⟨g1, g2⟩, g3⟩ := hb
      cases ho : flatV z (k + 1) l with
      | none => rw [ho] at h; cases h
      | some out' =>
        rw [ho] at h
        simp only [Option.map_some, Option.some.injEq] at h
        subst h
        obtain ⟨i1, i2, i3, i4⟩ := flatV_rel ho (by simpa using hl) (fun j i u hj => by
          obtain ⟨v, h9, h10⟩ := hr (j + 1) i u (by simpa using hj)
          exact ⟨v, by simpa using h9, h10⟩)
        obtain ⟨h4, h5⟩ := h3.cells g3
        have hlen := h4.length
        refine ⟨?_, h4.append i2, by rw [flat, List.all_append, h5, i3]; rfl, by simp only [List.length_append, List.length_cons, Nat.add_mul, i4, g2]; omega⟩
        simp only [inRow, Bool.and_eq_true, beq_iff_eq, g1, i1, true_and, and_true]
        rw [← Array.length_toList, hlen]; exact g2
section
variable {P : Program} {o : Oper} {H : Hp} {sl : List (Nat × V)} {u ux uy : V} {h : Hp} {x y : Operand} {T T' U E t : TypeId} {n k z off bytes m : Nat} {i : Int} {ag : Bool} {cs cs' ws : List V}
theorem bs_run {parts : Array (Nat × Operand)} {len : Nat} {l : List (Nat × V)} {B : Nat → Prop} {a : Act} {w : World} {ρ : Lc} [hS : Sl P t E z bytes] (hop : o.op = .buildSlice t len parts) (hl : evs sl parts.toList = some l) (hf : flatV z 0 l = some cs) (hn : (parts.size == len && Nat.ble (len * z) 16777216 && Nat.ble len 16777216) = true) (hs : SR B sl ρ a w) :
    ∃ us, (execOp a.eval o).run P w = .ok (.value (.slice (some ⟨w.heap.size, 0, none⟩) len len)) (w.alloc (.cells us.toArray E)) ∧ RVs w (okb B w ρ) ρ cs us ∧ us.all Value.oneCell' = true ∧ us.length = len * z := by
  simp only [Bool.and_eq_true, beq_iff_eq, Nat.ble_eq] at hn
  obtain ⟨⟨rfl, hn⟩, -⟩ := hn
  obtain ⟨g1, g2⟩ := evs_spec hs hl
  obtain ⟨h1, h2, h3, h4⟩ := flatV_rel hf (vs := parts.toList.map fun p => (p.1, a.eval p.2)) (by rw [g1]; simp) g2
  have hr := run_bs (P := P) (w := w) hS (parts.map fun p => (p.1, a.eval p.2)) (by simpa using h1) (by simpa using hn)
  simp only [Array.size_map] at hr
  have e : (parts.map fun p => (p.1, a.eval p.2)).toList = parts.toList.map fun p => (p.1, a.eval p.2) := by simp
  rw [e] at hr
  refine ⟨_, ?_, h2, h3, by rw [h2.length, h4]; simp⟩
  unfold execOp; rw [hop]
  simp only [Sem.run_bind, hr, Result.andThen_ok, Sem.run_pure]
theorem o_bs (k : Nat) {parts : Array (Nat × Operand)} {len : Nat} {l : List (Nat × V)} [hS : Sl P t E z bytes] (hop : o.op = .buildSlice t len parts) (hl : evs sl parts.toList = some l) (hf : flatV z 0 l = some cs) (hn : (parts.size == len && Nat.ble (len * z) 16777216 && Nat.ble len 16777216) = true) : OpD P o H sl k 1 (.h k) [(k, some (.arr E z len cs))] := fun B a w ρ hs hr hfr => by
  have hfr := hfr k (Nat.le_refl _) (by omega)
  obtain ⟨us, h1, h2, h3, h4⟩ := bs_run (P := P) hop hl hf hn hs
  simp only [Bool.and_eq_true, beq_iff_eq, Nat.ble_eq] at hn
  have hmax : len ≤ maxLen := by unfold maxLen; omega
  exact ⟨_, _, _, _, h1, .inl rfl, Step.new1 (l := .arr (.slice (some ⟨w.heap.size, 0, none⟩) len len)) hfr rfl (.inl rfl) fun ok' ρ' hst he hnw => .inr ⟨_, _, us, [], rfl, Nat.le_refl _, hmax, by simpa using hnw, by simpa using h4, h4, h3, h2.mono hst he⟩, .h (upd_self _ _ _)⟩
theorem o_bsd {parts : Array (Nat × Operand)} {len : Nat} {l : List (Nat × V)} {ds : List D} [hS : Sl P t E z bytes] (hop : o.op = .buildSlice t len parts) (hl : evs sl parts.toList = some l) (hf : flatV z 0 l = some cs) (hn : (parts.size == len && Nat.ble (len * z) 16777216 && Nat.ble len 16777216) = true) (hd : ds.map V.d = cs) : OpV P o H sl 0 0 fun u h => u = .d (.l len ds) ∧ h = [] := fun B a w ρ hup _ hs hr hfr => by
  subst hd
  obtain ⟨us, h1, h2, h3, h4⟩ := bs_run (P := P) hop hl hf hn hs
  unfold Oper.wp
  rw [h1]
  have hold : ∀ b, b < w.heap.size → (w.alloc (.cells us.toArray E)).heap[b]? = w.heap[b]? := fun b hb => Below.heap_alloc _ _ _ hb
  have hst : Stl w (w.alloc (.cells us.toArray E)) (okb B w ρ) (okb B (w.alloc (.cells us.toArray E)) ρ) := fun b ⟨hb, hB, ho⟩ => ⟨⟨by simp; omega, hB, ho⟩, hold b hb⟩
  refine ⟨_, _, [], ρ, rfl, ⟨rfl, rfl⟩, ⟨rfl, rfl, rfl, by simp, fun _ _ h => h, fun k l h => .inl h, fun b hb _ => hold b hb, fun k hk => by simp [look] at hk, fun k blk hk => by simp [look] at hk, fun k k' blk blk' l l' b hk => by simp [look] at hk⟩, ?_⟩
  refine .d (.l (Nat.le_refl _) (by simp at hn; unfold maxLen; omega) ⟨by simp, hup _ (Nat.le_refl _), fun k l hk e => ?_⟩ (h2.ofD.mono hst) fun j v hv => ?_)
  · have := hr.lt k l _ hk e; omega
  · rw [World.cell?, heap_alloc_new w _]
    simp [hv]

def evo (sl : List (Nat × V)) (n : Int) : Option Operand → Option V
  | none => some (vI n)
  | some y => ev sl y
theorem run_bound {w : World} {i : Int} {y m : Nat} {c : BoundsCode} (hm : i = (m : Int)) (h : m ≤ y) : (Instr.sliceBound (.int .i64 i) y c).run P w = .ok m w := by
  subst hm
  have h1 : (0 : Int) ≤ (m : Int) ∧ (m : Int) ≤ (y : Int) := by omega
  simp [Instr.sliceBound, asIntOf, h1]
theorem o_slice_s {lo hi : Option Operand} {il ih : Nat} {s : ByteArray} (hop : o.op = .slice t x lo hi none) (hx : ev sl x = some (vS s)) (ht : P.underlying t = some .string) (hlo : evo sl 0 lo = some (vI (il : Int))) (hhi : evo sl (s.size : Int) hi = some (vI (ih : Int))) (h1 : il ≤ ih) (h2 : ih ≤ s.size) : OpD P o H sl 0 0 (vS (s.extract il ih)) [] := .read fun B a w ρ hs _ => by
  refine ⟨.string (s.extract il ih), ?_, .d (.c rfl)⟩
  have hx' := rv_c (ev_spec hs hx)
  unfold execOp; rw [hop]
  cases lo with
  | none =>
    simp only [evo, Option.some.injEq, V.d.injEq, D.c.injEq, Value.int.injEq, true_and] at hlo
    have e0 : il = 0 := by omega
    subst e0
    cases hi with
    | none =>
      simp only [evo, Option.some.injEq, V.d.injEq, D.c.injEq, Value.int.injEq, true_and] at hhi
      have e1 : ih = s.size := by omega
      subst e1
      simp [Instr.sliceAt, Instr.slice, run_underlying ht, hx', Instr.sliceBounds]
    | some yh =>
      have hh := rv_c (ev_spec hs hhi)
      simp [Instr.sliceAt, Instr.slice, run_underlying ht, hx', Instr.sliceBounds, hh, run_bound rfl h2]
  | some yl =>
    have hl := rv_c (ev_spec hs hlo)
    cases hi with
    | none =>
      simp only [evo, Option.some.injEq, V.d.injEq, D.c.injEq, Value.int.injEq, true_and] at hhi
      have e1 : ih = s.size := by omega
      subst e1
      simp [Instr.sliceAt, Instr.slice, run_underlying ht, hx', Instr.sliceBounds, hl, run_bound rfl h1]
    | some yh =>
      have hh := rv_c (ev_spec hs hhi)
      simp [Instr.sliceAt, Instr.slice, run_underlying ht, hx', Instr.sliceBounds, hh, hl, run_bound rfl h1, run_bound rfl h2]
theorem run_slc {lo hi : Option Operand} {il ih len cap : Nat} {pa : Option Addr} {B : Nat → Prop} {a : Act} {w : World} {ρ : Lc} (hS : Sl P t E z bytes) (hs : SR B sl ρ a w) (hlo : evo sl 0 lo = some (vI (il : Int))) (hhi : evo sl (len : Int) hi = some (vI (ih : Int))) (h1 : il ≤ ih) (h2 : ih ≤ len) (hc : len ≤ cap) :
    (Instr.sliceAt t (.slice pa len cap) (lo.map a.eval) (hi.map a.eval) none).run P w = .ok (.slice (if cap = il then pa else pa.map (·.add (il * z))) (ih - il) (cap - il)) w := by
  obtain ⟨i, zv, hi', hz, rfl, rfl, hzs⟩ := hS.el
  have ht := hS.un
  have h3 : ih ≤ cap := Nat.le_trans h2 hc
  cases lo with
  | none =>
    simp only [evo, Option.some.injEq, V.d.injEq, D.c.injEq, Value.int.injEq, true_and] at hlo
    have e0 : il = 0 := by omega
    subst e0
    cases hi with
    | none =>
      simp only [evo, Option.some.injEq, V.d.injEq, D.c.injEq, Value.int.injEq, true_and] at hhi
      have e1 : ih = len := by omega
      subst e1
      simp [Instr.sliceAt, Instr.slice, run_underlying ht, Instr.sliceBounds, sizeOf, typeInfo, hi']
    | some yh =>
      have hh := rv_c (ev_spec hs hhi)
      simp [Instr.sliceAt, Instr.slice, run_underlying ht, Instr.sliceBounds, hh, run_bound rfl h3, sizeOf, typeInfo, hi']
  | some yl =>
    have hl := rv_c (ev_spec hs hlo)
    cases hi with
    | none =>
      simp only [evo, Option.some.injEq, V.d.injEq, D.c.injEq, Value.int.injEq, true_and] at hhi
      have e1 : ih = len := by omega
      subst e1
      simp [Instr.sliceAt, Instr.slice, run_underlying ht, Instr.sliceBounds, hl, run_bound rfl h1, sizeOf, typeInfo, hi']
    | some yh =>
      have hh := rv_c (ev_spec hs hhi)
      simp [Instr.sliceAt, Instr.slice, run_underlying ht, Instr.sliceBounds, hh, hl, run_bound rfl h1, run_bound rfl h3, sizeOf, typeInfo, hi']
theorem o_slice_d {lo hi : Option Operand} {il ih len : Nat} {xs ys : List D} [hS : Sl P t E z bytes] (hop : o.op = .slice t x lo hi none) (hx : ev sl x = some (.d (.l len xs))) (hlo : evo sl 0 lo = some (vI (il : Int))) (hhi : evo sl (len : Int) hi = some (vI (ih : Int))) (h1 : il ≤ ih) (h2 : ih ≤ len) (hd : (xs.drop (il * z)).take ((ih - il) * z) = ys) : OpD P o H sl 0 0 (.d (.l (ih - il) ys)) [] := .read fun B a w ρ hs _ => by
  subst hd
  have hx' := ev_spec hs hx
  unfold execOp; rw [hop]
  generalize e : a.eval x = vx at hx'
  cases hx' with
  | d hx' =>
    cases hx' with
    | nil p c =>
      have hr := run_slc (P := P) (pa := p) (cap := c) hS hs hlo hhi h1 h2 (Nat.zero_le _)
      obtain rfl : ih = 0 := by omega
      obtain rfl : il = 0 := by omega
      simp only [Sem.run_bind, e, Option.map_none, hr, Result.andThen_ok, Sem.run_pure]
      refine ⟨_, rfl, ?_⟩
      simp only [Nat.zero_mul, List.drop_nil, List.take_nil, Nat.sub_zero]
      exact .d (.nil _ _)
    | l hc hml hok hxs hcell =>
      rename_i cap b o0 vs
      have hr := run_slc (P := P) (pa := some ⟨b, o0, none⟩) hS hs hlo hhi h1 h2 hc
      simp only [Sem.run_bind, e, Option.map_none, hr, Result.andThen_ok, Sem.run_pure]
      refine ⟨_, rfl, .d ?_⟩
      by_cases hci : cap = il
      · have e1 : ih - il = 0 := by omega
        rw [e1]; simp only [Nat.zero_mul, List.take_zero]; exact .nil _ _
      · rw [if_neg hci]
        simp only [Option.map_some, addr_add]
        refine .l (by omega) (by omega) hok ((hxs.drop _).take _) fun j v hv => ?_
        rw [List.getElem?_take] at hv
        split at hv
        · rw [Nat.add_assoc]; exact hcell _ _ (by simpa using hv)
        · cases hv
theorem o_slice_t {α : Type} {f : α → List D} {lo hi : Option Operand} {il ih : Nat} {xs ys : List α} [hS : Sl P t E z bytes] (hop : o.op = .slice t x lo hi none) (hx : ev sl x = some (.d (lst f xs))) (hlo : evo sl 0 lo = some (vI (il : Int))) (hhi : evo sl (xs.length : Int) hi = some (vI (ih : Int))) (h1 : il ≤ ih) (h2 : ih ≤ xs.length) (hf : ∀ a, (f a).length = z) (hd : (xs.drop il).take (ih - il) = ys) : OpD P o H sl 0 0 (.d (lst f ys)) [] := by
  subst hd
  have hl : ((xs.drop il).take (ih - il)).length = ih - il := by simp; omega
  have := o_slice_d (P := P) (H := H) (ys := ((xs.drop il).take (ih - il)).flatMap f) hop hx hlo hhi h1 h2 (by rw [flat_drop hf, flat_take hf])
  unfold lst
  rw [hl]; exact this
theorem o_slice_h {lo hi : Option Operand} {il ih len : Nat} [hS : Sl P t E z bytes] (hop : o.op = .slice t x lo hi none) (hx : ev sl x = some (.h k)) (hH : look H k = some (some (.arr E z len cs))) (hlo : evo sl 0 lo = some (vI (il : Int))) (hhi : evo sl (len : Int) hi = some (vI (ih : Int))) (h1 : il ≤ ih) (h2 : ih ≤ len) : OpD P o H sl 0 0 (.s k il (ih - il) z) [] := .read fun B a w ρ hs hr => by
  have hx' := ev_spec hs hx
  obtain ⟨l, g1, g2⟩ := hr.rel _ _ hH
  unfold execOp; rw [hop]
  generalize e : a.eval x = vx at hx'
  cases hx' with
  | h hp =>
    rw [g1] at hp
    obtain rfl := Option.some.inj hp
    rcases g2 with ⟨h3, rfl, rfl⟩ | ⟨g, cap, us, sp, h3, h4, h5, h6, h7, h8, h9, h10⟩
    · rw [h3] at e
      have hr := run_slc (P := P) (pa := none) (cap := 0) hS hs hlo hhi h1 h2 (Nat.le_refl _)
      obtain rfl : ih = 0 := by omega
      obtain rfl : il = 0 := by omega
      simp only [Sem.run_bind, e, Option.map_none, hr, Result.andThen_ok, Sem.run_pure]
      exact ⟨_, rfl, .s0 (by rw [h3] at g1; exact g1) (Nat.zero_le _)⟩
    · rw [h3] at e g1
      have hr := run_slc (P := P) (pa := some ⟨g, 0, none⟩) (cap := cap) hS hs hlo hhi h1 h2 h4
      simp only [Sem.run_bind, e, Option.map_none, hr, Result.andThen_ok, Sem.run_pure]
      refine ⟨_, rfl, ?_⟩
      by_cases hci : cap = il
      · have e1 : ih - il = 0 := by omega
        have e2 : cap - il = 0 := by omega
        rw [e1, e2]; exact .s0 g1 (by omega)
      · rw [if_neg hci]
        simp only [Option.map_some, addr_add, Nat.zero_add]
        exact .s g1 (by omega) h4
theorem o_index_s {s : ByteArray} {b : UInt8} (hop : o.op = .index t x y) (hx : ev sl x = some (vS s)) (hy : ev sl y = some (vI i)) (ht : P.underlying t = some .string) (hm : i = (m : Int)) (hb : s[m]? = some b) : OpD P o H sl 0 0 (.d (.c (.int .u8 b.toNat))) [] := .read fun B a w ρ hs _ => by
  subst hm
  have hx' := rv_c (ev_spec hs hx)
  have hy' := rv_c (ev_spec hs hy)
  refine ⟨_, ?_, .d (.c rfl)⟩
  unfold execOp; rw [hop]
  simp [Instr.index, hx', hy', asIntOf, run_underlying ht, hb]
theorem o_nilc {off : Nat} (hop : o.op = .nilCheck x) (hx : ev sl x = some (.p k off)) : OpD P o H sl 0 0 (.p k off) [] := .read fun B a w ρ hs _ => by
  have hx' := ev_spec hs hx
  unfold execOp; rw [hop]
  generalize e : a.eval x = vx at hx'
  cases hx' with
  | p hp => exact ⟨_, by simp [e], .p hp⟩
theorem o_cvi {k1 k2 : IntKind} {a z : Int} {T1 T2 : TypeId} (hop : o.op = .convert T1 T2 x) (hx : ev sl x = some (.d (.c (.int k1 a)))) (h1 : P.underlying T1 = some (.int k1)) (h2 : P.underlying T2 = some (.int k2)) (hz : k2.wrap a = z) : OpD P o H sl 0 0 (.d (.c (.int k2 z))) [] := .read fun B a w ρ hs _ => by
  subst hz
  have hx' := rv_c (ev_spec hs hx)
  refine ⟨_, ?_, .d (.c rfl)⟩
  unfold execOp; rw [hop]
  simp [convert, hx', run_underlying h1, run_underlying h2, Conv.intToInt]
theorem o_neg {kk : IntKind} {a z : Int} (hop : o.op = .unOp .neg T x) (hx : ev sl x = some (.d (.c (.int kk a)))) (hz : kk.wrap (-a) = z) : OpD P o H sl 0 0 (.d (.c (.int kk z))) [] := .read fun B a w ρ hs _ => by
  subst hz
  have hx' := rv_c (ev_spec hs hx)
  refine ⟨_, ?_, .d (.c rfl)⟩
  unfold execOp; rw [hop]
  simp [hx', Op.unary, Op.intArith]
theorem o_min {kk : IntKind} {a b : Int} {ts : Array TypeId} (hop : o.op = .call { callee := .builtin .min, args := #[x, y], argTypes := ts }) (hx : ev sl x = some (.d (.c (.int kk a)))) (hy : ev sl y = some (.d (.c (.int kk b)))) : OpD P o H sl 0 0 (.d (.c (.int kk (min a b)))) [] := .read fun B a w ρ hs _ => by
  have hx' := rv_c (ev_spec hs hx)
  have hy' := rv_c (ev_spec hs hy)
  refine ⟨_, ?_, .d (.c rfl)⟩
  unfold execOp; rw [hop]
  simp [resolve, invoke, builtin, hx', hy', Builtin.min_, Builtin.min2]
  split <;> omega
theorem o_max {kk : IntKind} {a b : Int} {ts : Array TypeId} (hop : o.op = .call { callee := .builtin .max, args := #[x, y], argTypes := ts }) (hx : ev sl x = some (.d (.c (.int kk a)))) (hy : ev sl y = some (.d (.c (.int kk b)))) : OpD P o H sl 0 0 (.d (.c (.int kk (max a b)))) [] := .read fun B a w ρ hs _ => by
  have hx' := rv_c (ev_spec hs hx)
  have hy' := rv_c (ev_spec hs hy)
  refine ⟨_, ?_, .d (.c rfl)⟩
  unfold execOp; rw [hop]
  simp [resolve, invoke, builtin, hx', hy', Builtin.max_, Builtin.max2]
  split <;> omega
def ccV : List V → Option (List Value)
  | [] => some []
  | .d (.c v) :: r => (ccV r).map (v :: ·)
  | _ :: _ => none
theorem ccV_spec {w : World} {ok : Nat → Prop} {ρ : Lc} : ∀ {xs : List V} {us vs : List Value}, ccV xs = some vs → RVs w ok ρ xs us → us = vs
  | [], [], vs, h, .nil => by simp only [ccV, Option.some.injEq] at h; exact h
  | x :: xs, _, vs, h, .cons (v := v) (vs := us) h1 h2 => by
    unfold ccV at h
    split at h
    · rename_i e; cases e
    · rename_i v' r e
      cases e
      cases hr : ccV xs with
      | none => rw [hr] at h; cases h
      | some vs' =>
        rw [hr] at h
        simp only [Option.map_some, Option.some.injEq] at h
        subst h
        rw [rv_c h1, ccV_spec hr h2]
    · cases h
theorem o_eqs {xs ys : List V} {vs us : List Value} {b : Bool} (hop : o.op = .binOp .eql T x y U) (hx : ev sl x = some (.a xs)) (hy : ev sl y = some (.a ys)) (hc : ccV xs = some vs) (hc' : ccV ys = some us) (hg : P.eqGuardType P.depth T = false) (hq : ∀ w, (Op.equalIn 10000 T (.agg vs.toArray) (.agg us.toArray)).run P w = .ok b w) : OpD P o H sl 0 0 (vB b) [] := .read fun B a w ρ hs _ => by
  obtain ⟨vs', e1, h1⟩ := rv_a (ev_spec hs hx)
  obtain ⟨us', e2, h2⟩ := rv_a (ev_spec hs hy)
  obtain rfl := ccV_spec hc h1
  obtain rfl := ccV_spec hc' h2
  refine ⟨.bool b, ?_, .d (.c rfl)⟩
  unfold execOp; rw [hop]
  simp only [e1, e2, Sem.run_bind, run_eqGuard_agg w .eql T x y _ _ hg, Result.andThen_ok, run_eql_struct, hq, Sem.run_pure]
theorem o_nes {xs ys : List V} {vs us : List Value} {b : Bool} (hop : o.op = .binOp .neq T x y U) (hx : ev sl x = some (.a xs)) (hy : ev sl y = some (.a ys)) (hc : ccV xs = some vs) (hc' : ccV ys = some us) (hg : P.eqGuardType P.depth T = false) (hq : ∀ w, (Op.equalIn 10000 T (.agg vs.toArray) (.agg us.toArray)).run P w = .ok b w) : OpD P o H sl 0 0 (vB (!b)) [] := .read fun B a w ρ hs _ => by
  obtain ⟨vs', e1, h1⟩ := rv_a (ev_spec hs hx)
  obtain ⟨us', e2, h2⟩ := rv_a (ev_spec hs hy)
  obtain rfl := ccV_spec hc h1
  obtain rfl := ccV_spec hc' h2
  refine ⟨.bool (!b), ?_, .d (.c rfl)⟩
  unfold execOp; rw [hop]
  simp only [e1, e2, Sem.run_bind, run_eqGuard_agg w .neq T x y _ _ hg, Result.andThen_ok, run_neq_struct, hq, Sem.run_pure]
theorem o_storee {n0 : Nat} (hop : o.op = .store T x y) (hx : ev sl x = some (.e k off)) (hy : ev sl y = some u) (hH : look H k = some (some (.arr E z n0 cs))) (hT : Ty P T n ag) (hl : off + n ≤ cs.length) (hl' : ((cellsV u).length == n && (cellsV u).all cellV) = true) (hpos : 0 < n) (hc : stV off (cellsV u) cs = cs') :
    OpD P o H sl 0 0 .un [(k, some (.arr E z n0 cs'))] := fun B a w ρ hs hr _ => by
  subst hc
  simp only [Bool.and_eq_true, beq_iff_eq] at hl'
  obtain ⟨hl2, hl3⟩ := hl'
  obtain ⟨l, h1, h2⟩ := hr.rel _ _ hH
  cases l with
  | box v => exact h2.elim
  | arr v =>
    rcases h2 with ⟨-, -, rfl⟩ | ⟨g, cap, us, sp, rfl, h3, h4, h5, h6, h7, h8, h9⟩
    · simp at hl; omega
    · obtain ⟨h10, h11⟩ := (ev_spec hs hy).cells hl3
      have h12 := h9.length
      have h13 := h10.length
      have hst := run_stv (P := P) (n := n) (off := off) (vs := (a.eval y).cells.toList) (v := a.eval y) (c := us ++ sp) hT h5 (by simp) (by rw [List.length_append]; omega) (by rw [h13]; exact hl2) h11
      have happ : stL off (a.eval y).cells.toList (us ++ sp) = stL off (a.eval y).cells.toList us ++ sp := by
        rw [stL_eq _ _ _ (by rw [List.length_append]; omega), stL_eq _ _ _ (by omega), List.take_append_of_le_length (by omega), List.drop_append_of_le_length (by omega)]
        simp only [List.append_assoc]
      have hsl : (stL off (a.eval y).cells.toList us).length = us.length := by
        rw [stL_eq _ _ _ (by omega)]; simp only [List.length_append, List.length_take, List.length_drop]; omega
      refine ⟨.skip, undef, w.setRow g (stL off (a.eval y).cells.toList (us ++ sp)).toArray, ρ, ?_, .inr ⟨rfl, rfl⟩, Step.set1 (b := g) h1 hH rfl (by simp) rfl rfl rfl (fun j hj => setRow_other w g j _ hj) fun ok' hs' => .inr ⟨g, cap, stL off (a.eval y).cells.toList us, sp, rfl, h3, h4, ?_, ?_, ?_, stL_one off h11 h8, (stV_rel off h10 h9).mono hs' (fun _ _ h => h)⟩, .un⟩
      · unfold execOp; rw [hop]
        have e : a.eval x = .pointer (some ⟨g, off, none⟩) := by
          have hx' := ev_spec hs hx
          generalize a.eval x = vx at hx'
          cases hx' with
          | e hp =>
            rw [h1] at hp
            simp only [Option.some.injEq, Loc.arr.injEq, Value.slice.injEq, Addr.mk.injEq, and_true] at hp
            rw [hp.1]
        simp [e, Instr.storeAt, Instr.sureAddr, hst]
      · have := setRow_heap w g _ (stL off (a.eval y).cells.toList (us ++ sp)).toArray _ _ h5
        rw [this, happ]
      · rw [List.length_append, hsl, ← List.length_append]; exact h6
      · rw [hsl]; exact h7
theorem o_append_t {α : Type} {f : α → List D} {xs ys : List α} (k' : Nat) [hS : Sl P t E z bytes] (hop : o.op = .call { callee := .builtin .append, args := #[x, y], argTypes := #[t, t] }) (hx : ev sl x = some (.h k)) (hy : ev sl y = some (.d (lst f ys))) (hH : look H k = some (some (arrT E z f xs))) (hf : ∀ a, (f a).length = z)
    (hb : (xs.length + ys.length) * bytes ≤ 140737488355328) (hm : xs.length + ys.length ≤ 9223372036854775807) (hkk : (!Nat.beq k k') = true) : OpD P o H sl k' 1 (.h k') [(k, none), (k', some (arrT E z f (xs ++ ys)))] := by
  have h1 := o_append_h (P := P) k' (m := ys.length) (ws := (ys.flatMap f).map .d) hop hx hy hH rfl (by rw [List.length_map, flat_len hf]) hb hm hkk
  unfold arrT
  rw [List.length_append, List.flatMap_append, List.map_append]; exact h1
theorem o_append_nt {α : Type} {f : α → List D} {ys : List α} (k' : Nat) [hS : Sl P t E z bytes] (hop : o.op = .call { callee := .builtin .append, args := #[x, y], argTypes := #[t, t] }) (hx : ev sl x = some (.d (.c (.slice none 0 0)))) (hy : ev sl y = some (.d (lst f ys))) (hf : ∀ a, (f a).length = z)
    (hb : ys.length * bytes ≤ 140737488355328) (hm : ys.length ≤ 9223372036854775807) : OpD P o H sl k' 1 (.h k') [(k', some (arrT E z f ys))] :=
  o_append_n k' (m := ys.length) (ws := (ys.flatMap f).map .d) hop hx hy rfl (by rw [List.length_map, flat_len hf]) hb hm
end
end Go.Proofs.YtlbnhhfaedhgfaaDoor
namespace Go.Proofs.YtlbnhhfaedhgfaaDoor
set_option linter.unusedSimpArgs false
set_option linter.unusedVariables false
open Go.RowKit

section
variable {P : Program} {o : Oper} {H : Hp} {sl : List (Nat × V)} {u ux uy : V} {h : Hp} {x y : Operand} {T T' U E t : TypeId} {n k z off bytes m d : Nat} {i : Int} {ag : Bool} {cs cs' ws : List V}
theorem n_alloc {zs : List Value} (hop : o.op = .alloc T) (hd : o.dst = some d) (hk : d + 100 = k) (hz : ZeroIs P T zs) (h1 : zs.all Value.oneCell' = true) (hcs : zs.map (fun v => V.d (.c v)) = cs) : OpD P o H sl k 1 (.p k 0) [(k, some (.box T cs))] := o_alloc k hop hz h1 hcs
theorem n_box (hop : o.op = .box T x) (hd : o.dst = some d) (hk : d + 100 = k) (hx : ev sl x = some u) (hc : (cellsV u).all cellV = true) (hcs : cellsV u = cs) : OpD P o H sl k 1 (.p k 0) [(k, some (.box T cs))] := o_box k hop hx hc hcs
theorem n_bs {parts : Array (Nat × Operand)} {len : Nat} {l : List (Nat × V)} [hS : Sl P t E z bytes] (hop : o.op = .buildSlice t len parts) (hd : o.dst = some d) (hk : d + 100 = k) (hl : evs sl parts.toList = some l) (hf : flatV z 0 l = some cs) (hn : (parts.size == len && Nat.ble (len * z) 16777216 && Nat.ble len 16777216) = true) : OpD P o H sl k 1 (.h k) [(k, some (.arr E z len cs))] := o_bs k hop hl hf hn
theorem n_append_nt {α : Type} {f : α → List D} {ys : List α} [hS : Sl P t E z bytes] (hop : o.op = .call { callee := .builtin .append, args := #[x, y], argTypes := #[t, t] }) (hd : o.dst = some d) (hk : d + 100 = k) (hx : ev sl x = some (.d (.c (.slice none 0 0)))) (hy : ev sl y = some (.d (lst f ys))) (hf : ∀ a, (f a).length = z)
    (hb : ys.length * bytes ≤ 140737488355328) (hm : ys.length ≤ 9223372036854775807) : OpD P o H sl k 1 (.h k) [(k, some (arrT E z f ys))] := o_append_nt k hop hx hy hf hb hm
theorem n_append_t {α : Type} {f : α → List D} {xs ys : List α} {k' : Nat} [hS : Sl P t E z bytes] (hop : o.op = .call { callee := .builtin .append, args := #[x, y], argTypes := #[t, t] }) (hd : o.dst = some d) (hk : d + 100 = k') (hx : ev sl x = some (.h k)) (hy : ev sl y = some (.d (lst f ys))) (hH : look H k = some (some (arrT E z f xs))) (hf : ∀ a, (f a).length = z)
    (hb : (xs.length + ys.length) * bytes ≤ 140737488355328) (hm : xs.length + ys.length ≤ 9223372036854775807) (hkk : (!Nat.beq k k') = true) : OpD P o H sl k' 1 (.h k') [(k, none), (k', some (arrT E z f (xs ++ ys)))] := o_append_t k' hop hx hy hH hf hb hm hkk
end
section
variable {Γ : Cx} {k : Kont} {sl : List (Nat × V)} {hp : Hp} {o : Oper} {ops : Array Oper} {i an d : Nat} {ts : List Nat} {r : List PI} {F : List Ft} {u v : V} {T T' E t : TypeId} {x y : Operand} {n kk k' off z m o1 bytes : Nat} {ag : Bool} {cs cs' : List V}
theorem wd_append_t {α : Type} {f : α → List D} {xs ys : List α} [hS : Sl Γ.P t E z bytes] (hop : o.op = .call { callee := .builtin .append, args := #[x, y], argTypes := #[t, t] }) (hd : o.dst = some d) (hkd : d + 100 = k') (hx : ev (keep ts sl) x = some (.h kk)) (hy : ev (keep ts sl) y = some (.d (lst f ys))) (hH : look hp kk = some (some (arrT E z f xs))) (hf : ∀ a, (f a).length = z)
    (hb : (xs.length + ys.length) * bytes ≤ 140737488355328) (hm : xs.length + ys.length ≤ 9223372036854775807) (hkk : (!Nat.beq kk k') = true) (hw : Wt ops o (keep ts sl) true) (hdl : Nat.blt d Γ.nt = true) (hfr : freshB hp k' 1 = true) (hfo : okF ⟨⟨i, an, ts⟩, [kk], [kk, k'], k', 1⟩ F = true)
    (hk : WD Γ ops k r (⟨⟨i, an, ts⟩, [kk], [kk, k'], k', 1⟩ :: F) ⟨(d, .h k') :: sl, (kk, none) :: (k', some (arrT E z f (xs ++ ys))) :: hp⟩) : WO Γ ops k o i an ts r F ⟨sl, hp⟩ :=
  wd_2 [kk] (o_append_t k' hop hx hy (by rw [keep1]; exact hH) hf hb hm hkk) hd hw hdl hfr hfo hk
end

section
variable {Γ : Cx} {k : Kont} {sl : List (Nat × V)} {hp : Hp} {o : Oper} {ops : Array Oper} {i an d lo nn : Nat} {ts : List Nat} {r : List PI} {F : List Ft} {u : V}
theorem wl_cp {rest : List Oper} (hm : OpV Γ.P o hp sl lo nn fun u' h' => u' = u ∧ h' = []) (hg : o.guard = none) (hd : o.dst = some d) (hdl : Nat.blt d Γ.nt = true) (hf : freshB hp lo nn = true) (hk : WL Γ ops rest k ⟨(d, u) :: sl, hp⟩) : WL Γ ops (o :: rest) k ⟨sl, hp⟩ := wl_c hm hg hd hdl hf hk
theorem wd_cp (ks : List Nat) (hm : OpV Γ.P o (keep ks hp) (keep ts sl) lo nn fun u' h' => u' = u ∧ h' = []) (hd : o.dst = some d) (hw : Wt ops o (keep ts sl) true) (hdl : Nat.blt d Γ.nt = true) (hfr : freshB hp lo nn = true) (hf : okF ⟨⟨i, an, ts⟩, ks, [], lo, nn⟩ F = true)
    (hk : WD Γ ops k r (⟨⟨i, an, ts⟩, ks, [], lo, nn⟩ :: F) ⟨(d, u) :: sl, hp⟩) : WO Γ ops k o i an ts r F ⟨sl, hp⟩ := wd_c hm hd hw hdl rfl hfr hf hk
end
theorem vws_dm {H : Hp} {f : List (Nat × Nat)} : ∀ ds : List D, Vws H f (ds.map .d) (ds.map .d)
  | [] => .nil
  | d :: ds => .cons (.d d) (vws_dm ds)
theorem okb_nil {B : Nat → Prop} {w : World} {ρ : Lc} {k : Nat} {v : Value} (hk : ρ k = none) (hv : (Loc.arr v).bl = none) (b : Nat) : okb B w (upd ρ k (.arr v)) b ↔ okb B w ρ b := by
  constructor
  · rintro ⟨h1, h2, h3⟩
    exact ⟨h1, h2, fun j l hj => h3 j l (upd_ext hk j l hj)⟩
  · rintro ⟨h1, h2, h3⟩
    refine ⟨h1, h2, fun j l hj => ?_⟩
    rcases upd_case hj with ⟨-, rfl⟩ | hj
    · rw [hv]; simp
    · exact h3 j l hj
theorem relp_nilown {Γ : Cx} {sl : List (Nat × V)} {hp : Hp} {ρ : Lc} {a : Act} {w : World} (hr : RelP Γ ⟨sl, hp⟩ ρ a w) (k : Nat) (E : TypeId) (z : Nat) (hf : freshB hp k 1 = true) : RelP Γ ⟨sl, (k, some (.arr E z 0 [])) :: hp⟩ (upd ρ k (.arr (.slice none 0 0))) a w := by
  have hk : ρ k = none := fresh_of hr hf k (Nat.le_refl _) (by omega)
  have hlk : look hp k = none := freshB_look hf (Nat.le_refl _) (by omega)
  have hst : Stl w w (okb Γ.B w ρ) (okb Γ.B w (upd ρ k (.arr (.slice none 0 0)))) := fun b hb => ⟨(okb_nil hk rfl b).2 hb, rfl⟩
  refine ⟨hr.defers, hr.size, hr.kp, fun j l hj => upd_ext hk j l (hr.ext0 j l hj), fun j l b hj hb => ?_, fun j l hj => ?_, hr.dom0, hr.bup, ⟨fun j blk hj => ?_, fun j j' blk blk' l l' b h1 h2 h3 h4 h5 h6 => ?_, fun j l b hj hb => ?_, fun e he => ⟨(okb_nil hk rfl _).2 (hr.hr.gl e he).1, (hr.hr.gl e he).2⟩⟩, fun t u hu => ?_⟩
  · rcases upd_case hj with ⟨-, rfl⟩ | hj
    · cases hb
    · rcases hr.own j l b hj hb with h | h | ⟨k0, l0, h3, h4, h5⟩
      · exact .inl h
      · exact .inr (.inl h)
      · refine .inr (.inr ⟨k0, l0, ?_, h4, h5⟩)
        have : k ≠ k0 := fun e => by subst e; simp only at h3; rw [hlk] at h3; cases h3
        simp only [look_cons, if_neg this]; exact h3
  · simp only [look_cons]
    split
    · simp
    · rcases upd_case hj with ⟨rfl, -⟩ | hj
      · contradiction
      · exact hr.dom j l hj
  · simp only [look_cons] at hj
    split at hj
    · subst_vars
      simp only [Option.some.injEq] at hj; subst hj
      exact ⟨_, upd_self _ _ _, .inl ⟨rfl, rfl, rfl⟩⟩
    · obtain ⟨l, h1, h2⟩ := hr.hr.rel j blk hj
      exact ⟨l, upd_ext hk _ _ h1, Blk.rel_mono hst (upd_ext hk) (fun _ _ => rfl) h2⟩
  · rcases upd_case h3 with ⟨-, rfl⟩ | h3'
    · cases h5
    · rcases upd_case h4 with ⟨-, rfl⟩ | h4'
      · cases h6
      · have e1 : k ≠ j := fun e => by subst e; rw [hk] at h3'; cases h3'
        have e2 : k ≠ j' := fun e => by subst e; rw [hk] at h4'; cases h4'
        simp only [look_cons, if_neg e1] at h1
        simp only [look_cons, if_neg e2] at h2
        exact hr.hr.inj j j' blk blk' l l' b h1 h2 h3' h4' h5 h6
  · rcases upd_case hj with ⟨-, rfl⟩ | hj
    · cases hb
    · exact hr.hr.lt j l b hj hb
  · obtain ⟨v, h1, h2⟩ := hr.sr t u hu
    exact ⟨v, h1, h2.mono hst (upd_ext hk)⟩
theorem wk_nil {Γ : Cx} {sl : List (Nat × V)} {hp : Hp} (t k : Nat) (E : TypeId) (z : Nat) (ht : look sl t = some (.d (.c (.slice none 0 0)))) (hf : freshB hp k 1 = true) : Wk Γ ⟨sl, hp⟩ ⟨(t, .h k) :: sl, (k, some (.arr E z 0 [])) :: hp⟩ := fun a w ⟨ρ, hr⟩ => by
  have h1 := relp_nilown hr k E z hf
  refine ⟨_, h1.defers, h1.size, h1.kp, h1.ext0, h1.own, h1.dom, h1.dom0, h1.bup, h1.hr, fun t' u hu => ?_⟩
  simp only [look_cons] at hu
  split at hu
  · subst_vars
    simp only [Option.some.injEq] at hu; subst hu
    obtain ⟨v, h2, h3⟩ := hr.sr t' _ ht
    exact ⟨v, h2, by rw [rv_c h3]; exact .h (upd_self _ _ _)⟩
  · exact h1.sr t' u hu
theorem setV_rel {w : World} {ok : Nat → Prop} {ρ : Lc} {x : V} {v : Value} (hx : RV w ok ρ x v) : ∀ (o : Nat) {cs : List V} {us : List Value}, RVs w ok ρ cs us → us[o]? = some v → RVs w ok ρ (cs.set o x) us
  | _, _, _, .nil, h => by simp at h
  | 0, _, _, .cons h1 h2, h => by
    simp only [List.getElem?_cons_zero, Option.some.injEq] at h; subst h
    exact .cons hx h2
  | o + 1, _, _, .cons h1 h2, h => .cons h1 (setV_rel hx o h2 (by simpa using h))
theorem wk_nilb {Γ : Cx} {sl : List (Nat × V)} {hp : Hp} {T : TypeId} {cs cs' : List V} (b o k : Nat) (E : TypeId) (z : Nat) (hb : look hp b = some (some (.box T cs))) (hc : cs[o]? = some (.d (.c (.slice none 0 0)))) (hf : freshB hp k 1 = true) (hs : cs.set o (.h k) = cs') : Wk Γ ⟨sl, hp⟩ ⟨sl, (b, some (.box T cs')) :: (k, some (.arr E z 0 [])) :: hp⟩ := fun a w ⟨ρ, hr⟩ => by
  subst hs
  have h1 := relp_nilown hr k E z hf
  have hbk : k ≠ b := fun e => by subst e; rw [freshB_look hf (Nat.le_refl _) (by omega)] at hb; cases hb
  have hb1 : look ((k, some (.arr E z 0 [])) :: hp) b = some (some (.box T cs)) := by rw [look_cons, if_neg hbk]; exact hb
  have hne : ∀ j x, look ((k, some (.arr E z 0 [])) :: hp) j = some x → x = none → look ((b, some (.box T (cs.set o (.h k)))) :: (k, some (.arr E z 0 [])) :: hp) j = some x := fun j x hj e => by
    rw [look_cons]; split
    · subst_vars; rw [hb1] at hj; cases hj
    · exact hj
  refine ⟨_, h1.defers, h1.size, h1.kp, h1.ext0, fun j l c hj hc => ?_, fun j l hj => ?_, h1.dom0, h1.bup, ⟨fun j blk hj => ?_, fun j j' blk blk' l l' c g1 g2 => ?_, h1.hr.lt, h1.hr.gl⟩, h1.sr⟩
  · rcases h1.own j l c hj hc with h | h | ⟨k0, l0, h3, h4, h5⟩
    · exact .inl h
    · exact .inr (.inl h)
    · exact .inr (.inr ⟨k0, l0, hne k0 _ h3 rfl, h4, h5⟩)
  · have := h1.dom j l hj
    simp only [look_cons b]
    split
    · simp
    · exact this
  · simp only [look_cons b] at hj
    split at hj
    · subst_vars
      simp only [Option.some.injEq] at hj; subst hj
      obtain ⟨l, h2, h3⟩ := h1.hr.rel _ _ hb1
      refine ⟨l, h2, ?_⟩
      cases l with
      | arr v => exact h3.elim
      | box g =>
        obtain ⟨us, h4, h5, h6⟩ := h3
        obtain ⟨v, h7, h8⟩ := h6.get hc
        refine ⟨us, h4, h5, setV_rel ?_ o h6 h7⟩
        rw [rv_c h8]; exact .h (upd_self _ _ _)
    · exact h1.hr.rel j blk hj
  · have key : ∀ j x, look ((b, some (.box T (cs.set o (.h k)))) :: (k, some (.arr E z 0 [])) :: hp) j = some (some x) → ∃ y, look ((k, some (.arr E z 0 [])) :: hp) j = some (some y) := fun j x hj => by
      rw [look_cons] at hj; split at hj
      · subst_vars; exact ⟨_, hb1⟩
      · exact ⟨_, hj⟩
    obtain ⟨y, g3⟩ := key j _ g1
    obtain ⟨y', g4⟩ := key j' _ g2
    exact h1.hr.inj j j' y y' l l' c g3 g4
end Go.Proofs.YtlbnhhfaedhgfaaDoor
namespace Go.Proofs.YtlbnhhfaedhgfaaDoor
set_option linter.unusedSimpArgs false
set_option linter.unusedVariables false
open Go.RowKit

section
variable {Γ : Cx} {k : Kont} {sl : List (Nat × V)} {hp : Hp} {o : Oper} {ops : Array Oper} {i an d lo nn : Nat} {ts : List Nat} {r : List PI} {F : List Ft} {u : V}
end
section
variable {Γ : Cx} {P : Program} {ks : List Nat} {rs : List ResultVar} {Ψ : V → Hp → Prop} {st : St} {us : List V} {u : V}
theorem wk_pure (h1 : resV st rs = some us) (h2 : resT P st rs) (hp : postB ks st [] [] = true) (h3 : Vw st.hp [] (one us) u) (h4 : Ψ u []) : WK Γ (.fn (PostV P ks rs Ψ)) .ret st := wk_fn_r (Wk.refl _ _) ⟨us, [], u, [], h1, h2, hp, h3, VH.nil, h4⟩
theorem wk_pure_n (h1 : resV st rs = some us) (h2 : resT P st rs) (hp : postB ks st [] [] = true) (h3 : Vw st.hp [] (one us) u) (h4 : Ψ u []) : WK Γ (.fn (PostV P ks rs Ψ)) .normal st := wk_fn_n (Wk.refl _ _) ⟨us, [], u, [], h1, h2, hp, h3, VH.nil, h4⟩
theorem wk_own (f : List (Nat × Nat)) {h : Hp} (h1 : resV st rs = some us) (h2 : resT P st rs) (hp : postB ks st f h = true) (h3 : Vw st.hp f (one us) u) (h5 : VH st.hp st.hp f h) (h4 : Ψ u h) : WK Γ (.fn (PostV P ks rs Ψ)) .ret st := wk_fn_r (Wk.refl _ _) ⟨us, f, u, h, h1, h2, hp, h3, h5, h4⟩
end
section
variable {Γ : Cx} {k : Kont} {st : St} {ops : Array Oper} {rest : List Oper} {d : Option Tmp} {ty : TypeId} {ps : String} {af : Array Edge} {g : Option (Nat × Bool)} {gg : Nat × Bool} {T T' : TypeId} {x y z : Operand} {n i an : Nat} {bo : BinOp} {uo : UnOp} {bb : Builtin} {xs : Array Operand} {ts : Array TypeId} {pa : Array (Nat × Operand)} {tl : List Nat} {r : List PI} {F : List Ft} {o : Oper} {c : Code} {e : Exit} {op : Op}
end
end Go.Proofs.YtlbnhhfaedhgfaaDoor
namespace Go.Proofs.YtlbnhhfaedhgfaaDoor
set_option linter.unusedSimpArgs false
set_option linter.unusedVariables false
open Go.RowKit

def mget (z : Value) (i : Int) : List (Value × Value) → Value
  | [] => z
  | (.int .i64 a, v) :: r => if i = a then v else mget z i r
  | (_, _) :: r => mget z i r
def mkeys : List (Value × Value) → Bool
  | [] => true
  | (.int .i64 _, v) :: r => v.oneCell' && mkeys r
  | (_, _) :: _ => false
theorem findNow_m (z : Value) (i : Int) : ∀ (l : List MapEntry) (n : Nat), mkeys (l.map fun e => (e.key, e.val)) = true →
    ∃ r, Instr.findNow (.int .i64) (.int .i64 i) l n = some r ∧ (match r with | some (_, v) => v | none => z) = mget z i (l.map fun e => (e.key, e.val))
  | [], n, _ => ⟨none, rfl, rfl⟩
  | ⟨kk, v, bn⟩ :: r, n, h => by
    cases kk with
    | int k a =>
      cases k <;> first | (simp [mkeys] at h; done) | skip
      simp only [List.map_cons, mkeys, Bool.and_eq_true] at h
      obtain ⟨r', g1, g2⟩ := findNow_m z i r (n + 1) h.2
      simp only [Instr.findNow, Instr.sameNow, List.map_cons, mget, if_true]
      by_cases hi : i = a
      · subst hi
        simp
      · have : (i == a) = false := by simpa using hi
        rw [this, if_neg hi]
        exact ⟨r', g1, g2⟩
    | _ => simp [mkeys] at h
theorem mget_one {z : Value} {i : Int} (hz : z.oneCell' = true) : ∀ {es : List (Value × Value)}, mkeys es = true → (mget z i es).oneCell' = true
  | [], _ => hz
  | (kk, v) :: r, h => by
    cases kk with
    | int k a =>
      cases k <;> first | (simp [mkeys] at h; done) | skip
      simp only [mkeys, Bool.and_eq_true] at h
      simp only [mget]
      split
      · exact h.1
      · exact mget_one hz h.2
    | _ => simp [mkeys] at h
section
variable {P : Program} {o : Oper} {H : Hp} {sl : List (Nat × V)} {x y : Operand} {t K E T U : TypeId} {i : Int} {es : List (Value × Value)} {z v : Value}
class Mp (P : Program) (T : TypeId) (K E : outParam TypeId) : Prop where
  out : P.underlying T = some (.map K E)
theorem zeroE_run {w : World} (h : (P.info? E).bind (·.zero) = some z) : (zeroValue E).run P w = .ok z w := by
  cases hi : P.info? E with
  | none => simp [hi] at h
  | some i => simp [hi] at h; simp [zeroValue, typeInfo, program, Sem.run, hi, h]
def isFuncT : Option TypeDesc → Bool
  | some (.func _ _ _) => true
  | _ => false
theorem isFuncT_ex {t : Option TypeDesc} (h : isFuncT t = true) : ∃ a b c, t = some (.func a b c) := by
  cases t with
  | none => cases h
  | some d => cases d <;> first | exact ⟨_, _, _, rfl⟩ | cases h
theorem o_lookup (hop : o.op = .lookup t x y false) (hx : ev sl x = some (.d (.m es))) (hy : ev sl y = some (vI i)) (hM : Mp P t K E) (hK : P.underlying K = some (.int .i64)) (hz0 : (P.info? E).bind (·.zero) = some z) (h1 : z.oneCell' = true) (hk : mkeys es = true) :
    OpD P o H sl 0 0 (.d (.c (mget z i es))) [] := .read fun B a w ρ hs _ => by
  have ht := hM.out
  have hz := fun w => zeroE_run (w := w) hz0
  refine ⟨mget z i es, ?_, .d (.c (mget_one h1 hk))⟩
  have hx' := ev_spec hs hx
  have hy' := rv_c (ev_spec hs hy)
  unfold execOp; rw [hop]
  simp only [hy']
  revert hx'
  generalize a.eval x = vx
  intro hx'
  cases hx' with
  | d hd =>
    cases hd with
    | @m b clock _ em g1 g2 g3 =>
      subst g3
      obtain ⟨r, e1, e2⟩ := findNow_m z i em.toList 0 hk
      have f1 := MapKept.run_findKey (P := P) (w := w) hK e1
      have f2 := MapKept.run_checkKey (P := P) (w := w) (k := .int .i64 i) hK rfl em.isEmpty 9999
      simp only [Nat.reduceAdd] at f2
      have f3 : (Instr.lookup t (.map (some b)) (.int .i64 i) false).run P w = .ok (mget z i (em.toList.map fun e => (e.key, e.val))) w := by
        unfold Instr.lookup
        simp only [Sem.run_bind, run_underlying ht, Result.andThen, MapKept.run_getObj_map g2, Sem.run_pure, f2, f1]
        rw [← e2]
        cases r with
        | none => simp [hz, Result.andThen]
        | some q => obtain ⟨j, v⟩ := q; simp [Result.andThen]
      simp [Result.andThen, f3]
def isNilF : Value → Bool
  | .nilFunc => true
  | _ => false
def isFn : Value → Bool
  | .nilFunc => true
  | .func _ _ _ => true
  | _ => false
theorem run_feq {w : World} {a b : Array TypeId} {c : Bool} (hT : P.underlying T = some (.func a b c)) {v : Value} (hv : isFn v = true) (d : Nat) : (Op.equalIn (d + 1) T v .nilFunc).run P w = .ok (isNilF v) w := by
  cases v <;> first | (simp [isFn] at hv; done) | simp [isNilF, Op.equalIn, run_underlying hT, Result.andThen]
theorem o_feq (hop : o.op = .binOp .eql T x y U) (hx : ev sl x = some (.d (.c v))) (hy : ev sl y = some (.d (.c .nilFunc))) (hT0 : isFuncT (P.underlying T) = true) (hv : isFn v = true) :
    OpD P o H sl 0 0 (vB (isNilF v)) [] := by
  obtain ⟨a, b, c, hT⟩ := isFuncT_ex hT0
  exact o_bin hop hx hy (fun w => by
    have := run_feq (P := P) (w := w) hT hv 9999
    simp only [Nat.reduceAdd] at this
    simp only [binOp, Op.equal, Op.maxDepth, Sem.run_bind, this, Result.andThen_ok, Sem.run_pure]) (by cases v <;> first | (simp [isFn] at hv; done) | rfl) rfl
end
end Go.Proofs.YtlbnhhfaedhgfaaDoor
namespace Go.Proofs.YtlbnhhfaedhgfaaDoor
set_option linter.unusedSimpArgs false
set_option linter.unusedVariables false
open Go.RowKit
attribute [local simp] Sem.run_bind Sem.run_pure Result.andThen_ok
section
variable {P : Program} {o : Oper} {H : Hp} {sl : List (Nat × V)} {x y z : Operand} {T K E : TypeId} {k d : Nat} {s : ByteArray}
theorem run_newObj {w : World} (ob : Obj) : (newObj ob).run P w = .ok w.heap.size (w.alloc ob) := rfl
def noCells : Obj → Bool
  | .cells _ _ _ => false
  | _ => true
theorem getObj_run {w : World} {r : Nat} {ob : Obj} (h : w.heap[r]? = some ob) (hn : noCells ob = true) : (getObj r).run P w = .ok ob w := by
  cases ob <;> first | (simp [noCells] at hn; done) | simp [getObj, Sem.run, h]
theorem setObj_run {w : World} {r : Nat} {ob : Obj} (o' : Obj) (h : w.heap[r]? = some ob) (hn : noCells ob = true) : (setObj r o').run P w = .ok () { w with heap := w.heap.setIfInBounds r o' } := by
  cases ob <;> first | (simp [noCells] at hn; done) | simp [setObj, Sem.run, h]
theorem o_range (hop : o.op = .range T x) (hd : o.dst = some d) (hk : d + 100 = k) (hx : ev sl x = some (vS s)) (ht : P.underlying T = some .string) : OpD P o H sl k 1 (.p k 0) [(k, some (.ob (.stringIter s 0)))] := fun B a w ρ hs hr hfr => by
  have hx' := rv_c (ev_spec hs hx)
  have hkk := hfr k (Nat.le_refl _) (by omega)
  refine ⟨_, .pointer (some ⟨w.heap.size, 0, none⟩), w.alloc (.stringIter s 0), upd ρ k (.box w.heap.size), ?_, .inl rfl, Step.new1 hkk rfl (.inl rfl) fun ok' ρ' _ _ h => h, .p (upd_self _ _ _)⟩
  unfold execOp; rw [hop]
  simp [Instr.range, hx', run_underlying ht, run_newObj]
theorem set_other (w : World) (b j : Nat) (o' : Obj) (h : j ≠ b) : ({ w with heap := w.heap.setIfInBounds b o' } : World).heap[j]? = w.heap[j]? := by
  simp only; rw [Array.getElem?_setIfInBounds_ne (Ne.symm h)]
theorem set_self (w : World) (b : Nat) (o' ob : Obj) (h : w.heap[b]? = some ob) : ({ w with heap := w.heap.setIfInBounds b o' } : World).heap[b]? = some o' := by
  have hlt := (Array.getElem?_eq_some_iff.1 h).1
  simp [hlt]
theorem o_next_t {pos c wd : Nat} (hop : o.op = .next x true) (hx : ev sl x = some (.p k 0)) (hH : look H k = some (some (.ob (.stringIter s pos)))) (h : pos < s.size) (hc : Utf8.decode s pos = (c, wd)) : OpD P o H sl 0 0 (.t [vB true, vI pos, .d (.c (.int .i32 c))]) [(k, some (.ob (.stringIter s (pos + wd))))] := fun B a w ρ hs hr _ => by
  obtain ⟨l, g1, g2⟩ := hr.rel _ _ hH
  have hx' := ev_spec hs hx
  cases l with
  | arr v => exact g2.elim
  | box b =>
    have g2 : w.heap[b]? = some (.stringIter s pos) := g2
    have e : a.eval x = .pointer (some ⟨b, 0, none⟩) := by
      generalize a.eval x = vx at hx'
      cases hx' with
      | p hp => rw [g1] at hp; simp only [Option.some.injEq, Loc.box.injEq] at hp; rw [hp]
    refine ⟨_, .tuple #[.bool true, .int .i64 pos, .int .i32 c], { w with heap := w.heap.setIfInBounds b (.stringIter s (pos + wd)) }, ρ, ?_, .inl rfl, Step.set1 g1 hH rfl (by simp) rfl rfl rfl (fun j hj => set_other w b j _ hj) fun ok' _ => set_self w b _ _ g2, .t (.cons (.d (.c rfl)) (.cons (.d (.c rfl)) (.cons (.d (.c rfl)) .nil)))⟩
    unfold execOp; rw [hop]
    simp [Instr.next, e, getObj_run g2 rfl, h, hc, setObj_run _ g2 rfl, goInt]
theorem o_next_f {pos : Nat} (hop : o.op = .next x true) (hx : ev sl x = some (.p k 0)) (hH : look H k = some (some (.ob (.stringIter s pos)))) (h : ¬ pos < s.size) : OpD P o H sl 0 0 (.t [vB false]) [] := .read fun B a w ρ hs hr => by
  obtain ⟨l, g1, g2⟩ := hr.rel _ _ hH
  have hx' := ev_spec hs hx
  cases l with
  | arr v => exact g2.elim
  | box b =>
    have g2 : w.heap[b]? = some (.stringIter s pos) := g2
    have e : a.eval x = .pointer (some ⟨b, 0, none⟩) := by
      generalize a.eval x = vx at hx'
      cases hx' with
      | p hp => rw [g1] at hp; simp only [Option.some.injEq, Loc.box.injEq] at hp; rw [hp]
    refine ⟨.tuple #[.bool false], ?_, .t (.cons (.d (.c rfl)) .nil)⟩
    unfold execOp; rw [hop]
    simp [Instr.next, e, getObj_run g2 rfl, h]
theorem o_mkmap (hop : o.op = .makeMap T none) (hd : o.dst = some d) (hk : d + 100 = k) : OpD P o H sl k 1 (.mp k) [(k, some (.ob (.map #[] 0)))] := fun B a w ρ hs hr hfr => by
  have hkk := hfr k (Nat.le_refl _) (by omega)
  refine ⟨_, .map (some w.heap.size), w.alloc (.map #[] 0), upd ρ k (.box w.heap.size), ?_, .inl rfl, Step.new1 hkk rfl (.inl rfl) fun ok' ρ' _ _ h => h, .mp (upd_self _ _ _)⟩
  unfold execOp; rw [hop]
  simp [Instr.makeMap, run_newObj]
theorem o_insert {em : Array MapEntry} {clock : Nat} {i : Int} {v : Value} (hop : o.op = .insert T x y z) (hx : ev sl x = some (.mp k)) (hy : ev sl y = some (vI i)) (hz : ev sl z = some (.d (.c v))) (hH : look H k = some (some (.ob (.map em clock)))) (hM : Mp P T K E) (hK : P.underlying K = some (.int .i64))
    (hf : Instr.findNow (.int .i64) (.int .i64 i) em.toList 0 = some none) : OpD P o H sl 0 0 .un [(k, some (.ob (.map (em.push ⟨.int .i64 i, v, clock⟩) (clock + 1))))] := fun B a w ρ hs hr _ => by
  obtain ⟨l, g1, g2⟩ := hr.rel _ _ hH
  have hx' := ev_spec hs hx
  have hy' := rv_c (ev_spec hs hy)
  have hz' := rv_c (ev_spec hs hz)
  cases l with
  | arr v => exact g2.elim
  | box b =>
    have g2 : w.heap[b]? = some (.map em clock) := g2
    have e : a.eval x = .map (some b) := by
      generalize a.eval x = vx at hx'
      cases hx' with
      | mp hp => rw [g1] at hp; simp only [Option.some.injEq, Loc.box.injEq] at hp; rw [hp]
    have ht := hM.out
    have f1 := MapKept.run_findKey (P := P) (w := w) hK hf
    have f2 := MapKept.run_checkKey (P := P) (w := w) (k := .int .i64 i) hK rfl false 9999
    simp only [Nat.reduceAdd] at f2
    refine ⟨.skip, undef, { w with heap := w.heap.setIfInBounds b (.map (em.push ⟨.int .i64 i, v, clock⟩) (clock + 1)) }, ρ, ?_, .inr ⟨rfl, rfl⟩, Step.set1 g1 hH rfl (by simp) rfl rfl rfl (fun j hj => set_other w b j _ hj) fun ok' _ => set_self w b _ _ g2, .un⟩
    unfold execOp; rw [hop]
    simp [Instr.mapUpdate, e, hy', hz', run_underlying ht, getObj_run g2 rfl, setObj_run _ g2 rfl, f1, f2]
end
end Go.Proofs.YtlbnhhfaedhgfaaDoor
namespace Go.Proofs.YtlbnhhfaedhgfaaDoor
set_option linter.unusedSimpArgs false
set_option linter.unusedVariables false
open Go.RowKit

theorem mixed : Tryd.prog.follows .mixedOrders = true := by kernel_rfl
end Go.Proofs.YtlbnhhfaedhgfaaDoor
namespace Go.Proofs.YtlbnhhfaedhgfaaDoor
set_option linter.unusedSimpArgs false
set_option linter.unusedVariables false
open Go.RowKit
instance ty2 : Ty Tryd.prog 2 1 false := ⟨by kernel_rfl, by kernel_rfl⟩
instance zo2 : ZeroI Tryd.prog 2 [.int .i64 0] := ⟨by unfold ZeroIs; kernel_rfl⟩
instance ty3 : Ty Tryd.prog 3 1 false := ⟨by kernel_rfl, by kernel_rfl⟩
instance zo3 : ZeroI Tryd.prog 3 [.int .i64 0] := ⟨by unfold ZeroIs; kernel_rfl⟩
instance ty4 : Ty Tryd.prog 4 1 false := ⟨by kernel_rfl, by kernel_rfl⟩
instance zo4 : ZeroI Tryd.prog 4 [.bool false] := ⟨by unfold ZeroIs; kernel_rfl⟩
instance ty5 : Ty Tryd.prog 5 1 false := ⟨by kernel_rfl, by kernel_rfl⟩
instance zo5 : ZeroI Tryd.prog 5 [.int .u8 0] := ⟨by unfold ZeroIs; kernel_rfl⟩
instance ty9 : Ty Tryd.prog 9 1 false := ⟨by kernel_rfl, by kernel_rfl⟩
instance zo9 : ZeroI Tryd.prog 9 [.string ⟨#[]⟩] := ⟨by unfold ZeroIs; kernel_rfl⟩
instance ty12 : Ty Tryd.prog 12 1 false := ⟨by kernel_rfl, by kernel_rfl⟩
instance zo12 : ZeroI Tryd.prog 12 [.int .u64 0] := ⟨by unfold ZeroIs; kernel_rfl⟩
instance ty20 : Ty Tryd.prog 20 1 false := ⟨by kernel_rfl, by kernel_rfl⟩
instance zo20 : ZeroI Tryd.prog 20 [.nilIface] := ⟨by unfold ZeroIs; kernel_rfl⟩
instance ty21 : Ty Tryd.prog 21 1 false := ⟨by kernel_rfl, by kernel_rfl⟩
instance zo21 : ZeroI Tryd.prog 21 [.int .i32 0] := ⟨by unfold ZeroIs; kernel_rfl⟩
instance ty22 : Ty Tryd.prog 22 1 false := ⟨by kernel_rfl, by kernel_rfl⟩
instance zo22 : ZeroI Tryd.prog 22 [.slice none 0 0] := ⟨by unfold ZeroIs; kernel_rfl⟩
instance ty23 : Ty Tryd.prog 23 1 false := ⟨by kernel_rfl, by kernel_rfl⟩
instance zo23 : ZeroI Tryd.prog 23 [.slice none 0 0] := ⟨by unfold ZeroIs; kernel_rfl⟩
instance ty25 : Ty Tryd.prog 25 4 true := ⟨by kernel_rfl, by kernel_rfl⟩
instance zo25 : ZeroI Tryd.prog 25 [.int .i64 0, .slice none 0 0, .string ⟨#[]⟩, .int .i64 0] := ⟨by unfold ZeroIs; kernel_rfl⟩
instance ty27 : Ty Tryd.prog 27 1 false := ⟨by kernel_rfl, by kernel_rfl⟩
instance zo27 : ZeroI Tryd.prog 27 [.pointer none] := ⟨by unfold ZeroIs; kernel_rfl⟩
instance ty32 : Ty Tryd.prog 32 1 false := ⟨by kernel_rfl, by kernel_rfl⟩
instance zo32 : ZeroI Tryd.prog 32 [.slice none 0 0] := ⟨by unfold ZeroIs; kernel_rfl⟩
instance ty36 : Ty Tryd.prog 36 2 true := ⟨by kernel_rfl, by kernel_rfl⟩
instance zo36 : ZeroI Tryd.prog 36 [.string ⟨#[]⟩, .bool false] := ⟨by unfold ZeroIs; kernel_rfl⟩
instance ty38 : Ty Tryd.prog 38 4 true := ⟨by kernel_rfl, by kernel_rfl⟩
instance zo38 : ZeroI Tryd.prog 38 [.string ⟨#[]⟩, .bool false, .string ⟨#[]⟩, .bool false] := ⟨by unfold ZeroIs; kernel_rfl⟩
instance ty40 : Ty Tryd.prog 40 1 false := ⟨by kernel_rfl, by kernel_rfl⟩
instance zo40 : ZeroI Tryd.prog 40 [.slice none 0 0] := ⟨by unfold ZeroIs; kernel_rfl⟩
instance ty41 : Ty Tryd.prog 41 1 false := ⟨by kernel_rfl, by kernel_rfl⟩
instance zo41 : ZeroI Tryd.prog 41 [.slice none 0 0] := ⟨by unfold ZeroIs; kernel_rfl⟩
instance ty42 : Ty Tryd.prog 42 1 false := ⟨by kernel_rfl, by kernel_rfl⟩
instance zo42 : ZeroI Tryd.prog 42 [.slice none 0 0] := ⟨by unfold ZeroIs; kernel_rfl⟩
instance ty44 : Ty Tryd.prog 44 6 true := ⟨by kernel_rfl, by kernel_rfl⟩
instance zo44 : ZeroI Tryd.prog 44 [.int .i64 0, .slice none 0 0, .string ⟨#[]⟩, .int .i64 0, .slice none 0 0, .slice none 0 0] := ⟨by unfold ZeroIs; kernel_rfl⟩
instance ty45 : Ty Tryd.prog 45 1 false := ⟨by kernel_rfl, by kernel_rfl⟩
instance zo45 : ZeroI Tryd.prog 45 [.int .i64 0] := ⟨by unfold ZeroIs; kernel_rfl⟩
instance ty53 : Ty Tryd.prog 53 2 true := ⟨by kernel_rfl, by kernel_rfl⟩
instance zo53 : ZeroI Tryd.prog 53 [.int .i64 0, .int .i64 0] := ⟨by unfold ZeroIs; kernel_rfl⟩
instance ty54 : Ty Tryd.prog 54 1 false := ⟨by kernel_rfl, by kernel_rfl⟩
instance zo54 : ZeroI Tryd.prog 54 [.slice none 0 0] := ⟨by unfold ZeroIs; kernel_rfl⟩
instance ty56 : Ty Tryd.prog 56 8 true := ⟨by kernel_rfl, by kernel_rfl⟩
instance zo56 : ZeroI Tryd.prog 56 [.int .i64 0, .string ⟨#[]⟩, .bool false, .string ⟨#[]⟩, .bool false, .int .i64 0, .int .i64 0, .slice none 0 0] := ⟨by unfold ZeroIs; kernel_rfl⟩
instance ty60 : Ty Tryd.prog 60 12 true := ⟨by kernel_rfl, by kernel_rfl⟩
instance zo60 : ZeroI Tryd.prog 60 [.int .i64 0, .string ⟨#[]⟩, .bool false, .string ⟨#[]⟩, .bool false, .int .i64 0, .int .i64 0, .slice none 0 0, .string ⟨#[]⟩, .bool false, .string ⟨#[]⟩, .bool false] := ⟨by unfold ZeroIs; kernel_rfl⟩
instance ty62 : Ty Tryd.prog 62 2 true := ⟨by kernel_rfl, by kernel_rfl⟩
instance zo62 : ZeroI Tryd.prog 62 [.slice none 0 0, .int .i64 0] := ⟨by unfold ZeroIs; kernel_rfl⟩
instance ty86 : Ty Tryd.prog 86 6 true := ⟨by kernel_rfl, by kernel_rfl⟩
instance zo86 : ZeroI Tryd.prog 86 [.string ⟨#[]⟩, .string ⟨#[]⟩, .string ⟨#[]⟩, .string ⟨#[]⟩, .string ⟨#[]⟩, .string ⟨#[]⟩] := ⟨by unfold ZeroIs; kernel_rfl⟩
instance ty88 : Ty Tryd.prog 88 1 false := ⟨by kernel_rfl, by kernel_rfl⟩
instance zo88 : ZeroI Tryd.prog 88 [.slice none 0 0] := ⟨by unfold ZeroIs; kernel_rfl⟩
instance ty90 : Ty Tryd.prog 90 1 false := ⟨by kernel_rfl, by kernel_rfl⟩
instance zo90 : ZeroI Tryd.prog 90 [.map none] := ⟨by unfold ZeroIs; kernel_rfl⟩
instance ty96 : Ty Tryd.prog 96 2 true := ⟨by kernel_rfl, by kernel_rfl⟩
instance zo96 : ZeroI Tryd.prog 96 [.string ⟨#[]⟩, .string ⟨#[]⟩] := ⟨by unfold ZeroIs; kernel_rfl⟩
instance ty110 : Ty Tryd.prog 110 1 false := ⟨by kernel_rfl, by kernel_rfl⟩
instance zo110 : ZeroI Tryd.prog 110 [.int .u64 0] := ⟨by unfold ZeroIs; kernel_rfl⟩
instance ty121 : Ty Tryd.prog 121 1 false := ⟨by kernel_rfl, by kernel_rfl⟩
instance zo121 : ZeroI Tryd.prog 121 [.int .u32 0] := ⟨by unfold ZeroIs; kernel_rfl⟩
instance ty123 : Ty Tryd.prog 123 1 false := ⟨by kernel_rfl, by kernel_rfl⟩
instance zo123 : ZeroI Tryd.prog 123 [.int .u64 0] := ⟨by unfold ZeroIs; kernel_rfl⟩
instance ty128 : Ty Tryd.prog 128 1 false := ⟨by kernel_rfl, by kernel_rfl⟩
instance zo128 : ZeroI Tryd.prog 128 [.pointer none] := ⟨by unfold ZeroIs; kernel_rfl⟩
instance ty142 : Ty Tryd.prog 142 1 false := ⟨by kernel_rfl, by kernel_rfl⟩
instance zo142 : ZeroI Tryd.prog 142 [.pointer none] := ⟨by unfold ZeroIs; kernel_rfl⟩
instance ty147 : Ty Tryd.prog 147 1 false := ⟨by kernel_rfl, by kernel_rfl⟩
instance zo147 : ZeroI Tryd.prog 147 [.pointer none] := ⟨by unfold ZeroIs; kernel_rfl⟩
instance sl22 : Sl Tryd.prog 22 3 1 8 := Sl.mk' (by kernel_rfl) (by kernel_rfl)
instance sl23 : Sl Tryd.prog 23 38 4 48 := Sl.mk' (by kernel_rfl) (by kernel_rfl)
instance sl32 : Sl Tryd.prog 32 36 2 24 := Sl.mk' (by kernel_rfl) (by kernel_rfl)
instance sl40 : Sl Tryd.prog 40 25 4 56 := Sl.mk' (by kernel_rfl) (by kernel_rfl)
instance sl41 : Sl Tryd.prog 41 23 1 24 := Sl.mk' (by kernel_rfl) (by kernel_rfl)
instance sl42 : Sl Tryd.prog 42 60 12 144 := Sl.mk' (by kernel_rfl) (by kernel_rfl)
instance sl54 : Sl Tryd.prog 54 96 2 32 := Sl.mk' (by kernel_rfl) (by kernel_rfl)
instance sl88 : Sl Tryd.prog 88 5 1 1 := Sl.mk' (by kernel_rfl) (by kernel_rfl)
end Go.Proofs.YtlbnhhfaedhgfaaDoor
namespace Go.Proofs.YtlbnhhfaedhgfaaDoor
set_option linter.unusedSimpArgs false
set_option linter.unusedVariables false
open Go.RowKit
instance ab86 : Ab Tryd.prog 86 [(0, 1), (1, 1), (2, 1), (3, 1), (4, 1), (5, 1)] [.string ⟨#[]⟩, .string ⟨#[]⟩, .string ⟨#[]⟩, .string ⟨#[]⟩, .string ⟨#[]⟩, .string ⟨#[]⟩] := ⟨⟨6, 9, 1, by kernel_rfl, by kernel_rfl, by kernel_rfl⟩, by unfold ZeroIs; kernel_rfl⟩
instance ar86 : Ar Tryd.prog 86 6 9 := ⟨by kernel_rfl⟩
instance mp90 : Mp Tryd.prog 90 3 31 := ⟨by kernel_rfl⟩
instance fo25_0 : Fo Tryd.prog 25 0 0 := ⟨by kernel_rfl⟩
instance fp25_0 : Fp Tryd.prog 25 0 0 1 false := ⟨by kernel_rfl⟩
instance fo25_1 : Fo Tryd.prog 25 1 1 := ⟨by kernel_rfl⟩
instance fp25_1 : Fp Tryd.prog 25 1 1 1 false := ⟨by kernel_rfl⟩
instance fo25_2 : Fo Tryd.prog 25 2 2 := ⟨by kernel_rfl⟩
instance fp25_2 : Fp Tryd.prog 25 2 2 1 false := ⟨by kernel_rfl⟩
instance fo25_3 : Fo Tryd.prog 25 3 3 := ⟨by kernel_rfl⟩
instance fp25_3 : Fp Tryd.prog 25 3 3 1 false := ⟨by kernel_rfl⟩
instance bd25 : Bd Tryd.prog 25 [(0, 1), (1, 1), (2, 1), (3, 1)] [.int .i64 0, .slice none 0 0, .string ⟨#[]⟩, .int .i64 0] := ⟨by kernel_rfl, by unfold ZeroIs; kernel_rfl⟩
instance fo36_0 : Fo Tryd.prog 36 0 0 := ⟨by kernel_rfl⟩
instance fp36_0 : Fp Tryd.prog 36 0 0 1 false := ⟨by kernel_rfl⟩
instance fo36_1 : Fo Tryd.prog 36 1 1 := ⟨by kernel_rfl⟩
instance fp36_1 : Fp Tryd.prog 36 1 1 1 false := ⟨by kernel_rfl⟩
instance bd36 : Bd Tryd.prog 36 [(0, 1), (1, 1)] [.string ⟨#[]⟩, .bool false] := ⟨by kernel_rfl, by unfold ZeroIs; kernel_rfl⟩
instance fo38_0 : Fo Tryd.prog 38 0 0 := ⟨by kernel_rfl⟩
instance fp38_0 : Fp Tryd.prog 38 0 0 2 true := ⟨by kernel_rfl⟩
instance fo38_1 : Fo Tryd.prog 38 1 2 := ⟨by kernel_rfl⟩
instance fp38_1 : Fp Tryd.prog 38 1 2 2 true := ⟨by kernel_rfl⟩
instance bd38 : Bd Tryd.prog 38 [(0, 2), (2, 2)] [.string ⟨#[]⟩, .bool false, .string ⟨#[]⟩, .bool false] := ⟨by kernel_rfl, by unfold ZeroIs; kernel_rfl⟩
instance fo44_0 : Fo Tryd.prog 44 0 0 := ⟨by kernel_rfl⟩
instance fp44_0 : Fp Tryd.prog 44 0 0 4 true := ⟨by kernel_rfl⟩
instance fo44_1 : Fo Tryd.prog 44 1 4 := ⟨by kernel_rfl⟩
instance fp44_1 : Fp Tryd.prog 44 1 4 1 false := ⟨by kernel_rfl⟩
instance fo44_2 : Fo Tryd.prog 44 2 5 := ⟨by kernel_rfl⟩
instance fp44_2 : Fp Tryd.prog 44 2 5 1 false := ⟨by kernel_rfl⟩
instance bd44 : Bd Tryd.prog 44 [(0, 4), (4, 1), (5, 1)] [.int .i64 0, .slice none 0 0, .string ⟨#[]⟩, .int .i64 0, .slice none 0 0, .slice none 0 0] := ⟨by kernel_rfl, by unfold ZeroIs; kernel_rfl⟩
instance fo53_0 : Fo Tryd.prog 53 0 0 := ⟨by kernel_rfl⟩
instance fp53_0 : Fp Tryd.prog 53 0 0 1 false := ⟨by kernel_rfl⟩
instance fo53_1 : Fo Tryd.prog 53 1 1 := ⟨by kernel_rfl⟩
instance fp53_1 : Fp Tryd.prog 53 1 1 1 false := ⟨by kernel_rfl⟩
instance bd53 : Bd Tryd.prog 53 [(0, 1), (1, 1)] [.int .i64 0, .int .i64 0] := ⟨by kernel_rfl, by unfold ZeroIs; kernel_rfl⟩
instance fo56_0 : Fo Tryd.prog 56 0 0 := ⟨by kernel_rfl⟩
instance fp56_0 : Fp Tryd.prog 56 0 0 1 false := ⟨by kernel_rfl⟩
instance fo56_1 : Fo Tryd.prog 56 1 1 := ⟨by kernel_rfl⟩
instance fp56_1 : Fp Tryd.prog 56 1 1 4 true := ⟨by kernel_rfl⟩
instance fo56_2 : Fo Tryd.prog 56 2 5 := ⟨by kernel_rfl⟩
instance fp56_2 : Fp Tryd.prog 56 2 5 2 true := ⟨by kernel_rfl⟩
instance fo56_3 : Fo Tryd.prog 56 3 7 := ⟨by kernel_rfl⟩
instance fp56_3 : Fp Tryd.prog 56 3 7 1 false := ⟨by kernel_rfl⟩
instance bd56 : Bd Tryd.prog 56 [(0, 1), (1, 4), (5, 2), (7, 1)] [.int .i64 0, .string ⟨#[]⟩, .bool false, .string ⟨#[]⟩, .bool false, .int .i64 0, .int .i64 0, .slice none 0 0] := ⟨by kernel_rfl, by unfold ZeroIs; kernel_rfl⟩
instance fo60_0 : Fo Tryd.prog 60 0 0 := ⟨by kernel_rfl⟩
instance fp60_0 : Fp Tryd.prog 60 0 0 8 true := ⟨by kernel_rfl⟩
instance fo60_1 : Fo Tryd.prog 60 1 8 := ⟨by kernel_rfl⟩
instance fp60_1 : Fp Tryd.prog 60 1 8 4 true := ⟨by kernel_rfl⟩
instance bd60 : Bd Tryd.prog 60 [(0, 8), (8, 4)] [.int .i64 0, .string ⟨#[]⟩, .bool false, .string ⟨#[]⟩, .bool false, .int .i64 0, .int .i64 0, .slice none 0 0, .string ⟨#[]⟩, .bool false, .string ⟨#[]⟩, .bool false] := ⟨by kernel_rfl, by unfold ZeroIs; kernel_rfl⟩
instance fo62_0 : Fo Tryd.prog 62 0 0 := ⟨by kernel_rfl⟩
instance fp62_0 : Fp Tryd.prog 62 0 0 1 false := ⟨by kernel_rfl⟩
instance fo62_1 : Fo Tryd.prog 62 1 1 := ⟨by kernel_rfl⟩
instance fp62_1 : Fp Tryd.prog 62 1 1 1 false := ⟨by kernel_rfl⟩
instance bd62 : Bd Tryd.prog 62 [(0, 1), (1, 1)] [.slice none 0 0, .int .i64 0] := ⟨by kernel_rfl, by unfold ZeroIs; kernel_rfl⟩
instance fo96_0 : Fo Tryd.prog 96 0 0 := ⟨by kernel_rfl⟩
instance fp96_0 : Fp Tryd.prog 96 0 0 1 false := ⟨by kernel_rfl⟩
instance fo96_1 : Fo Tryd.prog 96 1 1 := ⟨by kernel_rfl⟩
instance fp96_1 : Fp Tryd.prog 96 1 1 1 false := ⟨by kernel_rfl⟩
instance bd96 : Bd Tryd.prog 96 [(0, 1), (1, 1)] [.string ⟨#[]⟩, .string ⟨#[]⟩] := ⟨by kernel_rfl, by unfold ZeroIs; kernel_rfl⟩
end Go.Proofs.YtlbnhhfaedhgfaaDoor
namespace Go.Proofs.YtlbnhhfaedhgfaaDoor
set_option linter.unusedSimpArgs false
set_option linter.unusedVariables false
open Go.RowKit

theorem ba_eq {a b : ByteArray} (h : a.toList = b.toList) : a = b := by
  rw [ByteArray.toList_eq, ByteArray.toList_eq] at h
  apply ByteArray.ext
  exact Array.ext' h
theorem lt_irrefl (a : Bnd) : a.lt a = false := by simp [Bnd.lt, bytesLess_irrefl]
theorem lt_trans {a b c : Bnd} (h : a.lt b = true) (k : b.lt c = true) : a.lt c = true := by
  simp only [Bnd.lt, Bool.and_eq_true, Bool.or_eq_true, Bool.not_eq_true'] at *
  obtain ⟨h1, h2⟩ := h
  obtain ⟨k1, k2⟩ := k
  refine ⟨h1, ?_⟩
  rcases h2 with h2 | h2
  · rw [k1] at h2; cases h2
  · rcases k2 with k2 | k2
    · exact Or.inl k2
    · exact Or.inr (bytesLess_trans h2 k2)
theorem lt_total {a b : Bnd} (ha : vb a = true) (hb : vb b = true) (h : a.lt b = false) (k : b.lt a = false) : a = b := by
  obtain ⟨ak, at'⟩ := a
  obtain ⟨bk, bt⟩ := b
  simp only [vb, Bool.and_eq_true, Bool.or_eq_true, Bool.not_eq_true'] at ha hb
  simp only [Bnd.lt, Bool.and_eq_false_iff, Bool.not_eq_false', Bool.or_eq_false_iff] at h k
  cases at' <;> cases bt <;> simp at h k ha hb
  · have := bytesLess_total h k; rw [ba_eq this]
  · rw [ba_eq (ha.2.trans hb.2.symm)]
theorem emp_iff (r : Rng) : emp r = false ↔ vb r.lo = true ∧ vb r.hi = true ∧ r.lo.lt r.hi = true := by
  simp only [emp, vld, Bool.or_eq_false_iff, Bool.not_eq_false', Bool.and_eq_true, decide_eq_true_eq, beq_eq_false_iff_ne]
  have h1 := cmp_neg r.lo r.hi; have h2 := cmp_rng r.lo r.hi
  constructor
  · rintro ⟨⟨⟨a, b⟩, c⟩, d⟩; exact ⟨a, b, h1.1 (by omega)⟩
  · rintro ⟨a, b, c⟩; have := h1.2 c; exact ⟨⟨⟨a, b⟩, by omega⟩, by omega⟩
theorem greater_if (a b : Bnd) : greater a b = if a.lt b then b else a := by
  unfold greater; have := cmp_pos b a
  by_cases h : a.lt b = true
  · rw [if_pos (this.2 h), if_pos h]
  · rw [if_neg (fun e => h (this.1 e)), if_neg h]
theorem greater_vb {a b : Bnd} (ha : vb a = true) (hb : vb b = true) : vb (greater a b) = true := by rw [greater_if]; split <;> assumption
theorem le_lt {a b c : Bnd} (ha : vb a = true) (hb : vb b = true) (h : a.lt b = false) (k : a.lt c = true) : b.lt c = true := by grind [lt_total, lt_trans]
theorem lt_le {a b c : Bnd} (hb : vb b = true) (hc : vb c = true) (h : a.lt b = true) (k : c.lt b = false) : a.lt c = true := by grind [lt_total, lt_trans]
end Go.Proofs.YtlbnhhfaedhgfaaDoor
namespace Go.Proofs.YtlbnhhfaedhgfaaDoor
set_option linter.unusedSimpArgs false
set_option linter.unusedVariables false
open Go.RowKit

def upl : List UInt8 → Option (List UInt8)
  | [] => none
  | x :: r => match upl r with
    | some r' => some (x :: r')
    | none => if x = 255 then none else some [x + 1]

theorem upl_255 : ∀ q : List UInt8, upl (q ++ [255]) = upl q
  | [] => rfl
  | x :: r => by rw [List.cons_append, upl, upl, upl_255 r]
theorem upl_last (q : List UInt8) {x : UInt8} (hx : x ≠ 255) : upl (q ++ [x]) = some (q ++ [x + 1]) := by
  induction q with
  | nil => simp [upl, hx]
  | cons y r ih => rw [List.cons_append, upl, ih]; rfl

def upb (p : ByteArray) : Bnd := match upl p.toList with
  | some u => ⟨⟨u.toArray⟩, false⟩
  | none => ⟨⟨#[]⟩, true⟩
def pfx (p : ByteArray) : Rng := if vk p then ⟨⟨p, false⟩, upb p⟩ else zr

theorem len_toList (p : ByteArray) : p.toList.length = p.size := by rw [ByteArray.toList_eq]; exact Array.length_toList
end Go.Proofs.YtlbnhhfaedhgfaaDoor
namespace Go.Proofs.YtlbnhhfaedhgfaaDoor
set_option linter.unusedSimpArgs false
set_option linter.unusedVariables false
open Go.RowKit

class Len {α : Type} (f : α → List D) (z : outParam Nat) : Prop where
  len : ∀ a, (f a).length = z
def Rng.ds (r : Rng) : List D := [dS r.lo.key, dB r.lo.top, dS r.hi.key, dB r.hi.top]
instance : Len Rng.ds 4 := ⟨fun _ => rfl⟩
structure Kv where
  key : ByteArray
  val : ByteArray
  deriving DecidableEq
theorem Kv.eta (r : Kv) : Kv.mk r.key r.val = r := rfl
theorem Bnd.eta (r : Bnd) : Bnd.mk r.key r.top = r := rfl
theorem Rng.eta (r : Rng) : Rng.mk r.lo r.hi = r := rfl
theorem tn_sub1 (m : Nat) : ((m : Int) - 1).toNat = m - 1 := by omega
def Kv.ds (r : Kv) : List D := [dS r.key, dS r.val]
instance : Len Kv.ds 2 := ⟨fun _ => rfl⟩
def dsI (z : Int) : List D := [dI z]
instance : Len dsI 1 := ⟨fun _ => rfl⟩
abbrev i64s (l : List Int) : D := lst dsI l
structure Fd where
  count : Int
  nums : Int
  sum : Int
  low : Int
  high : Int
  first : ByteArray
  last : ByteArray
structure Qy where
  kind : Int
  rs : List Rng
  key : ByteArray
  count : Int
theorem all_of {α : Type} {p : α → Bool} {l : List α} {m : Nat} (h : ∀ j (h : j < l.length), j < m → p l[j] = true) (hm : l.length ≤ m) : l.all p = true := by
  rw [List.all_eq_true]
  intro x hx
  obtain ⟨j, hj, rfl⟩ := List.mem_iff_getElem.1 hx
  exact h j hj (by omega)
theorem all_not {α : Type} {p : α → Bool} {l : List α} {m : Nat} (hm : m < l.length) (h : (!p l[m]) = true) : l.all p = false := by
  rw [List.all_eq_false]
  exact ⟨l[m], List.getElem_mem hm, by simpa using h⟩
end Go.Proofs.YtlbnhhfaedhgfaaDoor
namespace Go.Proofs.YtlbnhhfaedhgfaaDoor
set_option linter.unusedSimpArgs false
set_option linter.unusedVariables false
open Go.RowKit
attribute [local simp] Sem.run_bind Sem.run_pure Result.andThen_ok

class Ct (P : Program) (f : FuncId) (us : List V) (pre : outParam Prop) (u : outParam V) : Prop where
  out : pre → Spec P f us [] fun u1 h1 => u1 = u ∧ h1 = []
structure Tape where
  l : List Int
  pos : Nat
  h1 : pos ≤ l.length
  h2 : l.length ≤ 600
  h3 : ∀ z ∈ l, -9223372036854775808 ≤ z ∧ z ≤ 9223372036854775807
def tpb (τ : Tape) : Blk := .box 62 [.d (i64s τ.l), vI τ.pos]
theorem vb_tpb {H : Hp} {f : List (Nat × Nat)} {τ : Tape} : Vb H f (tpb τ) (tpb τ) := .box (.cons (.d _) (.cons (.d _) .nil))
def TSpec (P : Program) (f : FuncId) (us : List V) {α : Type} (val : α → V) (φ : α → Prop) : Prop := ∀ τ : Tape, Spec P f (.p 0 0 :: us) [(0, some (tpb τ))] fun u h => ∃ x τ', φ x ∧ u = val x ∧ h = [(0, some (tpb τ'))]
class Tc (P : Program) (f : FuncId) (us : List V) {α : outParam Type} (pre : outParam Prop) (val : outParam (α → V)) (φ : outParam (α → Prop)) : Prop where
  out : pre → TSpec P f us val φ
  ren : ∀ x g, (val x).ren g = val x
section
variable {P : Program} {o : Oper} {H : Hp} {sl : List (Nat × V)} {x y : Operand} {T E : TypeId} {i : Int} {m : Nat}
def letter : Nat → ByteArray
  | 0 => ⟨#[97]⟩
  | 1 => ⟨#[98]⟩
  | 2 => ⟨#[99]⟩
  | 3 => ⟨#[0]⟩
  | 4 => ⟨#[255]⟩
  | 5 => ⟨#[109]⟩
  | _ => ⟨#[]⟩
theorem letter_le (m : Nat) : (letter m).size ≤ 1 := by unfold letter; split <;> decide
theorem o_ixl (hop : o.op = .indexAddr T (.global 0) y) (hy : ev sl y = some (vI i)) (hTE : Ar P T 6 E) (hE : Ty P E 1 false) (hm : i = (m : Int)) (hl : m < 6) : OpD P o H sl 0 0 (.q [dS (letter m)]) [] := .read fun B a w ρ hs hr => by
  have hT := hTE.out
  have hy' := rv_c (ev_spec hs hy)
  obtain ⟨g1, g2⟩ := hr.gl _ List.mem_cons_self
  subst hm
  have h1 : (0 : Int) ≤ (m : Int) ∧ (m : Int) < 6 := by omega
  have hsz := run_size (w := w) hE
  unfold execOp; rw [hop]
  refine ⟨.pointer (some ⟨0, m, none⟩), ?_, .q g1 (.cons (.c rfl) .nil) (vs := [.string (letter m)]) fun j v hv => ?_⟩
  · have hg : a.eval (.global 0) = .pointer (some ⟨0, 0, none⟩) := rfl
    simp [hy', hg, Instr.indexAt, asIntOf, run_underlying hT, h1, Instr.sureAddr, hsz, addr_add]
    exact fun h => absurd hl (by omega)
  · cases j with
    | succ j => simp at hv
    | zero =>
      simp only [List.getElem?_cons_zero, Option.some.injEq] at hv
      subst hv
      refine g2 m _ ?_
      have : m = 0 ∨ m = 1 ∨ m = 2 ∨ m = 3 ∨ m = 4 ∨ m = 5 := by omega
      rcases this with rfl | rfl | rfl | rfl | rfl | rfl <;> rfl
end
section
variable {Γ : Cx} {k : Kont} {sl : List (Nat × V)} {hp : Hp} {o : Oper} {ops : Array Oper} {i an d kt : Nat} {ts : List Nat} {r : List PI} {F : List Ft} {f : FuncId} {us uc : List V} {x : Operand} {xs : Array Operand} {ats : Array TypeId} {u u' : V} {rest : List Oper} {pre : Prop}
theorem wl_ct (hop : o.op = .call { callee := .value x, args := xs, argTypes := ats }) (hx : ev sl x = some (.d (.c (.func (.func f) #[] #[])))) (ha : evl sl xs.toList = some uc) (hv : Vws [] [] uc us) (hc : Ct Γ.P f us pre u) (hp' : pre) (hu : u.ren (rn [] 100000) = u')
    (hg : o.guard = none) (hd : o.dst = some d) (hdl : Nat.blt d Γ.nt = true) (hf : freshB hp 100000 100 = true) (hk : WL Γ ops rest k ⟨(d, u') :: sl, hp⟩) : WL Γ ops (o :: rest) k ⟨sl, hp⟩ := wl_cp (o_callp 100000 (hc.out hp') hop hx ha hv hu) hg hd hdl hf hk
theorem wd_ct (hop : o.op = .call { callee := .value x, args := xs, argTypes := ats }) (hx : ev (keep ts sl) x = some (.d (.c (.func (.func f) #[] #[])))) (ha : evl (keep ts sl) xs.toList = some uc) (hv : Vws [] [] uc us) (hc : Ct Γ.P f us pre u) (hp' : pre) (hu : u.ren (rn [] 100000) = u')
    (hd : o.dst = some d) (hw : Wt ops o (keep ts sl) true) (hdl : Nat.blt d Γ.nt = true) (hfr : freshB hp 100000 100 = true) (hf : okF ⟨⟨i, an, ts⟩, [], [], 100000, 100⟩ F = true)
    (hk : WD Γ ops k r (⟨⟨i, an, ts⟩, [], [], 100000, 100⟩ :: F) ⟨(d, u') :: sl, hp⟩) : WO Γ ops k o i an ts r F ⟨sl, hp⟩ := wd_cp [] (o_callp 100000 (hc.out hp') hop hx ha hv hu) hd hw hdl hfr hf hk
theorem o_tc {P : Program} {H : Hp} {α : Type} {val : α → V} {φ : α → Prop} {τ : Tape} (hop : o.op = .call { callee := .value x, args := xs, argTypes := ats }) (hx : ev sl x = some (.d (.c (.func (.func f) #[] #[])))) (ha : evl sl xs.toList = some (.p kt 0 :: uc)) (hH : look H kt = some (some (tpb τ))) (hv : Vws [] [(0, kt)] uc us) (hc : Tc P f us pre val φ) (hp' : pre) :
    OpV P o H sl 100000 100 fun u h => ∃ x τ', φ x ∧ u = val x ∧ h = [(kt, some (tpb τ'))] := by
  have hal : aliveB H [(0, kt)] = true := by simp only [aliveB, List.all_cons, List.all_nil, Bool.and_true, hH]
  have h0 : look [(0, kt)] 0 = some kt := rfl
  refine (o_call 100000 [(0, kt)] (hc.out hp' τ) hop hx ha (.cons (.p h0) hv) (VH.cons h0 hH (by
    refine Vb.box (.cons (.d _) (.cons (.d _) .nil))) .nil) hal rfl (by rfl)).mono ?_
  rintro u h ⟨u0, h0', ⟨y, τ', h1, rfl, rfl⟩, rfl, rfl⟩
  exact ⟨y, τ', h1, hc.ren _ _, rfl⟩
theorem wl_tc {α : Type} {val : α → V} {φ : α → Prop} {τ : Tape} (hop : o.op = .call { callee := .value x, args := xs, argTypes := ats }) (hx : ev sl x = some (.d (.c (.func (.func f) #[] #[])))) (ha : evl sl xs.toList = some (.p kt 0 :: uc)) (hH : look hp kt = some (some (tpb τ))) (hv : Vws [] [(0, kt)] uc us) (hc : Tc Γ.P f us pre val φ) (hp' : pre)
    (hg : o.guard = none) (hd : o.dst = some d) (hdl : Nat.blt d Γ.nt = true) (hf : freshB hp 100000 100 = true) (hk : ∀ x τ, φ x → WL Γ ops rest k ⟨(d, val x) :: sl, (kt, some (tpb τ)) :: hp⟩) : WL Γ ops (o :: rest) k ⟨sl, hp⟩ :=
  wl_v (o_tc hop hx ha hH hv hc hp') hg hd hdl hf (by rintro _ _ ⟨x, τ', h1, rfl, rfl⟩; exact hk x τ' h1)
theorem wd_tc {α : Type} {val : α → V} {φ : α → Prop} {τ : Tape} (hop : o.op = .call { callee := .value x, args := xs, argTypes := ats }) (hx : ev (keep ts sl) x = some (.d (.c (.func (.func f) #[] #[])))) (ha : evl (keep ts sl) xs.toList = some (.p kt 0 :: uc)) (hH : look hp kt = some (some (tpb τ))) (hv : Vws [] [(0, kt)] uc us) (hc : Tc Γ.P f us pre val φ) (hp' : pre)
    (hd : o.dst = some d) (hw : Wt ops o (keep ts sl) true) (hdl : Nat.blt d Γ.nt = true) (hfr : freshB hp 100000 100 = true) (hf : okF ⟨⟨i, an, ts⟩, [kt], [kt], 100000, 100⟩ F = true) (hnd : (r.all fun q => bitN q.an i) = true)
    (hk : ∀ x τ, φ x → WD Γ ops k r (⟨⟨i, an, ts⟩, [kt], [kt], 100000, 100⟩ :: F) ⟨(d, val x) :: sl, (kt, some (tpb τ)) :: hp⟩) : WO Γ ops k o i an ts r F ⟨sl, hp⟩ :=
  wd_v [kt] [kt] (o_tc hop hx ha (by rw [keep1]; exact hH) hv hc hp') hd hw hdl hfr hf hnd (by rintro _ _ ⟨_, _, _, rfl, rfl⟩; exact inW_1 _ _) (by rintro _ _ ⟨x, τ', h1, rfl, rfl⟩; exact hk x τ' h1)
end
section
variable {P : Program} {o : Oper} {H : Hp} {sl : List (Nat × V)} {x y : Operand} {T U : TypeId} {k : IntKind} {a b z : Int}
theorem o_rem (hop : o.op = .binOp .rem T x y U) (hx : ev sl x = some (.d (.c (.int k a)))) (hy : ev sl y = some (.d (.c (.int k b)))) (hb : b ≠ 0) (hz : a.tmod b = z) : OpD P o H sl 0 0 (.d (.c (.int k z))) [] := o_bin hop hx hy (fun w => by subst hz; simp [binOp, Op.intDiv, hb]) rfl rfl
theorem o_index_a {t E : TypeId} {len : Nat} {us : List V} {u : V} {i : Int} (hop : o.op = .index t x y) (hx : ev sl x = some (.a us)) (hy : ev sl y = some (vI i)) (hTE : Ar P t len E) (hE : Ty P E 1 false) (h0 : 0 ≤ i) (hl : i < len) (hu : us[i.toNat]? = some u) : OpD P o H sl 0 0 u [] := .read fun B a w ρ hs _ => by
  have ht := hTE.out
  obtain ⟨vs, e, h2⟩ := rv_a (ev_spec hs hx)
  have hy' := rv_c (ev_spec hs hy)
  obtain ⟨v, h3, h4⟩ := h2.get hu
  refine ⟨v, ?_, h4⟩
  have hsz := run_size (w := w) hE
  have hag := run_agg (w := w) hE
  unfold execOp; rw [hop]
  have h1 : 0 ≤ i ∧ i < (len : Int) := ⟨h0, hl⟩
  simp [Instr.index, e, hy', asIntOf, run_underlying ht, h1, hsz, part, hag, h3]
theorem o_quo (hop : o.op = .binOp .quo T x y U) (hx : ev sl x = some (.d (.c (.int k a)))) (hy : ev sl y = some (.d (.c (.int k b)))) (hb : b ≠ 0) (hz : k.wrap (a.tdiv b) = z) : OpD P o H sl 0 0 (.d (.c (.int k z))) [] := o_bin hop hx hy (fun w => by subst hz; simp [binOp, Op.intDiv, hb]) rfl rfl
end
section
variable {Γ : Cx} {k : Kont} {sl : List (Nat × V)} {hp : Hp} {o : Oper} {ops : Array Oper} {i an d z bytes len : Nat} {ts : List Nat} {r : List PI} {F : List Ft} {t E : TypeId} {parts : Array (Nat × Operand)} {l : List (Nat × V)} {cs : List V} {rest : List Oper} {α : Type}
theorem wl_bt (f : α → List D) (es : List α) [hS : Sl Γ.P t E z bytes] (hop : o.op = .buildSlice t len parts) (hl : evs sl parts.toList = some l) (hf : flatV z 0 l = some cs) (hn : (parts.size == len && Nat.ble (len * z) 16777216 && Nat.ble len 16777216) = true) (hd' : (es.flatMap f).map V.d = cs) (hlen : es.length = len)
    (hg : o.guard = none) (hd : o.dst = some d) (hdl : Nat.blt d Γ.nt = true) (hk : WL Γ ops rest k ⟨(d, .d (lst f es)) :: sl, hp⟩) : WL Γ ops (o :: rest) k ⟨sl, hp⟩ := by
  subst hlen
  exact wl_v (o_bsd hop hl hf hn hd') hg hd hdl (fresh0 _ _) (by rintro _ _ ⟨rfl, rfl⟩; exact hk)
theorem wd_bt (f : α → List D) (es : List α) [hS : Sl Γ.P t E z bytes] (hop : o.op = .buildSlice t len parts) (hl : evs (keep ts sl) parts.toList = some l) (hf : flatV z 0 l = some cs) (hn : (parts.size == len && Nat.ble (len * z) 16777216 && Nat.ble len 16777216) = true) (hd' : (es.flatMap f).map V.d = cs) (hlen : es.length = len)
    (hd : o.dst = some d) (hw : Wt ops o (keep ts sl) true) (hdl : Nat.blt d Γ.nt = true) (hfo : okF ⟨⟨i, an, ts⟩, [], [], 0, 0⟩ F = true) (hk : WD Γ ops k r (⟨⟨i, an, ts⟩, [], [], 0, 0⟩ :: F) ⟨(d, .d (lst f es)) :: sl, hp⟩) : WO Γ ops k o i an ts r F ⟨sl, hp⟩ := by
  subst hlen
  exact wd_c (h := []) (o_bsd hop hl hf hn hd') hd hw hdl rfl (fresh0 _ _) hfo hk
end
def unI : List V → Option (List Int)
  | [] => some []
  | .d (.c (.int .i64 a)) :: r => (unI r).map (a :: ·)
  | _ :: _ => none
theorem unI_spec : ∀ {cs : List V} {es : List Int}, unI cs = some es → (es.flatMap dsI).map V.d = cs
  | [], es, h => by simp only [unI, Option.some.injEq] at h; subst h; rfl
  | v :: r, es, h => by
    unfold unI at h
    split at h
    · rename_i e; cases e
    · rename_i e
      cases e
      cases hr : unI r with
      | none => rw [hr] at h; cases h
      | some l => rw [hr] at h; simp only [Option.map_some, Option.some.injEq] at h; subst h; simp [dsI, unI_spec hr]
    · cases h
section
variable {Γ : Cx} {k : Kont} {sl : List (Nat × V)} {hp : Hp} {o : Oper} {ops : Array Oper} {i an d z bytes len : Nat} {ts : List Nat} {r : List PI} {F : List Ft} {t E : TypeId} {parts : Array (Nat × Operand)} {l : List (Nat × V)} {cs : List V} {rest : List Oper} {es : List Int}
theorem wl_bti [hS : Sl Γ.P t E z bytes] (hop : o.op = .buildSlice t len parts) (hl : evs sl parts.toList = some l) (hf : flatV z 0 l = some cs) (hn : (parts.size == len && Nat.ble (len * z) 16777216 && Nat.ble len 16777216) = true) (hd' : unI cs = some es) (hlen : es.length = len)
    (hg : o.guard = none) (hd : o.dst = some d) (hdl : Nat.blt d Γ.nt = true) (hk : WL Γ ops rest k ⟨(d, .d (i64s es)) :: sl, hp⟩) : WL Γ ops (o :: rest) k ⟨sl, hp⟩ := wl_bt dsI es hop hl hf hn (unI_spec hd') hlen hg hd hdl hk
theorem wd_bti [hS : Sl Γ.P t E z bytes] (hop : o.op = .buildSlice t len parts) (hl : evs (keep ts sl) parts.toList = some l) (hf : flatV z 0 l = some cs) (hn : (parts.size == len && Nat.ble (len * z) 16777216 && Nat.ble len 16777216) = true) (hd' : unI cs = some es) (hlen : es.length = len)
    (hd : o.dst = some d) (hw : Wt ops o (keep ts sl) true) (hdl : Nat.blt d Γ.nt = true) (hfo : okF ⟨⟨i, an, ts⟩, [], [], 0, 0⟩ F = true) (hk : WD Γ ops k r (⟨⟨i, an, ts⟩, [], [], 0, 0⟩ :: F) ⟨(d, .d (i64s es)) :: sl, hp⟩) : WO Γ ops k o i an ts r F ⟨sl, hp⟩ := wd_bt dsI es hop hl hf hn (unI_spec hd') hlen hd hw hdl hfo hk
end
class Eqs (P : Program) (T : TypeId) (vs us : List Value) (b : outParam Bool) : Prop where
  g : P.eqGuardType P.depth T = false
  out : ∀ w, (Op.equalIn 10000 T (.agg vs.toArray) (.agg us.toArray)).run P w = .ok b w
section
variable {P : Program} {o : Oper} {H : Hp} {sl : List (Nat × V)} {x y : Operand} {T U : TypeId} {xs ys : List V} {vs us : List Value} {b : Bool}
theorem o_eqc (hop : o.op = .binOp .eql T x y U) (hx : ev sl x = some (.a xs)) (hy : ev sl y = some (.a ys)) (hc : ccV xs = some vs) (hc' : ccV ys = some us) (hq : Eqs P T vs us b) : OpD P o H sl 0 0 (vB b) [] := o_eqs hop hx hy hc hc' hq.g hq.out
theorem o_nec (hop : o.op = .binOp .neq T x y U) (hx : ev sl x = some (.a xs)) (hy : ev sl y = some (.a ys)) (hc : ccV xs = some vs) (hc' : ccV ys = some us) (hq : Eqs P T vs us b) : OpD P o H sl 0 0 (vB (!b)) [] := o_nes hop hx hy hc hc' hq.g hq.out
end
section
variable {P : Program} {o : Oper} {H : Hp} {sl : List (Nat × V)} {x : Operand} {t E : TypeId} {z bytes : Nat}
theorem o_slice_ti {α : Type} {f : α → List D} {lo hi : Option Operand} {il ih : Int} {xs ys : List α} [hS : Sl P t E z bytes] (hop : o.op = .slice t x lo hi none) (hx : ev sl x = some (.d (lst f xs))) (hlo : evo sl 0 lo = some (vI il)) (hhi : evo sl (xs.length : Int) hi = some (vI ih)) (h0 : 0 ≤ il) (h1 : il ≤ ih) (h2 : ih ≤ xs.length) (hf : ∀ a, (f a).length = z) (hd : (xs.drop il.toNat).take (ih.toNat - il.toNat) = ys) : OpD P o H sl 0 0 (.d (lst f ys)) [] :=
  o_slice_t (il := il.toNat) (ih := ih.toNat) hop hx (by rw [hlo, Int.toNat_of_nonneg h0]) (by rw [hhi, Int.toNat_of_nonneg (by omega)]) (by omega) (by omega) hf hd
end
section
variable {P : Program} {o : Oper} {H : Hp} {sl : List (Nat × V)} {x y : Operand} {t : TypeId} {s s' : ByteArray}
theorem get_some {s : ByteArray} {m : Nat} (h : m < s.size) : s[m]? = some (s.get! m) := by
  have : s[m]? = some s[m] := by simp [h]
  rw [this]
  congr 1
  simp [ByteArray.get!, ByteArray.getElem_eq_getElem_data, h]
theorem o_index_si {i : Int} (hop : o.op = .index t x y) (hx : ev sl x = some (vS s)) (hy : ev sl y = some (vI i)) (ht : P.underlying t = some .string) (h0 : 0 ≤ i) (h1 : i < s.size) : OpD P o H sl 0 0 (.d (.c (.int .u8 (s.get! i.toNat).toNat))) [] :=
  o_index_s hop hx hy ht (Int.toNat_of_nonneg h0).symm (get_some (by omega))
theorem o_slice_si {lo hi : Option Operand} {il ih : Int} (hop : o.op = .slice t x lo hi none) (hx : ev sl x = some (vS s)) (ht : P.underlying t = some .string) (hlo : evo sl 0 lo = some (vI il)) (hhi : evo sl (s.size : Int) hi = some (vI ih)) (h0 : 0 ≤ il) (h1 : il ≤ ih) (h2 : ih ≤ s.size) (hd : s.extract il.toNat ih.toNat = s') : OpD P o H sl 0 0 (vS s') [] := by
  subst hd
  exact o_slice_s hop hx ht (by rw [hlo, Int.toNat_of_nonneg h0]) (by rw [hhi, Int.toNat_of_nonneg (by omega)]) (by omega) (by omega)
end
theorem wu8 {a : Int} (h1 : 0 ≤ a) (h2 : a ≤ 255) : IntKind.u8.wrap a = a := by
  simp [IntKind.wrap, IntKind.bits, IntKind.signed]; omega
theorem wi32 {a : Int} (h1 : -2147483648 ≤ a) (h2 : a ≤ 2147483647) : IntKind.i32.wrap a = a := by
  simp [IntKind.wrap, IntKind.bits, IntKind.signed]; split <;> omega
section
variable {Γ : Cx} {k : Kont} {st : St} {ops : Array Oper} {rest : List Oper} {d : Option Tmp} {ty : TypeId} {ps : String} {af : Array Edge} {g : Option (Nat × Bool)} {gg : Nat × Bool} {T T' : TypeId} {x y z : Operand} {n i an : Nat} {bo : BinOp} {uo : UnOp} {bb : Builtin} {xs : Array Operand} {ts : Array TypeId} {pa : Array (Nat × Operand)} {tl : List Nat} {r : List PI} {F : List Ft} {o : Oper} {c : Code} {e : Exit} {op : Op}
theorem j_wc {q : Prop} (h : q → WC Γ c k st) : q → WC Γ c k st := h
theorem j_wk {q : Prop} (h : q → WK Γ k e st) : q → WK Γ k e st := h
theorem j_wl {q : Prop} (h : q → WL Γ ops rest k st) : q → WL Γ ops rest k st := h
theorem j_wo {q : Prop} (h : q → WO Γ ops k o i an tl r F st) : q → WO Γ ops k o i an tl r F st := h
theorem j_lg {q : Prop} (h : q → WL Γ ops (⟨d, op, ty, ps, af, some gg⟩ :: rest) k st) : q → WL Γ ops (⟨d, op, ty, ps, af, some gg⟩ :: rest) k st := h
theorem j_lld {q : Prop} (h : q → WL Γ ops (⟨d, .load T x, ty, ps, af, g⟩ :: rest) k st) : q → WL Γ ops (⟨d, .load T x, ty, ps, af, g⟩ :: rest) k st := h
theorem j_old {q : Prop} (h : q → WO Γ ops k ⟨d, .load T x, ty, ps, af, g⟩ i an tl r F st) : q → WO Γ ops k ⟨d, .load T x, ty, ps, af, g⟩ i an tl r F st := h
theorem j_lfa {q : Prop} (h : q → WL Γ ops (⟨d, .fieldAddr T x n, ty, ps, af, g⟩ :: rest) k st) : q → WL Γ ops (⟨d, .fieldAddr T x n, ty, ps, af, g⟩ :: rest) k st := h
theorem j_ofa {q : Prop} (h : q → WO Γ ops k ⟨d, .fieldAddr T x n, ty, ps, af, g⟩ i an tl r F st) : q → WO Γ ops k ⟨d, .fieldAddr T x n, ty, ps, af, g⟩ i an tl r F st := h
theorem j_lmv {q : Prop} (h : q → WL Γ ops (⟨d, .move x, ty, ps, af, g⟩ :: rest) k st) : q → WL Γ ops (⟨d, .move x, ty, ps, af, g⟩ :: rest) k st := h
theorem j_omv {q : Prop} (h : q → WO Γ ops k ⟨d, .move x, ty, ps, af, g⟩ i an tl r F st) : q → WO Γ ops k ⟨d, .move x, ty, ps, af, g⟩ i an tl r F st := h
theorem j_las {q : Prop} (h : q → WL Γ ops (⟨d, .assign x, ty, ps, af, g⟩ :: rest) k st) : q → WL Γ ops (⟨d, .assign x, ty, ps, af, g⟩ :: rest) k st := h
theorem j_oas {q : Prop} (h : q → WO Γ ops k ⟨d, .assign x, ty, ps, af, g⟩ i an tl r F st) : q → WO Γ ops k ⟨d, .assign x, ty, ps, af, g⟩ i an tl r F st := h
theorem j_lpk {q : Prop} (h : q → WL Γ ops (⟨d, .pick x y z, ty, ps, af, g⟩ :: rest) k st) : q → WL Γ ops (⟨d, .pick x y z, ty, ps, af, g⟩ :: rest) k st := h
theorem j_opk {q : Prop} (h : q → WO Γ ops k ⟨d, .pick x y z, ty, ps, af, g⟩ i an tl r F st) : q → WO Γ ops k ⟨d, .pick x y z, ty, ps, af, g⟩ i an tl r F st := h
theorem j_lbi {q : Prop} (h : q → WL Γ ops (⟨d, .binOp bo T x y T', ty, ps, af, g⟩ :: rest) k st) : q → WL Γ ops (⟨d, .binOp bo T x y T', ty, ps, af, g⟩ :: rest) k st := h
theorem j_obi {q : Prop} (h : q → WO Γ ops k ⟨d, .binOp bo T x y T', ty, ps, af, g⟩ i an tl r F st) : q → WO Γ ops k ⟨d, .binOp bo T x y T', ty, ps, af, g⟩ i an tl r F st := h
theorem j_lun {q : Prop} (h : q → WL Γ ops (⟨d, .unOp uo T x, ty, ps, af, g⟩ :: rest) k st) : q → WL Γ ops (⟨d, .unOp uo T x, ty, ps, af, g⟩ :: rest) k st := h
theorem j_oun {q : Prop} (h : q → WO Γ ops k ⟨d, .unOp uo T x, ty, ps, af, g⟩ i an tl r F st) : q → WO Γ ops k ⟨d, .unOp uo T x, ty, ps, af, g⟩ i an tl r F st := h
theorem j_lcb {q : Prop} (h : q → WL Γ ops (⟨d, .call { callee := .builtin bb, args := xs, argTypes := ts }, ty, ps, af, g⟩ :: rest) k st) : q → WL Γ ops (⟨d, .call { callee := .builtin bb, args := xs, argTypes := ts }, ty, ps, af, g⟩ :: rest) k st := h
theorem j_ocb {q : Prop} (h : q → WO Γ ops k ⟨d, .call { callee := .builtin bb, args := xs, argTypes := ts }, ty, ps, af, g⟩ i an tl r F st) : q → WO Γ ops k ⟨d, .call { callee := .builtin bb, args := xs, argTypes := ts }, ty, ps, af, g⟩ i an tl r F st := h
theorem j_lcv {q : Prop} (h : q → WL Γ ops (⟨d, .call { callee := .value x, args := xs, argTypes := ts }, ty, ps, af, g⟩ :: rest) k st) : q → WL Γ ops (⟨d, .call { callee := .value x, args := xs, argTypes := ts }, ty, ps, af, g⟩ :: rest) k st := h
theorem j_ocv {q : Prop} (h : q → WO Γ ops k ⟨d, .call { callee := .value x, args := xs, argTypes := ts }, ty, ps, af, g⟩ i an tl r F st) : q → WO Γ ops k ⟨d, .call { callee := .value x, args := xs, argTypes := ts }, ty, ps, af, g⟩ i an tl r F st := h
theorem j_lst {q : Prop} (h : q → WL Γ ops (⟨d, .store T x y, ty, ps, af, g⟩ :: rest) k st) : q → WL Γ ops (⟨d, .store T x y, ty, ps, af, g⟩ :: rest) k st := h
theorem j_ost {q : Prop} (h : q → WO Γ ops k ⟨d, .store T x y, ty, ps, af, g⟩ i an tl r F st) : q → WO Γ ops k ⟨d, .store T x y, ty, ps, af, g⟩ i an tl r F st := h
theorem j_lal {q : Prop} (h : q → WL Γ ops (⟨d, .alloc T, ty, ps, af, g⟩ :: rest) k st) : q → WL Γ ops (⟨d, .alloc T, ty, ps, af, g⟩ :: rest) k st := h
theorem j_oal {q : Prop} (h : q → WO Γ ops k ⟨d, .alloc T, ty, ps, af, g⟩ i an tl r F st) : q → WO Γ ops k ⟨d, .alloc T, ty, ps, af, g⟩ i an tl r F st := h
theorem j_lbx {q : Prop} (h : q → WL Γ ops (⟨d, .box T x, ty, ps, af, g⟩ :: rest) k st) : q → WL Γ ops (⟨d, .box T x, ty, ps, af, g⟩ :: rest) k st := h
theorem j_obx {q : Prop} (h : q → WO Γ ops k ⟨d, .box T x, ty, ps, af, g⟩ i an tl r F st) : q → WO Γ ops k ⟨d, .box T x, ty, ps, af, g⟩ i an tl r F st := h
theorem j_lex {q : Prop} (h : q → WL Γ ops (⟨d, .extract x n, ty, ps, af, g⟩ :: rest) k st) : q → WL Γ ops (⟨d, .extract x n, ty, ps, af, g⟩ :: rest) k st := h
theorem j_oex {q : Prop} (h : q → WO Γ ops k ⟨d, .extract x n, ty, ps, af, g⟩ i an tl r F st) : q → WO Γ ops k ⟨d, .extract x n, ty, ps, af, g⟩ i an tl r F st := h
theorem j_lix {q : Prop} (h : q → WL Γ ops (⟨d, .indexAddr T x y, ty, ps, af, g⟩ :: rest) k st) : q → WL Γ ops (⟨d, .indexAddr T x y, ty, ps, af, g⟩ :: rest) k st := h
theorem j_oix {q : Prop} (h : q → WO Γ ops k ⟨d, .indexAddr T x y, ty, ps, af, g⟩ i an tl r F st) : q → WO Γ ops k ⟨d, .indexAddr T x y, ty, ps, af, g⟩ i an tl r F st := h
theorem j_lbs {q : Prop} (h : q → WL Γ ops (⟨d, .buildSlice T n pa, ty, ps, af, g⟩ :: rest) k st) : q → WL Γ ops (⟨d, .buildSlice T n pa, ty, ps, af, g⟩ :: rest) k st := h
theorem j_obs {q : Prop} (h : q → WO Γ ops k ⟨d, .buildSlice T n pa, ty, ps, af, g⟩ i an tl r F st) : q → WO Γ ops k ⟨d, .buildSlice T n pa, ty, ps, af, g⟩ i an tl r F st := h
theorem j_lbd {q : Prop} (h : q → WL Γ ops (⟨d, .build T pa, ty, ps, af, g⟩ :: rest) k st) : q → WL Γ ops (⟨d, .build T pa, ty, ps, af, g⟩ :: rest) k st := h
theorem j_obd {q : Prop} (h : q → WO Γ ops k ⟨d, .build T pa, ty, ps, af, g⟩ i an tl r F st) : q → WO Γ ops k ⟨d, .build T pa, ty, ps, af, g⟩ i an tl r F st := h
end
theorem sw {g h : Prop} (k : h) (f : h → g := by (first | (apply j_wk; first | exact wk_seq | exact wk_block_n | exact wk_seq_r | exact wk_block_r | exact wk_loop_r | exact wk_seq_e | exact wk_block_e | exact wk_block_o rfl | exact wk_loop_e | exact wk_cut_r | exact wk_cut_e) | (apply j_wc; first | exact wc_seq | exact wc_region | exact wc_block | exact wc_ret | exact wc_skip | exact wc_exit | exact wc_cond_t rfl | exact wc_cond_f rfl) | (apply j_wl; first | (apply j_lg; first | exact wl_gt rfl rfl rfl | exact wl_gs' rfl rfl rfl rfl rfl rfl rfl | exact wl_gu rfl rfl rfl rfl rfl rfl) | exact wl_nil | (apply j_lmv; first | exact wl_r (o_move rfl rfl) rfl rfl rfl) | (apply j_las; first | exact wl_r (o_assign rfl rfl) rfl rfl rfl) | (apply j_lld; first | exact wl_r (o_load rfl rfl rfl (by exact inferInstance) rfl (by simp only [fillV, stV, cellsV, ldC, ldE, cond_true, cond_false, List.map_cons, List.map_nil, List.drop_zero, List.drop_succ_cons, List.take_succ_cons, List.take_zero, List.getElem?_cons_zero, List.getElem?_cons_succ, Nat.reduceAdd, Option.map_some]; exact rfl)) rfl rfl rfl | exact wl_r (o_loadq rfl rfl (by exact inferInstance) rfl (by simp only [fillV, stV, cellsV, ldC, ldE, cond_true, cond_false, List.map_cons, List.map_nil, List.drop_zero, List.drop_succ_cons, List.take_succ_cons, List.take_zero, List.getElem?_cons_zero, List.getElem?_cons_succ, Nat.reduceAdd, Option.map_some]; exact rfl)) rfl rfl rfl | exact wl_r (o_loade rfl rfl rfl (by exact inferInstance) rfl (by simp only [fillV, stV, cellsV, ldC, ldE, cond_true, cond_false, List.map_cons, List.map_nil, List.drop_zero, List.drop_succ_cons, List.take_succ_cons, List.take_zero, List.getElem?_cons_zero, List.getElem?_cons_succ, Nat.reduceAdd, Option.map_some]; exact rfl)) rfl rfl rfl) | (apply j_lfa; first | exact wl_r (o_fa rfl rfl) rfl rfl rfl | exact wl_r (o_faq rfl rfl (by simp only [List.drop_zero, List.drop_succ_cons]; exact rfl)) rfl rfl rfl | exact wl_r (o_fae rfl rfl) rfl rfl rfl) | (apply j_lpk; first | exact wl_r (o_pick rfl rfl rfl) rfl rfl rfl) | (apply j_lbi; first | exact wl_r (o_seq rfl rfl rfl) rfl rfl rfl | exact wl_r (o_sne rfl rfl rfl) rfl rfl rfl | exact wl_r (o_slt rfl rfl rfl) rfl rfl rfl | exact wl_r (o_sgt rfl rfl rfl) rfl rfl rfl | exact wl_r (o_sle rfl rfl rfl) rfl rfl rfl | exact wl_r (o_sge rfl rfl rfl) rfl rfl rfl | exact wl_r (o_ilt rfl rfl rfl) rfl rfl rfl | exact wl_r (o_ile rfl rfl rfl) rfl rfl rfl | exact wl_r (o_igt rfl rfl rfl) rfl rfl rfl | exact wl_r (o_ige rfl rfl rfl) rfl rfl rfl | exact wl_r (o_ieq rfl rfl rfl) rfl rfl rfl | exact wl_r (o_ine rfl rfl rfl) rfl rfl rfl | exact wl_r (o_add rfl rfl rfl (w64 (by omega) (by omega))) rfl rfl rfl | exact wl_r (o_add rfl rfl rfl (wu8 (by omega) (by omega))) rfl rfl rfl | exact wl_r (o_add rfl rfl rfl (wi32 (by omega) (by omega))) rfl rfl rfl | exact wl_r (o_sub rfl rfl rfl (w64 (by omega) (by omega))) rfl rfl rfl | exact wl_r (o_sub rfl rfl rfl (wu8 (by omega) (by omega))) rfl rfl rfl | exact wl_r (o_sub rfl rfl rfl (wi32 (by omega) (by omega))) rfl rfl rfl | exact wl_r (o_beq rfl rfl rfl (by kernel_rfl)) rfl rfl rfl | exact wl_r (o_bne rfl rfl rfl (by kernel_rfl)) rfl rfl rfl | exact wl_r (o_mul rfl rfl rfl (w64 (by omega) (by omega))) rfl rfl rfl | exact wl_r (o_rem rfl rfl rfl (by omega) rfl) rfl rfl rfl | exact wl_r (o_quo rfl rfl rfl (by omega) (w64 (by omega) (by omega))) rfl rfl rfl | exact wl_r (o_sadd rfl rfl rfl (by omega)) rfl rfl rfl | exact wl_r (o_eqc rfl rfl rfl (by simp only [ccV, Option.map_some]; exact rfl) (by simp only [ccV, Option.map_some]; exact rfl) (by exact inferInstance)) rfl rfl rfl | exact wl_r (o_nec rfl rfl rfl (by simp only [ccV, Option.map_some]; exact rfl) (by simp only [ccV, Option.map_some]; exact rfl) (by exact inferInstance)) rfl rfl rfl) | (apply j_lun; first | exact wl_r (o_not rfl rfl) rfl rfl rfl) | (apply j_lex; first | exact wl_r (o_extract rfl rfl rfl) rfl rfl rfl) | (apply j_lbd; first | exact wl_r (o_build rfl rfl rfl (by simp only [fillV, stV, cellsV, ldC, ldE, cond_true, cond_false, List.map_cons, List.map_nil, List.drop_zero, List.drop_succ_cons, List.take_succ_cons, List.take_zero, List.getElem?_cons_zero, List.getElem?_cons_succ, Nat.reduceAdd, Option.map_some]; exact rfl)) rfl rfl rfl | exact wl_r (o_builda rfl rfl rfl (by simp only [fillV, stV, cellsV, ldC, ldE, cond_true, cond_false, List.map_cons, List.map_nil, List.drop_zero, List.drop_succ_cons, List.take_succ_cons, List.take_zero, List.getElem?_cons_zero, List.getElem?_cons_succ, Nat.reduceAdd, Option.map_some]; exact rfl)) rfl rfl rfl) | (apply j_lix; first | exact wl_r (o_ixe rfl rfl rfl Len.len rfl (by omega) (by first | (simp only [Rng.ds, Kv.ds, dsI]; exact rfl) | exact rfl)) rfl rfl rfl | exact wl_r (o_ixe rfl rfl rfl Len.len (Int.toNat_of_nonneg (by omega)).symm (by omega) (by first | (simp only [Rng.ds, Kv.ds, dsI]; exact rfl) | exact rfl)) rfl rfl rfl | exact wl_r (o_ixl rfl rfl (by exact inferInstance) (by exact inferInstance) (Int.toNat_of_nonneg (by omega)).symm (by omega)) rfl rfl rfl) | (apply j_lcv; exact wl_ct rfl rfl rfl (by repeat (first | exact Vws.nil | apply Vws.cons | exact Vw.nil | exact Vw.d _ | exact Vw.q _ | apply Vw.a)) (by exact inferInstance) (by first | exact trivial | omega | assumption | exact ⟨letter_le _, by omega⟩ | exact ⟨by decide, by omega⟩ | (simp only [List.length_append, List.length_take, List.length_drop, List.length_cons, List.length_nil]; omega)) (by simp only [V.ren, V.rens]; exact rfl) rfl rfl rfl rfl) | (apply j_lcb; first | exact wl_r (o_len_d rfl rfl) rfl rfl rfl | exact wl_r (o_len_h rfl rfl rfl) rfl rfl rfl | exact wl_r (o_len_s rfl rfl (by kernel_rfl)) rfl rfl rfl | exact wl_r (o_len_n rfl rfl) rfl rfl rfl | exact wl_r (o_len_v rfl rfl) rfl rfl rfl | exact wl_r (o_min rfl rfl rfl) rfl rfl rfl | exact wl_r (o_max rfl rfl rfl) rfl rfl rfl | exact wl_1 (n_append_nt rfl rfl (by simp only [Nat.reduceAdd]; exact rfl) rfl rfl Len.len (by first | omega | (simp only [List.length_append, List.length_take, List.length_drop, List.length_cons, List.length_nil]; omega)) (by first | omega | (simp only [List.length_append, List.length_take, List.length_drop, List.length_cons, List.length_nil]; omega))) rfl rfl rfl rfl | exact wl_2 (n_append_t rfl rfl (by simp only [Nat.reduceAdd]; exact rfl) rfl rfl rfl Len.len (by first | omega | (simp only [List.length_append, List.length_take, List.length_drop, List.length_cons, List.length_nil]; omega)) (by first | omega | (simp only [List.length_append, List.length_take, List.length_drop, List.length_cons, List.length_nil]; omega)) rfl) rfl rfl rfl rfl) | (apply j_lst; exact wl_0 (lo := 0) (nn := 0) (o_store rfl rfl rfl rfl (by exact inferInstance) rfl (by simp only [fillV, stV, cellsV, ldC, ldE, cond_true, cond_false, List.map_cons, List.map_nil, List.drop_zero, List.drop_succ_cons, List.take_succ_cons, List.take_zero, List.getElem?_cons_zero, List.getElem?_cons_succ, Nat.reduceAdd, Option.map_some]; exact rfl)) rfl rfl (fresh0 _ _)) | (apply j_lal; exact wl_1 (n_alloc rfl rfl (by simp only [Nat.reduceAdd]; exact rfl) (by exact ZeroI.out) rfl rfl) rfl rfl rfl rfl) | (apply j_lbx; exact wl_1 (n_box rfl rfl (by simp only [Nat.reduceAdd]; exact rfl) rfl rfl (by simp only [cellsV]; exact rfl)) rfl rfl rfl rfl) | (apply j_lbs; first | exact wl_bti rfl rfl (by simp only [flatV, cellsV, List.cons_append, List.nil_append, List.append_nil]; exact rfl) rfl (by simp only [unI, Option.map_some]; exact rfl) rfl rfl rfl rfl | exact wl_1 (n_bs rfl rfl (by simp only [Nat.reduceAdd]; exact rfl) rfl (by simp only [flatV, cellsV, List.cons_append, List.nil_append, List.append_nil]; exact rfl) rfl) rfl rfl rfl rfl) | exact wl_r (o_field rfl rfl rfl (by simp only [fillV, stV, cellsV, ldC, ldE, cond_true, cond_false, List.map_cons, List.map_nil, List.drop_zero, List.drop_succ_cons, List.take_succ_cons, List.take_zero, List.getElem?_cons_zero, List.getElem?_cons_succ, Nat.reduceAdd, Option.map_some]; exact rfl)) rfl rfl rfl | exact wl_r (o_nilc rfl rfl) rfl rfl rfl | exact wl_r (o_lookup (z := .nilFunc) rfl rfl rfl (by exact inferInstance) (by kernel_rfl) (by kernel_rfl) rfl rfl) rfl rfl rfl | exact wl_r (o_feq rfl rfl rfl (by kernel_rfl) (by first | exact rfl | assumption)) rfl rfl rfl | exact wl_r (o_cvi rfl rfl (by kernel_rfl) (by kernel_rfl) rfl) rfl rfl rfl | exact wl_r (o_neg rfl rfl (w64 (by omega) (by omega))) rfl rfl rfl | exact wl_r (o_slice_ti rfl rfl rfl rfl (by omega) (by omega) (by omega) Len.len rfl) rfl rfl rfl | exact wl_r (o_index_si rfl rfl rfl (by kernel_rfl) (by omega) (by omega)) rfl rfl rfl | exact wl_r (o_slice_si rfl rfl (by kernel_rfl) rfl rfl (by omega) (by omega) (by omega) rfl) rfl rfl rfl | exact wl_r (o_cvi (k2 := .i64) rfl rfl (by kernel_rfl) (by kernel_rfl) (w64 (by omega) (by omega))) rfl rfl rfl | exact wl_r (o_index_a rfl rfl rfl (by exact inferInstance) (by exact inferInstance) (by omega) (by omega) rfl) rfl rfl rfl | exact wl_1 (o_mkmap rfl rfl (by simp only [Nat.reduceAdd]; exact rfl)) rfl rfl rfl rfl | exact wl_0 (lo := 0) (nn := 0) (o_insert rfl rfl rfl rfl rfl (by exact inferInstance) (by kernel_rfl) rfl) rfl rfl (fresh0 _ _) | exact wl_1 (o_range rfl rfl (by simp only [Nat.reduceAdd]; exact rfl) rfl (by kernel_rfl)) rfl rfl rfl rfl | exact wl_1 (lo := 0) (nn := 0) (o_next_t rfl rfl rfl (by assumption) (by assumption)) rfl rfl rfl (fresh0 _ _) | exact wl_r (o_next_f rfl rfl rfl (by assumption)) rfl rfl rfl) | (apply j_wo; first | exact wd_s rfl rfl (by first | exact .n rfl rfl rfl rfl rfl | exact .u rfl rfl rfl rfl) (hf := rfl) | (apply j_omv; first | exact wd_r [] (o_move rfl rfl) rfl (by first | exact .no rfl | exact .y rfl rfl rfl rfl) rfl rfl) | (apply j_oas; first | exact wd_r [] (o_assign rfl rfl) rfl (by first | exact .no rfl | exact .y rfl rfl rfl rfl) rfl rfl) | (apply j_old; first | exact wd_r [] (o_loadq rfl rfl (by exact inferInstance) rfl (by simp only [fillV, stV, cellsV, ldC, ldE, cond_true, cond_false, List.map_cons, List.map_nil, List.drop_zero, List.drop_succ_cons, List.take_succ_cons, List.take_zero, List.getElem?_cons_zero, List.getElem?_cons_succ, Nat.reduceAdd, Option.map_some]; exact rfl)) rfl (by first | exact .no rfl | exact .y rfl rfl rfl rfl) rfl rfl | exact wd_ld rfl rfl rfl (by exact inferInstance) rfl (by simp only [fillV, stV, cellsV, ldC, ldE, cond_true, cond_false, List.map_cons, List.map_nil, List.drop_zero, List.drop_succ_cons, List.take_succ_cons, List.take_zero, List.getElem?_cons_zero, List.getElem?_cons_succ, Nat.reduceAdd, Option.map_some]; exact rfl) rfl (by first | exact .no rfl | exact .y rfl rfl rfl rfl) rfl rfl | exact wd_lde rfl rfl rfl (by exact inferInstance) rfl (by simp only [fillV, stV, cellsV, ldC, ldE, cond_true, cond_false, List.map_cons, List.map_nil, List.drop_zero, List.drop_succ_cons, List.take_succ_cons, List.take_zero, List.getElem?_cons_zero, List.getElem?_cons_succ, Nat.reduceAdd, Option.map_some]; exact rfl) rfl (by first | exact .no rfl | exact .y rfl rfl rfl rfl) rfl rfl) | (apply j_ofa; first | exact wd_r [] (o_fa rfl rfl) rfl (by first | exact .no rfl | exact .y rfl rfl rfl rfl) rfl rfl | exact wd_r [] (o_faq rfl rfl (by simp only [List.drop_zero, List.drop_succ_cons]; exact rfl)) rfl (by first | exact .no rfl | exact .y rfl rfl rfl rfl) rfl rfl | exact wd_r [] (o_fae rfl rfl) rfl (by first | exact .no rfl | exact .y rfl rfl rfl rfl) rfl rfl) | (apply j_opk; first | exact wd_r [] (o_pick rfl rfl rfl) rfl (by first | exact .no rfl | exact .y rfl rfl rfl rfl) rfl rfl) | (apply j_obi; first | exact wd_r [] (o_seq rfl rfl rfl) rfl (by first | exact .no rfl | exact .y rfl rfl rfl rfl) rfl rfl | exact wd_r [] (o_sne rfl rfl rfl) rfl (by first | exact .no rfl | exact .y rfl rfl rfl rfl) rfl rfl | exact wd_r [] (o_slt rfl rfl rfl) rfl (by first | exact .no rfl | exact .y rfl rfl rfl rfl) rfl rfl | exact wd_r [] (o_sgt rfl rfl rfl) rfl (by first | exact .no rfl | exact .y rfl rfl rfl rfl) rfl rfl | exact wd_r [] (o_sle rfl rfl rfl) rfl (by first | exact .no rfl | exact .y rfl rfl rfl rfl) rfl rfl | exact wd_r [] (o_sge rfl rfl rfl) rfl (by first | exact .no rfl | exact .y rfl rfl rfl rfl) rfl rfl | exact wd_r [] (o_ilt rfl rfl rfl) rfl (by first | exact .no rfl | exact .y rfl rfl rfl rfl) rfl rfl | exact wd_r [] (o_ile rfl rfl rfl) rfl (by first | exact .no rfl | exact .y rfl rfl rfl rfl) rfl rfl | exact wd_r [] (o_igt rfl rfl rfl) rfl (by first | exact .no rfl | exact .y rfl rfl rfl rfl) rfl rfl | exact wd_r [] (o_ige rfl rfl rfl) rfl (by first | exact .no rfl | exact .y rfl rfl rfl rfl) rfl rfl | exact wd_r [] (o_ieq rfl rfl rfl) rfl (by first | exact .no rfl | exact .y rfl rfl rfl rfl) rfl rfl | exact wd_r [] (o_ine rfl rfl rfl) rfl (by first | exact .no rfl | exact .y rfl rfl rfl rfl) rfl rfl | exact wd_r [] (o_add rfl rfl rfl (w64 (by omega) (by omega))) rfl (by first | exact .no rfl | exact .y rfl rfl rfl rfl) rfl rfl | exact wd_r [] (o_add rfl rfl rfl (wu8 (by omega) (by omega))) rfl (by first | exact .no rfl | exact .y rfl rfl rfl rfl) rfl rfl | exact wd_r [] (o_add rfl rfl rfl (wi32 (by omega) (by omega))) rfl (by first | exact .no rfl | exact .y rfl rfl rfl rfl) rfl rfl | exact wd_r [] (o_sub rfl rfl rfl (w64 (by omega) (by omega))) rfl (by first | exact .no rfl | exact .y rfl rfl rfl rfl) rfl rfl | exact wd_r [] (o_sub rfl rfl rfl (wu8 (by omega) (by omega))) rfl (by first | exact .no rfl | exact .y rfl rfl rfl rfl) rfl rfl | exact wd_r [] (o_sub rfl rfl rfl (wi32 (by omega) (by omega))) rfl (by first | exact .no rfl | exact .y rfl rfl rfl rfl) rfl rfl | exact wd_r [] (o_beq rfl rfl rfl (by kernel_rfl)) rfl (by first | exact .no rfl | exact .y rfl rfl rfl rfl) rfl rfl | exact wd_r [] (o_bne rfl rfl rfl (by kernel_rfl)) rfl (by first | exact .no rfl | exact .y rfl rfl rfl rfl) rfl rfl | exact wd_r [] (o_mul rfl rfl rfl (w64 (by omega) (by omega))) rfl (by first | exact .no rfl | exact .y rfl rfl rfl rfl) rfl rfl | exact wd_r [] (o_rem rfl rfl rfl (by omega) rfl) rfl (by first | exact .no rfl | exact .y rfl rfl rfl rfl) rfl rfl | exact wd_r [] (o_quo rfl rfl rfl (by omega) (w64 (by omega) (by omega))) rfl (by first | exact .no rfl | exact .y rfl rfl rfl rfl) rfl rfl | exact wd_r [] (o_sadd rfl rfl rfl (by omega)) rfl (by first | exact .no rfl | exact .y rfl rfl rfl rfl) rfl rfl | exact wd_r [] (o_eqc rfl rfl rfl (by simp only [ccV, Option.map_some]; exact rfl) (by simp only [ccV, Option.map_some]; exact rfl) (by exact inferInstance)) rfl (by first | exact .no rfl | exact .y rfl rfl rfl rfl) rfl rfl | exact wd_r [] (o_nec rfl rfl rfl (by simp only [ccV, Option.map_some]; exact rfl) (by simp only [ccV, Option.map_some]; exact rfl) (by exact inferInstance)) rfl (by first | exact .no rfl | exact .y rfl rfl rfl rfl) rfl rfl) | (apply j_oun; first | exact wd_r [] (o_not rfl rfl) rfl (by first | exact .no rfl | exact .y rfl rfl rfl rfl) rfl rfl) | (apply j_oex; first | exact wd_r [] (o_extract rfl rfl rfl) rfl (by first | exact .no rfl | exact .y rfl rfl rfl rfl) rfl rfl) | (apply j_obd; first | exact wd_r [] (o_build rfl rfl rfl (by simp only [fillV, stV, cellsV, ldC, ldE, cond_true, cond_false, List.map_cons, List.map_nil, List.drop_zero, List.drop_succ_cons, List.take_succ_cons, List.take_zero, List.getElem?_cons_zero, List.getElem?_cons_succ, Nat.reduceAdd, Option.map_some]; exact rfl)) rfl (by first | exact .no rfl | exact .y rfl rfl rfl rfl) rfl rfl | exact wd_r [] (o_builda rfl rfl rfl (by simp only [fillV, stV, cellsV, ldC, ldE, cond_true, cond_false, List.map_cons, List.map_nil, List.drop_zero, List.drop_succ_cons, List.take_succ_cons, List.take_zero, List.getElem?_cons_zero, List.getElem?_cons_succ, Nat.reduceAdd, Option.map_some]; exact rfl)) rfl (by first | exact .no rfl | exact .y rfl rfl rfl rfl) rfl rfl) | (apply j_oix; first | exact wd_r [] (o_ixe rfl rfl rfl Len.len rfl (by omega) (by first | (simp only [Rng.ds, Kv.ds, dsI]; exact rfl) | exact rfl)) rfl (by first | exact .no rfl | exact .y rfl rfl rfl rfl) rfl rfl | exact wd_r [] (o_ixe rfl rfl rfl Len.len (Int.toNat_of_nonneg (by omega)).symm (by omega) (by first | (simp only [Rng.ds, Kv.ds, dsI]; exact rfl) | exact rfl)) rfl (by first | exact .no rfl | exact .y rfl rfl rfl rfl) rfl rfl | exact wd_r [] (o_ixl rfl rfl (by exact inferInstance) (by exact inferInstance) (Int.toNat_of_nonneg (by omega)).symm (by omega)) rfl (by first | exact .no rfl | exact .y rfl rfl rfl rfl) rfl rfl) | (apply j_ocb; first | exact wd_r [] (o_len_d rfl rfl) rfl (by first | exact .no rfl | exact .y rfl rfl rfl rfl) rfl rfl | exact wd_r [] (o_len_s rfl rfl (by kernel_rfl)) rfl (by first | exact .no rfl | exact .y rfl rfl rfl rfl) rfl rfl | exact wd_r [] (o_len_n rfl rfl) rfl (by first | exact .no rfl | exact .y rfl rfl rfl rfl) rfl rfl | exact wd_r [] (o_len_v rfl rfl) rfl (by first | exact .no rfl | exact .y rfl rfl rfl rfl) rfl rfl | exact wd_r [] (o_min rfl rfl rfl) rfl (by first | exact .no rfl | exact .y rfl rfl rfl rfl) rfl rfl | exact wd_r [] (o_max rfl rfl rfl) rfl (by first | exact .no rfl | exact .y rfl rfl rfl rfl) rfl rfl | exact wd_lenh rfl rfl rfl rfl (by first | exact .no rfl | exact .y rfl rfl rfl rfl) rfl rfl | exact wd_1 [] (n_append_nt rfl rfl (by simp only [Nat.reduceAdd]; exact rfl) rfl rfl Len.len (by first | omega | (simp only [List.length_append, List.length_take, List.length_drop, List.length_cons, List.length_nil]; omega)) (by first | omega | (simp only [List.length_append, List.length_take, List.length_drop, List.length_cons, List.length_nil]; omega))) rfl (by first | exact .no rfl | exact .y rfl rfl rfl rfl) rfl rfl rfl | exact wd_append_t rfl rfl (by simp only [Nat.reduceAdd]; exact rfl) rfl rfl rfl Len.len (by first | omega | (simp only [List.length_append, List.length_take, List.length_drop, List.length_cons, List.length_nil]; omega)) (by first | omega | (simp only [List.length_append, List.length_take, List.length_drop, List.length_cons, List.length_nil]; omega)) rfl (by first | exact .no rfl | exact .y rfl rfl rfl rfl) rfl rfl rfl) | (apply j_ost; first | exact wd_st rfl rfl rfl rfl (by exact inferInstance) rfl (by simp only [fillV, stV, cellsV, ldC, ldE, cond_true, cond_false, List.map_cons, List.map_nil, List.drop_zero, List.drop_succ_cons, List.take_succ_cons, List.take_zero, List.getElem?_cons_zero, List.getElem?_cons_succ, Nat.reduceAdd, Option.map_some]; exact rfl) rfl (by first | exact .no rfl | exact .y rfl rfl rfl rfl) rfl) | (apply j_oal; first | exact wd_1 [] (n_alloc rfl rfl (by simp only [Nat.reduceAdd]; exact rfl) (by exact ZeroI.out) rfl rfl) rfl (by first | exact .no rfl | exact .y rfl rfl rfl rfl) rfl rfl rfl) | (apply j_obx; first | exact wd_1 [] (n_box rfl rfl (by simp only [Nat.reduceAdd]; exact rfl) rfl rfl (by simp only [cellsV]; exact rfl)) rfl (by first | exact .no rfl | exact .y rfl rfl rfl rfl) rfl rfl rfl) | (apply j_obs; first | exact wd_bti rfl rfl (by simp only [flatV, cellsV, List.cons_append, List.nil_append, List.append_nil]; exact rfl) rfl (by simp only [unI, Option.map_some]; exact rfl) rfl rfl (by first | exact .no rfl | exact .y rfl rfl rfl rfl) rfl rfl | exact wd_1 [] (n_bs rfl rfl (by simp only [Nat.reduceAdd]; exact rfl) rfl (by simp only [flatV, cellsV, List.cons_append, List.nil_append, List.append_nil]; exact rfl) rfl) rfl (by first | exact .no rfl | exact .y rfl rfl rfl rfl) rfl rfl rfl) | (apply j_ocv; first | exact wd_ct rfl rfl rfl (by repeat (first | exact Vws.nil | apply Vws.cons | exact Vw.nil | exact Vw.d _ | exact Vw.q _ | apply Vw.a)) (by exact inferInstance) (by first | exact trivial | omega | assumption | exact ⟨letter_le _, by omega⟩ | exact ⟨by decide, by omega⟩ | (simp only [List.length_append, List.length_take, List.length_drop, List.length_cons, List.length_nil]; omega)) (by simp only [V.ren, V.rens]; exact rfl) rfl (by first | exact .no rfl | exact .y rfl rfl rfl rfl) rfl rfl rfl) | exact wd_r [] (o_field rfl rfl rfl (by simp only [fillV, stV, cellsV, ldC, ldE, cond_true, cond_false, List.map_cons, List.map_nil, List.drop_zero, List.drop_succ_cons, List.take_succ_cons, List.take_zero, List.getElem?_cons_zero, List.getElem?_cons_succ, Nat.reduceAdd, Option.map_some]; exact rfl)) rfl (by first | exact .no rfl | exact .y rfl rfl rfl rfl) rfl rfl | exact wd_r [] (o_nilc rfl rfl) rfl (by first | exact .no rfl | exact .y rfl rfl rfl rfl) rfl rfl | exact wd_r [] (o_lookup (z := .nilFunc) rfl rfl rfl (by exact inferInstance) (by kernel_rfl) (by kernel_rfl) rfl rfl) rfl (by first | exact .no rfl | exact .y rfl rfl rfl rfl) rfl rfl | exact wd_r [] (o_feq rfl rfl rfl (by kernel_rfl) (by first | exact rfl | assumption)) rfl (by first | exact .no rfl | exact .y rfl rfl rfl rfl) rfl rfl | exact wd_r [] (o_cvi rfl rfl (by kernel_rfl) (by kernel_rfl) rfl) rfl (by first | exact .no rfl | exact .y rfl rfl rfl rfl) rfl rfl | exact wd_r [] (o_neg rfl rfl (w64 (by omega) (by omega))) rfl (by first | exact .no rfl | exact .y rfl rfl rfl rfl) rfl rfl | exact wd_r [] (o_slice_ti rfl rfl rfl rfl (by omega) (by omega) (by omega) Len.len rfl) rfl (by first | exact .no rfl | exact .y rfl rfl rfl rfl) rfl rfl | exact wd_r [] (o_index_si rfl rfl rfl (by kernel_rfl) (by omega) (by omega)) rfl (by first | exact .no rfl | exact .y rfl rfl rfl rfl) rfl rfl | exact wd_r [] (o_slice_si rfl rfl (by kernel_rfl) rfl rfl (by omega) (by omega) (by omega) rfl) rfl (by first | exact .no rfl | exact .y rfl rfl rfl rfl) rfl rfl | exact wd_r [] (o_cvi (k2 := .i64) rfl rfl (by kernel_rfl) (by kernel_rfl) (w64 (by omega) (by omega))) rfl (by first | exact .no rfl | exact .y rfl rfl rfl rfl) rfl rfl | exact wd_r [] (o_index_a rfl rfl rfl (by exact inferInstance) (by exact inferInstance) (by omega) (by omega) rfl) rfl (by first | exact .no rfl | exact .y rfl rfl rfl rfl) rfl rfl) | exact wd_nil | exact wd_op rfl)) : g := f k
theorem swt {g h : Prop} (k : h) (f : h → g := by (first | exact wl_tc rfl rfl rfl rfl (by repeat (first | exact Vws.nil | apply Vws.cons | exact Vw.nil | exact Vw.d _ | exact Vw.q _ | apply Vw.a)) (by exact inferInstance) (by first | exact trivial | omega | assumption | exact ⟨letter_le _, by omega⟩ | exact ⟨by decide, by omega⟩ | (simp only [List.length_append, List.length_take, List.length_drop, List.length_cons, List.length_nil]; omega)) rfl rfl rfl rfl | exact wd_tc rfl rfl rfl rfl (by repeat (first | exact Vws.nil | apply Vws.cons | exact Vw.nil | exact Vw.d _ | exact Vw.q _ | apply Vw.a)) (by exact inferInstance) (by first | exact trivial | omega | assumption | exact ⟨letter_le _, by omega⟩ | exact ⟨by decide, by omega⟩ | (simp only [List.length_append, List.length_take, List.length_drop, List.length_cons, List.length_nil]; omega)) rfl (by first | exact .no rfl | exact .y rfl rfl rfl rfl) rfl rfl rfl rfl)) : g := f k
theorem sp {g a b : Prop} (k1 : a) (k2 : b) (f : a → b → g := by (intro h1 h2; first | exact wc_cond_d rfl h1 h2 | exact wc_cond rfl h1 h2 | exact wl_gp rfl rfl rfl rfl h1 h2 | exact wd_gp rfl rfl rfl rfl h1 h2)) : g := f k1 k2
end Go.Proofs.YtlbnhhfaedhgfaaDoor
namespace Go.Proofs.YtlbnhhfaedhgfaaDoor
set_option linter.unusedSimpArgs false
set_option linter.unusedVariables false
open Go.RowKit
def md (v n : Int) : Int := if v.tmod n < 0 then v.tmod n + n else v.tmod n
attribute [local irreducible] WK WC WL Wk Rel OpD OpV WD WO Op.bytesLess cmp vk vb vld emp contains
attribute [local irreducible] tpb
end Go.Proofs.YtlbnhhfaedhgfaaDoor
namespace Go.Proofs.YtlbnhhfaedhgfaaDoor
set_option linter.unusedSimpArgs false
set_option linter.unusedVariables false
open Go.RowKit
theorem ba_nil (k : ByteArray) : decide (k = ⟨#[]⟩) = k.toList.isEmpty := by
  rw [← ba_eqE]; rw [show (⟨#[]⟩ : ByteArray).toList = [] by kernel_rfl]; cases k.toList <;> rfl
attribute [local irreducible] WK WC WL Wk Rel OpD OpV WD WO Op.bytesLess cmp vk vb vld emp contains
instance compare_cr (ak bk : ByteArray) (ax bx : Bool) : Ct Tryd.prog 24 [.a [vS ak, vB ax], .a [vS bk, vB bx]] True (vI (cmp ⟨ak, ax⟩ ⟨bk, bx⟩)) := ⟨fun _ => by
  refine Spec.intro Tryd.func24 rfl rfl Tryd.ntmps24 Tryd.results24 rfl fun B w0 ρ0 => ?_; simp only [slots, List.map_nil, List.map_cons, Nat.reduceAdd]
  (repeat' (first | refine sw ?_ | (refine swt ?_; intro x τ hx) | (refine sp ?_ ?_ <;> (intro h; (first | (have h2 : (_ : Bool) = _ := h; clear h2; subst h) | skip); (try simp only [decide_eq_true_eq, decide_eq_false_iff_not, Bool.not_eq_true', Bool.not_eq_false', Kv.eta, Bnd.eta, Rng.eta, tn_sub1] at h); (first | (have h2 : (_ : Bool) = _ := h; clear h2; subst h) | skip))) | fail))
  all_goals (first | refine wk_pure rfl (by first | exact trivial | exact resT_cell rfl rfl (by exact inferInstance) trivial) rfl (by first | exact Vw.fmp rfl rfl rfl | exact Vw.nil | exact Vw.d _ | (repeat (first | exact Vws.nil | apply Vws.cons | exact Vw.nil | exact Vw.d _ | apply Vw.a | apply Vw.t | exact Vw.fh rfl rfl (vws_dm _) | exact Vw.fh rfl rfl Vws.nil)); done) ?_ | refine wk_pure_n rfl (by first | exact trivial | exact resT_cell rfl rfl (by exact inferInstance) trivial) rfl (by first | exact Vw.fmp rfl rfl rfl | exact Vw.nil | exact Vw.d _ | (repeat (first | exact Vws.nil | apply Vws.cons | exact Vw.nil | exact Vw.d _ | apply Vw.a | apply Vw.t | exact Vw.fh rfl rfl (vws_dm _) | exact Vw.fh rfl rfl Vws.nil)); done) ?_)
  all_goals simp_all [cmp, Bnd.lt, bytesLess_asymm]⟩
instance validKey_cr (k : ByteArray) : Ct Tryd.prog 51 [vS k] True (vB (vk k)) := ⟨fun _ => by
  refine Spec.intro Tryd.func51 rfl rfl Tryd.ntmps51 Tryd.results51 rfl fun B w0 ρ0 => ?_; simp only [slots, List.map_nil, List.map_cons, Nat.reduceAdd]
  (repeat' (first | refine sw ?_ | (refine swt ?_; intro x τ hx) | (refine sp ?_ ?_ <;> (intro h; (first | (have h2 : (_ : Bool) = _ := h; clear h2; subst h) | skip); (try simp only [decide_eq_true_eq, decide_eq_false_iff_not, Bool.not_eq_true', Bool.not_eq_false', Kv.eta, Bnd.eta, Rng.eta, tn_sub1] at h); (first | (have h2 : (_ : Bool) = _ := h; clear h2; subst h) | skip))) | fail))
  all_goals (first | refine wk_pure rfl (by first | exact trivial | exact resT_cell rfl rfl (by exact inferInstance) trivial) rfl (by first | exact Vw.fmp rfl rfl rfl | exact Vw.nil | exact Vw.d _ | (repeat (first | exact Vws.nil | apply Vws.cons | exact Vw.nil | exact Vw.d _ | apply Vw.a | apply Vw.t | exact Vw.fh rfl rfl (vws_dm _) | exact Vw.fh rfl rfl Vws.nil)); done) ?_ | refine wk_pure_n rfl (by first | exact trivial | exact resT_cell rfl rfl (by exact inferInstance) trivial) rfl (by first | exact Vw.fmp rfl rfl rfl | exact Vw.nil | exact Vw.d _ | (repeat (first | exact Vws.nil | apply Vws.cons | exact Vw.nil | exact Vw.d _ | apply Vw.a | apply Vw.t | exact Vw.fh rfl rfl (vws_dm _) | exact Vw.fh rfl rfl Vws.nil)); done) ?_)
  all_goals (refine ⟨?_, rfl⟩; simp [vk]; omega)⟩
instance validBound_cr (k : ByteArray) (t : Bool) : Ct Tryd.prog 23 [.a [vS k, vB t]] True (vB (vb ⟨k, t⟩)) := ⟨fun _ => by
  refine Spec.intro Tryd.func23 rfl rfl Tryd.ntmps23 Tryd.results23 rfl fun B w0 ρ0 => ?_; simp only [slots, List.map_nil, List.map_cons, Nat.reduceAdd]
  (repeat' (first | refine sw ?_ | (refine swt ?_; intro x τ hx) | (refine sp ?_ ?_ <;> (intro h; (first | (have h2 : (_ : Bool) = _ := h; clear h2; subst h) | skip); (try simp only [decide_eq_true_eq, decide_eq_false_iff_not, Bool.not_eq_true', Bool.not_eq_false', Kv.eta, Bnd.eta, Rng.eta, tn_sub1] at h); (first | (have h2 : (_ : Bool) = _ := h; clear h2; subst h) | skip))) | fail))
  all_goals (first | refine wk_pure rfl (by first | exact trivial | exact resT_cell rfl rfl (by exact inferInstance) trivial) rfl (by first | exact Vw.fmp rfl rfl rfl | exact Vw.nil | exact Vw.d _ | (repeat (first | exact Vws.nil | apply Vws.cons | exact Vw.nil | exact Vw.d _ | apply Vw.a | apply Vw.t | exact Vw.fh rfl rfl (vws_dm _) | exact Vw.fh rfl rfl Vws.nil)); done) ?_ | refine wk_pure_n rfl (by first | exact trivial | exact resT_cell rfl rfl (by exact inferInstance) trivial) rfl (by first | exact Vw.fmp rfl rfl rfl | exact Vw.nil | exact Vw.d _ | (repeat (first | exact Vws.nil | apply Vws.cons | exact Vw.nil | exact Vw.d _ | apply Vw.a | apply Vw.t | exact Vw.fh rfl rfl (vws_dm _) | exact Vw.fh rfl rfl Vws.nil)); done) ?_)
  all_goals simp_all [vb, ba_nil]⟩
instance valid_cr (ak bk : ByteArray) (ax bx : Bool) : Ct Tryd.prog 50 [.a [vS ak, vB ax, vS bk, vB bx]] True (vB (vld ⟨⟨ak, ax⟩, ⟨bk, bx⟩⟩)) := ⟨fun _ => by
  refine Spec.intro Tryd.func50 rfl rfl Tryd.ntmps50 Tryd.results50 rfl fun B w0 ρ0 => ?_; simp only [slots, List.map_nil, List.map_cons, Nat.reduceAdd]
  (repeat' (first | refine sw ?_ | (refine swt ?_; intro x τ hx) | (refine sp ?_ ?_ <;> (intro h; (first | (have h2 : (_ : Bool) = _ := h; clear h2; subst h) | skip); (try simp only [decide_eq_true_eq, decide_eq_false_iff_not, Bool.not_eq_true', Bool.not_eq_false', Kv.eta, Bnd.eta, Rng.eta, tn_sub1] at h); (first | (have h2 : (_ : Bool) = _ := h; clear h2; subst h) | skip))) | fail))
  all_goals (first | refine wk_pure rfl (by first | exact trivial | exact resT_cell rfl rfl (by exact inferInstance) trivial) rfl (by first | exact Vw.fmp rfl rfl rfl | exact Vw.nil | exact Vw.d _ | (repeat (first | exact Vws.nil | apply Vws.cons | exact Vw.nil | exact Vw.d _ | apply Vw.a | apply Vw.t | exact Vw.fh rfl rfl (vws_dm _) | exact Vw.fh rfl rfl Vws.nil)); done) ?_ | refine wk_pure_n rfl (by first | exact trivial | exact resT_cell rfl rfl (by exact inferInstance) trivial) rfl (by first | exact Vw.fmp rfl rfl rfl | exact Vw.nil | exact Vw.d _ | (repeat (first | exact Vws.nil | apply Vws.cons | exact Vw.nil | exact Vw.d _ | apply Vw.a | apply Vw.t | exact Vw.fh rfl rfl (vws_dm _) | exact Vw.fh rfl rfl Vws.nil)); done) ?_)
  all_goals simp_all [vld]⟩
instance compare_cp (ak bk : ByteArray) (ax bx : Bool) : Ct Tryd.prog 35 [.a [vS ak, vB ax], .a [vS bk, vB bx]] True (vI (cmp ⟨ak, ax⟩ ⟨bk, bx⟩)) := ⟨fun _ => by
  refine Spec.intro Tryd.func35 rfl rfl Tryd.ntmps35 Tryd.results35 rfl fun B w0 ρ0 => ?_; simp only [slots, List.map_nil, List.map_cons, Nat.reduceAdd]
  (repeat' (first | refine sw ?_ | (refine swt ?_; intro x τ hx) | (refine sp ?_ ?_ <;> (intro h; (first | (have h2 : (_ : Bool) = _ := h; clear h2; subst h) | skip); (try simp only [decide_eq_true_eq, decide_eq_false_iff_not, Bool.not_eq_true', Bool.not_eq_false', Kv.eta, Bnd.eta, Rng.eta, tn_sub1] at h); (first | (have h2 : (_ : Bool) = _ := h; clear h2; subst h) | skip))) | fail))
  all_goals (first | refine wk_pure rfl (by first | exact trivial | exact resT_cell rfl rfl (by exact inferInstance) trivial) rfl (by first | exact Vw.fmp rfl rfl rfl | exact Vw.nil | exact Vw.d _ | (repeat (first | exact Vws.nil | apply Vws.cons | exact Vw.nil | exact Vw.d _ | apply Vw.a | apply Vw.t | exact Vw.fh rfl rfl (vws_dm _) | exact Vw.fh rfl rfl Vws.nil)); done) ?_ | refine wk_pure_n rfl (by first | exact trivial | exact resT_cell rfl rfl (by exact inferInstance) trivial) rfl (by first | exact Vw.fmp rfl rfl rfl | exact Vw.nil | exact Vw.d _ | (repeat (first | exact Vws.nil | apply Vws.cons | exact Vw.nil | exact Vw.d _ | apply Vw.a | apply Vw.t | exact Vw.fh rfl rfl (vws_dm _) | exact Vw.fh rfl rfl Vws.nil)); done) ?_)
  all_goals simp_all [cmp, Bnd.lt, bytesLess_asymm]⟩
instance validKey_cp (k : ByteArray) : Ct Tryd.prog 55 [vS k] True (vB (vk k)) := ⟨fun _ => by
  refine Spec.intro Tryd.func55 rfl rfl Tryd.ntmps55 Tryd.results55 rfl fun B w0 ρ0 => ?_; simp only [slots, List.map_nil, List.map_cons, Nat.reduceAdd]
  (repeat' (first | refine sw ?_ | (refine swt ?_; intro x τ hx) | (refine sp ?_ ?_ <;> (intro h; (first | (have h2 : (_ : Bool) = _ := h; clear h2; subst h) | skip); (try simp only [decide_eq_true_eq, decide_eq_false_iff_not, Bool.not_eq_true', Bool.not_eq_false', Kv.eta, Bnd.eta, Rng.eta, tn_sub1] at h); (first | (have h2 : (_ : Bool) = _ := h; clear h2; subst h) | skip))) | fail))
  all_goals (first | refine wk_pure rfl (by first | exact trivial | exact resT_cell rfl rfl (by exact inferInstance) trivial) rfl (by first | exact Vw.fmp rfl rfl rfl | exact Vw.nil | exact Vw.d _ | (repeat (first | exact Vws.nil | apply Vws.cons | exact Vw.nil | exact Vw.d _ | apply Vw.a | apply Vw.t | exact Vw.fh rfl rfl (vws_dm _) | exact Vw.fh rfl rfl Vws.nil)); done) ?_ | refine wk_pure_n rfl (by first | exact trivial | exact resT_cell rfl rfl (by exact inferInstance) trivial) rfl (by first | exact Vw.fmp rfl rfl rfl | exact Vw.nil | exact Vw.d _ | (repeat (first | exact Vws.nil | apply Vws.cons | exact Vw.nil | exact Vw.d _ | apply Vw.a | apply Vw.t | exact Vw.fh rfl rfl (vws_dm _) | exact Vw.fh rfl rfl Vws.nil)); done) ?_)
  all_goals (refine ⟨?_, rfl⟩; simp [vk]; omega)⟩
instance validBound_cp (k : ByteArray) (t : Bool) : Ct Tryd.prog 73 [.a [vS k, vB t]] True (vB (vb ⟨k, t⟩)) := ⟨fun _ => by
  refine Spec.intro Tryd.func73 rfl rfl Tryd.ntmps73 Tryd.results73 rfl fun B w0 ρ0 => ?_; simp only [slots, List.map_nil, List.map_cons, Nat.reduceAdd]
  (repeat' (first | refine sw ?_ | (refine swt ?_; intro x τ hx) | (refine sp ?_ ?_ <;> (intro h; (first | (have h2 : (_ : Bool) = _ := h; clear h2; subst h) | skip); (try simp only [decide_eq_true_eq, decide_eq_false_iff_not, Bool.not_eq_true', Bool.not_eq_false', Kv.eta, Bnd.eta, Rng.eta, tn_sub1] at h); (first | (have h2 : (_ : Bool) = _ := h; clear h2; subst h) | skip))) | fail))
  all_goals (first | refine wk_pure rfl (by first | exact trivial | exact resT_cell rfl rfl (by exact inferInstance) trivial) rfl (by first | exact Vw.fmp rfl rfl rfl | exact Vw.nil | exact Vw.d _ | (repeat (first | exact Vws.nil | apply Vws.cons | exact Vw.nil | exact Vw.d _ | apply Vw.a | apply Vw.t | exact Vw.fh rfl rfl (vws_dm _) | exact Vw.fh rfl rfl Vws.nil)); done) ?_ | refine wk_pure_n rfl (by first | exact trivial | exact resT_cell rfl rfl (by exact inferInstance) trivial) rfl (by first | exact Vw.fmp rfl rfl rfl | exact Vw.nil | exact Vw.d _ | (repeat (first | exact Vws.nil | apply Vws.cons | exact Vw.nil | exact Vw.d _ | apply Vw.a | apply Vw.t | exact Vw.fh rfl rfl (vws_dm _) | exact Vw.fh rfl rfl Vws.nil)); done) ?_)
  all_goals simp_all [vb, ba_nil]⟩
instance valid_cp (ak bk : ByteArray) (ax bx : Bool) : Ct Tryd.prog 54 [.a [vS ak, vB ax, vS bk, vB bx]] True (vB (vld ⟨⟨ak, ax⟩, ⟨bk, bx⟩⟩)) := ⟨fun _ => by
  refine Spec.intro Tryd.func54 rfl rfl Tryd.ntmps54 Tryd.results54 rfl fun B w0 ρ0 => ?_; simp only [slots, List.map_nil, List.map_cons, Nat.reduceAdd]
  (repeat' (first | refine sw ?_ | (refine swt ?_; intro x τ hx) | (refine sp ?_ ?_ <;> (intro h; (first | (have h2 : (_ : Bool) = _ := h; clear h2; subst h) | skip); (try simp only [decide_eq_true_eq, decide_eq_false_iff_not, Bool.not_eq_true', Bool.not_eq_false', Kv.eta, Bnd.eta, Rng.eta, tn_sub1] at h); (first | (have h2 : (_ : Bool) = _ := h; clear h2; subst h) | skip))) | fail))
  all_goals (first | refine wk_pure rfl (by first | exact trivial | exact resT_cell rfl rfl (by exact inferInstance) trivial) rfl (by first | exact Vw.fmp rfl rfl rfl | exact Vw.nil | exact Vw.d _ | (repeat (first | exact Vws.nil | apply Vws.cons | exact Vw.nil | exact Vw.d _ | apply Vw.a | apply Vw.t | exact Vw.fh rfl rfl (vws_dm _) | exact Vw.fh rfl rfl Vws.nil)); done) ?_ | refine wk_pure_n rfl (by first | exact trivial | exact resT_cell rfl rfl (by exact inferInstance) trivial) rfl (by first | exact Vw.fmp rfl rfl rfl | exact Vw.nil | exact Vw.d _ | (repeat (first | exact Vws.nil | apply Vws.cons | exact Vw.nil | exact Vw.d _ | apply Vw.a | apply Vw.t | exact Vw.fh rfl rfl (vws_dm _) | exact Vw.fh rfl rfl Vws.nil)); done) ?_)
  all_goals simp_all [vld]⟩
end Go.Proofs.YtlbnhhfaedhgfaaDoor
namespace Go.Proofs.YtlbnhhfaedhgfaaDoor
set_option linter.unusedSimpArgs false
set_option linter.unusedVariables false
open Go.RowKit
attribute [local irreducible] tpb
def rep : Nat → ByteArray → ByteArray
  | 0, _ => ⟨#[]⟩
  | n + 1, s => rep n s ++ s
attribute [local irreducible] WK WC WL Wk Rel OpD OpV WD WO Op.bytesLess cmp vk vb vld emp contains
end Go.Proofs.YtlbnhhfaedhgfaaDoor
namespace Go.Proofs.YtlbnhhfaedhgfaaDoor
set_option linter.unusedSimpArgs false
set_option linter.unusedVariables false
open Go.RowKit
attribute [local simp] Sem.run_bind Sem.run_pure Result.andThen_ok
theorem eqt_if {P : Program} {w : World} {c : Bool} {b : Sem Bool} : (if c = false then (pure false : Sem Bool) else b).run P w = if c = false then .ok false w else b.run P w := by split <;> simp
theorem run_eqt36 {w : World} {n : Nat} (a0 b0 : ByteArray) (a1 b1 : Bool) : (Op.equalIn (n + 2) 36 (.agg #[.string a0, .bool a1]) (.agg #[.string b0, .bool b1])).run Tryd.prog w = .ok (decide (a0 = b0) && decide (a1 = b1)) w := by
  rw [show n + 2 = (n + 1) + 1 from rfl, run_equalIn_struct (P := Tryd.prog) w (n + 1) 36 _ _ (by kernel_rfl) (by kernel_rfl), show (Tryd.prog.fieldsOf 36).toList = [⟨"Key", 9, 0, false, "", "", 0⟩, ⟨"Top", 4, 1, false, "", "", 16⟩] from by kernel_rfl]
  simp [Op.eqFields, part, Result.andThen, eqt_if, ba_eqE, run_agg (T := 9) (inferInstance : Ty Tryd.prog 9 _ _), run_size (T := 9) (inferInstance : Ty Tryd.prog 9 _ _), run_equalIn_string (P := Tryd.prog) _ _ 9 _ _ (by kernel_rfl), run_agg (T := 4) (inferInstance : Ty Tryd.prog 4 _ _), run_size (T := 4) (inferInstance : Ty Tryd.prog 4 _ _), run_equalIn_bool' (P := Tryd.prog) _ _ 4 _ _ (by kernel_rfl)]
  all_goals ((repeat' split) <;> simp_all)
instance eqs36 (a0 b0 : ByteArray) (a1 b1 : Bool) : Eqs Tryd.prog 36 [.string a0, .bool a1] [.string b0, .bool b1] (decide (a0 = b0) && decide (a1 = b1)) := ⟨by kernel_rfl, fun w => run_eqt36 (n := 9998) a0 b0 a1 b1⟩
theorem run_eqt38 {w : World} {n : Nat} (a0 b0 : ByteArray) (a1 b1 : Bool) (a2 b2 : ByteArray) (a3 b3 : Bool) : (Op.equalIn (n + 3) 38 (.agg #[.string a0, .bool a1, .string a2, .bool a3]) (.agg #[.string b0, .bool b1, .string b2, .bool b3])).run Tryd.prog w = .ok (decide (a0 = b0) && decide (a1 = b1) && decide (a2 = b2) && decide (a3 = b3)) w := by
  rw [show n + 3 = (n + 2) + 1 from rfl, run_equalIn_struct (P := Tryd.prog) w (n + 2) 38 _ _ (by kernel_rfl) (by kernel_rfl), show (Tryd.prog.fieldsOf 38).toList = [⟨"Lo", 36, 0, false, "", "", 0⟩, ⟨"Hi", 36, 2, false, "", "", 24⟩] from by kernel_rfl]
  simp [Op.eqFields, part, Result.andThen, eqt_if, ba_eqE, run_agg (T := 36) (inferInstance : Ty Tryd.prog 36 _ _), run_size (T := 36) (inferInstance : Ty Tryd.prog 36 _ _), run_eqt36]
  all_goals ((repeat' split) <;> simp_all)
instance eqs38 (a0 b0 : ByteArray) (a1 b1 : Bool) (a2 b2 : ByteArray) (a3 b3 : Bool) : Eqs Tryd.prog 38 [.string a0, .bool a1, .string a2, .bool a3] [.string b0, .bool b1, .string b2, .bool b3] (decide (a0 = b0) && decide (a1 = b1) && decide (a2 = b2) && decide (a3 = b3)) := ⟨by kernel_rfl, fun w => run_eqt38 (n := 9997) a0 b0 a1 b1 a2 b2 a3 b3⟩
theorem run_eqt96 {w : World} {n : Nat} (a0 b0 : ByteArray) (a1 b1 : ByteArray) : (Op.equalIn (n + 2) 96 (.agg #[.string a0, .string a1]) (.agg #[.string b0, .string b1])).run Tryd.prog w = .ok (decide (a0 = b0) && decide (a1 = b1)) w := by
  rw [show n + 2 = (n + 1) + 1 from rfl, run_equalIn_struct (P := Tryd.prog) w (n + 1) 96 _ _ (by kernel_rfl) (by kernel_rfl), show (Tryd.prog.fieldsOf 96).toList = [⟨"Key", 9, 0, false, "", "", 0⟩, ⟨"Value", 9, 1, false, "", "", 16⟩] from by kernel_rfl]
  simp [Op.eqFields, part, Result.andThen, eqt_if, ba_eqE, run_agg (T := 9) (inferInstance : Ty Tryd.prog 9 _ _), run_size (T := 9) (inferInstance : Ty Tryd.prog 9 _ _), run_equalIn_string (P := Tryd.prog) _ _ 9 _ _ (by kernel_rfl)]
  all_goals ((repeat' split) <;> simp_all)
instance eqs96 (a0 b0 : ByteArray) (a1 b1 : ByteArray) : Eqs Tryd.prog 96 [.string a0, .string a1] [.string b0, .string b1] (decide (a0 = b0) && decide (a1 = b1)) := ⟨by kernel_rfl, fun w => run_eqt96 (n := 9998) a0 b0 a1 b1⟩
end Go.Proofs.YtlbnhhfaedhgfaaDoor
namespace Go.Proofs.YtlbnhhfaedhgfaaDoor
set_option linter.unusedSimpArgs false
set_option linter.unusedVariables false
open Go.RowKit
abbrev rows (l : List Kv) : D := lst Kv.ds l
def vrow (r : Kv) : Bool := vk r.key && decide (r.val.size ≤ 64)
def okAt (l : List Kv) (j : Nat) : Bool := match l[j]? with
  | none => true
  | some r => vrow r && (j == 0 || match l[j - 1]? with
    | some p => bl p.key r.key
    | none => true)
def tvalid (l : List Kv) : Bool := decide (l.length ≤ 1024) && (List.range l.length).all (okAt l)
attribute [local irreducible] WK WC WL Wk Rel OpD OpV WD WO Op.bytesLess cmp vk vb vld emp contains
end Go.Proofs.YtlbnhhfaedhgfaaDoor
namespace Go.Proofs.YtlbnhhfaedhgfaaDoor
set_option linter.unusedSimpArgs false
set_option linter.unusedVariables false
open Go.RowKit
def qchk (k : Int) (l : List Rng) (key : ByteArray) (c : Int) : Int :=
  if k < 1 ∨ 4 < k then 1 else if 64 < l.length then 3 else if l.all vld = false then 1 else if vk key = false ∨ (0 < l.length ∧ k ≠ 1) ∨ (key ≠ ⟨#[]⟩ ∧ k = 1) then 1
  else if ((k = 3 ∨ k = 4) ∧ (c < 1 ∨ 1024 < c)) ∨ (¬ (k = 3 ∨ k = 4) ∧ c ≠ 0) then 2 else 0
abbrev vQ (k : Int) (l : List Rng) (key : ByteArray) (c : Int) : V := .a [vI k, .d (lst Rng.ds l), vS key, vI c]
attribute [local irreducible] WK WC WL Wk Rel OpD OpV WD WO Op.bytesLess cmp vk vb vld emp contains
instance counted_p (k : Int) : Ct Tryd.prog 56 [vI k] True (vB (decide (k = 3) || decide (k = 4))) := ⟨fun _ => by
  refine Spec.intro Tryd.func56 rfl rfl Tryd.ntmps56 Tryd.results56 rfl fun B w0 ρ0 => ?_; simp only [slots, List.map_nil, List.map_cons, Nat.reduceAdd]
  (repeat' (first | refine sw ?_ | (refine swt ?_; intro x τ hx) | (refine sp ?_ ?_ <;> (intro h; (first | (have h2 : (_ : Bool) = _ := h; clear h2; subst h) | skip); (try simp only [decide_eq_true_eq, decide_eq_false_iff_not, Bool.not_eq_true', Bool.not_eq_false', Kv.eta, Bnd.eta, Rng.eta, tn_sub1] at h); (first | (have h2 : (_ : Bool) = _ := h; clear h2; subst h) | skip))) | fail))
  all_goals (first | refine wk_pure rfl (by first | exact trivial | exact resT_cell rfl rfl (by exact inferInstance) trivial) rfl (by first | exact Vw.fmp rfl rfl rfl | exact Vw.nil | exact Vw.d _ | (repeat (first | exact Vws.nil | apply Vws.cons | exact Vw.nil | exact Vw.d _ | apply Vw.a | apply Vw.t | exact Vw.fh rfl rfl (vws_dm _) | exact Vw.fh rfl rfl Vws.nil)); done) ?_ | refine wk_pure_n rfl (by first | exact trivial | exact resT_cell rfl rfl (by exact inferInstance) trivial) rfl (by first | exact Vw.fmp rfl rfl rfl | exact Vw.nil | exact Vw.d _ | (repeat (first | exact Vws.nil | apply Vws.cons | exact Vw.nil | exact Vw.d _ | apply Vw.a | apply Vw.t | exact Vw.fh rfl rfl (vws_dm _) | exact Vw.fh rfl rfl Vws.nil)); done) ?_)
  all_goals (refine ⟨?_, rfl⟩; simp_all)⟩
end Go.Proofs.YtlbnhhfaedhgfaaDoor
namespace Go.Proofs.YtlbnhhfaedhgfaaDoor
set_option linter.unusedSimpArgs false
set_option linter.unusedVariables false
open Go.RowKit
attribute [local irreducible] tpb
theorem vld_of_emp {r : Rng} (h : emp r = false) : vld r = true := by
  simp only [emp, Bool.or_eq_false_iff, Bool.not_eq_false'] at h; exact h.1
abbrev qmade (k : Int) (l : List Rng) (key : ByteArray) (c : Int) : Prop := qchk k l key c = 0 ∧ l.length ≤ 4 ∧ 0 ≤ c ∧ c ≤ 1024 ∧ key.size ≤ 64
theorem qmade_1 {l : List Rng} (h : ∀ r ∈ l, emp r = false) (hl : l.length ≤ 4) : qmade 1 l ⟨#[]⟩ 0 := by
  refine ⟨?_, hl, by omega, by omega, by decide⟩
  have h1 : l.all vld = true := List.all_eq_true.2 fun r hr => vld_of_emp (h r hr)
  have h2 : vk ⟨#[]⟩ = true := by kernel_rfl
  have h3 : ¬ 64 < l.length := by omega
  simp [qchk, h1, h2, h3]
theorem qmade_2 {key : ByteArray} (h : key.size ≤ 64) : qmade 2 [] key 0 := by
  have h2 : vk key = true := by simpa [vk] using h
  exact ⟨by simp [qchk, h2], by simp, by omega, by omega, h⟩
theorem qmade_3 {k c : Int} {key : ByteArray} (hk : k = 3 ∨ k = 4) (h : key.size ≤ 64) (hc : c ∈ [(1 : Int), 2, 3, 5, 1024]) : qmade k [] key c := by
  have h2 : vk key = true := by simpa [vk] using h
  simp only [List.mem_cons, List.not_mem_nil, or_false] at hc
  refine ⟨?_, by simp, by omega, by omega, h⟩
  rcases hk with rfl | rfl <;> rcases hc with rfl | rfl | rfl | rfl | rfl <;> simp [qchk, h2]
attribute [local irreducible] WK WC WL Wk Rel OpD OpV WD WO Op.bytesLess cmp vk vb vld emp contains
structure Qa where
  k : Int
  l : List Rng
  key : ByteArray
  c : Int
section
variable {Γ : Cx} {k : Kont} {sl : List (Nat × V)} {hp : Hp} {o : Oper} {ops : Array Oper} {d kt : Nat} {uc : List V} {x : Operand} {xs : Array Operand} {ats : Array TypeId} {rest : List Oper}
end
end Go.Proofs.YtlbnhhfaedhgfaaDoor
namespace Go.Proofs.YtlbnhhfaedhgfaaDoor
set_option linter.unusedSimpArgs false
set_option linter.unusedVariables false
open Go.RowKit
attribute [local irreducible] WK WC WL Wk Rel OpD OpV WD WO Op.bytesLess cmp vk vb vld emp contains
section
variable {Γ : Cx} {k : Kont} {sl : List (Nat × V)} {hp : Hp} {o : Oper} {ops : Array Oper} {d : Nat} {x : Operand} {xs : Array Operand} {ats : Array TypeId} {rest : List Oper} {l : List Int}
end
end Go.Proofs.YtlbnhhfaedhgfaaDoor
namespace Go.Proofs.YtlbnhhfaedhgfaaDoor
set_option linter.unusedSimpArgs false
set_option linter.unusedVariables false
open Go.RowKit

def Rng.vals (r : Rng) : List Value := [.string r.lo.key, .bool r.lo.top, .string r.hi.key, .bool r.hi.top]
def rvals (l : List Rng) : List Value := l.flatMap Rng.vals
theorem rvals_cons (r : Rng) (l : List Rng) : rvals (r :: l) = r.vals ++ rvals l := rfl
theorem rvals_append (a b : List Rng) : rvals (a ++ b) = rvals a ++ rvals b := by simp [rvals]
theorem rvals_length : ∀ l : List Rng, (rvals l).length = 4 * l.length
  | [] => rfl
  | r :: l => by rw [rvals_cons, List.length_append, rvals_length l]; simp [Rng.vals]; omega
theorem rvals_get : ∀ (l : List Rng) (k : Nat) (r : Rng), l[k]? = some r → ∀ j u, r.vals[j]? = some u → (rvals l)[k * 4 + j]? = some u
  | [], k, r, h => by simp at h
  | r0 :: l, 0, r, h => by
    intro j u hj
    obtain rfl : r0 = r := by simpa using h
    have : j < 4 := by have := (List.getElem?_eq_some_iff.1 hj).1; simpa [Rng.vals] using this
    rw [rvals_cons, Nat.zero_mul, Nat.zero_add, List.getElem?_append_left (by simp [Rng.vals]; omega)]; exact hj
  | r0 :: l, k + 1, r, h => by
    intro j u hj
    have := rvals_get l k r (by simpa using h) j u hj
    rw [rvals_cons, List.getElem?_append_right (by simp [Rng.vals]; omega)]
    rw [show (k + 1) * 4 + j - (Rng.vals r0).length = k * 4 + j by simp [Rng.vals]; omega]
    exact this

structure RS (w : World) (v : Value) (l : List Rng) : Prop where
  ex : ∃ (p : Option Addr) (c : Nat), v = .slice p l.length c ∧ l.length ≤ c ∧ l.length ≤ 1000000 ∧
    (l ≠ [] → ∃ b o : Nat, p = some ⟨b, o, none⟩ ∧ b < w.heap.size ∧ ∀ j u, (rvals l)[j]? = some u → w.cell? ⟨b, o + j, none⟩ = some u)
theorem RS.kp {w w' : World} {v : Value} {l : List Rng} {X : List Nat} (h : RS w v l) (hk : Kp X w w') (hx : ∀ p n c, v = .slice (some p) n c → p.block ∉ X) : RS w' v l := by
  obtain ⟨p, c, rfl, h1, h2, h3⟩ := h.ex
  refine ⟨p, c, rfl, h1, h2, fun hn => ?_⟩
  obtain ⟨b, o, rfl, hb, hc⟩ := h3 hn
  exact ⟨b, o, rfl, Nat.lt_of_lt_of_le hb hk.size, fun j u hj => by rw [hk.cell (p := ⟨b, o + j, none⟩) hb (hx ⟨b, o, none⟩ _ _ rfl)]; exact hc j u hj⟩
theorem RS.kp0 {w w' : World} {v : Value} {l : List Rng} (h : RS w v l) (hk : Kp [] w w') : RS w' v l := h.kp hk fun _ _ _ _ => by simp

theorem RS.at {w : World} {p : Option Addr} {n c : Nat} {l : List Rng} (h : RS w (.slice p n c) l) {k : Nat} {r : Rng} (hk : l[k]? = some r) :
    ∃ b o : Nat, p = some ⟨b, o, none⟩ ∧ b < w.heap.size ∧ w.cell? ⟨b, o + k * 4, none⟩ = some (.string r.lo.key) ∧ w.cell? ⟨b, o + k * 4 + 1, none⟩ = some (.bool r.lo.top) ∧
      w.cell? ⟨b, o + k * 4 + 2, none⟩ = some (.string r.hi.key) ∧ w.cell? ⟨b, o + k * 4 + 3, none⟩ = some (.bool r.hi.top) := by
  obtain ⟨p', c', e, h1, h2, h3⟩ := h.ex
  simp only [Value.slice.injEq] at e
  obtain ⟨rfl, rfl, rfl⟩ := e
  obtain ⟨b, o, rfl, hb, hc⟩ := h3 (by intro e; subst e; simp at hk)
  have g := rvals_get l k r hk
  exact ⟨b, o, rfl, hb, hc _ _ (g 0 _ rfl), by have := hc _ _ (g 1 _ rfl); rwa [← Nat.add_assoc] at this, by have := hc _ _ (g 2 _ rfl); rwa [← Nat.add_assoc] at this, by have := hc _ _ (g 3 _ rfl); rwa [← Nat.add_assoc] at this⟩

end Go.Proofs.YtlbnhhfaedhgfaaDoor
namespace Go.Proofs.YtlbnhhfaedhgfaaDoor
set_option linter.unusedSimpArgs false
set_option linter.unusedVariables false
open Go.RowKit

theorem Rd.at {w0 : World} {p : Option Addr} {n c k : Nat} {l : List Rng} {r : Rng} (h : Rd w0 4 (.slice p n c) n (rvals l)) (hk : l[k]? = some r) :
    ∃ b o : Nat, p = some ⟨b, o, none⟩ ∧ b < w0.heap.size ∧ ∀ j u, r.vals[j]? = some u → w0.cell? ⟨b, o + k * 4 + j, none⟩ = some u := by
  obtain ⟨p', c', e, h1, h2⟩ := h.ex
  simp only [Value.slice.injEq] at e
  obtain ⟨rfl, -, rfl⟩ := e
  have hl := h.len
  rw [rvals_length] at hl
  have hkl := (List.getElem?_eq_some_iff.1 hk).1
  rcases h2 with rfl | ⟨b, o, rfl, hb, hc⟩
  · omega
  · exact ⟨b, o, rfl, hb, fun j u hj => by rw [Nat.add_assoc]; exact hc _ _ (rvals_get l k r hk j u hj)⟩
theorem Rw.at {w0 w : World} {X : Fr} {R : List Win} {S : List OB} {p : Option Addr} {n c k : Nat} {l : List Rng} {r : Rng} (h : Rw w0 X 4 (.slice p n c) n (rvals l)) (hk : l[k]? = some r) (hR : Rep w0 X R S w) :
    ∃ b o : Nat, p = some ⟨b, o, none⟩ ∧ Rep w0 X (⟨b, o + k * 4, [.string r.lo.key, .bool r.lo.top, .string r.hi.key, .bool r.hi.top]⟩ :: R) S w := by
  obtain ⟨p', c', e, h1, h2⟩ := h.ex
  simp only [Value.slice.injEq] at e
  obtain ⟨rfl, -, rfl⟩ := e
  have hl := h.len
  rw [rvals_length] at hl
  have hkl := (List.getElem?_eq_some_iff.1 hk).1
  rcases h2 with rfl | ⟨b, o, rfl, hb, hx, hc⟩
  · omega
  · exact ⟨b, o, rfl, hR.addwin b (o + k * 4) r.vals hb hx fun j u hj => by rw [Nat.add_assoc]; exact hc _ _ (rvals_get l k r hk j u hj)⟩
theorem Rw.length {w0 : World} {X : Fr} {v : Value} {n : Nat} {l : List Rng} (h : Rw w0 X 4 v n (rvals l)) : l.length = n := by have := h.len; rw [rvals_length] at this; omega
end Go.Proofs.YtlbnhhfaedhgfaaDoor
