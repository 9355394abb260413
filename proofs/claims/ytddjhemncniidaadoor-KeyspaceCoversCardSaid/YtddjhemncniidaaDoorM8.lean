/-
  Plain words: the union of ranges: sorted, then merged; lists of ranges with gaps between them are told by their points.
-/
import Derived.Test.YtddjhemncniidaaDoorM6
import Derived.Test.YtddjhemncniidaaDoorM7
namespace Go.Proofs.YtddjhemncniidaaDoor
set_option linter.unusedSimpArgs false
set_option linter.unusedVariables false
open Go.RowKit

def mrg : Rng → List Rng → List Rng
  | c, [] => [c]
  | c, r :: l => if cmp r.lo c.hi ≤ 0 then mrg ⟨c.lo, greater c.hi r.hi⟩ l else c :: mrg r l
def mrgAll : List Rng → List Rng
  | [] => []
  | r :: l => mrg r l
def ne (r : Rng) : Bool := !emp r
def leLo (x y : Rng) : Bool := !(y.lo.lt x.lo)
def union (l : List Rng) : List Rng := mrgAll ((l.filter ne).mergeSort leLo)

structure Nrm (l : List Rng) : Prop where
  ne : ∀ r ∈ l, emp r = false
  gap : l.Pairwise fun x y => x.hi.lt y.lo = true
def Pt (l : List Rng) (b : Bnd) : Prop := ∃ r ∈ l, b.lt r.lo = false ∧ b.lt r.hi = true
abbrev Srt (l : List Rng) : Prop := l.Pairwise fun x y => y.lo.lt x.lo = false

theorem pt_cons {x : Rng} {l : List Rng} {b : Bnd} : Pt (x :: l) b ↔ (b.lt x.lo = false ∧ b.lt x.hi = true) ∨ Pt l b := by simp [Pt]
theorem pt_nil {b : Bnd} : ¬ Pt [] b := by simp [Pt]
theorem pt_perm {l m : List Rng} (h : l.Perm m) {b : Bnd} : Pt l b ↔ Pt m b := by simp only [Pt, h.mem_iff]
theorem Nrm.tail {x : Rng} {l : List Rng} (h : Nrm (x :: l)) : Nrm l := ⟨fun r hr => h.ne r (List.mem_cons_of_mem _ hr), (List.pairwise_cons.1 h.gap).2⟩
theorem Nrm.far {x : Rng} {l : List Rng} (h : Nrm (x :: l)) {b : Bnd} (hb : vb b = true) (hp : Pt l b) : x.hi.lt b = true ∧ x.lo.lt b = true := by
  obtain ⟨r, hr, h1, h2⟩ := hp
  have g := (List.pairwise_cons.1 h.gap).1 r hr
  have a := (emp_iff x).1 (h.ne x List.mem_cons_self)
  have c := (emp_iff r).1 (h.ne r (List.mem_cons_of_mem _ hr))
  have k := lt_le c.1 hb g h1
  exact ⟨k, lt_trans a.2.2 k⟩
theorem nrm_ext : ∀ {l m : List Rng}, Nrm l → Nrm m → (∀ b, vb b = true → (Pt l b ↔ Pt m b)) → l = m
  | [], [], _, _, _ => rfl
  | [], y :: m, _, hm, h => by
    have c := (emp_iff y).1 (hm.ne y List.mem_cons_self)
    exact absurd ((h y.lo c.1).2 (pt_cons.2 (.inl ⟨lt_irrefl _, c.2.2⟩))) pt_nil
  | x :: l, [], hl, _, h => by
    have c := (emp_iff x).1 (hl.ne x List.mem_cons_self)
    exact absurd ((h x.lo c.1).1 (pt_cons.2 (.inl ⟨lt_irrefl _, c.2.2⟩))) pt_nil
  | x :: l, y :: m, hl, hm, h => by
    have a := (emp_iff x).1 (hl.ne x List.mem_cons_self)
    have c := (emp_iff y).1 (hm.ne y List.mem_cons_self)
    have hlo : x.lo = y.lo := by
      refine lt_total a.1 c.1 ?_ ?_
      · rcases pt_cons.1 ((h x.lo a.1).1 (pt_cons.2 (.inl ⟨lt_irrefl _, a.2.2⟩))) with h1 | h1
        · exact h1.1
        · exact lt_asymm (hm.far a.1 h1).2
      · rcases pt_cons.1 ((h y.lo c.1).2 (pt_cons.2 (.inl ⟨lt_irrefl _, c.2.2⟩))) with h1 | h1
        · exact h1.1
        · exact lt_asymm (hl.far c.1 h1).2
    have hhi : x.hi = y.hi := by
      refine lt_total a.2.1 c.2.1 ?_ ?_
      · cases hh : x.hi.lt y.hi
        · rfl
        · rcases pt_cons.1 ((h x.hi a.2.1).2 (pt_cons.2 (.inl ⟨by rw [← hlo]; exact lt_asymm a.2.2, hh⟩))) with h1 | h1
          · rw [lt_irrefl] at h1; exact absurd h1.2 (by simp)
          · have := (hl.far a.2.1 h1).1; rw [lt_irrefl] at this; exact this.symm
      · cases hh : y.hi.lt x.hi
        · rfl
        · rcases pt_cons.1 ((h y.hi c.2.1).1 (pt_cons.2 (.inl ⟨by rw [hlo]; exact lt_asymm c.2.2, hh⟩))) with h1 | h1
          · rw [lt_irrefl] at h1; exact absurd h1.2 (by simp)
          · have := (hm.far c.2.1 h1).1; rw [lt_irrefl] at this; exact this.symm
    obtain rfl : x = y := by cases x; cases y; simp only at hlo hhi; rw [hlo, hhi]
    congr 1
    refine nrm_ext hl.tail hm.tail fun b hb => ⟨fun hp => ?_, fun hp => ?_⟩
    · have f := (hl.far hb hp).1
      rcases pt_cons.1 ((h b hb).1 (pt_cons.2 (.inr hp))) with h1 | h1
      · rw [lt_asymm f] at h1; exact absurd h1.2 (by simp)
      · exact h1
    · have f := (hm.far hb hp).1
      rcases pt_cons.1 ((h b hb).2 (pt_cons.2 (.inr hp))) with h1 | h1
      · rw [lt_asymm f] at h1; exact absurd h1.2 (by simp)
      · exact h1

theorem mrg_lo : ∀ (l : List Rng) (c : Rng), (∀ r ∈ l, r.lo.lt c.lo = false) → Srt l → ∀ r ∈ mrg c l, r.lo.lt c.lo = false
  | [], c, _, _, r, hr => by simp [mrg] at hr; subst hr; exact lt_irrefl _
  | x :: l, c, hc, hs, r, hr => by
    have hs' := List.pairwise_cons.1 hs
    unfold mrg at hr
    split at hr
    · exact mrg_lo l ⟨c.lo, greater c.hi x.hi⟩ (fun r hr => hc r (List.mem_cons_of_mem _ hr)) hs'.2 r hr
    · rcases List.mem_cons.1 hr with rfl | hr
      · exact lt_irrefl _
      · have h1 := mrg_lo l x hs'.1 hs'.2 r hr
        have h2 := hc x List.mem_cons_self
        cases h3 : r.lo.lt c.lo
        · rfl
        · rename_i h4
          exfalso
          have h5 : c.hi.lt x.lo = true := (cmp_pos _ _).1 (by omega)
          simp only [Bnd.lt, Bool.and_eq_true, Bool.or_eq_true, Bool.not_eq_true', Bool.and_eq_false_iff, Bool.not_eq_false', Bool.or_eq_false_iff] at *
          grind [bytesLess_trans, bytesLess_total, bytesLess_asymm]
theorem mrg_nrm : ∀ (l : List Rng) (c : Rng), emp c = false → (∀ r ∈ l, emp r = false) → (∀ r ∈ l, r.lo.lt c.lo = false) → Srt l → Nrm (mrg c l) ∧ ∀ b, vb b = true → (Pt (mrg c l) b ↔ Pt (c :: l) b)
  | [], c, h, _, _, _ => ⟨⟨by simp [mrg, h], by simp [mrg]⟩, fun b _ => Iff.rfl⟩
  | x :: l, c, h, hn, hc, hs => by
    have hs' := List.pairwise_cons.1 hs
    have a := (emp_iff c).1 h
    have hx := (emp_iff x).1 (hn x List.mem_cons_self)
    have hlo := hc x List.mem_cons_self
    unfold mrg
    split
    · rename_i h1
      have h1' : c.hi.lt x.lo = false := by
        cases h2 : c.hi.lt x.lo
        · rfl
        · have := (cmp_pos x.lo c.hi).2 h2; omega
      have hg := greater_vb a.2.1 hx.2.1
      have hcg : emp ⟨c.lo, greater c.hi x.hi⟩ = false := by
        refine (emp_iff _).2 ⟨a.1, hg, ?_⟩
        simp only [greater_if]; split
        · rename_i h2; exact lt_trans a.2.2 h2
        · exact a.2.2
      obtain ⟨g1, g2⟩ := mrg_nrm l ⟨c.lo, greater c.hi x.hi⟩ hcg (fun r hr => hn r (List.mem_cons_of_mem _ hr)) (fun r hr => hc r (List.mem_cons_of_mem _ hr)) hs'.2
      refine ⟨g1, fun b hb => (g2 b hb).trans ?_⟩
      simp only [pt_cons]
      rw [← or_assoc]
      refine or_congr ?_ Iff.rfl
      have e1 := a.1; have e2 := a.2.1; have e3 := a.2.2; have e4 := hx.1; have e5 := hx.2.1; have e6 := hx.2.2
      simp only [greater_if]
      constructor
      · rintro ⟨k1, k2⟩
        split at k2
        · cases hbc : b.lt c.hi
          · right; refine ⟨?_, k2⟩
            cases hq : b.lt x.lo
            · rfl
            · exfalso; have := le_lt hb e2 hbc hq; rw [this] at h1'; cases h1'
          · left; exact ⟨k1, rfl⟩
        · left; exact ⟨k1, k2⟩
      · rintro (⟨k1, k2⟩ | ⟨k1, k2⟩)
        · refine ⟨k1, ?_⟩
          split
          · rename_i h2; exact lt_trans k2 h2
          · exact k2
        · refine ⟨?_, ?_⟩
          · cases hq : b.lt c.lo
            · rfl
            · exfalso; have := lt_le e1 e4 hq hlo; rw [this] at k1; cases k1
          · split
            · exact k2
            · rename_i h2; exact lt_le e5 e2 k2 (by simpa using h2)
    · rename_i h1
      have h1' : c.hi.lt x.lo = true := (cmp_pos _ _).1 (by omega)
      obtain ⟨g1, g2⟩ := mrg_nrm l x (hn x List.mem_cons_self) (fun r hr => hn r (List.mem_cons_of_mem _ hr)) hs'.1 hs'.2
      refine ⟨⟨fun r hr => ?_, List.pairwise_cons.2 ⟨fun r hr => ?_, g1.gap⟩⟩, fun b hb => ?_⟩
      · rcases List.mem_cons.1 hr with rfl | hr
        · exact h
        · exact g1.ne r hr
      · exact lt_le hx.1 ((emp_iff r).1 (g1.ne r hr)).1 h1' (mrg_lo l x hs'.1 hs'.2 r hr)
      · rw [pt_cons, pt_cons, g2 b hb]
theorem mrgAll_nrm {l : List Rng} (hn : ∀ r ∈ l, emp r = false) (hs : Srt l) : Nrm (mrgAll l) ∧ ∀ b, vb b = true → (Pt (mrgAll l) b ↔ Pt l b) := by
  cases l with
  | nil => exact ⟨⟨by simp [mrgAll], by simp [mrgAll]⟩, fun _ _ => Iff.rfl⟩
  | cons x l =>
    have hs' := List.pairwise_cons.1 hs
    exact mrg_nrm l x (hn x List.mem_cons_self) (fun r hr => hn r (List.mem_cons_of_mem _ hr)) hs'.1 hs'.2
theorem mem_ne {l : List Rng} {r : Rng} (h : r ∈ l.filter ne) : emp r = false := by simpa [ne] using (List.mem_filter.1 h).2
theorem leLo_total (l : List Rng) (a b : Rng) : (leLo a b || leLo b a) = true := by
  simp only [leLo, Bool.or_eq_true, Bool.not_eq_true']
  cases h : b.lo.lt a.lo
  · exact .inl rfl
  · exact .inr (lt_asymm h)
theorem leLo_trans (a b c : Rng) (h : leLo a b = true) (k : leLo b c = true) : leLo a c = true := by
  simp only [leLo, Bool.not_eq_true'] at *
  simp only [Bnd.lt, Bool.and_eq_false_iff, Bool.not_eq_false', Bool.or_eq_false_iff] at *
  grind [bytesLess_trans, bytesLess_total, bytesLess_asymm]
/-- Whatever sorts, the union is one. -/
theorem union_of_sorted {l s : List Rng} (hp : s.Perm (l.filter ne)) (hs : Srt s) : mrgAll s = union l := by
  have hn : ∀ r ∈ s, emp r = false := fun r hr => mem_ne (hp.mem_iff.1 hr)
  have hp2 : ((l.filter ne).mergeSort leLo).Perm (l.filter ne) := List.mergeSort_perm _ _
  have hs2 : Srt ((l.filter ne).mergeSort leLo) := by
    have := List.pairwise_mergeSort (le := leLo) leLo_trans (leLo_total l) (l.filter ne)
    exact this.imp fun h => by simpa [leLo] using h
  have g1 := mrgAll_nrm hn hs
  have g2 := mrgAll_nrm (fun r hr => mem_ne (hp2.mem_iff.1 hr)) hs2
  exact nrm_ext g1.1 g2.1 fun b hb => (g1.2 b hb).trans ((pt_perm (hp.trans hp2.symm)).trans (g2.2 b hb).symm)
theorem union_nrm (l : List Rng) : Nrm (union l) ∧ ∀ b, vb b = true → (Pt (union l) b ↔ Pt (l.filter ne) b) := by
  have hp2 : ((l.filter ne).mergeSort leLo).Perm (l.filter ne) := List.mergeSort_perm _ _
  have hs2 : Srt ((l.filter ne).mergeSort leLo) := by
    have := List.pairwise_mergeSort (le := leLo) leLo_trans (leLo_total l) (l.filter ne)
    exact this.imp fun h => by simpa [leLo] using h
  have g2 := mrgAll_nrm (fun r hr => mem_ne (hp2.mem_iff.1 hr)) hs2
  exact ⟨g2.1, fun b hb => (g2.2 b hb).trans (pt_perm hp2)⟩
theorem filter_ne {l : List Rng} (h : ∀ r ∈ l, emp r = false) : l.filter ne = l := List.filter_eq_self.2 fun r hr => by simp [ne, h r hr]
/-- What has the points of a list with gaps is that list. -/
theorem union_eq {l m : List Rng} (hm : Nrm m) (h : ∀ b, vb b = true → (Pt (l.filter ne) b ↔ Pt m b)) : union l = m :=
  nrm_ext (union_nrm l).1 hm fun b hb => ((union_nrm l).2 b hb).trans (h b hb)
theorem union_union (l : List Rng) : union (union l) = union l := union_eq (union_nrm l).1 fun b _ => by rw [filter_ne (union_nrm l).1.ne]
theorem union_perm {l m : List Rng} (h : l.Perm m) : union l = union m :=
  union_eq (union_nrm m).1 fun b hb => (pt_perm (h.filter _)).trans ((union_nrm m).2 b hb).symm
theorem nrm_one {r : Rng} (h : emp r = false) : Nrm [r] := ⟨by simp [h], by simp⟩
theorem cut_pts {hi : Bnd} (hh : vb hi = true) : ∀ {lo : Bnd} {l : List Rng}, Cut hi lo l → vb lo = true → lo.lt hi = true → (∀ r ∈ l, emp r = false) ∧ ∀ b, vb b = true → (Pt l b ↔ b.lt lo = false ∧ b.lt hi = true) := by
  intro lo l h
  induction h with
  | last => intro hl hlt; exact ⟨by simp [emp_iff, hl, hh, hlt], fun b hb => by simp [Pt]⟩
  | cons h1 h2 h3 hcut ih =>
    rename_i lo x l
    intro hl hlt
    obtain ⟨g1, g2⟩ := ih h3 h2
    refine ⟨fun r hr => ?_, fun b hb => ?_⟩
    · rcases List.mem_cons.1 hr with rfl | hr
      · exact (emp_iff _).2 ⟨hl, h3, h1⟩
      · exact g1 r hr
    · rw [pt_cons, g2 b hb]
      simp only
      constructor
      · rintro (⟨k1, k2⟩ | ⟨k1, k2⟩)
        · exact ⟨k1, lt_trans k2 h2⟩
        · refine ⟨?_, k2⟩
          cases hq : b.lt lo
          · rfl
          · have := lt_trans hq h1; rw [this] at k1; cases k1
      · rintro ⟨k1, k2⟩
        cases hq : b.lt x
        · exact .inr ⟨rfl, k2⟩
        · exact .inl ⟨k1, rfl⟩
theorem union_cut {lo hi : Bnd} {l : List Rng} (h : Cut hi lo l) (he : emp ⟨lo, hi⟩ = false) : union l = [⟨lo, hi⟩] := by
  have a := (emp_iff _).1 he
  obtain ⟨g1, g2⟩ := cut_pts a.2.1 h a.1 a.2.2
  exact union_eq (nrm_one he) fun b hb => by rw [filter_ne g1, g2 b hb]; simp [Pt]
theorem union_two {lo x hi : Bnd} (hl : vb lo = true) (hx : vb x = true) (hh : vb hi = true) (h1 : lo.lt x = true) (h2 : x.lt hi = true) : union [⟨x, hi⟩, ⟨lo, x⟩] = [⟨lo, hi⟩] := by
  rw [union_perm (List.Perm.swap _ _ [])]
  exact union_cut (.cons h1 h2 hx .last) ((emp_iff _).2 ⟨hl, hh, lt_trans h1 h2⟩)

/-- How many of the ranges of a union contain a key. -/
theorem contains_pt {r : Rng} (h : emp r = false) (k : ByteArray) : contains r k = true ↔ vk k = true ∧ Bnd.lt ⟨k, false⟩ r.lo = false ∧ Bnd.lt ⟨k, false⟩ r.hi = true := by
  rw [contains_ne h]; simp [and_assoc]
theorem any_pt {l : List Rng} {k : ByteArray} (hk : vk k = true) : l.any (contains · k) = true ↔ Pt (l.filter ne) ⟨k, false⟩ := by
  simp only [List.any_eq_true, Pt]
  constructor
  · rintro ⟨r, hr, h⟩
    cases he : emp r
    · exact ⟨r, List.mem_filter.2 ⟨hr, by simp [ne, he]⟩, ((contains_pt he k).1 h).2⟩
    · rw [contains_emp he] at h; cases h
  · rintro ⟨r, hr, h⟩
    exact ⟨r, (List.mem_filter.1 hr).1, (contains_pt (mem_ne hr) k).2 ⟨hk, h⟩⟩
theorem nrm_count : ∀ {l : List Rng} (k : ByteArray), Nrm l → l.countP (contains · k) = if l.any (contains · k) then 1 else 0
  | [], k, _ => rfl
  | x :: l, k, h => by
    rw [List.countP_cons, nrm_count k h.tail, List.any_cons]
    cases hx : contains x k
    · simp
    · have hv : vk k = true := ((contains_pt (h.ne x List.mem_cons_self) k).1 hx).1
      have hn : l.any (contains · k) = false := by
        cases hn : l.any (contains · k)
        · rfl
        · have hp := (any_pt hv).1 hn
          rw [filter_ne h.tail.ne] at hp
          have := (h.far (by simp [vb, hv]) hp).1
          have h2 := ((contains_pt (h.ne x List.mem_cons_self) k).1 hx).2.2
          rw [lt_asymm this] at h2; cases h2
      simp [hn]
theorem any_none {l : List Rng} {k : ByteArray} (hk : vk k = false) : l.any (contains · k) = false := by
  rw [List.any_eq_false]; intro r _; rw [contains_lt, hk]; simp
theorem any_union (l : List Rng) (k : ByteArray) : (union l).any (contains · k) = l.any (contains · k) := by
  cases hk : vk k
  · rw [any_none hk, any_none hk]
  · have h1 := any_pt (l := union l) hk
    rw [filter_ne (union_nrm l).1.ne] at h1
    exact Bool.eq_iff_iff.2 (h1.trans (((union_nrm l).2 ⟨k, false⟩ (by simp [vb, hk])).trans (any_pt (l := l) hk).symm))
end Go.Proofs.YtddjhemncniidaaDoor
