/-
  Slices in a walk: those of the walk's own that grow ('OS'), and what is read ('Rd'); append, slices that are written out, the joining of what a callee has made.
-/
import Derived.Test.YtddjhemncniidaaDoorK2
import Derived.Laws.AppendOwn
namespace Go.Proofs.YtddjhemncniidaaDoor
set_option linter.unusedSimpArgs false
set_option linter.unusedVariables false
open Go.RowKit

/-- The value v is a slice of n elements, of z cells each, that reads as xs. -/
structure Rd (w : World) (z : Nat) (v : Value) (n : Nat) (xs : List Value) : Prop where
  len : xs.length = n * z
  ex : ∃ p c, v = .slice p n c ∧ n ≤ c ∧ (n = 0 ∨ ∃ b o : Nat, p = some ⟨b, o, none⟩ ∧ b < w.heap.size ∧ ∀ j u, xs[j]? = some u → w.cell? ⟨b, o + j, none⟩ = some u)

/-- The slice v of n elements of type E (of z cells each) is of the walk's own; sl: its block; xs: the elements' cells. -/
def OS (sl : List OB) (E : TypeId) (z : Nat) (v : Value) (n : Nat) (xs : List Value) : Prop :=
  xs.length = n * z ∧ ((sl = [] ∧ v = .slice none 0 0 ∧ n = 0) ∨ ∃ g cap sp, sl = [⟨g, E, xs ++ sp⟩] ∧ v = .slice (some ⟨g, 0, none⟩) n cap ∧ n ≤ cap ∧ cap ≤ maxLen ∧ (xs ++ sp).length = cap * z)
theorem OS.nil (E : TypeId) (z : Nat) : OS [] E z (.slice none 0 0) 0 [] := ⟨by simp, .inl ⟨rfl, rfl, rfl⟩⟩
theorem OS.lit {E : TypeId} {z : Nat} (g n : Nat) (xs : List Value) (h : xs.length = n * z) (hn : n ≤ maxLen) : OS [⟨g, E, xs⟩] E z (.slice (some ⟨g, 0, none⟩) n n) n xs :=
  ⟨h, .inr ⟨g, n, [], by simp, rfl, Nat.le_refl _, hn, by simpa using h⟩⟩

/-- A segment of the list. -/
inductive Ctx : List OB → List OB → List OB → List OB → Prop
  | here {sl post : List OB} : Ctx (sl ++ post) sl [] post
  | last {sl : List OB} : Ctx sl sl [] []
  | empty {S : List OB} : Ctx S [] [] S
  | one {e : OB} {post : List OB} : Ctx (e :: post) [e] [] post
  | there {x : OB} {S sl pre post : List OB} : Ctx S sl pre post → Ctx (x :: S) sl (x :: pre) post
  | skip {l S sl pre post : List OB} : Ctx S sl pre post → Ctx (l ++ S) sl (l ++ pre) post
theorem Ctx.eq {S sl pre post : List OB} (h : Ctx S sl pre post) : S = pre ++ (sl ++ post) := by
  induction h with
  | here => simp
  | last => simp
  | empty => simp
  | one => simp
  | there _ ih => simp [ih]
  | skip _ ih => simp [ih]
theorem At.skip {S l : List OB} {b : Nat} {T : TypeId} {c : List Value} (h : At S b T c) : At (l ++ S) b T c := by
  induction l with
  | nil => exact h
  | cons x l ih => exact .there ih
theorem To.skip {S S' l : List OB} {b : Nat} {T : TypeId} {c c' : List Value} (h : To S b T c c' S') : To (l ++ S) b T c c' (l ++ S') := by
  induction l with
  | nil => exact h
  | cons x l ih => exact .there ih
theorem At.of_mem {S : List OB} {b : Nat} {T : TypeId} {c : List Value} (h : (⟨b, T, c⟩ : OB) ∈ S) : At S b T c := by
  induction S with
  | nil => cases h
  | cons x S ih =>
    rcases List.mem_cons.1 h with rfl | h
    · exact .here
    · exact .there (ih h)
theorem sub_ctx {S sl pre post : List OB} (h : Ctx S sl pre post) : sl.Sublist S := by
  rw [h.eq]
  exact (List.sublist_append_left _ _).trans (List.sublist_append_right _ _)

/-- A slice's type: its elements', their cells, their bytes. -/
structure Sl (P : Program) (t E : TypeId) (z bytes : Nat) : Prop where
  un : P.underlying t = some (.slice E)
  el : ∃ i zv, P.info? E = some i ∧ i.zero = some zv ∧ i.size = z ∧ i.bytes = bytes ∧ zv.cells.size = z
theorem Sl.mk' {P : Program} {t E : TypeId} {z bytes : Nat} (h : P.underlying t = some (.slice E)) (h' : (P.info? E).bind (fun i => i.zero.map fun v => (v.cells.size, i.size, i.bytes)) = some (z, z, bytes)) : Sl P t E z bytes := by
  refine ⟨h, ?_⟩
  cases hi : P.info? E with
  | none => simp [hi] at h'
  | some i =>
    cases hz : i.zero with
    | none => simp [hi, hz] at h'
    | some zv => simp [hi, hz] at h'; exact ⟨i, zv, rfl, hz, h'.2.1, h'.2.2, h'.1⟩

theorem Rep.replace {w0 w w' : World} {X : Fr} {R : List Win} {S sl pre post : List OB} (h : Rep w0 X R S w) (hC : Ctx S sl pre post) {B : Nat} {T : TypeId} {c : List Value} (hK : ∀ k, k < w.heap.size → k ≠ B → w'.heap[k]? = w.heap[k]?)
    (h1 : w'.os = w.os) (h2 : w'.tape = w.tape) (h3 : w'.output = w.output) (h4 : w.heap.size ≤ w'.heap.size) (hB : w'.heap[B]? = some (.cells c.toArray T (0, 0))) (hn : (∃ e ∈ sl, e.b = B) ∨ w.heap.size ≤ B) : Rep w0 X R (pre ++ (⟨B, T, c⟩ :: post)) w' := by
  have e := hC.eq
  subst e
  have hne := h.ne
  have hx : ∀ x ∈ pre ++ post, x.b ≠ B := by
    intro x hx hxe
    have hx' : x ∈ pre ++ (sl ++ post) := by rcases List.mem_append.1 hx with h5 | h5 <;> simp [h5]
    rcases hn with ⟨y, hy, rfl⟩ | hn
    · rw [List.pairwise_append] at hne
      rcases List.mem_append.1 hx with h5 | h5
      · exact hne.2.2 x h5 y (by simp [hy]) hxe
      · exact (List.pairwise_append.1 hne.2.1).2.2 y hy x h5 hxe.symm
    · have := h.lt hx'; omega
  have hnew : w0.heap.size ≤ B := by
    rcases hn with ⟨y, hy, rfl⟩ | hn
    · exact h.new y (by simp [hy])
    · exact Nat.le_trans h.kp.size hn
  have hmem : ∀ e ∈ pre ++ (⟨B, T, c⟩ :: post), e = ⟨B, T, c⟩ ∨ e ∈ pre ++ post := by
    intro e he
    rcases List.mem_append.1 he with h5 | h5
    · exact .inr (by simp [h5])
    · rcases List.mem_cons.1 h5 with h5 | h5
      · exact .inl h5
      · exact .inr (by simp [h5])
  have hold : ∀ e ∈ pre ++ post, e ∈ pre ++ (sl ++ post) := by
    intro e he
    rcases List.mem_append.1 he with h5 | h5 <;> simp [h5]
  refine ⟨⟨h1.trans h.kp.os, h2.trans h.kp.tape, h3.trans h.kp.output, Nat.le_trans h.kp.size h4, fun i hi hX => ?_⟩, fun e he => ?_, ?_, fun e he => ?_, h.win, ?_, h.js, h.xl⟩
  · rw [hK i (Nat.lt_of_lt_of_le hi h.kp.size) (by omega)]
    exact h.kp.block i hi hX
  · rcases hmem e he with rfl | h5
    · exact hB
    · rw [hK e.b (h.lt (hold e h5)) (hx e h5)]; exact h.own e (hold e h5)
  · rw [List.pairwise_append] at hne ⊢
    refine ⟨hne.1, List.pairwise_cons.2 ⟨fun y hy => ?_, (List.pairwise_append.1 hne.2.1).2.1⟩, fun x hx' y hy => ?_⟩
    · exact fun e => hx y (by simp [hy]) e.symm
    · rcases List.mem_cons.1 hy with rfl | hy
      · exact hx x (by simp [hx'])
      · exact hne.2.2 x hx' y (by simp [hy])
  · rcases hmem e he with rfl | h5
    · exact hnew
    · exact h.new e (hold e h5)
  · exact h.js w w' h.j fun k hk => hK k (Nat.lt_of_lt_of_le hk h.kp.size) (by omega)

theorem Rd.kp {w w' : World} {z n : Nat} {v : Value} {xs : List Value} (h : Rd w z v n xs) (hk : Kp [] w w') : Rd w' z v n xs := by
  obtain ⟨p, c, rfl, h1, h2⟩ := h.ex
  refine ⟨h.len, p, c, rfl, h1, ?_⟩
  rcases h2 with h2 | ⟨b, o, rfl, hb, hc⟩
  · exact .inl h2
  · exact .inr ⟨b, o, rfl, Nat.lt_of_lt_of_le hb hk.size, fun j u hj => by rw [hk.cell (p := ⟨b, o + j, none⟩) hb (by simp)]; exact hc j u hj⟩
/-- A slice of the walk's own reads as its elements. -/
theorem OS.rd {w0 w : World} {X : Fr} {R : List Win} {S sl : List OB} {E : TypeId} {z n : Nat} {v : Value} {xs : List Value} (h : OS sl E z v n xs) (hR : Rep w0 X R S w) (hs : ∀ e ∈ sl, e ∈ S) : Rd w z v n xs := by
  refine ⟨h.1, ?_⟩
  rcases h.2 with ⟨-, rfl, rfl⟩ | ⟨g, cap, sp, rfl, rfl, h2, h3, h4⟩
  · exact ⟨none, 0, rfl, Nat.le_refl _, .inl rfl⟩
  · have hm := hs _ List.mem_cons_self
    refine ⟨_, cap, rfl, h2, .inr ⟨g, 0, rfl, hR.lt hm, fun j u hj => ?_⟩⟩
    rw [Nat.zero_add, hR.cells hm]
    simp only
    rw [List.getElem?_append_left (List.getElem?_eq_some_iff.1 hj).1]; exact hj
/-- .. in a block that does not turn. -/
structure Rw (w : World) (X : Fr) (z : Nat) (v : Value) (n : Nat) (xs : List Value) : Prop where
  len : xs.length = n * z
  ex : ∃ p c, v = .slice p n c ∧ n ≤ c ∧ (n = 0 ∨ ∃ b o : Nat, p = some ⟨b, o, none⟩ ∧ b < w.heap.size ∧ b ∉ X.X ∧ ∀ j u, xs[j]? = some u → w.cell? ⟨b, o + j, none⟩ = some u)
theorem Rw.rd {w : World} {X : Fr} {z n : Nat} {v : Value} {xs : List Value} (h : Rw w X z v n xs) : Rd w z v n xs := by
  obtain ⟨p, c, rfl, h1, h2⟩ := h.ex
  exact ⟨h.len, p, c, rfl, h1, h2.imp id fun ⟨b, o, e, hb, _, hc⟩ => ⟨b, o, e, hb, hc⟩⟩
theorem Rd.rw {w : World} {z n : Nat} {v : Value} {xs : List Value} (h : Rd w z v n xs) : Rw w nof z v n xs := by
  obtain ⟨p, c, rfl, h1, h2⟩ := h.ex
  exact ⟨h.len, p, c, rfl, h1, h2.imp id fun ⟨b, o, e, hb, hc⟩ => ⟨b, o, e, hb, by simp [nof], hc⟩⟩
theorem OS.rw {w0 w : World} {X : Fr} {R : List Win} {S sl pre post : List OB} {E : TypeId} {z n : Nat} {v : Value} {xs : List Value} (h : OS sl E z v n xs) (hR : Rep w0 X R S w) (hC : Ctx S sl pre post) : Rw w X z v n xs := by
  refine ⟨h.1, ?_⟩
  rcases h.2 with ⟨-, rfl, rfl⟩ | ⟨g, cap, sp, rfl, rfl, h2, h3, h4⟩
  · exact ⟨none, 0, rfl, Nat.le_refl _, .inl rfl⟩
  · have hm := (sub_ctx hC).subset List.mem_cons_self
    refine ⟨_, cap, rfl, h2, .inr ⟨g, 0, rfl, hR.lt hm, fun hx => ?_, fun j u hj => ?_⟩⟩
    · have h5 := hR.xl _ hx; have h6 := hR.new _ hm; simp only at h6; omega
    · rw [Nat.zero_add, hR.cells hm]
      simp only
      rw [List.getElem?_append_left (List.getElem?_eq_some_iff.1 hj).1]; exact hj
theorem OS.rdC {w0 w : World} {X : Fr} {R : List Win} {S sl pre post : List OB} {E : TypeId} {z n : Nat} {v : Value} {xs : List Value} (h : OS sl E z v n xs) (hR : Rep w0 X R S w) (hC : Ctx S sl pre post) : Rd w z v n xs := h.rd hR fun _ he => (sub_ctx hC).subset he
/-- A row of literal cells of the walk's own reads as they say. -/
theorem At.rd {w0 w : World} {X : Fr} {R : List Win} {S : List OB} {g : Nat} {T : TypeId} {c : List Value} {z n : Nat} (hR : Rep w0 X R S w) (h : At S g T c) (hl : c.length = n * z) : Rd w z (.slice (some ⟨g, 0, none⟩) n n) n c :=
  ⟨hl, _, n, rfl, Nat.le_refl _, .inr ⟨g, 0, rfl, hR.lt h.mem, fun j u hj => by rw [Nat.zero_add, hR.cells h.mem]; exact hj⟩⟩

theorem ta (a : List Value) (Z : Array Value) : a.toArray ++ Z = (a ++ Z.toList).toArray := by apply Array.ext'; simp
section
variable {P : Program} {w : World}
theorem run_append_zero (t ty e : TypeId) (i : TypeInfo) (ht : P.underlying t = some (.slice e)) (hi : P.info? e = some i) (base p : Option Addr) (n cap c : Nat) (h : n ≤ cap) :
    (Builtin.append_ #[t, t] ty #[.slice base n cap, .slice p 0 c]).run P w = .ok (.slice base n cap) w := by
  cases p <;> cases base <;> simp [Builtin.append_, run_underlying ht, sizeOf, typeInfo, hi, Builtin.lenOf, h, Builtin.firstCells, loadCells, loadCellsFrom, storeCells]

theorem run_append_os {w0 : World} {X : Fr} {R : List Win} {S sl pre post : List OB} {t ty E : TypeId} {z bytes n m : Nat} {v x : Value} {xs news : List Value} (hS : Sl P t E z bytes) (hR : Rep w0 X R S w) (ho : OS sl E z v n xs) (hC : Ctx S sl pre post) (hx : Rd w z x m news)
    (h1 : news.all Value.oneCell' = true) (hb : (n + m) * bytes ≤ 140737488355328) (hm : n + m ≤ 9223372036854775807) :
    ∃ v' sl' w', (Builtin.append_ #[t, t] ty #[v, x]).run P w = .ok v' w' ∧ OS sl' E z v' (n + m) (xs ++ news) ∧ Rep w0 X R (pre ++ (sl' ++ post)) w' := by
  obtain ⟨i, zv, hi, hz, rfl, rfl, hzs⟩ := hS.el
  have ht := hS.un
  obtain ⟨px, cx, rfl, hmc, hxx⟩ := hx.ex
  have hlen : (xs ++ news).length = (n + m) * i.size := by rw [List.length_append, ho.1, hx.len, Nat.add_mul]
  by_cases hm0 : m = 0
  · subst hm0
    obtain rfl : news = [] := List.eq_nil_of_length_eq_zero (by simpa using hx.len)
    rcases ho.2 with ⟨rfl, rfl, rfl⟩ | ⟨g, cap, sp, rfl, rfl, h2, h3, h4⟩
    · exact ⟨_, [], w, run_append_zero t ty E i ht hi _ _ _ _ _ (Nat.le_refl _), ⟨by simpa using hlen, .inl ⟨rfl, rfl, rfl⟩⟩, by rw [hC.eq] at hR; exact hR⟩
    · exact ⟨_, [⟨g, E, xs ++ sp⟩], w, run_append_zero t ty E i ht hi _ _ _ _ _ h2, ⟨hlen, .inr ⟨g, cap, sp, by simp, rfl, h2, h3, by simpa using h4⟩⟩, by rw [hC.eq] at hR; exact hR⟩
  · obtain ⟨b, o, rfl, hbw, hcell⟩ := hxx.resolve_left hm0
    have hnews : ∀ j u, news[j]? = some u → w.cell? ((⟨b, o, none⟩ : Addr).add j) = some u := fun j u hj => by rw [addr_add]; exact hcell j u hj
    have fresh : ∀ (need old : Nat) (c : List Value), Rep w0 X R (pre ++ (⟨w.heap.size, E, c⟩ :: post)) (w.drew.alloc (.cells c.toArray E)) := fun _ _ c =>
      hR.replace hC (fun k hk _ => Below.heap_alloc w.drew _ _ hk) rfl rfl rfl (by simp) (heap_alloc_new w.drew _) (.inr (Nat.le_refl _))
    rcases ho.2 with ⟨rfl, rfl, rfl⟩ | ⟨g, cap, sp, rfl, rfl, h2, h3, h4⟩
    · obtain rfl : xs = [] := List.eq_nil_of_length_eq_zero (by simpa using ho.1)
      have hr := run_append_nil (P := P) w t ty E i zv ht hi hz ⟨b, o, none⟩ m cx news hx.len hnews (by omega) (by omega) (by simp only [Nat.zero_add] at hb; omega)
      rw [ta] at hr
      have hge := grownCap_ge w m 0 E
      have hle := grownCap_le_maxLen w m 0 E (by unfold maxLen; omega)
      refine ⟨_, [⟨w.heap.size, E, news ++ (Builtin.zeroCells zv.cells (grownCap w m 0 E - m)).toList⟩], _, hr, ⟨hlen, .inr ⟨w.heap.size, grownCap w m 0 E, (Builtin.zeroCells zv.cells (grownCap w m 0 E - m)).toList, by simp, by simp, by omega, hle, ?_⟩⟩, ?_⟩
      · simp only [List.nil_append, List.length_append, hx.len, Array.length_toList, size_zeroCells, hzs, ← Nat.add_mul]
        congr 1; omega
      · have := fresh m 0 (news ++ (Builtin.zeroCells zv.cells (grownCap w m 0 E - m)).toList)
        exact this
    · have holds : ∀ j u, xs[j]? = some u → w.cell? ((⟨g, 0, none⟩ : Addr).add j) = some u := fun j u hj => by
        have hmem : (⟨g, E, xs ++ sp⟩ : OB) ∈ S := (sub_ctx hC).subset List.mem_cons_self
        rw [addr_add, Nat.zero_add, hR.cells hmem]
        simp only
        rw [List.getElem?_append_left (List.getElem?_eq_some_iff.1 hj).1]; exact hj
      have hmem : (⟨g, E, xs ++ sp⟩ : OB) ∈ S := (sub_ctx hC).subset List.mem_cons_self
      by_cases hroom : n + m ≤ cap
      · have hg := hR.own _ hmem
        have hfit : n * i.size + news.length ≤ (xs ++ sp).toArray.size := by
          rw [List.size_toArray, h4, hx.len, ← Nat.add_mul]; exact Nat.mul_le_mul_right _ hroom
        have hr := run_append_room (P := P) w t ty E i ht hi g n cap (xs ++ sp).toArray hg ⟨b, o, none⟩ m cx news hx.len hnews (List.all_eq_true.1 h1) hroom hfit
        have htake : (xs ++ sp).take (n * i.size) = xs := by rw [← ho.1]; exact List.take_left
        simp only [htake] at hr
        refine ⟨_, [⟨g, E, (xs ++ news) ++ (xs ++ sp).drop (n * i.size + news.length)⟩], _, hr, ⟨hlen, .inr ⟨g, cap, _, rfl, rfl, hroom, h3, ?_⟩⟩, ?_⟩
        · simp only [List.length_append, List.length_drop] at h4 ⊢
          have := hx.len; have h5 := ho.1
          have h6 : (n + m) * i.size ≤ cap * i.size := Nat.mul_le_mul_right _ hroom
          rw [Nat.add_mul] at h6
          omega
        · exact hR.replace hC (fun k hk hne => setRow_other w g k _ hne) rfl rfl rfl (by simp) (setRow_heap w g _ _ _ _ hg) (.inl ⟨_, List.mem_cons_self, rfl⟩)
      · have hr := run_append_grow (P := P) w t ty E i zv ht hi hz ⟨g, 0, none⟩ n cap xs ho.1 holds ⟨b, o, none⟩ m cx news hx.len hnews (by omega) (by omega) (growslice_fits (by omega) hb)
        rw [List.append_toArray, ta] at hr
        have hge := grownCap_ge w (n + m) cap E
        have hle := grownCap_le_maxLen w (n + m) cap E (by unfold maxLen; omega)
        refine ⟨_, [⟨w.heap.size, E, (xs ++ news) ++ (Builtin.zeroCells zv.cells (grownCap w (n + m) cap E - (n + m))).toList⟩], _, hr, ⟨hlen, .inr ⟨w.heap.size, grownCap w (n + m) cap E, (Builtin.zeroCells zv.cells (grownCap w (n + m) cap E - (n + m))).toList, rfl, rfl, hge, hle, ?_⟩⟩, ?_⟩
        · rw [List.length_append, hlen, Array.length_toList, size_zeroCells, hzs, ← Nat.add_mul]
          congr 1; omega
        · exact fresh (n + m) cap ((xs ++ news) ++ (Builtin.zeroCells zv.cells (grownCap w (n + m) cap E - (n + m))).toList)

theorem wpList_append {ops : Array Oper} {Q : Exit → Act → World → Prop} {a : Act} {rest : List Oper} {o : Oper} {w0 : World} {X : Fr} {R : List Win} {S sl pre post : List OB} {t E : TypeId} {z bytes n m : Nat} {v x : Value} {xs news : List Value} {s y : Operand} {d : Tmp}
    (hR : Rep w0 X R S w) (hop : o.op = .call { callee := .builtin .append, args := #[s, y], argTypes := #[t, t] }) (hd : o.dst = some d) (hg : o.guard = none) (hs : a.eval s = v) (hy : a.eval y = x) (hS : Sl P t E z bytes) (ho : OS sl E z v n xs) (hC : Ctx S sl pre post) (hx : Rd w z x m news)
    (h1 : news.all Value.oneCell' = true) (hb : (n + m) * bytes ≤ 140737488355328) (hm : n + m ≤ 9223372036854775807)
    (h : ∀ v' sl' w', OS sl' E z v' (n + m) (xs ++ news) → Rep w0 X R (pre ++ (sl' ++ post)) w' → ∃ a', a.put (some d) v' = a' ∧ wpList P ops Q rest a' w') : wpList P ops Q (o :: rest) a w := by
  obtain ⟨v', sl', w', hr, h2, h3⟩ := run_append_os (P := P) (ty := o.type) hS hR ho hC hx h1 hb hm
  refine BigFrame.wpList_want (by simp [Region.wanted, hg]) fun K hK => ?_
  unfold Oper.wp execOp
  simp only [hop, resolve, invoke, builtin, Sem.run_bind, Sem.run_pure, Result.andThen_ok, List.map_toArray, List.map_cons, List.map_nil, hs, hy, hr, Oper.upon, hd]
  obtain ⟨a', e, h'⟩ := h v' sl' w' h2 h3
  rw [e]
  exact hK _ _ h'
end

/-- What a callee has made beside what stood. -/
theorem Rep.join {w0 w w' : World} {X : Fr} {R : List Win} {S sl : List OB} (h : Rep w0 X R S w) (hk : Rep w nof [] sl w') : Rep w0 X R (sl ++ S) w' := by
  have h' := h.kp0 hk.kp
  refine ⟨h'.kp, fun e he => ?_, List.pairwise_append.2 ⟨hk.ne, h.ne, fun x hx y hy => ?_⟩, fun e he => ?_, h.win, h'.j, h.js, h.xl⟩
  · rcases List.mem_append.1 he with he | he
    · exact hk.own e he
    · exact h'.own e he
  · have h1 := h.lt hy; have h2 := hk.new x hx; omega
  · rcases List.mem_append.1 he with he | he
    · exact Nat.le_trans h.kp.size (hk.new e he)
    · exact h.new e he
/-- .. where it has turned the blocks X besides. -/
theorem Rep.joinT {w0 w w' : World} {X : Fr} {R : List Win} {S sl : List OB} (h : Rep w0 X R S w) (hk : Rep w X [] sl w') : Rep w0 X R (sl ++ S) w' := by
  have h' := h.tk hk.kp hk.j
  refine ⟨h'.kp, fun e he => ?_, List.pairwise_append.2 ⟨hk.ne, h.ne, fun x hx y hy => ?_⟩, fun e he => ?_, h.win, h'.j, h.js, h.xl⟩
  · rcases List.mem_append.1 he with he | he
    · exact hk.own e he
    · exact h'.own e he
  · have h1 := h.lt hy; have h2 := hk.new x hx; omega
  · rcases List.mem_append.1 he with he | he
    · exact Nat.le_trans h.kp.size (hk.new e he)
    · exact h.new e he
/-- A new beginning: what the walk has made is old memory now. -/
theorem Rep.rebase {w0 w w1 : World} {X Y : Fr} {R : List Win} {S : List OB} (h : Rep w0 X R S w) (hk : Kp [] w w1) (hj : Y.J w1) (hjs : ∀ w w' : World, Y.J w → (∀ k, k < w1.heap.size → w'.heap[k]? = w.heap[k]?) → Y.J w') (hx : ∀ x ∈ Y.X, w.heap.size ≤ x ∧ x < w1.heap.size) :
    Rep w1 Y (R ++ S.map fun e => ⟨e.b, 0, e.c⟩) [] w1 := by
  have h' := h.kp0 hk
  refine ⟨Kp.refl _ _, by simp, .nil, by simp, fun r hr => ?_, hj, hjs, fun x hm => (hx x hm).2⟩
  rcases List.mem_append.1 hr with hr | hr
  · obtain ⟨h1, h2, h3⟩ := h.win r hr
    refine ⟨Nat.lt_of_lt_of_le h1 h'.kp.size, fun hm => ?_, fun j v hj => ?_⟩
    · have := (hx _ hm).1; have := h.kp.size; omega
    · rw [h'.kp.cell (p := ⟨r.b, r.o + j, none⟩) h1 h2]; exact h3 j v hj
  · obtain ⟨e, he, rfl⟩ := List.mem_map.1 hr
    refine ⟨h'.lt he, fun hm => ?_, fun j v hj => ?_⟩
    · have := (hx _ hm).1; have := h.lt he; simp only at *; omega
    · rw [Nat.zero_add, h'.cells he]; exact hj
/-- .. with what may turn as it was. -/
theorem Rep.rebaseS {w0 w : World} {X : Fr} {R : List Win} {S : List OB} (h : Rep w0 X R S w) : Rep w X (R ++ S.map fun e => ⟨e.b, 0, e.c⟩) [] w := by
  refine ⟨Kp.refl _ _, by simp, .nil, by simp, fun r hr => ?_, h.j, fun w1 w2 hj hk => h.js w1 w2 hj fun k hk' => hk k (Nat.lt_of_lt_of_le hk' h.kp.size), fun x hx => Nat.lt_of_lt_of_le (h.xl x hx) h.kp.size⟩
  rcases List.mem_append.1 hr with hr | hr
  · obtain ⟨h1, h2, h3⟩ := h.win r hr
    exact ⟨Nat.lt_of_lt_of_le h1 h.kp.size, h2, fun j v hj => by rw [h.kp.cell (p := ⟨r.b, r.o + j, none⟩) h1 h2]; exact h3 j v hj⟩
  · obtain ⟨e, he, rfl⟩ := List.mem_map.1 hr
    refine ⟨h.lt he, fun hm => ?_, fun j v hj => ?_⟩
    · have := h.xl _ hm; have := h.new e he; simp only at *; omega
    · rw [Nat.zero_add, h.cells he]; exact hj
end Go.Proofs.YtddjhemncniidaaDoor
