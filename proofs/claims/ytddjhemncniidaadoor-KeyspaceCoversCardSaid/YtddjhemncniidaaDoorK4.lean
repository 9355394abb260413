/-
  Slices that are written out; a region that draws its order, over 'Rep'.
-/
import Derived.Test.YtddjhemncniidaaDoorK3
namespace Go.Proofs.YtddjhemncniidaaDoor
set_option linter.unusedSimpArgs false
set_option linter.unusedVariables false
open Go.RowKit

theorem set_fold : ∀ (vs : List Value) (k off : Nat) (cells : Array Value), off + k + vs.length ≤ cells.size →
    (vs.zipIdx k).foldl (fun cs (x : Value × Nat) => cs.setIfInBounds (off + x.2) x.1) cells = (cells.toList.take (off + k) ++ vs ++ cells.toList.drop (off + k + vs.length)).toArray
  | [], k, off, cells, _ => by simp
  | v :: vs, k, off, cells, h => by
    simp only [List.zipIdx_cons, List.foldl_cons]
    simp only [List.length_cons] at h
    rw [set_fold vs (k + 1) off _ (by simp; omega)]
    have h2 := list_seg_step cells.toList (off + k) v vs (by simp; omega)
    rw [show off + (k + 1) = off + k + 1 by omega]
    have h3 : (cells.setIfInBounds (off + k) v).toList = cells.toList.set (off + k) v := by simp
    rw [h3]
    exact congrArg List.toArray h2

/-- The cells of a slice's parts, written one behind the other. -/
def flat : List (Nat × Value) → List Value
  | [] => []
  | p :: r => p.2.cells.toList ++ flat r
/-- The parts are those from k on, each of z cells. -/
def inRow (z : Nat) : Nat → List (Nat × Value) → Bool
  | _, [] => true
  | k, p :: r => p.1 == k && p.2.cells.size == z && inRow z (k + 1) r
theorem flat_length {z : Nat} : ∀ {k : Nat} {l : List (Nat × Value)}, inRow z k l = true → (flat l).length = l.length * z
  | _, [], _ => by simp [flat]
  | k, p :: r, h => by
    simp only [inRow, Bool.and_eq_true, beq_iff_eq] at h
    rw [flat, List.length_append, flat_length h.2, Array.length_toList, h.1.2, List.length_cons, Nat.add_mul]; omega
theorem fill_row (z : Nat) : ∀ (l : List (Nat × Value)) (k : Nat) (cells : Array Value), inRow z k l = true → cells.size = (k + l.length) * z →
    Instr.fill (fun i => some (i * z, z)) cells l = some (cells.toList.take (k * z) ++ flat l).toArray
  | [], k, cells, _, h => by
    simp only [Instr.fill, flat, List.append_nil]
    rw [List.take_of_length_le (by simp [h])]
  | p :: r, k, cells, h, hc => by
    obtain ⟨i, v⟩ := p
    simp only [inRow, Bool.and_eq_true, beq_iff_eq] at h
    obtain ⟨⟨rfl, hz⟩, hr⟩ := h
    simp only [List.length_cons] at hc
    have hb : ¬ (v.cells.size ≠ z ∨ i * z + v.cells.size > cells.size) := by
      rw [hz, hc]; simp only [ne_eq, not_true, false_or]
      have : (i + (r.length + 1)) * z = i * z + z + r.length * z := by rw [Nat.add_mul, Nat.add_mul]; omega
      omega
    simp only [Instr.fill]
    rw [if_neg (by simpa using hb)]
    have hf := set_fold v.cells.toList 0 (i * z) cells (by
      have : (i + (r.length + 1)) * z = i * z + z + r.length * z := by rw [Nat.add_mul, Nat.add_mul]; omega
      simp [hz, hc]; omega)
    have he : (v.cells.zipIdx.foldl (fun cs (x : Value × Nat) => cs.setIfInBounds (i * z + x.2) x.1) cells) = (cells.toList.take (i * z + 0) ++ v.cells.toList ++ cells.toList.drop (i * z + 0 + v.cells.toList.length)).toArray := by
      rw [← hf, ← Array.foldl_toList, Array.toList_zipIdx]
    rw [he, fill_row z r (i + 1) _ hr (by
      have : (i + (r.length + 1)) * z = i * z + z + r.length * z := by rw [Nat.add_mul, Nat.add_mul]; omega
      have h2 : (i + 1 + r.length) * z = i * z + z + r.length * z := by rw [Nat.add_mul, Nat.add_mul]; omega
      simp [hz, hc]; omega)]
    congr 2
    have h2 : (i + 1) * z = i * z + z := by rw [Nat.add_mul]; omega
    have h3 : (i + (r.length + 1)) * z = i * z + z + r.length * z := by rw [Nat.add_mul, Nat.add_mul]; omega
    simp only [Nat.add_zero, h2, flat]
    rw [List.take_append_of_le_length (by simp [hz, hc]), List.take_of_length_le (by simp [hz, hc])]
    simp

theorem eval_tmp (l : List Value) (d : List Deferred) (t : Nat) : (Act.mk l.toArray d).eval (.tmp t) = l.getD t undef := by simp [Act.eval, List.getD]
theorem eval_con (a : Act) (v : Value) : a.eval (.const v) = v := rfl
theorem cells_agg (c : Array Value) : (Value.agg c).cells = c := rfl
theorem cells_bool (x : Bool) : (Value.bool x).cells = #[.bool x] := rfl
theorem cells_int (k : IntKind) (x : Int) : (Value.int k x).cells = #[.int k x] := rfl
theorem cells_str (x : ByteArray) : (Value.string x).cells = #[.string x] := rfl
theorem cells_sl (p : Option Addr) (n c : Nat) : (Value.slice p n c).cells = #[.slice p n c] := rfl
theorem cells_ptr (p : Option Addr) : (Value.pointer p).cells = #[.pointer p] := rfl
theorem cells_map (p : Option Nat) : (Value.map p).cells = #[.map p] := rfl
theorem cells_fn (f : Fn) (x y : Array Value) : (Value.func f x y).cells = #[.func f x y] := rfl
section
variable {P : Program} {ops : Array Oper} {Q : Exit → Act → World → Prop} {a : Act} {w w0 : World} {rest : List Oper} {o : Oper} {X : Fr} {R : List Win} {S : List OB}
theorem run_bs {t E : TypeId} {z bytes : Nat} (hS : Sl P t E z bytes) (parts : Array (Nat × Value)) (h : inRow z 0 parts.toList = true) (hl : parts.size * z ≤ 16777216) :
    (Instr.buildSlice t parts.size parts).run P w = .ok (.slice (some ⟨w.heap.size, 0, none⟩) parts.size parts.size) (w.alloc (.cells (flat parts.toList).toArray E)) := by
  obtain ⟨i, zv, hi, hz, rfl, rfl, hzs⟩ := hS.el
  have hf := fun (c : Array Value) (hc : c.size = parts.size * i.size) => fill_row i.size parts.toList 0 c h (by simpa using hc)
  simp only [Nat.zero_mul, List.take_zero, List.nil_append] at hf
  unfold Instr.buildSlice
  have hu : (underlying t).run P w = .ok (.slice E) w := run_underlying hS.un w
  simp only [Sem.run_bind, hu, Result.andThen_ok, sizeOf, typeInfo, program, Sem.run, hi, Sem.run_pure]
  rw [if_neg (by omega)]
  by_cases h0 : parts.size * i.size = 0
  · rw [if_pos h0]
    simp [hf #[] (by simp [h0]), hf, h0, newRow]
  · rw [if_neg h0]
    simp [hf, zeroValue, typeInfo, hi, hz, newRow]
theorem wpList_bs (hR : Rep w0 X R S w) {t E : TypeId} {z bytes len : Nat} {parts : Array (Nat × Operand)} {d : Tmp} {l : List Value} (hop : o.op = .buildSlice t len parts) (hd : o.dst = some d) (hg : o.guard = none) (hS : Sl P t E z bytes)
    (hp : (inRow z 0 (parts.toList.map fun p => (p.1, a.eval p.2)) && (parts.size == len) && decide (parts.size * z ≤ 16777216)) = true) (hl : flat (parts.toList.map fun p => (p.1, a.eval p.2)) = l)
    (h : ∀ w' B, Rep w0 X R (⟨B, E, l⟩ :: S) w' → ∃ a', a.put (some d) (.slice (some ⟨B, 0, none⟩) len len) = a' ∧ wpList P ops Q rest a' w') : wpList P ops Q (o :: rest) a w := by
  simp only [Bool.and_eq_true, beq_iff_eq, decide_eq_true_eq] at hp
  obtain ⟨⟨hp, rfl⟩, hs⟩ := hp
  have hr := run_bs (P := P) (w := w) hS (parts.map fun p => (p.1, a.eval p.2)) (by simpa using hp) (by simpa using hs)
  simp only [Array.size_map] at hr
  have hl' : flat (parts.map fun p => (p.1, a.eval p.2)).toList = l := by rw [← hl]; simp
  rw [hl'] at hr
  refine BigFrame.wpList_want (by simp [Region.wanted, hg]) fun K hK => ?_
  unfold Oper.wp execOp
  rw [hop]
  simp only [Sem.run_bind, Sem.run_pure, Result.andThen_ok, hr, Oper.upon, hd]
  obtain ⟨a', e, h'⟩ := h _ w.heap.size (by simpa using hR.alloc E l.toArray)
  rw [e]
  exact hK _ _ h'

theorem Rep.gfacts (hR : Rep w0 X R S w) : ∀ p, Facts (gr w p) R S := fun p => (hR.kp0 (kp_gr w p)).facts

/-- A region that draws its order, whose head of n operations only reads and calls. -/
theorem wp_region_r0 {l : List Oper} {id : Nat} (n : Nat) (hR : Rep w0 X R S w) (hm : P.follows .mixedOrders = true) (hchk : chkQA l.toArray n = true) (hal : allocsOf l n = []) (hno : (l.all fun o => (isAlloc o).isNone) = true)
    (h : (∀ p, Facts (gr w p) R S) → wpQK P (l.map noAlloc).toArray w (fun A => ∀ w', Rep w0 X R S w' → wpList P l.toArray Q (l.drop n) A w') ((l.map noAlloc).take n) a) : (Code.region id l.toArray true).wp P Q a w :=
  wp_region_QA n w (fun _ => #[]) hm hchk ((Kp.refl _ _).drew) (fun o ho T hT => by have := List.all_eq_true.1 hno o ho; simp [isAlloc, hT] at this) (h hR.gfacts) fun A b w' hA inv => by rw [inv.act0 hal]; exact hA w' (hR.kp0 inv.kp)

theorem zero_run {T : TypeId} {z : List Value} (hz : ZeroIs P T z) {o : Oper} (ho : o.op = .alloc T) (ρ : Operand → Value) (w : World) : (execOp ρ o).run P w = .ok (.value (.pointer (some ⟨w.heap.size, 0, none⟩))) (w.alloc (.cells z.toArray T)) := by
  unfold ZeroIs at hz
  cases hi : P.info? T with
  | none => simp [hi] at hz
  | some i =>
    cases hzv : i.zero with
    | none => simp [hi, hzv] at hz
    | some zv =>
      simp [hi, hzv] at hz
      unfold execOp; rw [ho]
      simp [Instr.alloc, zeroValue, typeInfo, hi, hzv, newVar, newRow, ← hz]
/-- .. that makes one variable besides. -/
theorem wp_region_r1 {l : List Oper} {id : Nat} (n k d : Nat) (T : TypeId) (hR : Rep w0 X R S w) (hm : P.follows .mixedOrders = true) (hchk : chkQA l.toArray n = true) {z : List Value} (hz : ZeroIs P T z) (hal : allocsOf l n = [(k, d, T)]) (hT : (l.all fun o => (isAlloc o).all (· == T)) = true)
    (h : (∀ p, Facts (gr w p) R S) → wpQK P (l.map noAlloc).toArray w (fun A => ∀ w' B, Rep w0 X R (⟨B, T, z⟩ :: S) w' → ∃ A', A.put (some d) (.pointer (some ⟨B, 0, none⟩)) = A' ∧ wpList P l.toArray Q (l.drop n) A' w') ((l.map noAlloc).take n) a) : (Code.region id l.toArray true).wp P Q a w :=
  wp_region_QA n w (fun _ => z.toArray) hm hchk ((Kp.refl _ _).drew) (fun o ho T' hop ρ w => by
    have h1 := List.all_eq_true.1 hT o ho
    have h2 : isAlloc o = some T' := by simp [isAlloc, hop]
    rw [h2] at h1
    obtain rfl : T' = T := by simpa using h1
    exact zero_run hz hop ρ w) (h hR.gfacts) fun A b w' hA inv => by
      obtain ⟨B, rfl, h1, h2, h3⟩ := inv.act1 hal
      obtain ⟨A', e, hw⟩ := hA w' B (hR.push inv.kp h1 h3)
      rw [e]; exact hw
/-- .. two. -/
theorem wp_region_r2 {l : List Oper} {id : Nat} (n k d k2 d2 : Nat) (T : TypeId) (hR : Rep w0 X R S w) (hm : P.follows .mixedOrders = true) (hchk : chkQA l.toArray n = true) {z : List Value} (hz : ZeroIs P T z) (hal : allocsOf l n = [(k, d, T), (k2, d2, T)]) (hne : (k != k2 && d != d2) = true) (hT : (l.all fun o => (isAlloc o).all (· == T)) = true)
    (h : (∀ p, Facts (gr w p) R S) → wpQK P (l.map noAlloc).toArray w (fun A => ∀ w' B B2, Rep w0 X R (⟨B2, T, z⟩ :: ⟨B, T, z⟩ :: S) w' → ∃ A', (A.put (some d) (.pointer (some ⟨B, 0, none⟩))).put (some d2) (.pointer (some ⟨B2, 0, none⟩)) = A' ∧ wpList P l.toArray Q (l.drop n) A' w') ((l.map noAlloc).take n) a) : (Code.region id l.toArray true).wp P Q a w :=
  wp_region_QA n w (fun _ => z.toArray) hm hchk ((Kp.refl _ _).drew) (fun o ho T' hop ρ w => by
    have h1 := List.all_eq_true.1 hT o ho
    have h2 : isAlloc o = some T' := by simp [isAlloc, hop]
    rw [h2] at h1
    obtain rfl : T' = T := by simpa using h1
    exact zero_run hz hop ρ w) (h hR.gfacts) fun A b w' hA inv => by
      simp only [Bool.and_eq_true, bne_iff_ne] at hne
      obtain ⟨B, B2, rfl, h1, h2, h3, h4, h5, h6, h7⟩ := inv.act2 hal hne.1 hne.2
      have r1 := hR.push inv.kp h1 h3
      have r2 : Rep w0 X R (⟨B2, T, z⟩ :: ⟨B, T, z⟩ :: S) w' := by
        refine ⟨r1.kp, fun e he => ?_, List.pairwise_cons.2 ⟨fun e he => ?_, r1.ne⟩, fun e he => ?_, r1.win, r1.j, r1.js, r1.xl⟩
        · rcases List.mem_cons.1 he with rfl | he
          · exact h6
          · exact r1.own e he
        · rcases List.mem_cons.1 he with rfl | he
          · exact fun e => h7 e.symm
          · have := hR.lt he; simp only; omega
        · rcases List.mem_cons.1 he with rfl | he
          · exact Nat.le_trans hR.kp.size h4
          · exact r1.new e he
      obtain ⟨A', e, hw⟩ := hA w' B B2 r2
      rw [e]; exact hw
end
end Go.Proofs.YtddjhemncniidaaDoor
