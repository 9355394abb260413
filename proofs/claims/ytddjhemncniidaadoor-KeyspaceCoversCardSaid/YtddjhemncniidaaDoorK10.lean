/-
  Appends to a slice without room (x[:n:n]); parts of slices; a store into an element of an own slice.
-/
import Derived.Test.YtddjhemncniidaaDoorK5
import Derived.Test.YtddjhemncniidaaDoorK8
namespace Go.Proofs.YtddjhemncniidaaDoor
set_option linter.unusedSimpArgs false
set_option linter.unusedVariables false
open Go.RowKit
section
variable {P : Program} {w : World}
theorem Rd.head {z k c n : Nat} {p : Option Addr} {xs : List Value} (h : Rd w z (.slice p k c) k xs) (hn : n ≤ k) (c' : Nat) (hc : n ≤ c') : Rd w z (.slice p n c') n (xs.take (n * z)) := by
  have hl := h.len
  have hle : n * z ≤ k * z := Nat.mul_le_mul_right _ hn
  refine ⟨by rw [List.length_take]; omega, p, c', rfl, hc, ?_⟩
  obtain ⟨p', c2, e, h1, h2⟩ := h.ex
  simp only [Value.slice.injEq, true_and] at e
  obtain ⟨rfl, rfl⟩ := e
  rcases h2 with h2 | ⟨b, o, rfl, hb, hx⟩
  · exact .inl (by omega)
  · refine .inr ⟨b, o, rfl, hb, fun j u hj => hx j u ?_⟩
    rw [List.getElem?_take] at hj
    split at hj
    · exact hj
    · cases hj
theorem Rd.tail {z k c n : Nat} {b o : Nat} {xs : List Value} (h : Rd w z (.slice (some ⟨b, o, none⟩) k c) k xs) (m : Nat) (hn : n + m = k) (c' : Nat) (hc : m ≤ c') : Rd w z (.slice (some ⟨b, o + n * z, none⟩) m c') m (xs.drop (n * z)) := by
  have hl := h.len
  subst hn
  rw [Nat.add_mul] at hl
  refine ⟨by rw [List.length_drop]; omega, _, c', rfl, hc, ?_⟩
  obtain ⟨p', c2, e, h1, h2⟩ := h.ex
  simp only [Value.slice.injEq, true_and] at e
  obtain ⟨rfl, rfl⟩ := e
  rcases h2 with h2 | ⟨b', o', e, hb, hx⟩
  · exact .inl (by omega)
  · simp only [Option.some.injEq, Addr.mk.injEq, and_true] at e
    obtain ⟨rfl, rfl⟩ := e
    refine .inr ⟨b, _, rfl, hb, fun j u hj => ?_⟩
    rw [List.getElem?_drop] at hj
    have := hx _ _ hj
    rwa [← Nat.add_assoc] at this
theorem rvals_one : ∀ l : List Rng, (rvals l).all Value.oneCell' = true
  | [] => rfl
  | r :: l => by rw [rvals_cons, List.all_append, rvals_one l]; rfl
theorem rvals_take (l : List Rng) : ∀ n, (rvals l).take (n * 4) = rvals (l.take n) := by
  induction l with
  | nil => intro n; simp [rvals]
  | cons r l ih =>
    intro n
    cases n with
    | zero => simp [rvals]
    | succ n =>
      rw [rvals_cons, List.take_succ_cons, rvals_cons, ← ih n, List.take_append, List.take_of_length_le (by simp [Rng.vals]; omega)]
      congr 2
      simp [Rng.vals]; omega
theorem rvals_drop (l : List Rng) : ∀ n, (rvals l).drop (n * 4) = rvals (l.drop n) := by
  induction l with
  | nil => intro n; simp [rvals]
  | cons r l ih =>
    intro n
    cases n with
    | zero => simp
    | succ n =>
      rw [rvals_cons, List.drop_succ_cons, ← ih n, List.drop_append, List.drop_of_length_le (by simp [Rng.vals]; omega), List.nil_append]
      congr 1
      simp [Rng.vals]; omega

theorem run_append_full {t ty E : TypeId} {z bytes n m : Nat} {ad : Addr} {x : Value} {xs news : List Value} (hS : Sl P t E z bytes) (hv : Rd w z (.slice (some ad) n n) n xs) (hx : Rd w z x m news) (hm0 : 0 < m)
    (hb : (n + m) * bytes ≤ 140737488355328) (hm : n + m ≤ 9223372036854775807) :
    ∃ v' sl' w', (Builtin.append_ #[t, t] ty #[.slice (some ad) n n, x]).run P w = .ok v' w' ∧ OS sl' E z v' (n + m) (xs ++ news) ∧ ∀ w0 X R S, Rep w0 X R S w → Rep w0 X R (sl' ++ S) w' := by
  obtain ⟨i, zv, hi, hz, rfl, rfl, hzs⟩ := hS.el
  have ht := hS.un
  obtain ⟨px, cx, rfl, hmc, hxx⟩ := hx.ex
  have hlen : (xs ++ news).length = (n + m) * i.size := by rw [List.length_append, hv.len, hx.len, Nat.add_mul]
  obtain ⟨b, o, rfl, hbw, hcell⟩ := hxx.resolve_left (by omega)
  have hnews : ∀ j u, news[j]? = some u → w.cell? ((⟨b, o, none⟩ : Addr).add j) = some u := fun j u hj => by rw [addr_add]; exact hcell j u hj
  have holds : ∀ j u, xs[j]? = some u → w.cell? (ad.add j) = some u := by
    obtain ⟨p', c2, e, h1, h2⟩ := hv.ex
    simp only [Value.slice.injEq, true_and] at e
    obtain ⟨rfl, rfl⟩ := e
    rcases h2 with rfl | ⟨b', o', e, hb', hxs⟩
    · have : xs = [] := List.eq_nil_of_length_eq_zero (by rw [hv.len]; simp)
      subst this
      intro j u hj; simp at hj
    · simp only [Option.some.injEq] at e
      subst e
      intro j u hj; rw [addr_add]; exact hxs j u hj
  have hr := run_append_grow (P := P) w t ty E i zv ht hi hz ad n n xs hv.len holds ⟨b, o, none⟩ m cx news hx.len hnews (by omega) (by omega) (growslice_fits (by omega) hb)
  rw [List.append_toArray, ta] at hr
  have hge := grownCap_ge w (n + m) n E
  have hle := grownCap_le_maxLen w (n + m) n E (by unfold maxLen; omega)
  refine ⟨_, [⟨w.heap.size, E, (xs ++ news) ++ (Builtin.zeroCells zv.cells (grownCap w (n + m) n E - (n + m))).toList⟩], _, hr, ⟨hlen, .inr ⟨w.heap.size, grownCap w (n + m) n E, (Builtin.zeroCells zv.cells (grownCap w (n + m) n E - (n + m))).toList, rfl, rfl, hge, hle, ?_⟩⟩, ?_⟩
  · rw [List.length_append, hlen, Array.length_toList, size_zeroCells, hzs, ← Nat.add_mul]
    congr 1; omega
  · intro w0 X R S hR
    exact hR.push ((Kp.refl _ _).drew.alloc _) (Nat.le_refl _) (heap_alloc_new w.drew _)
theorem wpList_append_full {ops : Array Oper} {Q : Exit → Act → World → Prop} {a : Act} {rest : List Oper} {o : Oper} {w0 : World} {X : Fr} {R : List Win} {S : List OB} {t E : TypeId} {z bytes n m : Nat} {ad : Addr} {x : Value} {xs news : List Value} {s y : Operand} {d : Tmp}
    (hR : Rep w0 X R S w) (hop : o.op = .call { callee := .builtin .append, args := #[s, y], argTypes := #[t, t] }) (hd : o.dst = some d) (hg : o.guard = none) (hs : a.eval s = .slice (some ad) n n) (hy : a.eval y = x) (hS : Sl P t E z bytes) (hv : Rd w z (.slice (some ad) n n) n xs) (hx : Rd w z x m news)
    (hm0 : 0 < m) (hb : (n + m) * bytes ≤ 140737488355328) (hm : n + m ≤ 9223372036854775807)
    (h : ∀ v' sl' w', OS sl' E z v' (n + m) (xs ++ news) → Rep w0 X R (sl' ++ S) w' → ∃ a', a.put (some d) v' = a' ∧ wpList P ops Q rest a' w') : wpList P ops Q (o :: rest) a w := by
  obtain ⟨v', sl', w', hr, h2, h3⟩ := run_append_full (P := P) (ty := o.type) hS hv hx hm0 hb hm
  refine BigFrame.wpList_want (by simp [Region.wanted, hg]) fun K hK => ?_
  unfold Oper.wp execOp
  simp only [hop, resolve, invoke, builtin, Sem.run_bind, Sem.run_pure, Result.andThen_ok, List.map_toArray, List.map_cons, List.map_nil, hs, hy, hr, Oper.upon, hd]
  obtain ⟨a', e, h'⟩ := h v' sl' w' h2 (h3 _ _ _ _ hR)
  rw [e]
  exact hK _ _ h'
/-- .. of nothing. -/
theorem wpList_append_zero {ops : Array Oper} {Q : Exit → Act → World → Prop} {a a' : Act} {rest : List Oper} {o : Oper} {t E : TypeId} {z bytes n c c2 : Nat} {p q : Option Addr} {s y : Operand}
    (hop : o.op = .call { callee := .builtin .append, args := #[s, y], argTypes := #[t, t] }) (hg : o.guard = none) (hs : a.eval s = .slice p n c) (hy : a.eval y = .slice q 0 c2) (hS : Sl P t E z bytes) (hn : n ≤ c)
    (ha : a.put o.dst (.slice p n c) = a') (h : wpList P ops Q rest a' w) : wpList P ops Q (o :: rest) a w := by
  obtain ⟨i, zv, hi, hz, rfl, rfl, hzs⟩ := hS.el
  have hr := run_append_zero (P := P) (w := w) t o.type E i hS.un hi p q n c c2 hn
  refine BigFrame.wpList_want (by simp [Region.wanted, hg]) fun K hK => ?_
  unfold Oper.wp execOp
  simp only [hop, resolve, invoke, builtin, Sem.run_bind, Sem.run_pure, Result.andThen_ok, List.map_toArray, List.map_cons, List.map_nil, hs, hy, hr, Oper.upon]
  subst ha
  exact hK _ _ h
theorem dc_append_full {l : List Oper} {w0 : World} {X : Fr} {R : List Win} {im : List Nat} {Qf : Act → List OB → Prop} {i : Nat} {r : List Nat} {a : Act} {S : List OB} {o : Oper} {t E : TypeId} {z bytes n m : Nat} {ad : Addr} {x : Value} {xs news : List Value} {s y : Operand} {d : Tmp}
    (ho : nth l i = some o) (hi : im.contains i = true) (hw : Region.wanted o (yielded l.toArray a.tmps) = true) (hop : o.op = .call { callee := .builtin .append, args := #[s, y], argTypes := #[t, t] }) (hd : o.dst = some d) (hs : a.eval s = .slice (some ad) n n) (hy : a.eval y = x) (hS : Sl P t E z bytes)
    (hv : ∀ w, Rep w0 X R S w → Rd w z (.slice (some ad) n n) n xs) (hx : ∀ w, Rep w0 X R S w → Rd w z x m news) (hm0 : 0 < m) (hb : (n + m) * bytes ≤ 140737488355328) (hm : n + m ≤ 9223372036854775807)
    (h : ∀ v' sl', OS sl' E z v' (n + m) (xs ++ news) → ∃ a', a.put (some d) v' = a' ∧ DC P l.toArray w0 X R im Qf r a' (sl' ++ S)) : DC P l.toArray w0 X R im Qf (i :: r) a S :=
  dc_make ho hi hw fun w hR => by
    obtain ⟨v', sl', w', hr, h2, h3⟩ := run_append_full (P := P) (ty := o.type) hS (hv w hR) (hx w hR) hm0 hb hm
    obtain ⟨a', e, h'⟩ := h v' sl' h2
    refine ⟨v', sl', w', ?_, h3 _ _ _ _ hR, a', by rw [hd]; exact e, h'⟩
    unfold execOp
    simp only [hop, resolve, invoke, builtin, Sem.run_bind, Sem.run_pure, Result.andThen_ok, List.map_toArray, List.map_cons, List.map_nil, hs, hy, hr]
theorem To.mid {pre post : List OB} {b : Nat} {T : TypeId} {c c' : List Value} : To (pre ++ ([⟨b, T, c⟩] ++ post)) b T c c' (pre ++ ([⟨b, T, c'⟩] ++ post)) := To.skip .here
theorem stL_length {o : Nat} {vs c : List Value} (h : o + vs.length ≤ c.length) : (stL o vs c).length = c.length := by
  rw [stL_eq _ _ _ h]; simp; omega
theorem stL_app {o : Nat} {vs c d : List Value} (h : o + vs.length ≤ c.length) : stL o vs (c ++ d) = stL o vs c ++ d := by
  rw [stL_eq _ _ _ (by simp; omega), stL_eq _ _ _ h, List.take_append_of_le_length (by omega), List.drop_append_of_le_length (by omega)]
  simp
/-- A store into an element of an own slice. -/
theorem wpList_st_os {ops : Array Oper} {Q : Exit → Act → World → Prop} {a : Act} {rest : List Oper} {o : Oper} {w0 : World} {X : Fr} {R : List Win} {S sl pre post : List OB} {T E : TypeId} {z n m off g cap : Nat} {ag : Bool} {x y : Operand} {xs vs : List Value}
    (hR : Rep w0 X R S w) (hop : o.op = .store T x y) (hd : o.dst = none) (hg : o.guard = none) (hO : OS sl E z (.slice (some ⟨g, 0, none⟩) n cap) n xs) (hC : Ctx S sl pre post) (hx : a.eval x = .pointer (some ⟨g, off, none⟩)) (hv : (a.eval y).cells = vs.toArray) (hT : Ty P T m ag)
    (hl : off + m ≤ xs.length) (h1 : (vs.length == m && vs.all Value.oneCell') = true)
    (h : ∀ sl' w', OS sl' E z (.slice (some ⟨g, 0, none⟩) n cap) n (stL off vs xs) → Rep w0 X R (pre ++ (sl' ++ post)) w' → wpList P ops Q rest a w') : wpList P ops Q (o :: rest) a w := by
  simp only [Bool.and_eq_true, beq_iff_eq] at h1
  rcases hO.2 with ⟨-, e, -⟩ | ⟨g', cap', sp, rfl, e, h2, h3, h4⟩
  · simp at e
  · simp only [Value.slice.injEq, Option.some.injEq, Addr.mk.injEq, and_true, true_and] at e
    obtain ⟨rfl, rfl⟩ := e
    have e := hC.eq
    subst e
    have hst : stL off vs (xs ++ sp) = stL off vs xs ++ sp := stL_app (by omega)
    have hr := run_st (P := P) hT hR hv hst To.mid (by rw [List.length_append]; omega) h1.1 h1.2
    have hR' := hR.store (c' := stL off vs xs ++ sp) To.mid
    refine BigFrame.wpList_want (by simp [Region.wanted, hg]) fun K hK => ?_
    unfold Oper.wp execOp
    rw [hop]
    simp only [hx, Instr.storeAt, Instr.sureAddr, Sem.run_bind, Sem.run_pure, Result.andThen_ok, hr]
    simp only [Oper.upon, hd, Act.put]
    refine hK _ _ (h _ _ ⟨?_, .inr ⟨g, cap, sp, rfl, rfl, h2, h3, ?_⟩⟩ hR')
    · rw [stL_length (by omega)]; exact hO.1
    · rw [List.length_append, stL_length (by omega), ← List.length_append]; exact h4
theorem stL_cons (x : Value) (o : Nat) (vs c : List Value) (h : o + vs.length ≤ c.length) : stL (o + 1) vs (x :: c) = x :: stL o vs c := by
  rw [stL_eq _ _ _ (by simp; omega), stL_eq _ _ _ h]
  simp [show o + 1 + vs.length = o + vs.length + 1 by omega]
theorem stL_rvals (x : Rng) : ∀ (l : List Rng) (n : Nat), n < l.length → stL (n * 4) x.vals (rvals l) = rvals (l.set n x)
  | r :: l, 0, _ => by
    rw [stL_eq _ _ _ (by simp [rvals_length, Rng.vals]; omega)]; simp [rvals_cons, Rng.vals]
  | r :: l, n + 1, h => by
    have hn : n < l.length := by simpa using h
    have ih := stL_rvals x l n hn
    have hl : n * 4 + x.vals.length ≤ (rvals l).length := by rw [rvals_length]; simp [Rng.vals]; omega
    rw [List.set_cons_succ, rvals_cons, rvals_cons, ← ih]
    simp only [Rng.vals, List.cons_append, List.nil_append, show (n + 1) * 4 = n * 4 + 1 + 1 + 1 + 1 by omega] at hl ⊢
    rw [stL_cons _ _ _ _ (by simp at hl ⊢; omega), stL_cons _ _ _ _ (by simp at hl ⊢; omega), stL_cons _ _ _ _ (by simp at hl ⊢; omega), stL_cons _ _ _ _ hl]
theorem stL_rvals_hi (b : Bnd) : ∀ (l : List Rng) (n : Nat) (r : Rng), l[n]? = some r → stL (n * 4 + 2) [.string b.key, .bool b.top] (rvals l) = rvals (l.set n ⟨r.lo, b⟩)
  | r0 :: l, 0, r, h => by
    obtain rfl : r0 = r := by simpa using h
    rw [stL_eq _ _ _ (by simp [rvals_length]; omega)]; simp [rvals_cons, Rng.vals]
  | r0 :: l, n + 1, r, h => by
    have ih := stL_rvals_hi b l n r (by simpa using h)
    have hn : n < l.length := (List.getElem?_eq_some_iff.1 (by simpa using h : l[n]? = some r)).1
    have hl : n * 4 + 2 + 2 ≤ (rvals l).length := by rw [rvals_length]; omega
    rw [List.set_cons_succ, rvals_cons, rvals_cons, ← ih]
    simp only [Rng.vals, List.cons_append, List.nil_append, show (n + 1) * 4 + 2 = n * 4 + 2 + 1 + 1 + 1 + 1 by omega]
    rw [stL_cons _ _ _ _ (by simp; omega), stL_cons _ _ _ _ (by simp; omega), stL_cons _ _ _ _ (by simp; omega), stL_cons _ _ _ _ (by simpa using hl)]
/-- An element of an own slice of ranges, loaded. -/
theorem dc_ld_os {L : List Oper} {w0 : World} {X : Fr} {R : List Win} {im : List Nat} {Qf : Act → List OB → Prop} {i : Nat} {rr : List Nat} {a a' : Act} {S sl pre post : List OB} {o : Oper} {T E : TypeId} {x : Operand} {g n k cap : Nat} {l : List Rng} {r : Rng}
    (ho : nth L i = some o) (hi : im.contains i = false) (hw : Region.wanted o (yielded L.toArray a.tmps) = true) (hop : o.op = .load T x) (hx : a.eval x = .pointer (some ⟨g, n * 4, none⟩)) (hO : OS sl E 4 (.slice (some ⟨g, 0, none⟩) k cap) k (rvals l)) (hC : Ctx S sl pre post) (hr : l[n]? = some r) (hT : Ty P T 4 true)
    (ha : a.put o.dst (.agg #[.string r.lo.key, .bool r.lo.top, .string r.hi.key, .bool r.hi.top]) = a') (h : DC P L.toArray w0 X R im Qf rr a' S) : DC P L.toArray w0 X R im Qf (i :: rr) a S := by
  refine dc_read ho hi hw (fun w hR => ?_) ha h
  rcases hO.2 with ⟨-, e, -⟩ | ⟨g', cap', sp, rfl, e, h2, h3, h4⟩
  · simp at e
  · simp only [Value.slice.injEq, Option.some.injEq, Addr.mk.injEq, and_true, true_and] at e
    obtain ⟨rfl, rfl⟩ := e
    have hm : (⟨g, E, rvals l ++ sp⟩ : OB) ∈ S := (sub_ctx hC).subset List.mem_cons_self
    have hn := (List.getElem?_eq_some_iff.1 hr).1
    have hv : ((rvals l ++ sp).drop (n * 4)).take 4 = [.string r.lo.key, .bool r.lo.top, .string r.hi.key, .bool r.hi.top] := by
      rw [List.drop_append_of_le_length (by rw [rvals_length]; omega), rvals_drop, List.drop_eq_getElem_cons hn, (List.getElem?_eq_some_iff.1 hr).2, rvals_cons]
      simp [Rng.vals]
    have hr' := run_ld (w := w) hT (hR.cells hm) (off := n * 4) (by simp only [List.length_append, rvals_length]; omega) (by simp)
    simp only [ldV, hv] at hr'
    unfold execOp
    rw [hop]
    simp only [hx, Instr.loadAt, Instr.sureAddr, Sem.run_bind, Sem.run_pure, Result.andThen_ok, hr']
end
end Go.Proofs.YtddjhemncniidaaDoor
