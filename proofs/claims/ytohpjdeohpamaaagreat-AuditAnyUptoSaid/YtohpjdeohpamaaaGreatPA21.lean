/-
  Lemmas: Further rules over states
-/
import Derived.Test.YtohpjdeohpamaaaGreatPA15
import Derived.Scope
set_option linter.unusedSimpArgs false
set_option linter.unusedVariables false
namespace Go.Proofs.YtohpjdeohpamaaaGreat
open Go.RowKit
theorem vws_app {H : Hp} {f : List (Nat × Nat)} : ∀ {a b c d : List V}, Vws H f a b → Vws H f c d → Vws H f (a ++ c) (b ++ d)
  | _, _, _, _, .nil, h => h
  | _, _, _, _, .cons h1 h2, h => .cons h1 (vws_app h2 h)
theorem vws_q {H : Hp} {f : List (Nat × Nat)} : ∀ qs : List (List D), Vws H f (qs.map V.q) (qs.map V.q)
  | [] => .nil
  | q :: qs => .cons (.q q) (vws_q qs)
theorem RQs.rvs {w : World} {ok : Nat → Prop} {ρ : Lc} : ∀ {qs : List (List D)} {vs : List Value}, RQs w ok qs vs → RVs w ok ρ (qs.map V.q) vs
  | _, _, .nil => .nil
  | _, _, .cons h1 h2 h3 h4 => .cons (.q h1 h2 h3) h4.rvs
def evq (sl : List (Nat × V)) : List Operand → Option (List (List D))
  | [] => some []
  | x :: r => match ev sl x, evq sl r with
    | some (.q xs), some l => some (xs :: l)
    | _, _ => none
theorem evq_spec {B : Nat → Prop} {sl : List (Nat × V)} {ρ : Lc} {a : Act} {w : World} (hs : SR B sl ρ a w) : ∀ {xs : List Operand} {qs : List (List D)}, evq sl xs = some qs → RQs w (okb B w ρ) qs (xs.map a.eval)
  | [], qs, h => by simp only [evq, Option.some.injEq] at h; subst h; exact .nil
  | x :: r, qs, h => by
    simp only [evq] at h
    split at h
    · rename_i xs l h1 h2
      obtain rfl := Option.some.inj h
      have h3 := ev_spec hs h1
      rw [List.map_cons]
      generalize a.eval x = v at h3
      cases h3 with
      | q g1 g2 g3 => exact .cons g1 g2 g3 (evq_spec hs h2)
    · cases h
section
variable {P : Program} {o : Oper} {H : Hp} {sl : List (Nat × V)} {x y z : Operand} {f : FuncId} {T U t K E : TypeId} {k d n m bytes : Nat} {u u' : V} {qs : List (List D)} {us uc cs ws : List V} {ats : Array TypeId} {xs : Array Operand}
theorem o_mkfn (hop : o.op = .makeFunc (.func f) #[] xs) (hq : evq sl xs.toList = some qs) : OpD P o H sl 0 0 (.d (.fn f qs)) [] := .read fun B a w ρ hs _ => by
  have e : xs.map a.eval = (xs.toList.map a.eval).toArray := by apply Array.ext'; simp
  refine ⟨.func (.func f) #[] (xs.toList.map a.eval).toArray, ?_, .d (.fn (evq_spec hs hq))⟩
  unfold execOp; rw [hop]
  simp [Instr.makeFunc, e]
theorem o_callf (M : Nat) (hs : Spec P f (us ++ qs.map V.q) [] fun u1 h1 => u1 = u ∧ h1 = [])
    (hop : o.op = .call { callee := .value x, args := xs, argTypes := ats }) (hx : ev sl x = some (.d (.fn f qs))) (ha : evl sl xs.toList = some uc) (hv : Vws [] [] uc us) (hu : u.ren (rn [] M) = u') :
    OpV P o H sl M 100 fun u1 h1 => u1 = u' ∧ h1 = [] := fun B a w ρ hup hd hsr hr hfr => by
  have hargs := evl_spec hsr ha
  obtain ⟨vq, hxe, hq⟩ : ∃ vq : List Value, a.eval x = .func (.func f) #[] vq.toArray ∧ RQs w (okb B w ρ) qs vq := by
    have h := ev_spec hsr hx
    generalize a.eval x = v at h
    cases h with
    | d h => cases h with
      | fn h => exact ⟨_, rfl, h⟩
  have hr0 : HR B [] ρ w := ⟨fun k blk h => by simp [look] at h, fun k k' blk blk' l l' b h => by simp [look] at h, hr.lt, hr.gl⟩
  have hok : ∀ b, okb B w ρ b → okb (inOld ρ B w) w (sub ρ []) b := fun b ⟨h1, h2, h3⟩ => ⟨h1, .inl ⟨h2, h3⟩, fun i l hi => by
    obtain ⟨k, -, h4⟩ := sub_inv hi; exact h3 k l h4⟩
  have hargs' := Vws.rvs (ok' := okb (inOld ρ B w) w (sub ρ [])) hr0 hok (fun k blk l b _ h => by simp [look] at h) (vws_app hv (vws_q qs)) (hargs.append hq.rvs)
  have hview : HR (inOld ρ B w) [] (sub ρ []) w := HR.view (H' := []) (f := []) hr hok (fun k blk l b _ h => by simp [look] at h) (fun k x h => by simp [look] at h) rfl rfl VH.nil
  have hlive : ∀ i l, sub ρ [] i = some l → ∃ blk, look ([] : Hp) i = some (some blk) := fun i l hi => by
    obtain ⟨k, h1, -⟩ := sub_inv hi; simp [look] at h1
  have h100 : ∀ i k, look ([] : List (Nat × Nat)) i = some k → i < 100 := fun i k h1 => by simp [look] at h1
  have hcall := hs.run (inOld ρ B w) w (sub ρ []) _ (fun b hb => .inr hb) hargs' hview hlive
  obtain ⟨fn, hf1, hf2, hf3⟩ := hs.fn
  have hrun : (execOp a.eval o).run P w = .ok (.enter f (xs.toList.map a.eval ++ vq).toArray) w := by
    unfold execOp; rw [hop]
    have e : xs.map a.eval = (xs.toList.map a.eval).toArray := by apply Array.ext'; simp
    have h1 : ¬ fn.name = "runtime.NumGoroutine" := by simpa using hf2
    have h2 : ¬ fn.body = none := fun e => by rw [e] at hf3; cases hf3
    simp [resolve, hxe, Deferred.ofValue, invoke, callFunc, program, Sem.run, hf1, h1, h2, e]
  unfold Oper.wp
  rw [hrun, Oper.upon_enter]
  refine hcall.mono ?_
  rintro e w' ⟨r, u1, h, ρ1, rfl, ⟨rfl, rfl⟩, hst, hrv, hlt⟩
  obtain ⟨ρ', h1, h2, h3⟩ := hst.ren hr rfl rfl hfr hlt h100 (fun b h => h) hup
  exact ⟨r, _, _, ρ', rfl, ⟨hu, rfl⟩, h1, (hrv.ren h2).okmono h3⟩
theorem o_slice3 {lo hi mx : Operand} {z il ih len : Nat} [hS : Sl P t E z bytes] (hop : o.op = .slice t x (some lo) (some hi) (some mx)) (hx : ev sl x = some (.h k)) (hH : look H k = some (some (.arr E z len cs))) (hlo : ev sl lo = some (vI (il : Int))) (hhi : ev sl hi = some (vI (ih : Int))) (hmx : ev sl mx = some (vI (ih : Int))) (h1 : il ≤ ih) (h2 : ih ≤ len) :
    OpD P o H sl 0 0 (.sc k il (ih - il) z) [] := .read fun B a w ρ hs hr => by
  have hx' := ev_spec hs hx
  have el := rv_c (ev_spec hs hlo)
  have eh := rv_c (ev_spec hs hhi)
  have em := rv_c (ev_spec hs hmx)
  obtain ⟨i, zv, hi', hz, rfl, rfl, hzs⟩ := hS.el
  have ht := hS.un
  obtain ⟨l, g1, g2⟩ := hr.rel _ _ hH
  have run : ∀ (pa : Option Addr) (cap : Nat), len ≤ cap → (Instr.sliceAt t (.slice pa len cap) (some (a.eval lo)) (some (a.eval hi)) (some (a.eval mx))).run P w = .ok (.slice (if ih = il then pa else pa.map (·.add (il * i.size))) (ih - il) (ih - il)) w := fun pa cap hc => by
    have h3 : ih ≤ cap := Nat.le_trans h2 hc
    simp [Instr.sliceAt, Instr.slice, run_underlying ht, Instr.sliceBounds, el, eh, em, run_bound rfl h1, run_bound rfl (Nat.le_refl ih), run_bound rfl h3, sizeOf, typeInfo, program, Sem.run, hi']
  unfold execOp; rw [hop]
  generalize e : a.eval x = vx at hx'
  cases hx' with
  | h hp =>
    rw [g1] at hp
    obtain rfl := Option.some.inj hp
    rcases g2 with ⟨h3, rfl, rfl⟩ | ⟨g, cap, us, sp, h3, h4, h5, h6, h7, h8, h9, h10⟩
    · rw [h3] at e
      obtain rfl : ih = 0 := by omega
      obtain rfl : il = 0 := by omega
      refine ⟨_, by simp only [Option.map_some, e, Sem.run_bind, run none 0 (Nat.le_refl _), Result.andThen_ok, Sem.run_pure]; rfl, ?_⟩
      exact .sc0
    · rw [h3] at e g1
      refine ⟨_, by simp only [Option.map_some, e, Sem.run_bind, run (some ⟨g, 0, none⟩) cap h4, Result.andThen_ok, Sem.run_pure]; rfl, ?_⟩
      by_cases hci : ih = il
      · subst hci
        simp only [Nat.sub_self, if_true]
        exact .sc0
      · rw [if_neg hci]
        simp only [Option.map_some, addr_add, Nat.zero_add]
        exact .sc g1 (by omega) h4 (by omega)
theorem o_append_sc (k' : Nat) {z N o1 : Nat} {uy : V} [hS : Sl P t E z bytes] (hop : o.op = .call { callee := .builtin .append, args := #[x, y], argTypes := #[t, t] }) (hx : ev sl x = some (.sc k o1 n z)) (hy : ev sl y = some uy) (hH : look H k = some (some (.arr E z N cs))) (hsrc : srcV H uy = some (m, ws)) (hws : ws.length = m * z)
    (hb : (n + m) * bytes ≤ 140737488355328) (hm : n + m ≤ 9223372036854775807) (hm0 : 0 < m) : OpD P o H sl k' 1 (.h k') [(k', some (.arr E z (n + m) ((cs.drop (o1 * z)).take (n * z) ++ ws)))] := fun B a w ρ hs hr hfr => by
  have hfr := hfr k' (Nat.le_refl _) (by omega)
  obtain ⟨i, zv, hi, hz, rfl, rfl, hzs⟩ := hS.el
  have ht := hS.un
  obtain ⟨px, cx, hv, hmc, hxx⟩ := srcV_spec hr hsrc (ev_spec hs hy)
  have hx' := ev_spec hs hx
  obtain ⟨l, g1, g2⟩ := hr.rel _ _ hH
  have fin : ∀ (v v' : Value) (w' : World), a.eval x = v → (Builtin.append_ #[t, t] o.type #[v, .slice px m cx]).run P w = .ok v' w' → (execOp a.eval o).run P w = .ok (.value v') w' := fun v v' w' e hrun => by
    unfold execOp; rw [hop]
    simp [resolve, invoke, builtin, e, hv, hrun]
  obtain ⟨b, o0, vs, rfl, hbw, hvs, hone, hcell⟩ := hxx.resolve_left (by omega)
  have hvl := hvs.length
  have hnews : ∀ j u, vs[j]? = some u → w.cell? ((⟨b, o0, none⟩ : Addr).add j) = some u := fun j u hj => by rw [addr_add]; exact hcell j u hj
  have grow : ∀ (g og : Nat) (us : List Value), RVs w (okb B w ρ) ρ ((cs.drop (o1 * i.size)).take (n * i.size)) us → us.length = n * i.size → us.all Value.oneCell' = true → (∀ j u, us[j]? = some u → w.cell? ((⟨g, og, none⟩ : Addr).add j) = some u) → a.eval x = .slice (some ⟨g, og, none⟩) n n →
      ∃ nx v w' ρ', (execOp a.eval o).run P w = .ok nx w' ∧ (nx = .value v ∨ nx = .skip ∧ v = undef) ∧ Step B H [(k', some (.arr E i.size (n + m) ((cs.drop (o1 * i.size)).take (n * i.size) ++ ws)))] ρ ρ' w w' ∧ RV w' (okb B w' ρ') ρ' (.h k') v := fun g og us h8 h6 h7 holds e => by
    have hlen : (us ++ vs).length = (n + m) * i.size := by rw [List.length_append, h6, hvl, hws, Nat.add_mul]
    have hr0 := run_append_grow (P := P) w t o.type E i zv ht hi hz ⟨g, og, none⟩ n n us h6 holds ⟨b, o0, none⟩ m cx vs (by omega) hnews (by omega) (by omega) (growslice_fits (by omega) hb)
    rw [List.append_toArray, ta] at hr0
    have hge := grownCap_ge w (n + m) n E
    have hle := grownCap_le_maxLen w (n + m) n E (by unfold maxLen; omega)
    refine ⟨_, _, _, _, fin _ _ _ e hr0, .inl rfl, Step.arr (l := .arr (.slice (some ⟨w.heap.size, 0, none⟩) (n + m) (grownCap w (n + m) n E))) none hfr rfl rfl rfl (by simp) (fun b hb _ => Below.heap_alloc w.drew _ _ hb) (fun b e => by simp only [Loc.bl] at e; subst e; exact .inl ⟨Nat.le_refl _, by simp⟩) (by simp) fun ok' ρ' h1 h2 => .inr ⟨w.heap.size, _, us ++ vs, _, rfl, hge, hle, heap_alloc_new w.drew _, ?_, hlen, ?_, (h8.mono h1 h2).append (hvs.mono h1 h2)⟩, .h (upd_self _ _ _)⟩
    · simp only [List.length_append, List.size_toArray, Array.length_toList, size_zeroCells, hzs] at hlen ⊢
      rw [hlen, ← Nat.add_mul]
      congr 1; omega
    · rw [List.all_append, h7, hone]; rfl
  generalize e : a.eval x = vx at hx'
  cases hx' with
  | sc hp hl hN hn =>
    rw [g1] at hp
    obtain rfl := Option.some.inj hp
    rcases g2 with ⟨h1, rfl, rfl⟩ | ⟨g, cap, us, sp, h1, h2, h3, h4, h5, h6, h7, h8⟩
    · cases h1
    · cases h1
      have hmul := Nat.mul_le_mul_right i.size hl
      rw [Nat.add_mul] at hmul
      refine grow _ _ ((us.drop (o1 * i.size)).take (n * i.size)) ((h8.drop _).take _) (by rw [List.length_take, List.length_drop]; omega) (List.all_eq_true.2 fun x hx => List.all_eq_true.1 h7 x (List.mem_of_mem_drop (List.mem_of_mem_take hx))) (fun j u hj => ?_) e
      rw [List.getElem?_take] at hj
      split at hj
      · rw [List.getElem?_drop] at hj
        rw [addr_add, World.cell?, h4]
        simp [List.getElem?_append_left (List.getElem?_eq_some_iff.1 hj).1, hj]
      · cases hj
  | sc0 =>
    rename_i p
    cases p with
    | some ad =>
      obtain ⟨g, og, sp⟩ := ad
      have hr0 := run_append_grow (P := P) w t o.type E i zv ht hi hz ⟨g, og, sp⟩ 0 0 [] (by simp) (by simp) ⟨b, o0, none⟩ m cx vs (by omega) hnews (by omega) (by omega) (growslice_fits (by omega) hb)
      rw [List.append_toArray, ta] at hr0
      have hge := grownCap_ge w (0 + m) 0 E
      have hle := grownCap_le_maxLen w (0 + m) 0 E (by unfold maxLen; omega)
      refine ⟨_, _, _, _, fin _ _ _ e hr0, .inl rfl, Step.arr (l := .arr (.slice (some ⟨w.heap.size, 0, none⟩) (0 + m) (grownCap w (0 + m) 0 E))) none hfr rfl rfl rfl (by simp) (fun b hb _ => Below.heap_alloc w.drew _ _ hb) (fun b e => by simp only [Loc.bl] at e; subst e; exact .inl ⟨Nat.le_refl _, by simp⟩) (by simp) fun ok' ρ' h1 h2 => .inr ⟨w.heap.size, _, vs, _, rfl, hge, hle, heap_alloc_new w.drew _, ?_, by rw [Nat.zero_add]; omega, hone, by simpa using hvs.mono h1 h2⟩, .h (upd_self _ _ _)⟩
      simp only [List.length_append, List.size_toArray, Array.length_toList, size_zeroCells, hzs, List.nil_append, hvl, hws, ← Nat.add_mul]
      congr 1; omega
    | none =>
      have hr0 := run_append_nil (P := P) w t o.type E i zv ht hi hz ⟨b, o0, none⟩ m cx vs (by omega) (fun j u hj => by rw [addr_add]; exact hcell j u hj) hm0 (by omega) (by simp only [Nat.zero_add] at hb; omega)
      rw [ta] at hr0
      have hge := grownCap_ge w m 0 E
      have hle := grownCap_le_maxLen w m 0 E (by unfold maxLen; omega)
      refine ⟨_, _, _, _, fin _ _ _ e hr0, .inl rfl, Step.arr (l := .arr (.slice (some ⟨w.heap.size, 0, none⟩) m (grownCap w m 0 E))) none hfr rfl rfl rfl (by simp) (fun b hb _ => Below.heap_alloc w.drew _ _ hb) (fun b e => by simp only [Loc.bl] at e; subst e; exact .inl ⟨Nat.le_refl _, by simp⟩) (by simp) fun ok' ρ' h1 h2 => .inr ⟨w.heap.size, _, vs, _, by simp, by omega, hle, heap_alloc_new w.drew _, ?_, by simp; omega, hone, by simpa using hvs.mono h1 h2⟩, .h (upd_self _ _ _)⟩
      simp only [List.length_append, List.size_toArray, Array.length_toList, size_zeroCells, hzs, hvl, hws, ← Nat.add_mul]
      congr 1; omega
theorem o_slv3 {α : Type} {f : α → List D} {zz : Nat} {lo hi mx : Operand} {xs ys : List α} {i j : Int} (hg : lsl xs i j = some ys) [hS : Sl P t E zz bytes] [hL : Len f zz] (hop : o.op = .slice t x (some lo) (some hi) (some mx)) (hx : ev sl x = some (.h k)) (hH : look H k = some (some (arrT E zz f xs))) (hlo : ev sl lo = some (vI i)) (hhi : ev sl hi = some (vI j)) (hmx : ev sl mx = some (vI j)) : OpD P o H sl 0 0 (.sc k i.toNat ys.length zz) [] := by
  obtain ⟨a, b, rfl, rfl, h1, h2, -, h4⟩ := lsl_v hg
  rw [h4]
  exact o_slice3 hop hx hH hlo hhi hmx h1 h2
theorem n_appsc {α : Type} {f : α → List D} {zz : Nat} {xs l1 ys r : List α} {i j : Int} {k' : Nat} (hg : app l1 ys = some r) (h1 : lsl xs i j = some l1) (hy0 : ys ≠ []) [hS : Sl P t E zz bytes] [hL : Len f zz] (hop : o.op = .call { callee := .builtin .append, args := #[x, y], argTypes := #[t, t] }) (hd : o.dst = some d) (hk : d + 100 = k') (hx : ev sl x = some (.sc k i.toNat l1.length zz)) (hy : ev sl y = some (.d (lst f ys))) (hH : look H k = some (some (arrT E zz f xs))) (hb : Nat.ble bytes 32768 = true) : OpD P o H sl k' 1 (.h k') [(k', some (arrT E zz f r))] := by
  obtain ⟨hl, rfl⟩ := app_o hg
  obtain ⟨a, b, rfl, rfl, p1, p2, p3, p4⟩ := lsl_v h1
  have hw : (((((xs.flatMap f).map V.d).drop (a * zz)).take (l1.length * zz)) : List V) = (l1.flatMap f).map V.d := by
    rw [← List.map_drop, ← List.map_take, flat_drop hL.len, flat_take hL.len, p4, ← p3]
  have key := o_append_sc (P := P) (H := H) (cs := (xs.flatMap f).map V.d) (ws := (ys.flatMap f).map V.d) (m := ys.length) (n := l1.length) (o1 := a) k' hop hx hy hH rfl (by rw [List.length_map, flat_len hL.len]) (le_by hl hb) (by omega) (List.length_pos_iff.2 hy0)
  rw [hw, ← List.map_append, ← List.flatMap_append, ← List.length_append] at key
  exact key
end
section
variable {α : Type}
def mlk (z : α) (i : Int) : List (Int × α) → α
  | [] => z
  | (a, v) :: r => if i = a then v else mlk z i r
def mhas (i : Int) : List (Int × α) → Bool
  | [] => false
  | (a, _) :: r => if i = a then true else mhas i r
def midx (i : Int) : List (Int × α) → Nat
  | [] => 0
  | (a, _) :: r => if i = a then 0 else midx i r + 1
def ment (z : α) (i : Int) : List (Int × α) → List (Int × α)
  | [] => [(i, z)]
  | (a, v) :: r => if i = a then (a, v) :: r else (a, v) :: ment z i r
def mputN (v : α) : Nat → List (Int × α) → List (Int × α)
  | _, [] => []
  | 0, (a, _) :: r => (a, v) :: r
  | n + 1, e :: r => e :: mputN v n r
def mput (es : List (Int × α)) (s : Int) (v : α) : Option (List (Int × α)) := if 0 ≤ s ∧ s < es.length then some (mputN v s.toNat es) else none
def mset (i : Int) (v : α) : List (Int × α) → List (Int × α)
  | [] => [(i, v)]
  | (a, u) :: r => if i = a then (a, v) :: r else (a, u) :: mset i v r
theorem midx_lt {i : Int} : ∀ {es : List (Int × α)}, mhas i es = true → midx i es < es.length
  | [], h => by simp [mhas] at h
  | (a, v) :: r, h => by
    simp only [mhas] at h
    simp only [midx]
    split at h
    · rename_i e; rw [if_pos e]; simp
    · rename_i e; rw [if_neg e]; have := midx_lt h; simp; omega
theorem mget_at {z : α} {i : Int} : ∀ {es : List (Int × α)}, mhas i es = true → es[midx i es]? = some (i, mlk z i es)
  | [], h => by simp [mhas] at h
  | (a, v) :: r, h => by
    simp only [mhas] at h
    simp only [midx, mlk]
    split at h
    · rename_i e; subst e; simp
    · rename_i e; rw [if_neg e, if_neg e]; simpa using mget_at h
theorem mlk_no {z : α} {i : Int} : ∀ {es : List (Int × α)}, mhas i es = false → mlk z i es = z ∧ midx i es = es.length ∧ ment z i es = es ++ [(i, z)]
  | [], _ => ⟨rfl, rfl, rfl⟩
  | (a, v) :: r, h => by
    simp only [mhas] at h
    simp only [midx, mlk, ment]
    split at h
    · cases h
    · rename_i e
      obtain ⟨h1, h2, h3⟩ := mlk_no (z := z) h
      rw [if_neg e, if_neg e, if_neg e]
      exact ⟨h1, by simp [h2], by rw [h3]; rfl⟩
theorem ment_yes {z : α} {i : Int} : ∀ {es : List (Int × α)}, mhas i es = true → ment z i es = es
  | [], h => by simp [mhas] at h
  | (a, v) :: r, h => by
    simp only [mhas] at h
    simp only [ment]
    split at h
    · rename_i e; rw [if_pos e]
    · rename_i e; rw [if_neg e, ment_yes h]
theorem mputN_len (v : α) : ∀ (n : Nat) (es : List (Int × α)), (mputN v n es).length = es.length
  | _, [] => by simp [mputN]
  | 0, (a, u) :: r => by simp [mputN]
  | n + 1, e :: r => by simp [mputN, mputN_len v n r]
theorem mput_ment {z v : α} {i : Int} : ∀ (es : List (Int × α)), mputN v (midx i es) (ment z i es) = mset i v es
  | [] => by simp [ment, midx, mputN, mset]
  | (a, u) :: r => by
    simp only [ment, midx, mset]
    by_cases e : i = a
    · simp [e, mputN]
    · simp only [if_neg e, mputN, mput_ment r]
theorem ment_len {z : α} {i : Int} (es : List (Int × α)) : midx i es < (ment z i es).length := by
  cases h : mhas i es with
  | true => rw [ment_yes h]; exact midx_lt h
  | false => obtain ⟨-, h2, h3⟩ := mlk_no (z := z) h; rw [h2, h3]; simp
theorem mput_o {z v : α} {i : Int} (es : List (Int × α)) : mput (ment z i es) (midx i es : Int) v = some (mset i v es) := by
  have := ment_len (z := z) (i := i) es
  unfold mput
  rw [if_pos (by omega), Int.toNat_natCast, mput_ment]
abbrev mtT (ag : Bool) (f : α → List D) (es : List (Int × α)) : Blk := .mt ag (es.map fun e => (e.1, f e.2))
theorem find_y {i : Int} : ∀ (es : List (Int × α)) (l : List MapEntry) (n : Nat), l.map (·.key) = es.map (fun e => Value.int .i64 e.1) → mhas i es = true → ∃ e, l[midx i es]? = some e ∧ e.key = .int .i64 i ∧ Instr.findNow (.int .i64) (.int .i64 i) l n = some (some (n + midx i es, e.val))
  | [], _, _, _, h => by simp [mhas] at h
  | (a, v) :: r, [], _, h, _ => by simp at h
  | (a, v) :: r, e :: l, n, hk, h => by
    simp only [List.map_cons, List.cons.injEq] at hk
    simp only [mhas] at h
    simp only [midx, Instr.findNow, hk.1, Instr.sameNow]
    by_cases c : i = a
    · subst c; simp [hk.1]
    · rw [if_neg c] at h
      rw [if_neg c]
      obtain ⟨e', g1, g0, g2⟩ := find_y r l (n + 1) hk.2 h
      have : (i == a) = false := by simpa using c
      simp only [this]
      exact ⟨e', by simpa using g1, g0, by simp only [if_true]; rw [g2]; congr 3; omega⟩
theorem find_n {i : Int} : ∀ (es : List (Int × α)) (l : List MapEntry) (n : Nat), l.map (·.key) = es.map (fun e => Value.int .i64 e.1) → mhas i es = false → Instr.findNow (.int .i64) (.int .i64 i) l n = some none
  | [], [], _, _, _ => rfl
  | [], _ :: _, _, h, _ => by simp at h
  | (a, v) :: r, [], _, h, _ => by simp at h
  | (a, v) :: r, e :: l, n, hk, h => by
    simp only [List.map_cons, List.cons.injEq] at hk
    simp only [mhas] at h
    simp only [Instr.findNow, hk.1, Instr.sameNow]
    by_cases c : i = a
    · subst c; simp at h
    · rw [if_neg c] at h
      have : (i == a) = false := by simpa using c
      simp only [this]
      simpa using find_n r l (n + 1) hk.2 h
end
section
variable {P : Program} {o : Oper} {H : Hp} {sl : List (Nat × V)} {x y z s v : Operand} {t K E : TypeId} {k d : Nat} {u uv : V} {α : Type} {f : α → List D} {ag : Bool} {es es' : List (Int × α)} {zz w0 : α} {zv : Value} {i : Int}
theorem mt_map {B : Nat → Prop} {a : Act} {w : World} {ρ : Lc} (hs : SR B sl ρ a w) (hr : HR B H ρ w) (hx : ev sl x = some (.mp k)) (hH : look H k = some (some (mtT ag f es))) : ∃ b em, ρ k = some (.box b) ∧ a.eval x = .map (some b) ∧ w.heap[b]? = some (.map em es.length) ∧ em.toList.map (·.key) = es.map (fun e => .int .i64 e.1) ∧ em.toList.map (·.born) = List.range es.length ∧ RVs w (okb B w ρ) ρ (es.map fun e => mvV ag (f e.2)) (em.toList.map (·.val)) := by
  obtain ⟨l, g1, g2⟩ := hr.rel _ _ hH
  have hx' := ev_spec hs hx
  cases l with
  | tr _ _ => exact g2.elim
  | arr v => exact g2.elim
  | box b =>
    obtain ⟨em, h1, h2, h3, h4⟩ := g2
    rw [List.length_map] at h1 h3
    rw [List.map_map] at h2 h4
    refine ⟨b, em, g1, ?_, h1, h2, h3, h4⟩
    generalize a.eval x = vx at hx'
    cases hx' with
    | mp hp => rw [g1] at hp; simp only [Option.some.injEq, Loc.box.injEq] at hp; rw [hp]
theorem o_mkmt (f : α → List D) (ag : Bool) (hop : o.op = .makeMap t none) (hd : o.dst = some d) (hk : d + 100 = k) : OpD P o H sl k 1 (.mp k) [(k, some (mtT ag f []))] := fun B a w ρ hs hr hfr => by
  have hkk := hfr k (Nat.le_refl _) (by omega)
  refine ⟨_, .map (some w.heap.size), w.alloc (.map #[] 0), upd ρ k (.box w.heap.size), ?_, .inl rfl, Step.new1 hkk (fun _ h => h) (.inl rfl) fun ok' ρ' _ _ h => ⟨#[], h, rfl, rfl, .nil⟩, .mp (upd_self _ _ _)⟩
  unfold execOp; rw [hop]
  simp [Instr.makeMap, run_newObj]
theorem o_lkt {c : Bool} (hop : o.op = .lookup t x y c) (hx : ev sl x = some (.mp k)) (hy : ev sl y = some (vI i)) (hH : look H k = some (some (mtT ag f es))) (hM : Mp P t K E) (hK : P.underlying K = some (.int .i64)) (hz0 : (P.info? E).bind (·.zero) = some zv) (hz : ∀ w ok ρ, RV w ok ρ (mvV ag (f zz)) zv)
    (hu : (bif c then .t [mvV ag (f (mlk zz i es)), vB (mhas i es)] else mvV ag (f (mlk zz i es))) = u) : OpD P o H sl 0 0 u [] := .read fun B a w ρ hs hr => by
  subst hu
  have ht := hM.out
  have hzr := fun w => zeroE_run (w := w) hz0
  obtain ⟨b, em, g1, e, h1, h2, h3, h4⟩ := mt_map hs hr hx hH
  have hy' := rv_c (ev_spec hs hy)
  have f2 := MapKept.run_checkKey (P := P) (w := w) (k := .int .i64 i) hK rfl em.isEmpty 9999
  simp only [Nat.reduceAdd] at f2
  have key : ∃ v, RV w (okb B w ρ) ρ (mvV ag (f (mlk zz i es))) v ∧ (Instr.lookup t (.map (some b)) (.int .i64 i) c).run P w = .ok (if c = true then .tuple #[v, .bool (mhas i es)] else v) w := by
    cases hh : mhas i es with
    | true =>
      obtain ⟨en, q1, -, q2⟩ := find_y es em.toList 0 h2 hh
      have f1 := MapKept.run_findKey (P := P) (w := w) hK q2
      have q3 : (es.map fun e => mvV ag (f e.2))[midx i es]? = some (mvV ag (f (mlk zz i es))) := by rw [List.getElem?_map, mget_at (z := zz) hh]; rfl
      obtain ⟨v, q4, q5⟩ := h4.get q3
      rw [List.getElem?_map, q1] at q4
      obtain rfl := Option.some.inj q4
      refine ⟨_, q5, ?_⟩
      simp [Instr.lookup, run_underlying ht, Result.andThen, MapKept.run_getObj_map h1, f2, f1]
    | false =>
      have f1 := MapKept.run_findKey (P := P) (w := w) hK (find_n es em.toList 0 h2 hh)
      refine ⟨zv, by rw [(mlk_no (z := zz) hh).1]; exact hz _ _ _, ?_⟩
      simp [Instr.lookup, run_underlying ht, Result.andThen, MapKept.run_getObj_map h1, f2, f1, hzr]
  obtain ⟨v, k1, k2⟩ := key
  refine ⟨_, by unfold execOp; rw [hop]; simp [e, hy', k2, Result.andThen]; rfl, ?_⟩
  cases c with
  | true => exact .t (.cons k1 (.cons (.d (.c rfl)) .nil))
  | false => exact k1
theorem RVs.set {w : World} {ok : Nat → Prop} {ρ : Lc} : ∀ {us : List V} {vs : List Value} (j : Nat) {u : V} {v : Value}, RVs w ok ρ us vs → RV w ok ρ u v → RVs w ok ρ (us.set j u) (vs.set j v)
  | _, _, _, _, _, .nil, _ => .nil
  | _, _, 0, _, _, .cons _ h2, h => .cons h h2
  | _, _, j + 1, _, _, .cons h1 h2, h => .cons h1 (h2.set j h)
theorem set_same {β : Type} : ∀ {l : List β} {j : Nat} {x : β}, l[j]? = some x → l.set j x = l
  | [], _, _, h => by simp at h
  | a :: l, 0, x, h => by simp at h; simp [h]
  | a :: l, j + 1, x, h => by simp at h; simp [set_same h]
theorem modify_set {β : Type} {em : Array β} {j : Nat} {e : β} (g : β → β) (h : em.toList[j]? = some e) : (em.modify j g).toList = em.toList.set j (g e) := by
  apply List.ext_getElem?
  intro n
  rw [Array.toList_modify, List.getElem?_modify, List.getElem?_set]
  by_cases c : j = n
  · subst c
    have := (List.getElem?_eq_some_iff.1 h).1
    have this' : j < em.size := by simpa using this
    have h2 : em[j]? = some e := by simpa using h
    obtain ⟨_, h3⟩ := Array.getElem?_eq_some_iff.1 h2
    simp [h, this', h3]
  · simp [c]
theorem mput_keys {w0 : α} : ∀ (n : Nat) (es : List (Int × α)), (mputN w0 n es).map (fun e => Value.int .i64 e.1) = es.map (fun e => Value.int .i64 e.1)
  | _, [] => by simp [mputN]
  | 0, (a, u) :: r => by simp [mputN]
  | n + 1, e :: r => by simp [mputN, mput_keys n r]
theorem mput_vals {w0 : α} {β : Type} (g : α → β) : ∀ (n : Nat) (es : List (Int × α)), (mputN w0 n es).map (fun e => g e.2) = (es.map fun e => g e.2).set n (g w0)
  | _, [] => by simp [mputN]
  | 0, (a, u) :: r => by simp [mputN]
  | n + 1, e :: r => by simp [mputN, mput_vals g n r]
theorem born_at {em : Array MapEntry} {n j : Nat} (h : em.toList.map (·.born) = List.range n) (hj : j < n) : em.findIdx? (fun e => (e.born : Int) == (j : Int)) = some j := by
  have hl : em.size = n := by have := congrArg List.length h; simpa using this
  have hb : ∀ q (hq : q < em.size), em[q].born = q := fun q hq => by
    have h1 : (em.toList.map (·.born))[q]? = some q := by rw [h, List.getElem?_range (by omega)]
    rw [List.getElem?_map] at h1
    simpa [hq] using h1
  have hj' : j < em.size := by omega
  rw [Array.findIdx?_eq_some_iff_getElem]
  refine ⟨hj', by simp [hb j hj'], fun q hq => ?_⟩
  have := hb q (by omega)
  simp [this]; omega
theorem mt_step {B : Nat → Prop} {w : World} {ρ : Lc} {b : Nat} {em' : Array MapEntry} {ob : Obj} (hr : HR B H ρ w) (hH : look H k = some (some (mtT ag f es))) (g1 : ρ k = some (.box b)) (h1 : w.heap[b]? = some ob) (k1 : em'.toList.map (·.key) = es'.map (fun e => .int .i64 e.1)) (k2 : em'.toList.map (·.born) = List.range es'.length) (k3 : RVs w (okb B w ρ) ρ (es'.map fun e => mvV ag (f e.2)) (em'.toList.map (·.val))) :
    Step B H [(k, some (mtT ag f es'))] ρ ρ w { w with heap := w.heap.setIfInBounds b (.map em' es'.length) } :=
  Step.set1 g1 hH rfl (by simp) rfl rfl rfl (fun j hj => set_other w b j _ hj) fun ok' hs' => ⟨em', by rw [List.length_map]; exact set_self w b _ _ h1, by rw [List.map_map]; exact k1, by rw [List.length_map]; exact k2, by rw [List.map_map]; exact k3.mono hs' (fun _ _ h => h)⟩
theorem o_ment (hop : o.op = .mapEntry t x y) (hx : ev sl x = some (.mp k)) (hy : ev sl y = some (vI i)) (hH : look H k = some (some (mtT ag f es))) (hM : Mp P t K E) (hK : P.underlying K = some (.int .i64)) (hz0 : (P.info? E).bind (·.zero) = some zv) (hz : ∀ w ok ρ, RV w ok ρ (mvV ag (f zz)) zv)
    (hu : V.t [.un, vI (midx i es : Int)] = u) (he : ment zz i es = es') : OpD P o H sl 0 0 u [(k, some (mtT ag f es'))] := fun B a w ρ hs hr _ => by
  subst hu he
  have ht := hM.out
  have hzr := fun w => zeroE_run (w := w) hz0
  obtain ⟨b, em, g1, e, h1, h2, h3, h4⟩ := mt_map hs hr hx hH
  have hy' := rv_c (ev_spec hs hy)
  have f2 := MapKept.run_checkKey (P := P) (w := w) (k := .int .i64 i) hK rfl false 9999
  simp only [Nat.reduceAdd] at f2
  cases hh : mhas i es with
  | true =>
    obtain ⟨en, q1, q0, q2⟩ := find_y es em.toList 0 h2 hh
    have f1 := MapKept.run_findKey (P := P) (w := w) hK q2
    have hlt := midx_lt hh
    have hborn : en.born = midx i es := by
      have := congrArg (fun l => l[midx i es]?) h3
      simp only [List.getElem?_map, q1, Option.map_some] at this
      rw [List.getElem?_range hlt] at this
      exact Option.some.inj this
    have hemq : em[midx i es]? = some en := by simpa using q1
    have hsame : em.modify (midx i es) (fun e => { e with key := .int .i64 i }) = em := by
      apply Array.ext'
      rw [modify_set _ q1]
      have : ({ en with key := .int .i64 i } : MapEntry) = en := by cases en; simp at q0; simp [q0]
      rw [this]; exact set_same q1
    have hst := MapKept.run_keyThatStays (P := P) (w := w) (d := .int .i64) (k := .int .i64 i) rfl
    refine ⟨.value (.tuple #[en.val, .int .i64 (midx i es : Int)]), _, { w with heap := w.heap.setIfInBounds b (.map em es.length) }, ρ, ?_, .inl rfl, ?_, .t (.cons .un (.cons (.d (.c rfl)) .nil))⟩
    · unfold execOp; rw [hop]
      simp [Instr.mapEntry, e, hy', run_underlying ht, MapKept.run_getObj_map h1, f2, f1, hemq, q0, hst, MapKept.run_setObj_map _ h1, hsame, hborn, Result.andThen, goInt]
    · rw [ment_yes hh]
      exact mt_step hr hH g1 h1 h2 h3 h4
  | false =>
    have f1 := MapKept.run_findKey (P := P) (w := w) hK (find_n es em.toList 0 h2 hh)
    obtain ⟨-, m2, m3⟩ := mlk_no (z := zz) hh
    refine ⟨.value (.tuple #[zv, .int .i64 (es.length : Int)]), _, { w with heap := w.heap.setIfInBounds b (.map (em.push ⟨.int .i64 i, zv, es.length⟩) (es.length + 1)) }, ρ, ?_, .inl rfl, ?_, .t (.cons .un (.cons (by rw [m2]; exact .d (.c rfl)) .nil))⟩
    · unfold execOp; rw [hop]
      simp [Instr.mapEntry, e, hy', run_underlying ht, MapKept.run_getObj_map h1, f2, f1, hzr, MapKept.run_setObj_map _ h1, Result.andThen, goInt]
    · rw [m3]
      have hl : (es ++ [(i, zz)]).length = es.length + 1 := by simp
      rw [← hl]
      refine mt_step hr hH g1 h1 (by simp [h2]) (by simp only [Array.toList_push, List.map_append, h3, List.map_cons, List.map_nil, hl]; rw [List.range_succ]) ?_
      simp only [Array.toList_push, List.map_append, List.map_cons, List.map_nil]
      exact h4.append (.cons (hz _ _ _) .nil)
theorem o_est {j : Int} (hg : mput es j w0 = some es') (hop : o.op = .entryStore t x s v) (hx : ev sl x = some (.mp k)) (hy : ev sl s = some (vI j)) (hv : ev sl v = some uv) (hH : look H k = some (some (mtT ag f es))) (hu : mvV ag (f w0) = uv) : OpD P o H sl 0 0 .un [(k, some (mtT ag f es'))] := fun B a w ρ hs hr _ => by
  obtain ⟨b, em, g1, e, h1, h2, h3, h4⟩ := mt_map hs hr hx hH
  have hy' := rv_c (ev_spec hs hy)
  have hv' := ev_spec hs hv
  unfold mput at hg
  split at hg
  · rename_i hj
    obtain rfl := Option.some.inj hg
    obtain ⟨n, rfl⟩ : ∃ n : Nat, j = n := ⟨j.toNat, by omega⟩
    have hn : n < es.length := by omega
    have hl : em.toList.length = es.length := by have := congrArg List.length h2; simpa using this
    obtain ⟨en, hen⟩ : ∃ en, em.toList[n]? = some en := ⟨_, List.getElem?_eq_getElem (by omega)⟩
    have f1 := born_at h3 hn
    have hlen := mputN_len w0 n es
    refine ⟨.skip, undef, { w with heap := w.heap.setIfInBounds b (.map (em.modify n fun e => { e with val := a.eval v }) es.length) }, ρ, ?_, .inr ⟨rfl, rfl⟩, ?_, .un⟩
    · unfold execOp; rw [hop]
      simp [Instr.entryStore, e, hy', MapKept.run_getObj_map h1, asInt, asIntOf, f1, MapKept.run_setObj_map _ h1, Result.andThen]
    · rw [Int.toNat_natCast]
      have key := mt_step (es' := mputN w0 n es) (em' := em.modify n fun e => { e with val := a.eval v }) hr hH g1 h1 ?_ ?_ ?_
      · rw [hlen] at key; exact key
      · rw [mput_keys, modify_set _ hen, List.map_set, h2.symm]
        exact set_same (by rw [List.getElem?_map, hen]; rfl)
      · rw [hlen, modify_set _ hen, List.map_set, h3.symm]
        exact set_same (by rw [List.getElem?_map, hen]; rfl)
      · rw [mput_vals (fun x => mvV ag (f x)), modify_set _ hen, List.map_set, hu]
        exact h4.set n hv'
  · cases hg
theorem o_upd (hop : o.op = .mapUpdate t x y v) (hx : ev sl x = some (.mp k)) (hy : ev sl y = some (vI i)) (hv : ev sl v = some uv) (hH : look H k = some (some (mtT ag f es))) (hM : Mp P t K E) (hK : P.underlying K = some (.int .i64)) (hu : mvV ag (f w0) = uv) (he : mset i w0 es = es') : OpD P o H sl 0 0 .un [(k, some (mtT ag f es'))] := fun B a w ρ hs hr _ => by
  subst he
  have ht := hM.out
  obtain ⟨b, em, g1, e, h1, h2, h3, h4⟩ := mt_map hs hr hx hH
  have hy' := rv_c (ev_spec hs hy)
  have hv' := ev_spec hs hv
  have f2 := MapKept.run_checkKey (P := P) (w := w) (k := .int .i64 i) hK rfl false 9999
  simp only [Nat.reduceAdd] at f2
  rw [← mput_ment (z := w0)]
  cases hh : mhas i es with
  | true =>
    obtain ⟨en, q1, q0, q2⟩ := find_y es em.toList 0 h2 hh
    have f1 := MapKept.run_findKey (P := P) (w := w) hK q2
    have hemq : em[midx i es]? = some en := by simpa using q1
    have hst := MapKept.run_keyThatStays (P := P) (w := w) (d := .int .i64) (k := .int .i64 i) rfl
    have hlen := mputN_len w0 (midx i es) es
    refine ⟨.skip, undef, { w with heap := w.heap.setIfInBounds b (.map (em.modify (midx i es) fun e => { e with key := .int .i64 i, val := a.eval v }) es.length) }, ρ, ?_, .inr ⟨rfl, rfl⟩, ?_, .un⟩
    · unfold execOp; rw [hop]
      simp [Instr.mapUpdate, e, hy', run_underlying ht, MapKept.run_getObj_map h1, f2, f1, hemq, q0, hst, MapKept.run_setObj_map _ h1, Result.andThen]
    · rw [ment_yes hh]
      have key := mt_step (es' := mputN w0 (midx i es) es) (em' := em.modify (midx i es) fun e => { e with key := .int .i64 i, val := a.eval v }) hr hH g1 h1 ?_ ?_ ?_
      · rw [hlen] at key; exact key
      · rw [mput_keys, modify_set _ q1, List.map_set, h2.symm]
        exact set_same (by rw [List.getElem?_map, q1]; simp [q0])
      · rw [hlen, modify_set _ q1, List.map_set, h3.symm]
        exact set_same (by rw [List.getElem?_map, q1]; rfl)
      · rw [mput_vals (fun x => mvV ag (f x)), modify_set _ q1, List.map_set, hu]
        exact h4.set _ hv'
  | false =>
    have f1 := MapKept.run_findKey (P := P) (w := w) hK (find_n es em.toList 0 h2 hh)
    obtain ⟨-, m2, m3⟩ := mlk_no (z := w0) hh
    have hm : mputN w0 (midx i es) (ment w0 i es) = es ++ [(i, w0)] := by
      rw [m2, m3]
      clear hH h1 h2 h3 h4 hh f1 m2 m3
      induction es with
      | nil => rfl
      | cons e r ih => simp [mputN, ih]
    refine ⟨.skip, undef, { w with heap := w.heap.setIfInBounds b (.map (em.push ⟨.int .i64 i, a.eval v, es.length⟩) (es.length + 1)) }, ρ, ?_, .inr ⟨rfl, rfl⟩, ?_, .un⟩
    · unfold execOp; rw [hop]
      simp [Instr.mapUpdate, e, hy', run_underlying ht, MapKept.run_getObj_map h1, f2, f1, MapKept.run_setObj_map _ h1, Result.andThen]
    · rw [hm]
      have hl : (es ++ [(i, w0)]).length = es.length + 1 := by simp
      rw [← hl]
      refine mt_step hr hH g1 h1 (by simp [h2]) (by simp only [Array.toList_push, List.map_append, h3, List.map_cons, List.map_nil, hl]; rw [List.range_succ]) ?_
      simp only [Array.toList_push, List.map_append, List.map_cons, List.map_nil, hu]
      exact h4.append (.cons hv' .nil)
end
def shrI (k : IntKind) (a b : Int) : Int := a.fdiv (2 ^ min b.toNat k.bits)
def cpy {α : Type} (xs : List α) (a b n : Nat) : List α := xs.take a ++ ((xs.drop b).take n ++ xs.drop (a + n))
theorem cpy_len {α : Type} {xs : List α} {a b n : Nat} (h1 : a + n ≤ xs.length) (h2 : b + n ≤ xs.length) : (cpy xs a b n).length = xs.length := by
  simp only [cpy, List.length_append, List.length_take, List.length_drop]; omega
section
variable {P : Program} {o : Oper} {H : Hp} {sl : List (Nat × V)} {x y z s v : Operand} {t T U K E : TypeId} {k d : Nat} {u uv : V} {α : Type} {f : α → List D} {ag : Bool} {es es' : List (Int × α)} {zz w0 : α} {zv : Value} {i : Int}
theorem o_shr {kk k2 : IntKind} {a b : Int} (h0 : 0 ≤ b) (hop : o.op = .binOp .shr T x y U) (hx : ev sl x = some (.d (.c (.int kk a)))) (hy : ev sl y = some (.d (.c (.int k2 b)))) : OpD P o H sl 0 0 (.d (.c (.int kk (shrI kk a b)))) [] := o_bin hop hx hy (fun w => by
  have h1 : ¬ b < 0 := by omega
  simp [binOp, Op.shift, shrI, h1]) rfl rfl
theorem o_lk {c : Bool} (hg : mlk zz i es = w0) (hu : (bif c then .t [mvV ag (f w0), vB (mhas i es)] else mvV ag (f w0)) = u) (hop : o.op = .lookup t x y c) (hx : ev sl x = some (.mp k)) (hy : ev sl y = some (vI i)) (hH : look H k = some (some (mtT ag f es))) (hM : Mp P t K E) (hK : P.underlying K = some (.int .i64)) (hz0 : (P.info? E).bind (·.zero) = some zv) (hz : ∀ w ok ρ, RV w ok ρ (mvV ag (f zz)) zv) : OpD P o H sl 0 0 u [] := by
  subst hg
  exact o_lkt hop hx hy hH hM hK hz0 hz hu
theorem o_copy {zs bytes d0 n1 s0 n2 : Nat} {cs : List V} {N : Nat} [hS : Sl P t E zs bytes] (hop : o.op = .call { callee := .builtin .copy, args := #[x, y], argTypes := #[t, t] }) (hx : ev sl x = some (.s k d0 n1 zs)) (hy : ev sl y = some (.s k s0 n2 zs)) (hH : look H k = some (some (.arr E zs N cs))) (h1 : d0 + n1 ≤ N) (h2 : s0 + n2 ≤ N) :
    OpD P o H sl 0 0 (vI (min n2 n1 : Nat)) [(k, some (.arr E zs N (cs.take (d0 * zs) ++ ((cs.drop (s0 * zs)).take (min n2 n1 * zs) ++ cs.drop ((d0 + min n2 n1) * zs)))))] := fun B a w ρ hs hr _ => by
  obtain ⟨i, zv, hi, hz, rfl, rfl, hzs⟩ := hS.el
  have ht := hS.un
  obtain ⟨l, g1, g2⟩ := hr.rel _ _ hH
  have hx' := ev_spec hs hx
  have hy' := ev_spec hs hy
  generalize hn : min n2 n1 = n
  have same : n = 0 → (cs.take (d0 * i.size) ++ ((cs.drop (s0 * i.size)).take (n * i.size) ++ cs.drop ((d0 + n) * i.size))) = cs := fun e => by
    subst e; simp
  have fin : ∀ (p q : Option Addr) (c c' : Nat) (w' : World), a.eval x = .slice p n1 c → a.eval y = .slice q n2 c' → (Builtin.copy_ #[t, t] o.type #[.slice p n1 c, .slice q n2 c']).run P w = .ok (goInt n) w' → (execOp a.eval o).run P w = .ok (.value (.int .i64 (n : Int))) w' := fun p q c c' w' e1 e2 hrun => by
    unfold execOp; rw [hop]
    simp [resolve, invoke, builtin, e1, e2, hrun, goInt]
  have zero : ∀ (p q : Option Addr) (c c' : Nat), a.eval x = .slice p n1 c → a.eval y = .slice q n2 c' → n = 0 → ∃ nx v w' ρ', (execOp a.eval o).run P w = .ok nx w' ∧ (nx = .value v ∨ nx = .skip ∧ v = undef) ∧ Step B H [(k, some (.arr E i.size N (cs.take (d0 * i.size) ++ ((cs.drop (s0 * i.size)).take (n * i.size) ++ cs.drop ((d0 + n) * i.size)))))] ρ ρ' w w' ∧ RV w' (okb B w' ρ') ρ' (vI (n : Nat)) v := fun p q c c' e1 e2 e0 => by
    refine ⟨_, _, w, ρ, fin p q c c' w e1 e2 ?_, .inl rfl, ?_, .d (.c rfl)⟩
    · have hm : Nat.min n2 n1 = 0 := by rw [← e0, ← hn]
      have hl0 : ∀ ad : Addr, (loadCells ad 0).run P w = .ok #[] w := fun ad => by
        have := run_loadCells_list (P := P) w ad [] (by simp); simpa using this
      have hs0 : ∀ ad : Addr, (storeCells ad []).run P w = .ok () w := fun ad => rfl
      cases p <;> cases q <;> simp [Builtin.copy_, run_underlying ht, Builtin.lenOf, hm, Builtin.firstCells, sizeOf, typeInfo, program, Sem.run, hi, e0, hl0, hs0, goInt, Result.andThen]
    · rw [same e0]
      cases l with
      | tr _ _ => exact g2.elim
      | box b => exact g2.elim
      | arr v => exact ⟨rfl, rfl, rfl, Nat.le_refl _, fun _ _ h => h, fun j l' hj => .inl hj, fun _ _ _ => rfl, fun j hj _ => by obtain rfl := look_one hj; exact ⟨_, hH⟩, fun j blk' hj => by
          obtain ⟨rfl, e⟩ := look_one' hj
          obtain rfl := Option.some.inj e
          exact ⟨_, g1, g2⟩, fun j j' _ _ _ _ _ hj hj' _ _ _ _ => (look_one' hj).1.trans (look_one' hj').1.symm⟩
  generalize ex : a.eval x = vx at hx'
  generalize ey : a.eval y = vy at hy'
  cases hx' with
  | s0 => 
    cases hy' with
    | s0 => exact zero _ _ _ _ ex ey (by omega)
    | s _ _ _ => exact zero _ _ _ _ ex ey (by omega)
  | s hp hl hc =>
    cases hy' with
    | s0 => exact zero _ _ _ _ ex ey (by omega)
    | s hp' hl' hc' =>
      rcases Nat.eq_zero_or_pos n with e0 | hpos
      · exact zero _ _ _ _ ex ey e0
      rw [g1] at hp hp'
      obtain rfl := Option.some.inj hp
      have hp' := Option.some.inj hp'
      rcases g2 with ⟨q1, rfl, rfl⟩ | ⟨g, cap, us, sp, q1, q2, q3, q4, q5, q6, q7, q8⟩
      · cases q1
      · simp only [Loc.arr.injEq, Value.slice.injEq, Option.some.injEq, Addr.mk.injEq, and_true] at hp' q1
        obtain ⟨e1, -, -⟩ := hp'
        subst e1
        obtain ⟨a1, a2, a3⟩ := q1
        obtain rfl := a1.symm
        obtain rfl := a2.symm
        obtain rfl := a3.symm
        have hul := q8.length
        have hN : ∀ b : Nat, b ≤ N → b * i.size ≤ N * i.size := fun b h => Nat.mul_le_mul_right _ h
        have m1 := hN (s0 + n) (by omega)
        have m2 := hN (d0 + n) (by omega)
        have m3 := Nat.mul_le_mul_right i.size q2
        rw [Nat.add_mul] at m1 m2
        let c := (us.drop (s0 * i.size)).take (n * i.size)
        have hcl : c.length = n * i.size := by simp only [c, List.length_take, List.length_drop]; omega
        have hc1 : c.all Value.oneCell' = true := List.all_eq_true.2 fun x hx => List.all_eq_true.1 q7 x (List.mem_of_mem_drop (List.mem_of_mem_take hx))
        have hld := run_loadCells_list (P := P) w ⟨g, s0 * i.size, none⟩ c fun j v hv => by
          simp only [c] at hv
          rw [List.getElem?_take] at hv
          split at hv
          · rw [List.getElem?_drop] at hv
            rw [addr_add, World.cell?, q4]
            simp [List.getElem?_append_left (List.getElem?_eq_some_iff.1 hv).1, hv]
          · cases hv
        rw [hcl] at hld
        have hst := run_storeCells_at P g (d0 * i.size) E c 0 (us ++ sp).toArray w q4 (by simp only [Nat.zero_add, List.size_toArray, List.length_append] at *; omega) (List.all_eq_true.1 hc1)
        simp only [Nat.add_zero] at hst
        have hrow : (us ++ sp).take (d0 * i.size) ++ c ++ (us ++ sp).drop (d0 * i.size + c.length) = (us.take (d0 * i.size) ++ (c ++ us.drop ((d0 + n) * i.size))) ++ sp := by
          rw [hcl, ← Nat.add_mul, List.take_append_of_le_length (by omega), List.drop_append_of_le_length (by rw [Nat.add_mul]; omega)]
          simp
        refine ⟨_, _, w.setRow g (stL (d0 * i.size) c (us ++ sp)).toArray, ρ, fin _ _ _ _ _ ex ey ?_, .inl rfl, Step.set1 g1 hH rfl (by simp) rfl rfl rfl (fun j hj => setRow_other w g j _ hj) fun ok' hs' => .inr ⟨g, cap, us.take (d0 * i.size) ++ (c ++ us.drop ((d0 + n) * i.size)), sp, rfl, q2, q3, ?_, ?_, ?_, ?_, ?_⟩, .d (.c rfl)⟩
        · have hm : Nat.min n2 n1 = n := hn
          rw [stL_eq _ _ _ (by simp only [List.length_append]; omega)]
          have hst' : (storeCells ⟨g, d0 * i.size, none⟩ c).run P w = .ok () (w.setRow g ((us ++ sp).take (d0 * i.size) ++ c ++ (us ++ sp).drop (d0 * i.size + c.length)).toArray) := by simpa using hst
          simp [Builtin.copy_, run_underlying ht, Builtin.lenOf, hm, Builtin.firstCells, sizeOf, typeInfo, program, Sem.run, hi, hld, Result.andThen]
          simp only [Sem.run, List.append_assoc] at hst'
          simp [hst']
        · rw [setRow_heap w g _ _ _ _ q4, stL_eq _ _ _ (by simp only [List.length_append]; omega), hrow]
        · rw [← q5, List.length_append, List.length_append, List.length_append, List.length_append, hcl, List.length_take, List.length_drop, Nat.add_mul]; omega
        · rw [List.length_append, List.length_append, hcl, List.length_take, List.length_drop, Nat.add_mul]; omega
        · rw [List.all_append, List.all_append, hc1]
          simp only [Bool.true_and, Bool.and_eq_true]
          exact ⟨List.all_eq_true.2 fun x hx => List.all_eq_true.1 q7 x (List.mem_of_mem_take hx), List.all_eq_true.2 fun x hx => List.all_eq_true.1 q7 x (List.mem_of_mem_drop hx)⟩
        · exact ((q8.take _).append (((q8.drop _).take _).append (q8.drop _))).mono hs' (fun _ _ h => h)
end
section
variable {P : Program} {o : Oper} {H : Hp} {sl : List (Nat × V)} {x y : Operand} {t T U E : TypeId} {k d zs bytes : Nat} {α : Type} {f : α → List D} {xs l1 l2 r : List α}
theorem n_cpy {i1 j1 i2 j2 : Int} (h1 : lsl xs i1 j1 = some l1) (h2 : lsl xs i2 j2 = some l2) (hr : cpy xs i1.toNat i2.toNat (min l2.length l1.length) = r) [hS : Sl P t E zs bytes] [hL : Len f zs] (hop : o.op = .call { callee := .builtin .copy, args := #[x, y], argTypes := #[t, t] }) (hx : ev sl x = some (.s k i1.toNat l1.length zs)) (hy : ev sl y = some (.s k i2.toNat l2.length zs)) (hH : look H k = some (some (arrT E zs f xs))) :
    OpD P o H sl 0 0 (vI ((min l2.length l1.length : Nat) : Int)) [(k, some (arrT E zs f r))] := by
  subst hr
  obtain ⟨a1, b1, rfl, rfl, p1, p2, p3, p4⟩ := lsl_v h1
  obtain ⟨a2, b2, rfl, rfl, q1, q2, q3, q4⟩ := lsl_v h2
  have key := o_copy (P := P) (H := H) (cs := (xs.flatMap f).map V.d) (N := xs.length) hop hx hy hH (by simp only [Int.toNat_natCast]; omega) (by simp only [Int.toNat_natCast]; omega)
  have hl : (cpy xs a1 a2 (min l2.length l1.length)).length = xs.length := cpy_len (by omega) (by omega)
  unfold arrT
  rw [Int.toNat_natCast, Int.toNat_natCast, hl]
  have e : ((cpy xs a1 a2 (min l2.length l1.length)).flatMap f).map V.d = (((xs.flatMap f).map V.d).take (a1 * zs) ++ ((((xs.flatMap f).map V.d).drop (a2 * zs)).take (min l2.length l1.length * zs) ++ ((xs.flatMap f).map V.d).drop ((a1 + min l2.length l1.length) * zs))) := by
    simp only [cpy, List.flatMap_append, List.map_append, ← List.map_drop, ← List.map_take, flat_drop hL.len, flat_take hL.len]
  rw [e]
  simpa using key
end
section
variable {Γ : Cx} {P : Program} {k : Kont} {sl : List (Nat × V)} {hp H0 h h' : Hp} {o : Oper} {ops : Array Oper} {i an d : Nat} {ts : List Nat} {r : List PI} {F : List Ft} {f : FuncId} {us uc : List V} {y : Operand} {xs : Array Operand} {ats : Array TypeId} {u u' : V} {qs : List (List D)} {rest : List Oper} {rs : List ResultVar} {st : St} {ks : List Nat} {Ψ : V → Hp → Prop}
theorem wl_cf (hs : Spec Γ.P f (us ++ qs.map V.q) [] fun u1 h1 => u1 = u ∧ h1 = []) (hk : WL Γ ops rest k ⟨(d, u) :: sl, hp⟩) (hop : o.op = .call { callee := .value y, args := xs, argTypes := ats } := by rfl) (hx : ev sl y = some (.d (.fn f qs)) := by rfl) (ha : evl sl xs.toList = some uc := by rfl) (hv : Vws [] [] uc us := by repeat (first | exact Vws.nil | apply Vws.cons | exact Vw.nil | exact Vw.d _ | exact Vw.q _ | apply Vw.a)) (hu : u.ren (rn [] 100000) = u := by rfl)
    (hg : o.guard = none := by rfl) (hd : o.dst = some d := by rfl) (hdl : Nat.blt d Γ.nt = true := by rfl) (hf : freshB hp 100000 100 = true := by rfl) : WL Γ ops (o :: rest) k ⟨sl, hp⟩ := wl_cp (o_callf 100000 hs hop hx ha hv hu) hg hd hdl hf hk
theorem o_genq (hs : Spec P f us H0 fun u1 h1 => u1 = u ∧ h1 = h) (g : List (Nat × Nat)) (M : Nat) (hop : o.op = .call { callee := .value y, args := xs, argTypes := ats }) (hx : ev sl y = some (.d (.c (.func (.func f) #[] #[])))) (ha : evl sl xs.toList = some uc) (hv : Vws [] g uc us) (hH : VH [] hp g H0) (hal : aliveB hp g = true) (hol : olds g = true) (hlv : (g.all fun e => Nat.blt e.1 100 && match look H0 e.1 with | some (some _) => true | _ => false) = true) (hu : u.ren (rn g M) = u') (hh : renH (rn g M) h = h') : OpV P o hp sl M 100 fun u1 h1 => u1 = u' ∧ h1 = h' := by
  refine (o_call M g hs hop hx ha hv hH hal hol hlv).mono ?_
  rintro u1 h1 ⟨u0, h0', ⟨rfl, rfl⟩, rfl, rfl⟩
  exact ⟨hu, hh⟩
theorem wl_gq (hs : Spec Γ.P f us H0 fun u1 h1 => u1 = u ∧ h1 = h) (g : List (Nat × Nat)) (M : Nat) (u' : V) (h' : Hp) (hk : WL Γ ops rest k ⟨(d, u') :: sl, h' ++ hp⟩) (hop : o.op = .call { callee := .value y, args := xs, argTypes := ats } := by rfl) (hx : ev sl y = some (.d (.c (.func (.func f) #[] #[]))) := by rfl) (ha : evl sl xs.toList = some uc := by rfl) (hv : Vws [] g uc us := by (repeat (first | exact Vws.nil | apply Vws.cons | exact Vw.nil | exact Vw.d _ | exact Vw.q _ | exact Vw.p rfl | exact Vw.h rfl | exact Vw.mp rfl | apply Vw.a))) (hH : VH [] hp g H0 := by repeat (first | refine VH.cons rfl rfl vb_tpb ?_ | refine VH.cons0 ?_ | refine VH.cons rfl rfl (Vb.ob _) ?_ | exact VS.nil | exact VH.nil | exact Vws.nil | refine VS.cons rfl ?_ ?_ | refine VH.cons rfl rfl (Vb.box ?_) ?_ | refine VH.cons rfl rfl (Vb.arr ?_) ?_ | exact vws_dm _ | refine Vws.cons ?_ ?_ | exact Vw.d _ | exact Vw.p rfl | exact Vw.h rfl | exact Vw.e rfl | exact Vw.s rfl | exact Vw.q _ | refine Vw.a ?_ | refine Vw.t ?_ | exact Vw.nil | exact Vw.fh rfl rfl (vws_dm _) | exact Vw.fe rfl rfl (vws_dm _) (fe_of (by assumption)) | exact Vw.fe rfl rfl (vws_dm _) (fe_of0 (by assumption)) | refine Vw.fp0 rfl rfl ?_ | exact Vw.mp rfl | refine VH.cons rfl rfl (Vb.mt _ _) ?_ | exact Vw.sc rfl | exact Vw.un _)) (hal : aliveB hp g = true := by rfl) (hol : olds g = true := by rfl) (hlv : (g.all fun e => Nat.blt e.1 100 && match look H0 e.1 with | some (some _) => true | _ => false) = true := by rfl) (hu : u.ren (rn g M) = u' := by rfl) (hh : renH (rn g M) h = h' := by (try simp only [renH, Option.map_some, Option.map_none, Blk.ren, rens_d]); rfl)
    (hg : o.guard = none := by rfl) (hd : o.dst = some d := by rfl) (hdl : Nat.blt d Γ.nt = true := by rfl) (hf : freshB hp M 100 = true := by rfl) : WL Γ ops (o :: rest) k ⟨sl, hp⟩ :=
  wl_v (o_genq hs g M hop hx ha hv hH hal hol hlv hu hh) hg hd hdl hf (by rintro _ _ ⟨rfl, rfl⟩; exact hk)
theorem siw {fn : Func} {c : Code} {nt : Nat} (hf : P.funcs[f]? = some fn) (hnt : fn.ntmps = nt) (hrs : fn.results = rs.toArray) (hw : ∀ B w0 ρ0, WC ⟨P, B, w0, ρ0, ks, nt⟩ c (.fn (PostW P ks rs Ψ)) ⟨sl, H0⟩)
    (hsl : slots 0 us = sl := by simp only [slots, Nat.reduceAdd]; exact rfl) (hks : H0.map (·.1) = ks := by simp only [List.map_nil, List.map_cons]; exact rfl) (hn : (fn.name == "runtime.NumGoroutine") = false := by rfl) (hb : fn.body = some c := by rfl) (hl : Nat.ble us.length nt = true := by rfl) : Spec P f us H0 Ψ := by
  subst hsl hks
  exact Spec.introW hf hn hb hnt hrs hl hw
theorem wk_retw {us : List V} (f : List (Nat × Nat)) (h4 : Ψ u h) (h1 : resV st rs = some us := by rfl) (h2 : resT P st rs := by (repeat (first | exact trivial | refine resT_cell rfl rfl (by exact inferInstance) ?_))) (hp : postW ks st f h = true := by rfl) (h3 : Vw [] f (one us) u := by (first | exact Vw.nil | exact Vw.d _ | (repeat (first | exact Vws.nil | apply Vws.cons | exact Vw.nil | exact Vw.d _ | exact Vw.h rfl | exact Vw.p rfl | apply Vw.a | apply Vw.t)); done)) (h5 : VH [] st.hp f h := by repeat (first | refine VH.cons rfl rfl vb_tpb ?_ | refine VH.cons0 ?_ | refine VH.cons rfl rfl (Vb.ob _) ?_ | exact VS.nil | exact VH.nil | exact Vws.nil | refine VS.cons rfl ?_ ?_ | refine VH.cons rfl rfl (Vb.box ?_) ?_ | refine VH.cons rfl rfl (Vb.arr ?_) ?_ | exact vws_dm _ | refine Vws.cons ?_ ?_ | exact Vw.d _ | exact Vw.p rfl | exact Vw.h rfl | exact Vw.e rfl | exact Vw.s rfl | exact Vw.q _ | refine Vw.a ?_ | refine Vw.t ?_ | exact Vw.nil | exact Vw.fh rfl rfl (vws_dm _) | exact Vw.fe rfl rfl (vws_dm _) (fe_of (by assumption)) | exact Vw.fe rfl rfl (vws_dm _) (fe_of0 (by assumption)) | refine Vw.fp0 rfl rfl ?_ | exact Vw.mp rfl | refine VH.cons rfl rfl (Vb.mt _ _) ?_ | exact Vw.sc rfl | exact Vw.un _)) : WK Γ (.fn (PostW P ks rs Ψ)) .ret st := wk_fn_r (Wk.refl _ _) ⟨us, f, u, h, h1, h2, hp, h3, h5, h4⟩
end
theorem wk_goto {Γ : Cx} {l : Nat} : ∀ (k : Kont) (st : St), ¬ WK Γ k (.goto l) st
  | .fn _, _, h => h
  | .seq _ k, st, h => wk_goto k st h
  | .block _ k, st, h => wk_goto k st h
  | .loop _ _ k, st, h => wk_goto k st h
  | .cut _ k, st, h => wk_goto k st h
theorem wc_scope {Γ : Cx} {k : Kont} {st : St} {x : Code} (h : WC Γ x k st) : WC Γ (.scope x) k st := fun a w hr => wp_scope_straight (wp_mono (h a w hr) (by
  rintro e a w ⟨st, hk, hr⟩
  cases e with
  | goto l => exact (wk_goto k st hk).elim
  | _ => exact ⟨st, hk, hr⟩))
theorem wc_label {Γ : Cx} {k : Kont} {st : St} {l : Nat} (h : WK Γ k .normal st) : WC Γ (.label l) k st := fun _ _ hr => wp_label ⟨st, h, hr⟩
end Go.Proofs.YtohpjdeohpamaaaGreat
