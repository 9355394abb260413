/-
  Lemmas: Operations over states
-/
import Derived.Test.YtlbnhhfaedhgfaaGreatDoorPB5
set_option linter.unusedSimpArgs false
set_option linter.unusedVariables false
namespace Go.Proofs.YtlbnhhfaedhgfaaGreatDoor
open Go.RowKit

section
variable {Γ : Cx} {k : Kont} {sl : List (Nat × V)} {hp : Hp} {o : Oper} {ops : Array Oper} {lo nn i an d : Nat} {ts : List Nat} {r : List PI} {F : List Ft} {u : V} {h : Hp}
theorem wd_nil (h : WK Γ k .normal ⟨sl, hp⟩) : WD Γ ops k [] F ⟨sl, hp⟩ := h
theorem inW_1 (k : Nat) (b : Option Blk) : inW [(k, b)] [k] = true := by simp [inW, memN]
theorem inW_2 (k k' : Nat) (b b' : Option Blk) : inW [(k, b), (k', b')] [k, k'] = true := by
  simp only [inW, List.all_cons, List.all_nil, Bool.and_true, Bool.and_eq_true]
  exact ⟨memN_iff.2 (by simp), memN_iff.2 (by simp)⟩
def WO (Γ : Cx) (ops : Array Oper) (k : Kont) (o : Oper) (i an : Nat) (ts : List Nat) (r : List PI) (F : List Ft) (st : St) : Prop := ops[i]? = some o → WD Γ ops k (⟨i, an, ts⟩ :: r) F st
theorem wd_op (ho : ops[i]? = some o) (h : WO Γ ops k o i an ts r F ⟨sl, hp⟩) : WD Γ ops k (⟨i, an, ts⟩ :: r) F ⟨sl, hp⟩ := h ho
theorem wd_s (hd : o.dst = some d) (hdl : Nat.blt d Γ.nt = true) (hw : Wt ops o (keep ts sl) false) (hk : WD Γ ops k r (⟨⟨i, an, ts⟩, [], [], 0, 0⟩ :: F) ⟨(d, .t []) :: sl, hp⟩) (hf : okF ⟨⟨i, an, ts⟩, [], [], 0, 0⟩ F = true) : WO Γ ops k o i an ts r F ⟨sl, hp⟩ := fun ho =>
  ⟨o, [], [], 0, 0, fun u h => u = .t [] ∧ h = [], ho, fun t e => by rw [hd] at e; cases e; exact blt_lt hdl, fresh0 _ _, hf, .inr ⟨hw, rfl, rfl⟩, by rintro _ _ ⟨rfl, rfl⟩; rfl, .inl ⟨_, _, ⟨rfl, rfl⟩, fun _ _ h => h⟩, by rintro _ _ ⟨rfl, rfl⟩; rw [hd]; exact hk⟩
theorem wd_c {ks ws : List Nat} (hm : OpV Γ.P o (keep ks hp) (keep ts sl) lo nn fun u' h' => u' = u ∧ h' = h) (hd : o.dst = some d) (hw : Wt ops o (keep ts sl) true) (hdl : Nat.blt d Γ.nt = true) (hin : inW h ws = true) (hfr : freshB hp lo nn = true) (hf : okF ⟨⟨i, an, ts⟩, ks, ws, lo, nn⟩ F = true)
    (hk : WD Γ ops k r (⟨⟨i, an, ts⟩, ks, ws, lo, nn⟩ :: F) ⟨(d, u) :: sl, h ++ hp⟩) : WO Γ ops k o i an ts r F ⟨sl, hp⟩ := fun ho =>
  ⟨o, ks, ws, lo, nn, _, ho, fun t e => by rw [hd] at e; cases e; exact blt_lt hdl, hfr, hf, .inl ⟨hw, hm⟩, by rintro _ _ ⟨rfl, rfl⟩; exact hin, .inl ⟨_, _, ⟨rfl, rfl⟩, fun _ _ h => h⟩, by rintro _ _ ⟨rfl, rfl⟩; rw [hd]; exact hk⟩
theorem wd_v (ks ws : List Nat) {ψ : V → Hp → Prop} (hm : OpV Γ.P o (keep ks hp) (keep ts sl) lo nn ψ) (hd : o.dst = some d) (hw : Wt ops o (keep ts sl) true) (hdl : Nat.blt d Γ.nt = true) (hfr : freshB hp lo nn = true) (hf : okF ⟨⟨i, an, ts⟩, ks, ws, lo, nn⟩ F = true) (hnd : (r.all fun q => bitN q.an i) = true) (hin : ∀ u h, ψ u h → inW h ws = true)
    (hk : ∀ u h, ψ u h → WD Γ ops k r (⟨⟨i, an, ts⟩, ks, ws, lo, nn⟩ :: F) ⟨(d, u) :: sl, h ++ hp⟩) : WO Γ ops k o i an ts r F ⟨sl, hp⟩ := fun ho =>
  ⟨o, ks, ws, lo, nn, ψ, ho, fun t e => by rw [hd] at e; cases e; exact blt_lt hdl, hfr, hf, .inl ⟨hw, hm⟩, hin, .inr hnd, fun u h hψ => by rw [hd]; exact hk u h hψ⟩
theorem wd_r (ks : List Nat) (hm : OpD Γ.P o (keep ks hp) (keep ts sl) 0 0 u []) (hd : o.dst = some d) (hw : Wt ops o (keep ts sl) true) (hdl : Nat.blt d Γ.nt = true) (hf : okF ⟨⟨i, an, ts⟩, ks, [], 0, 0⟩ F = true) (hk : WD Γ ops k r (⟨⟨i, an, ts⟩, ks, [], 0, 0⟩ :: F) ⟨(d, u) :: sl, hp⟩) : WO Γ ops k o i an ts r F ⟨sl, hp⟩ := fun ho =>
  wd_c hm.v hd hw hdl rfl (fresh0 _ _) hf hk ho
theorem wd_1 (ks : List Nat) {e : Nat} {b : Option Blk} (hm : OpD Γ.P o (keep ks hp) (keep ts sl) lo nn u [(e, b)]) (hd : o.dst = some d) (hw : Wt ops o (keep ts sl) true) (hdl : Nat.blt d Γ.nt = true) (hfr : freshB hp lo nn = true) (hf : okF ⟨⟨i, an, ts⟩, ks, [e], lo, nn⟩ F = true)
    (hk : WD Γ ops k r (⟨⟨i, an, ts⟩, ks, [e], lo, nn⟩ :: F) ⟨(d, u) :: sl, (e, b) :: hp⟩) : WO Γ ops k o i an ts r F ⟨sl, hp⟩ := fun ho => wd_c hm.v hd hw hdl (inW_1 _ _) hfr hf hk ho
theorem wd_2 (ks : List Nat) {e e' : Nat} {b b' : Option Blk} (hm : OpD Γ.P o (keep ks hp) (keep ts sl) lo nn u [(e, b), (e', b')]) (hd : o.dst = some d) (hw : Wt ops o (keep ts sl) true) (hdl : Nat.blt d Γ.nt = true) (hfr : freshB hp lo nn = true) (hf : okF ⟨⟨i, an, ts⟩, ks, [e, e'], lo, nn⟩ F = true)
    (hk : WD Γ ops k r (⟨⟨i, an, ts⟩, ks, [e, e'], lo, nn⟩ :: F) ⟨(d, u) :: sl, (e, b) :: (e', b') :: hp⟩) : WO Γ ops k o i an ts r F ⟨sl, hp⟩ := fun ho => wd_c hm.v hd hw hdl (inW_2 _ _ _ _) hfr hf hk ho
theorem wd_0 (ks : List Nat) {e : Nat} {b : Option Blk} (hm : OpD Γ.P o (keep ks hp) (keep ts sl) 0 0 u [(e, b)]) (hd : o.dst = none) (hw : Wt ops o (keep ts sl) true) (hf : okF ⟨⟨i, an, ts⟩, ks, [e], 0, 0⟩ F = true)
    (hk : WD Γ ops k r (⟨⟨i, an, ts⟩, ks, [e], 0, 0⟩ :: F) ⟨sl, (e, b) :: hp⟩) : WO Γ ops k o i an ts r F ⟨sl, hp⟩ := fun ho =>
  ⟨o, ks, [e], 0, 0, fun u' h' => u' = u ∧ h' = [(e, b)], ho, fun t h => (by rw [hd] at h; cases h), fresh0 _ _, hf, .inl ⟨hw, hm.v⟩, by rintro _ _ ⟨rfl, rfl⟩; exact inW_1 _ _, .inl ⟨_, _, ⟨rfl, rfl⟩, fun _ _ h => h⟩, by rintro _ _ ⟨rfl, rfl⟩; rw [hd]; exact hk⟩

theorem WK.of_wk {Γ : Cx} : ∀ {k : Kont} {e : Exit} {st st' : St}, Wk Γ st' st → WK Γ k e st → WK Γ k e st' := by
  intro k
  induction k with
  | fn post => intro e st st' hw h; cases e <;> first | exact h.elim | (obtain ⟨s, h1, h2⟩ := h; exact ⟨s, hw.trans h1, h2⟩)
  | seq y k ih => intro e st st' hw h; cases e <;> first | exact fun a w hr => h a w (hw a w hr) | exact ih hw h
  | block id k ih =>
    intro e st st' hw h
    cases e with
    | exit id' =>
      simp only [WK] at h ⊢
      split
      · rename_i e; rw [if_pos e] at h; exact ih hw h
      · rename_i e; rw [if_neg e] at h; exact ih hw h
    | _ => exact ih hw h
  | loop I n k ih => intro e st st' hw h; cases e <;> first | (obtain ⟨m, s, h1, h2⟩ := h; exact ⟨m, s, hw.trans h1, h2⟩) | exact ih hw h
  | cut I k ih => intro e st st' hw h; cases e <;> first | (obtain ⟨s, h1, h2⟩ := h; exact ⟨s, hw.trans h1, h2⟩) | exact ih hw h
theorem SR.look {B : Nat → Prop} {sl sl' : List (Nat × V)} {ρ : Lc} {a : Act} {w : World} (h : SR B sl ρ a w) (hl : ∀ t, look sl' t = look sl t) : SR B sl' ρ a w := fun t u hu => h t u (by rw [← hl]; exact hu)
theorem Wt.look {ops : Array Oper} {o : Oper} {sl sl' : List (Nat × V)} {b : Bool} (h : Wt ops o sl b) (hl : ∀ t, look sl' t = look sl t) : Wt ops o sl' b := by
  cases h with
  | no h => exact .no h
  | y h1 h2 h3 h4 => exact .y h1 h2 h3 (by rw [hl]; exact h4)
  | n h1 h2 h3 h4 h5 => exact .n h1 h2 h3 (by rw [hl]; exact h4) h5
  | u h1 h2 h3 h4 => exact .u h1 h2 h3 (by rw [hl]; exact h4)
theorem WD.look : ∀ {pl : List PI} {F : List Ft} {sl sl' : List (Nat × V)} {hp : Hp}, (∀ t, Go.Proofs.YtlbnhhfaedhgfaaGreatDoor.look sl' t = Go.Proofs.YtlbnhhfaedhgfaaGreatDoor.look sl t) → WD Γ ops k pl F ⟨sl, hp⟩ → WD Γ ops k pl F ⟨sl', hp⟩
  | [], F, sl, sl', hp, hl, h => WK.of_wk (st := ⟨sl, hp⟩) (st' := ⟨sl', hp⟩) (fun a w ⟨ρ, hr⟩ => ⟨ρ, hr.look (fun t => (hl t).symm) fun _ => rfl⟩) h
  | p :: r, F, sl, sl', hp, hl, ⟨o, ks, ws, lo, nn, ψ, g1, g2, g3, g4, g5, g6, g7, g8⟩ => by
    have hk : ∀ t, Go.Proofs.YtlbnhhfaedhgfaaGreatDoor.look (keep p.ts sl') t = Go.Proofs.YtlbnhhfaedhgfaaGreatDoor.look (keep p.ts sl) t := fun t => by rw [look_keep, look_keep, hl]
    refine ⟨o, ks, ws, lo, nn, ψ, g1, g2, g3, g4, ?_, g6, g7, fun u h hψ => WD.look (fun t => ?_) (g8 u h hψ)⟩
    · rcases g5 with ⟨h1, h2⟩ | ⟨h1, h2⟩
      · exact .inl ⟨h1.look hk, fun B a w ρ e1 e2 e3 e4 e5 => h2 B a w ρ e1 e2 (e3.look fun t => (hk t).symm) e4 e5⟩
      · exact .inr ⟨h1.look hk, h2⟩
    · simp only [look_put1, hl]
theorem wd_split (t : Nat) {b : Bool} {pl : List PI} (hb : look sl t = some (vB b)) (ht : b = true → WD Γ ops k pl F ⟨(t, vB true) :: sl, hp⟩) (hf : b = false → WD Γ ops k pl F ⟨(t, vB false) :: sl, hp⟩) : WD Γ ops k pl F ⟨sl, hp⟩ := by
  have key : ∀ s, look sl s = look ((t, vB b) :: sl) s := fun s => by
    rw [look_cons]; split
    · subst_vars; exact hb
    · rfl
  refine WD.look key ?_
  cases b
  · exact hf rfl
  · exact ht rfl
theorem wd_gp {j t : Nat} {oj : Oper} {b c : Bool} (hg : o.guard = some (j, b)) (hj : ops[j]? = some oj) (ht : oj.dst = some t) (hb : look sl t = some (vB c)) (h1 : c = true → WO Γ ops k o i an ts r F ⟨(t, vB true) :: sl, hp⟩) (h2 : c = false → WO Γ ops k o i an ts r F ⟨(t, vB false) :: sl, hp⟩) : WO Γ ops k o i an ts r F ⟨sl, hp⟩ := fun ho => wd_split t hb (fun e => h1 e ho) fun e => h2 e ho
theorem wl_gs' {rest : List Oper} {j t : Nat} {oj : Oper} {b c : Bool} (hg : o.guard = some (j, b)) (hj : ops[j]? = some oj) (ht : oj.dst = some t) (hb : look sl t = some (vB c)) (hne : (b != c) = true) (hd : o.dst = some d) (hdl : Nat.blt d Γ.nt = true)
    (hk : WL Γ ops rest k ⟨(d, .t []) :: sl, hp⟩) : WL Γ ops (o :: rest) k ⟨sl, hp⟩ := fun a w ⟨ρ, hr⟩ => by
  unfold wpList
  have hne' : b ≠ c := by simpa using hne
  rw [if_neg (by simp [Region.wanted, hg, yields hr.sr hj ht hb]; exact fun e => hne' e.symm)]
  have := hr.step (d := some d) (u := .t []) (v := undef) (fun _ _ h => h) (Step.refl hp ρ w) (RV.t RVs.nil) (fun t e => by cases e; exact blt_lt hdl)
  rw [hd]
  exact hk _ _ ⟨ρ, this⟩
theorem wl_gu {rest : List Oper} {j t : Nat} {oj : Oper} {b : Bool} (hg : o.guard = some (j, b)) (hj : ops[j]? = some oj) (ht : oj.dst = some t) (hb : look sl t = some (.t [])) (hd : o.dst = some d) (hdl : Nat.blt d Γ.nt = true)
    (hk : WL Γ ops rest k ⟨(d, .t []) :: sl, hp⟩) : WL Γ ops (o :: rest) k ⟨sl, hp⟩ := fun a w ⟨ρ, hr⟩ => by
  unfold wpList
  rw [if_neg (by simp [Region.wanted, hg, yields_u hr.sr hj ht hb])]
  have := hr.step (d := some d) (u := .t []) (v := undef) (fun _ _ h => h) (Step.refl hp ρ w) (RV.t RVs.nil) (fun t e => by cases e; exact blt_lt hdl)
  rw [hd]
  exact hk _ _ ⟨ρ, this⟩
theorem wl_c {rest : List Oper} (hm : OpV Γ.P o hp sl lo nn fun u' h' => u' = u ∧ h' = h) (hg : o.guard = none) (hd : o.dst = some d) (hdl : Nat.blt d Γ.nt = true) (hf : freshB hp lo nn = true) (hk : WL Γ ops rest k ⟨(d, u) :: sl, h ++ hp⟩) : WL Γ ops (o :: rest) k ⟨sl, hp⟩ :=
  wl_v hm hg hd hdl hf (by rintro _ _ ⟨rfl, rfl⟩; exact hk)
end
section
variable {Γ : Cx} {k : Kont} {sl : List (Nat × V)} {hp : Hp} {o : Oper} {ops : Array Oper} {i an d : Nat} {ts : List Nat} {r : List PI} {F : List Ft} {u v : V} {T T' E : TypeId} {x y : Operand} {n kk off z m o1 : Nat} {ag : Bool} {cs cs' : List V}
theorem keep1 {α : Type} (k : Nat) (l : List (Nat × α)) : look (keep [k] l) k = look l k := by rw [look_keep]; simp [memN]
theorem wd_ld (hop : o.op = .load T x) (hx : ev (keep ts sl) x = some (.p kk off)) (hH : look hp kk = some (some (.box T' cs))) (hT : Ty Γ.P T n ag) (hl : (Nat.ble (off + n) cs.length && (ag || n == 1)) = true) (hu : ldC ag n off cs = some u)
    (hd : o.dst = some d) (hw : Wt ops o (keep ts sl) true) (hdl : Nat.blt d Γ.nt = true) (hf : okF ⟨⟨i, an, ts⟩, [kk], [], 0, 0⟩ F = true) (hk : WD Γ ops k r (⟨⟨i, an, ts⟩, [kk], [], 0, 0⟩ :: F) ⟨(d, u) :: sl, hp⟩) : WO Γ ops k o i an ts r F ⟨sl, hp⟩ :=
  wd_r [kk] (o_load hop hx (by rw [keep1]; exact hH) hT hl hu) hd hw hdl hf hk
theorem wd_lde {z m : Nat} (hop : o.op = .load T x) (hx : ev (keep ts sl) x = some (.e kk off)) (hH : look hp kk = some (some (.arr E z m cs))) (hT : Ty Γ.P T n ag) (hl : (Nat.ble (off + n) cs.length && (ag || n == 1)) = true) (hu : ldC ag n off cs = some u)
    (hd : o.dst = some d) (hw : Wt ops o (keep ts sl) true) (hdl : Nat.blt d Γ.nt = true) (hf : okF ⟨⟨i, an, ts⟩, [kk], [], 0, 0⟩ F = true) (hk : WD Γ ops k r (⟨⟨i, an, ts⟩, [kk], [], 0, 0⟩ :: F) ⟨(d, u) :: sl, hp⟩) : WO Γ ops k o i an ts r F ⟨sl, hp⟩ :=
  wd_r [kk] (o_loade hop hx (by rw [keep1]; exact hH) hT hl hu) hd hw hdl hf hk
theorem wd_st (hop : o.op = .store T x y) (hx : ev (keep ts sl) x = some (.p kk off)) (hy : ev (keep ts sl) y = some u) (hH : look hp kk = some (some (.box T' cs))) (hT : Ty Γ.P T n ag) (hl : (Nat.ble (off + n) cs.length && (cellsV u).length == n && (cellsV u).all cellV) = true) (hc : stV off (cellsV u) cs = cs')
    (hd : o.dst = none) (hw : Wt ops o (keep ts sl) true) (hf : okF ⟨⟨i, an, ts⟩, [kk], [kk], 0, 0⟩ F = true) (hk : WD Γ ops k r (⟨⟨i, an, ts⟩, [kk], [kk], 0, 0⟩ :: F) ⟨sl, (kk, some (.box T' cs')) :: hp⟩) : WO Γ ops k o i an ts r F ⟨sl, hp⟩ :=
  wd_0 [kk] (o_store hop hx hy (by rw [keep1]; exact hH) hT hl hc) hd hw hf hk
theorem wd_lenh {t E' : TypeId} {z' bytes len : Nat} [hS : Sl Γ.P t E z bytes] (hop : o.op = .call { callee := .builtin .len, args := #[x], argTypes := #[t] }) (hx : ev (keep ts sl) x = some (.h kk)) (hH : look hp kk = some (some (.arr E' z' len cs)))
    (hd : o.dst = some d) (hw : Wt ops o (keep ts sl) true) (hdl : Nat.blt d Γ.nt = true) (hf : okF ⟨⟨i, an, ts⟩, [kk], [], 0, 0⟩ F = true) (hk : WD Γ ops k r (⟨⟨i, an, ts⟩, [kk], [], 0, 0⟩ :: F) ⟨(d, vI len) :: sl, hp⟩) : WO Γ ops k o i an ts r F ⟨sl, hp⟩ :=
  wd_r [kk] (o_len_h hop hx (by rw [keep1]; exact hH)) hd hw hdl hf hk
end
theorem o_call1 {P : Program} {o : Oper} {H H0 : Hp} {sl : List (Nat × V)} {f : FuncId} {us uc : List V} {x : Operand} {xs : Array Operand} {ats : Array TypeId} {u u' : V} {h h' : Hp} (M : Nat) (g : List (Nat × Nat)) (hs : Spec P f us H0 fun u1 h1 => u1 = u ∧ h1 = h)
    (hop : o.op = .call { callee := .value x, args := xs, argTypes := ats }) (hx : ev sl x = some (.d (.c (.func (.func f) #[] #[])))) (ha : evl sl xs.toList = some uc) (hv : Vws [] g uc us) (hH : VH [] H g H0)
    (hal : aliveB H g = true) (hol : olds g = true) (hlv : (g.all fun e => Nat.blt e.1 100 && match look H0 e.1 with | some (some _) => true | _ => false) = true) (hu : u.ren (rn g M) = u') (hh : renH (rn g M) h = h') :
    OpV P o H sl M 100 fun u1 h1 => u1 = u' ∧ h1 = h' :=
  (o_call M g hs hop hx ha hv hH hal hol hlv).mono (by rintro _ _ ⟨_, _, ⟨rfl, rfl⟩, rfl, rfl⟩; exact ⟨hu, hh⟩)
theorem o_callp {P : Program} {o : Oper} {H : Hp} {sl : List (Nat × V)} {f : FuncId} {us uc : List V} {x : Operand} {xs : Array Operand} {ats : Array TypeId} {u u' : V} (M : Nat) (hs : Spec P f us [] fun u1 h1 => u1 = u ∧ h1 = [])
    (hop : o.op = .call { callee := .value x, args := xs, argTypes := ats }) (hx : ev sl x = some (.d (.c (.func (.func f) #[] #[])))) (ha : evl sl xs.toList = some uc) (hv : Vws [] [] uc us) (hu : u.ren (rn [] M) = u') :
    OpV P o H sl M 100 fun u1 h1 => u1 = u' ∧ h1 = [] := o_call1 M [] hs hop hx ha hv VH.nil rfl rfl rfl hu rfl
end Go.Proofs.YtlbnhhfaedhgfaaGreatDoor
namespace Go.Proofs.YtlbnhhfaedhgfaaGreatDoor
open Go.RowKit
attribute [local simp] Sem.run_bind Sem.run_pure Result.andThen_ok

abbrev lst {α : Type} (f : α → List D) (xs : List α) : D := .l xs.length (xs.flatMap f)
theorem flat_at {α : Type} {f : α → List D} {z : Nat} (hf : ∀ a, (f a).length = z) : ∀ {xs : List α} {m : Nat} {a : α}, xs[m]? = some a → ∀ j d, (f a)[j]? = some d → (xs.flatMap f)[m * z + j]? = some d
  | [], m, a, h, _, _, _ => by simp at h
  | x :: xs, 0, a, h, j, d, hj => by
    simp only [List.getElem?_cons_zero, Option.some.injEq] at h; subst h
    rw [List.flatMap_cons, Nat.zero_mul, Nat.zero_add, List.getElem?_append_left (List.getElem?_eq_some_iff.1 hj).1]; exact hj
  | x :: xs, m + 1, a, h, j, d, hj => by
    have e : (m + 1) * z + j = z + (m * z + j) := by rw [Nat.add_mul]; omega
    rw [List.flatMap_cons, List.getElem?_append_right (by rw [hf]; omega), hf, show (m + 1) * z + j - z = m * z + j by omega]
    exact flat_at hf (by simpa using h) j d hj
theorem flat_len {α : Type} {f : α → List D} {z : Nat} (hf : ∀ a, (f a).length = z) : ∀ xs : List α, (xs.flatMap f).length = xs.length * z
  | [] => by simp
  | x :: xs => by rw [List.flatMap_cons, List.length_append, hf, flat_len hf xs, List.length_cons, Nat.add_mul]; omega
theorem flat_drop {α : Type} {f : α → List D} {z : Nat} (hf : ∀ a, (f a).length = z) : ∀ (xs : List α) (n : Nat), (xs.flatMap f).drop (n * z) = (xs.drop n).flatMap f
  | xs, 0 => by simp
  | [], n + 1 => by simp
  | x :: xs, n + 1 => by
    rw [List.flatMap_cons, List.drop_succ_cons, ← flat_drop hf xs n, Nat.add_mul, Nat.one_mul, Nat.add_comm, ← List.drop_drop]
    congr 1
    exact List.drop_left' (hf x)
theorem flat_take {α : Type} {f : α → List D} {z : Nat} (hf : ∀ a, (f a).length = z) : ∀ (xs : List α) (n : Nat), (xs.flatMap f).take (n * z) = (xs.take n).flatMap f
  | xs, 0 => by simp
  | [], n + 1 => by simp
  | x :: xs, n + 1 => by
    rw [List.flatMap_cons, List.take_succ_cons, List.flatMap_cons, ← flat_take hf xs n, Nat.add_mul, Nat.one_mul, Nat.add_comm]
    rw [List.take_append, hf, List.take_of_length_le (by rw [hf]; omega)]
    congr 2; omega

section
variable {P : Program} {o : Oper} {H : Hp} {sl : List (Nat × V)} {u ux uy : V} {h : Hp} {x y : Operand} {T T' U E t : TypeId} {n k z off bytes m : Nat} {i : Int} {ag : Bool} {cs cs' : List V}
theorem o_ixe {α : Type} {f : α → List D} {xs : List α} {ys : List D} [hS : Sl P t E z bytes] (hop : o.op = .indexAddr t x y) (hx : ev sl x = some (.d (lst f xs))) (hy : ev sl y = some (vI i)) (hf : ∀ a, (f a).length = z) (hm : i = (m : Int)) (hl : m < xs.length) (hz : f (xs[m]'hl) = ys) : OpD P o H sl 0 0 (.q ys) [] := by
  subst hz
  exact o_ixq hop hx hy hm hl (flat_at hf (List.getElem?_eq_getElem hl))

theorem fillV_rel {w : World} {ok : Nat → Prop} {ρ : Lc} {pl : List (Nat × Nat)} {place : Nat → Option (Nat × Nat)} (hpl : ∀ i x, pl[i]? = some x → place i = some x) : ∀ {ps : List (Nat × V)} {vs : List (Nat × Value)} {c : List V} {us : List Value} {out : List V}, fillV pl c ps = some out → ps.length = vs.length → (∀ (j i : Nat) (u : V), ps[j]? = some (i, u) → ∃ v, vs[j]? = some (i, v) ∧ RV w ok ρ u v) → RVs w ok ρ c us → us.all Value.oneCell' = true →
    ∃ os : List Value, Instr.fill place us.toArray vs = some os.toArray ∧ RVs w ok ρ out os ∧ os.all Value.oneCell' = true
  | [], [], c, us, out, h, _, _, hc, h1 => by simp only [fillV, Option.some.injEq] at h; subst h; exact ⟨us, rfl, hc, h1⟩
  | [], v :: vs, c, us, out, h, hl, _, _, _ => by simp at hl
  | (i, u) :: ps, [], c, us, out, h, hl, _, _, _ => by simp at hl
  | (i, u) :: ps, (i', v) :: vs, c, us, out, h, hl, hr, hc, h1 => by
    obtain ⟨v0, h2, h3⟩ := hr 0 i u rfl
    simp only [List.getElem?_cons_zero, Option.some.injEq, Prod.mk.injEq] at h2
    obtain ⟨e1, e2⟩ := h2
    subst e1
    subst e2
    simp only [fillV] at h
    split at h
    · rename_i off n hp
      cases hb : (((cellsV u).length == n && Nat.ble (off + n) c.length) && (cellsV u).all cellV) with
      | false => rw [hb] at h; cases h
      | true =>
        rw [hb, cond_true] at h
        simp only [Bool.and_eq_true, beq_iff_eq, Nat.ble_eq] at hb
        obtain ⟨⟨g1, g2⟩, g3⟩ := hb
        obtain ⟨h4, h5⟩ := h3.cells g3
        have hlen := h4.length
        have hclen := hc.length
        obtain ⟨os, h6, h7, h8⟩ := fillV_rel hpl (ps := ps) (vs := vs) h (by simpa using hl) (fun j i u hj => by
          obtain ⟨v, h9, h10⟩ := hr (j + 1) i u (by simpa using hj)
          exact ⟨v, by simpa using h9, h10⟩) (stV_rel off h4 hc) (stL_one off h5 h1)
        refine ⟨os, ?_, h7, h8⟩
        simp only [Instr.fill, hpl _ _ hp]
        have hsz : v.cells.size = n := by rw [← Array.length_toList, hlen]; exact g1
        rw [if_neg (by simp [hsz]; omega)]
        have : v.cells.zipIdx.foldl (fun cs (x : Value × Nat) => cs.setIfInBounds (off + x.2) x.1) us.toArray = (stL off v.cells.toList us).toArray := by
          have := set_fold v.cells.toList 0 off us.toArray (by simp only [List.size_toArray, Array.length_toList]; omega)
          rw [stL_eq off v.cells.toList us (by simp only [Array.length_toList, hsz]; omega)]
          rw [← Array.foldl_toList, Array.toList_zipIdx]
          simpa using this
        rw [this]; exact h6
    · cases h
theorem evs_spec {B : Nat → Prop} {ρ : Lc} {a : Act} {w : World} (hs : SR B sl ρ a w) : ∀ {ps : List (Nat × Operand)} {l : List (Nat × V)}, evs sl ps = some l → l.length = ps.length ∧ ∀ (j i : Nat) (u : V), l[j]? = some (i, u) → ∃ v, (ps.map fun p => (p.1, a.eval p.2))[j]? = some (i, v) ∧ RV w (okb B w ρ) ρ u v
  | [], l, h => by simp only [evs, Option.some.injEq] at h; subst h; simp
  | (i, x) :: r, l, h => by
    simp only [evs] at h
    split at h
    · rename_i u l' h1 h2
      obtain rfl := Option.some.inj h
      obtain ⟨h3, h4⟩ := evs_spec hs h2
      refine ⟨by simp [h3], fun j i' u' hj => ?_⟩
      cases j with
      | zero =>
        simp only [List.getElem?_cons_zero, Option.some.injEq, Prod.mk.injEq] at hj
        obtain ⟨rfl, rfl⟩ := hj
        exact ⟨_, rfl, ev_spec hs h1⟩
      | succ j => simpa using h4 j i' u' (by simpa using hj)
    · cases h
theorem places_run {w : World} {fs : Array Field} {pl : List (Nat × Nat)} (h : (fs.toList.mapM fun fd => (P.info? fd.type).map fun i => (fd.offset, i.size)) = some pl) :
    (fs.mapM fun f => (do pure (f.offset, ← sizeOf f.type) : Sem (Nat × Nat))).run P w = .ok pl.toArray w := by
  have key : ∀ (l : List Field) (pl : List (Nat × Nat)), (l.mapM fun fd => (P.info? fd.type).map fun i => (fd.offset, i.size)) = some pl → (l.mapM fun f => (do pure (f.offset, ← sizeOf f.type) : Sem (Nat × Nat))).run P w = .ok pl w := by
    intro l
    induction l with
    | nil => intro pl h; simp at h; subst h; simp
    | cons f l ih =>
      intro pl h
      simp only [List.mapM_cons] at h
      cases hi : P.info? f.type with
      | none => simp [hi] at h
      | some i =>
        cases hl : l.mapM fun fd => (P.info? fd.type).map fun i => (fd.offset, i.size) with
        | none => simp [hi, hl] at h
        | some pl' =>
          simp [hi, hl] at h
          subst h
          have h1 := ih pl' hl
          have h2 : (do pure (f.offset, ← sizeOf f.type) : Sem (Nat × Nat)).run P w = .ok (f.offset, i.size) w := by simp [sizeOf, typeInfo, hi]
          rw [List.mapM_cons, Sem.run_bind]
          rw [h2]
          simp only [Result.andThen_ok]
          rw [Sem.run_bind, h1]
          simp
  have e : (fs.mapM fun f => (do pure (f.offset, ← sizeOf f.type) : Sem (Nat × Nat))) = (do let l ← fs.toList.mapM fun f => (do pure (f.offset, ← sizeOf f.type) : Sem (Nat × Nat)); pure l.toArray) := by
    obtain ⟨l⟩ := fs
    simp
  rw [e]
  simp only [Sem.run_bind, key _ _ h, Result.andThen_ok, Sem.run_pure]
theorem o_build {parts : Array (Nat × Operand)} {pl : List (Nat × Nat)} {zs : List Value} {l : List (Nat × V)} {out : List V} [hB : Bd P T pl zs] (hop : o.op = .build T parts) (hl : evs sl parts.toList = some l) (h1 : zs.all Value.oneCell' = true) (hf : fillV pl (zs.map fun v => V.d (.c v)) l = some out) : OpD P o H sl 0 0 (.a out) [] := .read fun B a w ρ hs _ => by
  obtain ⟨g1, g2⟩ := evs_spec hs hl
  have hp := hB.pl
  unfold places at hp
  cases hu : P.underlying T with
  | none => simp [hu] at hp
  | some d =>
    cases d <;> first | (simp [hu] at hp; done) | skip
    rename_i fs
    simp only [hu] at hp
    obtain ⟨os, h3, h4, h5⟩ := fillV_rel (w := w) (ok := okb B w ρ) (ρ := ρ) (pl := pl) (place := (pl.toArray[·]?)) (fun i x h => by simpa using h) (vs := (parts.toList.map fun p => (p.1, a.eval p.2))) hf (by rw [g1]; simp) g2 (rvs_c fun v hv => List.all_eq_true.1 h1 v hv) h1
    refine ⟨.agg os.toArray, ?_, .a h4⟩
    unfold execOp; rw [hop]
    have hz := hB.z
    unfold ZeroIs at hz
    cases hi : P.info? T with
    | none => simp [hi] at hz
    | some i =>
    cases hzv : i.zero with
    | none => simp [hi, hzv] at hz
    | some zv =>
    simp only [hi, hzv, Option.bind_some, Option.map_some, Option.some.injEq] at hz
    have hzc : zv.cells = zs.toArray := by rw [← hz]
    simp only [Instr.build, zeroValue, typeInfo, program, Sem.run_bind, Sem.run, hi, Sem.run_pure, Result.andThen_ok, hzv, run_underlying hu, places_run hp]
    have e : (parts.map fun (i, x) => (i, a.eval x)).toList = parts.toList.map fun p => (p.1, a.eval p.2) := by simp
    rw [e, hzc, h3]
    simp
def chkPl (z : Nat) : Nat → List (Nat × Nat) → Bool
  | _, [] => true
  | k, x :: r => (x.1 == k * z && x.2 == z) && chkPl z (k + 1) r
theorem chkPl_at {z : Nat} : ∀ {pl : List (Nat × Nat)} {k : Nat}, chkPl z k pl = true → ∀ i x, pl[i]? = some x → x = ((k + i) * z, z)
  | [], k, _, i, x, h => by simp at h
  | y :: r, k, hc, i, x, h => by
    simp only [chkPl, Bool.and_eq_true, beq_iff_eq] at hc
    cases i with
    | zero =>
      simp only [List.getElem?_cons_zero, Option.some.injEq] at h; subst h
      exact Prod.ext hc.1.1 hc.1.2
    | succ i =>
      have := chkPl_at hc.2 i x (by simpa using h)
      rw [this, show k + 1 + i = k + (i + 1) by omega]
class Ab (P : Program) (T : TypeId) (pl : outParam (List (Nat × Nat))) (zs : outParam (List Value)) : Prop where
  out : ∃ len E z, P.underlying T = some (.array len E) ∧ (P.info? E).map (·.size) = some z ∧ chkPl z 0 pl = true
  z : ZeroIs P T zs
theorem o_builda {parts : Array (Nat × Operand)} {pl : List (Nat × Nat)} {zs : List Value} {l : List (Nat × V)} {out : List V} [hB : Ab P T pl zs] (hop : o.op = .build T parts) (hl : evs sl parts.toList = some l) (h1 : zs.all Value.oneCell' = true) (hf : fillV pl (zs.map fun v => V.d (.c v)) l = some out) : OpD P o H sl 0 0 (.a out) [] := .read fun B a w ρ hs _ => by
  obtain ⟨g1, g2⟩ := evs_spec hs hl
  obtain ⟨len, E, z, hu, hE, hc⟩ := hB.out
  obtain ⟨os, h3, h4, h5⟩ := fillV_rel (w := w) (ok := okb B w ρ) (ρ := ρ) (pl := pl) (place := fun i => some (i * z, z)) (fun i x h => by have := chkPl_at hc i x h; simp at this; simp [this]) (vs := (parts.toList.map fun p => (p.1, a.eval p.2))) hf (by rw [g1]; simp) g2 (rvs_c fun v hv => List.all_eq_true.1 h1 v hv) h1
  refine ⟨.agg os.toArray, ?_, .a h4⟩
  unfold execOp; rw [hop]
  have hz := hB.z
  unfold ZeroIs at hz
  cases hi : P.info? T with
  | none => simp [hi] at hz
  | some i =>
  cases hzv : i.zero with
  | none => simp [hi, hzv] at hz
  | some zv =>
  cases hie : P.info? E with
  | none => simp [hie] at hE
  | some ie =>
  simp only [hie, Option.map_some, Option.some.injEq] at hE
  simp only [hi, hzv, Option.bind_some, Option.map_some, Option.some.injEq] at hz
  have hzc : zv.cells = zs.toArray := by rw [← hz]
  simp only [Instr.build, zeroValue, sizeOf, typeInfo, program, Sem.run_bind, Sem.run, hi, hie, Sem.run_pure, Result.andThen_ok, hzv, run_underlying hu]
  have e : (parts.map fun (i, x) => (i, a.eval x)).toList = parts.toList.map fun p => (p.1, a.eval p.2) := by simp
  rw [e, hzc, hE, h3]
  simp
end
end Go.Proofs.YtlbnhhfaedhgfaaGreatDoor
namespace Go.Proofs.YtlbnhhfaedhgfaaGreatDoor
open Go.RowKit
attribute [local simp] Sem.run_bind Sem.run_pure Result.andThen_ok

abbrev arrT {α : Type} (E : TypeId) (z : Nat) (f : α → List D) (xs : List α) : Blk := .arr E z xs.length ((xs.flatMap f).map V.d)
def hdk : Option Nat → Hp
  | none => []
  | some k => [(k, none)]
theorem Step.arr {B : Nat → Prop} {H : Hp} {ρ : Lc} {w w' : World} {k : Nat} {l : Loc} {blk : Blk} (ko : Option Nat) (hk : ρ k = none) (h1 : w'.os = w.os) (h2 : w'.tape = w.tape) (h3 : w'.output = w.output) (hs : w.heap.size ≤ w'.heap.size)
    (hkeep : ∀ b, b < w.heap.size → (∀ k0 l0, ko = some k0 → ρ k0 = some l0 → l0.bl ≠ some b) → w'.heap[b]? = w.heap[b]?) (hl : ∀ b, l.bl = some b → (w.heap.size ≤ b ∧ b < w'.heap.size) ∨ ∃ k0 l0, ko = some k0 ∧ ρ k0 = some l0 ∧ l0.bl = some b)
    (hH : ∀ k0, ko = some k0 → k0 ≠ k ∧ ∃ blk, look H k0 = some (some blk)) (hrel : ∀ ok' ρ', Stl w w' (okb B w ρ) ok' → Ext ρ ρ' → blk.rel w' ok' ρ' l) : Step B H (hdk ko ++ [(k, some blk)]) ρ (upd ρ k l) w w' := by
  have hst : Stl w w' (okb B w ρ) (okb B w' (upd ρ k l)) := fun b ⟨hb, hB, ho⟩ => ⟨⟨by omega, hB, fun j l' hj e => by
    rcases upd_case hj with ⟨-, rfl⟩ | hj
    · rcases hl b e with h | ⟨k0, l0, -, h5, h6⟩
      · omega
      · exact ho k0 l0 h5 h6
    · exact ho j l' hj e⟩, hkeep b hb fun k0 l0 _ h5 => ho k0 l0 h5⟩
  have hlk : ∀ j x, look (hdk ko ++ [(k, some blk)]) j = some (some x) → j = k ∧ x = blk := fun j x hj => by
    cases ko with
    | none =>
      obtain ⟨h, e⟩ := look_one' hj
      exact ⟨h, Option.some.inj e⟩
    | some k0 =>
      simp only [hdk, List.cons_append, List.nil_append, look_cons] at hj
      split at hj
      · cases hj
      · obtain ⟨h, e⟩ := look_one' (x := some blk) (k := k) (by rw [look_cons]; exact hj)
        exact ⟨h, Option.some.inj e⟩
  have hkk : look (hdk ko ++ [(k, some blk)]) k = some (some blk) := by
    cases ko with
    | none => simp [hdk, look_cons]
    | some k0 => simp [hdk, look_cons, (hH k0 rfl).1]
  have hko : ∀ k0, ko = some k0 → look (hdk ko ++ [(k, some blk)]) k0 = some none := fun k0 e => by subst e; simp [hdk, look_cons]
  refine ⟨h1, h2, h3, hs, upd_ext hk, fun j l' hj => ?_, fun b hb hn => hkeep b hb fun k0 l0 e h5 => hn k0 l0 (by rw [hko k0 e]; simp) h5, fun j hj hn => ?_, fun j blk' hj => ?_, fun j j' _ _ _ _ _ hj hj' _ _ _ _ => (hlk j _ hj).1.trans (hlk j' _ hj').1.symm⟩
  · rcases upd_case hj with ⟨rfl, rfl⟩ | hj
    · refine .inr ⟨hk, by rw [hkk]; simp, fun b e => ?_⟩
      rcases hl b e with h | ⟨k0, l0, e0, h5, h6⟩
      · exact .inl h
      · exact .inr ⟨k0, l0, hko k0 e0, h5, h6⟩
    · exact .inl hj
  · cases ko with
    | none =>
      obtain rfl := look_one hj
      exact absurd hk hn
    | some k0 =>
      by_cases e : k0 = j
      · subst e; exact (hH k0 rfl).2
      · have : look [(k, some blk)] j ≠ none := by
          simp only [hdk, List.cons_append, List.nil_append] at hj
          rw [look_cons, if_neg e] at hj; exact hj
        obtain rfl := look_one this
        exact absurd hk hn
  · obtain ⟨rfl, rfl⟩ := hlk j _ hj
    exact ⟨l, upd_self _ _ _, hrel _ _ hst (upd_ext hk)⟩

def srcD : D → Option (Nat × List V)
  | .l m xs => some (m, xs.map .d)
  | .c (.slice none 0 0) => some (0, [])
  | .c _ => none
  | .m _ => none
def srcV (H : Hp) : V → Option (Nat × List V)
  | .d x => srcD x
  | .h k => match look H k with
    | some (some (.arr _ _ n cs)) => some (n, cs)
    | _ => none
  | .s k o m z => match look H k with
    | some (some (.arr _ _ _ cs)) => some (m, (cs.drop (o * z)).take (m * z))
    | _ => none
  | _ => none
theorem srcV_spec {B : Nat → Prop} {H : Hp} {ρ : Lc} {w : World} (hr : HR B H ρ w) {u : V} {v : Value} {m : Nat} {ws : List V} (hu : srcV H u = some (m, ws)) (hv : RV w (okb B w ρ) ρ u v) :
    ∃ p c, v = .slice p m c ∧ m ≤ c ∧ (m = 0 ∨ ∃ b o us, p = some ⟨b, o, none⟩ ∧ b < w.heap.size ∧ RVs w (okb B w ρ) ρ ws us ∧ us.all Value.oneCell' = true ∧ ∀ j x, us[j]? = some x → w.cell? ⟨b, o + j, none⟩ = some x) := by
  cases hv with
  | d hv =>
    cases hv with
    | m _ _ _ => simp [srcV, srcD] at hu
    | c h1 =>
      simp only [srcV, srcD] at hu
      split at hu
      · rename_i h; cases h
      · rename_i h; cases h
        simp only [Option.some.injEq, Prod.mk.injEq] at hu
        obtain ⟨rfl, rfl⟩ := hu
        exact ⟨none, 0, rfl, Nat.le_refl _, .inl rfl⟩
      · cases hu
      · cases hu
    | nil p c =>
      simp only [srcV, srcD, Option.some.injEq, Prod.mk.injEq] at hu
      obtain ⟨rfl, rfl⟩ := hu
      exact ⟨p, c, rfl, Nat.zero_le _, .inl rfl⟩
    | l h1 _ h2 h3 h4 =>
      simp only [srcV, srcD, Option.some.injEq, Prod.mk.injEq] at hu
      obtain ⟨rfl, rfl⟩ := hu
      exact ⟨_, _, rfl, h1, .inr ⟨_, _, _, rfl, h2.1, h3.toV, h3.one, h4⟩⟩
  | h hp =>
    simp only [srcV] at hu
    split at hu <;> first | (cases hu; done) | skip
    rename_i E z n cs hH
    simp only [Option.some.injEq, Prod.mk.injEq] at hu
    obtain ⟨rfl, rfl⟩ := hu
    obtain ⟨l, h1, h2⟩ := hr.rel _ _ hH
    rw [hp] at h1; obtain rfl := Option.some.inj h1
    rcases h2 with ⟨h3, rfl, rfl⟩ | ⟨g, cap, us, sp, h3, h4, h5, h6, h7, h8, h0, h9⟩
    · cases h3; exact ⟨_, _, rfl, Nat.le_refl _, .inl rfl⟩
    · cases h3
      exact ⟨_, _, rfl, h4, .inr ⟨g, 0, us, rfl, hr.lt _ _ g hp rfl, h9, h0, fun j x hj => by rw [Nat.zero_add, World.cell?, h6]; simp [List.getElem?_append_left (List.getElem?_eq_some_iff.1 hj).1, hj]⟩⟩
  | s hp hl hc =>
    simp only [srcV] at hu
    split at hu <;> first | (cases hu; done) | skip
    rename_i E z n cs hH
    simp only [Option.some.injEq, Prod.mk.injEq] at hu
    obtain ⟨rfl, rfl⟩ := hu
    obtain ⟨l, h1, h2⟩ := hr.rel _ _ hH
    rw [hp] at h1; obtain rfl := Option.some.inj h1
    rcases h2 with ⟨h3, rfl, rfl⟩ | ⟨g, cap, us, sp, h3, h4, h5, h6, h7, h8, h0, h9⟩
    · cases h3
    · cases h3
      refine ⟨_, _, rfl, by omega, .inr ⟨_, _, _, rfl, hr.lt _ _ _ hp rfl, (h9.drop _).take _, ?_, fun j x hj => ?_⟩⟩
      · exact List.all_eq_true.2 fun x hx => List.all_eq_true.1 h0 x (List.mem_of_mem_drop (List.mem_of_mem_take hx))
      · rw [List.getElem?_take] at hj
        split at hj
        · simp only [List.getElem?_drop] at hj
          rw [World.cell?, h6]
          simp [List.getElem?_append_left (List.getElem?_eq_some_iff.1 hj).1, hj]
        · cases hj
  | s0 =>
    simp only [srcV] at hu
    split at hu <;> first | (cases hu; done) | skip
    simp only [Option.some.injEq, Prod.mk.injEq] at hu
    obtain ⟨rfl, rfl⟩ := hu
    exact ⟨_, _, rfl, Nat.zero_le _, .inl rfl⟩
  | _ => simp [srcV] at hu

section
variable {P : Program} {o : Oper} {H : Hp} {sl : List (Nat × V)} {u ux uy : V} {h : Hp} {x y : Operand} {T T' U E t : TypeId} {n k z off bytes m : Nat} {i : Int} {ag : Bool} {cs cs' ws : List V}
set_option maxHeartbeats 1000000 in
theorem o_append_h (k' : Nat) [hS : Sl P t E z bytes] (hop : o.op = .call { callee := .builtin .append, args := #[x, y], argTypes := #[t, t] }) (hx : ev sl x = some (.h k)) (hy : ev sl y = some uy) (hH : look H k = some (some (.arr E z n cs))) (hsrc : srcV H uy = some (m, ws)) (hws : ws.length = m * z)
    (hb : (n + m) * bytes ≤ 140737488355328) (hm : n + m ≤ 9223372036854775807) (hkk : (!Nat.beq k k') = true) : OpD P o H sl k' 1 (.h k') [(k, none), (k', some (.arr E z (n + m) (cs ++ ws)))] := fun B a w ρ hs hr hfr => by
  have hfr := hfr k' (Nat.le_refl _) (by omega)
  have hkk : k ≠ k' := fun e => by subst e; simp at hkk
  obtain ⟨i, zv, hi, hz, rfl, rfl, hzs⟩ := hS.el
  have ht := hS.un
  obtain ⟨px, cx, hv, hmc, hxx⟩ := srcV_spec hr hsrc (ev_spec hs hy)
  have hx' := ev_spec hs hx
  obtain ⟨l, g1, g2⟩ := hr.rel _ _ hH
  have fin : ∀ (v v' : Value) (w' : World), a.eval x = v → (Builtin.append_ #[t, t] o.type #[v, .slice px m cx]).run P w = .ok v' w' → (execOp a.eval o).run P w = .ok (.value v') w' := fun v v' w' e hrun => by
    unfold execOp; rw [hop]
    simp [resolve, invoke, builtin, e, hv, hrun]
  have hH' : ∀ k0, some k = some k0 → k0 ≠ k' ∧ ∃ blk, look H k0 = some (some blk) := fun k0 e => by cases e; exact ⟨hkk, _, hH⟩
  have stay : ∀ (v : Value), ρ k = some (.arr v) → Blk.rel w (okb B w ρ) ρ (.arr E i.size (n + m) (cs ++ ws)) (.arr v) → Step B H (hdk (some k) ++ [(k', some (.arr E i.size (n + m) (cs ++ ws)))]) ρ (upd ρ k' (.arr v)) w w := fun v hv hrel =>
    Step.arr (some k) hfr rfl rfl rfl (Nat.le_refl _) (fun _ _ _ => rfl) (fun b e => .inr ⟨k, _, rfl, hv, e⟩) hH' fun ok' ρ' h1 h2 => Blk.rel_mono h1 h2 (fun _ _ => rfl) hrel
  generalize e : a.eval x = vx at hx'
  cases hx' with
  | h hp =>
    rw [g1] at hp
    obtain rfl := Option.some.inj hp
    rcases g2 with ⟨h1, rfl, rfl⟩ | ⟨g, cap, us, sp, h1, h2, h3, h4, h5, h6, h7, h8⟩
    · rw [h1] at e g1
      rcases Nat.eq_zero_or_pos m with rfl | hm0
      · obtain rfl : ws = [] := List.eq_nil_of_length_eq_zero (by simpa using hws)
        exact ⟨_, _, w, _, fin _ _ _ e (run_append_zero t _ E i ht hi _ _ _ _ _ (Nat.le_refl _)), .inl rfl, stay _ g1 (.inl ⟨rfl, rfl, rfl⟩), .h (upd_self _ _ _)⟩
      · obtain ⟨b, o0, vs, rfl, hbw, hvs, hone, hcell⟩ := hxx.resolve_left (by omega)
        have hvl := hvs.length
        have hr0 := run_append_nil (P := P) w t o.type E i zv ht hi hz ⟨b, o0, none⟩ m cx vs (by omega) (fun j u hj => by rw [addr_add]; exact hcell j u hj) hm0 (by omega) (by simp only [Nat.zero_add] at hb; omega)
        rw [ta] at hr0
        have hge := grownCap_ge w m 0 E
        have hle := grownCap_le_maxLen w m 0 E (by unfold maxLen; omega)
        refine ⟨_, _, _, _, fin _ _ _ e hr0, .inl rfl, Step.arr (l := .arr (.slice (some ⟨w.heap.size, 0, none⟩) m (grownCap w m 0 E))) (some k) hfr rfl rfl rfl (by simp) (fun b hb _ => Below.heap_alloc w.drew _ _ hb) (fun b e => by simp only [Loc.bl, Option.some.injEq] at e; subst e; exact .inl ⟨Nat.le_refl _, by simp⟩) hH' fun ok' ρ' h1 h2 => .inr ⟨w.heap.size, _, vs, _, by simp, by omega, hle, heap_alloc_new w.drew _, ?_, by simp; omega, hone, by simpa using hvs.mono h1 h2⟩, ?_⟩
        · simp only [List.length_append, List.size_toArray, Array.length_toList, size_zeroCells, hzs, hvl, hws, ← Nat.add_mul]
          congr 1; omega
        · exact .h (upd_self _ _ _)
    · rw [h1] at e g1
      have h9 := h8.length
      have holds : ∀ j u, us[j]? = some u → w.cell? ((⟨g, 0, none⟩ : Addr).add j) = some u := fun j u hj => by
        rw [addr_add, Nat.zero_add, World.cell?, h4]
        simp [List.getElem?_append_left (List.getElem?_eq_some_iff.1 hj).1, hj]
      rcases Nat.eq_zero_or_pos m with rfl | hm0
      · obtain rfl : ws = [] := List.eq_nil_of_length_eq_zero (by simpa using hws)
        exact ⟨_, _, w, _, fin _ _ _ e (run_append_zero t _ E i ht hi _ _ _ _ _ h2), .inl rfl, stay _ g1 (.inr ⟨g, cap, us, sp, rfl, h2, h3, h4, h5, h6, h7, by simpa using h8⟩), .h (upd_self _ _ _)⟩
      · obtain ⟨b, o0, vs, rfl, hbw, hvs, hone, hcell⟩ := hxx.resolve_left (by omega)
        have hvl := hvs.length
        have hnews : ∀ j u, vs[j]? = some u → w.cell? ((⟨b, o0, none⟩ : Addr).add j) = some u := fun j u hj => by rw [addr_add]; exact hcell j u hj
        have hlen : (us ++ vs).length = (n + m) * i.size := by rw [List.length_append, h6, hvl, hws, Nat.add_mul]
        by_cases hroom : n + m ≤ cap
        · have hfit : n * i.size + vs.length ≤ (us ++ sp).toArray.size := by
            rw [List.size_toArray, h5, hvl, hws, ← Nat.add_mul]; exact Nat.mul_le_mul_right _ hroom
          have hr0 := run_append_room (P := P) w t o.type E i ht hi g n cap (us ++ sp).toArray h4 ⟨b, o0, none⟩ m cx vs (by omega) hnews (List.all_eq_true.1 hone) hroom hfit
          have htake : (us ++ sp).take (n * i.size) = us := by rw [← h6]; exact List.take_left
          simp only [htake] at hr0
          refine ⟨_, _, _, _, fin _ _ _ e hr0, .inl rfl, Step.arr (l := .arr (.slice (some ⟨g, 0, none⟩) (n + m) cap)) (some k) hfr rfl rfl rfl (by simp) (fun b hb hn => setRow_other w g b _ fun e => hn k _ rfl g1 (by rw [e]; rfl)) (fun b e => .inr ⟨k, _, rfl, g1, e⟩) hH' fun ok' ρ' h1 h2 => .inr ⟨g, cap, us ++ vs, (us ++ sp).drop (n * i.size + vs.length), rfl, hroom, h3, setRow_heap w g _ _ _ _ h4, ?_, hlen, ?_, (h8.mono h1 h2).append (hvs.mono h1 h2)⟩, .h (upd_self _ _ _)⟩
          · rw [List.length_append, hlen, List.length_drop, h5, hvl, hws, ← Nat.add_mul]
            have := Nat.mul_le_mul_right i.size hroom
            omega
          · rw [List.all_append, h7, hone]; rfl
        · have hr0 := run_append_grow (P := P) w t o.type E i zv ht hi hz ⟨g, 0, none⟩ n cap us h6 holds ⟨b, o0, none⟩ m cx vs (by omega) hnews (by omega) (by omega) (growslice_fits (by omega) hb)
          rw [List.append_toArray, ta] at hr0
          have hge := grownCap_ge w (n + m) cap E
          have hle := grownCap_le_maxLen w (n + m) cap E (by unfold maxLen; omega)
          refine ⟨_, _, _, _, fin _ _ _ e hr0, .inl rfl, Step.arr (l := .arr (.slice (some ⟨w.heap.size, 0, none⟩) (n + m) (grownCap w (n + m) cap E))) (some k) hfr rfl rfl rfl (by simp) (fun b hb _ => Below.heap_alloc w.drew _ _ hb) (fun b e => by simp only [Loc.bl, Option.some.injEq] at e; subst e; exact .inl ⟨Nat.le_refl _, by simp⟩) hH' fun ok' ρ' h1 h2 => .inr ⟨w.heap.size, _, us ++ vs, _, rfl, hge, hle, heap_alloc_new w.drew _, ?_, hlen, ?_, (h8.mono h1 h2).append (hvs.mono h1 h2)⟩, .h (upd_self _ _ _)⟩
          · simp only [List.length_append, List.size_toArray, Array.length_toList, size_zeroCells, hzs] at hlen ⊢
            rw [hlen, ← Nat.add_mul]
            congr 1; omega
          · rw [List.all_append, h7, hone]; rfl
set_option maxHeartbeats 1000000 in
theorem o_append_p (k' : Nat) {N : Nat} [hS : Sl P t E z bytes] (hop : o.op = .call { callee := .builtin .append, args := #[x, y], argTypes := #[t, t] }) (hx : ev sl x = some (.s k 0 n z)) (hy : ev sl y = some uy) (hH : look H k = some (some (.arr E z N cs))) (hsrc : srcV H uy = some (m, ws)) (hws : ws.length = m * z)
    (hN : 0 < N) (hm : n + m ≤ N) (hkk : (!Nat.beq k k') = true) : OpD P o H sl k' 1 (.h k') [(k, none), (k', some (.arr E z (n + m) (cs.take (n * z) ++ ws)))] := fun B a w ρ hs hr hfr => by
  have hfr := hfr k' (Nat.le_refl _) (by omega)
  have hkk : k ≠ k' := fun e => by subst e; simp at hkk
  obtain ⟨i, zv, hi, hz, rfl, rfl, hzs⟩ := hS.el
  have ht := hS.un
  obtain ⟨px, cx, hv, hmc, hxx⟩ := srcV_spec hr hsrc (ev_spec hs hy)
  have hx' := ev_spec hs hx
  obtain ⟨l, g1, g2⟩ := hr.rel _ _ hH
  have fin : ∀ (v v' : Value) (w' : World), a.eval x = v → (Builtin.append_ #[t, t] o.type #[v, .slice px m cx]).run P w = .ok v' w' → (execOp a.eval o).run P w = .ok (.value v') w' := fun v v' w' e hrun => by
    unfold execOp; rw [hop]
    simp [resolve, invoke, builtin, e, hv, hrun]
  have hH' : ∀ k0, some k = some k0 → k0 ≠ k' ∧ ∃ blk, look H k0 = some (some blk) := fun k0 e => by cases e; exact ⟨hkk, _, hH⟩
  generalize e : a.eval x = vx at hx'
  cases hx' with
  | s0 hp hc =>
    rw [g1] at hp
    obtain rfl := Option.some.inj hp
    rcases g2 with ⟨h1, rfl, rfl⟩ | ⟨g, cap, us, sp, h1, h2, h3, h4, h5, h6, h7, h8⟩
    · omega
    · cases h1; omega
  | s hp hl hcap =>
    rw [g1] at hp
    obtain rfl := Option.some.inj hp
    rcases g2 with ⟨h1, rfl, rfl⟩ | ⟨g, cap, us, sp, h1, h2, h3, h4, h5, h6, h7, h8⟩
    · cases h1
    · have q := h1
      simp only [Value.slice.injEq, Option.some.injEq, Addr.mk.injEq, and_true] at q
      obtain ⟨q1, q2, q3⟩ := q
      obtain rfl := q1.symm
      obtain rfl := q2.symm
      obtain rfl := q3.symm
      clear h1
      have h9 := h8.length
      have hus : us = us.take (n * i.size) ++ us.drop (n * i.size) := (List.take_append_drop _ _).symm
      have hnl : n * i.size ≤ us.length := by rw [h6]; exact Nat.mul_le_mul_right _ (by omega)
      have ht1 : RVs w (okb B w ρ) ρ (cs.take (n * i.size)) (us.take (n * i.size)) := h8.take _
      have ho1 : (us.take (n * i.size)).all Value.oneCell' = true := List.all_eq_true.2 fun x hx => List.all_eq_true.1 h7 x (List.mem_of_mem_take hx)
      rw [Nat.zero_mul] at e
      rcases Nat.eq_zero_or_pos m with rfl | hm0
      · obtain rfl : ws = [] := List.eq_nil_of_length_eq_zero (by simpa using hws)
        refine ⟨_, _, w, _, fin _ _ _ e (run_append_zero t _ E i ht hi _ _ _ _ _ (by omega)), .inl rfl, Step.arr (l := .arr (.slice (some ⟨g, 0, none⟩) n cap)) (some k) hfr rfl rfl rfl (Nat.le_refl _) (fun _ _ _ => rfl) (fun b e => .inr ⟨k, _, rfl, g1, e⟩) hH' fun ok' ρ' h1 h2 => .inr ⟨g, cap, us.take (n * i.size), us.drop (n * i.size) ++ sp, rfl, by omega, h3, by rw [← List.append_assoc, List.take_append_drop]; exact h4, by rw [← List.append_assoc, List.take_append_drop]; exact h5, by rw [List.length_take]; simpa using Nat.min_eq_left hnl, ho1, by rw [List.append_nil]; exact ht1.mono h1 h2⟩, .h (upd_self _ _ _)⟩
      · obtain ⟨b, o0, vs, rfl, hbw, hvs, hone, hcell⟩ := hxx.resolve_left (by omega)
        have hvl := hvs.length
        have hnews : ∀ j u, vs[j]? = some u → w.cell? ((⟨b, o0, none⟩ : Addr).add j) = some u := fun j u hj => by rw [addr_add]; exact hcell j u hj
        have hlen : (us.take (n * i.size) ++ vs).length = (n + m) * i.size := by rw [List.length_append, List.length_take, Nat.min_eq_left hnl, hvl, hws, Nat.add_mul]
        have hroom : n + m ≤ cap := by omega
        have hfit : n * i.size + vs.length ≤ (us ++ sp).toArray.size := by
          rw [List.size_toArray, h5, hvl, hws, ← Nat.add_mul]; exact Nat.mul_le_mul_right _ hroom
        have hr0 := run_append_room (P := P) w t o.type E i ht hi g n cap (us ++ sp).toArray h4 ⟨b, o0, none⟩ m cx vs (by omega) hnews (List.all_eq_true.1 hone) hroom hfit
        have htake : (us ++ sp).take (n * i.size) = us.take (n * i.size) := List.take_append_of_le_length hnl
        simp only [htake] at hr0
        refine ⟨_, _, _, _, fin _ _ _ e hr0, .inl rfl, Step.arr (l := .arr (.slice (some ⟨g, 0, none⟩) (n + m) cap)) (some k) hfr rfl rfl rfl (by simp) (fun b hb hn => setRow_other w g b _ fun e => hn k _ rfl g1 (by rw [e]; rfl)) (fun b e => .inr ⟨k, _, rfl, g1, e⟩) hH' fun ok' ρ' h1 h2 => .inr ⟨g, cap, us.take (n * i.size) ++ vs, (us ++ sp).drop (n * i.size + vs.length), rfl, hroom, h3, setRow_heap w g _ _ _ _ h4, ?_, hlen, ?_, (ht1.mono h1 h2).append (hvs.mono h1 h2)⟩, .h (upd_self _ _ _)⟩
        · rw [List.length_append, hlen, List.length_drop, h5, hvl, hws, ← Nat.add_mul]
          have := Nat.mul_le_mul_right i.size hroom
          omega
        · rw [List.all_append, ho1, hone]; rfl
theorem o_append_n (k' : Nat) [hS : Sl P t E z bytes] (hop : o.op = .call { callee := .builtin .append, args := #[x, y], argTypes := #[t, t] }) (hx : ev sl x = some (.d (.c (.slice none 0 0)))) (hy : ev sl y = some uy) (hsrc : srcV H uy = some (m, ws)) (hws : ws.length = m * z)
    (hb : m * bytes ≤ 140737488355328) (hm : m ≤ 9223372036854775807) : OpD P o H sl k' 1 (.h k') [(k', some (.arr E z m ws))] := fun B a w ρ hs hr hfr => by
  have hfr := hfr k' (Nat.le_refl _) (by omega)
  obtain ⟨i, zv, hi, hz, rfl, rfl, hzs⟩ := hS.el
  have ht := hS.un
  obtain ⟨px, cx, hv, hmc, hxx⟩ := srcV_spec hr hsrc (ev_spec hs hy)
  have e := rv_c (ev_spec hs hx)
  have fin : ∀ (v' : Value) (w' : World), (Builtin.append_ #[t, t] o.type #[.slice none 0 0, .slice px m cx]).run P w = .ok v' w' → (execOp a.eval o).run P w = .ok (.value v') w' := fun v' w' hrun => by
    unfold execOp; rw [hop]
    simp [resolve, invoke, builtin, e, hv, hrun]
  rcases Nat.eq_zero_or_pos m with rfl | hm0
  · obtain rfl : ws = [] := List.eq_nil_of_length_eq_zero (by simpa using hws)
    exact ⟨_, _, w, _, fin _ _ (run_append_zero t _ E i ht hi _ _ _ _ _ (Nat.le_refl _)), .inl rfl, Step.arr (l := .arr (.slice none 0 0)) none hfr rfl rfl rfl (Nat.le_refl _) (fun _ _ _ => rfl) (fun b e => by cases e) (by simp) fun ok' ρ' h1 h2 => .inl ⟨rfl, rfl, rfl⟩, .h (upd_self _ _ _)⟩
  · obtain ⟨b, o0, vs, rfl, hbw, hvs, hone, hcell⟩ := hxx.resolve_left (by omega)
    have hvl := hvs.length
    have hr0 := run_append_nil (P := P) w t o.type E i zv ht hi hz ⟨b, o0, none⟩ m cx vs (by omega) (fun j u hj => by rw [addr_add]; exact hcell j u hj) hm0 (by omega) (by omega)
    rw [ta] at hr0
    have hge := grownCap_ge w m 0 E
    have hle := grownCap_le_maxLen w m 0 E (by unfold maxLen; omega)
    refine ⟨_, _, _, _, fin _ _ hr0, .inl rfl, Step.arr (l := .arr (.slice (some ⟨w.heap.size, 0, none⟩) m (grownCap w m 0 E))) none hfr rfl rfl rfl (by simp) (fun b hb _ => Below.heap_alloc w.drew _ _ hb) (fun b e => by simp only [Loc.bl, Option.some.injEq] at e; subst e; exact .inl ⟨Nat.le_refl _, by simp⟩) (by simp) fun ok' ρ' h1 h2 => .inr ⟨w.heap.size, _, vs, _, rfl, by omega, hle, heap_alloc_new w.drew _, ?_, by omega, hone, hvs.mono h1 h2⟩, ?_⟩
    · simp only [List.length_append, List.size_toArray, Array.length_toList, size_zeroCells, hzs, hvl, hws, ← Nat.add_mul]
      congr 1; omega
    · exact .h (upd_self _ _ _)
end
end Go.Proofs.YtlbnhhfaedhgfaaGreatDoor
