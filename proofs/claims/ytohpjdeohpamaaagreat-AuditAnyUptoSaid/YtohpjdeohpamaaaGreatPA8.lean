/-
  Lemmas: What the program's structs hold, as deep values.
-/
import Derived.Test.YtohpjdeohpamaaaGreatPA7
import Derived.MapKept
import Derived.Test.YtohpjdeohpamaaaGreatChecked
import Derived.Test.YtohpjdeohpamaaaGreatPA1
import Derived.Deep.DeepCutAuto
import Derived.Test.YtohpjdeohpamaaaGreatPA2
import Derived.Test.YtohpjdeohpamaaaGreatPA4
set_option linter.unusedSimpArgs false
set_option linter.unusedVariables false
namespace Go.Proofs.YtohpjdeohpamaaaGreat
open Go.RowKit

def mget (z : Value) (i : Int) : List (Value × Value) → Value
  | [] => z
  | (.int .i64 a, v) :: r => if i = a then v else mget z i r
  | (_, _) :: r => mget z i r
def mkeys : List (Value × Value) → Bool
  | [] => true
  | (.int .i64 _, v) :: r => v.oneCell' && mkeys r
  | (_, _) :: _ => false
theorem findNow_m (z : Value) (i : Int) : ∀ (l : List MapEntry) (n : Nat), mkeys (l.map fun e => (e.key, e.val)) = true →
    ∃ r, Instr.findNow (.int .i64) (.int .i64 i) l n = some r ∧ (match r with | some (_, v) => v | none => z) = mget z i (l.map fun e => (e.key, e.val))
  | [], n, _ => ⟨none, rfl, rfl⟩
  | ⟨kk, v, bn⟩ :: r, n, h => by
    cases kk with
    | int k a =>
      cases k <;> first | (simp [mkeys] at h; done) | skip
      simp only [List.map_cons, mkeys, Bool.and_eq_true] at h
      obtain ⟨r', g1, g2⟩ := findNow_m z i r (n + 1) h.2
      simp only [Instr.findNow, Instr.sameNow, List.map_cons, mget, if_true]
      by_cases hi : i = a
      · subst hi
        simp
      · have : (i == a) = false := by simpa using hi
        rw [this, if_neg hi]
        exact ⟨r', g1, g2⟩
    | _ => simp [mkeys] at h
theorem mget_one {z : Value} {i : Int} (hz : z.oneCell' = true) : ∀ {es : List (Value × Value)}, mkeys es = true → (mget z i es).oneCell' = true
  | [], _ => hz
  | (kk, v) :: r, h => by
    cases kk with
    | int k a =>
      cases k <;> first | (simp [mkeys] at h; done) | skip
      simp only [mkeys, Bool.and_eq_true] at h
      simp only [mget]
      split
      · exact h.1
      · exact mget_one hz h.2
    | _ => simp [mkeys] at h
section
variable {P : Program} {o : Oper} {H : Hp} {sl : List (Nat × V)} {x y : Operand} {t K E T U : TypeId} {i : Int} {es : List (Value × Value)} {z v : Value}
class Mp (P : Program) (T : TypeId) (K E : outParam TypeId) : Prop where
  out : P.underlying T = some (.map K E)
theorem zeroE_run {w : World} (h : (P.info? E).bind (·.zero) = some z) : (zeroValue E).run P w = .ok z w := by
  cases hi : P.info? E with
  | none => simp [hi] at h
  | some i => simp [hi] at h; simp [zeroValue, typeInfo, program, Sem.run, hi, h]
def isFuncT : Option TypeDesc → Bool
  | some (.func _ _ _) => true
  | _ => false
theorem isFuncT_ex {t : Option TypeDesc} (h : isFuncT t = true) : ∃ a b c, t = some (.func a b c) := by
  cases t with
  | none => cases h
  | some d => cases d <;> first | exact ⟨_, _, _, rfl⟩ | cases h
theorem o_lookup (hop : o.op = .lookup t x y false) (hx : ev sl x = some (.d (.m es))) (hy : ev sl y = some (vI i)) (hM : Mp P t K E) (hK : P.underlying K = some (.int .i64)) (hz0 : (P.info? E).bind (·.zero) = some z) (h1 : z.oneCell' = true) (hk : mkeys es = true) :
    OpD P o H sl 0 0 (.d (.c (mget z i es))) [] := .read fun B a w ρ hs _ => by
  have ht := hM.out
  have hz := fun w => zeroE_run (w := w) hz0
  refine ⟨mget z i es, ?_, .d (.c (mget_one h1 hk))⟩
  have hx' := ev_spec hs hx
  have hy' := rv_c (ev_spec hs hy)
  unfold execOp; rw [hop]
  simp only [hy']
  revert hx'
  generalize a.eval x = vx
  intro hx'
  cases hx' with
  | d hd =>
    cases hd with
    | @m b clock _ em g1 g2 g3 =>
      subst g3
      obtain ⟨r, e1, e2⟩ := findNow_m z i em.toList 0 hk
      have f1 := MapKept.run_findKey (P := P) (w := w) hK e1
      have f2 := MapKept.run_checkKey (P := P) (w := w) (k := .int .i64 i) hK rfl em.isEmpty 9999
      simp only [Nat.reduceAdd] at f2
      have f3 : (Instr.lookup t (.map (some b)) (.int .i64 i) false).run P w = .ok (mget z i (em.toList.map fun e => (e.key, e.val))) w := by
        unfold Instr.lookup
        simp only [Sem.run_bind, run_underlying ht, Result.andThen, MapKept.run_getObj_map g2, Sem.run_pure, f2, f1]
        rw [← e2]
        cases r with
        | none => simp [hz, Result.andThen]
        | some q => obtain ⟨j, v⟩ := q; simp [Result.andThen]
      simp [Result.andThen, f3]
def isNilF : Value → Bool
  | .nilFunc => true
  | _ => false
def isFn : Value → Bool
  | .nilFunc => true
  | .func _ _ _ => true
  | _ => false
theorem run_feq {w : World} {a b : Array TypeId} {c : Bool} (hT : P.underlying T = some (.func a b c)) {v : Value} (hv : isFn v = true) (d : Nat) : (Op.equalIn (d + 1) T v .nilFunc).run P w = .ok (isNilF v) w := by
  cases v <;> first | (simp [isFn] at hv; done) | simp [isNilF, Op.equalIn, run_underlying hT, Result.andThen]
theorem o_feq (hop : o.op = .binOp .eql T x y U) (hx : ev sl x = some (.d (.c v))) (hy : ev sl y = some (.d (.c .nilFunc))) (hT0 : isFuncT (P.underlying T) = true) (hv : isFn v = true) :
    OpD P o H sl 0 0 (vB (isNilF v)) [] := by
  obtain ⟨a, b, c, hT⟩ := isFuncT_ex hT0
  exact o_bin hop hx hy (fun w => by
    have := run_feq (P := P) (w := w) hT hv 9999
    simp only [Nat.reduceAdd] at this
    simp only [binOp, Op.equal, Op.maxDepth, Sem.run_bind, this, Result.andThen_ok, Sem.run_pure]) (by cases v <;> first | (simp [isFn] at hv; done) | rfl) rfl
end
end Go.Proofs.YtohpjdeohpamaaaGreat
namespace Go.Proofs.YtohpjdeohpamaaaGreat
open Go.RowKit
attribute [local simp] Sem.run_bind Sem.run_pure Result.andThen_ok
section
variable {P : Program} {o : Oper} {H : Hp} {sl : List (Nat × V)} {x y z : Operand} {T K E : TypeId} {k d : Nat} {s : ByteArray}
theorem run_newObj {w : World} (ob : Obj) : (newObj ob).run P w = .ok w.heap.size (w.alloc ob) := rfl
def noCells : Obj → Bool
  | .cells _ _ _ => false
  | _ => true
theorem getObj_run {w : World} {r : Nat} {ob : Obj} (h : w.heap[r]? = some ob) (hn : noCells ob = true) : (getObj r).run P w = .ok ob w := by
  cases ob <;> first | (simp [noCells] at hn; done) | simp [getObj, Sem.run, h]
theorem setObj_run {w : World} {r : Nat} {ob : Obj} (o' : Obj) (h : w.heap[r]? = some ob) (hn : noCells ob = true) : (setObj r o').run P w = .ok () { w with heap := w.heap.setIfInBounds r o' } := by
  cases ob <;> first | (simp [noCells] at hn; done) | simp [setObj, Sem.run, h]
theorem o_range (hop : o.op = .range T x) (hd : o.dst = some d) (hk : d + 100 = k) (hx : ev sl x = some (vS s)) (ht : P.underlying T = some .string) : OpD P o H sl k 1 (.p k 0) [(k, some (.ob (.stringIter s 0)))] := fun B a w ρ hs hr hfr => by
  have hx' := rv_c (ev_spec hs hx)
  have hkk := hfr k (Nat.le_refl _) (by omega)
  refine ⟨_, .pointer (some ⟨w.heap.size, 0, none⟩), w.alloc (.stringIter s 0), upd ρ k (.box w.heap.size), ?_, .inl rfl, Step.new1 hkk (fun _ h => h) (.inl rfl) fun ok' ρ' _ _ h => h, .p (upd_self _ _ _)⟩
  unfold execOp; rw [hop]
  simp [Instr.range, hx', run_underlying ht, run_newObj]
theorem set_other (w : World) (b j : Nat) (o' : Obj) (h : j ≠ b) : ({ w with heap := w.heap.setIfInBounds b o' } : World).heap[j]? = w.heap[j]? := by
  simp only; rw [Array.getElem?_setIfInBounds_ne (Ne.symm h)]
theorem set_self (w : World) (b : Nat) (o' ob : Obj) (h : w.heap[b]? = some ob) : ({ w with heap := w.heap.setIfInBounds b o' } : World).heap[b]? = some o' := by
  have hlt := (Array.getElem?_eq_some_iff.1 h).1
  simp [hlt]
theorem o_next_t {pos c wd : Nat} (hop : o.op = .next x true) (hx : ev sl x = some (.p k 0)) (hH : look H k = some (some (.ob (.stringIter s pos)))) (h : pos < s.size) (hc : Utf8.decode s pos = (c, wd)) : OpD P o H sl 0 0 (.t [vB true, vI pos, .d (.c (.int .i32 c))]) [(k, some (.ob (.stringIter s (pos + wd))))] := fun B a w ρ hs hr _ => by
  obtain ⟨l, g1, g2⟩ := hr.rel _ _ hH
  have hx' := ev_spec hs hx
  cases l with
  | tr _ _ => exact g2.elim
  | arr v => exact g2.elim
  | box b =>
    have g2 : w.heap[b]? = some (.stringIter s pos) := g2
    have e : a.eval x = .pointer (some ⟨b, 0, none⟩) := by
      generalize a.eval x = vx at hx'
      cases hx' with
      | p hp => rw [g1] at hp; simp only [Option.some.injEq, Loc.box.injEq] at hp; rw [hp]
    refine ⟨_, .tuple #[.bool true, .int .i64 pos, .int .i32 c], { w with heap := w.heap.setIfInBounds b (.stringIter s (pos + wd)) }, ρ, ?_, .inl rfl, Step.set1 g1 hH rfl (by simp) rfl rfl rfl (fun j hj => set_other w b j _ hj) fun ok' _ => set_self w b _ _ g2, .t (.cons (.d (.c rfl)) (.cons (.d (.c rfl)) (.cons (.d (.c rfl)) .nil)))⟩
    unfold execOp; rw [hop]
    simp [Instr.next, e, getObj_run g2 rfl, h, hc, setObj_run _ g2 rfl, goInt]
theorem o_next_f {pos : Nat} (hop : o.op = .next x true) (hx : ev sl x = some (.p k 0)) (hH : look H k = some (some (.ob (.stringIter s pos)))) (h : ¬ pos < s.size) : OpD P o H sl 0 0 (.t [vB false]) [] := .read fun B a w ρ hs hr => by
  obtain ⟨l, g1, g2⟩ := hr.rel _ _ hH
  have hx' := ev_spec hs hx
  cases l with
  | tr _ _ => exact g2.elim
  | arr v => exact g2.elim
  | box b =>
    have g2 : w.heap[b]? = some (.stringIter s pos) := g2
    have e : a.eval x = .pointer (some ⟨b, 0, none⟩) := by
      generalize a.eval x = vx at hx'
      cases hx' with
      | p hp => rw [g1] at hp; simp only [Option.some.injEq, Loc.box.injEq] at hp; rw [hp]
    refine ⟨.tuple #[.bool false], ?_, .t (.cons (.d (.c rfl)) .nil)⟩
    unfold execOp; rw [hop]
    simp [Instr.next, e, getObj_run g2 rfl, h]
theorem o_mkmap (hop : o.op = .makeMap T none) (hd : o.dst = some d) (hk : d + 100 = k) : OpD P o H sl k 1 (.mp k) [(k, some (.ob (.map #[] 0)))] := fun B a w ρ hs hr hfr => by
  have hkk := hfr k (Nat.le_refl _) (by omega)
  refine ⟨_, .map (some w.heap.size), w.alloc (.map #[] 0), upd ρ k (.box w.heap.size), ?_, .inl rfl, Step.new1 hkk (fun _ h => h) (.inl rfl) fun ok' ρ' _ _ h => h, .mp (upd_self _ _ _)⟩
  unfold execOp; rw [hop]
  simp [Instr.makeMap, run_newObj]
theorem o_insert {em : Array MapEntry} {clock : Nat} {i : Int} {v : Value} (hop : o.op = .insert T x y z) (hx : ev sl x = some (.mp k)) (hy : ev sl y = some (vI i)) (hz : ev sl z = some (.d (.c v))) (hH : look H k = some (some (.ob (.map em clock)))) (hM : Mp P T K E) (hK : P.underlying K = some (.int .i64))
    (hf : Instr.findNow (.int .i64) (.int .i64 i) em.toList 0 = some none) : OpD P o H sl 0 0 .un [(k, some (.ob (.map (em.push ⟨.int .i64 i, v, clock⟩) (clock + 1))))] := fun B a w ρ hs hr _ => by
  obtain ⟨l, g1, g2⟩ := hr.rel _ _ hH
  have hx' := ev_spec hs hx
  have hy' := rv_c (ev_spec hs hy)
  have hz' := rv_c (ev_spec hs hz)
  cases l with
  | tr _ _ => exact g2.elim
  | arr v => exact g2.elim
  | box b =>
    have g2 : w.heap[b]? = some (.map em clock) := g2
    have e : a.eval x = .map (some b) := by
      generalize a.eval x = vx at hx'
      cases hx' with
      | mp hp => rw [g1] at hp; simp only [Option.some.injEq, Loc.box.injEq] at hp; rw [hp]
    have ht := hM.out
    have f1 := MapKept.run_findKey (P := P) (w := w) hK hf
    have f2 := MapKept.run_checkKey (P := P) (w := w) (k := .int .i64 i) hK rfl false 9999
    simp only [Nat.reduceAdd] at f2
    refine ⟨.skip, undef, { w with heap := w.heap.setIfInBounds b (.map (em.push ⟨.int .i64 i, v, clock⟩) (clock + 1)) }, ρ, ?_, .inr ⟨rfl, rfl⟩, Step.set1 g1 hH rfl (by simp) rfl rfl rfl (fun j hj => set_other w b j _ hj) fun ok' _ => set_self w b _ _ g2, .un⟩
    unfold execOp; rw [hop]
    simp [Instr.mapUpdate, e, hy', hz', run_underlying ht, getObj_run g2 rfl, setObj_run _ g2 rfl, f1, f2]
end
theorem dec_lt {s : ByteArray} {i c wd : Nat} (h : Utf8.decode s i = (c, wd)) (hc : c < 128) : c = (s.get! i).toNat ∧ wd = 1 := by
  unfold Utf8.decode at h
  simp only [Nat.add_zero, Utf8.runeError] at h
  repeat' split at h
  all_goals (simp only [Prod.mk.injEq] at h; obtain ⟨rfl, rfl⟩ := h; first | exact ⟨rfl, rfl⟩ | omega | (simp_all; omega))
end Go.Proofs.YtohpjdeohpamaaaGreat
namespace Go.Proofs.YtohpjdeohpamaaaGreat
open Go.RowKit

theorem mixed : Tryz.prog.follows .mixedOrders = true := by kernel_rfl
end Go.Proofs.YtohpjdeohpamaaaGreat
namespace Go.Proofs.YtohpjdeohpamaaaGreat
open Go.RowKit
instance ty2 : Ty Tryz.prog 2 1 false := ⟨by kernel_rfl, by kernel_rfl⟩
instance zo2 : ZeroI Tryz.prog 2 [.int .i64 0] := ⟨by unfold ZeroIs; kernel_rfl⟩
instance ty3 : Ty Tryz.prog 3 1 false := ⟨by kernel_rfl, by kernel_rfl⟩
instance zo3 : ZeroI Tryz.prog 3 [.int .i64 0] := ⟨by unfold ZeroIs; kernel_rfl⟩
instance ty4 : Ty Tryz.prog 4 1 false := ⟨by kernel_rfl, by kernel_rfl⟩
instance zo4 : ZeroI Tryz.prog 4 [.bool false] := ⟨by unfold ZeroIs; kernel_rfl⟩
instance ty5 : Ty Tryz.prog 5 1 false := ⟨by kernel_rfl, by kernel_rfl⟩
instance zo5 : ZeroI Tryz.prog 5 [.int .u8 0] := ⟨by unfold ZeroIs; kernel_rfl⟩
instance ty9 : Ty Tryz.prog 9 1 false := ⟨by kernel_rfl, by kernel_rfl⟩
instance zo9 : ZeroI Tryz.prog 9 [.string ⟨#[]⟩] := ⟨by unfold ZeroIs; kernel_rfl⟩
instance ty12 : Ty Tryz.prog 12 1 false := ⟨by kernel_rfl, by kernel_rfl⟩
instance zo12 : ZeroI Tryz.prog 12 [.int .u64 0] := ⟨by unfold ZeroIs; kernel_rfl⟩
instance ty20 : Ty Tryz.prog 20 1 false := ⟨by kernel_rfl, by kernel_rfl⟩
instance zo20 : ZeroI Tryz.prog 20 [.nilIface] := ⟨by unfold ZeroIs; kernel_rfl⟩
instance ty21 : Ty Tryz.prog 21 1 false := ⟨by kernel_rfl, by kernel_rfl⟩
instance zo21 : ZeroI Tryz.prog 21 [.int .i32 0] := ⟨by unfold ZeroIs; kernel_rfl⟩
instance ty22 : Ty Tryz.prog 22 1 false := ⟨by kernel_rfl, by kernel_rfl⟩
instance zo22 : ZeroI Tryz.prog 22 [.slice none 0 0] := ⟨by unfold ZeroIs; kernel_rfl⟩
instance ty23 : Ty Tryz.prog 23 1 false := ⟨by kernel_rfl, by kernel_rfl⟩
instance zo23 : ZeroI Tryz.prog 23 [.slice none 0 0] := ⟨by unfold ZeroIs; kernel_rfl⟩
instance ty26 : Ty Tryz.prog 26 1 false := ⟨by kernel_rfl, by kernel_rfl⟩
instance zo26 : ZeroI Tryz.prog 26 [.slice none 0 0] := ⟨by unfold ZeroIs; kernel_rfl⟩
instance ty27 : Ty Tryz.prog 27 1 false := ⟨by kernel_rfl, by kernel_rfl⟩
instance zo27 : ZeroI Tryz.prog 27 [.slice none 0 0] := ⟨by unfold ZeroIs; kernel_rfl⟩
instance ty29 : Ty Tryz.prog 29 4 true := ⟨by kernel_rfl, by kernel_rfl⟩
instance zo29 : ZeroI Tryz.prog 29 [.int .i64 0, .slice none 0 0, .string ⟨#[]⟩, .int .i64 0] := ⟨by unfold ZeroIs; kernel_rfl⟩
instance ty30 : Ty Tryz.prog 30 1 false := ⟨by kernel_rfl, by kernel_rfl⟩
instance zo30 : ZeroI Tryz.prog 30 [.slice none 0 0] := ⟨by unfold ZeroIs; kernel_rfl⟩
instance ty32 : Ty Tryz.prog 32 6 true := ⟨by kernel_rfl, by kernel_rfl⟩
instance zo32 : ZeroI Tryz.prog 32 [.int .i64 0, .slice none 0 0, .string ⟨#[]⟩, .int .i64 0, .slice none 0 0, .slice none 0 0] := ⟨by unfold ZeroIs; kernel_rfl⟩
instance ty34 : Ty Tryz.prog 34 12 true := ⟨by kernel_rfl, by kernel_rfl⟩
instance zo34 : ZeroI Tryz.prog 34 [.int .i64 0, .slice none 0 0, .string ⟨#[]⟩, .string ⟨#[]⟩, .bool false, .int .i64 0, .int .i64 0, .slice none 0 0, .string ⟨#[]⟩, .int .i64 0, .slice none 0 0, .slice none 0 0] := ⟨by unfold ZeroIs; kernel_rfl⟩
instance ty35 : Ty Tryz.prog 35 1 false := ⟨by kernel_rfl, by kernel_rfl⟩
instance zo35 : ZeroI Tryz.prog 35 [.int .i64 0] := ⟨by unfold ZeroIs; kernel_rfl⟩
instance ty40 : Ty Tryz.prog 40 2 true := ⟨by kernel_rfl, by kernel_rfl⟩
instance zo40 : ZeroI Tryz.prog 40 [.string ⟨#[]⟩, .bool false] := ⟨by unfold ZeroIs; kernel_rfl⟩
instance ty42 : Ty Tryz.prog 42 4 true := ⟨by kernel_rfl, by kernel_rfl⟩
instance zo42 : ZeroI Tryz.prog 42 [.string ⟨#[]⟩, .bool false, .string ⟨#[]⟩, .bool false] := ⟨by unfold ZeroIs; kernel_rfl⟩
instance ty44 : Ty Tryz.prog 44 2 true := ⟨by kernel_rfl, by kernel_rfl⟩
instance zo44 : ZeroI Tryz.prog 44 [.int .i64 0, .int .i64 0] := ⟨by unfold ZeroIs; kernel_rfl⟩
instance ty46 : Ty Tryz.prog 46 8 true := ⟨by kernel_rfl, by kernel_rfl⟩
instance zo46 : ZeroI Tryz.prog 46 [.int .i64 0, .string ⟨#[]⟩, .bool false, .string ⟨#[]⟩, .bool false, .int .i64 0, .int .i64 0, .slice none 0 0] := ⟨by unfold ZeroIs; kernel_rfl⟩
instance ty48 : Ty Tryz.prog 48 12 true := ⟨by kernel_rfl, by kernel_rfl⟩
instance zo48 : ZeroI Tryz.prog 48 [.int .i64 0, .string ⟨#[]⟩, .bool false, .string ⟨#[]⟩, .bool false, .int .i64 0, .int .i64 0, .slice none 0 0, .string ⟨#[]⟩, .bool false, .string ⟨#[]⟩, .bool false] := ⟨by unfold ZeroIs; kernel_rfl⟩
instance ty51 : Ty Tryz.prog 51 3 true := ⟨by kernel_rfl, by kernel_rfl⟩
instance zo51 : ZeroI Tryz.prog 51 [.string ⟨#[]⟩, .string ⟨#[]⟩, .bool false] := ⟨by unfold ZeroIs; kernel_rfl⟩
instance ty54 : Ty Tryz.prog 54 2 true := ⟨by kernel_rfl, by kernel_rfl⟩
instance zo54 : ZeroI Tryz.prog 54 [.string ⟨#[]⟩, .string ⟨#[]⟩] := ⟨by unfold ZeroIs; kernel_rfl⟩
instance ty56 : Ty Tryz.prog 56 1 false := ⟨by kernel_rfl, by kernel_rfl⟩
instance zo56 : ZeroI Tryz.prog 56 [.pointer none] := ⟨by unfold ZeroIs; kernel_rfl⟩
instance ty57 : Ty Tryz.prog 57 1 false := ⟨by kernel_rfl, by kernel_rfl⟩
instance zo57 : ZeroI Tryz.prog 57 [.map none] := ⟨by unfold ZeroIs; kernel_rfl⟩
instance ty58 : Ty Tryz.prog 58 1 false := ⟨by kernel_rfl, by kernel_rfl⟩
instance zo58 : ZeroI Tryz.prog 58 [.map none] := ⟨by unfold ZeroIs; kernel_rfl⟩
instance ty59 : Ty Tryz.prog 59 1 false := ⟨by kernel_rfl, by kernel_rfl⟩
instance zo59 : ZeroI Tryz.prog 59 [.map none] := ⟨by unfold ZeroIs; kernel_rfl⟩
instance ty60 : Ty Tryz.prog 60 1 false := ⟨by kernel_rfl, by kernel_rfl⟩
instance zo60 : ZeroI Tryz.prog 60 [.slice none 0 0] := ⟨by unfold ZeroIs; kernel_rfl⟩
instance ty62 : Ty Tryz.prog 62 5 true := ⟨by kernel_rfl, by kernel_rfl⟩
instance zo62 : ZeroI Tryz.prog 62 [.slice none 0 0, .slice none 0 0, .map none, .map none, .map none] := ⟨by unfold ZeroIs; kernel_rfl⟩
instance ty75 : Ty Tryz.prog 75 7 true := ⟨by kernel_rfl, by kernel_rfl⟩
instance zo75 : ZeroI Tryz.prog 75 [.int .i64 0, .int .i64 0, .int .i64 0, .int .i64 0, .int .i64 0, .string ⟨#[]⟩, .string ⟨#[]⟩] := ⟨by unfold ZeroIs; kernel_rfl⟩
instance ty77 : Ty Tryz.prog 77 8 true := ⟨by kernel_rfl, by kernel_rfl⟩
instance zo77 : ZeroI Tryz.prog 77 [.slice none 0 0, .int .i64 0, .int .i64 0, .int .i64 0, .int .i64 0, .int .i64 0, .string ⟨#[]⟩, .string ⟨#[]⟩] := ⟨by unfold ZeroIs; kernel_rfl⟩
instance ty86 : Ty Tryz.prog 86 1 false := ⟨by kernel_rfl, by kernel_rfl⟩
instance zo86 : ZeroI Tryz.prog 86 [.slice none 0 0] := ⟨by unfold ZeroIs; kernel_rfl⟩
instance ty112 : Ty Tryz.prog 112 6 true := ⟨by kernel_rfl, by kernel_rfl⟩
instance zo112 : ZeroI Tryz.prog 112 [.int .i64 0, .slice none 0 0, .string ⟨#[]⟩, .int .i64 0, .slice none 0 0, .slice none 0 0] := ⟨by unfold ZeroIs; kernel_rfl⟩
instance ty113 : Ty Tryz.prog 113 7 true := ⟨by kernel_rfl, by kernel_rfl⟩
instance zo113 : ZeroI Tryz.prog 113 [.int .i64 0, .int .i64 0, .int .i64 0, .int .i64 0, .int .i64 0, .string ⟨#[]⟩, .string ⟨#[]⟩] := ⟨by unfold ZeroIs; kernel_rfl⟩
instance ty119 : Ty Tryz.prog 119 1 false := ⟨by kernel_rfl, by kernel_rfl⟩
instance zo119 : ZeroI Tryz.prog 119 [.int .u64 0] := ⟨by unfold ZeroIs; kernel_rfl⟩
instance ty120 : Ty Tryz.prog 120 1 false := ⟨by kernel_rfl, by kernel_rfl⟩
instance zo120 : ZeroI Tryz.prog 120 [.map none] := ⟨by unfold ZeroIs; kernel_rfl⟩
instance ty125 : Ty Tryz.prog 125 1 false := ⟨by kernel_rfl, by kernel_rfl⟩
instance zo125 : ZeroI Tryz.prog 125 [.pointer none] := ⟨by unfold ZeroIs; kernel_rfl⟩
instance ty134 : Ty Tryz.prog 134 1 false := ⟨by kernel_rfl, by kernel_rfl⟩
instance zo134 : ZeroI Tryz.prog 134 [.slice none 0 0] := ⟨by unfold ZeroIs; kernel_rfl⟩
instance ty146 : Ty Tryz.prog 146 1 false := ⟨by kernel_rfl, by kernel_rfl⟩
instance zo146 : ZeroI Tryz.prog 146 [.int .u32 0] := ⟨by unfold ZeroIs; kernel_rfl⟩
instance ty148 : Ty Tryz.prog 148 1 false := ⟨by kernel_rfl, by kernel_rfl⟩
instance zo148 : ZeroI Tryz.prog 148 [.int .u64 0] := ⟨by unfold ZeroIs; kernel_rfl⟩
instance ty153 : Ty Tryz.prog 153 1 false := ⟨by kernel_rfl, by kernel_rfl⟩
instance zo153 : ZeroI Tryz.prog 153 [.pointer none] := ⟨by unfold ZeroIs; kernel_rfl⟩
instance ty168 : Ty Tryz.prog 168 1 false := ⟨by kernel_rfl, by kernel_rfl⟩
instance zo168 : ZeroI Tryz.prog 168 [.pointer none] := ⟨by unfold ZeroIs; kernel_rfl⟩
instance ty173 : Ty Tryz.prog 173 1 false := ⟨by kernel_rfl, by kernel_rfl⟩
instance zo173 : ZeroI Tryz.prog 173 [.pointer none] := ⟨by unfold ZeroIs; kernel_rfl⟩
instance sl22 : Sl Tryz.prog 22 54 2 32 := Sl.mk' (by kernel_rfl) (by kernel_rfl)
instance sl23 : Sl Tryz.prog 23 34 12 184 := Sl.mk' (by kernel_rfl) (by kernel_rfl)
instance sl26 : Sl Tryz.prog 26 51 3 40 := Sl.mk' (by kernel_rfl) (by kernel_rfl)
instance sl27 : Sl Tryz.prog 27 42 4 48 := Sl.mk' (by kernel_rfl) (by kernel_rfl)
instance sl30 : Sl Tryz.prog 30 48 12 144 := Sl.mk' (by kernel_rfl) (by kernel_rfl)
instance sl60 : Sl Tryz.prog 60 22 1 24 := Sl.mk' (by kernel_rfl) (by kernel_rfl)
instance sl86 : Sl Tryz.prog 86 30 1 24 := Sl.mk' (by kernel_rfl) (by kernel_rfl)
instance sl134 : Sl Tryz.prog 134 5 1 1 := Sl.mk' (by kernel_rfl) (by kernel_rfl)
end Go.Proofs.YtohpjdeohpamaaaGreat
namespace Go.Proofs.YtohpjdeohpamaaaGreat
open Go.RowKit
instance mp57 : Mp Tryz.prog 57 3 3 := ⟨by kernel_rfl⟩
instance mp58 : Mp Tryz.prog 58 3 29 := ⟨by kernel_rfl⟩
instance mp59 : Mp Tryz.prog 59 3 4 := ⟨by kernel_rfl⟩
instance mp120 : Mp Tryz.prog 120 3 105 := ⟨by kernel_rfl⟩
instance fo29_0 : Fo Tryz.prog 29 0 0 := ⟨by kernel_rfl⟩
instance fo29_1 : Fo Tryz.prog 29 1 1 := ⟨by kernel_rfl⟩
instance fo29_2 : Fo Tryz.prog 29 2 2 := ⟨by kernel_rfl⟩
instance fo29_3 : Fo Tryz.prog 29 3 3 := ⟨by kernel_rfl⟩
instance bd29 : Bd Tryz.prog 29 [(0, 1), (1, 1), (2, 1), (3, 1)] [.int .i64 0, .slice none 0 0, .string ⟨#[]⟩, .int .i64 0] := ⟨by kernel_rfl, by unfold ZeroIs; kernel_rfl⟩
instance fo32_0 : Fo Tryz.prog 32 0 0 := ⟨by kernel_rfl⟩
instance fo32_1 : Fo Tryz.prog 32 1 4 := ⟨by kernel_rfl⟩
instance fo32_2 : Fo Tryz.prog 32 2 5 := ⟨by kernel_rfl⟩
instance bd32 : Bd Tryz.prog 32 [(0, 4), (4, 1), (5, 1)] [.int .i64 0, .slice none 0 0, .string ⟨#[]⟩, .int .i64 0, .slice none 0 0, .slice none 0 0] := ⟨by kernel_rfl, by unfold ZeroIs; kernel_rfl⟩
instance fo34_0 : Fo Tryz.prog 34 0 0 := ⟨by kernel_rfl⟩
instance fo34_1 : Fo Tryz.prog 34 1 1 := ⟨by kernel_rfl⟩
instance fo34_2 : Fo Tryz.prog 34 2 2 := ⟨by kernel_rfl⟩
instance fo34_3 : Fo Tryz.prog 34 3 3 := ⟨by kernel_rfl⟩
instance fo34_4 : Fo Tryz.prog 34 4 4 := ⟨by kernel_rfl⟩
instance fo34_5 : Fo Tryz.prog 34 5 5 := ⟨by kernel_rfl⟩
instance fo34_6 : Fo Tryz.prog 34 6 6 := ⟨by kernel_rfl⟩
instance bd34 : Bd Tryz.prog 34 [(0, 1), (1, 1), (2, 1), (3, 1), (4, 1), (5, 1), (6, 6)] [.int .i64 0, .slice none 0 0, .string ⟨#[]⟩, .string ⟨#[]⟩, .bool false, .int .i64 0, .int .i64 0, .slice none 0 0, .string ⟨#[]⟩, .int .i64 0, .slice none 0 0, .slice none 0 0] := ⟨by kernel_rfl, by unfold ZeroIs; kernel_rfl⟩
instance fo40_0 : Fo Tryz.prog 40 0 0 := ⟨by kernel_rfl⟩
instance fo40_1 : Fo Tryz.prog 40 1 1 := ⟨by kernel_rfl⟩
instance bd40 : Bd Tryz.prog 40 [(0, 1), (1, 1)] [.string ⟨#[]⟩, .bool false] := ⟨by kernel_rfl, by unfold ZeroIs; kernel_rfl⟩
instance fo42_0 : Fo Tryz.prog 42 0 0 := ⟨by kernel_rfl⟩
instance fo42_1 : Fo Tryz.prog 42 1 2 := ⟨by kernel_rfl⟩
instance bd42 : Bd Tryz.prog 42 [(0, 2), (2, 2)] [.string ⟨#[]⟩, .bool false, .string ⟨#[]⟩, .bool false] := ⟨by kernel_rfl, by unfold ZeroIs; kernel_rfl⟩
instance fo44_0 : Fo Tryz.prog 44 0 0 := ⟨by kernel_rfl⟩
instance fo44_1 : Fo Tryz.prog 44 1 1 := ⟨by kernel_rfl⟩
instance bd44 : Bd Tryz.prog 44 [(0, 1), (1, 1)] [.int .i64 0, .int .i64 0] := ⟨by kernel_rfl, by unfold ZeroIs; kernel_rfl⟩
instance fo46_0 : Fo Tryz.prog 46 0 0 := ⟨by kernel_rfl⟩
instance fo46_1 : Fo Tryz.prog 46 1 1 := ⟨by kernel_rfl⟩
instance fo46_2 : Fo Tryz.prog 46 2 5 := ⟨by kernel_rfl⟩
instance fo46_3 : Fo Tryz.prog 46 3 7 := ⟨by kernel_rfl⟩
instance bd46 : Bd Tryz.prog 46 [(0, 1), (1, 4), (5, 2), (7, 1)] [.int .i64 0, .string ⟨#[]⟩, .bool false, .string ⟨#[]⟩, .bool false, .int .i64 0, .int .i64 0, .slice none 0 0] := ⟨by kernel_rfl, by unfold ZeroIs; kernel_rfl⟩
instance fo48_0 : Fo Tryz.prog 48 0 0 := ⟨by kernel_rfl⟩
instance fo48_1 : Fo Tryz.prog 48 1 8 := ⟨by kernel_rfl⟩
instance bd48 : Bd Tryz.prog 48 [(0, 8), (8, 4)] [.int .i64 0, .string ⟨#[]⟩, .bool false, .string ⟨#[]⟩, .bool false, .int .i64 0, .int .i64 0, .slice none 0 0, .string ⟨#[]⟩, .bool false, .string ⟨#[]⟩, .bool false] := ⟨by kernel_rfl, by unfold ZeroIs; kernel_rfl⟩
instance fo51_0 : Fo Tryz.prog 51 0 0 := ⟨by kernel_rfl⟩
instance fo51_1 : Fo Tryz.prog 51 1 1 := ⟨by kernel_rfl⟩
instance fo51_2 : Fo Tryz.prog 51 2 2 := ⟨by kernel_rfl⟩
instance bd51 : Bd Tryz.prog 51 [(0, 1), (1, 1), (2, 1)] [.string ⟨#[]⟩, .string ⟨#[]⟩, .bool false] := ⟨by kernel_rfl, by unfold ZeroIs; kernel_rfl⟩
instance fo54_0 : Fo Tryz.prog 54 0 0 := ⟨by kernel_rfl⟩
instance fo54_1 : Fo Tryz.prog 54 1 1 := ⟨by kernel_rfl⟩
instance bd54 : Bd Tryz.prog 54 [(0, 1), (1, 1)] [.string ⟨#[]⟩, .string ⟨#[]⟩] := ⟨by kernel_rfl, by unfold ZeroIs; kernel_rfl⟩
instance fo62_0 : Fo Tryz.prog 62 0 0 := ⟨by kernel_rfl⟩
instance fo62_1 : Fo Tryz.prog 62 1 1 := ⟨by kernel_rfl⟩
instance fo62_2 : Fo Tryz.prog 62 2 2 := ⟨by kernel_rfl⟩
instance fo62_3 : Fo Tryz.prog 62 3 3 := ⟨by kernel_rfl⟩
instance fo62_4 : Fo Tryz.prog 62 4 4 := ⟨by kernel_rfl⟩
instance bd62 : Bd Tryz.prog 62 [(0, 1), (1, 1), (2, 1), (3, 1), (4, 1)] [.slice none 0 0, .slice none 0 0, .map none, .map none, .map none] := ⟨by kernel_rfl, by unfold ZeroIs; kernel_rfl⟩
instance fo75_0 : Fo Tryz.prog 75 0 0 := ⟨by kernel_rfl⟩
instance fo75_1 : Fo Tryz.prog 75 1 1 := ⟨by kernel_rfl⟩
instance fo75_2 : Fo Tryz.prog 75 2 2 := ⟨by kernel_rfl⟩
instance fo75_3 : Fo Tryz.prog 75 3 3 := ⟨by kernel_rfl⟩
instance fo75_4 : Fo Tryz.prog 75 4 4 := ⟨by kernel_rfl⟩
instance fo75_5 : Fo Tryz.prog 75 5 5 := ⟨by kernel_rfl⟩
instance fo75_6 : Fo Tryz.prog 75 6 6 := ⟨by kernel_rfl⟩
instance bd75 : Bd Tryz.prog 75 [(0, 1), (1, 1), (2, 1), (3, 1), (4, 1), (5, 1), (6, 1)] [.int .i64 0, .int .i64 0, .int .i64 0, .int .i64 0, .int .i64 0, .string ⟨#[]⟩, .string ⟨#[]⟩] := ⟨by kernel_rfl, by unfold ZeroIs; kernel_rfl⟩
instance fo77_0 : Fo Tryz.prog 77 0 0 := ⟨by kernel_rfl⟩
instance fo77_1 : Fo Tryz.prog 77 1 1 := ⟨by kernel_rfl⟩
instance bd77 : Bd Tryz.prog 77 [(0, 1), (1, 7)] [.slice none 0 0, .int .i64 0, .int .i64 0, .int .i64 0, .int .i64 0, .int .i64 0, .string ⟨#[]⟩, .string ⟨#[]⟩] := ⟨by kernel_rfl, by unfold ZeroIs; kernel_rfl⟩
instance fo112_2 : Fo Tryz.prog 112 2 5 := ⟨by kernel_rfl⟩
instance bd112 : Bd Tryz.prog 112 [(0, 4), (4, 1), (5, 1)] [.int .i64 0, .slice none 0 0, .string ⟨#[]⟩, .int .i64 0, .slice none 0 0, .slice none 0 0] := ⟨by kernel_rfl, by unfold ZeroIs; kernel_rfl⟩
instance fo113_0 : Fo Tryz.prog 113 0 0 := ⟨by kernel_rfl⟩
instance fo113_1 : Fo Tryz.prog 113 1 1 := ⟨by kernel_rfl⟩
instance fo113_2 : Fo Tryz.prog 113 2 2 := ⟨by kernel_rfl⟩
instance fo113_3 : Fo Tryz.prog 113 3 3 := ⟨by kernel_rfl⟩
instance fo113_4 : Fo Tryz.prog 113 4 4 := ⟨by kernel_rfl⟩
instance fo113_5 : Fo Tryz.prog 113 5 5 := ⟨by kernel_rfl⟩
instance fo113_6 : Fo Tryz.prog 113 6 6 := ⟨by kernel_rfl⟩
instance bd113 : Bd Tryz.prog 113 [(0, 1), (1, 1), (2, 1), (3, 1), (4, 1), (5, 1), (6, 1)] [.int .i64 0, .int .i64 0, .int .i64 0, .int .i64 0, .int .i64 0, .string ⟨#[]⟩, .string ⟨#[]⟩] := ⟨by kernel_rfl, by unfold ZeroIs; kernel_rfl⟩
end Go.Proofs.YtohpjdeohpamaaaGreat
namespace Go.Proofs.YtohpjdeohpamaaaGreat
open Go.RowKit

theorem ba_eq {a b : ByteArray} (h : a.toList = b.toList) : a = b := by
  rw [ByteArray.toList_eq, ByteArray.toList_eq] at h
  apply ByteArray.ext
  exact Array.ext' h
theorem lt_irrefl (a : Bnd) : a.lt a = false := by simp [Bnd.lt, bytesLess_irrefl]
theorem lt_trans {a b c : Bnd} (h : a.lt b = true) (k : b.lt c = true) : a.lt c = true := by
  simp only [Bnd.lt, Bool.and_eq_true, Bool.or_eq_true, Bool.not_eq_true'] at *
  obtain ⟨h1, h2⟩ := h
  obtain ⟨k1, k2⟩ := k
  refine ⟨h1, ?_⟩
  rcases h2 with h2 | h2
  · rw [k1] at h2; cases h2
  · rcases k2 with k2 | k2
    · exact Or.inl k2
    · exact Or.inr (bytesLess_trans h2 k2)
theorem lt_total {a b : Bnd} (ha : vb a = true) (hb : vb b = true) (h : a.lt b = false) (k : b.lt a = false) : a = b := by
  obtain ⟨ak, at'⟩ := a
  obtain ⟨bk, bt⟩ := b
  simp only [vb, Bool.and_eq_true, Bool.or_eq_true, Bool.not_eq_true'] at ha hb
  simp only [Bnd.lt, Bool.and_eq_false_iff, Bool.not_eq_false', Bool.or_eq_false_iff] at h k
  cases at' <;> cases bt <;> simp at h k ha hb
  · have := bytesLess_total h k; rw [ba_eq this]
  · rw [ba_eq (ha.2.trans hb.2.symm)]
theorem emp_iff (r : Rng) : emp r = false ↔ vb r.lo = true ∧ vb r.hi = true ∧ r.lo.lt r.hi = true := by
  simp only [emp, vld, Bool.or_eq_false_iff, Bool.not_eq_false', Bool.and_eq_true, decide_eq_true_eq, beq_eq_false_iff_ne]
  have h1 := cmp_neg r.lo r.hi; have h2 := cmp_rng r.lo r.hi
  constructor
  · rintro ⟨⟨⟨a, b⟩, c⟩, d⟩; exact ⟨a, b, h1.1 (by omega)⟩
  · rintro ⟨a, b, c⟩; have := h1.2 c; exact ⟨⟨⟨a, b⟩, by omega⟩, by omega⟩
theorem greater_if (a b : Bnd) : greater a b = if a.lt b then b else a := by
  unfold greater; have := cmp_pos b a
  by_cases h : a.lt b = true
  · rw [if_pos (this.2 h), if_pos h]
  · rw [if_neg (fun e => h (this.1 e)), if_neg h]
theorem greater_vb {a b : Bnd} (ha : vb a = true) (hb : vb b = true) : vb (greater a b) = true := by rw [greater_if]; split <;> assumption
theorem le_lt {a b c : Bnd} (ha : vb a = true) (hb : vb b = true) (h : a.lt b = false) (k : a.lt c = true) : b.lt c = true := by grind [lt_total, lt_trans]
theorem lt_le {a b c : Bnd} (hb : vb b = true) (hc : vb c = true) (h : a.lt b = true) (k : c.lt b = false) : a.lt c = true := by grind [lt_total, lt_trans]
end Go.Proofs.YtohpjdeohpamaaaGreat
namespace Go.Proofs.YtohpjdeohpamaaaGreat
open Go.RowKit

def upl : List UInt8 → Option (List UInt8)
  | [] => none
  | x :: r => match upl r with
    | some r' => some (x :: r')
    | none => if x = 255 then none else some [x + 1]

theorem upl_255 : ∀ q : List UInt8, upl (q ++ [255]) = upl q
  | [] => rfl
  | x :: r => by rw [List.cons_append, upl, upl, upl_255 r]
theorem upl_last (q : List UInt8) {x : UInt8} (hx : x ≠ 255) : upl (q ++ [x]) = some (q ++ [x + 1]) := by
  induction q with
  | nil => simp [upl, hx]
  | cons y r ih => rw [List.cons_append, upl, ih]; rfl

def upb (p : ByteArray) : Bnd := match upl p.toList with
  | some u => ⟨⟨u.toArray⟩, false⟩
  | none => ⟨⟨#[]⟩, true⟩
def pfx (p : ByteArray) : Rng := if vk p then ⟨⟨p, false⟩, upb p⟩ else zr

theorem len_toList (p : ByteArray) : p.toList.length = p.size := by rw [ByteArray.toList_eq]; exact Array.length_toList
end Go.Proofs.YtohpjdeohpamaaaGreat
namespace Go.Proofs.YtohpjdeohpamaaaGreat
open Go.RowKit

class Len {α : Type} (f : α → List D) (z : outParam Nat) : Prop where
  len : ∀ a, (f a).length = z
def Rng.ds (r : Rng) : List D := [dS r.lo.key, dB r.lo.top, dS r.hi.key, dB r.hi.top]
instance : Len Rng.ds 4 := ⟨fun _ => rfl⟩
structure Kv where
  key : ByteArray
  val : ByteArray
  deriving DecidableEq
theorem Kv.eta (r : Kv) : Kv.mk r.key r.val = r := rfl
theorem Bnd.eta (r : Bnd) : Bnd.mk r.key r.top = r := rfl
theorem Rng.eta (r : Rng) : Rng.mk r.lo r.hi = r := rfl
theorem tn_sub1 (m : Nat) : ((m : Int) - 1).toNat = m - 1 := by omega
def Kv.ds (r : Kv) : List D := [dS r.key, dS r.val]
instance : Len Kv.ds 2 := ⟨fun _ => rfl⟩
def dsI (z : Int) : List D := [dI z]
instance : Len dsI 1 := ⟨fun _ => rfl⟩
abbrev i64s (l : List Int) : D := lst dsI l
structure Fd where
  count : Int
  nums : Int
  sum : Int
  low : Int
  high : Int
  first : ByteArray
  last : ByteArray
structure Qy where
  kind : Int
  rs : List Rng
  key : ByteArray
  count : Int
theorem all_of {α : Type} {p : α → Bool} {l : List α} {m : Nat} (h : ∀ j (h : j < l.length), j < m → p l[j] = true) (hm : l.length ≤ m) : l.all p = true := by
  rw [List.all_eq_true]
  intro x hx
  obtain ⟨j, hj, rfl⟩ := List.mem_iff_getElem.1 hx
  exact h j hj (by omega)
theorem all_not {α : Type} {p : α → Bool} {l : List α} {m : Nat} (hm : m < l.length) (h : (!p l[m]) = true) : l.all p = false := by
  rw [List.all_eq_false]
  exact ⟨l[m], List.getElem_mem hm, by simpa using h⟩
end Go.Proofs.YtohpjdeohpamaaaGreat
