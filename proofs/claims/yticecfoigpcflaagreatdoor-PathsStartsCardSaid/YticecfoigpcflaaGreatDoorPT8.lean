/-
  Lemmas: What the program's structs hold, as deep values.
-/
import Derived.Test.YticecfoigpcflaaGreatDoorPT7
import Derived.MapKept
import Derived.Test.YticecfoigpcflaaGreatDoorChecked
import Derived.Test.YticecfoigpcflaaGreatDoorPT1
import Derived.Deep.DeepCutAuto
import Derived.Test.YticecfoigpcflaaGreatDoorPT2
import Derived.Test.YticecfoigpcflaaGreatDoorPT4
set_option linter.unusedSimpArgs false
set_option linter.unusedVariables false
namespace Go.Proofs.YticecfoigpcflaaGreatDoor
open Go.RowKit
attribute [local simp] Sem.run_bind Sem.run_pure Result.andThen_ok
section
variable {P : Program} {o : Oper} {H : Hp} {sl : List (Nat × V)} {x y z : Operand} {T K E : TypeId} {k d : Nat} {s : ByteArray}
theorem run_newObj {w : World} (ob : Obj) : (newObj ob).run P w = .ok w.heap.size (w.alloc ob) := rfl
def noCells : Obj → Bool
  | .cells _ _ _ => false
  | _ => true
theorem getObj_run {w : World} {r : Nat} {ob : Obj} (h : w.heap[r]? = some ob) (hn : noCells ob = true) : (getObj r).run P w = .ok ob w := by
  cases ob <;> first | (simp [noCells] at hn; done) | simp [getObj, Sem.run, h]
theorem setObj_run {w : World} {r : Nat} {ob : Obj} (o' : Obj) (h : w.heap[r]? = some ob) (hn : noCells ob = true) : (setObj r o').run P w = .ok () { w with heap := w.heap.setIfInBounds r o' } := by
  cases ob <;> first | (simp [noCells] at hn; done) | simp [setObj, Sem.run, h]
theorem o_range (hop : o.op = .range T x) (hd : o.dst = some d) (hk : d + 100 = k) (hx : ev sl x = some (vS s)) (ht : P.underlying T = some .string) : OpD P o H sl k 1 (.p k 0) [(k, some (.ob (.stringIter s 0)))] := fun B a w ρ hs hr hfr => by
  have hx' := rv_c (ev_spec hs hx)
  have hkk := hfr k (Nat.le_refl _) (by omega)
  refine ⟨_, .pointer (some ⟨w.heap.size, 0, none⟩), w.alloc (.stringIter s 0), upd ρ k (.box w.heap.size), ?_, .inl rfl, Step.new1 hkk (fun _ h => h) (.inl rfl) fun ok' ρ' _ _ h => h, .p (upd_self _ _ _)⟩
  unfold execOp; rw [hop]
  simp [Instr.range, hx', run_underlying ht, run_newObj]
theorem set_other (w : World) (b j : Nat) (o' : Obj) (h : j ≠ b) : ({ w with heap := w.heap.setIfInBounds b o' } : World).heap[j]? = w.heap[j]? := by
  simp only; rw [Array.getElem?_setIfInBounds_ne (Ne.symm h)]
theorem set_self (w : World) (b : Nat) (o' ob : Obj) (h : w.heap[b]? = some ob) : ({ w with heap := w.heap.setIfInBounds b o' } : World).heap[b]? = some o' := by
  have hlt := (Array.getElem?_eq_some_iff.1 h).1
  simp [hlt]
theorem o_next_t {pos c wd : Nat} (hop : o.op = .next x true) (hx : ev sl x = some (.p k 0)) (hH : look H k = some (some (.ob (.stringIter s pos)))) (h : pos < s.size) (hc : Utf8.decode s pos = (c, wd)) : OpD P o H sl 0 0 (.t [vB true, vI pos, .d (.c (.int .i32 c))]) [(k, some (.ob (.stringIter s (pos + wd))))] := fun B a w ρ hs hr _ => by
  obtain ⟨l, g1, g2⟩ := hr.rel _ _ hH
  have hx' := ev_spec hs hx
  cases l with
  | tr _ _ => exact g2.elim
  | arr v => exact g2.elim
  | box b =>
    have g2 : w.heap[b]? = some (.stringIter s pos) := g2
    have e : a.eval x = .pointer (some ⟨b, 0, none⟩) := by
      generalize a.eval x = vx at hx'
      cases hx' with
      | p hp => rw [g1] at hp; simp only [Option.some.injEq, Loc.box.injEq] at hp; rw [hp]
    refine ⟨_, .tuple #[.bool true, .int .i64 pos, .int .i32 c], { w with heap := w.heap.setIfInBounds b (.stringIter s (pos + wd)) }, ρ, ?_, .inl rfl, Step.set1 g1 hH rfl (by simp) rfl rfl rfl (fun j hj => set_other w b j _ hj) fun ok' _ => set_self w b _ _ g2, .t (.cons (.d (.c rfl)) (.cons (.d (.c rfl)) (.cons (.d (.c rfl)) .nil)))⟩
    unfold execOp; rw [hop]
    simp [Instr.next, e, getObj_run g2 rfl, h, hc, setObj_run _ g2 rfl, goInt]
theorem o_next_f {pos : Nat} (hop : o.op = .next x true) (hx : ev sl x = some (.p k 0)) (hH : look H k = some (some (.ob (.stringIter s pos)))) (h : ¬ pos < s.size) : OpD P o H sl 0 0 (.t [vB false]) [] := .read fun B a w ρ hs hr => by
  obtain ⟨l, g1, g2⟩ := hr.rel _ _ hH
  have hx' := ev_spec hs hx
  cases l with
  | tr _ _ => exact g2.elim
  | arr v => exact g2.elim
  | box b =>
    have g2 : w.heap[b]? = some (.stringIter s pos) := g2
    have e : a.eval x = .pointer (some ⟨b, 0, none⟩) := by
      generalize a.eval x = vx at hx'
      cases hx' with
      | p hp => rw [g1] at hp; simp only [Option.some.injEq, Loc.box.injEq] at hp; rw [hp]
    refine ⟨.tuple #[.bool false], ?_, .t (.cons (.d (.c rfl)) .nil)⟩
    unfold execOp; rw [hop]
    simp [Instr.next, e, getObj_run g2 rfl, h]
theorem o_mkmap (hop : o.op = .makeMap T none) (hd : o.dst = some d) (hk : d + 100 = k) : OpD P o H sl k 1 (.mp k) [(k, some (.ob (.map #[] 0)))] := fun B a w ρ hs hr hfr => by
  have hkk := hfr k (Nat.le_refl _) (by omega)
  refine ⟨_, .map (some w.heap.size), w.alloc (.map #[] 0), upd ρ k (.box w.heap.size), ?_, .inl rfl, Step.new1 hkk (fun _ h => h) (.inl rfl) fun ok' ρ' _ _ h => h, .mp (upd_self _ _ _)⟩
  unfold execOp; rw [hop]
  simp [Instr.makeMap, run_newObj]
theorem o_insert {em : Array MapEntry} {clock : Nat} {i : Int} {v : Value} (hop : o.op = .insert T x y z) (hx : ev sl x = some (.mp k)) (hy : ev sl y = some (vI i)) (hz : ev sl z = some (.d (.c v))) (hH : look H k = some (some (.ob (.map em clock)))) (hM : Mp P T K E) (hK : P.underlying K = some (.int .i64))
    (hf : Instr.findNow (.int .i64) (.int .i64 i) em.toList 0 = some none) : OpD P o H sl 0 0 .un [(k, some (.ob (.map (em.push ⟨.int .i64 i, v, clock⟩) (clock + 1))))] := fun B a w ρ hs hr _ => by
  obtain ⟨l, g1, g2⟩ := hr.rel _ _ hH
  have hx' := ev_spec hs hx
  have hy' := rv_c (ev_spec hs hy)
  have hz' := rv_c (ev_spec hs hz)
  cases l with
  | tr _ _ => exact g2.elim
  | arr v => exact g2.elim
  | box b =>
    have g2 : w.heap[b]? = some (.map em clock) := g2
    have e : a.eval x = .map (some b) := by
      generalize a.eval x = vx at hx'
      cases hx' with
      | mp hp => rw [g1] at hp; simp only [Option.some.injEq, Loc.box.injEq] at hp; rw [hp]
    have ht := hM.out
    have f1 := MapKept.run_findKey (P := P) (w := w) hK hf
    have f2 := MapKept.run_checkKey (P := P) (w := w) (k := .int .i64 i) hK rfl false 9999
    simp only [Nat.reduceAdd] at f2
    refine ⟨.skip, undef, { w with heap := w.heap.setIfInBounds b (.map (em.push ⟨.int .i64 i, v, clock⟩) (clock + 1)) }, ρ, ?_, .inr ⟨rfl, rfl⟩, Step.set1 g1 hH rfl (by simp) rfl rfl rfl (fun j hj => set_other w b j _ hj) fun ok' _ => set_self w b _ _ g2, .un⟩
    unfold execOp; rw [hop]
    simp [Instr.mapUpdate, e, hy', hz', run_underlying ht, getObj_run g2 rfl, setObj_run _ g2 rfl, f1, f2]
end
end Go.Proofs.YticecfoigpcflaaGreatDoor
namespace Go.Proofs.YticecfoigpcflaaGreatDoor
open Go.RowKit

theorem mixed : Tryz.prog.follows .mixedOrders = true := by kernel_rfl
end Go.Proofs.YticecfoigpcflaaGreatDoor
namespace Go.Proofs.YticecfoigpcflaaGreatDoor
open Go.RowKit
instance ty2 : Ty Tryz.prog 2 1 false := ⟨by kernel_rfl, by kernel_rfl⟩
instance zo2 : ZeroI Tryz.prog 2 [.int .i64 0] := ⟨by unfold ZeroIs; kernel_rfl⟩
instance ty3 : Ty Tryz.prog 3 1 false := ⟨by kernel_rfl, by kernel_rfl⟩
instance zo3 : ZeroI Tryz.prog 3 [.int .i64 0] := ⟨by unfold ZeroIs; kernel_rfl⟩
instance ty4 : Ty Tryz.prog 4 1 false := ⟨by kernel_rfl, by kernel_rfl⟩
instance zo4 : ZeroI Tryz.prog 4 [.bool false] := ⟨by unfold ZeroIs; kernel_rfl⟩
instance ty5 : Ty Tryz.prog 5 1 false := ⟨by kernel_rfl, by kernel_rfl⟩
instance zo5 : ZeroI Tryz.prog 5 [.int .u8 0] := ⟨by unfold ZeroIs; kernel_rfl⟩
instance ty9 : Ty Tryz.prog 9 1 false := ⟨by kernel_rfl, by kernel_rfl⟩
instance zo9 : ZeroI Tryz.prog 9 [.string ⟨#[]⟩] := ⟨by unfold ZeroIs; kernel_rfl⟩
instance ty12 : Ty Tryz.prog 12 1 false := ⟨by kernel_rfl, by kernel_rfl⟩
instance zo12 : ZeroI Tryz.prog 12 [.int .u64 0] := ⟨by unfold ZeroIs; kernel_rfl⟩
instance ty20 : Ty Tryz.prog 20 1 false := ⟨by kernel_rfl, by kernel_rfl⟩
instance zo20 : ZeroI Tryz.prog 20 [.nilIface] := ⟨by unfold ZeroIs; kernel_rfl⟩
instance ty21 : Ty Tryz.prog 21 1 false := ⟨by kernel_rfl, by kernel_rfl⟩
instance zo21 : ZeroI Tryz.prog 21 [.int .i32 0] := ⟨by unfold ZeroIs; kernel_rfl⟩
instance ty22 : Ty Tryz.prog 22 1 false := ⟨by kernel_rfl, by kernel_rfl⟩
instance zo22 : ZeroI Tryz.prog 22 [.slice none 0 0] := ⟨by unfold ZeroIs; kernel_rfl⟩
instance ty23 : Ty Tryz.prog 23 1 false := ⟨by kernel_rfl, by kernel_rfl⟩
instance zo23 : ZeroI Tryz.prog 23 [.slice none 0 0] := ⟨by unfold ZeroIs; kernel_rfl⟩
instance ty24 : Ty Tryz.prog 24 1 false := ⟨by kernel_rfl, by kernel_rfl⟩
instance zo24 : ZeroI Tryz.prog 24 [.slice none 0 0] := ⟨by unfold ZeroIs; kernel_rfl⟩
instance ty26 : Ty Tryz.prog 26 1 false := ⟨by kernel_rfl, by kernel_rfl⟩
instance zo26 : ZeroI Tryz.prog 26 [.pointer none] := ⟨by unfold ZeroIs; kernel_rfl⟩
instance ty32 : Ty Tryz.prog 32 2 true := ⟨by kernel_rfl, by kernel_rfl⟩
instance zo32 : ZeroI Tryz.prog 32 [.string ⟨#[]⟩, .bool false] := ⟨by unfold ZeroIs; kernel_rfl⟩
instance ty34 : Ty Tryz.prog 34 1 false := ⟨by kernel_rfl, by kernel_rfl⟩
instance zo34 : ZeroI Tryz.prog 34 [.slice none 0 0] := ⟨by unfold ZeroIs; kernel_rfl⟩
instance ty35 : Ty Tryz.prog 35 1 false := ⟨by kernel_rfl, by kernel_rfl⟩
instance zo35 : ZeroI Tryz.prog 35 [.slice none 0 0] := ⟨by unfold ZeroIs; kernel_rfl⟩
instance ty41 : Ty Tryz.prog 41 4 true := ⟨by kernel_rfl, by kernel_rfl⟩
instance zo41 : ZeroI Tryz.prog 41 [.int .i64 0, .slice none 0 0, .string ⟨#[]⟩, .int .i64 0] := ⟨by unfold ZeroIs; kernel_rfl⟩
instance ty43 : Ty Tryz.prog 43 1 false := ⟨by kernel_rfl, by kernel_rfl⟩
instance zo43 : ZeroI Tryz.prog 43 [.slice none 0 0] := ⟨by unfold ZeroIs; kernel_rfl⟩
instance ty45 : Ty Tryz.prog 45 1 false := ⟨by kernel_rfl, by kernel_rfl⟩
instance zo45 : ZeroI Tryz.prog 45 [.slice none 0 0] := ⟨by unfold ZeroIs; kernel_rfl⟩
instance ty46 : Ty Tryz.prog 46 1 false := ⟨by kernel_rfl, by kernel_rfl⟩
instance zo46 : ZeroI Tryz.prog 46 [.slice none 0 0] := ⟨by unfold ZeroIs; kernel_rfl⟩
instance ty48 : Ty Tryz.prog 48 8 true := ⟨by kernel_rfl, by kernel_rfl⟩
instance zo48 : ZeroI Tryz.prog 48 [.int .i64 0, .slice none 0 0, .string ⟨#[]⟩, .int .i64 0, .slice none 0 0, .slice none 0 0, .slice none 0 0, .bool false] := ⟨by unfold ZeroIs; kernel_rfl⟩
instance ty49 : Ty Tryz.prog 49 1 false := ⟨by kernel_rfl, by kernel_rfl⟩
instance zo49 : ZeroI Tryz.prog 49 [.int .i64 0] := ⟨by unfold ZeroIs; kernel_rfl⟩
instance ty54 : Ty Tryz.prog 54 1 false := ⟨by kernel_rfl, by kernel_rfl⟩
instance zo54 : ZeroI Tryz.prog 54 [.slice none 0 0] := ⟨by unfold ZeroIs; kernel_rfl⟩
instance ty56 : Ty Tryz.prog 56 1 false := ⟨by kernel_rfl, by kernel_rfl⟩
instance zo56 : ZeroI Tryz.prog 56 [.slice none 0 0] := ⟨by unfold ZeroIs; kernel_rfl⟩
instance ty58 : Ty Tryz.prog 58 1 false := ⟨by kernel_rfl, by kernel_rfl⟩
instance zo58 : ZeroI Tryz.prog 58 [.slice none 0 0] := ⟨by unfold ZeroIs; kernel_rfl⟩
instance ty60 : Ty Tryz.prog 60 4 true := ⟨by kernel_rfl, by kernel_rfl⟩
instance zo60 : ZeroI Tryz.prog 60 [.string ⟨#[]⟩, .bool false, .string ⟨#[]⟩, .bool false] := ⟨by unfold ZeroIs; kernel_rfl⟩
instance ty62 : Ty Tryz.prog 62 2 true := ⟨by kernel_rfl, by kernel_rfl⟩
instance zo62 : ZeroI Tryz.prog 62 [.int .i64 0, .int .i64 0] := ⟨by unfold ZeroIs; kernel_rfl⟩
instance ty64 : Ty Tryz.prog 64 8 true := ⟨by kernel_rfl, by kernel_rfl⟩
instance zo64 : ZeroI Tryz.prog 64 [.int .i64 0, .string ⟨#[]⟩, .bool false, .string ⟨#[]⟩, .bool false, .int .i64 0, .int .i64 0, .slice none 0 0] := ⟨by unfold ZeroIs; kernel_rfl⟩
instance ty66 : Ty Tryz.prog 66 7 true := ⟨by kernel_rfl, by kernel_rfl⟩
instance zo66 : ZeroI Tryz.prog 66 [.int .i64 0, .int .i64 0, .int .i64 0, .int .i64 0, .int .i64 0, .string ⟨#[]⟩, .string ⟨#[]⟩] := ⟨by unfold ZeroIs; kernel_rfl⟩
instance ty68 : Ty Tryz.prog 68 8 true := ⟨by kernel_rfl, by kernel_rfl⟩
instance zo68 : ZeroI Tryz.prog 68 [.slice none 0 0, .int .i64 0, .int .i64 0, .int .i64 0, .int .i64 0, .int .i64 0, .string ⟨#[]⟩, .string ⟨#[]⟩] := ⟨by unfold ZeroIs; kernel_rfl⟩
instance ty73 : Ty Tryz.prog 73 1 false := ⟨by kernel_rfl, by kernel_rfl⟩
instance zo73 : ZeroI Tryz.prog 73 [.slice none 0 0] := ⟨by unfold ZeroIs; kernel_rfl⟩
instance ty75 : Ty Tryz.prog 75 6 true := ⟨by kernel_rfl, by kernel_rfl⟩
instance zo75 : ZeroI Tryz.prog 75 [.int .i64 0, .slice none 0 0, .string ⟨#[]⟩, .int .i64 0, .slice none 0 0, .slice none 0 0] := ⟨by unfold ZeroIs; kernel_rfl⟩
instance ty81 : Ty Tryz.prog 81 1 false := ⟨by kernel_rfl, by kernel_rfl⟩
instance zo81 : ZeroI Tryz.prog 81 [.slice none 0 0] := ⟨by unfold ZeroIs; kernel_rfl⟩
instance ty83 : Ty Tryz.prog 83 3 true := ⟨by kernel_rfl, by kernel_rfl⟩
instance zo83 : ZeroI Tryz.prog 83 [.int .i64 0, .bool false, .slice none 0 0] := ⟨by unfold ZeroIs; kernel_rfl⟩
instance ty87 : Ty Tryz.prog 87 3 true := ⟨by kernel_rfl, by kernel_rfl⟩
instance zo87 : ZeroI Tryz.prog 87 [.string ⟨#[]⟩, .string ⟨#[]⟩, .bool false] := ⟨by unfold ZeroIs; kernel_rfl⟩
instance ty89 : Ty Tryz.prog 89 1 false := ⟨by kernel_rfl, by kernel_rfl⟩
instance zo89 : ZeroI Tryz.prog 89 [.slice none 0 0] := ⟨by unfold ZeroIs; kernel_rfl⟩
instance ty91 : Ty Tryz.prog 91 10 true := ⟨by kernel_rfl, by kernel_rfl⟩
instance zo91 : ZeroI Tryz.prog 91 [.int .i64 0, .int .i64 0, .int .i64 0, .int .i64 0, .int .i64 0, .string ⟨#[]⟩, .bool false, .string ⟨#[]⟩, .bool false, .slice none 0 0] := ⟨by unfold ZeroIs; kernel_rfl⟩
instance ty93 : Ty Tryz.prog 93 30 true := ⟨by kernel_rfl, by kernel_rfl⟩
instance zo93 : ZeroI Tryz.prog 93 [.string ⟨#[]⟩, .bool false, .string ⟨#[]⟩, .bool false, .int .i64 0, .int .i64 0, .slice none 0 0, .slice none 0 0, .int .i64 0, .int .i64 0, .int .i64 0, .int .i64 0, .int .i64 0, .string ⟨#[]⟩, .bool false, .string ⟨#[]⟩, .bool false, .slice none 0 0, .int .i64 0, .int .i64 0, .int .i64 0, .int .i64 0, .int .i64 0, .string ⟨#[]⟩, .bool false, .string ⟨#[]⟩, .bool false, .slice none 0 0, .int .i64 0, .int .i64 0] := ⟨by unfold ZeroIs; kernel_rfl⟩
instance ty95 : Ty Tryz.prog 95 32 true := ⟨by kernel_rfl, by kernel_rfl⟩
instance zo95 : ZeroI Tryz.prog 95 [.int .i64 0, .bool false, .string ⟨#[]⟩, .bool false, .string ⟨#[]⟩, .bool false, .int .i64 0, .int .i64 0, .slice none 0 0, .slice none 0 0, .int .i64 0, .int .i64 0, .int .i64 0, .int .i64 0, .int .i64 0, .string ⟨#[]⟩, .bool false, .string ⟨#[]⟩, .bool false, .slice none 0 0, .int .i64 0, .int .i64 0, .int .i64 0, .int .i64 0, .int .i64 0, .string ⟨#[]⟩, .bool false, .string ⟨#[]⟩, .bool false, .slice none 0 0, .int .i64 0, .int .i64 0] := ⟨by unfold ZeroIs; kernel_rfl⟩
instance ty110 : Ty Tryz.prog 110 1 false := ⟨by kernel_rfl, by kernel_rfl⟩
instance zo110 : ZeroI Tryz.prog 110 [.slice none 0 0] := ⟨by unfold ZeroIs; kernel_rfl⟩
instance ty115 : Ty Tryz.prog 115 1 false := ⟨by kernel_rfl, by kernel_rfl⟩
instance zo115 : ZeroI Tryz.prog 115 [.slice none 0 0] := ⟨by unfold ZeroIs; kernel_rfl⟩
instance ty117 : Ty Tryz.prog 117 1 false := ⟨by kernel_rfl, by kernel_rfl⟩
instance zo117 : ZeroI Tryz.prog 117 [.slice none 0 0] := ⟨by unfold ZeroIs; kernel_rfl⟩
instance ty124 : Ty Tryz.prog 124 6 true := ⟨by kernel_rfl, by kernel_rfl⟩
instance zo124 : ZeroI Tryz.prog 124 [.int .i64 0, .slice none 0 0, .string ⟨#[]⟩, .int .i64 0, .slice none 0 0, .slice none 0 0] := ⟨by unfold ZeroIs; kernel_rfl⟩
instance ty126 : Ty Tryz.prog 126 2 true := ⟨by kernel_rfl, by kernel_rfl⟩
instance zo126 : ZeroI Tryz.prog 126 [.slice none 0 0, .int .i64 0] := ⟨by unfold ZeroIs; kernel_rfl⟩
instance ty144 : Ty Tryz.prog 144 1 false := ⟨by kernel_rfl, by kernel_rfl⟩
instance zo144 : ZeroI Tryz.prog 144 [.pointer none] := ⟨by unfold ZeroIs; kernel_rfl⟩
instance ty174 : Ty Tryz.prog 174 2 true := ⟨by kernel_rfl, by kernel_rfl⟩
instance zo174 : ZeroI Tryz.prog 174 [.string ⟨#[]⟩, .string ⟨#[]⟩] := ⟨by unfold ZeroIs; kernel_rfl⟩
instance ty182 : Ty Tryz.prog 182 12 true := ⟨by kernel_rfl, by kernel_rfl⟩
instance zo182 : ZeroI Tryz.prog 182 [.int .i64 0, .string ⟨#[]⟩, .bool false, .string ⟨#[]⟩, .bool false, .int .i64 0, .int .i64 0, .slice none 0 0, .string ⟨#[]⟩, .bool false, .string ⟨#[]⟩, .bool false] := ⟨by unfold ZeroIs; kernel_rfl⟩
instance ty191 : Ty Tryz.prog 191 1 false := ⟨by kernel_rfl, by kernel_rfl⟩
instance zo191 : ZeroI Tryz.prog 191 [.pointer none] := ⟨by unfold ZeroIs; kernel_rfl⟩
instance ty195 : Ty Tryz.prog 195 6 true := ⟨by kernel_rfl, by kernel_rfl⟩
instance zo195 : ZeroI Tryz.prog 195 [.string ⟨#[]⟩, .string ⟨#[]⟩, .string ⟨#[]⟩, .string ⟨#[]⟩, .string ⟨#[]⟩, .string ⟨#[]⟩] := ⟨by unfold ZeroIs; kernel_rfl⟩
instance ty205 : Ty Tryz.prog 205 2 true := ⟨by kernel_rfl, by kernel_rfl⟩
instance zo205 : ZeroI Tryz.prog 205 [.nilFunc, .nilFunc] := ⟨by unfold ZeroIs; kernel_rfl⟩
instance ty234 : Ty Tryz.prog 234 1 false := ⟨by kernel_rfl, by kernel_rfl⟩
instance zo234 : ZeroI Tryz.prog 234 [.pointer none] := ⟨by unfold ZeroIs; kernel_rfl⟩
instance ty235 : Ty Tryz.prog 235 1 false := ⟨by kernel_rfl, by kernel_rfl⟩
instance zo235 : ZeroI Tryz.prog 235 [.map none] := ⟨by unfold ZeroIs; kernel_rfl⟩
instance ty236 : Ty Tryz.prog 236 1 false := ⟨by kernel_rfl, by kernel_rfl⟩
instance zo236 : ZeroI Tryz.prog 236 [.map none] := ⟨by unfold ZeroIs; kernel_rfl⟩
instance ty237 : Ty Tryz.prog 237 1 false := ⟨by kernel_rfl, by kernel_rfl⟩
instance zo237 : ZeroI Tryz.prog 237 [.map none] := ⟨by unfold ZeroIs; kernel_rfl⟩
instance ty248 : Ty Tryz.prog 248 1 false := ⟨by kernel_rfl, by kernel_rfl⟩
instance zo248 : ZeroI Tryz.prog 248 [.map none] := ⟨by unfold ZeroIs; kernel_rfl⟩
instance ty260 : Ty Tryz.prog 260 1 false := ⟨by kernel_rfl, by kernel_rfl⟩
instance zo260 : ZeroI Tryz.prog 260 [.int .u64 0] := ⟨by unfold ZeroIs; kernel_rfl⟩
instance ty282 : Ty Tryz.prog 282 1 false := ⟨by kernel_rfl, by kernel_rfl⟩
instance zo282 : ZeroI Tryz.prog 282 [.int .u32 0] := ⟨by unfold ZeroIs; kernel_rfl⟩
instance ty284 : Ty Tryz.prog 284 1 false := ⟨by kernel_rfl, by kernel_rfl⟩
instance zo284 : ZeroI Tryz.prog 284 [.int .u64 0] := ⟨by unfold ZeroIs; kernel_rfl⟩
instance ty289 : Ty Tryz.prog 289 1 false := ⟨by kernel_rfl, by kernel_rfl⟩
instance zo289 : ZeroI Tryz.prog 289 [.pointer none] := ⟨by unfold ZeroIs; kernel_rfl⟩
instance sl22 : Sl Tryz.prog 22 3 1 8 := Sl.mk' (by kernel_rfl) (by kernel_rfl)
instance sl23 : Sl Tryz.prog 23 60 4 48 := Sl.mk' (by kernel_rfl) (by kernel_rfl)
instance sl24 : Sl Tryz.prog 24 32 2 24 := Sl.mk' (by kernel_rfl) (by kernel_rfl)
instance sl34 : Sl Tryz.prog 34 23 1 24 := Sl.mk' (by kernel_rfl) (by kernel_rfl)
instance sl35 : Sl Tryz.prog 35 24 1 24 := Sl.mk' (by kernel_rfl) (by kernel_rfl)
instance sl43 : Sl Tryz.prog 43 5 1 1 := Sl.mk' (by kernel_rfl) (by kernel_rfl)
instance sl45 : Sl Tryz.prog 45 41 4 56 := Sl.mk' (by kernel_rfl) (by kernel_rfl)
instance sl46 : Sl Tryz.prog 46 124 6 104 := Sl.mk' (by kernel_rfl) (by kernel_rfl)
instance sl54 : Sl Tryz.prog 54 64 8 96 := Sl.mk' (by kernel_rfl) (by kernel_rfl)
instance sl56 : Sl Tryz.prog 56 83 3 40 := Sl.mk' (by kernel_rfl) (by kernel_rfl)
instance sl58 : Sl Tryz.prog 58 174 2 32 := Sl.mk' (by kernel_rfl) (by kernel_rfl)
instance sl73 : Sl Tryz.prog 73 182 12 144 := Sl.mk' (by kernel_rfl) (by kernel_rfl)
instance sl81 : Sl Tryz.prog 81 95 32 368 := Sl.mk' (by kernel_rfl) (by kernel_rfl)
instance sl89 : Sl Tryz.prog 89 87 3 40 := Sl.mk' (by kernel_rfl) (by kernel_rfl)
instance sl110 : Sl Tryz.prog 110 180 12 184 := Sl.mk' (by kernel_rfl) (by kernel_rfl)
instance sl115 : Sl Tryz.prog 115 58 1 24 := Sl.mk' (by kernel_rfl) (by kernel_rfl)
instance sl117 : Sl Tryz.prog 117 110 1 24 := Sl.mk' (by kernel_rfl) (by kernel_rfl)
end Go.Proofs.YticecfoigpcflaaGreatDoor
namespace Go.Proofs.YticecfoigpcflaaGreatDoor
open Go.RowKit
instance ab195 : Ab Tryz.prog 195 [(0, 1), (1, 1), (2, 1), (3, 1), (4, 1), (5, 1)] [.string ⟨#[]⟩, .string ⟨#[]⟩, .string ⟨#[]⟩, .string ⟨#[]⟩, .string ⟨#[]⟩, .string ⟨#[]⟩] := ⟨⟨6, 9, 1, by kernel_rfl, by kernel_rfl, by kernel_rfl⟩, by unfold ZeroIs; kernel_rfl⟩
instance ar195 : Ar Tryz.prog 195 6 9 := ⟨by kernel_rfl⟩
instance mp235 : Mp Tryz.prog 235 3 3 := ⟨by kernel_rfl⟩
instance mp236 : Mp Tryz.prog 236 3 41 := ⟨by kernel_rfl⟩
instance mp237 : Mp Tryz.prog 237 3 4 := ⟨by kernel_rfl⟩
instance mp248 : Mp Tryz.prog 248 3 142 := ⟨by kernel_rfl⟩
instance fo32_0 : Fo Tryz.prog 32 0 0 := ⟨by kernel_rfl⟩
instance fo32_1 : Fo Tryz.prog 32 1 1 := ⟨by kernel_rfl⟩
instance bd32 : Bd Tryz.prog 32 [(0, 1), (1, 1)] [.string ⟨#[]⟩, .bool false] := ⟨by kernel_rfl, by unfold ZeroIs; kernel_rfl⟩
instance fo41_0 : Fo Tryz.prog 41 0 0 := ⟨by kernel_rfl⟩
instance fo41_1 : Fo Tryz.prog 41 1 1 := ⟨by kernel_rfl⟩
instance fo41_2 : Fo Tryz.prog 41 2 2 := ⟨by kernel_rfl⟩
instance fo41_3 : Fo Tryz.prog 41 3 3 := ⟨by kernel_rfl⟩
instance bd41 : Bd Tryz.prog 41 [(0, 1), (1, 1), (2, 1), (3, 1)] [.int .i64 0, .slice none 0 0, .string ⟨#[]⟩, .int .i64 0] := ⟨by kernel_rfl, by unfold ZeroIs; kernel_rfl⟩
instance fo48_0 : Fo Tryz.prog 48 0 0 := ⟨by kernel_rfl⟩
instance fo48_1 : Fo Tryz.prog 48 1 4 := ⟨by kernel_rfl⟩
instance fo48_2 : Fo Tryz.prog 48 2 5 := ⟨by kernel_rfl⟩
instance fo48_3 : Fo Tryz.prog 48 3 6 := ⟨by kernel_rfl⟩
instance fo48_4 : Fo Tryz.prog 48 4 7 := ⟨by kernel_rfl⟩
instance bd48 : Bd Tryz.prog 48 [(0, 4), (4, 1), (5, 1), (6, 1), (7, 1)] [.int .i64 0, .slice none 0 0, .string ⟨#[]⟩, .int .i64 0, .slice none 0 0, .slice none 0 0, .slice none 0 0, .bool false] := ⟨by kernel_rfl, by unfold ZeroIs; kernel_rfl⟩
instance fo60_0 : Fo Tryz.prog 60 0 0 := ⟨by kernel_rfl⟩
instance fo60_1 : Fo Tryz.prog 60 1 2 := ⟨by kernel_rfl⟩
instance bd60 : Bd Tryz.prog 60 [(0, 2), (2, 2)] [.string ⟨#[]⟩, .bool false, .string ⟨#[]⟩, .bool false] := ⟨by kernel_rfl, by unfold ZeroIs; kernel_rfl⟩
instance bd62 : Bd Tryz.prog 62 [(0, 1), (1, 1)] [.int .i64 0, .int .i64 0] := ⟨by kernel_rfl, by unfold ZeroIs; kernel_rfl⟩
instance fo64_0 : Fo Tryz.prog 64 0 0 := ⟨by kernel_rfl⟩
instance fo64_1 : Fo Tryz.prog 64 1 1 := ⟨by kernel_rfl⟩
instance fo64_2 : Fo Tryz.prog 64 2 5 := ⟨by kernel_rfl⟩
instance fo64_3 : Fo Tryz.prog 64 3 7 := ⟨by kernel_rfl⟩
instance bd64 : Bd Tryz.prog 64 [(0, 1), (1, 4), (5, 2), (7, 1)] [.int .i64 0, .string ⟨#[]⟩, .bool false, .string ⟨#[]⟩, .bool false, .int .i64 0, .int .i64 0, .slice none 0 0] := ⟨by kernel_rfl, by unfold ZeroIs; kernel_rfl⟩
instance bd66 : Bd Tryz.prog 66 [(0, 1), (1, 1), (2, 1), (3, 1), (4, 1), (5, 1), (6, 1)] [.int .i64 0, .int .i64 0, .int .i64 0, .int .i64 0, .int .i64 0, .string ⟨#[]⟩, .string ⟨#[]⟩] := ⟨by kernel_rfl, by unfold ZeroIs; kernel_rfl⟩
instance bd68 : Bd Tryz.prog 68 [(0, 1), (1, 7)] [.slice none 0 0, .int .i64 0, .int .i64 0, .int .i64 0, .int .i64 0, .int .i64 0, .string ⟨#[]⟩, .string ⟨#[]⟩] := ⟨by kernel_rfl, by unfold ZeroIs; kernel_rfl⟩
instance bd75 : Bd Tryz.prog 75 [(0, 4), (4, 1), (5, 1)] [.int .i64 0, .slice none 0 0, .string ⟨#[]⟩, .int .i64 0, .slice none 0 0, .slice none 0 0] := ⟨by kernel_rfl, by unfold ZeroIs; kernel_rfl⟩
instance fo83_1 : Fo Tryz.prog 83 1 1 := ⟨by kernel_rfl⟩
instance fo83_2 : Fo Tryz.prog 83 2 2 := ⟨by kernel_rfl⟩
instance bd83 : Bd Tryz.prog 83 [(0, 1), (1, 1), (2, 1)] [.int .i64 0, .bool false, .slice none 0 0] := ⟨by kernel_rfl, by unfold ZeroIs; kernel_rfl⟩
instance bd87 : Bd Tryz.prog 87 [(0, 1), (1, 1), (2, 1)] [.string ⟨#[]⟩, .string ⟨#[]⟩, .bool false] := ⟨by kernel_rfl, by unfold ZeroIs; kernel_rfl⟩
instance bd91 : Bd Tryz.prog 91 [(0, 1), (1, 1), (2, 1), (3, 2), (5, 4), (9, 1)] [.int .i64 0, .int .i64 0, .int .i64 0, .int .i64 0, .int .i64 0, .string ⟨#[]⟩, .bool false, .string ⟨#[]⟩, .bool false, .slice none 0 0] := ⟨by kernel_rfl, by unfold ZeroIs; kernel_rfl⟩
instance fo93_0 : Fo Tryz.prog 93 0 0 := ⟨by kernel_rfl⟩
instance fo93_1 : Fo Tryz.prog 93 1 4 := ⟨by kernel_rfl⟩
instance fo93_2 : Fo Tryz.prog 93 2 6 := ⟨by kernel_rfl⟩
instance bd93 : Bd Tryz.prog 93 [(0, 4), (4, 2), (6, 1), (7, 1), (8, 10), (18, 10), (28, 1), (29, 1)] [.string ⟨#[]⟩, .bool false, .string ⟨#[]⟩, .bool false, .int .i64 0, .int .i64 0, .slice none 0 0, .slice none 0 0, .int .i64 0, .int .i64 0, .int .i64 0, .int .i64 0, .int .i64 0, .string ⟨#[]⟩, .bool false, .string ⟨#[]⟩, .bool false, .slice none 0 0, .int .i64 0, .int .i64 0, .int .i64 0, .int .i64 0, .int .i64 0, .string ⟨#[]⟩, .bool false, .string ⟨#[]⟩, .bool false, .slice none 0 0, .int .i64 0, .int .i64 0] := ⟨by kernel_rfl, by unfold ZeroIs; kernel_rfl⟩
instance fo95_0 : Fo Tryz.prog 95 0 0 := ⟨by kernel_rfl⟩
instance fo95_1 : Fo Tryz.prog 95 1 1 := ⟨by kernel_rfl⟩
instance fo95_2 : Fo Tryz.prog 95 2 2 := ⟨by kernel_rfl⟩
instance bd95 : Bd Tryz.prog 95 [(0, 1), (1, 1), (2, 30)] [.int .i64 0, .bool false, .string ⟨#[]⟩, .bool false, .string ⟨#[]⟩, .bool false, .int .i64 0, .int .i64 0, .slice none 0 0, .slice none 0 0, .int .i64 0, .int .i64 0, .int .i64 0, .int .i64 0, .int .i64 0, .string ⟨#[]⟩, .bool false, .string ⟨#[]⟩, .bool false, .slice none 0 0, .int .i64 0, .int .i64 0, .int .i64 0, .int .i64 0, .int .i64 0, .string ⟨#[]⟩, .bool false, .string ⟨#[]⟩, .bool false, .slice none 0 0, .int .i64 0, .int .i64 0] := ⟨by kernel_rfl, by unfold ZeroIs; kernel_rfl⟩
instance fo124_0 : Fo Tryz.prog 124 0 0 := ⟨by kernel_rfl⟩
instance fo124_1 : Fo Tryz.prog 124 1 4 := ⟨by kernel_rfl⟩
instance fo124_2 : Fo Tryz.prog 124 2 5 := ⟨by kernel_rfl⟩
instance bd124 : Bd Tryz.prog 124 [(0, 4), (4, 1), (5, 1)] [.int .i64 0, .slice none 0 0, .string ⟨#[]⟩, .int .i64 0, .slice none 0 0, .slice none 0 0] := ⟨by kernel_rfl, by unfold ZeroIs; kernel_rfl⟩
instance fo126_0 : Fo Tryz.prog 126 0 0 := ⟨by kernel_rfl⟩
instance fo126_1 : Fo Tryz.prog 126 1 1 := ⟨by kernel_rfl⟩
instance bd126 : Bd Tryz.prog 126 [(0, 1), (1, 1)] [.slice none 0 0, .int .i64 0] := ⟨by kernel_rfl, by unfold ZeroIs; kernel_rfl⟩
instance bd174 : Bd Tryz.prog 174 [(0, 1), (1, 1)] [.string ⟨#[]⟩, .string ⟨#[]⟩] := ⟨by kernel_rfl, by unfold ZeroIs; kernel_rfl⟩
instance fo182_0 : Fo Tryz.prog 182 0 0 := ⟨by kernel_rfl⟩
instance fo182_1 : Fo Tryz.prog 182 1 8 := ⟨by kernel_rfl⟩
instance bd182 : Bd Tryz.prog 182 [(0, 8), (8, 4)] [.int .i64 0, .string ⟨#[]⟩, .bool false, .string ⟨#[]⟩, .bool false, .int .i64 0, .int .i64 0, .slice none 0 0, .string ⟨#[]⟩, .bool false, .string ⟨#[]⟩, .bool false] := ⟨by kernel_rfl, by unfold ZeroIs; kernel_rfl⟩
end Go.Proofs.YticecfoigpcflaaGreatDoor
namespace Go.Proofs.YticecfoigpcflaaGreatDoor
open Go.RowKit

theorem ba_eq {a b : ByteArray} (h : a.toList = b.toList) : a = b := by
  rw [ByteArray.toList_eq, ByteArray.toList_eq] at h
  apply ByteArray.ext
  exact Array.ext' h
theorem lt_irrefl (a : Bnd) : a.lt a = false := by simp [Bnd.lt, bytesLess_irrefl]
theorem lt_trans {a b c : Bnd} (h : a.lt b = true) (k : b.lt c = true) : a.lt c = true := by
  simp only [Bnd.lt, Bool.and_eq_true, Bool.or_eq_true, Bool.not_eq_true'] at *
  obtain ⟨h1, h2⟩ := h
  obtain ⟨k1, k2⟩ := k
  refine ⟨h1, ?_⟩
  rcases h2 with h2 | h2
  · rw [k1] at h2; cases h2
  · rcases k2 with k2 | k2
    · exact Or.inl k2
    · exact Or.inr (bytesLess_trans h2 k2)
theorem lt_total {a b : Bnd} (ha : vb a = true) (hb : vb b = true) (h : a.lt b = false) (k : b.lt a = false) : a = b := by
  obtain ⟨ak, at'⟩ := a
  obtain ⟨bk, bt⟩ := b
  simp only [vb, Bool.and_eq_true, Bool.or_eq_true, Bool.not_eq_true'] at ha hb
  simp only [Bnd.lt, Bool.and_eq_false_iff, Bool.not_eq_false', Bool.or_eq_false_iff] at h k
  cases at' <;> cases bt <;> simp at h k ha hb
  · have := bytesLess_total h k; rw [ba_eq this]
  · rw [ba_eq (ha.2.trans hb.2.symm)]
theorem emp_iff (r : Rng) : emp r = false ↔ vb r.lo = true ∧ vb r.hi = true ∧ r.lo.lt r.hi = true := by
  simp only [emp, vld, Bool.or_eq_false_iff, Bool.not_eq_false', Bool.and_eq_true, decide_eq_true_eq, beq_eq_false_iff_ne]
  have h1 := cmp_neg r.lo r.hi; have h2 := cmp_rng r.lo r.hi
  constructor
  · rintro ⟨⟨⟨a, b⟩, c⟩, d⟩; exact ⟨a, b, h1.1 (by omega)⟩
  · rintro ⟨a, b, c⟩; have := h1.2 c; exact ⟨⟨⟨a, b⟩, by omega⟩, by omega⟩
theorem greater_if (a b : Bnd) : greater a b = if a.lt b then b else a := by
  unfold greater; have := cmp_pos b a
  by_cases h : a.lt b = true
  · rw [if_pos (this.2 h), if_pos h]
  · rw [if_neg (fun e => h (this.1 e)), if_neg h]
theorem greater_vb {a b : Bnd} (ha : vb a = true) (hb : vb b = true) : vb (greater a b) = true := by rw [greater_if]; split <;> assumption
theorem le_lt {a b c : Bnd} (ha : vb a = true) (hb : vb b = true) (h : a.lt b = false) (k : a.lt c = true) : b.lt c = true := by grind [lt_total, lt_trans]
theorem lt_le {a b c : Bnd} (hb : vb b = true) (hc : vb c = true) (h : a.lt b = true) (k : c.lt b = false) : a.lt c = true := by grind [lt_total, lt_trans]
end Go.Proofs.YticecfoigpcflaaGreatDoor
namespace Go.Proofs.YticecfoigpcflaaGreatDoor
open Go.RowKit

def upl : List UInt8 → Option (List UInt8)
  | [] => none
  | x :: r => match upl r with
    | some r' => some (x :: r')
    | none => if x = 255 then none else some [x + 1]

theorem upl_255 : ∀ q : List UInt8, upl (q ++ [255]) = upl q
  | [] => rfl
  | x :: r => by rw [List.cons_append, upl, upl, upl_255 r]
theorem upl_last (q : List UInt8) {x : UInt8} (hx : x ≠ 255) : upl (q ++ [x]) = some (q ++ [x + 1]) := by
  induction q with
  | nil => simp [upl, hx]
  | cons y r ih => rw [List.cons_append, upl, ih]; rfl

def upb (p : ByteArray) : Bnd := match upl p.toList with
  | some u => ⟨⟨u.toArray⟩, false⟩
  | none => ⟨⟨#[]⟩, true⟩
def pfx (p : ByteArray) : Rng := if vk p then ⟨⟨p, false⟩, upb p⟩ else zr

theorem len_toList (p : ByteArray) : p.toList.length = p.size := by rw [ByteArray.toList_eq]; exact Array.length_toList
end Go.Proofs.YticecfoigpcflaaGreatDoor
namespace Go.Proofs.YticecfoigpcflaaGreatDoor
open Go.RowKit

class Len {α : Type} (f : α → List D) (z : outParam Nat) : Prop where
  len : ∀ a, (f a).length = z
def Rng.ds (r : Rng) : List D := [dS r.lo.key, dB r.lo.top, dS r.hi.key, dB r.hi.top]
instance : Len Rng.ds 4 := ⟨fun _ => rfl⟩
structure Kv where
  key : ByteArray
  val : ByteArray
  deriving DecidableEq
theorem Kv.eta (r : Kv) : Kv.mk r.key r.val = r := rfl
theorem Bnd.eta (r : Bnd) : Bnd.mk r.key r.top = r := rfl
theorem Rng.eta (r : Rng) : Rng.mk r.lo r.hi = r := rfl
theorem tn_sub1 (m : Nat) : ((m : Int) - 1).toNat = m - 1 := by omega
def Kv.ds (r : Kv) : List D := [dS r.key, dS r.val]
instance : Len Kv.ds 2 := ⟨fun _ => rfl⟩
def dsI (z : Int) : List D := [dI z]
instance : Len dsI 1 := ⟨fun _ => rfl⟩
abbrev i64s (l : List Int) : D := lst dsI l
structure Fd where
  count : Int
  nums : Int
  sum : Int
  low : Int
  high : Int
  first : ByteArray
  last : ByteArray
structure Qy where
  kind : Int
  rs : List Rng
  key : ByteArray
  count : Int
theorem all_of {α : Type} {p : α → Bool} {l : List α} {m : Nat} (h : ∀ j (h : j < l.length), j < m → p l[j] = true) (hm : l.length ≤ m) : l.all p = true := by
  rw [List.all_eq_true]
  intro x hx
  obtain ⟨j, hj, rfl⟩ := List.mem_iff_getElem.1 hx
  exact h j hj (by omega)
theorem all_not {α : Type} {p : α → Bool} {l : List α} {m : Nat} (hm : m < l.length) (h : (!p l[m]) = true) : l.all p = false := by
  rw [List.all_eq_false]
  exact ⟨l[m], List.getElem_mem hm, by simpa using h⟩
end Go.Proofs.YticecfoigpcflaaGreatDoor
