/-
  Lemmas: Plain laws of the models
-/
import Derived.WalkKit
import Derived.Test.YtohpjdeohpamaaaGreatDoorPA7
import Derived.Test.YtohpjdeohpamaaaGreatDoorPA8
import Derived.MapKept
import Derived.Test.YtohpjdeohpamaaaGreatDoorPA9
import Derived.Test.YtohpjdeohpamaaaGreatDoorPA13
import Derived.Test.YtohpjdeohpamaaaGreatDoorPA14
import Derived.Deep.Slices
import Derived.Test.YtohpjdeohpamaaaGreatDoorPA10
import Derived.Test.YtohpjdeohpamaaaGreatDoorPA12
import Derived.Test.YtohpjdeohpamaaaGreatDoorPA17
import Derived.Test.YtohpjdeohpamaaaGreatDoorPA18
import Derived.Scope
import Derived.Test.YtohpjdeohpamaaaGreatDoorPA22
import Derived.Test.YtohpjdeohpamaaaGreatDoorPA26
import Derived.Test.YtohpjdeohpamaaaGreatDoorPA27
import Derived.Test.YtohpjdeohpamaaaGreatDoorPA20
import Derived.Test.YtohpjdeohpamaaaGreatDoorPA23
import Derived.Test.YtohpjdeohpamaaaGreatDoorPA21
import Derived.Test.YtohpjdeohpamaaaGreatDoorPA24
import Derived.Test.YtohpjdeohpamaaaGreatDoorPA4
import Derived.Test.YtohpjdeohpamaaaGreatDoorPA15
import Derived.Test.YtohpjdeohpamaaaGreatDoorPA16
import Derived.Test.YtohpjdeohpamaaaGreatDoorPA19
set_option linter.unusedSimpArgs false
set_option linter.unusedVariables false
namespace Go.Proofs.YtohpjdeohpamaaaGreatDoor
open Go.RowKit

theorem cmp_self (a : Bnd) : cmp a a = 0 := by
  have : a.lt a = false := by simp [Bnd.lt, bytesLess_irrefl]
  simp [cmp, this]
end Go.Proofs.YtohpjdeohpamaaaGreatDoor
namespace Go.Proofs.YtohpjdeohpamaaaGreatDoor
open Go.RowKit
attribute [local simp] Sem.run_bind Sem.run_pure Result.andThen_ok
section
variable {P : Program} {o : Oper} {H : Hp} {sl : List (Nat × V)} {x y z : Operand} {T K E : TypeId} {k d : Nat} {s : ByteArray}
end
theorem dec_lt {s : ByteArray} {i c wd : Nat} (h : Utf8.decode s i = (c, wd)) (hc : c < 128) : c = (s.get! i).toNat ∧ wd = 1 := by
  unfold Utf8.decode at h
  simp only [Nat.add_zero, Utf8.runeError] at h
  repeat' split at h
  all_goals (simp only [Prod.mk.injEq] at h; obtain ⟨rfl, rfl⟩ := h; first | exact ⟨rfl, rfl⟩ | omega | (simp_all; omega))
end Go.Proofs.YtohpjdeohpamaaaGreatDoor
namespace Go.Proofs.YtohpjdeohpamaaaGreatDoor
open Go.RowKit
theorem drop_step {α : Type} {l : List α} {m : Nat} (h : m < l.length) : l.drop m = l[m] :: l.drop (m + 1) := List.drop_eq_getElem_cons h
attribute [local irreducible] WK WC WL Wk Rel OpD OpV WD WO Op.bytesLess cmp vk vb vld emp contains
end Go.Proofs.YtohpjdeohpamaaaGreatDoor
namespace Go.Proofs.YtohpjdeohpamaaaGreatDoor
open Go.RowKit
section
variable {α β R S : Type}
theorem cbnd_ret (r : R) (k : S → R) : cbnd (.ret r) k = r := rfl
theorem cbnd_nxt (s : S) (k : S → R) : cbnd (.nxt s) k = k s := rfl
end
section
variable {Γ : Cx} {k : Kont} {st st' : St} {x y : Code} {c : Operand} {b : Bool} {id : Nat}
end
section
variable {P : Program} {o : Oper} {H : Hp} {sl : List (Nat × V)} {x y z : Operand} {T U E t : TypeId} {zz bytes : Nat} {i j : Int} {s s' : ByteArray} {kk : IntKind} {k d k' : Nat}
end
section
variable {Γ : Cx} {P : Program} {k : Kont} {sl : List (Nat × V)} {H hp : Hp} {o : Oper} {ops : Array Oper} {i an d kt : Nat} {ts : List Nat} {r : List PI} {F : List Ft} {f : FuncId} {us uc : List V} {x : Operand} {xs : Array Operand} {ats : Array TypeId} {u u' : V} {rest : List Oper} {blk blk0 blk' blk1 : Blk}
end
section
variable {Γ : Cx} {P : Program} {k : Kont} {sl : List (Nat × V)} {H hp h h' : Hp} {o : Oper} {ops : Array Oper} {i an d kt : Nat} {ts : List Nat} {r : List PI} {F : List Ft} {f : FuncId} {us uc : List V} {x : Operand} {xs : Array Operand} {ats : Array TypeId} {u u' : V} {rest : List Oper}
end
section
variable {P : Program} {o : Oper} {H : Hp} {sl : List (Nat × V)} {x y : Operand} {T U E t : TypeId} {zz bytes n off k : Nat} {i : Int} {ag : Bool} {α : Type} {f : α → List D} {xs : List α} {a a' : α} {u : V}
end
section
variable {Γ : Cx} {k : Kont} {sl : List (Nat × V)} {hp : Hp} {o : Oper} {ops : Array Oper} {i an d : Nat} {ts : List Nat} {r : List PI} {F : List Ft} {x y : Operand} {T E t : TypeId} {zz bytes n off kk : Nat} {j : Int} {ag : Bool} {α : Type} {f : α → List D} {xs ys : List α} {a a' : α} {u : V}
end
section
variable {Γ : Cx} {P : Program} {ks : List Nat} {rs : List ResultVar} {Ψ : V → Hp → Prop} {st st' : St} {us : List V} {u : V} {h : Hp} {k : Kont} {n m : Nat}
end
section
variable {Γ : Cx} {k : Kont} {x : Code} {st st' : St} {sl : List (Nat × V)} {hp : Hp} {o : Oper} {ops : Array Oper} {d : Nat} {f : FuncId} {us uc : List V} {y : Operand} {xs : Array Operand} {ats : Array TypeId} {u : V} {rest : List Oper} {blk blk0 blk' : Blk}
end
section
variable {Γ : Cx} {k : Kont} {x y : Code} {st : St} {sl : List (Nat × V)} {hp : Hp} {o oj : Oper} {ops : Array Oper} {rest : List Oper} {c : Operand} {α : Type} {b : Bool} {m n z : α} {j t : Nat} {e : Bool}
end
end Go.Proofs.YtohpjdeohpamaaaGreatDoor
namespace Go.Proofs.YtohpjdeohpamaaaGreatDoor
open Go.ChangeShapes Go.WideShapes Go.ChangeAt Go.RowKit Go.Joins
set_option maxRecDepth 100000
def allL {α : Type} (I : α → Prop) (l : List α) : Prop := l.length ≤ 9223372036854775807 ∧ ∀ a ∈ l, I a
section
variable {P : Program} {T E : TypeId} {W : World}
theorem opn_int {k : IntKind} (h : P.underlying T = some (.int k)) : Opn P T (dsK k) (inK k) := ⟨fun hx => by
  obtain ⟨n, rfl, -, hw⟩ := DataW.trod_int h hx
  simp only [Lit.wf, Bool.and_eq_true, decide_eq_true_eq] at hw
  exact ⟨n, hw, .cons (.c rfl) .nil⟩⟩
theorem opn_slice {α : Type} {f : α → List D} {I : α → Prop} {z : Nat} (h : P.underlying T = some (.slice E)) (hc : P.cellsOf E = z) (hz : 0 < z) [hE : Opn P E f I] [hL : Len f z] : Opn P T (dsL f) (allL I) := ⟨fun {H enc W fuel cs x} hxx => by
  rcases Go.Deep.open_slice h hxx with ⟨rfl, -⟩ | ⟨a, len, cap, m, k, D', Pl, rfl, -, hl, hml, hm, -, hx⟩
  · exact ⟨[], ⟨by simp, by simp⟩, .cons (.nil _ _) .nil⟩
  · obtain rfl : m = cap := by simpa using hm
    rw [hc] at hx
    by_cases hm0 : m = 0
    · obtain rfl : len = 0 := by omega
      exact ⟨[], ⟨by simp, by simp⟩, .cons (.nil _ _) .nil⟩
    have each : ∀ i : Nat, ∃ p : α × List Value, i < m → I p.1 ∧ RDs W (fun b => b < W.heap.size) (f p.1) p.2 ∧ p.2.length = z ∧ ∀ j u, p.2[j]? = some u → W.cell? (a.add (i * z + j)) = some u := by
      intro i
      by_cases hi : i < m
      · obtain ⟨cs, h1, h2⟩ := hx i hi
        obtain ⟨b, g1, g2⟩ := hE.out h2
        obtain ⟨-, hlen, hcell⟩ := World.cells?_some h1
        refine ⟨(b, cs), fun _ => ⟨g1, g2, by rw [g2.length, hL.len], fun j u hj => ?_⟩⟩
        have hjz : j < z := by
          have := (List.getElem?_eq_some_iff.1 hj).1
          simp only at this
          rw [g2.length, hL.len] at this; exact this
        rw [← Go.Deep.add_add, hcell j hjz, hj]
      · obtain ⟨cs, h1, h2⟩ := hx 0 (by omega)
        obtain ⟨b, -, -⟩ := hE.out h2
        exact ⟨(b, []), fun h => absurd h hi⟩
    let p : Nat → α × List Value := fun i => Classical.choose (each i)
    have hp : ∀ i, i < m → I (p i).1 ∧ RDs W (fun b => b < W.heap.size) (f (p i).1) (p i).2 ∧ (p i).2.length = z ∧ ∀ j u, (p i).2[j]? = some u → W.cell? (a.add (i * z + j)) = some u := fun i => Classical.choose_spec (each i)
    refine ⟨(List.range len).map fun i => (p i).1, ⟨by simp; unfold maxLen at hml; omega, fun b hb => ?_⟩, ?_⟩
    · obtain ⟨i, hi, rfl⟩ := List.mem_map.1 hb
      exact (hp i (by have := List.mem_range.1 hi; omega)).1
    · by_cases h0 : len = 0
      · subst h0; exact .cons (.nil _ _) .nil
      obtain ⟨b, off, spot⟩ := a
      have hv0 : ∃ u, (p 0).2[0]? = some u := ⟨_, List.getElem?_eq_getElem (by rw [(hp 0 (by omega)).2.2.1]; exact hz)⟩
      obtain ⟨u0, hu0⟩ := hv0
      have hc0 := (hp 0 (by omega)).2.2.2 0 u0 hu0
      have hspot : spot = none := by simpa [Addr.add] using World.cell?_spot hc0
      subst hspot
      have hb : b < W.heap.size := World.block_lt_of_cell? W ⟨b, off + (0 * z + 0), none⟩ (by rw [← Go.WideShapes.add_plain]; exact hc0)
      have hlen : ((List.range len).map fun i => (p i).1).length = len := by simp
      refine .cons ?_ .nil
      rw [show lst f ((List.range len).map fun i => (p i).1) = .l len (((List.range len).map fun i => (p i).1).flatMap f) by unfold lst; rw [hlen]]
      refine RD.l hl (by omega) hb (rds_flat (vs := (List.range len).map fun i => (p i).2) (by simp) fun i x v hx hv => ?_) fun j v hj => ?_
      · rw [List.getElem?_map] at hx hv
        cases hr : (List.range len)[i]? with
        | none => rw [hr] at hx; cases hx
        | some q =>
          rw [hr] at hx hv
          obtain rfl := Option.some.inj hx
          obtain rfl := Option.some.inj hv
          have := List.mem_range.1 (List.mem_of_getElem? hr)
          exact (hp q (by omega)).2.1
      · obtain ⟨u, h1, h2⟩ := flatten_get (z := z) (fun u hu => by
          obtain ⟨i, hi, rfl⟩ := List.mem_map.1 hu
          exact (hp i (by have := List.mem_range.1 hi; omega)).2.2.1) hj
        rw [List.getElem?_map] at h1
        cases hr : (List.range len)[j / z]? with
        | none => rw [hr] at h1; cases h1
        | some q =>
          rw [hr] at h1
          obtain rfl := Option.some.inj h1
          obtain ⟨hq1, hq2⟩ := List.getElem?_eq_some_iff.1 hr
          rw [List.getElem_range] at hq2
          rw [List.length_range] at hq1
          subst hq2
          have := (hp _ (show j / z < m by omega)).2.2.2 _ v h2
          rw [Go.WideShapes.add_plain] at this
          rwa [Nat.mul_comm, Nat.div_add_mod] at this⟩
variable {H : Type} {enc : TypeId × Value → H}
theorem arg_one {α : Type} {f : α → List D} {I : α → Prop} [hO : Opn P T f I] {v : Value} {d : DataW H} {ps : List MemPlace} (hc : v.cells.toList = [v]) (h : DataW.Trod enc P W 0 (fun _ => true) true T v d ps) : ∃ a : α, I a ∧ RDs W (fun b => b < W.heap.size) (f a) [v] := by
  obtain ⟨fuel, h⟩ := h
  rw [hc] at h
  exact hO.out h
end
end Go.Proofs.YtohpjdeohpamaaaGreatDoor
namespace Go.Proofs.YtohpjdeohpamaaaGreatDoor
open Go.RowKit
set_option maxRecDepth 100000
set_option maxHeartbeats 4000000
attribute [local irreducible] WK WC WL Wk Rel OpD OpV WD WO sel bnd obnd app lget lsl sget ssl scat letg iquo irem Op.bytesLess
def Mref20_Slice_l1 (r2 : Rng) : List Kv → List Kv → Option (List Kv)
  | [], out3 =>
  some out3
  | r4 :: xs5, out3 =>
  bnd (Mref1_Contains r2 r4.key) fun y7 =>
  sel y7 (
   obnd (app out3 ([r4] : List Kv)) fun l8 =>
   Mref20_Slice_l1 r2 xs5 l8) (
   Mref20_Slice_l1 r2 xs5 out3)
def Mref20_Slice (t1 : List Kv) (r2 : Rng) : Option (List Kv) :=
 obnd (
  Mref20_Slice_l1 r2 t1 [] : Option (List Kv)) fun out9 =>
 some out9
end Go.Proofs.YtohpjdeohpamaaaGreatDoor
namespace Go.Proofs.YtohpjdeohpamaaaGreatDoor
open Go.RowKit
theorem mrg_len : ∀ (l : List Rng) (c : Rng), (mrg c l).length ≤ l.length + 1
  | [], c => by simp [mrg]
  | r :: l, c => by
    unfold mrg
    split
    · have := mrg_len l ⟨c.lo, greater c.hi r.hi⟩
      simp; omega
    · have := mrg_len l r
      simp; omega
theorem union_len (l : List Rng) : (union l).length ≤ l.length := by
  unfold union
  have h1 : ((l.filter ne).mergeSort leLo).length ≤ l.length := by rw [List.length_mergeSort]; exact List.length_filter_le _ _
  cases h : (l.filter ne).mergeSort leLo with
  | nil => simp [mrgAll]
  | cons r l' =>
    rw [h] at h1
    have := mrg_len l' r
    simp only [mrgAll, List.length_cons] at h1 ⊢
    omega
def qslices (t : List Kv) (rs : List Rng) : List Kv := rs.flatMap fun r => t.filter fun x => contains r x.key
theorem qranges_le (k : Int) (l : List Rng) (key : ByteArray) (c : Int) : (qranges k l key c).length ≤ 64 := by
  unfold qranges
  split
  · rename_i h
    have hq := qchk_0 h
    refine Nat.le_trans (union_len _) ?_
    unfold qrs
    split
    · exact hq.2.2
    split
    · simp
    split <;> simp
  · simp
end Go.Proofs.YtohpjdeohpamaaaGreatDoor
namespace Go.Proofs.YtohpjdeohpamaaaGreatDoor
open Go.RowKit
set_option maxRecDepth 100000
set_option maxHeartbeats 4000000
attribute [local irreducible] WK WC WL Wk Rel OpD OpV WD WO sel bnd obnd app lget lsl sget ssl scat letg iquo irem Op.bytesLess
attribute [local irreducible] qchk qranges union
def Mref22_Answer_l1 (t1 : List Kv) : List Rng → List Kv → Option (List Kv)
  | [], rows6 =>
  some rows6
  | r7 :: xs8, rows6 =>
  obnd (Mref20_Slice t1 r7) fun y10 =>
  obnd (app rows6 y10) fun l11 =>
  Mref22_Answer_l1 t1 xs8 l11
def Mref22_Answer (t1 : List Kv) (q2 : TQuery) : Option (TAnswer × Int) :=
 bnd (Mref22_Check q2) fun y3 =>
 sel (!decide (y3 = 0)) (
  some ((TAnswer.mk [] (TFold.mk 0 0 0 0 0 ⟨#[]⟩ ⟨#[]⟩)), y3)) (
  obnd (Mref20_Valid t1) fun y4 =>
  sel (!y4) (
   some ((TAnswer.mk [] (TFold.mk 0 0 0 0 0 ⟨#[]⟩ ⟨#[]⟩)), 1)) (
   obnd (Mref22_Ranges q2) fun y5 =>
   obnd (
    Mref22_Answer_l1 t1 y5 [] : Option (List Kv)) fun rows12 =>
   obnd (Mref22_Take q2 rows12) fun y13 =>
   obnd (Mref21_Of y13) fun y14 =>
   some ((TAnswer.mk y13 y14), 0)))
end Go.Proofs.YtohpjdeohpamaaaGreatDoor
namespace Go.Proofs.YtohpjdeohpamaaaGreatDoor
open Go.RowKit
theorem i64w_rng (a : Int) : -9223372036854775808 ≤ i64w a ∧ i64w a ≤ 9223372036854775807 := by
  constructor
  · simp [i64w, IntKind.wrap, IntKind.bits, IntKind.signed]; split <;> omega
  · simp [i64w, IntKind.wrap, IntKind.bits, IntKind.signed]; split <;> omega
theorem i64w_i64w (a : Int) : i64w (i64w a) = i64w a := i64w_id (i64w_rng a).1 (i64w_rng a).2
theorem eq_keyspace_ValidBound (b : Bnd) : Mkeyspace_ValidBound b = vb b := by
  simp only [Mkeyspace_ValidBound, bnd_eq, eq_keyspace_ValidKey, vb, sel_and, sel_or]
  congr 2
  rcases b with ⟨⟨⟨l⟩⟩, t⟩
  cases l <;> simp [ByteArray.toList_eq]
theorem eq_keyspace_Valid (r : Rng) : Mkeyspace_Valid r = vld r := by
  simp only [Mkeyspace_Valid, bnd_eq, eq_keyspace_ValidBound, eq_keyspace_Compare, sel_and, vld, Bool.and_assoc]
theorem eq_keyspace_Empty (r : Rng) : Mkeyspace_Empty r = emp r := by
  simp only [Mkeyspace_Empty, bnd_eq, eq_keyspace_Valid, eq_keyspace_Compare, sel_or, emp]
  congr 1
theorem eq_keyspace_Contains (r : Rng) (k : ByteArray) : Mkeyspace_Contains r k = contains r k := by
  simp only [Mkeyspace_Contains, bnd_eq, eq_keyspace_Empty, eq_keyspace_ValidKey, eq_keyspace_Compare, sel_and, contains, Bool.and_assoc]
theorem eq_table_Slice_l1 (r : Rng) : ∀ (t out : List Kv), t.length + out.length ≤ 4294967296 → Mtable_Slice_l1 r t out = some (out ++ t.filter fun x => contains r x.key)
  | [], out, _ => by simp [Mtable_Slice_l1]
  | x :: t, out, h => by
    simp only [List.length_cons] at h
    rw [Mtable_Slice_l1.eq_2, bnd_eq, sel_ite]
    have hk : (@contains r x.key) = true ∨ contains r x.key = false := by cases contains r x.key <;> simp
    first
      | rw [eq_ref1_Contains]
      | rw [eq_keyspace_Contains]
    rcases hk with hk | hk
    · rw [if_pos hk, app_le (by simp; omega), obnd_some, eq_table_Slice_l1 r t _ (by simp; omega), List.filter_cons, if_pos hk, List.append_assoc]; rfl
    · rw [if_neg (by simp [hk]), eq_table_Slice_l1 r t _ (by omega), List.filter_cons, if_neg (by simp [hk])]
theorem eq_table_Slice (r : Rng) (t : List Kv) (h : t.length ≤ 4294967296) : Mtable_Slice t r = some (t.filter fun x => contains r x.key) := by
  rw [Mtable_Slice, eq_table_Slice_l1 r t [] (by simpa using h), obnd_some]; rfl
theorem eq_ref20_Slice_l1 (r : Rng) : ∀ (t out : List Kv), t.length + out.length ≤ 4294967296 → Mref20_Slice_l1 r t out = some (out ++ t.filter fun x => contains r x.key)
  | [], out, _ => by simp [Mref20_Slice_l1]
  | x :: t, out, h => by
    simp only [List.length_cons] at h
    rw [Mref20_Slice_l1.eq_2, bnd_eq, sel_ite]
    have hk : (@contains r x.key) = true ∨ contains r x.key = false := by cases contains r x.key <;> simp
    first
      | rw [eq_ref1_Contains]
      | rw [eq_keyspace_Contains]
    rcases hk with hk | hk
    · rw [if_pos hk, app_le (by simp; omega), obnd_some, eq_ref20_Slice_l1 r t _ (by simp; omega), List.filter_cons, if_pos hk, List.append_assoc]; rfl
    · rw [if_neg (by simp [hk]), eq_ref20_Slice_l1 r t _ (by omega), List.filter_cons, if_neg (by simp [hk])]
theorem eq_ref20_Slice (r : Rng) (t : List Kv) (h : t.length ≤ 4294967296) : Mref20_Slice t r = some (t.filter fun x => contains r x.key) := by
  rw [Mref20_Slice, eq_ref20_Slice_l1 r t [] (by simpa using h), obnd_some]; rfl
end Go.Proofs.YtohpjdeohpamaaaGreatDoor
namespace Go.Proofs.YtohpjdeohpamaaaGreatDoor
open Go.RowKit
theorem eq_ref22_Check_l1 : ∀ l : List Rng, Mref22_Check_l1 l = sel (l.all vld) (.nxt ()) (.ret 1)
  | [] => rfl
  | r :: l => by
    rw [Mref22_Check_l1.eq_2, bnd_eq, eq_ref1_Valid, eq_ref22_Check_l1 l, List.all_cons]
    cases vld r <;> rfl
theorem eq_ref22_Check (q : TQuery) : Mref22_Check q = qchk q.Kind q.Ranges q.Key q.Count := by
  obtain ⟨k, l, key, c⟩ := q
  unfold Mref22_Check qchk
  simp only [bnd_eq, eq_ref22_Check_l1, eq_ref1_ValidKey, sel_ite, decide_eq_true_eq, Bool.not_eq_true', decide_eq_false_iff_not]
  by_cases a1 : k < 1 ∨ 4 < k
  · rcases a1 with a1 | a1
    · simp [a1]
    · have : ¬ k < 1 := by omega
      simp [a1, this]
  have b1 : ¬ k < 1 := by omega
  have b2 : ¬ 4 < k := by omega
  by_cases a2 : 64 < l.length
  · have : 64 < (l.length : Int) := by omega
    simp [b1, b2, a2, this]
  have b3 : ¬ 64 < (l.length : Int) := by omega
  cases hv : l.all vld with
  | false => simp [b1, b2, a2, b3, hv, cbnd_ret]
  | true =>
    simp only [b1, b2, a2, b3, hv, if_true, if_false, cbnd_nxt, Bool.false_eq_true, or_self, decide_false]
    have hl : (0 < (l.length : Int)) ↔ 0 < l.length := by omega
    by_cases h1 : vk key = false
    · simp [h1]
    · have h1' : vk key = true := by simpa using h1
      by_cases h2 : 0 < l.length <;> by_cases h3 : k = 1 <;> by_cases h4 : key = ⟨#[]⟩ <;> by_cases h5 : k = 3 <;> by_cases h6 : k = 4 <;> first
        | (exfalso; omega)
        | (simp [h1', h2, h3, h4, h5, h6] <;> (repeat' split) <;> first | rfl | omega | (simp_all; done) | (simp_all; omega))
theorem eq_query_Check (q : TQuery) (h : q.Ranges.length < 1000000) : Mquery_Check q = some (qchk q.Kind q.Ranges q.Key q.Count) := if_pos h
theorem eq_ranges (q : TQuery) (h : q.Ranges.length < 1000000) : Mquery_Ranges q = some (qranges q.Kind q.Ranges q.Key q.Count) ∧ Mref22_Ranges q = some (qranges q.Kind q.Ranges q.Key q.Count) := ⟨if_pos h, if_pos h⟩
end Go.Proofs.YtohpjdeohpamaaaGreatDoor
namespace Go.Proofs.YtohpjdeohpamaaaGreatDoor
open Go.RowKit
theorem range_eqb (a b : Rng) : (decide (a.lo.key = b.lo.key) && decide (a.lo.top = b.lo.top) && decide (a.hi.key = b.hi.key) && decide (a.hi.top = b.hi.top)) = decide (a = b) := by
  rcases a with ⟨⟨a1, a2⟩, ⟨a3, a4⟩⟩
  rcases b with ⟨⟨b1, b2⟩, ⟨b3, b4⟩⟩
  simp [Bool.and_assoc]
end Go.Proofs.YtohpjdeohpamaaaGreatDoor
namespace Go.Proofs.YtohpjdeohpamaaaGreatDoor
open Go.RowKit
section
variable {P : Program} {o : Oper} {H : Hp} {sl : List (Nat × V)} {x y z : Operand} {f : FuncId} {T U t K E : TypeId} {k d n m bytes : Nat} {u u' : V} {qs : List (List D)} {us uc cs ws : List V} {ats : Array TypeId} {xs : Array Operand}
end
section
variable {α : Type}
theorem ment_len {z : α} {i : Int} (es : List (Int × α)) : midx i es < (ment z i es).length := by
  cases h : mhas i es with
  | true => rw [ment_yes h]; exact midx_lt h
  | false => obtain ⟨-, h2, h3⟩ := mlk_no (z := z) h; rw [h2, h3]; simp
theorem mput_o {z v : α} {i : Int} (es : List (Int × α)) : mput (ment z i es) (midx i es : Int) v = some (mset i v es) := by
  have := ment_len (z := z) (i := i) es
  unfold mput
  rw [if_pos (by omega), Int.toNat_natCast, mput_ment]
end
section
variable {P : Program} {o : Oper} {H : Hp} {sl : List (Nat × V)} {x y z s v : Operand} {t K E : TypeId} {k d : Nat} {u uv : V} {α : Type} {f : α → List D} {ag : Bool} {es es' : List (Int × α)} {zz w0 : α} {zv : Value} {i : Int}
end
section
variable {P : Program} {o : Oper} {H : Hp} {sl : List (Nat × V)} {x y z s v : Operand} {t T U K E : TypeId} {k d : Nat} {u uv : V} {α : Type} {f : α → List D} {ag : Bool} {es es' : List (Int × α)} {zz w0 : α} {zv : Value} {i : Int}
end
section
variable {P : Program} {o : Oper} {H : Hp} {sl : List (Nat × V)} {x y : Operand} {t T U E : TypeId} {k d zs bytes : Nat} {α : Type} {f : α → List D} {xs l1 l2 r : List α}
end
section
variable {Γ : Cx} {P : Program} {k : Kont} {sl : List (Nat × V)} {hp H0 h h' : Hp} {o : Oper} {ops : Array Oper} {i an d : Nat} {ts : List Nat} {r : List PI} {F : List Ft} {f : FuncId} {us uc : List V} {y : Operand} {xs : Array Operand} {ats : Array TypeId} {u u' : V} {qs : List (List D)} {rest : List Oper} {rs : List ResultVar} {st : St} {ks : List Nat} {Ψ : V → Hp → Prop}
end
end Go.Proofs.YtohpjdeohpamaaaGreatDoor
namespace Go.Proofs.YtohpjdeohpamaaaGreatDoor
open Go.RowKit
theorem eq_table_ValidWrite (w : TWrite) : Mtable_ValidWrite w = vwr w := by
  unfold Mtable_ValidWrite
  simp only [bnd_eq, eq_keyspace_ValidKey, vwr]
  have : decide ((w.Value.size : Int) ≤ 64) = decide (w.Value.size ≤ 64) := by congr 1; simp; omega
  rw [this]
  cases vk w.Key <;> cases decide (w.Value.size ≤ 64) <;> cases w.Delete <;> rfl
theorem half {i j : Int} (h0 : 0 ≤ i) (h1 : i ≤ j) (h2 : j ≤ 2147483648) : i64w (shrI .u64 (IntKind.u64.wrap (i64w (i + j))) 1) = (i + j) / 2 := by
  rw [show i64w (i + j) = i + j from i64w_id (by omega) (by omega)]
  have e : IntKind.u64.wrap (i + j) = i + j := by
    have : IntKind.u64.wrap (i + j) = (i + j) % 18446744073709551616 := rfl
    rw [this]; omega
  rw [e]
  have e2 : shrI .u64 (i + j) 1 = (i + j) / 2 := by
    have : shrI .u64 (i + j) 1 = (i + j).fdiv 2 := rfl
    rw [this, Int.fdiv_eq_ediv_of_nonneg _ (by omega)]
  rw [e2, i64w_id (by omega) (by omega)]
theorem search_l1 (g : Int → Option Bool) (n a : Int) (hn : n ≤ 1073741824) (hg : ∀ i, 0 ≤ i → i < n → g i = some (decide (a ≤ i))) : ∀ (fuel : Nat) (i j : Int), 0 ≤ i → i ≤ a → a ≤ j → j ≤ n → (j - i).toNat < fuel → Msort_Search_l1 g fuel i j = some a
  | 0, _, _, _, _, _, _, h => by omega
  | fuel + 1, i, j, h0, h1, h2, h3, hf => by
    rw [Msort_Search_l1]
    by_cases hij : i < j
    · rw [decide_eq_true hij, sel_true, obnd_some]
      show obnd (g (i64w (shrI .u64 (IntKind.u64.wrap (i64w (i + j))) 1))) _ = _
      rw [half h0 (by omega) (by omega), hg _ (by omega) (by omega), obnd_some]
      by_cases hc : a ≤ (i + j) / 2
      · rw [decide_eq_true hc]
        exact search_l1 g n a hn hg fuel _ _ (by omega) (by omega) (by omega) (by omega) (by omega)
      · rw [decide_eq_false hc]
        show Msort_Search_l1 g fuel (i64w ((i + j) / 2 + 1)) j = some a
        rw [i64w_id (by omega) (by omega)]
        exact search_l1 g n a hn hg fuel _ _ (by omega) (by omega) (by omega) (by omega) (by omega)
    · rw [decide_eq_false hij, sel_false, obnd_some]
      have : i = a := by omega
      subst this; rfl
theorem eq_search (g : Int → Option Bool) (n a : Int) (h0 : 0 ≤ a) (h1 : a ≤ n) (hn : n ≤ 100000) (hg : ∀ i, 0 ≤ i → i < n → g i = some (decide (a ≤ i))) : Msort_Search n g = some a := by
  unfold Msort_Search
  rw [search_l1 g n a (by omega) hg FU 0 n (by omega) h0 h1 (Int.le_refl _) (by simp only [FU]; omega), obnd_some]
theorem cmp_keys (a b : ByteArray) : decide (0 ≤ cmp ⟨a, false⟩ ⟨b, false⟩) = !bl a b := by
  unfold cmp
  simp only [Bnd.lt]
  cases h1 : bl a b
  · cases h2 : bl b a <;> simp [h1, h2]
  · have : bl b a = false := by
      cases h2 : bl b a with
      | false => rfl
      | true => have : bl a a = true := bytesLess_trans h1 h2; rw [bl_irr] at this; cases this
    simp [h1, this]
theorem eq_tplace (k : ByteArray) (A B : List Kv) (hA : ∀ r ∈ A, bl r.key k = true) (hB : ∀ r ∈ B, bl r.key k = false) (hl : (A ++ B).length ≤ 100000) : Mtable_place (A ++ B) ⟨k, false⟩ = some (A.length : Int) := by
  unfold Mtable_place
  rw [eq_search _ _ (A.length : Int) (by omega) (by rw [List.length_append]; omega) (by omega) fun i h0 h1 => ?_, obnd_some]
  unfold Mtable_place_1
  obtain ⟨m, rfl⟩ : ∃ m : Nat, i = m := ⟨i.toNat, by omega⟩
  have hm : m < (A ++ B).length := by omega
  rw [lget_nat, List.getElem?_eq_getElem hm, obnd_some, bnd_eq, eq_keyspace_Compare, cmp_keys]
  congr 1
  by_cases c : m < A.length
  · rw [List.getElem_append_left c, hA _ (List.getElem_mem _), decide_eq_false (by omega)]; rfl
  · rw [List.getElem_append_right (by omega), hB _ (List.getElem_mem _), decide_eq_true (by omega)]; rfl
section
variable {k : ByteArray} {t A C : List Kv} {b : Option Kv}
end
theorem lget_mid (A C : List Kv) (r : Kv) : lget (A ++ r :: C) (A.length : Int) = some r := by
  rw [lget_nat, List.getElem?_append_right (Nat.le_refl _)]; simp
theorem set_mid (A C : List Kv) (r x : Kv) : (A ++ r :: C).set A.length x = A ++ x :: C := by
  rw [List.set_append_right _ _ (Nat.le_refl _)]; simp
theorem cpy_mid (A B : List Kv) (e : Kv) : ∃ x, cpy (A ++ (B ++ [e])) (A.length + 1) A.length B.length = A ++ x :: B := by
  obtain ⟨x, D, hx⟩ : ∃ x D, B ++ [e] = x :: D := by
    cases B with
    | nil => exact ⟨e, [], rfl⟩
    | cons b B => exact ⟨b, B ++ [e], rfl⟩
  refine ⟨x, ?_⟩
  have hl : D.length = B.length := by have := congrArg List.length hx; simpa using this.symm
  unfold cpy
  have h1 : (A ++ (B ++ [e])).take (A.length + 1) = A ++ [x] := by
    rw [hx, List.take_append, List.take_of_length_le (by omega)]; simp
  have h2 : ((A ++ (B ++ [e])).drop A.length).take B.length = B := by
    rw [List.drop_append]; simp
  have h3 : (A ++ (B ++ [e])).drop (A.length + 1 + B.length) = [] := List.drop_eq_nil_of_le (by simp; omega)
  rw [h1, h2, h3]; simp
theorem table_Apply_l1 : ∀ (l : List TWrite) (t : List Kv), tvalid t = true → Mtable_Apply_l1 l t = some (actl l t)
  | [], t, _ => rfl
  | w :: ws, t, ht => by
    have ih := fun h0 => table_Apply_l1 ws (aplW t w).1 (aplW_valid ht h0)
    obtain ⟨A, b, C, hp⟩ := parts w.Key ((tvalid_iff t).1 ht).2.2
    have hlen := hp.len
    have hmax := ((tvalid_iff t).1 ht).1
    rw [Mtable_Apply_l1, bnd_eq, eq_table_ValidWrite]
    by_cases hw : vwr w = true
    case neg =>
      have hw' : vwr w = false := by simpa using hw
      simp only [hw', Bool.not_false, sel_true, actl, aplW]
      simp
    have hpl : Mtable_place t (Bnd.mk w.Key false) = some (A.length : Int) := by
      rw [hp.eq]
      refine eq_tplace _ _ _ hp.lo (fun r hr => ?_) (by rw [← hp.eq]; omega)
      rcases List.mem_append.1 hr with hr | hr
      · have : b = some r := by simpa using hr
        rw [hp.mid r this]; exact bytesLess_irrefl _
      · exact bl_asymm (hp.hi r hr)
    simp only [hw, Bool.not_true, sel_false]
    rw [hpl, obnd_some]
    have hst : aplW t w = if w.Delete = true then (A ++ C, 0) else if 1024 < (A ++ ⟨w.Key, w.Value⟩ :: C).length then ([], 16) else (A ++ ⟨w.Key, w.Value⟩ :: C, 0) := by
      simp only [aplW, hw, if_true, hp.without, put, ht, vwr_row hw, Bool.and_self, hp.wth]
    rw [actl]
    cases b with
    | some r =>
      have hk := hp.mid r rfl
      have he : t = A ++ r :: C := hp.eq
      simp only [Option.toList_some, List.length_cons, List.length_nil] at hlen
      rw [decide_eq_true (show (A.length : Int) < (t.length : Int) by omega), sel_true, he, lget_mid, obnd_some, decide_eq_true hk, obnd_some, ← he]
      by_cases hd : w.Delete = true
      · rw [hd] at hst ⊢
        rw [if_pos rfl] at hst
        rw [hst] at ih ⊢
        simp only [sel_true, obnd_some, if_true]
        rw [lsl_le (show 0 ≤ (0 : Int) ∧ (0 : Int) ≤ A.length ∧ (A.length : Int) ≤ t.length by omega), obnd_some, i64w_id (by omega) (by omega), lsl_le (show 0 ≤ (A.length : Int) + 1 ∧ (A.length : Int) + 1 ≤ t.length ∧ (t.length : Int) ≤ t.length by omega), obnd_some]
        have e1 : (t.drop (0 : Int).toNat).take ((A.length : Int).toNat - (0 : Int).toNat) = A := by rw [he]; simp
        have e2 : (t.drop ((A.length : Int) + 1).toNat).take ((t.length : Int).toNat - ((A.length : Int) + 1).toNat) = C := by
          have h1 : ((A.length : Int) + 1).toNat = A.length + 1 := by omega
          have h2 : (t.length : Int).toNat - (A.length + 1) = C.length := by omega
          rw [h1, h2, he, List.drop_append, List.drop_eq_nil_of_le (by omega)]; simp
        rw [e1, e2]
        have e3 : apd t A C = some (A ++ C) := by unfold apd; rw [if_pos (by omega)]
        rw [e3, obnd_some]
        exact ih rfl
      · have hd' : w.Delete = false := by simpa using hd
        rw [hd'] at hst ⊢
        rw [if_neg (by simp), if_neg (by simp; omega)] at hst
        rw [hst] at ih ⊢
        simp only [sel_false, sel_true, obnd_some, bnd_eq, if_true]
        rw [he, Int.toNat_natCast, set_mid, hk]
        exact ih rfl
    | none =>
      have he : t = A ++ C := by have := hp.eq; simpa using this
      simp only [Option.toList_none, List.length_nil, Nat.zero_add] at hlen
      have hf : (sel (decide ((A.length : Int) < (t.length : Int))) (obnd (lget t (A.length : Int)) fun e11 => some (decide (e11.key = w.Key))) (some false) : Option Bool) = some false := by
        cases C with
        | nil => rw [decide_eq_false (by simp at hlen; omega)]; rfl
        | cons c C =>
          rw [decide_eq_true (by simp at hlen; omega), he, lget_mid, sel_true, obnd_some, decide_eq_false (bl_ne (hp.hi c List.mem_cons_self)).symm]
      rw [hf, obnd_some]
      by_cases hd : w.Delete = true
      · rw [hd] at hst ⊢
        rw [if_pos rfl, ← he] at hst
        rw [hst] at ih ⊢
        simp only [sel_true, obnd_some, sel_false, if_true]
        exact ih rfl
      · have hd' : w.Delete = false := by simpa using hd
        rw [hd'] at hst ⊢
        rw [if_neg (by simp)] at hst
        simp only [sel_false, obnd_some]
        by_cases hfull : t.length = 1024
        · rw [decide_eq_true (by omega), sel_true]
          rw [if_pos (by simp; omega)] at hst
          rw [hst]
          simp
        · rw [decide_eq_false (by omega), sel_false]
          rw [if_neg (by simp; omega)] at hst
          rw [hst] at ih ⊢
          simp only [if_true]
          rw [app_le (by simp; omega), obnd_some]
          generalize hE : (⟨⟨#[]⟩, ⟨#[]⟩⟩ : Kv) = E
          have hL : (t ++ [E]).length = t.length + 1 := by simp
          rw [i64w_id (by omega) (by omega), lsl_le (by rw [hL]; omega), obnd_some, lsl_le (by rw [hL]; omega), obnd_some, bnd_eq]
          have e1 : (((t ++ [E]).drop ((A.length : Int) + 1).toNat).take (((t ++ [E]).length : Int).toNat - ((A.length : Int) + 1).toNat)).length = C.length := by
            rw [List.length_take, List.length_drop, hL]; omega
          have e2 : (((t ++ [E]).drop (A.length : Int).toNat).take (((t ++ [E]).length : Int).toNat - (A.length : Int).toNat)).length = C.length + 1 := by
            rw [List.length_take, List.length_drop, hL]; omega
          rw [e1, e2, show min (C.length + 1) C.length = C.length by omega, show ((A.length : Int) + 1).toNat = A.length + 1 by omega, Int.toNat_natCast]
          obtain ⟨x, hx⟩ := cpy_mid A C E
          rw [he, List.append_assoc, hx, lget_mid, obnd_some, bnd_eq, bnd_eq, set_mid]
          exact ih rfl
theorem eq_table_Apply (t : List Kv) (l : List TWrite) : Mtable_Apply t l = some (applyW t l) := by
  unfold Mtable_Apply applyW
  rw [eq_table_Valid, obnd_some]
  cases ht : tvalid t with
  | false => rfl
  | true =>
    have hl := ((tvalid_iff t).1 ht).1
    simp only [Bool.not_true, sel_false, if_true]
    rw [app_le (by simp; omega), obnd_some, List.nil_append, table_Apply_l1 l t ht, obnd_some]
    cases actl l t <;> rfl
end Go.Proofs.YtohpjdeohpamaaaGreatDoor
namespace Go.Proofs.YtohpjdeohpamaaaGreatDoor
open Go.RowKit
open Classical in
theorem numD_f {mn : Bool} {d : ByteArray} (h : badN mn d) : numD mn d = (0, false) := if_pos h
theorem numD_t {mn : Bool} {d : ByteArray} (h : ¬ badN mn d) : numD mn d = (if mn then - (dval d d.size : Int) else dval d d.size, true) := if_neg h
theorem dval_lt {d : ByteArray} : ∀ {k : Nat}, (∀ j, j < k → isD d j) → dval d k < 10 ^ k
  | 0, _ => by simp [dval]
  | k + 1, h => by
    have h1 := dval_lt (k := k) fun j hj => h j (by omega)
    have h2 := h k (by omega)
    unfold isD at h2
    rw [dval, Nat.pow_succ]; omega
theorem dval_mono {d : ByteArray} {k m : Nat} (h : k ≤ m) : dval d k ≤ dval d m := by
  induction m with
  | zero => rw [Nat.le_zero.1 h]; exact Nat.le_refl _
  | succ m ih =>
    rcases Nat.lt_or_ge k (m + 1) with h1 | h1
    · have := ih (by omega); rw [dval]; omega
    · rw [show k = m + 1 by omega]; exact Nat.le_refl _
theorem dval_big {d : ByteArray} (h0 : 49 ≤ (d.get! 0).toNat) : ∀ {k : Nat}, 10 ^ k ≤ dval d (k + 1)
  | 0 => by simp [dval]; omega
  | k + 1 => by
    have := dval_big h0 (k := k)
    rw [dval, Nat.pow_succ]; omega
theorem dval_13 {d : ByteArray} {k : Nat} (h : ∀ j, j < k → isD d j) (hk : k ≤ 13) : dval d k < 10000000000000 := by
  have h1 := dval_lt h
  have h2 : 10 ^ k ≤ 10 ^ 13 := Nat.pow_le_pow_right (by decide) hk
  omega
theorem badN_1 {mn : Bool} {d : ByteArray} (h : d.size = 0) : badN mn d := .inl h
theorem badN_2 {mn : Bool} {d : ByteArray} (h : 13 < d.size) : badN mn d := .inr (.inl h)
theorem badN_4 {mn : Bool} {d : ByteArray} (k : Nat) (h : k < d.size) (h1 : ¬ isD d k) : badN mn d := .inr (.inr (.inr (.inl fun h2 => h1 (h2 k h))))
theorem badN_5 {mn : Bool} {d : ByteArray} (h : 1000000000000 < dval d d.size) : badN mn d := .inr (.inr (.inr (.inr h)))
theorem get_lt (d : ByteArray) (m : Nat) : (d.get! m).toNat < 256 := (d.get! m).toNat_lt
attribute [local irreducible] WK WC WL Wk Rel OpD OpV WD WO Op.bytesLess cmp vk vb vld emp contains
attribute [local irreducible] numD num
theorem good_num {mn : Bool} {d : ByteArray} (h1 : d.size ≠ 0) (h2 : d.size ≤ 13) (h3 : (d.get! 0).toNat = 48 → d.size ≤ 1 ∧ mn = false) (h4 : ∀ j, j < d.size → isD d j) (h5 : dval d d.size ≤ 1000000000000) : ¬ badN mn d := by
  rintro (h | h | ⟨h, h'⟩ | h | h)
  · exact h1 h
  · omega
  · obtain ⟨g1, g2⟩ := h3 h
    rcases h' with h' | h'
    · omega
    · rw [g2] at h'; cases h'
  · exact h h4
  · omega
end Go.Proofs.YtohpjdeohpamaaaGreatDoor
namespace Go.Proofs.YtohpjdeohpamaaaGreatDoor
open Go.RowKit
theorem sget_lt {s : ByteArray} {m : Nat} (h : m < s.size) : sget s (m : Int) = some ((s.get! m).toNat : Int) := by
  unfold sget; rw [if_pos (by omega)]; simp
theorem dec_ascii {s : ByteArray} {i : Nat} (h : i < s.size) (hb : (s.get! i).toNat < 128) : Utf8.decode s i = ((s.get! i).toNat, 1) := by
  unfold Utf8.decode
  simp only [Nat.add_zero, Utf8.runeError]
  rw [if_pos (by simpa using hb)]
theorem obnd_if {α β : Type} {p : Prop} [Decidable p] (a b : α) (k : α → Option β) : obnd (if p then some a else some b) k = k (if p then a else b) := by split <;> rfl
theorem i32w_id {a : Int} (h1 : -2147483648 ≤ a) (h2 : a ≤ 2147483647) : IntKind.i32.wrap a = a := wi32 h1 h2
theorem u8w_id {a : Int} (h1 : 0 ≤ a) (h2 : a ≤ 255) : IntKind.u8.wrap a = a := wu8 h1 h2
theorem ref21_num_l1 (s : ByteArray) (hs : s.size ≤ 13) : ∀ (fuel m : Nat), s.size - m < fuel → m ≤ s.size → (∀ j, j < m → isD s j) →
    Mref21_Number_l1 s fuel (dval s m : Int) (m : Int) = some (open Classical in if allD s then .nxt (dval s s.size : Int) else .ret (0, false))
  | 0, _, h, _, _ => absurd h (by omega)
  | fuel + 1, m, h, hm, hd => by
    rw [Mref21_Number_l1.eq_2, sel_ite]
    by_cases hi : m < s.size
    · rw [if_pos (by simpa using hi), obnd_some, ocbnd_nxt, sget_lt hi]
      simp only [obnd_some]
      have hb := get_lt s m
      have hv := dval_13 hd (by omega)
      by_cases hdm : isD s m
      · have hdm' := hdm
        unfold isD at hdm'
        have e1 : decide (((s.get! m).toNat : Int) < 48) = false := decide_eq_false (by omega)
        have e2 : decide (57 < ((s.get! m).toNat : Int)) = false := decide_eq_false (by omega)
        rw [e1, sel_false, e2, obnd_some, sel_false, u8w_id (by omega) (by omega), i64w_id (a := 10 * (dval s m : Int)) (by omega) (by omega), i64w_id (a := ((s.get! m).toNat : Int) - 48) (by omega) (by omega), i64w_id (by omega) (by omega), i64w_id (by omega) (by omega)]
        have := ref21_num_l1 s hs fuel (m + 1) (by omega) (by omega) (fun j hj => by
          rcases Nat.lt_or_ge j m with h1 | h1
          · exact hd j h1
          · rw [show j = m by omega]; exact hdm)
        have e3 : ((dval s (m + 1) : Nat) : Int) = 10 * (dval s m : Int) + (((s.get! m).toNat : Int) - 48) := by rw [dval]; omega
        rw [e3] at this
        rw [← this]; congr 1
      · have hna : ¬ allD s := fun h => hdm (h m hi)
        rw [if_neg hna]
        unfold isD at hdm
        by_cases h48 : ((s.get! m).toNat : Int) < 48
        · rw [decide_eq_true h48, sel_true, obnd_some, sel_true]
        · rw [decide_eq_false h48, sel_false, obnd_some, decide_eq_true (by omega), sel_true]
    · rw [if_neg (by simpa using hi), obnd_some, ocbnd_ret]
      obtain rfl : m = s.size := by omega
      rw [if_pos (show allD s from fun k hk => hd k hk)]
theorem fold_num_l1 (s : ByteArray) (hs : s.size ≤ 4000000000) : ∀ (fuel m : Nat), s.size - m < fuel → m ≤ s.size → (∀ j, j < m → isD s j) → dval s m ≤ 1000000000000 →
    Mfold_Number_l1 s fuel (dval s m : Int) m = some (open Classical in if allD s ∧ dval s s.size ≤ 1000000000000 then .nxt (dval s s.size : Int) else .ret (0, false))
  | 0, _, h, _, _, _ => absurd h (by omega)
  | fuel + 1, m, h, hm, hd, hv => by
    rw [Mfold_Number_l1.eq_2, sel_ite]
    by_cases hi : m < s.size
    · rw [if_pos (by simpa using hi), bnd_eq]
      have hb := get_lt s m
      by_cases hdm : isD s m
      · have hdm' := hdm
        unfold isD at hdm'
        rw [dec_ascii hi (by omega)]
        have e1 : decide (((s.get! m).toNat : Int) < 48) = false := decide_eq_false (by omega)
        have e2 : decide (57 < ((s.get! m).toNat : Int)) = false := decide_eq_false (by omega)
        simp only
        rw [e1, sel_false, e2, obnd_some, sel_false, i32w_id (by omega) (by omega), i64w_id (a := (dval s m : Int) * 10) (by omega) (by omega), i64w_id (a := ((s.get! m).toNat : Int) - 48) (by omega) (by omega), i64w_id (by omega) (by omega)]
        have e3 : ((dval s (m + 1) : Nat) : Int) = (dval s m : Int) * 10 + (((s.get! m).toNat : Int) - 48) := by rw [dval]; omega
        rw [← e3, sel_ite]
        by_cases hbig : dval s (m + 1) ≤ 1000000000000
        · rw [if_neg (by simp; omega)]
          exact fold_num_l1 s hs fuel (m + 1) (by omega) (by omega) (fun j hj => by
            rcases Nat.lt_or_ge j m with h1 | h1
            · exact hd j h1
            · rw [show j = m by omega]; exact hdm) hbig
        · rw [if_pos (by simp; omega), if_neg]
          rintro ⟨-, h2⟩
          have := dval_mono (d := s) (show m + 1 ≤ s.size by omega)
          omega
      · have hna : ¬ (allD s ∧ dval s s.size ≤ 1000000000000) := fun h => hdm (h.1 m hi)
        rw [if_neg hna]
        have hrej : (Utf8.decode s m).1 < 48 ∨ 57 < (Utf8.decode s m).1 := by
          apply Classical.byContradiction
          intro hc
          have := dec_lt (s := s) (i := m) (c := (Utf8.decode s m).1) (wd := (Utf8.decode s m).2) rfl (by omega)
          apply hdm
          unfold isD
          omega
        by_cases h48 : ((Utf8.decode s m).1 : Int) < 48
        · rw [decide_eq_true h48, sel_true, obnd_some, sel_true]
        · rw [decide_eq_false h48, sel_false, obnd_some, decide_eq_true (by omega), sel_true]
    · rw [if_neg (by simpa using hi)]
      obtain rfl : m = s.size := by omega
      rw [if_pos (show allD s ∧ dval s s.size ≤ 1000000000000 from ⟨fun k hk => hd k hk, hv⟩)]
theorem ba_size0 {s : ByteArray} : s = ⟨#[]⟩ ↔ s.size = 0 := by
  constructor
  · rintro rfl; rfl
  · intro h
    obtain ⟨d⟩ := s
    have : d = #[] := Array.eq_empty_of_size_eq_zero h
    rw [this]
theorem num_tail (s : ByteArray) (hs : s.size ≤ 4000000000) (neg : Bool) :
    (obnd (sel (decide (s = ⟨#[]⟩)) (some true) (obnd (sget s 0) fun b7 => sel (decide (b7 = 48)) (sel (decide (1 < (s.size : Int))) (some true) (some neg)) (some false)) : Option Bool) fun x8 =>
      sel x8 (some (0, false)) (obnd (Mfold_Number_l1 s FU 0 0 : Option (Ctl (Int × Bool) Int)) fun mu => ocbnd mu fun n13 => sel neg (some (i64w (-n13), true)) (some (n13, true)))) =
    some (numD neg s) ∧
    (obnd (sel (decide ((s.size : Int) = 0)) (some true) (sel (decide (13 < (s.size : Int))) (some true) (obnd (sget s 0) fun b7 => sel (decide (b7 = 48)) (sel (decide (1 < (s.size : Int))) (some true) (some neg)) (some false))) : Option Bool) fun x8 =>
      sel x8 (some (0, false)) (obnd (Mref21_Number_l1 s FU 0 0 : Option (Ctl (Int × Bool) Int)) fun mu => ocbnd mu fun n15 => sel (decide (1000000000000 < n15)) (some (0, false)) (sel neg (some (i64w (-n15), true)) (some (n15, true))))) =
    some (numD neg s) := by
  by_cases h0 : s.size = 0
  · rw [decide_eq_true (ba_size0.2 h0), sel_true, obnd_some, sel_true, decide_eq_true (by omega), sel_true, obnd_some, sel_true, numD_f (badN_1 h0)]
    exact ⟨rfl, rfl⟩
  have hp := fold_num_l1 s hs FU 0 (by unfold FU; omega) (Nat.zero_le _) (fun j h => absurd h (by omega)) (by simp [dval])
  have e0 : ((dval s 0 : Nat) : Int) = 0 := rfl
  rw [e0] at hp
  have es := sget_lt (s := s) (m := 0) (by omega)
  rw [show ((0 : Nat) : Int) = 0 from rfl] at es
  rw [decide_eq_false (fun h => h0 (ba_size0.1 h)), decide_eq_false (show ¬ (s.size : Int) = 0 by omega), sel_false, sel_false, es, obnd_some]
  have hb := get_lt s 0
  -- a leading nought
  by_cases hz : (s.get! 0).toNat = 48 ∧ (1 < s.size ∨ neg = true)
  · have hbad : badN neg s := .inr (.inr (.inl hz))
    have e1 : decide (((s.get! 0).toNat : Int) = 48) = true := decide_eq_true (by omega)
    have e2 : sel (decide (1 < (s.size : Int))) (some true) (some neg) = some true := by
      by_cases h1 : 1 < s.size
      · rw [decide_eq_true (by omega), sel_true]
      · rw [decide_eq_false (by omega), sel_false, hz.2.resolve_left h1]
    rw [e1, sel_true, e2, obnd_some, sel_true, numD_f hbad]
    refine ⟨rfl, ?_⟩
    by_cases h13 : 13 < s.size
    · rw [decide_eq_true (by omega), sel_true, obnd_some, sel_true]
    · rw [decide_eq_false (by omega), sel_false, obnd_some, sel_true]
  · have e3 : sel (decide (((s.get! 0).toNat : Int) = 48)) (sel (decide (1 < (s.size : Int))) (some true) (some neg)) (some false) = some false := by
      by_cases h48 : (s.get! 0).toNat = 48
      · have h1 : ¬ 1 < s.size := fun h => hz ⟨h48, .inl h⟩
        have h2 : neg = false := by cases neg with
          | false => rfl
          | true => exact absurd ⟨h48, .inr rfl⟩ hz
        rw [decide_eq_true (by omega), sel_true, decide_eq_false (by omega), sel_false, h2]
      · rw [decide_eq_false (by omega), sel_false]
    rw [e3, obnd_some, sel_false, hp, obnd_some]
    by_cases h13 : 13 < s.size
    · rw [decide_eq_true (by omega), sel_true, obnd_some, sel_true, numD_f (badN_2 h13)]
      refine ⟨?_, rfl⟩
      rw [if_neg, ocbnd_ret]
      rintro ⟨ha, hv⟩
      have h49 : 49 ≤ (s.get! 0).toNat := by
        have h1 := ha 0 (by omega)
        unfold isD at h1
        have h2 : (s.get! 0).toNat ≠ 48 := fun h => hz ⟨h, .inl (by omega)⟩
        omega
      have h3 : 10 ^ 13 ≤ dval s 14 := dval_big h49 (k := 13)
      have h4 := dval_mono (d := s) (show 14 ≤ s.size by omega)
      omega
    · have hr := ref21_num_l1 s (by omega) FU 0 (by unfold FU; omega) (Nat.zero_le _) (fun j h => absurd h (by omega))
      rw [e0, show ((0 : Nat) : Int) = 0 from rfl] at hr
      rw [decide_eq_false (by omega), sel_false, obnd_some, sel_false, hr, obnd_some]
      by_cases ha : allD s
      · by_cases hv : dval s s.size ≤ 1000000000000
        · have hg : ¬ badN neg s := good_num h0 (by omega) (fun h => ⟨by
            apply Classical.byContradiction; intro h1; exact hz ⟨h, .inl (by omega)⟩, by
            cases neg with
            | false => rfl
            | true => exact absurd ⟨h, .inr rfl⟩ hz⟩) ha hv
          rw [if_pos ⟨ha, hv⟩, if_pos ha, ocbnd_nxt, ocbnd_nxt, numD_t hg, decide_eq_false (by omega), sel_false]
          cases neg with
          | false => exact ⟨rfl, rfl⟩
          | true => rw [sel_true, i64w_id (by omega) (by omega)]; exact ⟨rfl, rfl⟩
        · rw [if_neg (fun h => hv h.2), if_pos ha, ocbnd_ret, ocbnd_nxt, numD_f (badN_5 (by omega)), decide_eq_true (by omega), sel_true]
          exact ⟨rfl, rfl⟩
      · have hbad : badN neg s := .inr (.inr (.inr (.inl ha)))
        rw [if_neg (fun h => ha h.1), if_neg ha, ocbnd_ret, ocbnd_ret, numD_f hbad]
        exact ⟨rfl, rfl⟩
def NB (r : Int × Bool) : Prop := -1000000000000 ≤ r.1 ∧ r.1 ≤ 1000000000000
theorem numD_nb (mn : Bool) (d : ByteArray) : NB (numD mn d) := by
  by_cases h : badN mn d
  · rw [numD_f h]; exact ⟨by simp, by simp⟩
  · rw [numD_t h]
    have : dval d d.size ≤ 1000000000000 := by
      apply Classical.byContradiction; intro hc; exact h (badN_5 (by omega))
    unfold NB
    cases mn <;> simp <;> omega
theorem number_eq (s : ByteArray) (hs : s.size ≤ 4000000000) : ∃ r, Mfold_Number s = some r ∧ Mref21_Number s = some r ∧ NB r := by
  have key : ∀ b c : Bool, (sel (decide (0 < (s.size : Int))) (obnd (sget s 0) fun b2 => some (decide (b2 = 45))) (some false)) = some b → (sel (decide (1 < (s.size : Int))) (obnd (sget s 0) fun b2 => some (decide (b2 = 45))) (some false)) = some c →
      (b = false → c = false) → (b = true → 0 < s.size) → (b = true → c = false → s.size = 1 ∧ (s.get! 0).toNat = 45) → ∃ r, Mfold_Number s = some r ∧ Mref21_Number s = some r ∧ NB r := by
    intro b c hb hc h1 h2 h3
    unfold Mfold_Number Mref21_Number
    rw [hb, hc, obnd_some, obnd_some]
    cases b with
    | false =>
      rw [h1 rfl, sel_false, obnd_some]
      exact ⟨_, (num_tail s hs false).1, (num_tail s hs false).2, numD_nb _ _⟩
    | true =>
      have e : ssl s 1 (s.size : Int) = some (s.extract 1 s.size) := by
        have := h2 rfl
        unfold ssl; rw [if_pos (by omega)]; simp
      rw [e, obnd_some, sel_true, obnd_some]
      have hz : (s.extract 1 s.size).size = s.size - 1 := by simp [ByteArray.size_extract]
      cases c with
      | true =>
        rw [sel_true, obnd_some]
        exact ⟨_, (num_tail _ (by omega) true).1, (num_tail _ (by omega) true).2, numD_nb _ _⟩
      | false =>
        obtain ⟨g1, g2⟩ := h3 rfl rfl
        rw [sel_false, obnd_some]
        refine ⟨_, (num_tail _ (by omega) true).1, ?_, numD_nb _ _⟩
        refine (num_tail s hs false).2.trans ?_
        rw [numD_f (mn := false) (d := s) (badN_4 0 (by omega) (by unfold isD; omega)), numD_f (mn := true) (d := s.extract 1 s.size) (badN_1 (by omega))]
  by_cases h0 : s.size = 0
  · refine key false false ?_ ?_ (fun h => h) (fun h => by cases h) (fun h => by cases h)
    · rw [decide_eq_false (by omega), sel_false]
    · rw [decide_eq_false (by omega), sel_false]
  have es := sget_lt (s := s) (m := 0) (by omega)
  rw [show ((0 : Nat) : Int) = 0 from rfl] at es
  by_cases h1 : 1 < s.size
  · refine key (decide (((s.get! 0).toNat : Int) = 45)) (decide (((s.get! 0).toNat : Int) = 45)) ?_ ?_ (fun h => h) (fun _ => by omega) (fun h h' => by rw [h] at h'; cases h')
    · rw [decide_eq_true (by omega), sel_true, es, obnd_some]
    · rw [decide_eq_true (by omega), sel_true, es, obnd_some]
  · refine key (decide (((s.get! 0).toNat : Int) = 45)) false ?_ ?_ (fun _ => rfl) (fun _ => by omega) (fun h _ => ⟨by omega, by have := of_decide_eq_true h; omega⟩)
    · rw [decide_eq_true (by omega), sel_true, es, obnd_some]
    · rw [decide_eq_false (by omega), sel_false]
def sumF (s : TFold) : Tsum := ⟨s.Count, s.Numbers, s.Sum, s.Low, s.High, s.First, s.Last⟩
def fok (k : Nat) (f : TFold) : Prop := 0 ≤ f.Count ∧ f.Count ≤ k ∧ 0 ≤ f.Numbers ∧ f.Numbers ≤ k ∧ i64w f.Sum = f.Sum ∧ (f.Numbers = 0 → f.Low = 0 ∧ f.High = 0)
theorem add_eq (k : Nat) (f : TFold) (hk : k < 1000000000) (hf : fok k f) (r : Kv) (hr : r.val.size ≤ 4000000000) : ∃ g o, Mfold_sum_add (sumF f) r = some (sumF g) ∧ Mref21_one r = some o ∧ Mref21_Join f o = g ∧ fok (k + 1) g := by
  obtain ⟨n, e1, e2, -⟩ := number_eq r.val hr
  obtain ⟨n, b⟩ := n
  obtain ⟨c, m, s, lo, hi, fi, la⟩ := f
  obtain ⟨g1, g2, g3, g4, g5, g6⟩ := hf
  simp only at g1 g2 g3 g4 g5 g6
  cases b with
  | false =>
    refine ⟨⟨c + 1, m, s, lo, hi, if c = 0 then r.key else fi, r.key⟩, ⟨1, 0, 0, 0, 0, r.key, r.key⟩, ?_, ?_, ?_, ?_⟩
    · dsimp only [Mfold_sum_add, sumF]
      simp only [e1, sel_ite, decide_eq_true_eq, obnd_if, obnd_some, Bool.not_false, if_true]
      rw [i64w_id (a := c + 1) (by omega) (by omega)]
    · simp only [Mref21_one, e2, sel_ite, obnd_some, Bool.false_eq_true, if_false]
    · simp only [Mref21_Join, bnd_eq, sel_ite, Int.add_zero, g5, decide_eq_true_eq]
      rw [i64w_id (a := c + 1) (by omega) (by omega), i64w_id (a := m) (by omega) (by omega)]
      by_cases hm : m = 0
      · obtain ⟨rfl, rfl⟩ := g6 hm
        subst hm
        simp
      · simp [hm]
    · refine ⟨?_, ?_, ?_, ?_, g5, g6⟩ <;> simp only <;> omega
  | true =>
    refine ⟨⟨c + 1, m + 1, i64w (s + n), if m = 0 ∨ n < lo then n else lo, if m = 0 ∨ hi < n then n else hi, if c = 0 then r.key else fi, r.key⟩, ⟨1, 1, n, n, n, r.key, r.key⟩, ?_, ?_, ?_, ?_⟩
    · dsimp only [Mfold_sum_add, sumF]
      simp only [e1, sel_ite, decide_eq_true_eq, obnd_if, obnd_some, Bool.not_true, Bool.false_eq_true, if_false]
      rw [i64w_id (a := c + 1) (by omega) (by omega), i64w_id (a := m + 1) (by omega) (by omega)]
      by_cases hm : m = 0
      · simp [hm]
      · simp [hm]
    · simp only [Mref21_one, e2, sel_ite, obnd_some, if_true]
    · simp only [Mref21_Join, bnd_eq, sel_ite, decide_eq_true_eq]
      rw [i64w_id (a := c + 1) (by omega) (by omega), i64w_id (a := m + 1) (by omega) (by omega)]
      by_cases hm : m = 0
      · simp [hm]
      · have hlo : min lo n = if n < lo then n else lo := by split <;> omega
        have hhi : max hi n = if hi < n then n else hi := by split <;> omega
        simp [hm, hlo, hhi]
    · refine ⟨?_, ?_, ?_, ?_, i64w_i64w _, ?_⟩ <;> simp only <;> omega
theorem of_l1_eq : ∀ (l : List Kv) (k : Nat) (f : TFold), k + l.length < 1000000000 → fok k f → (∀ r ∈ l, r.val.size ≤ 4000000000) →
    ∃ g : TFold, fok (k + l.length) g ∧ Mfold_Of_l1 l f.Count f.Numbers f.Sum f.Low f.High f.First f.Last = some (g.Count, g.Numbers, g.Sum, g.Low, g.High, g.First, g.Last) ∧ Mref21_Of_l1 l f.Count f.Numbers f.Sum f.Low f.High f.First f.Last = some (g.Count, g.Numbers, g.Sum, g.Low, g.High, g.First, g.Last)
  | [], k, f, _, hf, _ => ⟨f, hf, rfl, rfl⟩
  | r :: l, k, f, hk, hf, hr => by
    simp only [List.length_cons] at hk
    obtain ⟨g, o, e1, e2, e3, e4⟩ := add_eq k f (by omega) hf r (hr r List.mem_cons_self)
    obtain ⟨q, h0, h1, h2⟩ := of_l1_eq l (k + 1) g (by omega) e4 fun x hx => hr x (List.mem_cons_of_mem _ hx)
    refine ⟨q, by rw [List.length_cons, show k + (l.length + 1) = k + 1 + l.length by omega]; exact h0, ?_, ?_⟩
    · rw [Mfold_Of_l1.eq_2]
      have : (Tsum.mk f.Count f.Numbers f.Sum f.Low f.High f.First f.Last) = sumF f := rfl
      rw [this, e1, obnd_some]
      exact h1
    · rw [Mref21_Of_l1.eq_2, e2, obnd_some, bnd_eq]
      have : (TFold.mk f.Count f.Numbers f.Sum f.Low f.High f.First f.Last) = f := rfl
      rw [this, e3]
      exact h2
theorem of_eq (l : List Kv) (hl : l.length < 1000000000) (hr : ∀ r ∈ l, r.val.size ≤ 4000000000) : ∃ g, Mfold_Of l = some g ∧ Mref21_Of l = some g ∧ fok l.length g := by
  obtain ⟨g, h0, h1, h2⟩ := of_l1_eq l 0 ⟨0, 0, 0, 0, 0, ⟨#[]⟩, ⟨#[]⟩⟩ (by omega) ⟨by simp, by simp, by simp, by simp, by kernel_rfl, fun _ => ⟨rfl, rfl⟩⟩ hr
  refine ⟨g, ?_, ?_, by simpa using h0⟩
  · unfold Mfold_Of; rw [h1, obnd_some]
  · unfold Mref21_Of; rw [h2, obnd_some]
end Go.Proofs.YtohpjdeohpamaaaGreatDoor
namespace Go.Proofs.YtohpjdeohpamaaaGreatDoor
open Go.RowKit
theorem take_eq (q : TQuery) (l : List Kv) (h : l.length ≤ 1000000000) : Mquery_Take q l = some (qtk q.Kind q.Count l) ∧ Mref22_Take q l = some (qtk q.Kind q.Count l) := by
  have hmm : min (max q.Count 0) (l.length : Int) = max 0 (min q.Count (l.length : Int)) := by omega
  unfold Mquery_Take Mref22_Take Mclone_List_api_Row_ qtk
  rw [hmm]
  generalize hn : max 0 (min q.Count (l.length : Int)) = n
  simp only [sel_ite, decide_eq_true_eq]
  by_cases h3 : q.Kind = 3
  · rw [if_pos h3, if_pos h3, if_pos h3, lsl_le (by omega), obnd_some, app_le (by simp; omega)]
    simp [obnd_some, app_le, show l.length ≤ 4294967296 by omega, show min n.toNat l.length ≤ 4294967296 by omega]
  · rw [if_neg h3, if_neg h3, if_neg h3]
    by_cases h4 : q.Kind = 4
    · rw [if_pos h4, if_pos h4, if_pos h4, i64w_id (by omega) (by omega), lsl_le (by omega), obnd_some, app_le (by simp; omega)]
      simp only [obnd_some, List.nil_append]
      have e : ((l.length : Int) - n).toNat = l.length - n.toNat := by omega
      rw [e, List.take_of_length_le (by simp)]
      refine ⟨rfl, ?_⟩
      rw [app_le (by simp; omega)]; rfl
    · rw [if_neg h4, if_neg h4, if_neg h4, app_le (by simp; omega)]
      simp [obnd_some]
theorem eq_ref22_Answer_l1 (t : List Kv) (ht : t.length ≤ 1024) : ∀ (rs : List Rng) (out : List Kv), out.length + rs.length * 1024 ≤ 1000000000 → Mref22_Answer_l1 t rs out = some (out ++ qslices t rs)
  | [], out, _ => by simp [Mref22_Answer_l1, qslices]
  | r :: rs, out, h => by
    have hf := List.length_filter_le (fun x : Kv => contains r x.key) t
    rw [Mref22_Answer_l1.eq_2, eq_ref20_Slice _ _ (by omega), obnd_some, app_le (by omega), obnd_some, eq_ref22_Answer_l1 t ht rs _ (by simp at h ⊢; omega)]
    simp [qslices]
theorem qtk_sub (k c : Int) (l : List Kv) : ∀ r ∈ qtk k c l, r ∈ l := by
  intro r h
  unfold qtk at h
  split at h
  · exact List.mem_of_mem_take h
  split at h
  · exact List.mem_of_mem_drop h
  · exact h
theorem qslices_sub (t : List Kv) (rs : List Rng) : ∀ r ∈ qslices t rs, r ∈ t := by
  intro r h
  simp only [qslices, List.mem_flatMap, List.mem_filter] at h
  obtain ⟨_, _, h, _⟩ := h
  exact h
theorem qslices_len (t : List Kv) (rs : List Rng) : (qslices t rs).length ≤ rs.length * t.length := by
  induction rs with
  | nil => simp [qslices]
  | cons r rs ih =>
    have hf := List.length_filter_le (fun x : Kv => contains r x.key) t
    simp only [qslices, List.flatMap_cons, List.length_append, List.length_cons, Nat.succ_mul] at ih ⊢
    omega
end Go.Proofs.YtohpjdeohpamaaaGreatDoor
namespace Go.Proofs.YtohpjdeohpamaaaGreatDoor
open Go.RowKit
theorem eq_query_Answer_l1 (t : List Kv) (ht : t.length ≤ 1024) : ∀ (rs : List Rng) (out : List Kv), out.length + rs.length * 1024 ≤ 1000000000 → Mquery_Answer_l1 t rs out = some (out ++ qslices t rs)
  | [], out, _ => by simp [Mquery_Answer_l1, qslices]
  | r :: rs, out, h => by
    have hf := List.length_filter_le (fun x : Kv => contains r x.key) t
    rw [Mquery_Answer_l1.eq_2, eq_table_Slice _ _ (by omega), obnd_some, app_le (by omega), obnd_some, eq_query_Answer_l1 t ht rs _ (by simp at h ⊢; omega)]
    simp [qslices]
theorem answer_eq (t : List Kv) (q : TQuery) (hq : q.Ranges.length < 1000000) : ∃ a e, Mquery_Answer t q = some (a, e) ∧ Mref22_Answer t q = some (a, e) ∧
    e = (if qchk q.Kind q.Ranges q.Key q.Count = 0 then (if tvalid t then 0 else 1) else qchk q.Kind q.Ranges q.Key q.Count) ∧
    (e = 0 → a.Rows = qtk q.Kind q.Count (qslices t (qranges q.Kind q.Ranges q.Key q.Count)) ∧ Mfold_Of a.Rows = some a.Fold ∧ Mref21_Of a.Rows = some a.Fold) := by
  unfold Mquery_Answer Mref22_Answer
  rw [eq_query_Check q hq, obnd_some, bnd_eq, eq_ref22_Check, (eq_ranges q hq).1, (eq_ranges q hq).2, eq_table_Valid, eq_ref20_Valid]
  by_cases h0 : qchk q.Kind q.Ranges q.Key q.Count = 0
  · rw [decide_eq_true h0, if_pos h0]
    simp only [Bool.not_true, sel_false, obnd_some]
    cases hv : tvalid t with
    | false => exact ⟨_, _, rfl, rfl, rfl, fun h => by cases h⟩
    | true =>
      simp only [Bool.not_true, sel_false, if_true]
      have ht := (tvalid_iff t).1 hv
      have hrl := qranges_le q.Kind q.Ranges q.Key q.Count
      generalize qranges q.Kind q.Ranges q.Key q.Count = R at hrl ⊢
      have hsl := qslices_len t R
      have hsz : (qslices t R).length ≤ 64 * 1024 := Nat.le_trans hsl (Nat.mul_le_mul hrl ht.1)
      rw [eq_query_Answer_l1 t ht.1 R [] (by simp; omega), eq_ref22_Answer_l1 t ht.1 R [] (by simp; omega), obnd_some, obnd_some, List.nil_append]
      obtain ⟨k1, k2⟩ := take_eq q (qslices t R) (by omega)
      rw [k1, k2, obnd_some, obnd_some]
      have hlen : (qtk q.Kind q.Count (qslices t R)).length ≤ (qslices t R).length := by
        unfold qtk; split
        · simp; omega
        split
        · simp
        · exact Nat.le_refl _
      obtain ⟨g, e1, e2, -⟩ := of_eq (qtk q.Kind q.Count (qslices t R)) (by omega) (fun r hr => by
        have h1 := ht.2.1 r (qslices_sub _ _ r (qtk_sub _ _ _ r hr))
        simp only [vrow, Bool.and_eq_true, decide_eq_true_eq] at h1
        omega)
      rw [e1, e2]
      exact ⟨_, _, rfl, rfl, rfl, fun _ => ⟨rfl, e1, e2⟩⟩
  · rw [decide_eq_false h0, if_neg h0]
    simp only [Bool.not_false, sel_true]
    exact ⟨_, _, rfl, rfl, rfl, fun h => absurd h h0⟩
end Go.Proofs.YtohpjdeohpamaaaGreatDoor
-- LEFT awake_ok
namespace Go.Proofs.YtohpjdeohpamaaaGreatDoor
open Go.RowKit
def inside (o i : Rng) : Bool := !emp o && decide (cmp o.lo i.lo ≤ 0) && decide (cmp i.hi o.hi ≤ 0)
theorem eq_walk_Inside (o i : Rng) : Mwalk_Inside o i = inside o i := by
  unfold Mwalk_Inside inside
  simp only [bnd_eq, eq_keyspace_Empty, eq_keyspace_Compare, sel_and, Bool.and_assoc]
theorem eq_ref28_inside (a r : Rng) : Mref28_inside a r = inside r a := by
  unfold Mref28_inside inside
  simp only [bnd_eq, eq_ref1_Empty, eq_ref1_Compare, sel_and]
  cases emp r <;> cases decide (cmp r.lo a.lo ≤ 0) <;> cases decide (cmp a.hi r.hi ≤ 0) <;> rfl
def qch (q : TQuery) : Int := qchk q.Kind q.Ranges q.Key q.Count
def qrg (q : TQuery) : List Rng := qranges q.Kind q.Ranges q.Key q.Count
theorem sameRange_refl (r : Rng) : Mref24_SameRange r r = true := by
  unfold Mref24_SameRange
  simp only [bnd_eq, eq_ref1_Compare, cmp_self]; rfl
theorem sameRows_l1 (a : List Kv) : ∀ (xs : List Kv) (m : Nat), a.drop m = xs → Mref20_Same_l1 a a xs (m : Int) = some (.nxt ())
  | [], _, _ => rfl
  | r :: xs, m, h => by
    obtain ⟨h1, h2⟩ := drop_get h
    rw [Mref20_Same_l1.eq_2]
    simp only [lget_nat, h1, obnd_some, decide_true, Bool.and_self, Bool.not_true, sel_false]
    exact sameRows_l1 a xs (m + 1) h2
theorem sameRows_refl (a : List Kv) : Mref20_Same a a = some true := by
  unfold Mref20_Same
  have := sameRows_l1 a a 0 rfl
  rw [show ((0 : Nat) : Int) = 0 from rfl] at this
  simp only [decide_true, Bool.not_true, sel_false, obnd_some, this, ocbnd_nxt]
theorem sameVisit_refl (v : TVisit) : Mref28_SameVisit v v = some true := by
  unfold Mref28_SameVisit
  simp only [decide_true, Bool.and_self, sel_true, bnd_eq, sameRange_refl, sameRows_refl, obnd_some]
theorem sameVisits_l1 (a : List TVisit) : ∀ (xs : List TVisit) (m : Nat), a.drop m = xs → Mref28_SameVisits_l1 a a xs (m : Int) = some (.nxt ())
  | [], _, _ => rfl
  | r :: xs, m, h => by
    obtain ⟨h1, h2⟩ := drop_get h
    rw [Mref28_SameVisits_l1.eq_2]
    simp only [lget_nat, h1, obnd_some, sameVisit_refl, Bool.not_true, sel_false]
    exact sameVisits_l1 a xs (m + 1) h2
theorem sameVisits_refl (a : List TVisit) : Mref28_SameVisits a a = some true := by
  unfold Mref28_SameVisits
  have := sameVisits_l1 a a 0 rfl
  rw [show ((0 : Nat) : Int) = 0 from rfl] at this
  simp only [decide_true, Bool.not_true, sel_false, obnd_some, this, ocbnd_nxt]
end Go.Proofs.YtohpjdeohpamaaaGreatDoor
-- LEFT clone_Visits_l1 eq_clone_Query eq_clone_Ranges eq_clone_View eq_clone_Visits eq_clone_Walk eq_keyspace_Intersect eq_keyspace_lesser eq_ref28_Start eq_walk_Start ref28_Start_l1 ref28_Start_l2 sameRanges_l1 sameRanges_refl sameWalk_refl walk_Start_l1 walk_Start_l2
namespace Go.Proofs.YtohpjdeohpamaaaGreatDoor
open Go.RowKit
theorem mom_rows (a : TAnswer) (l : List Kv) (h : l.length = a.Rows.length) : ∀ (xs : List Kv) (m : Nat), l.drop m = xs → m ≤ l.length → Maudit_Moment_l2 a xs (m : Int) = some (sel (decide (l.drop m = a.Rows.drop m)) (.nxt ()) (.ret (.nxt ())))
  | [], m, hd, hm => by
    have h1 : l.length ≤ m := by simpa using hd
    rw [Maudit_Moment_l2, List.drop_eq_nil_of_le h1, List.drop_eq_nil_of_le (by omega)]; rfl
  | x :: xs, m, hd, hm => by
    obtain ⟨h1, h2⟩ := drop_get hd
    have hlt : m < l.length := (List.getElem?_eq_some_iff.1 h1).1
    have hlt' : m < a.Rows.length := by omega
    have hx : l[m] = x := (List.getElem?_eq_some_iff.1 h1).2
    rw [Maudit_Moment_l2, lget_nat, List.getElem?_eq_getElem hlt', obnd_some, kv_eqb, drop_step hlt, drop_step hlt', hx]
    by_cases e : x = a.Rows[m]
    · rw [decide_eq_true e]
      simp only [Bool.not_true, sel_false]
      have := mom_rows a l h xs (m + 1) h2 (by omega)
      rw [show ((m + 1 : Nat) : Int) = (m : Int) + 1 by omega] at this
      rw [this, e]
      congr 2
      simp only [decide_eq_decide]
      constructor
      · intro h; rw [h]
      · intro h; exact (List.cons.inj h).2
    · rw [decide_eq_false e, decide_eq_false (by intro h; exact e (List.cons.inj h).1)]; rfl
theorem fold_eqb (f g : TFold) : (decide (f.Count = g.Count) && decide (f.Numbers = g.Numbers) && decide (f.Sum = g.Sum) && decide (f.Low = g.Low) && decide (f.High = g.High) && decide (f.First = g.First) && decide (f.Last = g.Last)) = decide (f = g) := by
  obtain ⟨c1, n1, s1, l1, h1, f1, t1⟩ := f
  obtain ⟨c2, n2, s2, l2, h2, f2, t2⟩ := g
  simp [Bool.and_assoc]
theorem audit_Moment_l1 (q : TQuery) (a : TAnswer) (hq : q.Ranges.length < 1000000) : ∀ (ts : List (List Kv)) (i : Int), Maudit_Moment_l1 q a ts i = some (momW q a ts i)
  | [], i => rfl
  | t :: ts, i => by
    have ih := audit_Moment_l1 q a hq ts (i + 1)
    obtain ⟨b, e, h1, -, -, -⟩ := answer_eq t q hq
    rw [Maudit_Moment_l1, momW, h1, obnd_some]
    simp only
    rw [fold_eqb]
    have hnx : ∀ c : Bool, (b, e) ≠ (a, (0 : Int)) → (c = true → ∃ u : Unit, True) → True := fun _ _ _ => trivial
    by_cases he : e = 0
    · subst he
      simp only [decide_true, Bool.not_true, sel_false]
      by_cases hl : b.Rows.length = a.Rows.length
      · rw [decide_eq_true (show (b.Rows.length : Int) = (a.Rows.length : Int) by omega)]
        simp only [Bool.not_true, sel_false]
        by_cases hf : b.Fold = a.Fold
        · rw [decide_eq_true hf]
          simp only [Bool.not_true, obnd_some, sel_false]
          have := mom_rows a b.Rows hl b.Rows 0 rfl (Nat.zero_le _)
          rw [show ((0 : Nat) : Int) = 0 from rfl] at this
          show obnd (obnd (Maudit_Moment_l2 a b.Rows 0) _) _ = _
          rw [this]
          simp only [List.drop_zero, obnd_some]
          by_cases hr : b.Rows = a.Rows
          · rw [decide_eq_true hr, if_pos (by rw [show b = a by cases a; cases b; simp_all])]; rfl
          · rw [decide_eq_false hr, if_neg (by intro h; simp only [Option.some.injEq, Prod.mk.injEq] at h; exact hr (by rw [h.1]))]
            exact ih
        · rw [decide_eq_false hf, if_neg (by intro h; simp only [Option.some.injEq, Prod.mk.injEq] at h; exact hf (by rw [h.1]))]
          exact ih
      · rw [decide_eq_false (show ¬ (b.Rows.length : Int) = (a.Rows.length : Int) by omega), if_neg (by intro h; simp only [Option.some.injEq, Prod.mk.injEq] at h; exact hl (by rw [h.1]))]
        exact ih
    · rw [decide_eq_false he, if_neg (by intro h; simp only [Option.some.injEq, Prod.mk.injEq] at h; exact he h.2)]
      exact ih
theorem eq_audit_Moment (q : TQuery) (a : TAnswer) (ts : List (List Kv)) (hq : q.Ranges.length < 1000000) : Maudit_Moment q a ts = some (mom q a ts) := by
  unfold Maudit_Moment mom
  rw [audit_Moment_l1 q a hq, obnd_some]
  cases momW q a ts 0 <;> rfl
end Go.Proofs.YtohpjdeohpamaaaGreatDoor
namespace Go.Proofs.YtohpjdeohpamaaaGreatDoor
open Go.RowKit
def first_query (a b : TQuery) (xs : List Rng) (i : Int) := Mquery_Same_l1 b xs i
theorem eq_query_Same_l1 (a b : TQuery) (h : a.Ranges.length = b.Ranges.length) : ∀ (xs : List Rng) (m : Nat), a.Ranges.drop m = xs → m ≤ a.Ranges.length → (first_query a b xs (m : Int)) = some (sel (decide (a.Ranges.drop m = b.Ranges.drop m)) (.nxt ()) (.ret false))
  | [], m, h1, hm => by
    have : a.Ranges.length - m = 0 := by have := congrArg List.length h1; simpa using this
    rw [drop_eq_iff h, dif_neg (by omega)]; rfl
  | r :: xs, m, h1, hm => by
    obtain ⟨h2, h3⟩ := drop_get h1
    obtain ⟨h4, h5⟩ := List.getElem?_eq_some_iff.1 h2
    have ih := eq_query_Same_l1 a b h xs (m + 1) h3 h4
    unfold first_query at ih ⊢
    rw [Mquery_Same_l1.eq_2]
    simp only [lget_nat]
    rw [List.getElem?_eq_getElem (show m < b.Ranges.length by omega)]
    try rw [List.getElem?_eq_getElem h4]
    simp only [obnd_some, range_eqb]
    rw [show (m : Int) + 1 = ((m + 1 : Nat) : Int) by omega, ih, drop_eq_iff h m, dif_pos h4]
    try rw [← h5]
    cases decide (a.Ranges[m] = b.Ranges[m]) <;> rfl
theorem eq_query_Same (a b : TQuery) : Mquery_Same a b = some (decide (a = b)) := by
  unfold Mquery_Same
  have hb : (sel (!decide (a.Kind = b.Kind)) (some true) (sel (!decide (a.Key = b.Key)) (some true) (sel (!decide (a.Count = b.Count)) (some true) (some (!decide ((a.Ranges.length : Int) = (b.Ranges.length : Int))))))) = some (!(decide (a.Kind = b.Kind) && decide (a.Key = b.Key) && decide (a.Count = b.Count) && decide (a.Ranges.length = b.Ranges.length))) := by
    have : decide ((a.Ranges.length : Int) = (b.Ranges.length : Int)) = decide (a.Ranges.length = b.Ranges.length) := decide_eq_decide.2 (by omega)
    rw [this]
    cases decide (a.Kind = b.Kind) <;> cases decide (a.Key = b.Key) <;> cases decide (a.Count = b.Count) <;> rfl
  rw [hb, obnd_some]
  by_cases h1 : a.Kind = b.Kind
  · by_cases h2 : a.Key = b.Key
    · by_cases h3 : a.Count = b.Count
      · by_cases h4 : a.Ranges.length = b.Ranges.length
        · have := eq_query_Same_l1 a b h4 a.Ranges 0 rfl (Nat.zero_le _)
          unfold first_query at this
          rw [show ((0 : Nat) : Int) = 0 from rfl, List.drop_zero, List.drop_zero] at this
          rw [this]
          simp only [h1, h2, h3, h4, decide_true, Bool.and_self, Bool.not_true, sel_false, obnd_some]
          have e : decide (a = b) = decide (a.Ranges = b.Ranges) := by
            obtain ⟨k, l, key, c⟩ := a
            obtain ⟨k', l', key', c'⟩ := b
            simp only at h1 h2 h3
            subst h1 h2 h3
            simp
          rw [e]
          cases decide (a.Ranges = b.Ranges) <;> rfl
        · have : a ≠ b := fun e => h4 (by rw [e])
          simp [h4, this, sel_true]
      · have : a ≠ b := fun e => h3 (by rw [e])
        simp [h3, this, sel_true]
    · have : a ≠ b := fun e => h2 (by rw [e])
      simp [h2, this, sel_true]
  · have : a ≠ b := fun e => h1 (by rw [e])
    simp [h1, this, sel_true]
end Go.Proofs.YtohpjdeohpamaaaGreatDoor
namespace Go.Proofs.YtohpjdeohpamaaaGreatDoor
open Go.RowKit
def enough (q : TQuery) (n : Int) : Bool := (decide (q.Kind = 3) || decide (q.Kind = 4)) && decide (q.Count ≤ n)
theorem eq_query_Enough (q : TQuery) (n : Int) : Mquery_Enough q n = enough q n := by
  unfold Mquery_Enough Mquery_counted enough
  rw [bnd_eq]
  cases decide (q.Kind = 3) <;> cases decide (q.Kind = 4) <;> cases decide (q.Count ≤ n) <;> rfl
theorem eq_ref22_Enough (q : TQuery) (n : Int) : Mref22_Enough q n = enough q n := by
  unfold Mref22_Enough enough
  cases decide (q.Kind = 3) <;> cases decide (q.Kind = 4) <;> cases decide (q.Count ≤ n) <;> rfl
def rowsW (l : List TVisit) : List Kv := l.flatMap fun v => v.View.Rows
theorem rowsW_len : ∀ {l : List TVisit}, (∀ v ∈ l, v.View.Rows.length ≤ 10000) → (rowsW l).length ≤ l.length * 10000
  | [], _ => by simp [rowsW]
  | v :: l, h => by
    have h1 := h v List.mem_cons_self
    have h2 := rowsW_len (l := l) fun x hx => h x (List.mem_cons_of_mem _ hx)
    unfold rowsW at h2 ⊢
    rw [List.flatMap_cons, List.length_append, List.length_cons]
    omega
theorem rows_walk_l1 : ∀ (l : List TVisit) (out : List Kv), out.length + (rowsW l).length ≤ 4294967296 → Mwalk_Rows_l1 l out = some (out ++ rowsW l)
  | [], out, _ => by rw [Mwalk_Rows_l1.eq_1]; simp [rowsW]
  | v :: l, out, h => by
    unfold rowsW at h ⊢
    rw [List.flatMap_cons, List.length_append] at h
    have ih := rows_walk_l1 l (out ++ v.View.Rows) (by unfold rowsW; rw [List.length_append]; omega)
    unfold rowsW at ih
    rw [Mwalk_Rows_l1.eq_2, app_le (by omega), obnd_some, ih, List.flatMap_cons, List.append_assoc]
theorem rows_ref28_l1 : ∀ (l : List TVisit) (out : List Kv), out.length + (rowsW l).length ≤ 4294967296 → Mref28_Rows_l1 l out = some (out ++ rowsW l)
  | [], out, _ => by rw [Mref28_Rows_l1.eq_1]; simp [rowsW]
  | v :: l, out, h => by
    unfold rowsW at h ⊢
    rw [List.flatMap_cons, List.length_append] at h
    have ih := rows_ref28_l1 l (out ++ v.View.Rows) (by unfold rowsW; rw [List.length_append]; omega)
    unfold rowsW at ih
    rw [Mref28_Rows_l1.eq_2, app_le (by omega), obnd_some, ih, List.flatMap_cons, List.append_assoc]
theorem okW.rlen {w : TWalk} (h : okW w) : (rowsW w.Visits).length ≤ 10000000 := by
  have h1 := rowsW_len h.rows
  have h2 := h.vis
  omega
theorem eq_walk_Rows {w : TWalk} (h : okW w) : Mwalk_Rows w = some (rowsW w.Visits) := by
  have := h.rlen
  unfold Mwalk_Rows
  rw [rows_walk_l1 _ _ (by simp; omega), obnd_some, List.nil_append]
theorem eq_ref28_Rows {w : TWalk} (h : okW w) : Mref28_Rows w.Visits = some (rowsW w.Visits) := by
  have := h.rlen
  unfold Mref28_Rows
  rw [rows_ref28_l1 _ _ (by simp; omega), obnd_some, List.nil_append]
def downQ (q : TQuery) : Bool := decide (q.Kind = 4)
theorem lget_first (x : Rng) (t : List Rng) : lget (x :: t) 0 = some x := by
  have := lget_nat (x :: t) 0
  rw [show ((0 : Nat) : Int) = 0 from rfl] at this
  rw [this]; rfl
theorem eq_stamp_Valid (s : TStamp) : Mstamp_Valid s = stOk s := by
  unfold Mstamp_Valid stOk
  simp only [sel_and, Bool.and_assoc]
theorem eq_ref23_Valid (s : TStamp) : Mref23_Valid s = stOk s := by
  unfold Mref23_Valid stOk
  simp only [sel_and, Bool.and_assoc]
theorem eq_ref24_Number (n : Int) : Mref24_Number n = numOk n := by
  unfold Mref24_Number numOk
  rw [sel_and]
theorem eq_ref20_Within (r : Rng) (t : List Kv) : Mref20_Within t r = t.all fun x => contains r x.key := by
  unfold Mref20_Within
  have : ∀ t : List Kv, Mref20_Within_l1 r t = sel (t.all fun x => contains r x.key) (.nxt ()) (.ret false) := by
    intro t
    induction t with
    | nil => rfl
    | cons x t ih =>
      rw [Mref20_Within_l1.eq_2, bnd_eq, eq_ref1_Contains, ih, List.all_cons]
      cases contains r x.key <;> rfl
  rw [this, bnd_eq]
  cases (t.all fun x => contains r x.key) <;> rfl
theorem flt_all (r : Rng) (t : List Kv) : decide (((t.filter fun x => contains r x.key).length : Int) = (t.length : Int)) = t.all fun x => contains r x.key := by
  cases h : t.all fun x => contains r x.key with
  | true =>
    have : t.filter (fun x => contains r x.key) = t := List.filter_eq_self.2 fun x hx => List.all_eq_true.1 h x hx
    rw [this]; exact decide_eq_true rfl
  | false =>
    refine decide_eq_false fun he => ?_
    have he : (t.filter fun x => contains r x.key).length = t.length := by omega
    have : t.all (fun x => contains r x.key) = true := List.all_eq_true.2 fun x hx => by
      have := List.length_filter_eq_length_iff.1 he x hx
      exact this
    rw [h] at this; cases this
theorem eq_walk_ValidView (v : TView) (h : v.Rows.length ≤ 10000) : Mwalk_ValidView v = some (validV v) := by
  unfold Mwalk_ValidView validV numOk
  rw [bnd_eq, bnd_eq, eq_keyspace_Empty, eq_stamp_Valid, eq_table_Valid, obnd_some, eq_table_Slice _ _ (by omega), obnd_some, flt_all]
  cases decide (1 ≤ v.Owner) <;> cases decide (v.Owner ≤ 2147483647) <;> cases emp v.Interval <;> cases stOk v.Stamp <;> cases tvalid v.Rows <;> rfl
theorem eq_ref28_ValidView (v : TView) : Mref28_ValidView v = some (validV v) := by
  unfold Mref28_ValidView validV
  rw [bnd_eq, bnd_eq, bnd_eq, bnd_eq, eq_ref24_Number, eq_ref1_Empty, eq_ref23_Valid, eq_ref20_Valid, obnd_some, eq_ref20_Within]
  cases numOk v.Owner <;> cases emp v.Interval <;> cases stOk v.Stamp <;> cases tvalid v.Rows <;> rfl
end Go.Proofs.YtohpjdeohpamaaaGreatDoor
-- LEFT eq_walk_Done eq_walk_Take eq_walk_Want
namespace Go.Proofs.YtohpjdeohpamaaaGreatDoor
open Go.RowKit
theorem eq_replica_SameRange (a b : Rng) : Mreplica_SameRange a b = Mref24_SameRange a b := by
  unfold Mreplica_SameRange Mref24_SameRange
  simp only [bnd_eq, eq_keyspace_Compare, eq_ref1_Compare]
theorem sameList_l1 (a b : List Kv) (h : a.length = b.length) : ∀ (xs : List Kv) (m : Nat), a.drop m = xs → m ≤ a.length → Mreplica_sameList_api_Row__l1 a b xs (m : Int) = some (sel (decide (a.drop m = b.drop m)) (.nxt ()) (.ret false))
  | [], m, h1, hm => by
    have : a.length - m = 0 := by have := congrArg List.length h1; simpa using this
    rw [Mreplica_sameList_api_Row__l1.eq_1, drop_eq_iff h, dif_neg (by omega)]; rfl
  | r :: xs, m, h1, hm => by
    obtain ⟨h2, h3⟩ := drop_get h1
    have h4 := (List.getElem?_eq_some_iff.1 h2).1
    rw [Mreplica_sameList_api_Row__l1.eq_2, lget_nat, lget_nat, List.getElem?_eq_getElem h4, List.getElem?_eq_getElem (show m < b.length by omega), obnd_some, obnd_some, kv_eqb, show (m : Int) + 1 = ((m + 1 : Nat) : Int) by omega, sameList_l1 a b h xs (m + 1) h3 h4, drop_eq_iff h m, dif_pos h4]
    cases decide (a[m] = b[m]) <;> rfl
theorem eq_replica_SameRows (a b : List Kv) : Mreplica_SameRows a b = some (decide (a = b)) := by
  unfold Mreplica_SameRows Mreplica_sameList_api_Row_
  by_cases h : a.length = b.length
  · have := sameList_l1 a b h a 0 rfl (Nat.zero_le _)
    rw [show ((0 : Nat) : Int) = 0 from rfl, List.drop_zero, List.drop_zero] at this
    rw [decide_eq_true (by omega), this]
    cases decide (a = b) <;> rfl
  · have h2 : a ≠ b := fun e => h (by rw [e])
    rw [decide_eq_false (by omega), decide_eq_false h2]; rfl
def sameV (a b : TVisit) : Bool := decide (a.View.Owner = b.View.Owner) && decide (a.View.Stamp.Epoch = b.View.Stamp.Epoch) && decide (a.View.Stamp.Version = b.View.Stamp.Version) && Mref24_SameRange a.View.Interval b.View.Interval && Mref24_SameRange a.Part b.Part && decide (a.View.Rows = b.View.Rows)
theorem eq_ref28_SameVisit (a b : TVisit) : Mref28_SameVisit a b = some (sameV a b) := by
  unfold Mref28_SameVisit sameV
  rw [bnd_eq, bnd_eq, eq_ref20_Same, obnd_some]
  cases decide (a.View.Owner = b.View.Owner) <;> cases decide (a.View.Stamp.Epoch = b.View.Stamp.Epoch) <;> cases decide (a.View.Stamp.Version = b.View.Stamp.Version) <;> cases Mref24_SameRange a.View.Interval b.View.Interval <;> cases Mref24_SameRange a.Part b.Part <;> rfl
theorem eq_receipt_Same (a b : TVisit) : Mreceipt_Same a b = some (sameV a b) := by
  unfold Mreceipt_Same sameV
  rw [bnd_eq, bnd_eq, eq_replica_SameRange, eq_replica_SameRange, eq_replica_SameRows, obnd_some]
  cases decide (a.View.Owner = b.View.Owner) <;> cases decide (a.View.Stamp.Epoch = b.View.Stamp.Epoch) <;> cases decide (a.View.Stamp.Version = b.View.Stamp.Version) <;> cases Mref24_SameRange a.View.Interval b.View.Interval <;> cases Mref24_SameRange a.Part b.Part <;> rfl
def sameVs : List TVisit → List TVisit → Bool
  | [], [] => true
  | a :: l, b :: m => sameV a b && sameVs l m
  | _, _ => false
theorem sameVs_len : ∀ {a b : List TVisit}, sameVs a b = true → a.length = b.length
  | [], [], _ => rfl
  | a :: l, b :: m, h => by
    simp only [sameVs, Bool.and_eq_true] at h
    have := sameVs_len h.2
    simp [this]
  | [], _ :: _, h => by simp [sameVs] at h
  | _ :: _, [], h => by simp [sameVs] at h
theorem same_drop {a b : List TVisit} (h : a.length = b.length) {m : Nat} (hm : m < a.length) : sameVs (a.drop m) (b.drop m) = (sameV a[m] (b[m]'(by omega)) && sameVs (a.drop (m + 1)) (b.drop (m + 1))) := by
  rw [List.drop_eq_getElem_cons hm, List.drop_eq_getElem_cons (l := b) (by omega)]; rfl
theorem refSame_l1 (a b : List TVisit) (h : a.length = b.length) : ∀ (xs : List TVisit) (m : Nat), a.drop m = xs → m ≤ a.length → Mref28_SameVisits_l1 a b xs (m : Int) = some (sel (sameVs (a.drop m) (b.drop m)) (.nxt ()) (.ret false))
  | [], m, h1, hm => by
    have h2 : a.length - m = 0 := by have := congrArg List.length h1; simpa using this
    rw [Mref28_SameVisits_l1.eq_1, h1, List.drop_eq_nil_of_le (by omega)]; rfl
  | r :: xs, m, h1, hm => by
    obtain ⟨h2, h3⟩ := drop_get h1
    have h4 := (List.getElem?_eq_some_iff.1 h2).1
    rw [Mref28_SameVisits_l1.eq_2, lget_nat, lget_nat, List.getElem?_eq_getElem h4, List.getElem?_eq_getElem (show m < b.length by omega), obnd_some, obnd_some, eq_ref28_SameVisit, obnd_some, show (m : Int) + 1 = ((m + 1 : Nat) : Int) by omega, refSame_l1 a b h xs (m + 1) h3 h4, same_drop h h4]
    cases sameV a[m] (b[m]'(by omega)) <;> rfl
theorem eq_ref28_SameVisits (a b : List TVisit) : Mref28_SameVisits a b = some (sameVs a b) := by
  unfold Mref28_SameVisits
  by_cases h : a.length = b.length
  · have := refSame_l1 a b h a 0 rfl (Nat.zero_le _)
    rw [show ((0 : Nat) : Int) = 0 from rfl, List.drop_zero, List.drop_zero] at this
    rw [decide_eq_true (by omega), this]
    cases sameVs a b <;> rfl
  · have h2 : sameVs a b = false := by
      cases hh : sameVs a b with
      | false => rfl
      | true => exact absurd (sameVs_len hh) h
    rw [decide_eq_false (by omega), h2]; rfl
def vOk (v : TVisit) : Bool := validV v.View && !emp v.Part && inside v.View.Interval v.Part
def rOk (v : TVisit) : Bool := v.View.Rows.all fun x => contains v.Part x.key
def tl1 : List TVisit → Ctl Int Unit
  | [] => .nxt ()
  | v :: l => if vOk v = true then (if rOk v = true then tl1 l else .ret 17) else .ret 1
def tl2 (R : List Rng) : List TVisit → Nat → Bnd → Ctl Int Int
  | [], a, _ => .nxt (a : Int)
  | v :: l, a, p => match R[a]? with
    | none => .ret 2
    | some e => if 0 < cmp v.Part.lo p then .ret 9 else if cmp v.Part.lo p < 0 then .ret 10 else if 0 < cmp v.Part.hi e.hi then .ret 2 else if cmp v.Part.hi e.hi = 0 then tl2 R l (a + 1) (match R[a + 1]? with | some x => x.lo | none => v.Part.hi) else tl2 R l a v.Part.hi
theorem rec_Tiling_l1 : ∀ l : List TVisit, (∀ v ∈ l, v.View.Rows.length ≤ 10000) → Mreceipt_Tiling_l1 l = some (tl1 l)
  | [], _ => rfl
  | v :: l, h => by
    have hv := h v List.mem_cons_self
    have ih := rec_Tiling_l1 l fun x hx => h x (List.mem_cons_of_mem _ hx)
    rw [Mreceipt_Tiling_l1.eq_2, eq_walk_ValidView _ hv, obnd_some, bnd_eq, bnd_eq, eq_keyspace_Empty, eq_walk_Inside, eq_table_Slice _ _ (by omega), ih, tl1]
    unfold vOk rOk
    cases validV v.View with
    | false => rfl
    | true =>
      cases emp v.Part with
      | true => rfl
      | false =>
        cases inside v.View.Interval v.Part with
        | false => rfl
        | true =>
          simp only [Bool.not_true, sel_false, Bool.not_false, obnd_some, Bool.and_self, if_true, flt_all]
          cases (v.View.Rows.all fun x => contains v.Part x.key) <;> rfl
theorem ref_Tiling_l1 : ∀ l : List TVisit, Mref28_Tiling_l1 l = some (tl1 l)
  | [] => rfl
  | v :: l => by
    have ih := ref_Tiling_l1 l
    rw [Mref28_Tiling_l1.eq_2, eq_ref28_ValidView, obnd_some, bnd_eq, bnd_eq, bnd_eq, eq_ref1_Empty, eq_ref28_inside, eq_ref20_Within, ih, tl1]
    unfold vOk rOk
    cases validV v.View with
    | false => rfl
    | true =>
      cases emp v.Part with
      | true => rfl
      | false =>
        cases inside v.View.Interval v.Part with
        | false => rfl
        | true =>
          simp only [Bool.not_true, sel_false, Bool.not_false, obnd_some, Bool.and_self, if_true]
          cases (v.View.Rows.all fun x => contains v.Part x.key) <;> rfl
theorem nxt_pos (R : List Rng) (a : Nat) (ha : a < 1000000) (hR : R.length ≤ 1000000) (p : Bnd) {α : Type} (K : ByteArray → Bool → Option α) :
    sel (decide (i64w ((a : Int) + 1) < (R.length : Int))) (obnd (lget R (i64w ((a : Int) + 1))) fun e => K e.lo.key e.lo.top) (K p.key p.top) = K (match R[a + 1]? with | some x => x.lo | none => p).key (match R[a + 1]? with | some x => x.lo | none => p).top := by
  rw [i64w_id (by omega) (by omega), show (a : Int) + 1 = ((a + 1 : Nat) : Int) by omega]
  by_cases h : a + 1 < R.length
  · rw [decide_eq_true (by omega), sel_true, lget_nat, List.getElem?_eq_getElem h, obnd_some]
  · rw [decide_eq_false (by omega), sel_false, List.getElem?_eq_none (by omega)]
theorem rec_Tiling_l2 (R : List Rng) (hR : R.length ≤ 100000) : ∀ (l : List TVisit) (a : Nat) (p : Bnd), a ≤ R.length → Mreceipt_Tiling_l2 R l (a : Int) p.key p.top = some (tl2 R l a p)
  | [], a, p, _ => rfl
  | v :: l, a, p, ha => by
    rw [Mreceipt_Tiling_l2.eq_2, bnd_eq, eq_keyspace_Compare, tl2]
    by_cases h : a = R.length
    · rw [decide_eq_true (by omega), sel_true, List.getElem?_eq_none (by omega)]
    · have hlt : a < R.length := by omega
      rw [decide_eq_false (by omega), sel_false, lget_nat, List.getElem?_eq_getElem hlt, obnd_some, bnd_eq, eq_keyspace_Compare]
      have ep : (⟨p.key, p.top⟩ : Bnd) = p := rfl
      rw [ep]
      simp only
      have c1 := cmp_rng v.Part.lo p
      have c2 := cmp_rng v.Part.hi R[a].hi
      rw [nxt_pos R a (by omega) (by omega) v.Part.hi fun k t => Mreceipt_Tiling_l2 R l (i64w ((a : Int) + 1)) k t]
      rw [i64w_id (by omega) (by omega), show (a : Int) + 1 = ((a + 1 : Nat) : Int) by omega, rec_Tiling_l2 R hR l (a + 1) _ (by omega), rec_Tiling_l2 R hR l a _ (by omega)]
      rcases c1 with c1 | c1 | c1 <;> rw [c1]
      · rfl
      · rcases c2 with c2 | c2 | c2 <;> rw [c2] <;> rfl
      · rfl
theorem ref_Tiling_l2 (R : List Rng) (hR : R.length ≤ 100000) : ∀ (l : List TVisit) (a : Nat) (p : Bnd), a ≤ R.length → Mref28_Tiling_l2 R l (a : Int) p.key p.top = some (tl2 R l a p)
  | [], a, p, _ => rfl
  | v :: l, a, p, ha => by
    rw [Mref28_Tiling_l2.eq_2, bnd_eq, bnd_eq, eq_ref1_Compare, tl2]
    by_cases h : a = R.length
    · rw [decide_eq_true (by omega), sel_true, List.getElem?_eq_none (by omega)]
    · have hlt : a < R.length := by omega
      rw [decide_eq_false (by omega), sel_false, lget_nat, List.getElem?_eq_getElem hlt, obnd_some, obnd_some, bnd_eq, bnd_eq, eq_ref1_Compare]
      have ep : (⟨p.key, p.top⟩ : Bnd) = p := rfl
      rw [ep]
      simp only
      have c1 := cmp_rng v.Part.lo p
      have c2 := cmp_rng v.Part.hi R[a].hi
      rw [nxt_pos R a (by omega) (by omega) v.Part.hi fun k t => Mref28_Tiling_l2 R l (i64w ((a : Int) + 1)) k t]
      rw [i64w_id (by omega) (by omega), show (a : Int) + 1 = ((a + 1 : Nat) : Int) by omega, ref_Tiling_l2 R hR l (a + 1) _ (by omega), ref_Tiling_l2 R hR l a _ (by omega)]
      rcases c1 with c1 | c1 | c1 <;> rw [c1]
      · rfl
      · rcases c2 with c2 | c2 | c2 <;> rw [c2] <;> rfl
      · rfl
def posT (q : TQuery) (l : List TVisit) : Bnd := match l with
  | [] => (match qrg q with | r :: _ => r.lo | [] => zb)
  | v :: _ => if (downQ q && enough q ((rowsW l).length : Int)) = true then v.Part.lo else (match qrg q with | r :: _ => r.lo | [] => zb)
def tilingW (q : TQuery) (l : List TVisit) : Int :=
  if qch q ≠ 0 then qch q else match tl1 l with
    | .ret e => e
    | .nxt _ => match tl2 (qrg q) l 0 (posT q l) with
      | .ret e => e
      | .nxt a => if a < ((qrg q).length : Int) then (if q.Kind = 3 ∧ enough q ((rowsW l).length : Int) = true then 0 else 9) else 0
theorem qrg_64 (q : TQuery) : (qrg q).length ≤ 64 := qranges_le _ _ _ _
theorem pos_both (R : List Rng) : (sel (decide (0 < (R.length : Int))) (obnd (lget R 0) fun e15 => some (e15.lo.key, e15.lo.top)) (some (⟨#[]⟩, false)) : Option (ByteArray × Bool)) = some ((match R with | r :: _ => r.lo | [] => zb).key, (match R with | r :: _ => r.lo | [] => zb).top) := by
  cases R with
  | nil => rfl
  | cons r R =>
    rw [decide_eq_true (by simp), sel_true, lget_first, obnd_some]
theorem pos_two (q : TQuery) (l : List TVisit) (p : Bnd) (hp : p = match qrg q with | r :: _ => r.lo | [] => zb) : (obnd (sel (downQ q) (sel (enough q ((rowsW l).length : Int)) (some (decide (0 < (l.length : Int)))) (some false)) (some false) : Option Bool) fun x19 => (sel x19 (obnd (lget l 0) fun e20 => some (e20.Part.lo.key, e20.Part.lo.top)) (some (p.key, p.top)) : Option (ByteArray × Bool))) = some ((posT q l).key, (posT q l).top) := by
  cases l with
  | nil =>
    have e : posT q [] = p := by rw [hp]; rfl
    rw [e]
    cases downQ q <;> cases enough q ((rowsW []).length : Int) <;> rfl
  | cons v l =>
    have e0 : decide (0 < (((v :: l).length : Nat) : Int)) = true := decide_eq_true (by rw [List.length_cons]; omega)
    have e1 : lget (v :: l) 0 = some v := by
      have := lget_nat (v :: l) 0
      rw [show ((0 : Nat) : Int) = 0 from rfl] at this
      rw [this]; rfl
    have e2 : posT q (v :: l) = if (downQ q && enough q ((rowsW (v :: l)).length : Int)) = true then v.Part.lo else p := by rw [hp]; rfl
    rw [e0, e1, e2]
    cases downQ q <;> cases enough q ((rowsW (v :: l)).length : Int) <;> rfl
theorem obnd_assoc {α β γ : Type} (x : Option α) (f : α → Option β) (g : β → Option γ) : obnd (obnd x f) g = obnd x fun a => obnd (f a) g := by
  cases x <;> rfl
theorem eq_receipt_Tiling (q : TQuery) (hq : q.Ranges.length < 1000000) {l : List TVisit} (h : okC l) : Mreceipt_Tiling q l = some (tilingW q l) := by
  have e1 : Mquery_Check q = some (qch q) := if_pos hq
  have e2 : Mquery_Ranges q = some (qrg q) := if_pos hq
  have e3 : Mreceipt_rows l = some (rowsW l) := by unfold Mreceipt_rows; rw [eq_walk_Rows h.w, obnd_some]
  have ed : Mquery_Down q = downQ q := rfl
  have hR := qrg_64 q
  unfold Mreceipt_Tiling tilingW
  rw [e1, obnd_some]
  by_cases h0 : qch q = 0
  · rw [decide_eq_true h0, Bool.not_true, sel_false, if_neg (by simp [h0]), rec_Tiling_l1 _ h.rows, obnd_some]
    cases tl1 l with
    | ret e => rfl
    | nxt _ =>
      rw [ocbnd_nxt, e2, obnd_some, e3, obnd_some, bnd_eq, eq_query_Enough, pos_both, obnd_some, bnd_eq, ed]
      simp only
      rw [← obnd_assoc, pos_two q l _ rfl, obnd_some]
      simp only
      rw [show (0 : Int) = ((0 : Nat) : Int) from rfl, rec_Tiling_l2 (qrg q) (by omega) l 0 (posT q l) (Nat.zero_le _), obnd_some]
      cases tl2 (qrg q) l 0 (posT q l) with
      | ret e => rfl
      | nxt a =>
        rw [ocbnd_nxt]
        simp only
        by_cases ha : a < ((qrg q).length : Int)
        · rw [decide_eq_true ha, sel_true, if_pos ha]
          by_cases hk : q.Kind = 3
          · rw [decide_eq_true hk, sel_true]
            cases enough q ((rowsW l).length : Int) with
            | true => rw [if_pos ⟨hk, rfl⟩]; rfl
            | false => rw [if_neg (by simp)]; rfl
          · rw [decide_eq_false hk, sel_false, if_neg (by simp [hk])]; rfl
        · rw [decide_eq_false ha, sel_false, if_neg ha]
  · rw [decide_eq_false h0, Bool.not_false, sel_true, if_pos h0]
theorem eq_ref28_Tiling (q : TQuery) (hq : q.Ranges.length < 1000000) {l : List TVisit} (h : okC l) : Mref28_Tiling q l = some (tilingW q l) := by
  have e1 : Mref22_Check q = qch q := eq_ref22_Check q
  have e2 : Mref22_Ranges q = some (qrg q) := if_pos hq
  have e3 : Mref28_Rows l = some (rowsW l) := eq_ref28_Rows h.w
  have ed : Mref22_Down q = downQ q := rfl
  have hR := qrg_64 q
  unfold Mref28_Tiling tilingW
  rw [bnd_eq, e1]
  by_cases h0 : qch q = 0
  · rw [decide_eq_true h0, Bool.not_true, sel_false, if_neg (by simp [h0]), ref_Tiling_l1, obnd_some]
    cases tl1 l with
    | ret e => rfl
    | nxt _ =>
      rw [ocbnd_nxt, e2, obnd_some, e3, obnd_some, bnd_eq, eq_ref22_Enough, pos_both, obnd_some, bnd_eq, ed]
      simp only
      rw [← obnd_assoc, pos_two q l _ rfl, obnd_some]
      simp only
      rw [show (0 : Int) = ((0 : Nat) : Int) from rfl, ref_Tiling_l2 (qrg q) (by omega) l 0 (posT q l) (Nat.zero_le _), obnd_some]
      cases tl2 (qrg q) l 0 (posT q l) with
      | ret e => rfl
      | nxt a =>
        rw [ocbnd_nxt]
        simp only
        by_cases ha : a < ((qrg q).length : Int)
        · rw [decide_eq_true ha, sel_true, if_pos ha]
          by_cases hk : q.Kind = 3
          · rw [decide_eq_true hk, sel_true]
            cases enough q ((rowsW l).length : Int) with
            | true => rw [if_pos ⟨hk, rfl⟩]; rfl
            | false => rw [if_neg (by simp)]; rfl
          · rw [decide_eq_false hk, sel_false, if_neg (by simp [hk])]; rfl
        · rw [decide_eq_false ha, sel_false, if_neg ha]
  · rw [decide_eq_false h0, Bool.not_false, sel_true, if_pos h0]
end Go.Proofs.YtohpjdeohpamaaaGreatDoor
