/-
  Lemmas: Totality
-/
import Derived.Test.YtohpjdeohpamaaaGreatDoorPA9
import Derived.Test.YtohpjdeohpamaaaGreatDoorPA10
import Derived.Test.YtohpjdeohpamaaaGreatDoorPA13
import Derived.Test.YtohpjdeohpamaaaGreatDoorPA14
import Derived.Deep.Slices
import Derived.Test.YtohpjdeohpamaaaGreatDoorPA18
import Derived.Test.YtohpjdeohpamaaaGreatDoorPA19
import Derived.Test.YtohpjdeohpamaaaGreatDoorPA21
import Derived.Test.YtohpjdeohpamaaaGreatDoorPA24
import Derived.Test.YtohpjdeohpamaaaGreatDoorPA25
import Derived.Test.YtohpjdeohpamaaaGreatDoorPA22
import Derived.Test.YtohpjdeohpamaaaGreatDoorPA26
import Derived.Test.YtohpjdeohpamaaaGreatDoorPA20
import Derived.Test.YtohpjdeohpamaaaGreatDoorPA23
import Derived.Test.YtohpjdeohpamaaaGreatDoorPA27
import Derived.Test.YtohpjdeohpamaaaGreatDoorPA15
import Derived.Test.YtohpjdeohpamaaaGreatDoorPA16
set_option linter.unusedSimpArgs false
set_option linter.unusedVariables false
namespace Go.Proofs.YtohpjdeohpamaaaGreatDoor
open Go.RowKit
attribute [local irreducible] tpb
theorem vld_of_emp {r : Rng} (h : emp r = false) : vld r = true := by
  simp only [emp, Bool.or_eq_false_iff, Bool.not_eq_false'] at h; exact h.1
abbrev qmade (k : Int) (l : List Rng) (key : ByteArray) (c : Int) : Prop := qchk k l key c = 0 ∧ l.length ≤ 4 ∧ 0 ≤ c ∧ c ≤ 1024 ∧ key.size ≤ 64
theorem qmade_1 {l : List Rng} (h : ∀ r ∈ l, emp r = false) (hl : l.length ≤ 4) : qmade 1 l ⟨#[]⟩ 0 := by
  refine ⟨?_, hl, by omega, by omega, by decide⟩
  have h1 : l.all vld = true := List.all_eq_true.2 fun r hr => vld_of_emp (h r hr)
  have h2 : vk ⟨#[]⟩ = true := by kernel_rfl
  have h3 : ¬ 64 < l.length := by omega
  simp [qchk, h1, h2, h3]
theorem qmade_2 {key : ByteArray} (h : key.size ≤ 64) : qmade 2 [] key 0 := by
  have h2 : vk key = true := by simpa [vk] using h
  exact ⟨by simp [qchk, h2], by simp, by omega, by omega, h⟩
theorem qmade_3 {k c : Int} {key : ByteArray} (hk : k = 3 ∨ k = 4) (h : key.size ≤ 64) (hc : c ∈ [(1 : Int), 2, 3, 5, 1024]) : qmade k [] key c := by
  have h2 : vk key = true := by simpa [vk] using h
  simp only [List.mem_cons, List.not_mem_nil, or_false] at hc
  refine ⟨?_, by simp, by omega, by omega, h⟩
  rcases hk with rfl | rfl <;> rcases hc with rfl | rfl | rfl | rfl | rfl <;> simp [qchk, h2]
attribute [local irreducible] WK WC WL Wk Rel OpD OpV WD WO Op.bytesLess cmp vk vb vld emp contains
section
variable {Γ : Cx} {k : Kont} {sl : List (Nat × V)} {hp : Hp} {o : Oper} {ops : Array Oper} {d kt : Nat} {uc : List V} {x : Operand} {xs : Array Operand} {ats : Array TypeId} {rest : List Oper}
end
end Go.Proofs.YtohpjdeohpamaaaGreatDoor
namespace Go.Proofs.YtohpjdeohpamaaaGreatDoor
open Go.RowKit
section
variable {α β R S : Type}
end
section
variable {Γ : Cx} {k : Kont} {st st' : St} {x y : Code} {c : Operand} {b : Bool} {id : Nat}
end
section
variable {P : Program} {o : Oper} {H : Hp} {sl : List (Nat × V)} {x y z : Operand} {T U E t : TypeId} {zz bytes : Nat} {i j : Int} {s s' : ByteArray} {kk : IntKind} {k d k' : Nat}
end
section
variable {Γ : Cx} {P : Program} {k : Kont} {sl : List (Nat × V)} {H hp : Hp} {o : Oper} {ops : Array Oper} {i an d kt : Nat} {ts : List Nat} {r : List PI} {F : List Ft} {f : FuncId} {us uc : List V} {x : Operand} {xs : Array Operand} {ats : Array TypeId} {u u' : V} {rest : List Oper} {blk blk0 blk' blk1 : Blk}
theorem wd_io (hs : Spec Γ.P f us [(0, some blk)] fun u1 h1 => u1 = u ∧ h1 = [(0, some blk')]) (kt : Nat) (hop : o.op = .call { callee := .value x, args := xs, argTypes := ats }) (hx : ev (keep ts sl) x = some (.d (.c (.func (.func f) #[] #[])))) (ha : evl (keep ts sl) xs.toList = some uc) (hv : Vws [] [(0, kt)] uc us)
    (hH : look hp kt = some (some blk0)) (hb : Vb [] [(0, kt)] blk0 blk) (hu : u.ren (rn [(0, kt)] 100000) = u) (hb' : blk'.ren (rn [(0, kt)] 100000) = blk')
    (hd : o.dst = some d) (hw : Wt ops o (keep ts sl) true) (hdl : Nat.blt d Γ.nt = true) (hfr : freshB hp 100000 100 = true) (hf : okF ⟨⟨i, an, ts⟩, [kt], [kt], 100000, 100⟩ F = true) (hnd : (r.all fun q => bitN q.an i) = true)
    (hk : WD Γ ops k r (⟨⟨i, an, ts⟩, [kt], [kt], 100000, 100⟩ :: F) ⟨(d, u) :: sl, (kt, some blk') :: hp⟩) : WO Γ ops k o i an ts r F ⟨sl, hp⟩ :=
  wd_v [kt] [kt] (o_io hs kt hop hx ha hv (by rw [keep1]; exact hH) hb hu hb') hd hw hdl hfr hf hnd (by rintro _ _ ⟨rfl, rfl⟩; exact inW_1 _ _) (by rintro _ _ ⟨rfl, rfl⟩; exact hk)
end
section
variable {Γ : Cx} {P : Program} {k : Kont} {sl : List (Nat × V)} {H hp h h' : Hp} {o : Oper} {ops : Array Oper} {i an d kt : Nat} {ts : List Nat} {r : List PI} {F : List Ft} {f : FuncId} {us uc : List V} {x : Operand} {xs : Array Operand} {ats : Array TypeId} {u u' : V} {rest : List Oper}
end
section
variable {P : Program} {o : Oper} {H : Hp} {sl : List (Nat × V)} {x y : Operand} {T U E t : TypeId} {zz bytes n off k : Nat} {i : Int} {ag : Bool} {α : Type} {f : α → List D} {xs : List α} {a a' : α} {u : V}
end
section
variable {Γ : Cx} {k : Kont} {sl : List (Nat × V)} {hp : Hp} {o : Oper} {ops : Array Oper} {i an d : Nat} {ts : List Nat} {r : List PI} {F : List Ft} {x y : Operand} {T E t : TypeId} {zz bytes n off kk : Nat} {j : Int} {ag : Bool} {α : Type} {f : α → List D} {xs ys : List α} {a a' : α} {u : V}
theorem wd_sto (hg : lget xs j = some a) (he : xs.set j.toNat a' = ys) [hL : Len f zz] (hop : o.op = .store T x y) (hx : ev (keep ts sl) x = some (.e kk (j.toNat * zz + off))) (hy : ev (keep ts sl) y = some u) (hH : look hp kk = some (some (arrT E zz f xs))) (hT : Ty Γ.P T n ag) (hl : (Nat.ble (off + n) zz && (cellsV u).length == n && (cellsV u).all cellV && Nat.blt 0 n) = true)
    (hc : stV off (cellsV u) ((f a).map V.d) = (f a').map V.d) (hd : o.dst = none) (hw : Wt ops o (keep ts sl) true) (hf : okF ⟨⟨i, an, ts⟩, [kk], [kk], 0, 0⟩ F = true)
    (hk : WD Γ ops k r (⟨⟨i, an, ts⟩, [kk], [kk], 0, 0⟩ :: F) ⟨sl, (kk, some (arrT E zz f ys)) :: hp⟩) : WO Γ ops k o i an ts r F ⟨sl, hp⟩ :=
  wd_0 [kk] (o_sto hg he hop hx hy (by rw [keep1]; exact hH) hT hl hc) hd hw hf hk
end
theorem o_nilce {P : Program} {o : Oper} {H : Hp} {sl : List (Nat × V)} {x : Operand} {k off : Nat} (hop : o.op = .nilCheck x) (hx : ev sl x = some (.e k off)) : OpD P o H sl 0 0 (.e k off) [] := .read fun B a w ρ hs _ => by
  have hx' := ev_spec hs hx
  unfold execOp; rw [hop]
  generalize e : a.eval x = vx at hx'
  cases hx' with
  | e hp => exact ⟨_, by simp [e], .e hp⟩
section
variable {Γ : Cx} {P : Program} {ks : List Nat} {rs : List ResultVar} {Ψ : V → Hp → Prop} {st st' : St} {us : List V} {u : V} {h : Hp} {k : Kont} {n m : Nat}
end
section
variable {Γ : Cx} {k : Kont} {x : Code} {st st' : St} {sl : List (Nat × V)} {hp : Hp} {o : Oper} {ops : Array Oper} {d : Nat} {f : FuncId} {us uc : List V} {y : Operand} {xs : Array Operand} {ats : Array TypeId} {u : V} {rest : List Oper} {blk blk0 blk' : Blk}
end
section
variable {Γ : Cx} {k : Kont} {x y : Code} {st : St} {sl : List (Nat × V)} {hp : Hp} {o oj : Oper} {ops : Array Oper} {rest : List Oper} {c : Operand} {α : Type} {b : Bool} {m n z : α} {j t : Nat} {e : Bool}
end
end Go.Proofs.YtohpjdeohpamaaaGreatDoor
namespace Go.Proofs.YtohpjdeohpamaaaGreatDoor
open Go.ChangeShapes Go.WideShapes Go.ChangeAt Go.RowKit Go.Joins
set_option maxRecDepth 100000
def anyB (_ : Bool) : Prop := True
def szS (s : ByteArray) : Prop := s.size ≤ 9223372036854775807
section
variable {P : Program} {T E : TypeId} {W : World}
theorem opn_bool (h : P.underlying T = some .bool) : Opn P T dsB anyB := ⟨fun hx => by
  obtain ⟨b, rfl, -⟩ := DataW.trod_bool h hx
  exact ⟨b, trivial, .cons (.c rfl) .nil⟩⟩
theorem opn_str (h : P.underlying T = some .string) : Opn P T dsS szS := ⟨fun hx => by
  obtain ⟨s, rfl, -, hs⟩ := DataW.trod_string h hx
  exact ⟨s, hs, .cons (.c rfl) .nil⟩⟩
variable {H : Type} {enc : TypeId × Value → H}
theorem chain_of {ok : Nat → Prop} {cs : List Value} {xs ys : List D} {o c : Nat} (h1 : RDs W ok xs ((cs.drop o).take c)) (h2 : RDs W ok ys (cs.drop (o + c))) : RDs W ok (xs ++ ys) (cs.drop o) := by
  have := h1.append h2
  rwa [← List.drop_drop, List.take_append_drop] at this
theorem fin_of {ok : Nat → Prop} {cs : List Value} {n : Nat} (hl : cs.length = P.cellsOf T) (hc : P.cellsOf T = n) : RDs W ok [] (cs.drop n) := by
  rw [List.drop_eq_nil_of_le (by omega)]
  exact .nil
end
end Go.Proofs.YtohpjdeohpamaaaGreatDoor
namespace Go.Proofs.YtohpjdeohpamaaaGreatDoor
open Go.RowKit
set_option maxRecDepth 100000
set_option maxHeartbeats 4000000
attribute [local irreducible] WK WC WL Wk Rel OpD OpV WD WO sel bnd obnd app lget lsl sget ssl scat letg iquo irem Op.bytesLess
def Mwld_Tape_Pick (t1 : TTape) (l2 : List Int) : Option (Int × TTape) :=
 obnd (Mwld_Tape_Next t1 (l2.length : Int)) fun y3 =>
 obnd (lget l2 y3.1) fun e4 =>
 some (e4, y3.2)
theorem Mwld_Tape_Pick_sp {t1 : TTape} {l2 : List Int} {y : (Int × TTape)} (hm : Mwld_Tape_Pick t1 l2 = some y) : Spec Tryz.prog 41 [.p 0 0, .d (lst dsI l2)] [(0, some (.box 89 [.d (lst dsI t1.l), vI t1.at_]))] fun u h => u = vI y.1 ∧ h = [(0, some (.box 89 [.d (lst dsI y.2.l), vI y.2.at_]))] := by
 refine si Tryz.func41 Tryz.ntmps41 Tryz.results41 fun B w0 ρ0 => ?_
 unfold Mwld_Tape_Pick at hm
 refine sr ?_
 refine sr ?_
 obtain ⟨y3, hy, hm⟩ := obnd_o hm
 refine wl_iq (Mwld_Tape_Next_sp (hm := hy)) 0 ?_
 refine ss ?_
 obtain ⟨e4, hy, hm⟩ := obnd_o hm
 refine wl_r (o_ixg (ys := [dI e4]) hy rfl rfl rfl rfl) rfl rfl rfl ?_
 refine sx ?_
 cases hm
 exact wk_reti [(0, 0)] ⟨rfl, rfl⟩

def Mwld_Tape_OddKey (t1 : TTape) : Option (ByteArray × TTape) :=
 obnd (Mwld_Tape_Bool t1 10) fun y2 =>
 sel y2.1 (
  obnd (Mwld_Tape_Next y2.2 6) fun y3 =>
  obnd (letg y3.1) fun s4 =>
  obnd (Mwld_long s4 65) fun y5 =>
  some (y5, y3.2)) (
  obnd (Mwld_Tape_Key y2.2) fun y6 =>
  some (y6.1, y6.2))
theorem Mwld_Tape_OddKey_sp {t1 : TTape} {y : (ByteArray × TTape)} (hm : Mwld_Tape_OddKey t1 = some y) : Spec Tryz.prog 48 [.p 0 0] [(0, some (.box 89 [.d (lst dsI t1.l), vI t1.at_]))] fun u h => u = vS y.1 ∧ h = [(0, some (.box 89 [.d (lst dsI y.2.l), vI y.2.at_]))] := by
 refine si Tryz.func48 Tryz.ntmps48 Tryz.results48 fun B w0 ρ0 => ?_
 unfold Mwld_Tape_OddKey at hm
 refine sr ?_
 refine sr ?_
 obtain ⟨y2, hy, hm⟩ := obnd_o hm
 refine wl_iq (Mwld_Tape_Bool_sp (hm := hy)) 0 ?_
 refine ss ?_
 refine wc_cs hm ?_ ?_ <;> clear hm <;> intro hm
 ·refine sr ?_
  obtain ⟨y3, hy, hm⟩ := obnd_o hm
  refine wl_iq (Mwld_Tape_Next_sp (hm := hy)) 0 ?_
  refine ss ?_
  obtain ⟨s4, hy, hm⟩ := obnd_o hm
  refine wl_r (o_letg hy rfl rfl (by exact inferInstance) (by exact inferInstance)) rfl rfl rfl ?_
  refine ss ?_
  obtain ⟨y5, hy, hm⟩ := obnd_o hm
  refine wl_cq (Mwld_long_sp (hm := hy)) ?_
  refine sx ?_
  cases hm
  exact wk_reti [(0, 0)] ⟨rfl, rfl⟩
 refine sx ?_
 refine sr ?_
 obtain ⟨y6, hy, hm⟩ := obnd_o hm
 refine wl_iq (Mwld_Tape_Key_sp (hm := hy)) 0 ?_
 refine sx ?_
 cases hm
 exact wk_reti [(0, 0)] ⟨rfl, rfl⟩

def Mwld_Tape_Bound (t1 : TTape) : Option (Bnd × TTape) :=
 obnd (Mwld_Tape_Next t1 9) fun y2 =>
 sel (decide (y2.1 = 7)) (
  some ((Bnd.mk ⟨#[]⟩ true), y2.2)) (
  sel (decide (y2.1 = 8)) (
   obnd (Mwld_Tape_OddKey y2.2) fun y3 =>
   obnd (Mwld_Tape_Bool y3.2 3) fun y4 =>
   some ((Bnd.mk y3.1 y4.1), y4.2)) (
   obnd (Mwld_Tape_Key y2.2) fun y5 =>
   some ((Bnd.mk y5.1 false), y5.2)))
theorem Mwld_Tape_Bound_sp {t1 : TTape} {y : (Bnd × TTape)} (hm : Mwld_Tape_Bound t1 = some y) : Spec Tryz.prog 81 [.p 0 0] [(0, some (.box 89 [.d (lst dsI t1.l), vI t1.at_]))] fun u h => u = .a [vS y.1.key, vB y.1.top] ∧ h = [(0, some (.box 89 [.d (lst dsI y.2.l), vI y.2.at_]))] := by
 refine si Tryz.func81 Tryz.ntmps81 Tryz.results81 fun B w0 ρ0 => ?_
 unfold Mwld_Tape_Bound at hm
 refine sr ?_
 refine sr ?_
 obtain ⟨y2, hy, hm⟩ := obnd_o hm
 refine wl_iq (Mwld_Tape_Next_sp (hm := hy)) 0 ?_
 refine sr ?_
 refine wc_cs hm ?_ ?_ <;> clear hm <;> intro hm
 ·refine sr ?_
  refine sx ?_
  cases hm
  exact wk_reti [(0, 0)] ⟨rfl, rfl⟩
 refine sr ?_
 refine wc_cs hm ?_ ?_ <;> clear hm <;> intro hm
 ·refine sr ?_
  obtain ⟨y3, hy, hm⟩ := obnd_o hm
  refine wl_iq (Mwld_Tape_OddKey_sp (hm := hy)) 0 ?_
  refine ss ?_
  obtain ⟨y4, hy, hm⟩ := obnd_o hm
  refine wl_iq (Mwld_Tape_Bool_sp (hm := hy)) 0 ?_
  refine sx ?_
  cases hm
  exact wk_reti [(0, 0)] ⟨rfl, rfl⟩
 refine sx ?_
 refine sr ?_
 obtain ⟨y5, hy, hm⟩ := obnd_o hm
 refine wl_iq (Mwld_Tape_Key_sp (hm := hy)) 0 ?_
 refine sx ?_
 cases hm
 exact wk_reti [(0, 0)] ⟨rfl, rfl⟩

def Mwld_Tape_Range (t1 : TTape) : Option (Rng × TTape) :=
 obnd (Mwld_Tape_Bound t1) fun y2 =>
 obnd (Mwld_Tape_Bound y2.2) fun y3 =>
 obnd (Mwld_Tape_Bool y3.2 6) fun y4 =>
 sel (!y4.1) (
  sel y2.1.top (
   some ((Rng.mk y3.1 y2.1), y4.2)) (
   sel (!y3.1.top) (
    sel (bl y3.1.key y2.1.key) (
     some ((Rng.mk y3.1 y2.1), y4.2)) (
     some ((Rng.mk y2.1 y3.1), y4.2))) (
    some ((Rng.mk y2.1 y3.1), y4.2)))) (
  some ((Rng.mk y2.1 y3.1), y4.2))
theorem Mwld_Tape_Range_sp {t1 : TTape} {y : (Rng × TTape)} (hm : Mwld_Tape_Range t1 = some y) : Spec Tryz.prog 49 [.p 0 0] [(0, some (.box 89 [.d (lst dsI t1.l), vI t1.at_]))] fun u h => u = .a [vS y.1.lo.key, vB y.1.lo.top, vS y.1.hi.key, vB y.1.hi.top] ∧ h = [(0, some (.box 89 [.d (lst dsI y.2.l), vI y.2.at_]))] := by
 refine si Tryz.func49 Tryz.ntmps49 Tryz.results49 fun B w0 ρ0 => ?_
 unfold Mwld_Tape_Range at hm
 refine sr ?_
 refine sr ?_
 obtain ⟨y2, hy, hm⟩ := obnd_o hm
 refine wl_iq (Mwld_Tape_Bound_sp (hm := hy)) 0 ?_
 refine ss ?_
 obtain ⟨y3, hy, hm⟩ := obnd_o hm
 refine wl_iq (Mwld_Tape_Bound_sp (hm := hy)) 0 ?_
 refine sr ?_
 obtain ⟨y4, hy, hm⟩ := obnd_o hm
 refine wl_iq (Mwld_Tape_Bool_sp (hm := hy)) 0 ?_
 refine ss ?_
 refine wl_sg hm ?_ ?_ <;> clear hm <;> intro hm
 ·refine ss ?_
  refine wl_sg hm ?_ ?_ <;> clear hm <;> intro hm
  ·refine ss ?_
   refine wc_cond_t rfl ?_
   refine sr ?_
   refine sr ?_
   refine sx ?_
   cases hm
   exact wk_reti [(0, 0)] ⟨rfl, rfl⟩
  refine ss ?_
  refine wl_sg hm ?_ ?_ <;> clear hm <;> intro hm
  ·refine ss ?_
   refine wc_cs hm ?_ ?_ <;> clear hm <;> intro hm
   ·refine sr ?_
    refine sr ?_
    refine sx ?_
    cases hm
    exact wk_reti [(0, 0)] ⟨rfl, rfl⟩
   refine sx ?_
   refine sr ?_
   refine sx ?_
   cases hm
   exact wk_reti [(0, 0)] ⟨rfl, rfl⟩
  refine ss ?_
  refine wc_cond_f rfl ?_
  refine sx ?_
  refine sr ?_
  refine sx ?_
  cases hm
  exact wk_reti [(0, 0)] ⟨rfl, rfl⟩
 refine ss ?_
 refine wc_cond_f rfl ?_
 refine sx ?_
 refine sr ?_
 refine sx ?_
 cases hm
 exact wk_reti [(0, 0)] ⟨rfl, rfl⟩

def Mwld_Tape_Proper (t1 : TTape) : Option (Rng × TTape) :=
 obnd (Mwld_Tape_Range t1) fun y2 =>
 bnd (Mref1_Empty y2.1) fun y3 =>
 sel y3 (
  some ((Rng.mk (Bnd.mk ⟨#[98]⟩ false) (Bnd.mk ⟨#[]⟩ true)), y2.2)) (
  some (y2.1, y2.2))
theorem Mwld_Tape_Proper_sp {t1 : TTape} {y : (Rng × TTape)} (hm : Mwld_Tape_Proper t1 = some y) : Spec Tryz.prog 40 [.p 0 0] [(0, some (.box 89 [.d (lst dsI t1.l), vI t1.at_]))] fun u h => u = .a [vS y.1.lo.key, vB y.1.lo.top, vS y.1.hi.key, vB y.1.hi.top] ∧ h = [(0, some (.box 89 [.d (lst dsI y.2.l), vI y.2.at_]))] := by
 refine si Tryz.func40 Tryz.ntmps40 Tryz.results40 fun B w0 ρ0 => ?_
 unfold Mwld_Tape_Proper at hm
 refine sr ?_
 refine sr ?_
 obtain ⟨y2, hy, hm⟩ := obnd_o hm
 refine wl_iq (Mwld_Tape_Range_sp (hm := hy)) 0 ?_
 refine sr ?_
 obtain ⟨y3, hy, hm⟩ := bnd_o hm
 refine wl_cq (Mref1_Empty_sp (hm := hy)) ?_
 refine ss ?_
 refine wc_cs hm ?_ ?_ <;> clear hm <;> intro hm
 ·refine sr ?_
  refine sx ?_
  cases hm
  exact wk_reti [(0, 0)] ⟨rfl, rfl⟩
 refine sx ?_
 refine sr ?_
 refine sx ?_
 cases hm
 exact wk_reti [(0, 0)] ⟨rfl, rfl⟩

def Mwld_Tape_OddValue (t1 : TTape) : Option (ByteArray × TTape) :=
 obnd (Mwld_Tape_Bool t1 12) fun y2 =>
 sel y2.1 (
  obnd (Mwld_long ⟨#[118]⟩ 65) fun y3 =>
  some (y3, y2.2)) (
  obnd (Mwld_Tape_Value y2.2) fun y4 =>
  some (y4.1, y4.2))
theorem Mwld_Tape_OddValue_sp {t1 : TTape} {y : (ByteArray × TTape)} (hm : Mwld_Tape_OddValue t1 = some y) : Spec Tryz.prog 56 [.p 0 0] [(0, some (.box 89 [.d (lst dsI t1.l), vI t1.at_]))] fun u h => u = vS y.1 ∧ h = [(0, some (.box 89 [.d (lst dsI y.2.l), vI y.2.at_]))] := by
 refine si Tryz.func56 Tryz.ntmps56 Tryz.results56 fun B w0 ρ0 => ?_
 unfold Mwld_Tape_OddValue at hm
 refine sr ?_
 refine sr ?_
 obtain ⟨y2, hy, hm⟩ := obnd_o hm
 refine wl_iq (Mwld_Tape_Bool_sp (hm := hy)) 0 ?_
 refine ss ?_
 refine wc_cs hm ?_ ?_ <;> clear hm <;> intro hm
 ·refine sr ?_
  obtain ⟨y3, hy, hm⟩ := obnd_o hm
  refine wl_cq (Mwld_long_sp (hm := hy)) ?_
  refine sx ?_
  cases hm
  exact wk_reti [(0, 0)] ⟨rfl, rfl⟩
 refine sx ?_
 refine sr ?_
 obtain ⟨y4, hy, hm⟩ := obnd_o hm
 refine wl_iq (Mwld_Tape_Value_sp (hm := hy)) 0 ?_
 refine sx ?_
 cases hm
 exact wk_reti [(0, 0)] ⟨rfl, rfl⟩

def Mwld_Tape_Row (t1 : TTape) : Option (Kv × TTape) :=
 obnd (Mwld_Tape_OddKey t1) fun y2 =>
 obnd (Mwld_Tape_OddValue y2.2) fun y3 =>
 some ((Kv.mk y2.1 y3.1), y3.2)
theorem Mwld_Tape_Row_sp {t1 : TTape} {y : (Kv × TTape)} (hm : Mwld_Tape_Row t1 = some y) : Spec Tryz.prog 57 [.p 0 0] [(0, some (.box 89 [.d (lst dsI t1.l), vI t1.at_]))] fun u h => u = .a [vS y.1.key, vS y.1.val] ∧ h = [(0, some (.box 89 [.d (lst dsI y.2.l), vI y.2.at_]))] := by
 refine si Tryz.func57 Tryz.ntmps57 Tryz.results57 fun B w0 ρ0 => ?_
 unfold Mwld_Tape_Row at hm
 refine sr ?_
 refine sr ?_
 obtain ⟨y2, hy, hm⟩ := obnd_o hm
 refine wl_iq (Mwld_Tape_OddKey_sp (hm := hy)) 0 ?_
 refine ss ?_
 obtain ⟨y3, hy, hm⟩ := obnd_o hm
 refine wl_iq (Mwld_Tape_OddValue_sp (hm := hy)) 0 ?_
 refine sx ?_
 cases hm
 exact wk_reti [(0, 0)] ⟨rfl, rfl⟩

def Mwld_Tape_OddRows (t1 : TTape) (l2 : List Kv) : Option (List Kv × TTape) :=
 obnd (app ([] : List Kv) l2) fun l3 =>
 obnd (
  obnd (Mwld_Tape_Bool t1 3) fun y4 =>
  sel y4.1 (
   some (y4.2.l, y4.2.at_, decide (1 < (l3.length : Int)))) (
   some (y4.2.l, y4.2.at_, false)) : Option (List Int × Int × Bool)) fun (x5, x6, x7) =>
 sel x7 (
  obnd (Mwld_Tape_Next (TTape.mk x5 x6) (i64w ((l3.length : Int) - 1))) fun y8 =>
  obnd (lget l3 (i64w (y8.1 + 1))) fun e9 =>
  obnd (lget l3 y8.1) fun e10 =>
  obnd (lget l3 y8.1) fun e11 =>
  bnd (e9) fun e13 =>
  bnd (l3.set (Int.toNat y8.1) e13) fun l12 =>
  obnd (lget l12 (i64w (y8.1 + 1))) fun e14 =>
  bnd (e10) fun e16 =>
  bnd (l12.set (Int.toNat (i64w (y8.1 + 1))) e16) fun l15 =>
  some (l15, y8.2)) (
  obnd (
   obnd (Mwld_Tape_Bool (TTape.mk x5 x6) 3) fun y17 =>
   sel y17.1 (
    some (y17.2.l, y17.2.at_, decide (0 < (l3.length : Int)))) (
    some (y17.2.l, y17.2.at_, false)) : Option (List Int × Int × Bool)) fun (x18, x19, x20) =>
  sel x20 (
   obnd (Mwld_Tape_Next (TTape.mk x18 x19) (l3.length : Int)) fun y21 =>
   obnd (lget l3 y21.1) fun e22 =>
   obnd (app l3 ([e22] : List Kv)) fun l23 =>
   some (l23, y21.2)) (
   obnd (Mwld_Tape_Row (TTape.mk x18 x19)) fun y24 =>
   obnd (app l3 ([y24.1] : List Kv)) fun l25 =>
   some (l25, y24.2)))
theorem Mwld_Tape_OddRows_sp {t1 : TTape} {l2 : List Kv} {y : (List Kv × TTape)} (hm : Mwld_Tape_OddRows t1 l2 = some y) : Spec Tryz.prog 21 [.p 0 0, .d (lst Kv.ds l2)] [(0, some (.box 89 [.d (lst dsI t1.l), vI t1.at_]))] fun u h => u = .d (lst Kv.ds y.1) ∧ h = [(0, some (.box 89 [.d (lst dsI y.2.l), vI y.2.at_]))] := by
 refine si Tryz.func21 Tryz.ntmps21 Tryz.results21 fun B w0 ρ0 => ?_
 unfold Mwld_Tape_OddRows at hm
 refine sr ?_
 refine sr ?_
 obtain ⟨l3, hy, hm⟩ := obnd_o hm
 refine wl_1 (n_appn (k := 107) hy rfl rfl rfl rfl rfl rfl) rfl rfl rfl rfl ?_
 refine ss ?_
 refine wc_seq ?_
 refine wc_block ?_
 refine wc_seq ?_
 obtain ⟨mu1, hm1, hm⟩ := obnd_o hm
 refine wc_cut' (fun st => ∃ (x5 : List Int) (x6 : Int) (x7 : Bool), mu1 = (x5, x6, x7) ∧ st = ⟨[(0, .p 0 0), (1, .h 107), (13, vB x7)], [(0, some (.box 89 [.d (lst dsI x5), vI x6])), (107, some (arrT 81 2 Kv.ds l3))]⟩) ?_ ?_
 ·refine sr ?_
  obtain ⟨y4, hy, hm1⟩ := obnd_o hm1
  refine wl_iq (Mwld_Tape_Bool_sp (hm := hy)) 0 ?_
  refine ss ?_
  refine wl_sg hm1 ?_ ?_ <;> clear hm1 <;> intro hm1
  ·refine ss ?_
   cases hm1
   exact wk_cutw [(0, 0), (107, 107)] ⟨_, _, _, rfl, rfl⟩
  refine ss ?_
  cases hm1
  exact wk_cutw [(0, 0), (107, 107)] ⟨_, _, _, rfl, rfl⟩
 rintro _ ⟨x5, x6, x7, rfl, rfl⟩
 refine ss ?_
 refine wc_cs hm ?_ ?_ <;> clear hm <;> intro hm
 ·refine sr ?_
  obtain ⟨y8, hy, hm⟩ := obnd_o hm
  refine wl_iq (Mwld_Tape_Next_sp (hm := hy)) 0 ?_
  refine ss ?_
  refine wc_draw (id := 5) [⟨0, 0, [1]⟩, ⟨1, 0, [5]⟩, ⟨2, 0, [1]⟩, ⟨3, 0, [5]⟩, ⟨4, 8, [29]⟩, ⟨5, 0, [1]⟩, ⟨6, 0, [5]⟩, ⟨7, 64, [32]⟩, ⟨8, 224, [31, 33]⟩, ⟨9, 480, [34]⟩, ⟨10, 0, [1]⟩, ⟨11, 0, [5]⟩, ⟨12, 3072, [36, 37]⟩, ⟨13, 7168, [38]⟩, ⟨14, 16355, [26, 27]⟩, ⟨15, 32739, [35, 40]⟩, ⟨16, 65535, [28, 30]⟩, ⟨17, 131071, [39, 41]⟩] mixed (by kernel_rfl) ?_
  refine ss ?_
  refine wd_r [] (o_add rfl rfl rfl rfl) rfl (by first | exact .no rfl | exact .y rfl rfl rfl rfl) rfl rfl ?_
  refine ss ?_
  refine wd_r [] (o_add rfl rfl rfl rfl) rfl (by first | exact .no rfl | exact .y rfl rfl rfl rfl) rfl rfl ?_
  refine ss ?_
  obtain ⟨e9, hy, hm⟩ := obnd_o hm
  have hge9 := hy
  refine wd_ixo hy rfl rfl rfl rfl rfl (by first | exact .no rfl | exact .y rfl rfl rfl rfl) rfl rfl ?_
  refine ss ?_
  refine wd_ldo (kk := 107) (f := Kv.ds) (zz := 2) (u := .a [vS e9.key, vS e9.val]) (off := 0) hge9 rfl rfl rfl (by exact inferInstance) rfl rfl rfl (by first | exact .no rfl | exact .y rfl rfl rfl rfl) rfl rfl ?_
  refine ss ?_
  obtain ⟨e10, hy, hm⟩ := obnd_o hm
  have hge10 := hy
  refine wd_ixo hy rfl rfl rfl rfl rfl (by first | exact .no rfl | exact .y rfl rfl rfl rfl) rfl rfl ?_
  refine ss ?_
  refine wd_ldo (kk := 107) (f := Kv.ds) (zz := 2) (u := .a [vS e10.key, vS e10.val]) (off := 0) hge10 rfl rfl rfl (by exact inferInstance) rfl rfl rfl (by first | exact .no rfl | exact .y rfl rfl rfl rfl) rfl rfl ?_
  refine ss ?_
  obtain ⟨e11, hy, hm⟩ := obnd_o hm
  have hge11 := hy
  refine wd_ixo hy rfl rfl rfl rfl rfl (by first | exact .no rfl | exact .y rfl rfl rfl rfl) rfl rfl ?_
  refine ss ?_
  obtain ⟨e13, hy, hm⟩ := bnd_o hm
  have hxe13 := hy
  refine ss ?_
  obtain ⟨l12, hy, hm⟩ := bnd_o hm
  refine wd_sto (kk := 107) (f := Kv.ds) (zz := 2) (off := 0) hge11 hy rfl rfl rfl rfl (by exact inferInstance) rfl (by rw [← hxe13]; rfl) rfl (by first | exact .no rfl | exact .y rfl rfl rfl rfl) rfl ?_
  have hge13 := lget_set hge11 e13
  rw [hy] at hge13
  refine ss ?_
  obtain ⟨e14, hy, hm⟩ := obnd_o hm
  have hge14 := hy
  refine wd_ixo hy rfl rfl rfl rfl rfl (by first | exact .no rfl | exact .y rfl rfl rfl rfl) rfl rfl ?_
  refine ss ?_
  obtain ⟨e16, hy, hm⟩ := bnd_o hm
  have hxe16 := hy
  refine ss ?_
  obtain ⟨l15, hy, hm⟩ := bnd_o hm
  refine wd_sto (kk := 107) (f := Kv.ds) (zz := 2) (off := 0) hge14 hy rfl rfl rfl rfl (by exact inferInstance) rfl (by rw [← hxe16]; rfl) rfl (by first | exact .no rfl | exact .y rfl rfl rfl rfl) rfl ?_
  have hge16 := lget_set hge14 e16
  rw [hy] at hge16
  refine sr ?_
  refine sx ?_
  cases hm
  exact wk_reti [(0, 0)] ⟨rfl, rfl⟩
 refine wc_seq ?_
 obtain ⟨mu1, hm1, hm⟩ := obnd_o hm
 refine wc_cut' (fun st => ∃ (x18 : List Int) (x19 : Int) (x20 : Bool), mu1 = (x18, x19, x20) ∧ st = ⟨[(0, .p 0 0), (1, .h 107), (42, vB x20)], [(0, some (.box 89 [.d (lst dsI x18), vI x19])), (107, some (arrT 81 2 Kv.ds l3))]⟩) ?_ ?_
 ·refine sr ?_
  obtain ⟨y17, hy, hm1⟩ := obnd_o hm1
  refine wl_iq (Mwld_Tape_Bool_sp (hm := hy)) 0 ?_
  refine ss ?_
  refine wl_sg hm1 ?_ ?_ <;> clear hm1 <;> intro hm1
  ·refine ss ?_
   cases hm1
   exact wk_cutw [(0, 0), (107, 107)] ⟨_, _, _, rfl, rfl⟩
  refine ss ?_
  cases hm1
  exact wk_cutw [(0, 0), (107, 107)] ⟨_, _, _, rfl, rfl⟩
 rintro _ ⟨x18, x19, x20, rfl, rfl⟩
 refine ss ?_
 refine wc_cs hm ?_ ?_ <;> clear hm <;> intro hm
 ·refine sr ?_
  obtain ⟨y21, hy, hm⟩ := obnd_o hm
  refine wl_iq (Mwld_Tape_Next_sp (hm := hy)) 0 ?_
  refine ss ?_
  obtain ⟨e22, hy, hm⟩ := obnd_o hm
  have hge22 := hy
  refine wl_r (o_ixo hy rfl rfl rfl rfl) rfl rfl rfl ?_
  refine ss ?_
  refine wl_r (o_ldo (k := 107) (f := Kv.ds) (zz := 2) (u := .a [vS e22.key, vS e22.val]) (off := 0) hge22 rfl rfl rfl (by exact inferInstance) rfl rfl) rfl rfl rfl ?_
  refine ss ?_
  refine wl_bt Kv.ds [e22] rfl rfl (by simp only [flatV, cellsV, List.cons_append, List.nil_append, List.append_nil]; exact rfl) rfl rfl rfl rfl rfl rfl ?_
  refine ss ?_
  obtain ⟨l23, hy, hm⟩ := obnd_o hm
  refine wl_2 (n_app (k' := 159) hy rfl rfl rfl rfl rfl rfl rfl rfl) rfl rfl rfl rfl ?_
  refine sr ?_
  refine sx ?_
  cases hm
  exact wk_reti [(0, 0)] ⟨rfl, rfl⟩
 refine sr ?_
 obtain ⟨y24, hy, hm⟩ := obnd_o hm
 refine wl_iq (Mwld_Tape_Row_sp (hm := hy)) 0 ?_
 refine ss ?_
 refine wl_bt Kv.ds [y24.1] rfl rfl (by simp only [flatV, cellsV, List.cons_append, List.nil_append, List.append_nil]; exact rfl) rfl rfl rfl rfl rfl rfl ?_
 refine ss ?_
 obtain ⟨l25, hy, hm⟩ := obnd_o hm
 refine wl_2 (n_app (k' := 112) hy rfl rfl rfl rfl rfl rfl rfl rfl) rfl rfl rfl rfl ?_
 refine sr ?_
 refine sx ?_
 cases hm
 exact wk_reti [(0, 0)] ⟨rfl, rfl⟩

def Mwld_Tape_Query_l1 : Nat → List Int → Int → List Rng → Int → Option (List Rng × List Int × Int)
  | 0, _, _, _, _ => none
  | fuel + 1, x4, x5, q6, i7 =>
  obnd (
   sel (decide (0 ≤ i7)) (
    some (Ctl.nxt ())) (
    some (Ctl.ret (q6, x4, x5))) : Option (Ctl (List Rng × List Int × Int) Unit)) fun mu => ocbnd mu fun (_ : Unit) =>
  obnd (Mwld_Tape_Proper (TTape.mk x4 x5)) fun y8 =>
  obnd (app q6 ([y8.1] : List Rng)) fun l9 =>
  Mwld_Tape_Query_l1 fuel y8.2.l y8.2.at_ l9 (i64w (i7 - 1))
def Mwld_Tape_Query (t1 : TTape) : Option (TQuery × TTape) :=
 obnd (Mwld_Tape_Next t1 4) fun y2 =>
 obnd (
  sel (decide (i64w (1 + y2.1) = 1)) (
   obnd (Mwld_Tape_Next y2.2 4) fun y3 =>
   obnd (
    Mwld_Tape_Query_l1 FU y3.2.l y3.2.at_ [] y3.1 : Option (List Rng × List Int × Int)) fun (q10, x11, x12) =>
   some (q10, ⟨#[]⟩, 0, x11, x12)) (
   sel (decide (i64w (1 + y2.1) = 2)) (
    obnd (Mwld_Tape_Key y2.2) fun y13 =>
    some ([], y13.1, 0, y13.2.l, y13.2.at_)) (
    obnd (Mwld_Tape_Key y2.2) fun y14 =>
    obnd (Mwld_Tape_Pick y14.2 ([1, 2, 3, 5, 1024] : List Int)) fun y15 =>
    some ([], y14.1, y15.1, y15.2.l, y15.2.at_))) : Option (List Rng × ByteArray × Int × List Int × Int)) fun (q16, q17, q18, x19, x20) =>
 some ((TQuery.mk (i64w (1 + y2.1)) q16 q17 q18), (TTape.mk x19 x20))
theorem Mwld_Tape_Query_sp {t1 : TTape} {y : (TQuery × TTape)} (hm : Mwld_Tape_Query t1 = some y) : Spec Tryz.prog 13 [.p 0 0] [(0, some (.box 89 [.d (lst dsI t1.l), vI t1.at_]))] fun u h => u = .a [vI y.1.Kind, .d (lst Rng.ds y.1.Ranges), vS y.1.Key, vI y.1.Count] ∧ h = [(0, some (.box 89 [.d (lst dsI y.2.l), vI y.2.at_]))] := by
 refine si Tryz.func13 Tryz.ntmps13 Tryz.results13 fun B w0 ρ0 => ?_
 unfold Mwld_Tape_Query at hm
 refine sr ?_
 refine sr ?_
 obtain ⟨y2, hy, hm⟩ := obnd_o hm
 refine wl_iq (Mwld_Tape_Next_sp (hm := hy)) 0 ?_
 refine ss ?_
 refine wl_r (o_add rfl rfl rfl rfl) rfl rfl rfl ?_
 refine sr ?_
 obtain ⟨mu1, hm1, hm⟩ := obnd_o hm
 refine wc_cut' (fun st => ∃ (q16 : List Rng) (q17 : ByteArray) (q18 : Int) (x19 : List Int) (x20 : Int), mu1 = (q16, q17, q18, x19, x20) ∧ st = ⟨[(2, .p 102 0), (3, .p 103 0)], [(0, some (.box 89 [.d (lst dsI x19), vI x20])), (102, some (.box 25 [vI 0, .d (.c (.slice none 0 0)), vS ⟨#[]⟩, vI 0])), (103, some (.box 25 [vI (i64w (1 + y2.1)), .d (lst Rng.ds q16), vS q17, vI q18]))]⟩) ?_ ?_
 ·refine sr ?_
  refine wc_cs hm1 ?_ ?_ <;> clear hm1 <;> intro hm1
  ·refine sr ?_
   obtain ⟨y3, hy, hm1⟩ := obnd_o hm1
   refine wl_iq (Mwld_Tape_Next_sp (hm := hy)) 0 ?_
   refine ss ?_
   obtain ⟨mu2, hm2, hm1⟩ := obnd_o hm1
   refine wc_cut' (fun st => ∃ (q10 : List Rng) (x11 : List Int) (x12 : Int), mu2 = (q10, x11, x12) ∧ st = ⟨[(2, .p 102 0), (3, .p 103 0)], [(0, some (.box 89 [.d (lst dsI x11), vI x12])), (102, some (.box 25 [vI 0, .d (.c (.slice none 0 0)), vS ⟨#[]⟩, vI 0])), (103, some (.box 25 [vI (i64w (1 + y2.1)), .d (lst Rng.ds q10), vS ⟨#[]⟩, vI 0]))]⟩) ?_ ?_
   ·refine wc_block ?_
    refine wc_wk (wk_nilb 103 1 5001 77 4 rfl rfl rfl rfl) ?_
    refine wc_loopw (fun κ st => ∃ (x4 : List Int) (x5 : Int) (q6 : List Rng) (i7 : Int), Mwld_Tape_Query_l1 κ x4 x5 q6 i7 = some mu2 ∧ st = ⟨[(0, .p 0 0), (2, .p 102 0), (3, .p 103 0), (4, vI i7)], [(0, some (.box 89 [.d (lst dsI x4), vI x5])), (102, some (.box 25 [vI 0, .d (.c (.slice none 0 0)), vS ⟨#[]⟩, vI 0])), (103, some (.box 25 [vI (i64w (1 + y2.1)), .h 5001, vS ⟨#[]⟩, vI 0])), (5001, some (arrT 77 4 Rng.ds q6))]⟩) [(0, 0), (102, 102), (103, 103), (5001, 5001)] ⟨_, _, _, _, hm2, rfl⟩ ?_
    rintro κ _ ⟨x4, x5, q6, i7, hm2, rfl⟩
    cases κ with
    | zero => rw [Mwld_Tape_Query_l1.eq_1] at hm2; cases hm2
    | succ κ =>
     rw [Mwld_Tape_Query_l1.eq_2] at hm2
     refine sr ?_
     obtain ⟨mu3, hm3, hm2⟩ := obnd_o hm2
     refine wc_cut' (fun st => mu3 = Ctl.nxt () ∧ st = ⟨[(0, .p 0 0), (2, .p 102 0), (3, .p 103 0), (4, vI i7)], [(0, some (.box 89 [.d (lst dsI x4), vI x5])), (102, some (.box 25 [vI 0, .d (.c (.slice none 0 0)), vS ⟨#[]⟩, vI 0])), (103, some (.box 25 [vI (i64w (1 + y2.1)), .h 5001, vS ⟨#[]⟩, vI 0])), (5001, some (arrT 77 4 Rng.ds q6))]⟩) ?_ ?_
     ·refine wc_cs hm3 ?_ ?_ <;> clear hm3 <;> intro hm3
      ·refine sx ?_
       cases hm3
       exact wk_cutw [(0, 0), (102, 102), (103, 103), (5001, 5001)] ⟨rfl, rfl⟩
      refine wc_exit ?_
      refine ss ?_
      cases hm3
      replace hm2 := ocbnd_r hm2
      cases hm2
      exact wk_cutw [(0, 0), (102, 102), (103, 103)] ⟨_, _, _, rfl, rfl⟩
     rintro _ ⟨rfl, rfl⟩
     replace hm2 := ocbnd_n hm2
     refine ss ?_
     refine wc_seq ?_
     refine wc_block ?_
     refine wc_draw (id := 8) [⟨0, 0, [3]⟩, ⟨1, 1, [26]⟩, ⟨2, 0, [0]⟩, ⟨3, 4, [28]⟩, ⟨4, 12, [29]⟩, ⟨5, 31, [27, 30]⟩, ⟨6, 63, [3]⟩, ⟨7, 127, [31, 32]⟩] mixed (by kernel_rfl) ?_
     refine ss ?_
     obtain ⟨y8, hy, hm2⟩ := obnd_o hm2
     refine wd_io (Mwld_Tape_Proper_sp (hm := hy)) 0 rfl rfl rfl (by repeat (first | exact Vws.nil | apply Vws.cons | exact Vw.nil | exact Vw.d _ | exact Vw.q _ | exact Vw.p rfl | apply Vw.a)) rfl (Vb.box (by repeat (first | exact Vws.nil | apply Vws.cons | exact Vw.nil | exact Vw.d _ | exact Vw.q _ | exact Vw.p rfl | apply Vw.a))) rfl rfl rfl (by first | exact .no rfl | exact .y rfl rfl rfl rfl) rfl rfl rfl rfl ?_
     refine ss ?_
     refine wd_bt Rng.ds [y8.1] rfl rfl (by simp only [flatV, cellsV, List.cons_append, List.nil_append, List.append_nil]; exact rfl) rfl rfl rfl rfl (by first | exact .no rfl | exact .y rfl rfl rfl rfl) rfl rfl ?_
     refine ss ?_
     obtain ⟨l9, hy, hm2⟩ := obnd_o hm2
     refine wd_app (k' := 131) hy rfl rfl rfl rfl rfl rfl rfl rfl (by first | exact .no rfl | exact .y rfl rfl rfl rfl) rfl rfl rfl ?_
     refine sr ?_
     exact wk_loopw [(0, 0), (102, 102), (103, 103), (5001, 131)] ⟨_, _, _, _, hm2, rfl⟩ (Nat.lt_succ_self _)
   rintro _ ⟨q10, x11, x12, rfl, rfl⟩
   refine ss ?_
   cases hm1
   exact wk_cutw [(0, 0), (102, 102), (103, 103)] ⟨_, _, _, _, _, rfl, rfl⟩
  refine sr ?_
  refine wc_cs hm1 ?_ ?_ <;> clear hm1 <;> intro hm1
  ·refine sr ?_
   obtain ⟨y13, hy, hm1⟩ := obnd_o hm1
   refine wl_iq (Mwld_Tape_Key_sp (hm := hy)) 0 ?_
   refine ss ?_
   cases hm1
   exact wk_cutw [(0, 0), (102, 102), (103, 103)] ⟨_, _, _, _, _, rfl, rfl⟩
  refine sr ?_
  obtain ⟨y14, hy, hm1⟩ := obnd_o hm1
  refine wl_iq (Mwld_Tape_Key_sp (hm := hy)) 0 ?_
  refine ss ?_
  refine wl_bt dsI [1, 2, 3, 5, 1024] rfl rfl (by simp only [flatV, cellsV, List.cons_append, List.nil_append, List.append_nil]; exact rfl) rfl rfl rfl rfl rfl rfl ?_
  refine ss ?_
  obtain ⟨y15, hy, hm1⟩ := obnd_o hm1
  refine wl_iq (Mwld_Tape_Pick_sp (hm := hy)) 0 ?_
  refine ss ?_
  cases hm1
  exact wk_cutw [(0, 0), (102, 102), (103, 103)] ⟨_, _, _, _, _, rfl, rfl⟩
 rintro _ ⟨q16, q17, q18, x19, x20, rfl, rfl⟩
 refine sr ?_
 refine sx ?_
 cases hm
 exact wk_reti [(0, 0)] ⟨rfl, rfl⟩

theorem Mref20_Same_sp {a1 : List Kv} {b2 : List Kv} {y : Bool} (hm : Mref20_Same a1 b2 = some y) : Spec Tryz.prog 27 [.d (lst Kv.ds a1), .d (lst Kv.ds b2)] [] fun u h => u = vB y ∧ h = [] := by
 refine si Tryz.func27 Tryz.ntmps27 Tryz.results27 fun B w0 ρ0 => ?_
 unfold Mref20_Same at hm
 refine sr ?_
 refine sr ?_
 refine wc_cs hm ?_ ?_ <;> clear hm <;> intro hm
 ·refine sr ?_
  refine sx ?_
  cases hm
  exact wk_r
 refine sx ?_
 refine sr ?_
 obtain ⟨mu1, hm1, hm⟩ := obnd_o hm
 refine wc_cut' (fun st => mu1 = Ctl.nxt () ∧ st = ⟨[], []⟩) ?_ ?_
 ·refine wc_block ?_
  refine wc_len 0 rfl (fun hlenm5 => ?_)
  refine wc_loopw (fun κ st => ∃ (m5 : Nat) , κ = a1.length - m5 ∧ m5 ≤ a1.length ∧ Mref20_Same_l1 a1 b2 (a1.drop m5) (m5 : Int) = some mu1 ∧ st = ⟨[(0, .d (lst Kv.ds a1)), (1, .d (lst Kv.ds b2)), (12, vI (a1.length : Int)), (13, vI (m5 : Int))], []⟩) [] ⟨0, rfl, Nat.zero_le _, hm1, rfl⟩ ?_
  rintro κ _ ⟨m5, rfl, hlem5, hm1, rfl⟩
  rcases Nat.lt_or_ge m5 a1.length with hltm5 | hgem5
  ·obtain ⟨r3, hxm5, hdr⟩ := drop_c hltm5
   rw [hdr, Mref20_Same_l1.eq_2] at hm1
   refine sr ?_
   refine wc_seq ?_
   refine wc_cond_tt (lt_t hltm5) rfl ?_
   refine sx ?_
   refine sr ?_
   refine wc_seq ?_
   refine wc_draw (id := 6) [⟨0, 0, [0]⟩, ⟨1, 0, [5]⟩, ⟨2, 3, [16, 17]⟩, ⟨3, 7, [18]⟩, ⟨4, 0, [1]⟩, ⟨5, 0, [5]⟩, ⟨6, 48, [20, 21]⟩, ⟨7, 112, [22]⟩, ⟨8, 255, [19, 23]⟩] mixed (by kernel_rfl) ?_
   refine ss ?_
   obtain ⟨e6, hy, hm1⟩ := obnd_o hm1
   refine wd_r [] (o_ixg (ys := [dS e6.key, dS e6.val]) hy rfl rfl rfl rfl) rfl (by first | exact .no rfl | exact .y rfl rfl rfl rfl) rfl rfl ?_
   refine ss ?_
   obtain ⟨e7, hy, hm1⟩ := obnd_o hm1
   refine wd_r [] (o_ixg (ys := [dS e7.key, dS e7.val]) hy rfl rfl rfl rfl) rfl (by first | exact .no rfl | exact .y rfl rfl rfl rfl) rfl rfl ?_
   refine ss ?_
   refine wc_cs hm1 ?_ ?_ <;> clear hm1 <;> intro hm1
   ·refine sr ?_
    refine sx ?_
    cases hm1
    replace hm := ocbnd_r hm
    cases hm
    exact wk_r
   refine sx ?_
   refine sr ?_
   refine wl_r (o_inc hltm5 hlenm5 rfl rfl rfl) rfl rfl rfl ?_
   refine ss ?_
   exact wk_loopw [] ⟨m5 + 1, rfl, hltm5, hm1, rfl⟩ (by omega)
  ·rw [drop_n hgem5, Mref20_Same_l1.eq_1] at hm1
   refine sr ?_
   refine wc_seq ?_
   refine wc_cond_ff (lt_f hgem5) rfl ?_
   refine wc_exit ?_
   refine ss ?_
   cases hm1
   exact wk_cutw [] ⟨rfl, rfl⟩
 rintro _ ⟨rfl, rfl⟩
 replace hm := ocbnd_n hm
 refine sr ?_
 refine sx ?_
 cases hm
 exact wk_r

end Go.Proofs.YtohpjdeohpamaaaGreatDoor
namespace Go.Proofs.YtohpjdeohpamaaaGreatDoor
open Go.RowKit
theorem pick_ok {τ : TTape} (h : okT τ) (l : List Int) (h1 : 0 < l.length) (h2 : l.length ≤ 1000) : ∃ x τ', Mwld_Tape_Pick τ l = some (x, τ') ∧ okT τ' ∧ x ∈ l := by
  obtain ⟨x, τ', e, h', h3⟩ := next_ok h (l.length : Int) (by omega)
  unfold Cho at h3
  unfold Mwld_Tape_Pick
  obtain ⟨m, rfl⟩ := Int.eq_ofNat_of_zero_le h3.1
  rw [e, obnd_some]
  simp only
  rw [lget_nat, List.getElem?_eq_getElem (by omega), obnd_some]
  exact ⟨_, _, rfl, h', List.getElem_mem _⟩
theorem oddKey_ok {τ : TTape} (h : okT τ) : ∃ k τ', Mwld_Tape_OddKey τ = some (k, τ') ∧ okT τ' ∧ k.size ≤ 65 := by
  unfold Mwld_Tape_OddKey
  obtain ⟨b, τ1, e1, h1⟩ := bool_ok h 10 (by omega)
  rw [e1, obnd_some, sel_ite]
  simp only
  split
  · obtain ⟨y, τ2, e2, h2, hy⟩ := next_ok h1 6 (by omega)
    rw [e2, obnd_some]
    obtain ⟨s, es, hs⟩ := letg_ok hy
    obtain ⟨r, er, hr⟩ := long_ok s 65 (by omega) (by omega)
    simp only
    rw [es, obnd_some, show (65 : Int) = ((65 : Nat) : Int) from rfl, er, obnd_some]
    exact ⟨_, _, rfl, h2, by rw [hr]; omega⟩
  · obtain ⟨k, τ2, e2, h2, hk⟩ := key_ok h1
    rw [e2, obnd_some]
    exact ⟨_, _, rfl, h2, by simp only; omega⟩
theorem bound_ok {τ : TTape} (h : okT τ) : ∃ b τ', Mwld_Tape_Bound τ = some (b, τ') ∧ okT τ' ∧ b.key.size ≤ 65 := by
  unfold Mwld_Tape_Bound
  obtain ⟨x, τ1, e1, h1, hx⟩ := next_ok h 9 (by omega)
  rw [e1, obnd_some, sel_ite]
  simp only
  split
  · exact ⟨_, _, rfl, h1, by decide⟩
  · rw [sel_ite]
    split
    · obtain ⟨k, τ2, e2, h2, hk⟩ := oddKey_ok h1
      obtain ⟨b, τ3, e3, h3⟩ := bool_ok h2 3 (by omega)
      rw [e2, obnd_some]; simp only; rw [e3, obnd_some]
      exact ⟨_, _, rfl, h3, hk⟩
    · obtain ⟨k, τ2, e2, h2, hk⟩ := key_ok h1
      rw [e2, obnd_some]
      exact ⟨_, _, rfl, h2, by simp only; omega⟩
theorem range_ok {τ : TTape} (h : okT τ) : ∃ r τ', Mwld_Tape_Range τ = some (r, τ') ∧ okT τ' ∧ r.lo.key.size ≤ 65 ∧ r.hi.key.size ≤ 65 := by
  unfold Mwld_Tape_Range
  obtain ⟨a, τ1, e1, h1, ha⟩ := bound_ok h
  obtain ⟨b, τ2, e2, h2, hb⟩ := bound_ok h1
  obtain ⟨c, τ3, e3, h3⟩ := bool_ok h2 6 (by omega)
  rw [e1, obnd_some]; simp only; rw [e2, obnd_some]; simp only; rw [e3, obnd_some]
  simp only [sel_ite]
  repeat' split
  all_goals first | exact ⟨_, _, rfl, h3, ha, hb⟩ | exact ⟨_, _, rfl, h3, hb, ha⟩
theorem proper_ok {τ : TTape} (h : okT τ) : ∃ r τ', Mwld_Tape_Proper τ = some (r, τ') ∧ okT τ' ∧ emp r = false := by
  unfold Mwld_Tape_Proper
  obtain ⟨r, τ1, e1, h1, -⟩ := range_ok h
  rw [e1, obnd_some, bnd_eq, eq_ref1_Empty, sel_ite]
  split
  · exact ⟨_, _, rfl, h1, by kernel_rfl⟩
  · rename_i hne
    exact ⟨_, _, rfl, h1, by simpa using hne⟩
theorem oddValue_ok {τ : TTape} (h : okT τ) : ∃ v τ', Mwld_Tape_OddValue τ = some (v, τ') ∧ okT τ' ∧ v.size ≤ 65 := by
  unfold Mwld_Tape_OddValue
  obtain ⟨b, τ1, e1, h1⟩ := bool_ok h 12 (by omega)
  rw [e1, obnd_some, sel_ite]
  simp only
  split
  · obtain ⟨r, er, hr⟩ := long_ok ⟨#[118]⟩ 65 (by decide) (by omega)
    rw [show (65 : Int) = ((65 : Nat) : Int) from rfl, er, obnd_some]
    exact ⟨_, _, rfl, h1, by rw [hr]; decide⟩
  · obtain ⟨v, τ2, e2, h2, hv⟩ := value_ok h1
    rw [e2, obnd_some]
    exact ⟨_, _, rfl, h2, by simp only; omega⟩
theorem row_ok {τ : TTape} (h : okT τ) : ∃ r τ', Mwld_Tape_Row τ = some (r, τ') ∧ okT τ' := by
  unfold Mwld_Tape_Row
  obtain ⟨k, τ1, e1, h1, hk⟩ := oddKey_ok h
  obtain ⟨v, τ2, e2, h2, hv⟩ := oddValue_ok h1
  rw [e1, obnd_some]; simp only; rw [e2, obnd_some]
  exact ⟨_, _, rfl, h2⟩
theorem oddRows_ok {τ : TTape} (h : okT τ) (l : List Kv) (hl : l.length ≤ 1000) : ∃ r τ', Mwld_Tape_OddRows τ l = some (r, τ') ∧ okT τ' ∧ r.length ≤ l.length + 1 := by
  unfold Mwld_Tape_OddRows
  rw [app_le (by simp; omega), obnd_some, List.nil_append]
  obtain ⟨b, τ1, e1, h1⟩ := bool_ok h 3 (by omega)
  rw [e1, obnd_some, sel_ite]
  simp only
  have key1 : ∀ {c : Bool} {τ1 : TTape}, okT τ1 → ∃ r τ', (obnd (obnd (Mwld_Tape_Bool τ1 3) fun y17 => sel y17.1 (some (y17.2.l, y17.2.at_, decide (0 < (l.length : Int)))) (some (y17.2.l, y17.2.at_, false))) fun (x18, x19, x20) =>
    sel x20 (
      obnd (Mwld_Tape_Next (TTape.mk x18 x19) (l.length : Int)) fun y21 =>
      obnd (lget l y21.1) fun e22 =>
      obnd (app l ([e22] : List Kv)) fun l23 =>
      some (l23, y21.2)) (
      obnd (Mwld_Tape_Row (TTape.mk x18 x19)) fun y24 =>
      obnd (app l ([y24.1] : List Kv)) fun l25 =>
      some (l25, y24.2))) = some (r, τ') ∧ okT τ' ∧ r.length ≤ l.length + 1 := by
    intro c τ1 h1
    obtain ⟨b2, τ2, e2, h2⟩ := bool_ok h1 3 (by omega)
    have rowc : ∃ r τ', (obnd (Mwld_Tape_Row τ2) fun y24 => obnd (app l ([y24.1] : List Kv)) fun l25 => some (l25, y24.2)) = some (r, τ') ∧ okT τ' ∧ r.length ≤ l.length + 1 := by
      obtain ⟨r, τ3, e3, h3⟩ := row_ok h2
      rw [e3, obnd_some, app_le (by simp; omega), obnd_some]
      exact ⟨_, _, rfl, h3, by simp⟩
    rw [e2, obnd_some, sel_ite]
    simp only
    split
    · rw [obnd_some, sel_ite]
      split
      · rename_i hd
        simp only [decide_eq_true_eq] at hd
        obtain ⟨x, τ3, e3, h3, hx⟩ := next_ok h2 (l.length : Int) (by omega)
        unfold Cho at hx
        obtain ⟨m, rfl⟩ := Int.eq_ofNat_of_zero_le hx.1
        simp only
        rw [e3, obnd_some]
        simp only
        rw [lget_nat, List.getElem?_eq_getElem (by omega), obnd_some, app_le (by simp; omega), obnd_some]
        exact ⟨_, _, rfl, h3, by simp⟩
      · exact rowc
    · rw [obnd_some, sel_ite]
      simp only [Bool.false_eq_true, if_false]
      exact rowc
  split
  · rw [obnd_some, sel_ite]
    split
    · rename_i hd
      simp only [decide_eq_true_eq] at hd
      rw [i64w_id (by omega) (by omega)]
      obtain ⟨x, τ3, e3, h3, hx⟩ := next_ok h1 ((l.length : Int) - 1) (by omega)
      unfold Cho at hx
      obtain ⟨m, rfl⟩ := Int.eq_ofNat_of_zero_le hx.1
      simp only
      rw [e3, obnd_some]
      simp only
      rw [i64w_id (by omega) (by omega), show (m : Int) + 1 = ((m + 1 : Nat) : Int) by omega]
      simp only [lget_nat, bnd_eq]
      rw [List.getElem?_eq_getElem (i := m + 1) (by omega), List.getElem?_eq_getElem (i := m) (by omega)]
      simp only [obnd_some]
      rw [List.getElem?_eq_getElem (i := m + 1) (by simp; omega), obnd_some]
      exact ⟨_, _, rfl, h3, by simp⟩
    · exact key1 (c := b) h1
  · rw [obnd_some, sel_ite]
    simp only [Bool.false_eq_true, if_false]
    exact key1 (c := b) h1
end Go.Proofs.YtohpjdeohpamaaaGreatDoor
namespace Go.Proofs.YtohpjdeohpamaaaGreatDoor
open Go.RowKit
theorem query_l1_ok : ∀ (fuel : Nat) (l : List Int) (a : Int) (q : List Rng) (i : Int), okT ⟨l, a⟩ → (i + 1).toNat < fuel → -1 ≤ i → (q.length : Int) + i ≤ 100 → (∀ r ∈ q, emp r = false) → ∃ q' l' a', Mwld_Tape_Query_l1 fuel l a q i = some (q', l', a') ∧ okT ⟨l', a'⟩ ∧ (q'.length : Int) = q.length + i + 1 ∧ ∀ r ∈ q', emp r = false
  | 0, _, _, _, _, _, h, _, _, _ => absurd h (by omega)
  | fuel + 1, l, a, q, i, h, hf, h1, hl, he => by
    rw [Mwld_Tape_Query_l1.eq_2, sel_ite]
    by_cases hi : 0 ≤ i
    · rw [if_pos (by simpa using hi), obnd_some, ocbnd_nxt]
      obtain ⟨r, τ1, e1, g1, hr⟩ := proper_ok h
      rw [e1, obnd_some, app_le (by simp; omega), obnd_some, i64w_id (by omega) (by omega)]
      obtain ⟨q', l', a', e, k1, k2, k3⟩ := query_l1_ok fuel τ1.l τ1.at_ (q ++ [r]) (i - 1) g1 (by omega) (by omega) (by simp; omega) (fun x hx => by
        rcases List.mem_append.1 hx with hx | hx
        · exact he x hx
        · rw [List.mem_singleton.1 hx]; exact hr)
      exact ⟨q', l', a', e, k1, by rw [k2]; simp; omega, k3⟩
    · rw [if_neg (by simpa using hi), obnd_some, ocbnd_ret]
      exact ⟨_, _, _, rfl, h, by omega, he⟩
def qok (q : TQuery) : Prop := qchk q.Kind q.Ranges q.Key q.Count = 0 ∧ q.Ranges.length ≤ 4 ∧ 0 ≤ q.Count ∧ q.Count ≤ 1024 ∧ q.Key.size ≤ 64
theorem query_ok {τ : TTape} (h : okT τ) : ∃ q τ', Mwld_Tape_Query τ = some (q, τ') ∧ okT τ' ∧ qok q := by
  unfold Mwld_Tape_Query
  obtain ⟨x, τ1, e1, h1, hx⟩ := next_ok h 4 (by omega)
  unfold Cho at hx
  rw [e1, obnd_some]; simp only
  rw [i64w_id (by omega) (by omega), sel_ite]
  by_cases c1 : 1 + x = 1
  · rw [if_pos (by simpa using c1)]
    obtain ⟨y, τ2, e2, h2, hy⟩ := next_ok h1 4 (by omega)
    unfold Cho at hy
    rw [e2, obnd_some]; simp only
    obtain ⟨q', l', a', e, k1, k2, k3⟩ := query_l1_ok FU τ2.l τ2.at_ [] y h2 (by unfold FU; omega) (by omega) (by simp; omega) (by simp)
    rw [e, obnd_some, obnd_some]
    simp at k2
    exact ⟨_, _, rfl, k1, by rw [c1]; exact qmade_1 (l := q') k3 (by omega)⟩
  · rw [if_neg (by simpa using c1), sel_ite]
    by_cases c2 : 1 + x = 2
    · rw [if_pos (by simpa using c2)]
      obtain ⟨k, τ2, e2, h2, hk⟩ := key_ok h1
      rw [e2, obnd_some, obnd_some]
      exact ⟨_, _, rfl, h2, by rw [c2]; exact qmade_2 hk⟩
    · rw [if_neg (by simpa using c2)]
      obtain ⟨k, τ2, e2, h2, hk⟩ := key_ok h1
      obtain ⟨c, τ3, e3, h3, hc⟩ := pick_ok h2 [1, 2, 3, 5, 1024] (by decide) (by decide)
      rw [e2, obnd_some]; simp only; rw [e3, obnd_some, obnd_some]
      exact ⟨_, _, rfl, h3, qmade_3 (k := 1 + x) (by omega) hk hc⟩
end Go.Proofs.YtohpjdeohpamaaaGreatDoor
namespace Go.Proofs.YtohpjdeohpamaaaGreatDoor
open Go.RowKit
set_option maxRecDepth 100000
set_option maxHeartbeats 4000000
attribute [local irreducible] WK WC WL Wk Rel OpD OpV WD WO sel bnd obnd app lget lsl sget ssl scat letg iquo irem Op.bytesLess
attribute [local irreducible] qchk qranges union mlk mset mput ment cpy
def Maudit_Tables_l1 : List TRecord → List Kv → List (List Kv) → Option (Ctl (List (List Kv) × Int) (List (List Kv)))
  | [], now5, out6 =>
  some (Ctl.nxt out6)
  | r7 :: xs8, now5, out6 =>
  sel (decide (r7.Kind = 1)) (
   obnd (Mtable_Apply now5 r7.Writes) fun y10 =>
   sel (!decide (y10.2 = 0)) (
    some (Ctl.ret ([], y10.2))) (
    obnd (Mclone_List_api_Row_ y10.1) fun y11 =>
    obnd (app out6 ([y11] : List (List Kv))) fun l12 =>
    Maudit_Tables_l1 xs8 y10.1 l12)) (
   obnd (Mclone_List_api_Row_ now5) fun y13 =>
   obnd (app out6 ([y13] : List (List Kv))) fun l14 =>
   Maudit_Tables_l1 xs8 now5 l14)
def Maudit_Tables (t1 : List Kv) (l2 : List TRecord) : Option (List (List Kv) × Int) :=
 sel (decide (4096 < (l2.length : Int))) (
  some ([], 3)) (
  obnd (Mtable_Valid t1) fun y3 =>
  sel (!y3) (
   some ([], 1)) (
   obnd (Mclone_List_api_Row_ t1) fun y4 =>
   obnd (
    Maudit_Tables_l1 l2 y4 [] : Option (Ctl (List (List Kv) × Int) (List (List Kv)))) fun mu => ocbnd mu fun out15 =>
   some (out15, 0)))
theorem Maudit_Tables_sp {t1 : List Kv} {l2 : List TRecord} {y : (List (List Kv) × Int)} (hm : Maudit_Tables t1 l2 = some y) : Spec Tryz.prog 35 [.d (lst Kv.ds t1), .d (lst TRecord.ds l2)] [] fun u h => u = .t [.d (lst (dsL Kv.ds) y.1), vI y.2] ∧ h = [] := by
 refine si Tryz.func35 Tryz.ntmps35 Tryz.results35 fun B w0 ρ0 => ?_
 unfold Maudit_Tables at hm
 refine sr ?_
 refine sr ?_
 refine wc_cs hm ?_ ?_ <;> clear hm <;> intro hm
 ·refine sr ?_
  refine sx ?_
  cases hm
  exact wk_r
 refine sx ?_
 refine sr ?_
 obtain ⟨y3, hy, hm⟩ := obnd_o hm
 refine wl_cq (Mtable_Valid_sp (hm := hy)) ?_
 refine ss ?_
 refine wc_cs hm ?_ ?_ <;> clear hm <;> intro hm
 ·refine sr ?_
  refine sx ?_
  cases hm
  exact wk_r
 refine sx ?_
 refine sr ?_
 obtain ⟨y4, hy, hm⟩ := obnd_o hm
 refine wl_cq (Mclone_List_api_Row__sp (hm := hy)) ?_
 refine sr ?_
 refine sr ?_
 obtain ⟨mu1, hm1, hm⟩ := obnd_o hm
 refine wc_cut' (fun st => ∃ (out15 : List (List Kv)), mu1 = Ctl.nxt out15 ∧ st = ⟨[(7, .d (lst (dsL Kv.ds) out15))], []⟩) ?_ ?_
 ·refine wc_block ?_
  refine wc_wk (wk_nil 7 5001 26 1 rfl rfl) ?_
  refine wc_len 20 rfl (fun hlenm9 => ?_)
  refine wc_loopw (fun κ st => ∃ (m9 : Nat) (now5 : List Kv) (out6 : List (List Kv)), κ = l2.length - m9 ∧ m9 ≤ l2.length ∧ Maudit_Tables_l1 (l2.drop m9) now5 out6 = some mu1 ∧ st = ⟨[(6, .d (lst Kv.ds now5)), (7, .h 5001), (20, .d (lst TRecord.ds l2)), (21, vI (l2.length : Int)), (22, vI (m9 : Int))], [(5001, some (arrT 26 1 (dsL Kv.ds) out6))]⟩) [(5001, 5001)] ⟨0, _, _, rfl, Nat.zero_le _, hm1, rfl⟩ ?_
  rintro κ _ ⟨m9, now5, out6, rfl, hlem9, hm1, rfl⟩
  rcases Nat.lt_or_ge m9 l2.length with hltm9 | hgem9
  ·obtain ⟨r7, hxm9, hdr⟩ := drop_c hltm9
   rw [hdr, Maudit_Tables_l1.eq_2] at hm1
   refine sr ?_
   refine wc_seq ?_
   refine wc_cond_tt (lt_t hltm9) rfl ?_
   refine sx ?_
   refine sr ?_
   refine wl_r (o_ixm (ys := [dI r7.Kind, lst TWrite.ds r7.Writes, dS r7.Key, dS r7.Value, dB r7.Has, dI r7.Query, dI r7.Receipt.Query.Kind, lst Rng.ds r7.Receipt.Query.Ranges, dS r7.Receipt.Query.Key, dI r7.Receipt.Query.Count, lst TVisit.ds r7.Receipt.First, lst TVisit.ds r7.Receipt.Second]) hxm9 rfl rfl rfl rfl) rfl rfl rfl ?_
   refine sr ?_
   refine wc_cs hm1 ?_ ?_ <;> clear hm1 <;> intro hm1
   ·refine sr ?_
    obtain ⟨y10, hy, hm1⟩ := obnd_o hm1
    refine wl_cq (Mtable_Apply_sp (hm := hy)) ?_
    refine sr ?_
    refine wc_cs hm1 ?_ ?_ <;> clear hm1 <;> intro hm1
    ·refine sr ?_
     refine sx ?_
     cases hm1
     replace hm := ocbnd_r hm
     cases hm
     exact wk_r
    refine sx ?_
    refine sr ?_
    refine sr ?_
    obtain ⟨y11, hy, hm1⟩ := obnd_o hm1
    refine wl_cq (Mclone_List_api_Row__sp (hm := hy)) ?_
    refine ss ?_
    refine wl_bt (dsL Kv.ds) [y11] rfl rfl (by simp only [flatV, cellsV, List.cons_append, List.nil_append, List.append_nil]; exact rfl) rfl rfl rfl rfl rfl rfl ?_
    refine ss ?_
    obtain ⟨l12, hy, hm1⟩ := obnd_o hm1
    refine wl_2 (n_app (k' := 144) hy rfl rfl rfl rfl rfl rfl rfl rfl) rfl rfl rfl rfl ?_
    refine sr ?_
    refine wl_r (o_inc hltm9 hlenm9 rfl rfl rfl) rfl rfl rfl ?_
    refine ss ?_
    exact wk_loopw [(5001, 144)] ⟨m9 + 1, _, _, rfl, hltm9, hm1, rfl⟩ (by omega)
   refine sx ?_
   refine sr ?_
   obtain ⟨y13, hy, hm1⟩ := obnd_o hm1
   refine wl_cq (Mclone_List_api_Row__sp (hm := hy)) ?_
   refine ss ?_
   refine wl_bt (dsL Kv.ds) [y13] rfl rfl (by simp only [flatV, cellsV, List.cons_append, List.nil_append, List.append_nil]; exact rfl) rfl rfl rfl rfl rfl rfl ?_
   refine ss ?_
   obtain ⟨l14, hy, hm1⟩ := obnd_o hm1
   refine wl_2 (n_app (k' := 144) hy rfl rfl rfl rfl rfl rfl rfl rfl) rfl rfl rfl rfl ?_
   refine sr ?_
   refine wl_r (o_inc hltm9 hlenm9 rfl rfl rfl) rfl rfl rfl ?_
   refine ss ?_
   exact wk_loopw [(5001, 144)] ⟨m9 + 1, _, _, rfl, hltm9, hm1, rfl⟩ (by omega)
  ·rw [drop_n hgem9, Maudit_Tables_l1.eq_1] at hm1
   refine sr ?_
   refine wc_seq ?_
   refine wc_cond_ff (lt_f hgem9) rfl ?_
   refine wc_exit ?_
   refine ss ?_
   cases hm1
   exact wk_cutw [] ⟨_, rfl, rfl⟩
 rintro _ ⟨out15, rfl, rfl⟩
 replace hm := ocbnd_n hm
 refine sr ?_
 refine sx ?_
 cases hm
 exact wk_r

end Go.Proofs.YtohpjdeohpamaaaGreatDoor
namespace Go.Proofs.YtohpjdeohpamaaaGreatDoor
open Go.RowKit
set_option maxRecDepth 100000
set_option maxHeartbeats 4000000
attribute [local irreducible] WK WC WL Wk Rel OpD OpV WD WO sel bnd obnd app lget lsl sget ssl scat letg iquo irem Op.bytesLess
attribute [local irreducible] qchk qranges union
def Mref20_Get_l1 (key2 : ByteArray) : List Kv → Ctl (ByteArray × Bool) Unit
  | [] =>
  Ctl.nxt ()
  | r3 :: xs4 =>
  sel (decide (r3.key = key2)) (
   Ctl.ret (r3.val, true)) (
   Mref20_Get_l1 key2 xs4)
def Mref20_Get (t1 : List Kv) (key2 : ByteArray) : (ByteArray × Bool) :=
 bnd (
  Mref20_Get_l1 key2 t1 : Ctl (ByteArray × Bool) Unit) fun mu => cbnd mu fun (_ : Unit) =>
 (⟨#[]⟩, false)
theorem Mref20_Get_sp {t1 : List Kv} {key2 : ByteArray} {y : (ByteArray × Bool)} (hm : Mref20_Get t1 key2 = y) : Spec Tryz.prog 38 [.d (lst Kv.ds t1), vS key2] [] fun u h => u = .t [vS y.1, vB y.2] ∧ h = [] := by
 refine si Tryz.func38 Tryz.ntmps38 Tryz.results38 fun B w0 ρ0 => ?_
 unfold Mref20_Get at hm
 refine sr ?_
 refine sr ?_
 obtain ⟨mu1, hm1, hm⟩ := bnd_o hm
 refine wc_cut' (fun st => mu1 = Ctl.nxt () ∧ st = ⟨[], []⟩) ?_ ?_
 ·refine wc_block ?_
  refine wc_len 8 rfl (fun hlenm5 => ?_)
  refine wc_loopw (fun κ st => ∃ (m5 : Nat) , κ = t1.length - m5 ∧ m5 ≤ t1.length ∧ Mref20_Get_l1 key2 (t1.drop m5) = mu1 ∧ st = ⟨[(1, vS key2), (8, .d (lst Kv.ds t1)), (9, vI (t1.length : Int)), (10, vI (m5 : Int))], []⟩) [] ⟨0, rfl, Nat.zero_le _, hm1, rfl⟩ ?_
  rintro κ _ ⟨m5, rfl, hlem5, hm1, rfl⟩
  rcases Nat.lt_or_ge m5 t1.length with hltm5 | hgem5
  ·obtain ⟨r3, hxm5, hdr⟩ := drop_c hltm5
   rw [hdr, Mref20_Get_l1.eq_2] at hm1
   refine sr ?_
   refine wc_seq ?_
   refine wc_cond_tt (lt_t hltm5) rfl ?_
   refine sx ?_
   refine sr ?_
   refine wl_r (o_ixm (ys := [dS r3.key, dS r3.val]) hxm5 rfl rfl rfl rfl) rfl rfl rfl ?_
   refine sr ?_
   refine wc_cs hm1 ?_ ?_ <;> clear hm1 <;> intro hm1
   ·refine sr ?_
    refine sx ?_
    subst hm1
    replace hm := cbnd_r hm
    subst hm
    exact wk_r
   refine sx ?_
   refine sr ?_
   refine wl_r (o_inc hltm5 hlenm5 rfl rfl rfl) rfl rfl rfl ?_
   refine ss ?_
   exact wk_loopw [] ⟨m5 + 1, rfl, hltm5, hm1, rfl⟩ (by omega)
  ·rw [drop_n hgem5, Mref20_Get_l1.eq_1] at hm1
   refine sr ?_
   refine wc_seq ?_
   refine wc_cond_ff (lt_f hgem5) rfl ?_
   refine wc_exit ?_
   refine ss ?_
   subst hm1
   exact wk_cutw [] ⟨rfl, rfl⟩
 rintro _ ⟨rfl, rfl⟩
 replace hm := cbnd_n hm
 refine sr ?_
 refine sx ?_
 subst hm
 exact wk_r

def Mref37_Tables_l1 : List TRecord → List Kv → List (List Kv) → Option (Ctl (List (List Kv) × Int) (List (List Kv)))
  | [], t4, out5 =>
  some (Ctl.nxt out5)
  | r6 :: xs7, t4, out5 =>
  sel (decide (r6.Kind = 1)) (
   obnd (Mref20_Apply t4 r6.Writes) fun y9 =>
   sel (!decide (y9.2 = 0)) (
    some (Ctl.ret ([], y9.2))) (
    obnd (app out5 ([y9.1] : List (List Kv))) fun l10 =>
    Mref37_Tables_l1 xs7 y9.1 l10)) (
   obnd (app out5 ([t4] : List (List Kv))) fun l11 =>
   Mref37_Tables_l1 xs7 t4 l11)
def Mref37_Tables (t1 : List Kv) (l2 : List TRecord) : Option (List (List Kv) × Int) :=
 sel (decide (4096 < (l2.length : Int))) (
  some ([], 3)) (
  obnd (Mref20_Valid t1) fun y3 =>
  sel (!y3) (
   some ([], 1)) (
   obnd (
    Mref37_Tables_l1 l2 t1 [] : Option (Ctl (List (List Kv) × Int) (List (List Kv)))) fun mu => ocbnd mu fun out12 =>
   some (out12, 0)))
theorem Mref37_Tables_sp {t1 : List Kv} {l2 : List TRecord} {y : (List (List Kv) × Int)} (hm : Mref37_Tables t1 l2 = some y) : Spec Tryz.prog 12 [.d (lst Kv.ds t1), .d (lst TRecord.ds l2)] [] fun u h => u = .t [.d (lst (dsL Kv.ds) y.1), vI y.2] ∧ h = [] := by
 refine si Tryz.func12 Tryz.ntmps12 Tryz.results12 fun B w0 ρ0 => ?_
 unfold Mref37_Tables at hm
 refine sr ?_
 refine sr ?_
 refine wc_cs hm ?_ ?_ <;> clear hm <;> intro hm
 ·refine sr ?_
  refine sx ?_
  cases hm
  exact wk_r
 refine sx ?_
 refine sr ?_
 obtain ⟨y3, hy, hm⟩ := obnd_o hm
 refine wl_cq (Mref20_Valid_sp (hm := hy)) ?_
 refine ss ?_
 refine wc_cs hm ?_ ?_ <;> clear hm <;> intro hm
 ·refine sr ?_
  refine sx ?_
  cases hm
  exact wk_r
 refine sx ?_
 refine sr ?_
 refine sr ?_
 obtain ⟨mu1, hm1, hm⟩ := obnd_o hm
 refine wc_cut' (fun st => ∃ (out12 : List (List Kv)), mu1 = Ctl.nxt out12 ∧ st = ⟨[(6, .d (lst (dsL Kv.ds) out12))], []⟩) ?_ ?_
 ·refine wc_block ?_
  refine wc_wk (wk_nil 6 5001 26 1 rfl rfl) ?_
  refine wc_len 17 rfl (fun hlenm8 => ?_)
  refine wc_loopw (fun κ st => ∃ (m8 : Nat) (t4 : List Kv) (out5 : List (List Kv)), κ = l2.length - m8 ∧ m8 ≤ l2.length ∧ Mref37_Tables_l1 (l2.drop m8) t4 out5 = some mu1 ∧ st = ⟨[(0, .d (lst Kv.ds t4)), (6, .h 5001), (17, .d (lst TRecord.ds l2)), (18, vI (l2.length : Int)), (19, vI (m8 : Int))], [(5001, some (arrT 26 1 (dsL Kv.ds) out5))]⟩) [(5001, 5001)] ⟨0, _, _, rfl, Nat.zero_le _, hm1, rfl⟩ ?_
  rintro κ _ ⟨m8, t4, out5, rfl, hlem8, hm1, rfl⟩
  rcases Nat.lt_or_ge m8 l2.length with hltm8 | hgem8
  ·obtain ⟨r6, hxm8, hdr⟩ := drop_c hltm8
   rw [hdr, Mref37_Tables_l1.eq_2] at hm1
   refine sr ?_
   refine wc_seq ?_
   refine wc_cond_tt (lt_t hltm8) rfl ?_
   refine sx ?_
   refine sr ?_
   refine wl_r (o_ixm (ys := [dI r6.Kind, lst TWrite.ds r6.Writes, dS r6.Key, dS r6.Value, dB r6.Has, dI r6.Query, dI r6.Receipt.Query.Kind, lst Rng.ds r6.Receipt.Query.Ranges, dS r6.Receipt.Query.Key, dI r6.Receipt.Query.Count, lst TVisit.ds r6.Receipt.First, lst TVisit.ds r6.Receipt.Second]) hxm8 rfl rfl rfl rfl) rfl rfl rfl ?_
   refine sr ?_
   refine wc_cs hm1 ?_ ?_ <;> clear hm1 <;> intro hm1
   ·refine sr ?_
    obtain ⟨y9, hy, hm1⟩ := obnd_o hm1
    refine wl_cq (Mref20_Apply_sp (hm := hy)) ?_
    refine sr ?_
    refine wc_cs hm1 ?_ ?_ <;> clear hm1 <;> intro hm1
    ·refine sr ?_
     refine sx ?_
     cases hm1
     replace hm := ocbnd_r hm
     cases hm
     exact wk_r
    refine sx ?_
    refine sr ?_
    refine sr ?_
    refine wl_bt (dsL Kv.ds) [y9.1] rfl rfl (by simp only [flatV, cellsV, List.cons_append, List.nil_append, List.append_nil]; exact rfl) rfl rfl rfl rfl rfl rfl ?_
    refine ss ?_
    obtain ⟨l10, hy, hm1⟩ := obnd_o hm1
    refine wl_2 (n_app (k' := 140) hy rfl rfl rfl rfl rfl rfl rfl rfl) rfl rfl rfl rfl ?_
    refine sr ?_
    refine wl_r (o_inc hltm8 hlenm8 rfl rfl rfl) rfl rfl rfl ?_
    refine ss ?_
    exact wk_loopw [(5001, 140)] ⟨m8 + 1, _, _, rfl, hltm8, hm1, rfl⟩ (by omega)
   refine sx ?_
   refine sr ?_
   refine wl_bt (dsL Kv.ds) [t4] rfl rfl (by simp only [flatV, cellsV, List.cons_append, List.nil_append, List.append_nil]; exact rfl) rfl rfl rfl rfl rfl rfl ?_
   refine ss ?_
   obtain ⟨l11, hy, hm1⟩ := obnd_o hm1
   refine wl_2 (n_app (k' := 140) hy rfl rfl rfl rfl rfl rfl rfl rfl) rfl rfl rfl rfl ?_
   refine sr ?_
   refine wl_r (o_inc hltm8 hlenm8 rfl rfl rfl) rfl rfl rfl ?_
   refine ss ?_
   exact wk_loopw [(5001, 140)] ⟨m8 + 1, _, _, rfl, hltm8, hm1, rfl⟩ (by omega)
  ·rw [drop_n hgem8, Mref37_Tables_l1.eq_1] at hm1
   refine sr ?_
   refine wc_seq ?_
   refine wc_cond_ff (lt_f hgem8) rfl ?_
   refine wc_exit ?_
   refine ss ?_
   cases hm1
   exact wk_cutw [] ⟨_, rfl, rfl⟩
 rintro _ ⟨out12, rfl, rfl⟩
 replace hm := ocbnd_n hm
 refine sr ?_
 refine sx ?_
 cases hm
 exact wk_r

def Mref37_SameTables_l1 (a1 : List (List Kv)) (b2 : List (List Kv)) : List (List Kv) → Int → Option (Ctl Bool Unit)
  | [], i =>
  some (Ctl.nxt ())
  | r3 :: xs4, i =>
  obnd (lget a1 i) fun e6 =>
  obnd (lget b2 i) fun e7 =>
  obnd (Mref20_Same e6 e7) fun y8 =>
  sel (!y8) (
   some (Ctl.ret false)) (
   Mref37_SameTables_l1 a1 b2 xs4 (i + 1))
def Mref37_SameTables (a1 : List (List Kv)) (b2 : List (List Kv)) : Option Bool :=
 sel (!decide ((a1.length : Int) = (b2.length : Int))) (
  some false) (
  obnd (
   Mref37_SameTables_l1 a1 b2 a1 0 : Option (Ctl Bool Unit)) fun mu => ocbnd mu fun (_ : Unit) =>
  some true)
theorem Mref37_SameTables_sp {a1 : List (List Kv)} {b2 : List (List Kv)} {y : Bool} (hm : Mref37_SameTables a1 b2 = some y) : Spec Tryz.prog 36 [.d (lst (dsL Kv.ds) a1), .d (lst (dsL Kv.ds) b2)] [] fun u h => u = vB y ∧ h = [] := by
 refine si Tryz.func36 Tryz.ntmps36 Tryz.results36 fun B w0 ρ0 => ?_
 unfold Mref37_SameTables at hm
 refine sr ?_
 refine sr ?_
 refine wc_cs hm ?_ ?_ <;> clear hm <;> intro hm
 ·refine sr ?_
  refine sx ?_
  cases hm
  exact wk_r
 refine sx ?_
 refine sr ?_
 obtain ⟨mu1, hm1, hm⟩ := obnd_o hm
 refine wc_cut' (fun st => mu1 = Ctl.nxt () ∧ st = ⟨[], []⟩) ?_ ?_
 ·refine wc_block ?_
  refine wc_len 0 rfl (fun hlenm5 => ?_)
  refine wc_loopw (fun κ st => ∃ (m5 : Nat) , κ = a1.length - m5 ∧ m5 ≤ a1.length ∧ Mref37_SameTables_l1 a1 b2 (a1.drop m5) (m5 : Int) = some mu1 ∧ st = ⟨[(0, .d (lst (dsL Kv.ds) a1)), (1, .d (lst (dsL Kv.ds) b2)), (12, vI (a1.length : Int)), (13, vI (m5 : Int))], []⟩) [] ⟨0, rfl, Nat.zero_le _, hm1, rfl⟩ ?_
  rintro κ _ ⟨m5, rfl, hlem5, hm1, rfl⟩
  rcases Nat.lt_or_ge m5 a1.length with hltm5 | hgem5
  ·obtain ⟨r3, hxm5, hdr⟩ := drop_c hltm5
   rw [hdr, Mref37_SameTables_l1.eq_2] at hm1
   refine sr ?_
   refine wc_seq ?_
   refine wc_cond_tt (lt_t hltm5) rfl ?_
   refine sx ?_
   refine sr ?_
   refine wc_seq ?_
   refine wc_draw (id := 6) [⟨0, 0, [0]⟩, ⟨1, 0, [5]⟩, ⟨2, 3, [16, 17]⟩, ⟨3, 7, [18]⟩, ⟨4, 0, [1]⟩, ⟨5, 0, [5]⟩, ⟨6, 48, [20, 21]⟩, ⟨7, 112, [22]⟩, ⟨8, 255, [19, 23]⟩, ⟨9, 511, [24]⟩] mixed (by kernel_rfl) ?_
   refine ss ?_
   obtain ⟨e6, hy, hm1⟩ := obnd_o hm1
   refine wd_r [] (o_ixg (ys := [lst Kv.ds e6]) hy rfl rfl rfl rfl) rfl (by first | exact .no rfl | exact .y rfl rfl rfl rfl) rfl rfl ?_
   refine ss ?_
   obtain ⟨e7, hy, hm1⟩ := obnd_o hm1
   refine wd_r [] (o_ixg (ys := [lst Kv.ds e7]) hy rfl rfl rfl rfl) rfl (by first | exact .no rfl | exact .y rfl rfl rfl rfl) rfl rfl ?_
   refine ss ?_
   obtain ⟨y8, hy, hm1⟩ := obnd_o hm1
   refine wd_cs (Mref20_Same_sp (hm := hy)) rfl rfl rfl (by repeat (first | exact Vws.nil | apply Vws.cons | exact Vw.nil | exact Vw.d _ | exact Vw.q _ | apply Vw.a)) rfl rfl (by first | exact .no rfl | exact .y rfl rfl rfl rfl) rfl rfl rfl ?_
   refine ss ?_
   refine wc_cs hm1 ?_ ?_ <;> clear hm1 <;> intro hm1
   ·refine sr ?_
    refine sx ?_
    cases hm1
    replace hm := ocbnd_r hm
    cases hm
    exact wk_r
   refine sx ?_
   refine sr ?_
   refine wl_r (o_inc hltm5 hlenm5 rfl rfl rfl) rfl rfl rfl ?_
   refine ss ?_
   exact wk_loopw [] ⟨m5 + 1, rfl, hltm5, hm1, rfl⟩ (by omega)
  ·rw [drop_n hgem5, Mref37_SameTables_l1.eq_1] at hm1
   refine sr ?_
   refine wc_seq ?_
   refine wc_cond_ff (lt_f hgem5) rfl ?_
   refine wc_exit ?_
   refine ss ?_
   cases hm1
   exact wk_cutw [] ⟨rfl, rfl⟩
 rintro _ ⟨rfl, rfl⟩
 replace hm := ocbnd_n hm
 refine sr ?_
 refine sx ?_
 cases hm
 exact wk_r

end Go.Proofs.YtohpjdeohpamaaaGreatDoor
namespace Go.Proofs.YtohpjdeohpamaaaGreatDoor
open Go.RowKit
theorem eq_table_ValidWrite (w : TWrite) : Mtable_ValidWrite w = vwr w := by
  unfold Mtable_ValidWrite
  simp only [bnd_eq, eq_keyspace_ValidKey, vwr]
  have : decide ((w.Value.size : Int) ≤ 64) = decide (w.Value.size ≤ 64) := by congr 1; simp; omega
  rw [this]
  cases vk w.Key <;> cases decide (w.Value.size ≤ 64) <;> cases w.Delete <;> rfl
theorem half {i j : Int} (h0 : 0 ≤ i) (h1 : i ≤ j) (h2 : j ≤ 2147483648) : i64w (shrI .u64 (IntKind.u64.wrap (i64w (i + j))) 1) = (i + j) / 2 := by
  rw [show i64w (i + j) = i + j from i64w_id (by omega) (by omega)]
  have e : IntKind.u64.wrap (i + j) = i + j := by
    have : IntKind.u64.wrap (i + j) = (i + j) % 18446744073709551616 := rfl
    rw [this]; omega
  rw [e]
  have e2 : shrI .u64 (i + j) 1 = (i + j) / 2 := by
    have : shrI .u64 (i + j) 1 = (i + j).fdiv 2 := rfl
    rw [this, Int.fdiv_eq_ediv_of_nonneg _ (by omega)]
  rw [e2, i64w_id (by omega) (by omega)]
theorem search_l1 (g : Int → Option Bool) (n a : Int) (hn : n ≤ 1073741824) (hg : ∀ i, 0 ≤ i → i < n → g i = some (decide (a ≤ i))) : ∀ (fuel : Nat) (i j : Int), 0 ≤ i → i ≤ a → a ≤ j → j ≤ n → (j - i).toNat < fuel → Msort_Search_l1 g fuel i j = some a
  | 0, _, _, _, _, _, _, h => by omega
  | fuel + 1, i, j, h0, h1, h2, h3, hf => by
    rw [Msort_Search_l1]
    by_cases hij : i < j
    · rw [decide_eq_true hij, sel_true, obnd_some]
      show obnd (g (i64w (shrI .u64 (IntKind.u64.wrap (i64w (i + j))) 1))) _ = _
      rw [half h0 (by omega) (by omega), hg _ (by omega) (by omega), obnd_some]
      by_cases hc : a ≤ (i + j) / 2
      · rw [decide_eq_true hc]
        exact search_l1 g n a hn hg fuel _ _ (by omega) (by omega) (by omega) (by omega) (by omega)
      · rw [decide_eq_false hc]
        show Msort_Search_l1 g fuel (i64w ((i + j) / 2 + 1)) j = some a
        rw [i64w_id (by omega) (by omega)]
        exact search_l1 g n a hn hg fuel _ _ (by omega) (by omega) (by omega) (by omega) (by omega)
    · rw [decide_eq_false hij, sel_false, obnd_some]
      have : i = a := by omega
      subst this; rfl
theorem eq_search (g : Int → Option Bool) (n a : Int) (h0 : 0 ≤ a) (h1 : a ≤ n) (hn : n ≤ 100000) (hg : ∀ i, 0 ≤ i → i < n → g i = some (decide (a ≤ i))) : Msort_Search n g = some a := by
  unfold Msort_Search
  rw [search_l1 g n a (by omega) hg FU 0 n (by omega) h0 h1 (Int.le_refl _) (by simp only [FU]; omega), obnd_some]
theorem cmp_keys (a b : ByteArray) : decide (0 ≤ cmp ⟨a, false⟩ ⟨b, false⟩) = !bl a b := by
  unfold cmp
  simp only [Bnd.lt]
  cases h1 : bl a b
  · cases h2 : bl b a <;> simp [h1, h2]
  · have : bl b a = false := by
      cases h2 : bl b a with
      | false => rfl
      | true => have : bl a a = true := bytesLess_trans h1 h2; rw [bl_irr] at this; cases this
    simp [h1, this]
theorem eq_tplace (k : ByteArray) (A B : List Kv) (hA : ∀ r ∈ A, bl r.key k = true) (hB : ∀ r ∈ B, bl r.key k = false) (hl : (A ++ B).length ≤ 100000) : Mtable_place (A ++ B) ⟨k, false⟩ = some (A.length : Int) := by
  unfold Mtable_place
  rw [eq_search _ _ (A.length : Int) (by omega) (by rw [List.length_append]; omega) (by omega) fun i h0 h1 => ?_, obnd_some]
  unfold Mtable_place_1
  obtain ⟨m, rfl⟩ : ∃ m : Nat, i = m := ⟨i.toNat, by omega⟩
  have hm : m < (A ++ B).length := by omega
  rw [lget_nat, List.getElem?_eq_getElem hm, obnd_some, bnd_eq, eq_keyspace_Compare, cmp_keys]
  congr 1
  by_cases c : m < A.length
  · rw [List.getElem_append_left c, hA _ (List.getElem_mem _), decide_eq_false (by omega)]; rfl
  · rw [List.getElem_append_right (by omega), hB _ (List.getElem_mem _), decide_eq_true (by omega)]; rfl
section
variable {k : ByteArray} {t A C : List Kv} {b : Option Kv}
end
theorem lget_mid (A C : List Kv) (r : Kv) : lget (A ++ r :: C) (A.length : Int) = some r := by
  rw [lget_nat, List.getElem?_append_right (Nat.le_refl _)]; simp
theorem set_mid (A C : List Kv) (r x : Kv) : (A ++ r :: C).set A.length x = A ++ x :: C := by
  rw [List.set_append_right _ _ (Nat.le_refl _)]; simp
theorem cpy_mid (A B : List Kv) (e : Kv) : ∃ x, cpy (A ++ (B ++ [e])) (A.length + 1) A.length B.length = A ++ x :: B := by
  obtain ⟨x, D, hx⟩ : ∃ x D, B ++ [e] = x :: D := by
    cases B with
    | nil => exact ⟨e, [], rfl⟩
    | cons b B => exact ⟨b, B ++ [e], rfl⟩
  refine ⟨x, ?_⟩
  have hl : D.length = B.length := by have := congrArg List.length hx; simpa using this.symm
  unfold cpy
  have h1 : (A ++ (B ++ [e])).take (A.length + 1) = A ++ [x] := by
    rw [hx, List.take_append, List.take_of_length_le (by omega)]; simp
  have h2 : ((A ++ (B ++ [e])).drop A.length).take B.length = B := by
    rw [List.drop_append]; simp
  have h3 : (A ++ (B ++ [e])).drop (A.length + 1 + B.length) = [] := List.drop_eq_nil_of_le (by simp; omega)
  rw [h1, h2, h3]; simp
theorem table_Apply_l1 : ∀ (l : List TWrite) (t : List Kv), tvalid t = true → Mtable_Apply_l1 l t = some (actl l t)
  | [], t, _ => rfl
  | w :: ws, t, ht => by
    have ih := fun h0 => table_Apply_l1 ws (aplW t w).1 (aplW_valid ht h0)
    obtain ⟨A, b, C, hp⟩ := parts w.Key ((tvalid_iff t).1 ht).2.2
    have hlen := hp.len
    have hmax := ((tvalid_iff t).1 ht).1
    rw [Mtable_Apply_l1, bnd_eq, eq_table_ValidWrite]
    by_cases hw : vwr w = true
    case neg =>
      have hw' : vwr w = false := by simpa using hw
      simp only [hw', Bool.not_false, sel_true, actl, aplW]
      simp
    have hpl : Mtable_place t (Bnd.mk w.Key false) = some (A.length : Int) := by
      rw [hp.eq]
      refine eq_tplace _ _ _ hp.lo (fun r hr => ?_) (by rw [← hp.eq]; omega)
      rcases List.mem_append.1 hr with hr | hr
      · have : b = some r := by simpa using hr
        rw [hp.mid r this]; exact bytesLess_irrefl _
      · exact bl_asymm (hp.hi r hr)
    simp only [hw, Bool.not_true, sel_false]
    rw [hpl, obnd_some]
    have hst : aplW t w = if w.Delete = true then (A ++ C, 0) else if 1024 < (A ++ ⟨w.Key, w.Value⟩ :: C).length then ([], 16) else (A ++ ⟨w.Key, w.Value⟩ :: C, 0) := by
      simp only [aplW, hw, if_true, hp.without, put, ht, vwr_row hw, Bool.and_self, hp.wth]
    rw [actl]
    cases b with
    | some r =>
      have hk := hp.mid r rfl
      have he : t = A ++ r :: C := hp.eq
      simp only [Option.toList_some, List.length_cons, List.length_nil] at hlen
      rw [decide_eq_true (show (A.length : Int) < (t.length : Int) by omega), sel_true, he, lget_mid, obnd_some, decide_eq_true hk, obnd_some, ← he]
      by_cases hd : w.Delete = true
      · rw [hd] at hst ⊢
        rw [if_pos rfl] at hst
        rw [hst] at ih ⊢
        simp only [sel_true, obnd_some, if_true]
        rw [lsl_le (show 0 ≤ (0 : Int) ∧ (0 : Int) ≤ A.length ∧ (A.length : Int) ≤ t.length by omega), obnd_some, i64w_id (by omega) (by omega), lsl_le (show 0 ≤ (A.length : Int) + 1 ∧ (A.length : Int) + 1 ≤ t.length ∧ (t.length : Int) ≤ t.length by omega), obnd_some]
        have e1 : (t.drop (0 : Int).toNat).take ((A.length : Int).toNat - (0 : Int).toNat) = A := by rw [he]; simp
        have e2 : (t.drop ((A.length : Int) + 1).toNat).take ((t.length : Int).toNat - ((A.length : Int) + 1).toNat) = C := by
          have h1 : ((A.length : Int) + 1).toNat = A.length + 1 := by omega
          have h2 : (t.length : Int).toNat - (A.length + 1) = C.length := by omega
          rw [h1, h2, he, List.drop_append, List.drop_eq_nil_of_le (by omega)]; simp
        rw [e1, e2]
        have e3 : apd t A C = some (A ++ C) := by unfold apd; rw [if_pos (by omega)]
        rw [e3, obnd_some]
        exact ih rfl
      · have hd' : w.Delete = false := by simpa using hd
        rw [hd'] at hst ⊢
        rw [if_neg (by simp), if_neg (by simp; omega)] at hst
        rw [hst] at ih ⊢
        simp only [sel_false, sel_true, obnd_some, bnd_eq, if_true]
        rw [he, Int.toNat_natCast, set_mid, hk]
        exact ih rfl
    | none =>
      have he : t = A ++ C := by have := hp.eq; simpa using this
      simp only [Option.toList_none, List.length_nil, Nat.zero_add] at hlen
      have hf : (sel (decide ((A.length : Int) < (t.length : Int))) (obnd (lget t (A.length : Int)) fun e11 => some (decide (e11.key = w.Key))) (some false) : Option Bool) = some false := by
        cases C with
        | nil => rw [decide_eq_false (by simp at hlen; omega)]; rfl
        | cons c C =>
          rw [decide_eq_true (by simp at hlen; omega), he, lget_mid, sel_true, obnd_some, decide_eq_false (bl_ne (hp.hi c List.mem_cons_self)).symm]
      rw [hf, obnd_some]
      by_cases hd : w.Delete = true
      · rw [hd] at hst ⊢
        rw [if_pos rfl, ← he] at hst
        rw [hst] at ih ⊢
        simp only [sel_true, obnd_some, sel_false, if_true]
        exact ih rfl
      · have hd' : w.Delete = false := by simpa using hd
        rw [hd'] at hst ⊢
        rw [if_neg (by simp)] at hst
        simp only [sel_false, obnd_some]
        by_cases hfull : t.length = 1024
        · rw [decide_eq_true (by omega), sel_true]
          rw [if_pos (by simp; omega)] at hst
          rw [hst]
          simp
        · rw [decide_eq_false (by omega), sel_false]
          rw [if_neg (by simp; omega)] at hst
          rw [hst] at ih ⊢
          simp only [if_true]
          rw [app_le (by simp; omega), obnd_some]
          generalize hE : (⟨⟨#[]⟩, ⟨#[]⟩⟩ : Kv) = E
          have hL : (t ++ [E]).length = t.length + 1 := by simp
          rw [i64w_id (by omega) (by omega), lsl_le (by rw [hL]; omega), obnd_some, lsl_le (by rw [hL]; omega), obnd_some, bnd_eq]
          have e1 : (((t ++ [E]).drop ((A.length : Int) + 1).toNat).take (((t ++ [E]).length : Int).toNat - ((A.length : Int) + 1).toNat)).length = C.length := by
            rw [List.length_take, List.length_drop, hL]; omega
          have e2 : (((t ++ [E]).drop (A.length : Int).toNat).take (((t ++ [E]).length : Int).toNat - (A.length : Int).toNat)).length = C.length + 1 := by
            rw [List.length_take, List.length_drop, hL]; omega
          rw [e1, e2, show min (C.length + 1) C.length = C.length by omega, show ((A.length : Int) + 1).toNat = A.length + 1 by omega, Int.toNat_natCast]
          obtain ⟨x, hx⟩ := cpy_mid A C E
          rw [he, List.append_assoc, hx, lget_mid, obnd_some, bnd_eq, bnd_eq, set_mid]
          exact ih rfl
theorem apply_len (t : List Kv) (l : List TWrite) : (applyW t l).1.length ≤ 1024 := by
  by_cases h : (applyW t l).2 = 0
  · exact ((tvalid_iff _).1 (apply_valid h)).1
  · unfold applyW at h ⊢
    by_cases ht : tvalid t = true
    · rw [if_pos ht] at h ⊢
      cases e : actl l t with
      | nxt t' => rw [e] at h; exact absurd rfl h
      | ret r => simp [(actl_ret e).1]
    · rw [if_neg ht]; simp
theorem eq_table_Apply (t : List Kv) (l : List TWrite) : Mtable_Apply t l = some (applyW t l) := by
  unfold Mtable_Apply applyW
  rw [eq_table_Valid, obnd_some]
  cases ht : tvalid t with
  | false => rfl
  | true =>
    have hl := ((tvalid_iff t).1 ht).1
    simp only [Bool.not_true, sel_false, if_true]
    rw [app_le (by simp; omega), obnd_some, List.nil_append, table_Apply_l1 l t ht, obnd_some]
    cases actl l t <;> rfl
end Go.Proofs.YtohpjdeohpamaaaGreatDoor
namespace Go.Proofs.YtohpjdeohpamaaaGreatDoor
open Go.RowKit
theorem eq_clone_Rows (l : List Kv) (h : l.length ≤ 4294967296) : Mclone_List_api_Row_ l = some l := by
  unfold Mclone_List_api_Row_
  rw [app_le (by simpa using h), obnd_some, List.nil_append]
end Go.Proofs.YtohpjdeohpamaaaGreatDoor
-- LEFT clone_Visits_l1 eq_clone_Query eq_clone_Ranges eq_clone_View eq_clone_Visits eq_clone_Walk eq_keyspace_Intersect eq_keyspace_lesser eq_ref28_Start eq_walk_Start ref28_Start_l1 ref28_Start_l2 sameRanges_l1 sameRanges_refl sameWalk_refl walk_Start_l1 walk_Start_l2
namespace Go.Proofs.YtohpjdeohpamaaaGreatDoor
open Go.RowKit
theorem audit_Tables_l1 : ∀ (l : List TRecord) (t : List Kv) (out : List (List Kv)), tvalid t = true → l.length + out.length ≤ 1000000 → Maudit_Tables_l1 l t out = some (tabl l t out)
  | [], t, out, _, _ => rfl
  | r :: rs, t, out, ht, hl => by
    simp only [List.length_cons] at hl
    have h1 := ((tvalid_iff t).1 ht).1
    rw [Maudit_Tables_l1, tabl]
    by_cases hk : r.Kind = 1
    · rw [decide_eq_true hk, sel_true, eq_table_Apply, obnd_some, if_pos hk]
      by_cases h0 : (applyW t r.Writes).2 = 0
      · have h2 := apply_len t r.Writes
        rw [decide_eq_true h0, if_pos h0]
        simp only [Bool.not_true, sel_false]
        rw [eq_clone_Rows _ (by omega), obnd_some, app_le (by simp; omega), obnd_some]
        exact audit_Tables_l1 rs _ _ (apply_valid h0) (by simp; omega)
      · rw [decide_eq_false h0, if_neg h0]; rfl
    · rw [decide_eq_false hk, sel_false, if_neg hk, eq_clone_Rows _ (by omega), obnd_some, app_le (by simp; omega), obnd_some]
      exact audit_Tables_l1 rs _ _ ht (by simp; omega)
theorem ref37_Tables_l1 : ∀ (l : List TRecord) (t : List Kv) (out : List (List Kv)), l.length + out.length ≤ 1000000 → Mref37_Tables_l1 l t out = some (tabl l t out)
  | [], t, out, _ => rfl
  | r :: rs, t, out, hl => by
    simp only [List.length_cons] at hl
    rw [Mref37_Tables_l1, tabl]
    by_cases hk : r.Kind = 1
    · rw [decide_eq_true hk, sel_true, eq_ref20_Apply, obnd_some, if_pos hk]
      by_cases h0 : (applyW t r.Writes).2 = 0
      · rw [decide_eq_true h0, if_pos h0]
        simp only [Bool.not_true, sel_false]
        rw [app_le (by simp; omega), obnd_some]
        exact ref37_Tables_l1 rs _ _ (by simp; omega)
      · rw [decide_eq_false h0, if_neg h0]; rfl
    · rw [decide_eq_false hk, sel_false, if_neg hk, app_le (by simp; omega), obnd_some]
      exact ref37_Tables_l1 rs _ _ (by simp; omega)
theorem eq_audit_Tables (t : List Kv) (l : List TRecord) : Maudit_Tables t l = some (tabs t l) := by
  unfold Maudit_Tables tabs
  by_cases hl : 4096 < l.length
  · rw [decide_eq_true (by omega), if_pos hl]; rfl
  · rw [decide_eq_false (by omega), if_neg hl, sel_false, eq_table_Valid, obnd_some]
    cases ht : tvalid t with
    | false => rfl
    | true =>
      have h1 := ((tvalid_iff t).1 ht).1
      simp only [Bool.not_true, sel_false, if_true]
      rw [eq_clone_Rows _ (by omega), obnd_some, audit_Tables_l1 l t [] ht (by simp; omega), obnd_some]
      cases tabl l t [] <;> rfl
theorem eq_ref37_Tables (t : List Kv) (l : List TRecord) : Mref37_Tables t l = some (tabs t l) := by
  unfold Mref37_Tables tabs
  by_cases hl : 4096 < l.length
  · rw [decide_eq_true (by omega), if_pos hl]; rfl
  · rw [decide_eq_false (by omega), if_neg hl, sel_false, eq_ref20_Valid, obnd_some]
    cases ht : tvalid t with
    | false => rfl
    | true =>
      simp only [Bool.not_true, sel_false, if_true]
      rw [ref37_Tables_l1 l t [] (by simp; omega), obnd_some]
      cases tabl l t [] <;> rfl
theorem sameTables_l1 (a : List (List Kv)) : ∀ (xs : List (List Kv)) (m : Nat), a.drop m = xs → Mref37_SameTables_l1 a a xs (m : Int) = some (.nxt ())
  | [], m, _ => rfl
  | x :: xs, m, h => by
    obtain ⟨h1, h2⟩ := drop_get h
    rw [Mref37_SameTables_l1, lget_nat, h1, obnd_some, obnd_some, eq_ref20_Same, obnd_some]
    simp only [decide_true, Bool.not_true, sel_false]
    exact sameTables_l1 a xs (m + 1) h2
theorem sameTables_refl (a : List (List Kv)) : Mref37_SameTables a a = some true := by
  unfold Mref37_SameTables
  have := sameTables_l1 a a 0 rfl
  rw [show ((0 : Nat) : Int) = 0 from rfl] at this
  rw [decide_eq_true rfl, this]; rfl
end Go.Proofs.YtohpjdeohpamaaaGreatDoor
namespace Go.Proofs.YtohpjdeohpamaaaGreatDoor
open Go.RowKit
section
variable {α β γ : Type} {M : Option α} {P Q : α → Prop} {b : Bool}
theorem tot_bnd {k : β → Option α} {x : β} (h : Tot (k x) Q) : Tot (bnd x k) Q := h
theorem tot_lsl {l : List α} {Q : List α → Prop} {lo hi : Int} (h : 0 ≤ lo ∧ lo ≤ hi ∧ hi ≤ l.length) (hq : Q ((l.drop lo.toNat).take (hi.toNat - lo.toNat))) : Tot (lsl l lo hi) Q := ⟨_, lsl_le h, hq⟩
theorem tot_i64 {a : Int} (h1 : -9223372036854775808 ≤ a := by omega) (h2 : a ≤ 9223372036854775807 := by omega) : i64w a = a := i64w_id h1 h2
end
section
variable {τ : TTape}
theorem tot_query (h : okT τ) : Tot (Mwld_Tape_Query τ) fun y => okT y.2 ∧ qok y.1 := by
  obtain ⟨x, τ', e, h1, h2⟩ := query_ok h
  exact ⟨_, e, h1, h2⟩
theorem tot_oddRows (h : okT τ) {l : List Kv} (hl : l.length ≤ 1000) : Tot (Mwld_Tape_OddRows τ l) fun y => okT y.2 ∧ y.1.length ≤ l.length + 1 := by
  obtain ⟨x, τ', e, h3⟩ := oddRows_ok h l hl
  exact ⟨_, e, h3⟩
end
end Go.Proofs.YtohpjdeohpamaaaGreatDoor
