/-
  Lemmas: Models and walks
-/
import Derived.Test.YtlbnhhfaedhgfaaGreatDoorPB9
import Derived.Test.YtlbnhhfaedhgfaaGreatDoorPB10
import Derived.Test.YtlbnhhfaedhgfaaGreatDoorPB15
import Derived.Test.YtlbnhhfaedhgfaaGreatDoorPB17
import Derived.Test.YtlbnhhfaedhgfaaGreatDoorPB19
import Derived.Test.YtlbnhhfaedhgfaaGreatDoorPB18
import Derived.Test.YtlbnhhfaedhgfaaGreatDoorPB20
import Derived.Test.YtlbnhhfaedhgfaaGreatDoorPB22
import Derived.Test.YtlbnhhfaedhgfaaGreatDoorPB29
import Derived.Test.YtlbnhhfaedhgfaaGreatDoorPB30
import Derived.Test.YtlbnhhfaedhgfaaGreatDoorPB31
import Derived.Test.YtlbnhhfaedhgfaaGreatDoorPB26
import Derived.Test.YtlbnhhfaedhgfaaGreatDoorPB23
import Derived.Test.YtlbnhhfaedhgfaaGreatDoorPB28
set_option linter.unusedSimpArgs false
set_option linter.unusedVariables false
namespace Go.Proofs.YtlbnhhfaedhgfaaGreatDoor
open Go.RowKit
section
variable {α β R S : Type}
end
section
variable {Γ : Cx} {k : Kont} {st st' : St} {x y : Code} {c : Operand} {b : Bool} {id : Nat}
end
section
variable {P : Program} {o : Oper} {H : Hp} {sl : List (Nat × V)} {x y z : Operand} {T U E t : TypeId} {zz bytes : Nat} {i j : Int} {s s' : ByteArray} {kk : IntKind} {k d k' : Nat}
end
section
variable {Γ : Cx} {P : Program} {k : Kont} {sl : List (Nat × V)} {H hp : Hp} {o : Oper} {ops : Array Oper} {i an d kt : Nat} {ts : List Nat} {r : List PI} {F : List Ft} {f : FuncId} {us uc : List V} {x : Operand} {xs : Array Operand} {ats : Array TypeId} {u u' : V} {rest : List Oper} {blk blk0 blk' blk1 : Blk}
end
section
variable {Γ : Cx} {P : Program} {k : Kont} {sl : List (Nat × V)} {H hp h h' : Hp} {o : Oper} {ops : Array Oper} {i an d kt : Nat} {ts : List Nat} {r : List PI} {F : List Ft} {f : FuncId} {us uc : List V} {x : Operand} {xs : Array Operand} {ats : Array TypeId} {u u' : V} {rest : List Oper}
theorem o_gen {blk blk0 : Blk} (hs : Spec P f us [(0, some blk)] fun u1 h1 => u1 = u ∧ h1 = h) (kt M : Nat) (hop : o.op = .call { callee := .value x, args := xs, argTypes := ats }) (hx : ev sl x = some (.d (.c (.func (.func f) #[] #[])))) (ha : evl sl xs.toList = some uc) (hv : Vws [] [(0, kt)] uc us)
    (hH : look H kt = some (some blk0)) (hb : Vb [] [(0, kt)] blk0 blk) (hu : u.ren (rn [(0, kt)] M) = u') (hh : renH (rn [(0, kt)] M) h = h') : OpV P o H sl M 100 fun u1 h1 => u1 = u' ∧ h1 = h' := by
  have hal : aliveB H [(0, kt)] = true := by simp only [aliveB, List.all_cons, List.all_nil, Bool.and_true, hH]
  have h0 : look [(0, kt)] 0 = some kt := rfl
  refine (o_call M [(0, kt)] hs hop hx ha hv (VH.cons h0 hH hb VH.nil) hal rfl (by rfl)).mono ?_
  rintro u1 h1 ⟨u0, h0', ⟨rfl, rfl⟩, rfl, rfl⟩
  exact ⟨hu, hh⟩
theorem wl_gen {blk blk0 : Blk} (hs : Spec Γ.P f us [(0, some blk)] fun u1 h1 => u1 = u ∧ h1 = h) (kt M : Nat) (hop : o.op = .call { callee := .value x, args := xs, argTypes := ats }) (hx : ev sl x = some (.d (.c (.func (.func f) #[] #[])))) (ha : evl sl xs.toList = some uc) (hv : Vws [] [(0, kt)] uc us)
    (hH : look hp kt = some (some blk0)) (hb : Vb [] [(0, kt)] blk0 blk) (hu : u.ren (rn [(0, kt)] M) = u') (hh : renH (rn [(0, kt)] M) h = h') (hg : o.guard = none) (hd : o.dst = some d) (hdl : Nat.blt d Γ.nt = true) (hf : freshB hp M 100 = true) (hk : WL Γ ops rest k ⟨(d, u') :: sl, h' ++ hp⟩) : WL Γ ops (o :: rest) k ⟨sl, hp⟩ :=
  wl_v (o_gen hs kt M hop hx ha hv hH hb hu hh) hg hd hdl hf (by rintro _ _ ⟨rfl, rfl⟩; exact hk)
end
section
variable {P : Program} {o : Oper} {H : Hp} {sl : List (Nat × V)} {x y : Operand} {T U E t : TypeId} {zz bytes n off k : Nat} {i : Int} {ag : Bool} {α : Type} {f : α → List D} {xs : List α} {a a' : α} {u : V}
end
section
variable {Γ : Cx} {k : Kont} {sl : List (Nat × V)} {hp : Hp} {o : Oper} {ops : Array Oper} {i an d : Nat} {ts : List Nat} {r : List PI} {F : List Ft} {x y : Operand} {T E t : TypeId} {zz bytes n off kk : Nat} {j : Int} {ag : Bool} {α : Type} {f : α → List D} {xs ys : List α} {a a' : α} {u : V}
end
section
variable {Γ : Cx} {P : Program} {ks : List Nat} {rs : List ResultVar} {Ψ : V → Hp → Prop} {st st' : St} {us : List V} {u : V} {h : Hp} {k : Kont} {n m : Nat}
end
section
variable {Γ : Cx} {k : Kont} {x : Code} {st st' : St} {sl : List (Nat × V)} {hp : Hp} {o : Oper} {ops : Array Oper} {d : Nat} {f : FuncId} {us uc : List V} {y : Operand} {xs : Array Operand} {ats : Array TypeId} {u : V} {rest : List Oper} {blk blk0 blk' : Blk}
end
section
variable {Γ : Cx} {k : Kont} {x y : Code} {st : St} {sl : List (Nat × V)} {hp : Hp} {o oj : Oper} {ops : Array Oper} {rest : List Oper} {c : Operand} {α : Type} {b : Bool} {m n z : α} {j t : Nat} {e : Bool}
end
end Go.Proofs.YtlbnhhfaedhgfaaGreatDoor
namespace Go.Proofs.YtlbnhhfaedhgfaaGreatDoor
open Go.RowKit
set_option maxRecDepth 100000
set_option maxHeartbeats 4000000
attribute [local irreducible] WK WC WL Wk Rel OpD OpV WD WO sel bnd obnd app lget lsl sget ssl scat letg iquo irem Op.bytesLess
theorem Mwld_Tape_Query_so1 {t1 : TTape} {y : (TQuery × TTape)} (hm : Mwld_Tape_Query t1 = some y) : Spec Tryz.prog 16 [.p 0 0] [(0, some (.box 119 [.d (lst dsI t1.l), vI t1.at_]))] fun u h => u = .a [vI y.1.Kind, .h 1, vS y.1.Key, vI y.1.Count] ∧ h = [(0, some (.box 119 [.d (lst dsI y.2.l), vI y.2.at_])), (1, some (arrT 42 4 Rng.ds y.1.Ranges))] := by
 refine si Tryz.func16 Tryz.ntmps16 Tryz.results16 fun B w0 ρ0 => ?_
 unfold Mwld_Tape_Query at hm
 refine sr ?_
 refine sr ?_
 obtain ⟨y2, hy, hm⟩ := obnd_o hm
 refine wl_iq (Mwld_Tape_Next_sp (hm := hy)) 0 ?_
 refine ss ?_
 refine wl_r (o_add rfl rfl rfl rfl) rfl rfl rfl ?_
 refine sr ?_
 obtain ⟨mu1, hm1, hm⟩ := obnd_o hm
 refine wc_cut' (fun st => ∃ (q16 : List Rng) (q17 : ByteArray) (q18 : Int) (x19 : List Int) (x20 : Int), mu1 = (q16, q17, q18, x19, x20) ∧ st = ⟨[(2, .p 102 0), (3, .p 103 0)], [(0, some (.box 119 [.d (lst dsI x19), vI x20])), (102, some (.box 27 [vI 0, .d (.c (.slice none 0 0)), vS ⟨#[]⟩, vI 0])), (103, some (.box 27 [vI (i64w (1 + y2.1)), .h 5003, vS q17, vI q18])), (5003, some (arrT 42 4 Rng.ds q16))]⟩) ?_ ?_
 ·refine sr ?_
  refine wc_cs hm1 ?_ ?_ <;> clear hm1 <;> intro hm1
  ·refine sr ?_
   obtain ⟨y3, hy, hm1⟩ := obnd_o hm1
   refine wl_iq (Mwld_Tape_Next_sp (hm := hy)) 0 ?_
   refine ss ?_
   obtain ⟨mu2, hm2, hm1⟩ := obnd_o hm1
   refine wc_cut' (fun st => ∃ (q10 : List Rng) (x11 : List Int) (x12 : Int), mu2 = (q10, x11, x12) ∧ st = ⟨[(2, .p 102 0), (3, .p 103 0)], [(0, some (.box 119 [.d (lst dsI x11), vI x12])), (102, some (.box 27 [vI 0, .d (.c (.slice none 0 0)), vS ⟨#[]⟩, vI 0])), (103, some (.box 27 [vI (i64w (1 + y2.1)), .h 5002, vS ⟨#[]⟩, vI 0])), (5002, some (arrT 42 4 Rng.ds q10))]⟩) ?_ ?_
   ·refine wc_block ?_
    refine wc_wk (wk_nilb 103 1 5001 42 4 rfl rfl rfl rfl) ?_
    refine wc_loopw (fun κ st => ∃ (x4 : List Int) (x5 : Int) (q6 : List Rng) (i7 : Int), Mwld_Tape_Query_l1 κ x4 x5 q6 i7 = some mu2 ∧ st = ⟨[(0, .p 0 0), (2, .p 102 0), (3, .p 103 0), (4, vI i7)], [(0, some (.box 119 [.d (lst dsI x4), vI x5])), (102, some (.box 27 [vI 0, .d (.c (.slice none 0 0)), vS ⟨#[]⟩, vI 0])), (103, some (.box 27 [vI (i64w (1 + y2.1)), .h 5001, vS ⟨#[]⟩, vI 0])), (5001, some (arrT 42 4 Rng.ds q6))]⟩) [(0, 0), (102, 102), (103, 103), (5001, 5001)] ⟨_, _, _, _, hm2, rfl⟩ ?_
    rintro κ _ ⟨x4, x5, q6, i7, hm2, rfl⟩
    cases κ with
    | zero => rw [Mwld_Tape_Query_l1.eq_1] at hm2; cases hm2
    | succ κ =>
     rw [Mwld_Tape_Query_l1.eq_2] at hm2
     refine sr ?_
     obtain ⟨mu3, hm3, hm2⟩ := obnd_o hm2
     refine wc_cut' (fun st => mu3 = Ctl.nxt () ∧ st = ⟨[(0, .p 0 0), (2, .p 102 0), (3, .p 103 0), (4, vI i7)], [(0, some (.box 119 [.d (lst dsI x4), vI x5])), (102, some (.box 27 [vI 0, .d (.c (.slice none 0 0)), vS ⟨#[]⟩, vI 0])), (103, some (.box 27 [vI (i64w (1 + y2.1)), .h 5001, vS ⟨#[]⟩, vI 0])), (5001, some (arrT 42 4 Rng.ds q6))]⟩) ?_ ?_
     ·refine wc_cs hm3 ?_ ?_ <;> clear hm3 <;> intro hm3
      ·refine sx ?_
       cases hm3
       exact wk_cutw [(0, 0), (102, 102), (103, 103), (5001, 5001)] ⟨rfl, rfl⟩
      refine wc_exit ?_
      refine ss ?_
      cases hm3
      replace hm2 := ocbnd_r hm2
      cases hm2
      exact wk_cutw [(0, 0), (102, 102), (103, 103), (5002, 5001)] ⟨_, _, _, rfl, rfl⟩
     rintro _ ⟨rfl, rfl⟩
     replace hm2 := ocbnd_n hm2
     refine ss ?_
     refine wc_seq ?_
     refine wc_block ?_
     refine wc_draw (id := 8) [⟨0, 0, [3]⟩, ⟨1, 1, [26]⟩, ⟨2, 0, [0]⟩, ⟨3, 4, [28]⟩, ⟨4, 12, [29]⟩, ⟨5, 31, [27, 30]⟩, ⟨6, 63, [3]⟩, ⟨7, 127, [31, 32]⟩] mixed (by kernel_rfl) ?_
     refine ss ?_
     obtain ⟨y8, hy, hm2⟩ := obnd_o hm2
     refine wd_io (Mwld_Tape_Proper_sp (hm := hy)) 0 rfl rfl rfl (by repeat (first | exact Vws.nil | apply Vws.cons | exact Vw.nil | exact Vw.d _ | exact Vw.q _ | exact Vw.p rfl | apply Vw.a)) rfl (Vb.box (by repeat (first | exact Vws.nil | apply Vws.cons | exact Vw.nil | exact Vw.d _ | exact Vw.q _ | exact Vw.p rfl | apply Vw.a))) rfl rfl rfl (by first | exact .no rfl | exact .y rfl rfl rfl rfl) rfl rfl rfl rfl ?_
     refine ss ?_
     refine wd_bt Rng.ds [y8.1] rfl rfl (by simp only [flatV, cellsV, List.cons_append, List.nil_append, List.append_nil]; exact rfl) rfl rfl rfl rfl (by first | exact .no rfl | exact .y rfl rfl rfl rfl) rfl rfl ?_
     refine ss ?_
     obtain ⟨l9, hy, hm2⟩ := obnd_o hm2
     refine wd_app (k' := 131) hy rfl rfl rfl rfl rfl rfl rfl rfl (by first | exact .no rfl | exact .y rfl rfl rfl rfl) rfl rfl rfl ?_
     refine sr ?_
     exact wk_loopw [(0, 0), (102, 102), (103, 103), (5001, 131)] ⟨_, _, _, _, hm2, rfl⟩ (Nat.lt_succ_self _)
   rintro _ ⟨q10, x11, x12, rfl, rfl⟩
   refine ss ?_
   cases hm1
   exact wk_cutw [(0, 0), (102, 102), (103, 103), (5003, 5002)] ⟨_, _, _, _, _, rfl, rfl⟩
  refine sr ?_
  refine wc_cs hm1 ?_ ?_ <;> clear hm1 <;> intro hm1
  ·refine sr ?_
   obtain ⟨y13, hy, hm1⟩ := obnd_o hm1
   refine wl_iq (Mwld_Tape_Key_sp (hm := hy)) 0 ?_
   refine ss ?_
   cases hm1
   refine WK.of_wk (wk_nilb 103 1 5003 42 4 rfl rfl rfl rfl) ?_
   exact wk_cutw [(0, 0), (102, 102), (103, 103), (5003, 5003)] ⟨_, _, _, _, _, rfl, rfl⟩
  refine sr ?_
  obtain ⟨y14, hy, hm1⟩ := obnd_o hm1
  refine wl_iq (Mwld_Tape_Key_sp (hm := hy)) 0 ?_
  refine ss ?_
  refine wl_bt dsI [1, 2, 3, 5, 1024] rfl rfl (by simp only [flatV, cellsV, List.cons_append, List.nil_append, List.append_nil]; exact rfl) rfl rfl rfl rfl rfl rfl ?_
  refine ss ?_
  obtain ⟨y15, hy, hm1⟩ := obnd_o hm1
  refine wl_iq (Mwld_Tape_Pick_sp (hm := hy)) 0 ?_
  refine ss ?_
  cases hm1
  refine WK.of_wk (wk_nilb 103 1 5003 42 4 rfl rfl rfl rfl) ?_
  exact wk_cutw [(0, 0), (102, 102), (103, 103), (5003, 5003)] ⟨_, _, _, _, _, rfl, rfl⟩
 rintro _ ⟨q16, q17, q18, x19, x20, rfl, rfl⟩
 refine sr ?_
 refine sx ?_
 cases hm
 exact wk_reti [(0, 0), (1, 5003)] ⟨rfl, rfl⟩
def Mwld_Tape_OddQuery_l1 (y9 : (Int × TTape)) : Nat → List Rng → Option (List Rng)
  | 0, _ => none
  | fuel + 1, q10 =>
  sel (decide ((q10.length : Int) < y9.1)) (
   obnd (app q10 ([(Rng.mk (Bnd.mk ⟨#[]⟩ false) (Bnd.mk ⟨#[]⟩ false))] : List Rng)) fun l11 =>
   Mwld_Tape_OddQuery_l1 y9 fuel l11) (
   some q10)
def Mwld_Tape_OddQuery (t1 : TTape) : Option (TQuery × TTape) :=
 obnd (Mwld_Tape_Query t1) fun y2 =>
 obnd (Mwld_Tape_Next y2.2 6) fun y3 =>
 obnd (
  sel (decide (y3.1 = 0)) (
   obnd (Mwld_Tape_Pick y3.2 ([0, 5, (-1), 1, 2, 3, 4] : List Int)) fun y4 =>
   some (y4.1, y2.1.Ranges, y2.1.Key, y2.1.Count, y4.2.l, y4.2.at_)) (
   sel (decide (y3.1 = 1)) (
    obnd (Mwld_Tape_OddKey y3.2) fun y5 =>
    some (y2.1.Kind, y2.1.Ranges, y5.1, y2.1.Count, y5.2.l, y5.2.at_)) (
    sel (decide (y3.1 = 2)) (
     obnd (Mwld_Tape_Pick y3.2 ([0, (-1), 1024, 1025, 1] : List Int)) fun y6 =>
     some (y2.1.Kind, y2.1.Ranges, y2.1.Key, y6.1, y6.2.l, y6.2.at_)) (
     sel (decide (y3.1 = 3)) (
      obnd (Mwld_Tape_Range y3.2) fun y7 =>
      obnd (app y2.1.Ranges ([y7.1] : List Rng)) fun l8 =>
      some (y2.1.Kind, l8, y2.1.Key, y2.1.Count, y7.2.l, y7.2.at_)) (
      sel (decide (y3.1 = 4)) (
       obnd (Mwld_Tape_Pick y3.2 ([64, 65] : List Int)) fun y9 =>
       obnd (
        Mwld_Tape_OddQuery_l1 y9 FU y2.1.Ranges : Option (List Rng)) fun q12 =>
       some (y2.1.Kind, q12, y2.1.Key, y2.1.Count, y9.2.l, y9.2.at_)) (
       some (y2.1.Kind, y2.1.Ranges, y2.1.Key, y2.1.Count, y3.2.l, y3.2.at_)))))) : Option (Int × List Rng × ByteArray × Int × List Int × Int)) fun (q13, q14, q15, q16, x17, x18) =>
 some ((TQuery.mk q13 q14 q15 q16), (TTape.mk x17 x18))
theorem Mwld_Tape_OddQuery_sp {t1 : TTape} {y : (TQuery × TTape)} (hm : Mwld_Tape_OddQuery t1 = some y) : Spec Tryz.prog 48 [.p 0 0] [(0, some (.box 119 [.d (lst dsI t1.l), vI t1.at_]))] fun u h => u = .a [vI y.1.Kind, .d (lst Rng.ds y.1.Ranges), vS y.1.Key, vI y.1.Count] ∧ h = [(0, some (.box 119 [.d (lst dsI y.2.l), vI y.2.at_]))] := by
 refine si Tryz.func48 Tryz.ntmps48 Tryz.results48 fun B w0 ρ0 => ?_
 unfold Mwld_Tape_OddQuery at hm
 refine sr ?_
 refine sr ?_
 obtain ⟨y2, hy, hm⟩ := obnd_o hm
 refine wl_gen (u' := .a [vI y2.1.Kind, .h 200601, vS y2.1.Key, vI y2.1.Count]) (h' := [(0, some (.box 119 [.d (lst dsI y2.2.l), vI y2.2.at_])), (200601, some (arrT 42 4 Rng.ds y2.1.Ranges))]) (Mwld_Tape_Query_so1 (hm := hy)) 0 200600 rfl rfl rfl (by repeat (first | exact Vws.nil | apply Vws.cons | exact Vw.nil | exact Vw.d _ | exact Vw.q _ | exact Vw.p rfl | apply Vw.a)) rfl (Vb.box (by repeat (first | exact Vws.nil | apply Vws.cons | exact Vw.nil | exact Vw.d _ | exact Vw.q _ | exact Vw.p rfl | apply Vw.a))) rfl (by (try simp only [renH, Option.map_some, Blk.ren, rens_d]); rfl) rfl rfl rfl rfl ?_
 refine sr ?_
 obtain ⟨y3, hy, hm⟩ := obnd_o hm
 refine wl_iq (Mwld_Tape_Next_sp (hm := hy)) 0 ?_
 refine ss ?_
 obtain ⟨mu1, hm1, hm⟩ := obnd_o hm
 refine wc_cut' (fun st => ∃ (q13 : Int) (q14 : List Rng) (q15 : ByteArray) (q16 : Int) (x17 : List Int) (x18 : Int), mu1 = (q13, q14, q15, q16, x17, x18) ∧ st = ⟨[(2, .p 102 0), (3, .p 103 0)], [(0, some (.box 119 [.d (lst dsI x17), vI x18])), (102, some (.box 27 [vI 0, .d (.c (.slice none 0 0)), vS ⟨#[]⟩, vI 0])), (103, some (.box 27 [vI q13, .d (lst Rng.ds q14), vS q15, vI q16]))]⟩) ?_ ?_
 ·refine sr ?_
  refine wc_cs hm1 ?_ ?_ <;> clear hm1 <;> intro hm1
  ·refine sr ?_
   refine wl_bt dsI [0, 5, (-1), 1, 2, 3, 4] rfl rfl (by simp only [flatV, cellsV, List.cons_append, List.nil_append, List.append_nil]; exact rfl) rfl rfl rfl rfl rfl rfl ?_
   refine ss ?_
   obtain ⟨y4, hy, hm1⟩ := obnd_o hm1
   refine wl_iq (Mwld_Tape_Pick_sp (hm := hy)) 0 ?_
   refine ss ?_
   cases hm1
   exact wk_cutw [(0, 0), (102, 102), (103, 103)] ⟨_, _, _, _, _, _, rfl, rfl⟩
  refine sr ?_
  refine wc_cs hm1 ?_ ?_ <;> clear hm1 <;> intro hm1
  ·refine sr ?_
   obtain ⟨y5, hy, hm1⟩ := obnd_o hm1
   refine wl_iq (Mwld_Tape_OddKey_sp (hm := hy)) 0 ?_
   refine ss ?_
   cases hm1
   exact wk_cutw [(0, 0), (102, 102), (103, 103)] ⟨_, _, _, _, _, _, rfl, rfl⟩
  refine sr ?_
  refine wc_cs hm1 ?_ ?_ <;> clear hm1 <;> intro hm1
  ·refine sr ?_
   refine wl_bt dsI [0, (-1), 1024, 1025, 1] rfl rfl (by simp only [flatV, cellsV, List.cons_append, List.nil_append, List.append_nil]; exact rfl) rfl rfl rfl rfl rfl rfl ?_
   refine ss ?_
   obtain ⟨y6, hy, hm1⟩ := obnd_o hm1
   refine wl_iq (Mwld_Tape_Pick_sp (hm := hy)) 0 ?_
   refine ss ?_
   cases hm1
   exact wk_cutw [(0, 0), (102, 102), (103, 103)] ⟨_, _, _, _, _, _, rfl, rfl⟩
  refine sr ?_
  refine wc_cs hm1 ?_ ?_ <;> clear hm1 <;> intro hm1
  ·refine wc_draw (id := 10) [⟨0, 0, [3]⟩, ⟨1, 1, [28]⟩, ⟨2, 0, [0]⟩, ⟨3, 4, [30]⟩, ⟨4, 12, [31]⟩, ⟨5, 31, [29, 32]⟩, ⟨6, 63, [3]⟩, ⟨7, 127, [33, 34]⟩] mixed (by kernel_rfl) ?_
   refine ss ?_
   obtain ⟨y7, hy, hm1⟩ := obnd_o hm1
   refine wd_io (Mwld_Tape_Range_sp (hm := hy)) 0 rfl rfl rfl (by repeat (first | exact Vws.nil | apply Vws.cons | exact Vw.nil | exact Vw.d _ | exact Vw.q _ | exact Vw.p rfl | apply Vw.a)) rfl (Vb.box (by repeat (first | exact Vws.nil | apply Vws.cons | exact Vw.nil | exact Vw.d _ | exact Vw.q _ | exact Vw.p rfl | apply Vw.a))) rfl rfl rfl (by first | exact .no rfl | exact .y rfl rfl rfl rfl) rfl rfl rfl rfl ?_
   refine ss ?_
   refine wd_bt Rng.ds [y7.1] rfl rfl (by simp only [flatV, cellsV, List.cons_append, List.nil_append, List.append_nil]; exact rfl) rfl rfl rfl rfl (by first | exact .no rfl | exact .y rfl rfl rfl rfl) rfl rfl ?_
   refine ss ?_
   obtain ⟨l8, hy, hm1⟩ := obnd_o hm1
   refine wd_app (k' := 133) hy rfl rfl rfl rfl rfl rfl rfl rfl (by first | exact .no rfl | exact .y rfl rfl rfl rfl) rfl rfl rfl ?_
   refine ss ?_
   cases hm1
   exact wk_cutw [(0, 0), (102, 102), (103, 103)] ⟨_, _, _, _, _, _, rfl, rfl⟩
  refine sr ?_
  refine wc_cs hm1 ?_ ?_ <;> clear hm1 <;> intro hm1
  ·refine sr ?_
   refine wl_bt dsI [64, 65] rfl rfl (by simp only [flatV, cellsV, List.cons_append, List.nil_append, List.append_nil]; exact rfl) rfl rfl rfl rfl rfl rfl ?_
   refine ss ?_
   obtain ⟨y9, hy, hm1⟩ := obnd_o hm1
   refine wl_iq (Mwld_Tape_Pick_sp (hm := hy)) 0 ?_
   refine ss ?_
   obtain ⟨mu2, hm2, hm1⟩ := obnd_o hm1
   refine wc_cut' (fun st => ∃ (q12 : List Rng), q12 = mu2 ∧ st = ⟨[(2, .p 102 0), (3, .p 103 0)], [(0, some (.box 119 [.d (lst dsI y9.2.l), vI y9.2.at_])), (102, some (.box 27 [vI 0, .d (.c (.slice none 0 0)), vS ⟨#[]⟩, vI 0])), (103, some (.box 27 [vI y2.1.Kind, .d (lst Rng.ds q12), vS y2.1.Key, vI y2.1.Count]))]⟩) ?_ ?_
   ·refine wc_block ?_
    refine wc_loopw (fun κ st => ∃ (q10 : List Rng), Mwld_Tape_OddQuery_l1 y9 κ q10 = some mu2 ∧ st = ⟨[(2, .p 102 0), (3, .p 103 0), (4, vI y9.1)], [(0, some (.box 119 [.d (lst dsI y9.2.l), vI y9.2.at_])), (102, some (.box 27 [vI 0, .d (.c (.slice none 0 0)), vS ⟨#[]⟩, vI 0])), (103, some (.box 27 [vI y2.1.Kind, .h 5001, vS y2.1.Key, vI y2.1.Count])), (5001, some (arrT 42 4 Rng.ds q10))]⟩) [(0, 0), (102, 102), (103, 103), (5001, 200601)] ⟨_, hm2, rfl⟩ ?_
    rintro κ _ ⟨q10, hm2, rfl⟩
    cases κ with
    | zero => rw [Mwld_Tape_OddQuery_l1.eq_1] at hm2; cases hm2
    | succ κ =>
     rw [Mwld_Tape_OddQuery_l1.eq_2] at hm2
     refine sr ?_
     refine wc_cs hm2 ?_ ?_ <;> clear hm2 <;> intro hm2
     ·refine sx ?_
      refine sr ?_
      refine wl_bt Rng.ds [(Rng.mk (Bnd.mk ⟨#[]⟩ false) (Bnd.mk ⟨#[]⟩ false))] rfl rfl (by simp only [flatV, cellsV, List.cons_append, List.nil_append, List.append_nil]; exact rfl) rfl rfl rfl rfl rfl rfl ?_
      refine ss ?_
      obtain ⟨l11, hy, hm2⟩ := obnd_o hm2
      refine wl_2 (n_app (k' := 149) hy rfl rfl rfl rfl rfl rfl rfl rfl) rfl rfl rfl rfl ?_
      refine ss ?_
      exact wk_loopw [(0, 0), (102, 102), (103, 103), (5001, 149)] ⟨_, hm2, rfl⟩ (Nat.lt_succ_self _)
     refine wc_exit ?_
     refine ss ?_
     cases hm2
     exact wk_cutw [(0, 0), (102, 102), (103, 103)] ⟨_, rfl, rfl⟩
   rintro _ ⟨q12, rfl, rfl⟩
   refine ss ?_
   cases hm1
   exact wk_cutw [(0, 0), (102, 102), (103, 103)] ⟨_, _, _, _, _, _, rfl, rfl⟩
  refine sx ?_
  cases hm1
  exact wk_cutw [(0, 0), (102, 102), (103, 103)] ⟨_, _, _, _, _, _, rfl, rfl⟩
 rintro _ ⟨q13, q14, q15, q16, x17, x18, rfl, rfl⟩
 refine sr ?_
 refine sx ?_
 cases hm
 exact wk_reti [(0, 0)] ⟨rfl, rfl⟩

theorem Mref20_Same_sp {a1 : List Kv} {b2 : List Kv} {y : Bool} (hm : Mref20_Same a1 b2 = some y) : Spec Tryz.prog 43 [.d (lst Kv.ds a1), .d (lst Kv.ds b2)] [] fun u h => u = vB y ∧ h = [] := by
 refine si Tryz.func43 Tryz.ntmps43 Tryz.results43 fun B w0 ρ0 => ?_
 unfold Mref20_Same at hm
 refine sr ?_
 refine sr ?_
 refine wc_cs hm ?_ ?_ <;> clear hm <;> intro hm
 ·refine sr ?_
  refine sx ?_
  cases hm
  exact wk_r
 refine sx ?_
 refine sr ?_
 obtain ⟨mu1, hm1, hm⟩ := obnd_o hm
 refine wc_cut' (fun st => mu1 = Ctl.nxt () ∧ st = ⟨[], []⟩) ?_ ?_
 ·refine wc_block ?_
  refine wc_len 0 rfl (fun hlenm5 => ?_)
  refine wc_loopw (fun κ st => ∃ (m5 : Nat) , κ = a1.length - m5 ∧ m5 ≤ a1.length ∧ Mref20_Same_l1 a1 b2 (a1.drop m5) (m5 : Int) = some mu1 ∧ st = ⟨[(0, .d (lst Kv.ds a1)), (1, .d (lst Kv.ds b2)), (12, vI (a1.length : Int)), (13, vI (m5 : Int))], []⟩) [] ⟨0, rfl, Nat.zero_le _, hm1, rfl⟩ ?_
  rintro κ _ ⟨m5, rfl, hlem5, hm1, rfl⟩
  rcases Nat.lt_or_ge m5 a1.length with hltm5 | hgem5
  ·obtain ⟨r3, hxm5, hdr⟩ := drop_c hltm5
   rw [hdr, Mref20_Same_l1.eq_2] at hm1
   refine sr ?_
   refine wc_seq ?_
   refine wc_cond_tt (lt_t hltm5) rfl ?_
   refine sx ?_
   refine sr ?_
   refine wc_seq ?_
   refine wc_draw (id := 6) [⟨0, 0, [0]⟩, ⟨1, 0, [5]⟩, ⟨2, 3, [16, 17]⟩, ⟨3, 7, [18]⟩, ⟨4, 0, [1]⟩, ⟨5, 0, [5]⟩, ⟨6, 48, [20, 21]⟩, ⟨7, 112, [22]⟩, ⟨8, 255, [19, 23]⟩] mixed (by kernel_rfl) ?_
   refine ss ?_
   obtain ⟨e6, hy, hm1⟩ := obnd_o hm1
   refine wd_r [] (o_ixg (ys := [dS e6.key, dS e6.val]) hy rfl rfl rfl rfl) rfl (by first | exact .no rfl | exact .y rfl rfl rfl rfl) rfl rfl ?_
   refine ss ?_
   obtain ⟨e7, hy, hm1⟩ := obnd_o hm1
   refine wd_r [] (o_ixg (ys := [dS e7.key, dS e7.val]) hy rfl rfl rfl rfl) rfl (by first | exact .no rfl | exact .y rfl rfl rfl rfl) rfl rfl ?_
   refine ss ?_
   refine wc_cs hm1 ?_ ?_ <;> clear hm1 <;> intro hm1
   ·refine sr ?_
    refine sx ?_
    cases hm1
    replace hm := ocbnd_r hm
    cases hm
    exact wk_r
   refine sx ?_
   refine sr ?_
   refine wl_r (o_inc hltm5 hlenm5 rfl rfl rfl) rfl rfl rfl ?_
   refine ss ?_
   exact wk_loopw [] ⟨m5 + 1, rfl, hltm5, hm1, rfl⟩ (by omega)
  ·rw [drop_n hgem5, Mref20_Same_l1.eq_1] at hm1
   refine sr ?_
   refine wc_seq ?_
   refine wc_cond_ff (lt_f hgem5) rfl ?_
   refine wc_exit ?_
   refine ss ?_
   cases hm1
   exact wk_cutw [] ⟨rfl, rfl⟩
 rintro _ ⟨rfl, rfl⟩
 replace hm := ocbnd_n hm
 refine sr ?_
 refine sx ?_
 cases hm
 exact wk_r

end Go.Proofs.YtlbnhhfaedhgfaaGreatDoor
namespace Go.Proofs.YtlbnhhfaedhgfaaGreatDoor
open Go.RowKit
set_option maxRecDepth 100000
set_option maxHeartbeats 4000000
attribute [local irreducible] WK WC WL Wk Rel OpD OpV WD WO sel bnd obnd app lget lsl sget ssl scat letg iquo irem Op.bytesLess
theorem Mref21_Number_sp {value1 : ByteArray} {y : (Int × Bool)} (hm : Mref21_Number value1 = some y) : Spec Tryz.prog 187 [vS value1] [] fun u h => u = .t [vI y.1, vB y.2] ∧ h = [] := by
 refine si Tryz.func187 Tryz.ntmps187 Tryz.results187 fun B w0 ρ0 => ?_
 unfold Mref21_Number at hm
 refine sr ?_
 refine sr ?_
 refine wc_seq ?_
 refine wc_seq ?_
 obtain ⟨mu1, hm1, hm⟩ := obnd_o hm
 refine wc_cut' (fun st => ∃ (x3 : Bool), x3 = mu1 ∧ st = ⟨[(4, vS value1), (5, vB false), (16, vB x3)], []⟩) ?_ ?_
 ·refine sr ?_
  refine wl_sg hm1 ?_ ?_ <;> clear hm1 <;> intro hm1
  ·refine ss ?_
   obtain ⟨b2, hy, hm1⟩ := obnd_o hm1
   refine wl_r (o_sget hy rfl rfl rfl (by kernel_rfl)) rfl rfl rfl ?_
   refine ss ?_
   cases hm1
   exact wk_cutw [] ⟨_, rfl, rfl⟩
  refine ss ?_
  cases hm1
  exact wk_cutw [] ⟨_, rfl, rfl⟩
 rintro _ ⟨x3, rfl, rfl⟩
 refine ss ?_
 obtain ⟨mu1, hm1, hm⟩ := obnd_o hm
 refine wc_cut' (fun st => ∃ (s5 : ByteArray) (neg6 : Bool), mu1 = (s5, neg6) ∧ st = ⟨[(4, vS s5), (5, vB neg6)], []⟩) ?_ ?_
 ·refine wc_cs hm1 ?_ ?_ <;> clear hm1 <;> intro hm1
  ·refine sr ?_
   obtain ⟨s4, hy, hm1⟩ := obnd_o hm1
   refine wl_r (o_ssl hy rfl rfl (by kernel_rfl) rfl rfl) rfl rfl rfl ?_
   refine ss ?_
   cases hm1
   exact wk_cutw [] ⟨_, _, rfl, rfl⟩
  refine sx ?_
  cases hm1
  exact wk_cutw [] ⟨_, _, rfl, rfl⟩
 rintro _ ⟨s5, neg6, rfl, rfl⟩
 refine ss ?_
 refine wc_seq ?_
 refine wc_seq ?_
 obtain ⟨mu1, hm1, hm⟩ := obnd_o hm
 refine wc_cut' (fun st => ∃ (x8 : Bool), x8 = mu1 ∧ st = ⟨[(4, vS s5), (5, vB neg6), (39, vB x8)], []⟩) ?_ ?_
 ·refine sr ?_
  refine wl_sg hm1 ?_ ?_ <;> clear hm1 <;> intro hm1
  ·refine ss ?_
   cases hm1
   exact wk_cutw [] ⟨_, rfl, rfl⟩
  refine ss ?_
  refine wl_sg hm1 ?_ ?_ <;> clear hm1 <;> intro hm1
  ·refine ss ?_
   cases hm1
   exact wk_cutw [] ⟨_, rfl, rfl⟩
  refine ss ?_
  obtain ⟨b7, hy, hm1⟩ := obnd_o hm1
  refine wl_r (o_sget hy rfl rfl rfl (by kernel_rfl)) rfl rfl rfl ?_
  refine ss ?_
  refine wl_sg hm1 ?_ ?_ <;> clear hm1 <;> intro hm1
  ·refine ss ?_
   refine wl_sg hm1 ?_ ?_ <;> clear hm1 <;> intro hm1
   ·refine ss ?_
    cases hm1
    exact wk_cutw [] ⟨_, rfl, rfl⟩
   refine ss ?_
   cases hm1
   exact wk_cutw [] ⟨_, rfl, rfl⟩
  refine ss ?_
  cases hm1
  exact wk_cutw [] ⟨_, rfl, rfl⟩
 rintro _ ⟨x8, rfl, rfl⟩
 refine ss ?_
 refine wc_cs hm ?_ ?_ <;> clear hm <;> intro hm
 ·refine sr ?_
  refine sx ?_
  cases hm
  exact wk_r
 refine sx ?_
 refine sr ?_
 refine sr ?_
 obtain ⟨mu1, hm1, hm⟩ := obnd_o hm
 refine wc_cut' (fun st => ∃ (n15 : Int), mu1 = Ctl.nxt n15 ∧ st = ⟨[(5, vB neg6), (6, vI n15)], []⟩) ?_ ?_
 ·refine wc_block ?_
  refine wc_loopw (fun κ st => ∃ (n9 : Int) (i10 : Int), Mref21_Number_l1 s5 κ n9 i10 = some mu1 ∧ st = ⟨[(4, vS s5), (5, vB neg6), (6, vI n9), (7, vI i10)], []⟩) [] ⟨_, _, hm1, rfl⟩ ?_
  rintro κ _ ⟨n9, i10, hm1, rfl⟩
  cases κ with
  | zero => rw [Mref21_Number_l1.eq_1] at hm1; cases hm1
  | succ κ =>
   rw [Mref21_Number_l1.eq_2] at hm1
   refine sr ?_
   obtain ⟨mu2, hm2, hm1⟩ := obnd_o hm1
   refine wc_cut' (fun st => mu2 = Ctl.nxt () ∧ st = ⟨[(4, vS s5), (5, vB neg6), (6, vI n9), (7, vI i10)], []⟩) ?_ ?_
   ·refine wc_cs hm2 ?_ ?_ <;> clear hm2 <;> intro hm2
    ·refine sx ?_
     cases hm2
     exact wk_cutw [] ⟨rfl, rfl⟩
    refine wc_exit ?_
    refine ss ?_
    cases hm2
    replace hm1 := ocbnd_r hm1
    cases hm1
    exact wk_cutw [] ⟨_, rfl, rfl⟩
   rintro _ ⟨rfl, rfl⟩
   replace hm1 := ocbnd_n hm1
   refine ss ?_
   refine wc_seq ?_
   refine wc_block ?_
   refine wc_seq ?_
   refine wc_seq ?_
   obtain ⟨mu2, hm2, hm1⟩ := obnd_o hm1
   refine wc_cut' (fun st => ∃ (x13 : Bool), x13 = mu2 ∧ st = ⟨[(4, vS s5), (5, vB neg6), (6, vI n9), (7, vI i10), (55, vB x13)], []⟩) ?_ ?_
   ·refine sr ?_
    obtain ⟨b11, hy, hm2⟩ := obnd_o hm2
    refine wl_r (o_sget hy rfl rfl rfl (by kernel_rfl)) rfl rfl rfl ?_
    refine ss ?_
    refine wl_sg hm2 ?_ ?_ <;> clear hm2 <;> intro hm2
    ·refine ss ?_
     cases hm2
     exact wk_cutw [] ⟨_, rfl, rfl⟩
    refine ss ?_
    obtain ⟨b12, hy, hm2⟩ := obnd_o hm2
    refine wl_r (o_sget hy rfl rfl rfl (by kernel_rfl)) rfl rfl rfl ?_
    refine ss ?_
    cases hm2
    exact wk_cutw [] ⟨_, rfl, rfl⟩
   rintro _ ⟨x13, rfl, rfl⟩
   refine ss ?_
   refine wc_cs hm1 ?_ ?_ <;> clear hm1 <;> intro hm1
   ·refine sr ?_
    refine sx ?_
    cases hm1
    replace hm := ocbnd_r hm
    cases hm
    exact wk_r
   refine sx ?_
   refine sr ?_
   obtain ⟨b14, hy, hm1⟩ := obnd_o hm1
   refine wl_r (o_sget hy rfl rfl rfl (by kernel_rfl)) rfl rfl rfl ?_
   refine ss ?_
   refine wl_r (o_cvi (k1 := .u8) (k2 := .i64) rfl rfl (by kernel_rfl) (by kernel_rfl) rfl) rfl rfl rfl ?_
   refine ss ?_
   refine wl_r (o_add rfl rfl rfl rfl) rfl rfl rfl ?_
   refine sr ?_
   refine wl_r (o_add rfl rfl rfl rfl) rfl rfl rfl ?_
   refine ss ?_
   exact wk_loopw [] ⟨_, _, hm1, rfl⟩ (Nat.lt_succ_self _)
 rintro _ ⟨n15, rfl, rfl⟩
 replace hm := ocbnd_n hm
 refine sr ?_
 refine wc_cs hm ?_ ?_ <;> clear hm <;> intro hm
 ·refine sr ?_
  refine sx ?_
  cases hm
  exact wk_r
 refine sx ?_
 refine sr ?_
 refine wc_cs hm ?_ ?_ <;> clear hm <;> intro hm
 ·refine sr ?_
  refine sr ?_
  refine sx ?_
  cases hm
  exact wk_r
 refine sx ?_
 refine sr ?_
 refine sx ?_
 cases hm
 exact wk_r

theorem Mref21_one_sp {r1 : Kv} {y : TFold} (hm : Mref21_one r1 = some y) : Spec Tryz.prog 159 [.a [vS r1.key, vS r1.val]] [] fun u h => u = .a [vI y.Count, vI y.Numbers, vI y.Sum, vI y.Low, vI y.High, vS y.First, vS y.Last] ∧ h = [] := by
 refine si Tryz.func159 Tryz.ntmps159 Tryz.results159 fun B w0 ρ0 => ?_
 unfold Mref21_one at hm
 refine sr ?_
 refine sr ?_
 refine sr ?_
 obtain ⟨y2, hy, hm⟩ := obnd_o hm
 refine wl_cq (Mref21_Number_sp (hm := hy)) ?_
 refine sr ?_
 refine wc_cs hm ?_ ?_ <;> clear hm <;> intro hm
 ·refine sr ?_
  refine sr ?_
  refine sx ?_
  cases hm
  exact wk_r
 refine sx ?_
 refine sr ?_
 refine sx ?_
 cases hm
 exact wk_r

theorem Mref21_Join_sp {a1 : TFold} {b2 : TFold} {y : TFold} (hm : Mref21_Join a1 b2 = y) : Spec Tryz.prog 158 [.a [vI a1.Count, vI a1.Numbers, vI a1.Sum, vI a1.Low, vI a1.High, vS a1.First, vS a1.Last], .a [vI b2.Count, vI b2.Numbers, vI b2.Sum, vI b2.Low, vI b2.High, vS b2.First, vS b2.Last]] [] fun u h => u = .a [vI y.Count, vI y.Numbers, vI y.Sum, vI y.Low, vI y.High, vS y.First, vS y.Last] ∧ h = [] := by
 refine si Tryz.func158 Tryz.ntmps158 Tryz.results158 fun B w0 ρ0 => ?_
 unfold Mref21_Join at hm
 refine sr ?_
 refine sr ?_
 refine wl_r (o_add rfl rfl rfl rfl) rfl rfl rfl ?_
 refine ss ?_
 refine wl_r (o_add rfl rfl rfl rfl) rfl rfl rfl ?_
 refine ss ?_
 refine wl_r (o_add rfl rfl rfl rfl) rfl rfl rfl ?_
 refine sr ?_
 obtain ⟨mu1, hm1, hm⟩ := bnd_o hm
 refine wc_cut' (fun st => ∃ (f3 : Int) (f4 : Int), mu1 = (f3, f4) ∧ st = ⟨[(2, .p 102 0), (3, .p 103 0), (4, .p 104 0), (5, .p 105 0)], [(102, some (.box 73 [vI a1.Count, vI a1.Numbers, vI a1.Sum, vI a1.Low, vI a1.High, vS a1.First, vS a1.Last])), (103, some (.box 73 [vI b2.Count, vI b2.Numbers, vI b2.Sum, vI b2.Low, vI b2.High, vS b2.First, vS b2.Last])), (104, some (.box 73 [vI 0, vI 0, vI 0, vI 0, vI 0, vS ⟨#[]⟩, vS ⟨#[]⟩])), (105, some (.box 73 [vI (i64w (a1.Count + b2.Count)), vI (i64w (a1.Numbers + b2.Numbers)), vI (i64w (a1.Sum + b2.Sum)), vI f3, vI f4, vS a1.First, vS b2.Last]))]⟩) ?_ ?_
 ·refine wc_cs hm1 ?_ ?_ <;> clear hm1 <;> intro hm1
  ·refine wc_draw (id := 3) [⟨0, 0, [2]⟩, ⟨1, 1, [39]⟩, ⟨2, 0, [2]⟩, ⟨3, 4, [41]⟩, ⟨4, 3, [5]⟩, ⟨5, 19, [40, 43]⟩, ⟨6, 63, [5]⟩, ⟨7, 127, [42, 44]⟩] mixed (by kernel_rfl) ?_
   refine ss ?_
   subst hm1
   exact wk_cutw [(102, 102), (103, 103), (104, 104), (105, 105)] ⟨_, _, rfl, rfl⟩
  refine sx ?_
  subst hm1
  exact wk_cutw [(102, 102), (103, 103), (104, 104), (105, 105)] ⟨_, _, rfl, rfl⟩
 rintro _ ⟨f3, f4, rfl, rfl⟩
 refine sr ?_
 obtain ⟨mu1, hm1, hm⟩ := bnd_o hm
 refine wc_cut' (fun st => ∃ (f5 : Int) (f6 : Int), mu1 = (f5, f6) ∧ st = ⟨[(2, .p 102 0), (3, .p 103 0), (4, .p 104 0), (5, .p 105 0)], [(102, some (.box 73 [vI a1.Count, vI a1.Numbers, vI a1.Sum, vI a1.Low, vI a1.High, vS a1.First, vS a1.Last])), (103, some (.box 73 [vI b2.Count, vI b2.Numbers, vI b2.Sum, vI b2.Low, vI b2.High, vS b2.First, vS b2.Last])), (104, some (.box 73 [vI 0, vI 0, vI 0, vI 0, vI 0, vS ⟨#[]⟩, vS ⟨#[]⟩])), (105, some (.box 73 [vI (i64w (a1.Count + b2.Count)), vI (i64w (a1.Numbers + b2.Numbers)), vI (i64w (a1.Sum + b2.Sum)), vI f5, vI f6, vS a1.First, vS b2.Last]))]⟩) ?_ ?_
 ·refine wc_cs hm1 ?_ ?_ <;> clear hm1 <;> intro hm1
  ·refine wc_draw (id := 5) [⟨0, 0, [3]⟩, ⟨1, 1, [48]⟩, ⟨2, 0, [3]⟩, ⟨3, 4, [50]⟩, ⟨4, 3, [5]⟩, ⟨5, 19, [49, 52]⟩, ⟨6, 63, [5]⟩, ⟨7, 127, [51, 53]⟩] mixed (by kernel_rfl) ?_
   refine ss ?_
   subst hm1
   exact wk_cutw [(102, 102), (103, 103), (104, 104), (105, 105)] ⟨_, _, rfl, rfl⟩
  refine sx ?_
  subst hm1
  exact wk_cutw [(102, 102), (103, 103), (104, 104), (105, 105)] ⟨_, _, rfl, rfl⟩
 rintro _ ⟨f5, f6, rfl, rfl⟩
 refine sr ?_
 obtain ⟨mu1, hm1, hm⟩ := bnd_o hm
 refine wc_cut' (fun st => ∃ (f7 : ByteArray), f7 = mu1 ∧ st = ⟨[(2, .p 102 0), (3, .p 103 0), (4, .p 104 0), (5, .p 105 0)], [(102, some (.box 73 [vI a1.Count, vI a1.Numbers, vI a1.Sum, vI a1.Low, vI a1.High, vS a1.First, vS a1.Last])), (103, some (.box 73 [vI b2.Count, vI b2.Numbers, vI b2.Sum, vI b2.Low, vI b2.High, vS b2.First, vS b2.Last])), (104, some (.box 73 [vI 0, vI 0, vI 0, vI 0, vI 0, vS ⟨#[]⟩, vS ⟨#[]⟩])), (105, some (.box 73 [vI (i64w (a1.Count + b2.Count)), vI (i64w (a1.Numbers + b2.Numbers)), vI (i64w (a1.Sum + b2.Sum)), vI f5, vI f6, vS f7, vS b2.Last]))]⟩) ?_ ?_
 ·refine wc_cs hm1 ?_ ?_ <;> clear hm1 <;> intro hm1
  ·refine sr ?_
   subst hm1
   exact wk_cutw [(102, 102), (103, 103), (104, 104), (105, 105)] ⟨_, rfl, rfl⟩
  refine sx ?_
  subst hm1
  exact wk_cutw [(102, 102), (103, 103), (104, 104), (105, 105)] ⟨_, rfl, rfl⟩
 rintro _ ⟨f7, rfl, rfl⟩
 refine sr ?_
 refine wc_cs hm ?_ ?_ <;> clear hm <;> intro hm
 ·refine sr ?_
  refine sr ?_
  refine sx ?_
  subst hm
  exact wk_r
 refine sx ?_
 refine sr ?_
 refine sx ?_
 subst hm
 exact wk_r

theorem Mref21_Of_sp {rows1 : List Kv} {y : TFold} (hm : Mref21_Of rows1 = some y) : Spec Tryz.prog 109 [.d (lst Kv.ds rows1)] [] fun u h => u = .a [vI y.Count, vI y.Numbers, vI y.Sum, vI y.Low, vI y.High, vS y.First, vS y.Last] ∧ h = [] := by
 refine si Tryz.func109 Tryz.ntmps109 Tryz.results109 fun B w0 ρ0 => ?_
 unfold Mref21_Of at hm
 refine sr ?_
 refine sr ?_
 refine sr ?_
 obtain ⟨mu1, hm1, hm⟩ := obnd_o hm
 refine wc_cut' (fun st => ∃ (f14 : Int) (f15 : Int) (f16 : Int) (f17 : Int) (f18 : Int) (f19 : ByteArray) (f20 : ByteArray), mu1 = (f14, f15, f16, f17, f18, f19, f20) ∧ st = ⟨[(2, .p 102 0), (3, .p 103 0)], [(102, some (.box 73 [vI 0, vI 0, vI 0, vI 0, vI 0, vS ⟨#[]⟩, vS ⟨#[]⟩])), (103, some (.box 73 [vI f14, vI f15, vI f16, vI f17, vI f18, vS f19, vS f20]))]⟩) ?_ ?_
 ·refine wc_block ?_
  refine wc_len 6 rfl (fun hlenm11 => ?_)
  refine wc_loopw (fun κ st => ∃ (m11 : Nat) (f2 : Int) (f3 : Int) (f4 : Int) (f5 : Int) (f6 : Int) (f7 : ByteArray) (f8 : ByteArray), κ = rows1.length - m11 ∧ m11 ≤ rows1.length ∧ Mref21_Of_l1 (rows1.drop m11) f2 f3 f4 f5 f6 f7 f8 = some mu1 ∧ st = ⟨[(2, .p 102 0), (3, .p 103 0), (6, .d (lst Kv.ds rows1)), (7, vI (rows1.length : Int)), (8, vI (m11 : Int))], [(102, some (.box 73 [vI 0, vI 0, vI 0, vI 0, vI 0, vS ⟨#[]⟩, vS ⟨#[]⟩])), (103, some (.box 73 [vI f2, vI f3, vI f4, vI f5, vI f6, vS f7, vS f8]))]⟩) [(102, 102), (103, 103)] ⟨0, _, _, _, _, _, _, _, rfl, Nat.zero_le _, hm1, rfl⟩ ?_
  rintro κ _ ⟨m11, f2, f3, f4, f5, f6, f7, f8, rfl, hlem11, hm1, rfl⟩
  rcases Nat.lt_or_ge m11 rows1.length with hltm11 | hgem11
  ·obtain ⟨r9, hxm11, hdr⟩ := drop_c hltm11
   rw [hdr, Mref21_Of_l1.eq_2] at hm1
   refine sr ?_
   refine wc_seq ?_
   refine wc_cond_tt (lt_t hltm11) rfl ?_
   refine sx ?_
   refine sr ?_
   refine wl_r (o_ixm (ys := [dS r9.key, dS r9.val]) hxm11 rfl rfl rfl rfl) rfl rfl rfl ?_
   refine ss ?_
   refine wc_draw (id := 5) [⟨0, 0, [3]⟩, ⟨1, 0, [5]⟩, ⟨2, 2, [13]⟩, ⟨3, 7, [12, 14]⟩, ⟨4, 15, [3, 15]⟩] mixed (by kernel_rfl) ?_
   refine ss ?_
   obtain ⟨y12, hy, hm1⟩ := obnd_o hm1
   refine wd_cs (Mref21_one_sp (hm := hy)) rfl rfl rfl (by repeat (first | exact Vws.nil | apply Vws.cons | exact Vw.nil | exact Vw.d _ | exact Vw.q _ | apply Vw.a)) rfl rfl (by first | exact .no rfl | exact .y rfl rfl rfl rfl) rfl rfl rfl ?_
   refine ss ?_
   obtain ⟨y13, hy, hm1⟩ := bnd_o hm1
   refine wd_cs (Mref21_Join_sp (hm := hy)) rfl rfl rfl (by repeat (first | exact Vws.nil | apply Vws.cons | exact Vw.nil | exact Vw.d _ | exact Vw.q _ | apply Vw.a)) rfl rfl (by first | exact .no rfl | exact .y rfl rfl rfl rfl) rfl rfl rfl ?_
   refine sr ?_
   refine wl_r (o_inc hltm11 hlenm11 rfl rfl rfl) rfl rfl rfl ?_
   refine ss ?_
   exact wk_loopw [(102, 102), (103, 103)] ⟨m11 + 1, _, _, _, _, _, _, _, rfl, hltm11, hm1, rfl⟩ (by omega)
  ·rw [drop_n hgem11, Mref21_Of_l1.eq_1] at hm1
   refine sr ?_
   refine wc_seq ?_
   refine wc_cond_ff (lt_f hgem11) rfl ?_
   refine wc_exit ?_
   refine ss ?_
   cases hm1
   exact wk_cutw [(102, 102), (103, 103)] ⟨_, _, _, _, _, _, _, rfl, rfl⟩
 rintro _ ⟨f14, f15, f16, f17, f18, f19, f20, rfl, rfl⟩
 refine sr ?_
 refine sx ?_
 cases hm
 exact wk_r

theorem Mref22_Take_sp {q1 : TQuery} {rows2 : List Kv} {y : List Kv} (hm : Mref22_Take q1 rows2 = some y) : Spec Tryz.prog 44 [.a [vI q1.Kind, .d (lst Rng.ds q1.Ranges), vS q1.Key, vI q1.Count], .d (lst Kv.ds rows2)] [] fun u h => u = .d (lst Kv.ds y) ∧ h = [] := by
 refine si Tryz.func44 Tryz.ntmps44 Tryz.results44 fun B w0 ρ0 => ?_
 unfold Mref22_Take at hm
 refine sr ?_
 refine sr ?_
 refine sr ?_
 refine sr ?_
 refine wc_cs hm ?_ ?_ <;> clear hm <;> intro hm
 ·refine sr ?_
  obtain ⟨l3, hy, hm⟩ := obnd_o hm
  refine wl_r (o_lsl hy rfl rfl rfl rfl) rfl rfl rfl ?_
  refine sr ?_
  obtain ⟨l4, hy, hm⟩ := obnd_o hm
  refine wl_1 (n_appn (k := 128) hy rfl rfl rfl rfl rfl rfl) rfl rfl rfl rfl ?_
  refine sx ?_
  cases hm
  exact wk_r
 refine sr ?_
 refine wc_cs hm ?_ ?_ <;> clear hm <;> intro hm
 ·refine sr ?_
  obtain ⟨l5, hy, hm⟩ := obnd_o hm
  refine wl_r (o_lsl hy rfl rfl rfl rfl) rfl rfl rfl ?_
  refine sr ?_
  obtain ⟨l6, hy, hm⟩ := obnd_o hm
  refine wl_1 (n_appn (k := 128) hy rfl rfl rfl rfl rfl rfl) rfl rfl rfl rfl ?_
  refine sx ?_
  cases hm
  exact wk_r
 refine sx ?_
 refine sr ?_
 obtain ⟨l7, hy, hm⟩ := obnd_o hm
 refine wl_1 (n_appn (k := 128) hy rfl rfl rfl rfl rfl rfl) rfl rfl rfl rfl ?_
 refine sx ?_
 cases hm
 exact wk_r

def Mref22_SameAnswer (a1 : TAnswer) (b2 : TAnswer) : Option Bool :=
 obnd (Mref20_Same a1.Rows b2.Rows) fun y3 =>
 sel y3 (
  some (decide (a1.Fold.Count = b2.Fold.Count) && decide (a1.Fold.Numbers = b2.Fold.Numbers) && decide (a1.Fold.Sum = b2.Fold.Sum) && decide (a1.Fold.Low = b2.Fold.Low) && decide (a1.Fold.High = b2.Fold.High) && decide (a1.Fold.First = b2.Fold.First) && decide (a1.Fold.Last = b2.Fold.Last))) (
  some false)
theorem Mref22_SameAnswer_sp {a1 : TAnswer} {b2 : TAnswer} {y : Bool} (hm : Mref22_SameAnswer a1 b2 = some y) : Spec Tryz.prog 52 [.a [.d (lst Kv.ds a1.Rows), vI a1.Fold.Count, vI a1.Fold.Numbers, vI a1.Fold.Sum, vI a1.Fold.Low, vI a1.Fold.High, vS a1.Fold.First, vS a1.Fold.Last], .a [.d (lst Kv.ds b2.Rows), vI b2.Fold.Count, vI b2.Fold.Numbers, vI b2.Fold.Sum, vI b2.Fold.Low, vI b2.Fold.High, vS b2.Fold.First, vS b2.Fold.Last]] [] fun u h => u = vB y ∧ h = [] := by
 refine si Tryz.func52 Tryz.ntmps52 Tryz.results52 fun B w0 ρ0 => ?_
 unfold Mref22_SameAnswer at hm
 refine sr ?_
 refine sr ?_
 obtain ⟨y3, hy, hm⟩ := obnd_o hm
 refine wl_cq (Mref20_Same_sp (hm := hy)) ?_
 refine ss ?_
 refine wl_sg hm ?_ ?_ <;> clear hm <;> intro hm
 ·refine sx ?_
  cases hm
  exact wk_r
 refine sx ?_
 cases hm
 exact wk_r

end Go.Proofs.YtlbnhhfaedhgfaaGreatDoor
namespace Go.Proofs.YtlbnhhfaedhgfaaGreatDoor
open Go.RowKit
theorem oddQuery_l1_ok (y : Int × TTape) (hy : y.1 ≤ 100) : ∀ (fuel : Nat) (q : List Rng), (y.1 - q.length).toNat < fuel → q.length ≤ 100 → ∃ q', Mwld_Tape_OddQuery_l1 y fuel q = some q' ∧ q'.length ≤ 100
  | 0, _, h, _ => absurd h (by omega)
  | fuel + 1, q, h, hq => by
    rw [Mwld_Tape_OddQuery_l1.eq_2, sel_ite]
    split
    · rename_i hh
      simp only [decide_eq_true_eq] at hh
      rw [app_le (by simp; omega), obnd_some]
      exact oddQuery_l1_ok y hy fuel _ (by simp; omega) (by simp; omega)
    · exact ⟨_, rfl, hq⟩
theorem oddQuery_ok {τ : TTape} (h : okT τ) : ∃ q τ', Mwld_Tape_OddQuery τ = some (q, τ') ∧ okT τ' ∧ q.Ranges.length ≤ 100 := by
  unfold Mwld_Tape_OddQuery
  obtain ⟨q, τ1, e1, h1, hq⟩ := query_ok h
  have hq2 := hq.2.1
  obtain ⟨x, τ2, e2, h2, hx⟩ := next_ok h1 6 (by omega)
  rw [e1, obnd_some]; simp only; rw [e2, obnd_some]; simp only
  have fin : ∀ {M : Option (Int × List Rng × ByteArray × Int × List Int × Int)}, (∃ a b c d l a', M = some (a, b, c, d, l, a') ∧ okT ⟨l, a'⟩ ∧ b.length ≤ 100) → ∃ q τ', (obnd M fun (q13, q14, q15, q16, x17, x18) => some ((TQuery.mk q13 q14 q15 q16), (TTape.mk x17 x18))) = some (q, τ') ∧ okT τ' ∧ q.Ranges.length ≤ 100 := by
    rintro _ ⟨a, b, c, d, l, a', rfl, g1, g2⟩
    exact ⟨_, _, rfl, g1, g2⟩
  refine fin ?_
  rw [sel_ite]; split
  · obtain ⟨y, τ3, e3, h3, hy⟩ := pick_ok h2 [0, 5, (-1), 1, 2, 3, 4] (by decide) (by decide)
    rw [e3, obnd_some]
    exact ⟨_, _, _, _, _, _, rfl, h3, by omega⟩
  rw [sel_ite]; split
  · obtain ⟨y, τ3, e3, h3, hy⟩ := oddKey_ok h2
    rw [e3, obnd_some]
    exact ⟨_, _, _, _, _, _, rfl, h3, by omega⟩
  rw [sel_ite]; split
  · obtain ⟨y, τ3, e3, h3, hy⟩ := pick_ok h2 [0, (-1), 1024, 1025, 1] (by decide) (by decide)
    rw [e3, obnd_some]
    exact ⟨_, _, _, _, _, _, rfl, h3, by omega⟩
  rw [sel_ite]; split
  · obtain ⟨y, τ3, e3, h3, -⟩ := range_ok h2
    rw [e3, obnd_some, app_le (by simp; omega), obnd_some]
    exact ⟨_, _, _, _, _, _, rfl, h3, by simp; omega⟩
  rw [sel_ite]; split
  · obtain ⟨y, τ3, e3, h3, hy⟩ := pick_ok h2 [64, 65] (by decide) (by decide)
    have hy' : y = 64 ∨ y = 65 := by simpa using hy
    rw [e3, obnd_some]
    obtain ⟨q', e, hq'⟩ := oddQuery_l1_ok (y, τ3) (by simp only; omega) FU q.Ranges (by unfold FU; simp only; omega) (by omega)
    rw [e, obnd_some]
    exact ⟨_, _, _, _, _, _, rfl, h3, hq'⟩
  · exact ⟨_, _, _, _, _, _, rfl, h2, by omega⟩
end Go.Proofs.YtlbnhhfaedhgfaaGreatDoor
namespace Go.Proofs.YtlbnhhfaedhgfaaGreatDoor
open Go.RowKit
set_option maxRecDepth 100000
set_option maxHeartbeats 4000000
attribute [local irreducible] WK WC WL Wk Rel OpD OpV WD WO sel bnd obnd app lget lsl sget ssl scat letg iquo irem Op.bytesLess
attribute [local irreducible] qchk qranges union
theorem Mref24_SameRange_sp {a1 : Rng} {b2 : Rng} {y : Bool} (hm : Mref24_SameRange a1 b2 = y) : Spec Tryz.prog 39 [.a [vS a1.lo.key, vB a1.lo.top, vS a1.hi.key, vB a1.hi.top], .a [vS b2.lo.key, vB b2.lo.top, vS b2.hi.key, vB b2.hi.top]] [] fun u h => u = vB y ∧ h = [] := by
 refine si Tryz.func39 Tryz.ntmps39 Tryz.results39 fun B w0 ρ0 => ?_
 unfold Mref24_SameRange at hm
 refine sr ?_
 refine sr ?_
 obtain ⟨y3, hy, hm⟩ := bnd_o hm
 refine wl_cq (Mref1_Compare_sp (hm := hy)) ?_
 refine ss ?_
 refine wl_sg hm ?_ ?_ <;> clear hm <;> intro hm
 ·refine ss ?_
  obtain ⟨y4, hy, hm⟩ := bnd_o hm
  refine wl_cq (Mref1_Compare_sp (hm := hy)) ?_
  refine sx ?_
  subst hm
  exact wk_r
 refine sx ?_
 subst hm
 exact wk_r

end Go.Proofs.YtlbnhhfaedhgfaaGreatDoor
namespace Go.Proofs.YtlbnhhfaedhgfaaGreatDoor
open Go.RowKit
set_option maxRecDepth 100000
set_option maxHeartbeats 4000000
attribute [local irreducible] WK WC WL Wk Rel OpD OpV WD WO sel bnd obnd app lget lsl sget ssl scat letg iquo irem Op.bytesLess
attribute [local irreducible] qchk qranges union
theorem Mref28_SameVisit_sp {a1 : TVisit} {b2 : TVisit} {y : Bool} (hm : Mref28_SameVisit a1 b2 = some y) : Spec Tryz.prog 112 [.a [vI a1.View.Owner, vS a1.View.Interval.lo.key, vB a1.View.Interval.lo.top, vS a1.View.Interval.hi.key, vB a1.View.Interval.hi.top, vI a1.View.Stamp.Epoch, vI a1.View.Stamp.Version, .d (lst Kv.ds a1.View.Rows), vS a1.Part.lo.key, vB a1.Part.lo.top, vS a1.Part.hi.key, vB a1.Part.hi.top], .a [vI b2.View.Owner, vS b2.View.Interval.lo.key, vB b2.View.Interval.lo.top, vS b2.View.Interval.hi.key, vB b2.View.Interval.hi.top, vI b2.View.Stamp.Epoch, vI b2.View.Stamp.Version, .d (lst Kv.ds b2.View.Rows), vS b2.Part.lo.key, vB b2.Part.lo.top, vS b2.Part.hi.key, vB b2.Part.hi.top]] [] fun u h => u = vB y ∧ h = [] := by
 refine si Tryz.func112 Tryz.ntmps112 Tryz.results112 fun B w0 ρ0 => ?_
 unfold Mref28_SameVisit at hm
 refine sr ?_
 refine sr ?_
 refine wl_sg hm ?_ ?_ <;> clear hm <;> intro hm
 ·refine ss ?_
  refine wl_sg hm ?_ ?_ <;> clear hm <;> intro hm
  ·refine ss ?_
   obtain ⟨y3, hy, hm⟩ := bnd_o hm
   refine wl_cq (Mref24_SameRange_sp (hm := hy)) ?_
   refine ss ?_
   refine wl_sg hm ?_ ?_ <;> clear hm <;> intro hm
   ·refine ss ?_
    obtain ⟨y4, hy, hm⟩ := bnd_o hm
    refine wl_cq (Mref24_SameRange_sp (hm := hy)) ?_
    refine ss ?_
    refine wl_sg hm ?_ ?_ <;> clear hm <;> intro hm
    ·refine ss ?_
     obtain ⟨y5, hy, hm⟩ := obnd_o hm
     refine wl_cq (Mref20_Same_sp (hm := hy)) ?_
     refine sx ?_
     cases hm
     exact wk_r
    refine sx ?_
    cases hm
    exact wk_r
   refine sx ?_
   cases hm
   exact wk_r
  refine sx ?_
  cases hm
  exact wk_r
 refine sx ?_
 cases hm
 exact wk_r

theorem Mref28_SameVisits_sp {a1 : List TVisit} {b2 : List TVisit} {y : Bool} (hm : Mref28_SameVisits a1 b2 = some y) : Spec Tryz.prog 121 [.d (lst TVisit.ds a1), .d (lst TVisit.ds b2)] [] fun u h => u = vB y ∧ h = [] := by
 refine si Tryz.func121 Tryz.ntmps121 Tryz.results121 fun B w0 ρ0 => ?_
 unfold Mref28_SameVisits at hm
 refine sr ?_
 refine sr ?_
 refine wc_cs hm ?_ ?_ <;> clear hm <;> intro hm
 ·refine sr ?_
  refine sx ?_
  cases hm
  exact wk_r
 refine sx ?_
 refine sr ?_
 obtain ⟨mu1, hm1, hm⟩ := obnd_o hm
 refine wc_cut' (fun st => mu1 = Ctl.nxt () ∧ st = ⟨[], []⟩) ?_ ?_
 ·refine wc_block ?_
  refine wc_len 0 rfl (fun hlenm5 => ?_)
  refine wc_loopw (fun κ st => ∃ (m5 : Nat) , κ = a1.length - m5 ∧ m5 ≤ a1.length ∧ Mref28_SameVisits_l1 a1 b2 (a1.drop m5) (m5 : Int) = some mu1 ∧ st = ⟨[(0, .d (lst TVisit.ds a1)), (1, .d (lst TVisit.ds b2)), (12, vI (a1.length : Int)), (13, vI (m5 : Int))], []⟩) [] ⟨0, rfl, Nat.zero_le _, hm1, rfl⟩ ?_
  rintro κ _ ⟨m5, rfl, hlem5, hm1, rfl⟩
  rcases Nat.lt_or_ge m5 a1.length with hltm5 | hgem5
  ·obtain ⟨r3, hxm5, hdr⟩ := drop_c hltm5
   rw [hdr, Mref28_SameVisits_l1.eq_2] at hm1
   refine sr ?_
   refine wc_seq ?_
   refine wc_cond_tt (lt_t hltm5) rfl ?_
   refine sx ?_
   refine sr ?_
   refine wc_seq ?_
   refine wc_draw (id := 6) [⟨0, 0, [0]⟩, ⟨1, 0, [5]⟩, ⟨2, 3, [16, 17]⟩, ⟨3, 7, [18]⟩, ⟨4, 0, [1]⟩, ⟨5, 0, [5]⟩, ⟨6, 48, [20, 21]⟩, ⟨7, 112, [22]⟩, ⟨8, 255, [19, 23]⟩, ⟨9, 511, [24]⟩] mixed (by kernel_rfl) ?_
   refine ss ?_
   obtain ⟨e6, hy, hm1⟩ := obnd_o hm1
   refine wd_r [] (o_ixg (ys := [dI e6.View.Owner, dS e6.View.Interval.lo.key, dB e6.View.Interval.lo.top, dS e6.View.Interval.hi.key, dB e6.View.Interval.hi.top, dI e6.View.Stamp.Epoch, dI e6.View.Stamp.Version, lst Kv.ds e6.View.Rows, dS e6.Part.lo.key, dB e6.Part.lo.top, dS e6.Part.hi.key, dB e6.Part.hi.top]) hy rfl rfl rfl rfl) rfl (by first | exact .no rfl | exact .y rfl rfl rfl rfl) rfl rfl ?_
   refine ss ?_
   obtain ⟨e7, hy, hm1⟩ := obnd_o hm1
   refine wd_r [] (o_ixg (ys := [dI e7.View.Owner, dS e7.View.Interval.lo.key, dB e7.View.Interval.lo.top, dS e7.View.Interval.hi.key, dB e7.View.Interval.hi.top, dI e7.View.Stamp.Epoch, dI e7.View.Stamp.Version, lst Kv.ds e7.View.Rows, dS e7.Part.lo.key, dB e7.Part.lo.top, dS e7.Part.hi.key, dB e7.Part.hi.top]) hy rfl rfl rfl rfl) rfl (by first | exact .no rfl | exact .y rfl rfl rfl rfl) rfl rfl ?_
   refine ss ?_
   obtain ⟨y8, hy, hm1⟩ := obnd_o hm1
   refine wd_cs (Mref28_SameVisit_sp (hm := hy)) rfl rfl rfl (by repeat (first | exact Vws.nil | apply Vws.cons | exact Vw.nil | exact Vw.d _ | exact Vw.q _ | apply Vw.a)) rfl rfl (by first | exact .no rfl | exact .y rfl rfl rfl rfl) rfl rfl rfl ?_
   refine ss ?_
   refine wc_cs hm1 ?_ ?_ <;> clear hm1 <;> intro hm1
   ·refine sr ?_
    refine sx ?_
    cases hm1
    replace hm := ocbnd_r hm
    cases hm
    exact wk_r
   refine sx ?_
   refine sr ?_
   refine wl_r (o_inc hltm5 hlenm5 rfl rfl rfl) rfl rfl rfl ?_
   refine ss ?_
   exact wk_loopw [] ⟨m5 + 1, rfl, hltm5, hm1, rfl⟩ (by omega)
  ·rw [drop_n hgem5, Mref28_SameVisits_l1.eq_1] at hm1
   refine sr ?_
   refine wc_seq ?_
   refine wc_cond_ff (lt_f hgem5) rfl ?_
   refine wc_exit ?_
   refine ss ?_
   cases hm1
   exact wk_cutw [] ⟨rfl, rfl⟩
 rintro _ ⟨rfl, rfl⟩
 replace hm := ocbnd_n hm
 refine sr ?_
 refine sx ?_
 cases hm
 exact wk_r

end Go.Proofs.YtlbnhhfaedhgfaaGreatDoor
namespace Go.Proofs.YtlbnhhfaedhgfaaGreatDoor
open Go.RowKit
section
variable {α β γ : Type} {M : Option α} {P Q : α → Prop} {b : Bool}
end
section
variable {τ : TTape}
theorem tot_oddQuery (h : okT τ) : Tot (Mwld_Tape_OddQuery τ) fun y => okT y.2 ∧ y.1.Ranges.length ≤ 100 := by
  obtain ⟨x, τ', e, h1, h2⟩ := oddQuery_ok h
  exact ⟨_, e, h1, h2⟩
end
end Go.Proofs.YtlbnhhfaedhgfaaGreatDoor
namespace Go.Proofs.YtlbnhhfaedhgfaaGreatDoor
open Go.RowKit
theorem sameAnswer_refl (a : TAnswer) : Mref22_SameAnswer a a = some true := by
  unfold Mref22_SameAnswer
  rw [eq_ref20_Same]
  simp [obnd_some, sel_true]
end Go.Proofs.YtlbnhhfaedhgfaaGreatDoor
namespace Go.Proofs.YtlbnhhfaedhgfaaGreatDoor
open Go.RowKit
set_option maxRecDepth 100000
set_option maxHeartbeats 4000000
attribute [local irreducible] WK WC WL Wk Rel OpD OpV WD WO sel bnd obnd app lget lsl sget ssl scat letg iquo irem Op.bytesLess
attribute [local irreducible] qchk qranges union
theorem Mref28_Tiling_sp {q1 : TQuery} {l2 : List TVisit} {y : Int} (hm : Mref28_Tiling q1 l2 = some y) : Spec Tryz.prog 114 [.a [vI q1.Kind, .d (lst Rng.ds q1.Ranges), vS q1.Key, vI q1.Count], .d (lst TVisit.ds l2)] [] fun u h => u = vI y ∧ h = [] := by
 refine si Tryz.func114 Tryz.ntmps114 Tryz.results114 fun B w0 ρ0 => ?_
 unfold Mref28_Tiling at hm
 refine sr ?_
 refine sr ?_
 obtain ⟨y3, hy, hm⟩ := bnd_o hm
 refine wl_cq (Mref22_Check_sp (hm := hy)) ?_
 refine sr ?_
 refine wc_cs hm ?_ ?_ <;> clear hm <;> intro hm
 ·refine sr ?_
  refine sx ?_
  cases hm
  exact wk_r
 refine sx ?_
 refine sr ?_
 obtain ⟨mu1, hm1, hm⟩ := obnd_o hm
 refine wc_cut' (fun st => mu1 = Ctl.nxt () ∧ st = ⟨[(1, .d (lst TVisit.ds l2)), (2, .p 102 0)], [(102, some (.box 27 [vI q1.Kind, .d (lst Rng.ds q1.Ranges), vS q1.Key, vI q1.Count]))]⟩) ?_ ?_
 ·refine wc_block ?_
  refine wc_len 19 rfl (fun hlenm6 => ?_)
  refine wc_loopw (fun κ st => ∃ (m6 : Nat) , κ = l2.length - m6 ∧ m6 ≤ l2.length ∧ Mref28_Tiling_l1 (l2.drop m6) = some mu1 ∧ st = ⟨[(1, .d (lst TVisit.ds l2)), (2, .p 102 0), (19, .d (lst TVisit.ds l2)), (20, vI (l2.length : Int)), (21, vI (m6 : Int))], [(102, some (.box 27 [vI q1.Kind, .d (lst Rng.ds q1.Ranges), vS q1.Key, vI q1.Count]))]⟩) [(102, 102)] ⟨0, rfl, Nat.zero_le _, hm1, rfl⟩ ?_
  rintro κ _ ⟨m6, rfl, hlem6, hm1, rfl⟩
  rcases Nat.lt_or_ge m6 l2.length with hltm6 | hgem6
  ·obtain ⟨r4, hxm6, hdr⟩ := drop_c hltm6
   rw [hdr, Mref28_Tiling_l1.eq_2] at hm1
   refine sr ?_
   refine wc_seq ?_
   refine wc_cond_tt (lt_t hltm6) rfl ?_
   refine sx ?_
   refine sr ?_
   refine wl_r (o_ixm (ys := [dI r4.View.Owner, dS r4.View.Interval.lo.key, dB r4.View.Interval.lo.top, dS r4.View.Interval.hi.key, dB r4.View.Interval.hi.top, dI r4.View.Stamp.Epoch, dI r4.View.Stamp.Version, lst Kv.ds r4.View.Rows, dS r4.Part.lo.key, dB r4.Part.lo.top, dS r4.Part.hi.key, dB r4.Part.hi.top]) hxm6 rfl rfl rfl rfl) rfl rfl rfl ?_
   refine ss ?_
   refine wc_seq ?_
   refine wc_seq ?_
   obtain ⟨mu2, hm2, hm1⟩ := obnd_o hm1
   refine wc_cut' (fun st => ∃ (x10 : Bool), x10 = mu2 ∧ st = ⟨[(1, .d (lst TVisit.ds l2)), (2, .p 102 0), (7, .p 107 0), (19, .d (lst TVisit.ds l2)), (20, vI (l2.length : Int)), (21, vI (m6 : Int)), (42, vB x10)], [(102, some (.box 27 [vI q1.Kind, .d (lst Rng.ds q1.Ranges), vS q1.Key, vI q1.Count])), (107, some (.box 62 [vI r4.View.Owner, vS r4.View.Interval.lo.key, vB r4.View.Interval.lo.top, vS r4.View.Interval.hi.key, vB r4.View.Interval.hi.top, vI r4.View.Stamp.Epoch, vI r4.View.Stamp.Version, .d (lst Kv.ds r4.View.Rows), vS r4.Part.lo.key, vB r4.Part.lo.top, vS r4.Part.hi.key, vB r4.Part.hi.top]))]⟩) ?_ ?_
   ·refine sr ?_
    obtain ⟨y7, hy, hm2⟩ := obnd_o hm2
    refine wl_cq (Mref28_ValidView_sp (hm := hy)) ?_
    refine ss ?_
    refine wl_sg hm2 ?_ ?_ <;> clear hm2 <;> intro hm2
    ·refine ss ?_
     cases hm2
     exact wk_cutw [(102, 102), (107, 107)] ⟨_, rfl, rfl⟩
    refine ss ?_
    obtain ⟨y8, hy, hm2⟩ := bnd_o hm2
    refine wl_cq (Mref1_Empty_sp (hm := hy)) ?_
    refine ss ?_
    refine wl_sg hm2 ?_ ?_ <;> clear hm2 <;> intro hm2
    ·refine ss ?_
     cases hm2
     exact wk_cutw [(102, 102), (107, 107)] ⟨_, rfl, rfl⟩
    refine ss ?_
    obtain ⟨y9, hy, hm2⟩ := bnd_o hm2
    refine wl_cq (Mref28_inside_sp (hm := hy)) ?_
    refine ss ?_
    cases hm2
    exact wk_cutw [(102, 102), (107, 107)] ⟨_, rfl, rfl⟩
   rintro _ ⟨x10, rfl, rfl⟩
   refine ss ?_
   refine wc_cs hm1 ?_ ?_ <;> clear hm1 <;> intro hm1
   ·refine sr ?_
    refine sx ?_
    cases hm1
    replace hm := ocbnd_r hm
    cases hm
    exact wk_r
   refine sx ?_
   refine sr ?_
   obtain ⟨y11, hy, hm1⟩ := bnd_o hm1
   refine wl_cq (Mref20_Within_sp (hm := hy)) ?_
   refine ss ?_
   refine wc_cs hm1 ?_ ?_ <;> clear hm1 <;> intro hm1
   ·refine sr ?_
    refine sx ?_
    cases hm1
    replace hm := ocbnd_r hm
    cases hm
    exact wk_r
   refine sx ?_
   refine sr ?_
   refine wl_r (o_inc hltm6 hlenm6 rfl rfl rfl) rfl rfl rfl ?_
   refine ss ?_
   exact wk_loopw [(102, 102)] ⟨m6 + 1, rfl, hltm6, hm1, rfl⟩ (by omega)
  ·rw [drop_n hgem6, Mref28_Tiling_l1.eq_1] at hm1
   refine sr ?_
   refine wc_seq ?_
   refine wc_cond_ff (lt_f hgem6) rfl ?_
   refine wc_exit ?_
   refine ss ?_
   cases hm1
   exact wk_cutw [(102, 102)] ⟨rfl, rfl⟩
 rintro _ ⟨rfl, rfl⟩
 replace hm := ocbnd_n hm
 refine sr ?_
 obtain ⟨y12, hy, hm⟩ := obnd_o hm
 refine wl_cq (Mref22_Ranges_sp (hm := hy)) ?_
 refine ss ?_
 refine wc_seq ?_
 refine wc_draw (id := 13) [⟨0, 0, [2]⟩, ⟨1, 0, [1]⟩, ⟨2, 2, [54]⟩, ⟨3, 6, [55]⟩, ⟨4, 15, [53, 56]⟩, ⟨5, 31, [57]⟩] mixed (by kernel_rfl) ?_
 refine ss ?_
 obtain ⟨y13, hy, hm⟩ := obnd_o hm
 refine wd_cs (Mref28_Rows_sp (hm := hy)) rfl rfl rfl (by repeat (first | exact Vws.nil | apply Vws.cons | exact Vw.nil | exact Vw.d _ | exact Vw.q _ | apply Vw.a)) rfl rfl (by first | exact .no rfl | exact .y rfl rfl rfl rfl) rfl rfl rfl ?_
 refine ss ?_
 obtain ⟨y14, hy, hm⟩ := bnd_o hm
 refine wd_cs (Mref22_Enough_sp (hm := hy)) rfl rfl rfl (by repeat (first | exact Vws.nil | apply Vws.cons | exact Vw.nil | exact Vw.d _ | exact Vw.q _ | apply Vw.a)) rfl rfl (by first | exact .no rfl | exact .y rfl rfl rfl rfl) rfl rfl rfl ?_
 refine sr ?_
 refine sr ?_
 refine sr ?_
 obtain ⟨mu1, hm1, hm⟩ := obnd_o hm
 refine wc_cut' (fun st => ∃ (pos16 : ByteArray) (pos17 : Bool), mu1 = (pos16, pos17) ∧ st = ⟨[(1, .d (lst TVisit.ds l2)), (2, .p 102 0), (8, .d (lst Rng.ds y12)), (9, vB y14), (10, vI 0), (11, .p 111 0)], [(102, some (.box 27 [vI q1.Kind, .d (lst Rng.ds q1.Ranges), vS q1.Key, vI q1.Count])), (111, some (.box 40 [vS pos16, vB pos17]))]⟩) ?_ ?_
 ·refine wc_cs hm1 ?_ ?_ <;> clear hm1 <;> intro hm1
  ·refine sr ?_
   obtain ⟨e15, hy, hm1⟩ := obnd_o hm1
   refine wl_r (o_ixg (ys := [dS e15.lo.key, dB e15.lo.top, dS e15.hi.key, dB e15.hi.top]) hy rfl rfl rfl rfl) rfl rfl rfl ?_
   refine ss ?_
   cases hm1
   exact wk_cutw [(102, 102), (111, 111)] ⟨_, _, rfl, rfl⟩
  refine sx ?_
  cases hm1
  exact wk_cutw [(102, 102), (111, 111)] ⟨_, _, rfl, rfl⟩
 rintro _ ⟨pos16, pos17, rfl, rfl⟩
 refine ss ?_
 refine wc_seq ?_
 refine wc_seq ?_
 obtain ⟨mu1, hm1, hm⟩ := obnd_o hm
 refine wc_cut' (fun st => ∃ (x19 : Bool), x19 = mu1 ∧ st = ⟨[(1, .d (lst TVisit.ds l2)), (2, .p 102 0), (8, .d (lst Rng.ds y12)), (9, vB y14), (10, vI 0), (11, .p 111 0), (74, vB x19)], [(102, some (.box 27 [vI q1.Kind, .d (lst Rng.ds q1.Ranges), vS q1.Key, vI q1.Count])), (111, some (.box 40 [vS pos16, vB pos17]))]⟩) ?_ ?_
 ·refine sr ?_
  obtain ⟨y18, hy, hm1⟩ := bnd_o hm1
  refine wl_cq (Mref22_Down_sp (hm := hy)) ?_
  refine ss ?_
  refine wl_sg hm1 ?_ ?_ <;> clear hm1 <;> intro hm1
  ·refine ss ?_
   refine wl_sg hm1 ?_ ?_ <;> clear hm1 <;> intro hm1
   ·refine ss ?_
    cases hm1
    exact wk_cutw [(102, 102), (111, 111)] ⟨_, rfl, rfl⟩
   refine ss ?_
   cases hm1
   exact wk_cutw [(102, 102), (111, 111)] ⟨_, rfl, rfl⟩
  refine ss ?_
  cases hm1
  exact wk_cutw [(102, 102), (111, 111)] ⟨_, rfl, rfl⟩
 rintro _ ⟨x19, rfl, rfl⟩
 refine ss ?_
 obtain ⟨mu1, hm1, hm⟩ := obnd_o hm
 refine wc_cut' (fun st => ∃ (pos21 : ByteArray) (pos22 : Bool), mu1 = (pos21, pos22) ∧ st = ⟨[(1, .d (lst TVisit.ds l2)), (2, .p 102 0), (8, .d (lst Rng.ds y12)), (9, vB y14), (10, vI 0), (11, .p 111 0)], [(102, some (.box 27 [vI q1.Kind, .d (lst Rng.ds q1.Ranges), vS q1.Key, vI q1.Count])), (111, some (.box 40 [vS pos21, vB pos22]))]⟩) ?_ ?_
 ·refine wc_cs hm1 ?_ ?_ <;> clear hm1 <;> intro hm1
  ·refine sr ?_
   obtain ⟨e20, hy, hm1⟩ := obnd_o hm1
   refine wl_r (o_ixg (ys := [dI e20.View.Owner, dS e20.View.Interval.lo.key, dB e20.View.Interval.lo.top, dS e20.View.Interval.hi.key, dB e20.View.Interval.hi.top, dI e20.View.Stamp.Epoch, dI e20.View.Stamp.Version, lst Kv.ds e20.View.Rows, dS e20.Part.lo.key, dB e20.Part.lo.top, dS e20.Part.hi.key, dB e20.Part.hi.top]) hy rfl rfl rfl rfl) rfl rfl rfl ?_
   refine ss ?_
   cases hm1
   exact wk_cutw [(102, 102), (111, 111)] ⟨_, _, rfl, rfl⟩
  refine sx ?_
  cases hm1
  exact wk_cutw [(102, 102), (111, 111)] ⟨_, _, rfl, rfl⟩
 rintro _ ⟨pos21, pos22, rfl, rfl⟩
 refine sr ?_
 obtain ⟨mu1, hm1, hm⟩ := obnd_o hm
 refine wc_cut' (fun st => ∃ (at36 : Int), mu1 = Ctl.nxt at36 ∧ st = ⟨[(2, .p 102 0), (8, .d (lst Rng.ds y12)), (9, vB y14), (10, vI at36)], [(102, some (.box 27 [vI q1.Kind, .d (lst Rng.ds q1.Ranges), vS q1.Key, vI q1.Count]))]⟩) ?_ ?_
 ·refine wc_block ?_
  refine wc_len 80 rfl (fun hlenm28 => ?_)
  refine wc_loopw (fun κ st => ∃ (m28 : Nat) (at23 : Int) (pos24 : ByteArray) (pos25 : Bool), κ = l2.length - m28 ∧ m28 ≤ l2.length ∧ Mref28_Tiling_l2 y12 (l2.drop m28) at23 pos24 pos25 = some mu1 ∧ st = ⟨[(2, .p 102 0), (8, .d (lst Rng.ds y12)), (9, vB y14), (10, vI at23), (11, .p 111 0), (80, .d (lst TVisit.ds l2)), (81, vI (l2.length : Int)), (82, vI (m28 : Int))], [(102, some (.box 27 [vI q1.Kind, .d (lst Rng.ds q1.Ranges), vS q1.Key, vI q1.Count])), (111, some (.box 40 [vS pos24, vB pos25]))]⟩) [(102, 102), (111, 111)] ⟨0, _, _, _, rfl, Nat.zero_le _, hm1, rfl⟩ ?_
  rintro κ _ ⟨m28, at23, pos24, pos25, rfl, hlem28, hm1, rfl⟩
  rcases Nat.lt_or_ge m28 l2.length with hltm28 | hgem28
  ·obtain ⟨r26, hxm28, hdr⟩ := drop_c hltm28
   rw [hdr, Mref28_Tiling_l2.eq_2] at hm1
   refine sr ?_
   refine wc_seq ?_
   refine wc_cond_tt (lt_t hltm28) rfl ?_
   refine sx ?_
   refine sr ?_
   refine wl_r (o_ixm (ys := [dI r26.View.Owner, dS r26.View.Interval.lo.key, dB r26.View.Interval.lo.top, dS r26.View.Interval.hi.key, dB r26.View.Interval.hi.top, dI r26.View.Stamp.Epoch, dI r26.View.Stamp.Version, lst Kv.ds r26.View.Rows, dS r26.Part.lo.key, dB r26.Part.lo.top, dS r26.Part.hi.key, dB r26.Part.hi.top]) hxm28 rfl rfl rfl rfl) rfl rfl rfl ?_
   refine sr ?_
   refine wc_cs hm1 ?_ ?_ <;> clear hm1 <;> intro hm1
   ·refine sr ?_
    refine sx ?_
    cases hm1
    replace hm := ocbnd_r hm
    cases hm
    exact wk_r
   refine sr ?_
   obtain ⟨y29, hy, hm1⟩ := bnd_o hm1
   refine wl_cq (Mref1_Compare_sp (hm := hy)) ?_
   refine ss ?_
   refine wc_cs hm1 ?_ ?_ <;> clear hm1 <;> intro hm1
   ·refine sr ?_
    refine sx ?_
    cases hm1
    replace hm := ocbnd_r hm
    cases hm
    exact wk_r
   refine sr ?_
   obtain ⟨y30, hy, hm1⟩ := bnd_o hm1
   refine wl_cq (Mref1_Compare_sp (hm := hy)) ?_
   refine ss ?_
   refine wc_cs hm1 ?_ ?_ <;> clear hm1 <;> intro hm1
   ·refine sr ?_
    refine sx ?_
    cases hm1
    replace hm := ocbnd_r hm
    cases hm
    exact wk_r
   refine wc_seq ?_
   refine wc_draw (id := 29) [⟨0, 0, [13]⟩, ⟨1, 1, [106]⟩, ⟨2, 3, [107]⟩, ⟨3, 0, [8]⟩, ⟨4, 0, [10]⟩, ⟨5, 24, [109, 110]⟩, ⟨6, 56, [111]⟩, ⟨7, 120, [112]⟩, ⟨8, 255, [108, 113]⟩, ⟨9, 511, [114]⟩, ⟨10, 1023, [115]⟩] mixed (by kernel_rfl) ?_
   refine ss ?_
   obtain ⟨e31, hy, hm1⟩ := obnd_o hm1
   refine wd_r [] (o_ixg (ys := [dS e31.lo.key, dB e31.lo.top, dS e31.hi.key, dB e31.hi.top]) hy rfl rfl rfl rfl) rfl (by first | exact .no rfl | exact .y rfl rfl rfl rfl) rfl rfl ?_
   refine ss ?_
   obtain ⟨y32, hy, hm1⟩ := bnd_o hm1
   refine wd_cs (Mref1_Compare_sp (hm := hy)) rfl rfl rfl (by repeat (first | exact Vws.nil | apply Vws.cons | exact Vw.nil | exact Vw.d _ | exact Vw.q _ | apply Vw.a)) rfl rfl (by first | exact .no rfl | exact .y rfl rfl rfl rfl) rfl rfl rfl ?_
   refine ss ?_
   refine wc_cs hm1 ?_ ?_ <;> clear hm1 <;> intro hm1
   ·refine sr ?_
    refine sx ?_
    cases hm1
    replace hm := ocbnd_r hm
    cases hm
    exact wk_r
   refine sx ?_
   refine sr ?_
   refine wc_seq ?_
   refine wc_draw (id := 32) [⟨0, 0, [11]⟩, ⟨1, 0, [8]⟩, ⟨2, 0, [10]⟩, ⟨3, 6, [120, 121]⟩, ⟨4, 14, [122]⟩, ⟨5, 30, [123]⟩, ⟨6, 63, [119, 124]⟩, ⟨7, 127, [125]⟩] mixed (by kernel_rfl) ?_
   refine ss ?_
   obtain ⟨e33, hy, hm1⟩ := obnd_o hm1
   refine wd_r [] (o_ixg (ys := [dS e33.lo.key, dB e33.lo.top, dS e33.hi.key, dB e33.hi.top]) hy rfl rfl rfl rfl) rfl (by first | exact .no rfl | exact .y rfl rfl rfl rfl) rfl rfl ?_
   refine ss ?_
   obtain ⟨y34, hy, hm1⟩ := bnd_o hm1
   refine wd_cs (Mref1_Compare_sp (hm := hy)) rfl rfl rfl (by repeat (first | exact Vws.nil | apply Vws.cons | exact Vw.nil | exact Vw.d _ | exact Vw.q _ | apply Vw.a)) rfl rfl (by first | exact .no rfl | exact .y rfl rfl rfl rfl) rfl rfl rfl ?_
   refine ss ?_
   refine wc_cs hm1 ?_ ?_ <;> clear hm1 <;> intro hm1
   ·refine sr ?_
    refine wl_r (o_add rfl rfl rfl rfl) rfl rfl rfl ?_
    refine sr ?_
    refine wc_cs hm1 ?_ ?_ <;> clear hm1 <;> intro hm1
    ·refine sr ?_
     obtain ⟨e35, hy, hm1⟩ := obnd_o hm1
     refine wl_r (o_ixg (ys := [dS e35.lo.key, dB e35.lo.top, dS e35.hi.key, dB e35.hi.top]) hy rfl rfl rfl rfl) rfl rfl rfl ?_
     refine sr ?_
     refine wl_r (o_inc hltm28 hlenm28 rfl rfl rfl) rfl rfl rfl ?_
     refine ss ?_
     exact wk_loopw [(102, 102), (111, 111)] ⟨m28 + 1, _, _, _, rfl, hltm28, hm1, rfl⟩ (by omega)
    refine sx ?_
    refine sr ?_
    refine wl_r (o_inc hltm28 hlenm28 rfl rfl rfl) rfl rfl rfl ?_
    refine ss ?_
    exact wk_loopw [(102, 102), (111, 111)] ⟨m28 + 1, _, _, _, rfl, hltm28, hm1, rfl⟩ (by omega)
   refine sx ?_
   refine sr ?_
   refine wl_r (o_inc hltm28 hlenm28 rfl rfl rfl) rfl rfl rfl ?_
   refine ss ?_
   exact wk_loopw [(102, 102), (111, 111)] ⟨m28 + 1, _, _, _, rfl, hltm28, hm1, rfl⟩ (by omega)
  ·rw [drop_n hgem28, Mref28_Tiling_l2.eq_1] at hm1
   refine sr ?_
   refine wc_seq ?_
   refine wc_cond_ff (lt_f hgem28) rfl ?_
   refine wc_exit ?_
   refine ss ?_
   cases hm1
   exact wk_cutw [(102, 102)] ⟨_, rfl, rfl⟩
 rintro _ ⟨at36, rfl, rfl⟩
 replace hm := ocbnd_n hm
 refine sr ?_
 refine wl_sg hm ?_ ?_ <;> clear hm <;> intro hm
 ·refine ss ?_
  refine wl_sg hm ?_ ?_ <;> clear hm <;> intro hm
  ·refine ss ?_
   refine wc_cs hm ?_ ?_ <;> clear hm <;> intro hm
   ·refine sr ?_
    refine sx ?_
    cases hm
    exact wk_r
   refine sx ?_
   refine sr ?_
   refine sx ?_
   cases hm
   exact wk_r
  refine ss ?_
  refine wc_cs hm ?_ ?_ <;> clear hm <;> intro hm
  ·refine sr ?_
   refine sx ?_
   cases hm
   exact wk_r
  refine sx ?_
  refine sr ?_
  refine sx ?_
  cases hm
  exact wk_r
 refine ss ?_
 refine wc_cond_f rfl ?_
 refine sx ?_
 refine sr ?_
 refine sx ?_
 cases hm
 exact wk_r

theorem Mref28_Check_sp {r1 : TReceipt} {y : (TAnswer × Int)} (hm : Mref28_Check r1 = some y) : Spec Tryz.prog 110 [.a [vI r1.Query.Kind, .d (lst Rng.ds r1.Query.Ranges), vS r1.Query.Key, vI r1.Query.Count, .d (lst TVisit.ds r1.First), .d (lst TVisit.ds r1.Second)]] [] fun u h => u = .t [.a [.d (lst Kv.ds y.1.Rows), vI y.1.Fold.Count, vI y.1.Fold.Numbers, vI y.1.Fold.Sum, vI y.1.Fold.Low, vI y.1.Fold.High, vS y.1.Fold.First, vS y.1.Fold.Last], vI y.2] ∧ h = [] := by
 refine si Tryz.func110 Tryz.ntmps110 Tryz.results110 fun B w0 ρ0 => ?_
 unfold Mref28_Check at hm
 refine sr ?_
 refine sr ?_
 obtain ⟨y2, hy, hm⟩ := obnd_o hm
 refine wl_cq (Mref28_Tiling_sp (hm := hy)) ?_
 refine sr ?_
 refine wc_cs hm ?_ ?_ <;> clear hm <;> intro hm
 ·refine sr ?_
  refine sx ?_
  cases hm
  exact wk_r
 refine sx ?_
 refine sr ?_
 obtain ⟨y3, hy, hm⟩ := obnd_o hm
 refine wl_cq (Mref28_Tiling_sp (hm := hy)) ?_
 refine sr ?_
 refine wc_cs hm ?_ ?_ <;> clear hm <;> intro hm
 ·refine sr ?_
  refine sx ?_
  cases hm
  exact wk_r
 refine sx ?_
 refine sr ?_
 obtain ⟨y4, hy, hm⟩ := obnd_o hm
 refine wl_cq (Mref28_SameVisits_sp (hm := hy)) ?_
 refine ss ?_
 refine wc_cs hm ?_ ?_ <;> clear hm <;> intro hm
 ·refine sr ?_
  refine sx ?_
  cases hm
  exact wk_r
 refine sx ?_
 refine wc_seq ?_
 refine wc_draw (id := 9) [⟨0, 0, [1]⟩, ⟨1, 1, [32]⟩, ⟨2, 0, [1]⟩, ⟨3, 4, [34]⟩, ⟨4, 12, [35]⟩, ⟨5, 31, [33, 36]⟩, ⟨6, 63, [37]⟩] mixed (by kernel_rfl) ?_
 refine ss ?_
 obtain ⟨y5, hy, hm⟩ := obnd_o hm
 refine wd_cs (Mref28_Rows_sp (hm := hy)) rfl rfl rfl (by repeat (first | exact Vws.nil | apply Vws.cons | exact Vw.nil | exact Vw.d _ | exact Vw.q _ | apply Vw.a)) rfl rfl (by first | exact .no rfl | exact .y rfl rfl rfl rfl) rfl rfl rfl ?_
 refine ss ?_
 obtain ⟨y6, hy, hm⟩ := obnd_o hm
 refine wd_cs (Mref22_Take_sp (hm := hy)) rfl rfl rfl (by repeat (first | exact Vws.nil | apply Vws.cons | exact Vw.nil | exact Vw.d _ | exact Vw.q _ | apply Vw.a)) rfl rfl (by first | exact .no rfl | exact .y rfl rfl rfl rfl) rfl rfl rfl ?_
 refine sr ?_
 obtain ⟨y7, hy, hm⟩ := obnd_o hm
 refine wl_cq (Mref21_Of_sp (hm := hy)) ?_
 refine sx ?_
 cases hm
 exact wk_r

end Go.Proofs.YtlbnhhfaedhgfaaGreatDoor
namespace Go.Proofs.YtlbnhhfaedhgfaaGreatDoor
open Go.RowKit
set_option maxRecDepth 100000
set_option maxHeartbeats 4000000
attribute [local irreducible] WK WC WL Wk Rel OpD OpV WD WO sel bnd obnd app lget lsl sget ssl scat letg iquo irem Op.bytesLess
attribute [local irreducible] qchk qranges union
def Mlaw29_agree_l1 (r1 : TReceipt) : List TVisit → Int → Option (Ctl Bool Unit)
  | [], i =>
  some (Ctl.nxt ())
  | r4 :: xs5, i =>
  sel (decide (i < (r1.Second.length : Int))) (
   obnd (lget r1.Second i) fun e7 =>
   obnd (lget r1.Second i) fun e8 =>
   obnd (Mreceipt_Same r4 e7) fun y9 =>
   obnd (Mref28_SameVisit r4 e8) fun y10 =>
   sel (!(y9 == y10)) (
    some (Ctl.ret false)) (
    Mlaw29_agree_l1 r1 xs5 (i + 1))) (
   Mlaw29_agree_l1 r1 xs5 (i + 1))
def Mlaw29_agree (r1 : TReceipt) : Option Bool :=
 obnd (Mreceipt_Check r1) fun y2 =>
 obnd (Mref28_Check r1) fun y3 =>
 obnd (
  Mlaw29_agree_l1 r1 r1.First 0 : Option (Ctl Bool Unit)) fun mu => ocbnd mu fun (_ : Unit) =>
 sel (decide (y2.2 = y3.2)) (
  obnd (Mref22_SameAnswer y2.1 y3.1) fun y11 =>
  sel y11 (
   obnd (Mreceipt_Tiling r1.Query r1.First) fun y12 =>
   obnd (Mref28_Tiling r1.Query r1.First) fun y13 =>
   sel (decide (y12 = y13)) (
    obnd (Mreceipt_Tiling r1.Query r1.Second) fun y14 =>
    obnd (Mref28_Tiling r1.Query r1.Second) fun y15 =>
    some (decide (y14 = y15))) (
    some false)) (
   some false)) (
  some false)
theorem Mlaw29_agree_sp {r1 : TReceipt} {y : Bool} (hm : Mlaw29_agree r1 = some y) : Spec Tryz.prog 46 [.a [vI r1.Query.Kind, .d (lst Rng.ds r1.Query.Ranges), vS r1.Query.Key, vI r1.Query.Count, .d (lst TVisit.ds r1.First), .d (lst TVisit.ds r1.Second)]] [] fun u h => u = vB y ∧ h = [] := by
 refine si Tryz.func46 Tryz.ntmps46 Tryz.results46 fun B w0 ρ0 => ?_
 unfold Mlaw29_agree at hm
 refine sr ?_
 refine sr ?_
 obtain ⟨y2, hy, hm⟩ := obnd_o hm
 refine wl_cq (Mreceipt_Check_sp (hm := hy)) ?_
 refine sr ?_
 obtain ⟨y3, hy, hm⟩ := obnd_o hm
 refine wl_cq (Mref28_Check_sp (hm := hy)) ?_
 refine sr ?_
 obtain ⟨mu1, hm1, hm⟩ := obnd_o hm
 refine wc_cut' (fun st => mu1 = Ctl.nxt () ∧ st = ⟨[(1, .p 101 0), (3, .p 103 0), (4, vI y2.2), (5, .p 105 0), (6, vI y3.2)], [(101, some (.box 81 [vI r1.Query.Kind, .d (lst Rng.ds r1.Query.Ranges), vS r1.Query.Key, vI r1.Query.Count, .d (lst TVisit.ds r1.First), .d (lst TVisit.ds r1.Second)])), (103, some (.box 75 [.d (lst Kv.ds y2.1.Rows), vI y2.1.Fold.Count, vI y2.1.Fold.Numbers, vI y2.1.Fold.Sum, vI y2.1.Fold.Low, vI y2.1.Fold.High, vS y2.1.Fold.First, vS y2.1.Fold.Last])), (105, some (.box 75 [.d (lst Kv.ds y3.1.Rows), vI y3.1.Fold.Count, vI y3.1.Fold.Numbers, vI y3.1.Fold.Sum, vI y3.1.Fold.Low, vI y3.1.Fold.High, vS y3.1.Fold.First, vS y3.1.Fold.Last]))]⟩) ?_ ?_
 ·refine wc_block ?_
  refine wc_len 20 rfl (fun hlenm6 => ?_)
  refine wc_loopw (fun κ st => ∃ (m6 : Nat) , κ = r1.First.length - m6 ∧ m6 ≤ r1.First.length ∧ Mlaw29_agree_l1 r1 (r1.First.drop m6) (m6 : Int) = some mu1 ∧ st = ⟨[(1, .p 101 0), (3, .p 103 0), (4, vI y2.2), (5, .p 105 0), (6, vI y3.2), (20, .d (lst TVisit.ds r1.First)), (21, vI (r1.First.length : Int)), (22, vI (m6 : Int))], [(101, some (.box 81 [vI r1.Query.Kind, .d (lst Rng.ds r1.Query.Ranges), vS r1.Query.Key, vI r1.Query.Count, .d (lst TVisit.ds r1.First), .d (lst TVisit.ds r1.Second)])), (103, some (.box 75 [.d (lst Kv.ds y2.1.Rows), vI y2.1.Fold.Count, vI y2.1.Fold.Numbers, vI y2.1.Fold.Sum, vI y2.1.Fold.Low, vI y2.1.Fold.High, vS y2.1.Fold.First, vS y2.1.Fold.Last])), (105, some (.box 75 [.d (lst Kv.ds y3.1.Rows), vI y3.1.Fold.Count, vI y3.1.Fold.Numbers, vI y3.1.Fold.Sum, vI y3.1.Fold.Low, vI y3.1.Fold.High, vS y3.1.Fold.First, vS y3.1.Fold.Last]))]⟩) [(101, 101), (103, 103), (105, 105)] ⟨0, rfl, Nat.zero_le _, hm1, rfl⟩ ?_
  rintro κ _ ⟨m6, rfl, hlem6, hm1, rfl⟩
  rcases Nat.lt_or_ge m6 r1.First.length with hltm6 | hgem6
  ·obtain ⟨r4, hxm6, hdr⟩ := drop_c hltm6
   rw [hdr, Mlaw29_agree_l1.eq_2] at hm1
   refine sr ?_
   refine wc_seq ?_
   refine wc_cond_tt (lt_t hltm6) rfl ?_
   refine sx ?_
   refine sr ?_
   refine wl_r (o_ixm (ys := [dI r4.View.Owner, dS r4.View.Interval.lo.key, dB r4.View.Interval.lo.top, dS r4.View.Interval.hi.key, dB r4.View.Interval.hi.top, dI r4.View.Stamp.Epoch, dI r4.View.Stamp.Version, lst Kv.ds r4.View.Rows, dS r4.Part.lo.key, dB r4.Part.lo.top, dS r4.Part.hi.key, dB r4.Part.hi.top]) hxm6 rfl rfl rfl rfl) rfl rfl rfl ?_
   refine ss ?_
   refine wc_seq ?_
   refine wc_draw (id := 6) [⟨0, 0, [7]⟩, ⟨1, 0, [1]⟩, ⟨2, 2, [28]⟩, ⟨3, 6, [29]⟩, ⟨4, 15, [27, 30]⟩, ⟨5, 31, [31]⟩, ⟨6, 63, [8, 32]⟩, ⟨7, 63, [1, 32]⟩, ⟨8, 191, [32, 34]⟩, ⟨9, 63, [7, 32]⟩, ⟨10, 959, [32, 35, 36]⟩, ⟨11, 1983, [32, 37]⟩, ⟨13, 63, [8, 32]⟩, ⟨14, 63, [1, 32]⟩, ⟨15, 16447, [32, 41]⟩, ⟨16, 63, [7, 32]⟩, ⟨17, 114751, [32, 42, 43]⟩, ⟨18, 245823, [32, 44]⟩, ⟨12, 4095, [32, 33, 38]⟩, ⟨19, 524287, [32, 40, 45]⟩, ⟨20, 1048575, [32, 39, 46]⟩, ⟨21, 2097151, [32, 47]⟩] mixed (by kernel_rfl) ?_
   refine ss ?_
   refine wd_gp rfl rfl rfl rfl (fun h => ?_) (fun h => ?_)
   ·replace hm1 := sel_t h hm1
    refine ss ?_
    obtain ⟨e7, hy, hm1⟩ := obnd_o hm1
    refine wd_r [] (o_ixg (ys := [dI e7.View.Owner, dS e7.View.Interval.lo.key, dB e7.View.Interval.lo.top, dS e7.View.Interval.hi.key, dB e7.View.Interval.hi.top, dI e7.View.Stamp.Epoch, dI e7.View.Stamp.Version, lst Kv.ds e7.View.Rows, dS e7.Part.lo.key, dB e7.Part.lo.top, dS e7.Part.hi.key, dB e7.Part.hi.top]) hy rfl rfl rfl rfl) rfl (by first | exact .no rfl | exact .y rfl rfl rfl rfl) rfl rfl ?_
    refine ss ?_
    obtain ⟨e8, hy, hm1⟩ := obnd_o hm1
    refine wd_r [] (o_ixg (ys := [dI e8.View.Owner, dS e8.View.Interval.lo.key, dB e8.View.Interval.lo.top, dS e8.View.Interval.hi.key, dB e8.View.Interval.hi.top, dI e8.View.Stamp.Epoch, dI e8.View.Stamp.Version, lst Kv.ds e8.View.Rows, dS e8.Part.lo.key, dB e8.Part.lo.top, dS e8.Part.hi.key, dB e8.Part.hi.top]) hy rfl rfl rfl rfl) rfl (by first | exact .no rfl | exact .y rfl rfl rfl rfl) rfl rfl ?_
    refine ss ?_
    obtain ⟨y9, hy, hm1⟩ := obnd_o hm1
    refine wd_cs (Mreceipt_Same_sp (hm := hy)) rfl rfl rfl (by repeat (first | exact Vws.nil | apply Vws.cons | exact Vw.nil | exact Vw.d _ | exact Vw.q _ | apply Vw.a)) rfl rfl (by first | exact .no rfl | exact .y rfl rfl rfl rfl) rfl rfl rfl ?_
    refine ss ?_
    obtain ⟨y10, hy, hm1⟩ := obnd_o hm1
    refine wd_cs (Mref28_SameVisit_sp (hm := hy)) rfl rfl rfl (by repeat (first | exact Vws.nil | apply Vws.cons | exact Vw.nil | exact Vw.d _ | exact Vw.q _ | apply Vw.a)) rfl rfl (by first | exact .no rfl | exact .y rfl rfl rfl rfl) rfl rfl rfl ?_
    refine ss ?_
    refine wc_cs hm1 ?_ ?_ <;> clear hm1 <;> intro hm1
    ·refine sr ?_
     refine sx ?_
     cases hm1
     replace hm := ocbnd_r hm
     cases hm
     exact wk_r
    refine sx ?_
    refine sr ?_
    refine wl_r (o_inc hltm6 hlenm6 rfl rfl rfl) rfl rfl rfl ?_
    refine ss ?_
    exact wk_loopw [(101, 101), (103, 103), (105, 105)] ⟨m6 + 1, rfl, hltm6, hm1, rfl⟩ (by omega)
   replace hm1 := sel_f h hm1
   refine ss ?_
   refine wc_cond_f rfl ?_
   refine sx ?_
   refine sr ?_
   refine wl_r (o_inc hltm6 hlenm6 rfl rfl rfl) rfl rfl rfl ?_
   refine ss ?_
   exact wk_loopw [(101, 101), (103, 103), (105, 105)] ⟨m6 + 1, rfl, hltm6, hm1, rfl⟩ (by omega)
  ·rw [drop_n hgem6, Mlaw29_agree_l1.eq_1] at hm1
   refine sr ?_
   refine wc_seq ?_
   refine wc_cond_ff (lt_f hgem6) rfl ?_
   refine wc_exit ?_
   refine ss ?_
   cases hm1
   exact wk_cutw [(101, 101), (103, 103), (105, 105)] ⟨rfl, rfl⟩
 rintro _ ⟨rfl, rfl⟩
 replace hm := ocbnd_n hm
 refine ss ?_
 refine wc_seq ?_
 refine wc_draw (id := 9) [⟨0, 0, [4]⟩, ⟨1, 0, [6]⟩, ⟨2, 3, [50, 51]⟩, ⟨3, 7, [52]⟩, ⟨4, 15, [3, 53]⟩, ⟨5, 15, [5, 53]⟩, ⟨6, 63, [53, 54, 55]⟩, ⟨7, 127, [53, 56]⟩, ⟨8, 255, [57]⟩, ⟨9, 511, [1, 58]⟩, ⟨10, 1023, [58, 59]⟩, ⟨11, 511, [1, 58]⟩, ⟨12, 2559, [58, 61]⟩, ⟨14, 511, [1, 58]⟩, ⟨15, 16895, [58, 64]⟩, ⟨16, 511, [1, 58]⟩, ⟨17, 66047, [58, 66]⟩, ⟨13, 8191, [58, 60, 62]⟩, ⟨18, 262143, [58, 65, 67]⟩, ⟨19, 524287, [58, 63, 68]⟩, ⟨20, 1048575, [58, 69]⟩, ⟨21, 2097151, [70]⟩, ⟨22, 4194303, [1, 71]⟩, ⟨23, 8388607, [71, 72]⟩, ⟨24, 4194303, [1, 71]⟩, ⟨25, 20971519, [71, 74]⟩, ⟨27, 4194303, [1, 71]⟩, ⟨28, 138412031, [71, 77]⟩, ⟨29, 4194303, [1, 71]⟩, ⟨30, 541065215, [71, 79]⟩, ⟨26, 67108863, [71, 73, 75]⟩, ⟨31, 2147483647, [71, 78, 80]⟩, ⟨32, 4294967295, [71, 76, 81]⟩, ⟨33, 8589934591, [71, 82]⟩, ⟨34, 17179869183, [83]⟩] mixed (by kernel_rfl) ?_
 refine ss ?_
 refine wd_gp rfl rfl rfl rfl (fun h => ?_) (fun h => ?_)
 ·replace hm := sel_t h hm
  refine ss ?_
  obtain ⟨y11, hy, hm⟩ := obnd_o hm
  refine wd_cs (Mref22_SameAnswer_sp (hm := hy)) rfl rfl rfl (by repeat (first | exact Vws.nil | apply Vws.cons | exact Vw.nil | exact Vw.d _ | exact Vw.q _ | apply Vw.a)) rfl rfl (by first | exact .no rfl | exact .y rfl rfl rfl rfl) rfl rfl rfl ?_
  refine ss ?_
  refine wd_gp rfl rfl rfl rfl (fun h => ?_) (fun h => ?_)
  ·replace hm := sel_t h hm
   refine ss ?_
   obtain ⟨y12, hy, hm⟩ := obnd_o hm
   refine wd_cs (Mreceipt_Tiling_sp (hm := hy)) rfl rfl rfl (by repeat (first | exact Vws.nil | apply Vws.cons | exact Vw.nil | exact Vw.d _ | exact Vw.q _ | apply Vw.a)) rfl rfl (by first | exact .no rfl | exact .y rfl rfl rfl rfl) rfl rfl rfl ?_
   refine ss ?_
   obtain ⟨y13, hy, hm⟩ := obnd_o hm
   refine wd_cs (Mref28_Tiling_sp (hm := hy)) rfl rfl rfl (by repeat (first | exact Vws.nil | apply Vws.cons | exact Vw.nil | exact Vw.d _ | exact Vw.q _ | apply Vw.a)) rfl rfl (by first | exact .no rfl | exact .y rfl rfl rfl rfl) rfl rfl rfl ?_
   refine ss ?_
   refine wd_gp rfl rfl rfl rfl (fun h => ?_) (fun h => ?_)
   ·replace hm := sel_t h hm
    refine ss ?_
    obtain ⟨y14, hy, hm⟩ := obnd_o hm
    refine wd_cs (Mreceipt_Tiling_sp (hm := hy)) rfl rfl rfl (by repeat (first | exact Vws.nil | apply Vws.cons | exact Vw.nil | exact Vw.d _ | exact Vw.q _ | apply Vw.a)) rfl rfl (by first | exact .no rfl | exact .y rfl rfl rfl rfl) rfl rfl rfl ?_
    refine ss ?_
    obtain ⟨y15, hy, hm⟩ := obnd_o hm
    refine wd_cs (Mref28_Tiling_sp (hm := hy)) rfl rfl rfl (by repeat (first | exact Vws.nil | apply Vws.cons | exact Vw.nil | exact Vw.d _ | exact Vw.q _ | apply Vw.a)) rfl rfl (by first | exact .no rfl | exact .y rfl rfl rfl rfl) rfl rfl rfl ?_
    refine sx ?_
    cases hm
    exact wk_r
   replace hm := sel_f h hm
   refine sx ?_
   cases hm
   exact wk_r
  replace hm := sel_f h hm
  refine sx ?_
  cases hm
  exact wk_r
 replace hm := sel_f h hm
 refine sx ?_
 cases hm
 exact wk_r

end Go.Proofs.YtlbnhhfaedhgfaaGreatDoor
namespace Go.Proofs.YtlbnhhfaedhgfaaGreatDoor
open Go.RowKit
theorem ragree_l1 (r : TReceipt) : ∀ (xs : List TVisit) (m : Nat), Mlaw29_agree_l1 r xs (m : Int) = some (.nxt ())
  | [], _ => rfl
  | v :: xs, m => by
    have ih := ragree_l1 r xs (m + 1)
    rw [Mlaw29_agree_l1.eq_2, show (m : Int) + 1 = ((m + 1 : Nat) : Int) by omega, ih]
    by_cases h : m < r.Second.length
    · rw [decide_eq_true (by omega), sel_true, lget_nat, List.getElem?_eq_getElem h, obnd_some, obnd_some, eq_receipt_Same, eq_ref28_SameVisit, obnd_some, obnd_some, beq_self_eq_true, Bool.not_true, sel_false]
    · rw [decide_eq_false (by omega), sel_false]
theorem ragree_ok (r : TReceipt) (hq : r.Query.Ranges.length < 1000000) (h1 : okC r.First) (h2 : okC r.Second) : Mlaw29_agree r = some true := by
  obtain ⟨a, e1, e2, -⟩ := check_eq r hq h1 h2
  unfold Mlaw29_agree
  have := ragree_l1 r r.First 0
  rw [show ((0 : Nat) : Int) = 0 from rfl] at this
  rw [e1, obnd_some, e2, obnd_some, this, obnd_some, ocbnd_nxt, decide_eq_true rfl, sel_true, sameAnswer_refl, obnd_some, sel_true, eq_receipt_Tiling _ hq h1, eq_ref28_Tiling _ hq h1, eq_receipt_Tiling _ hq h2, eq_ref28_Tiling _ hq h2]
  simp only [obnd_some, decide_true, sel_true]
end Go.Proofs.YtlbnhhfaedhgfaaGreatDoor
namespace Go.Proofs.YtlbnhhfaedhgfaaGreatDoor
open Go.RowKit
set_option maxRecDepth 100000
set_option maxHeartbeats 4000000
attribute [local irreducible] WK WC WL Wk Rel OpD OpV WD WO sel bnd obnd app lget lsl sget ssl scat letg iquo irem Op.bytesLess
attribute [local irreducible] qchk qranges union
def Mlaw29_ReceiptChecks_l1 (y3 : (TReceipt × List Kv × TTape)) : Nat → List Int → Int → List TVisit → List TVisit → Int → Option (Ctl Bool (List Int × Int))
  | 0, _, _, _, _, _ => none
  | fuel + 1, x5, x6, s7, s8, i9 =>
  obnd (
   sel (decide (i9 < 4)) (
    some (Ctl.nxt ())) (
    some (Ctl.ret (Ctl.nxt (x5, x6)))) : Option (Ctl (Ctl Bool (List Int × Int)) Unit)) fun mu => ocbnd mu fun (_ : Unit) =>
  obnd (Mwld_Tape_Bool (TTape.mk x5 x6) 2) fun y10 =>
  obnd (
   sel y10.1 (
    obnd (Mlaw29_spoil y10.2 s7) fun y11 =>
    some (y11.2.l, y11.2.at_, y11.1, s8)) (
    obnd (Mlaw29_spoil y10.2 s8) fun y12 =>
    some (y12.2.l, y12.2.at_, s7, y12.1)) : Option (List Int × Int × List TVisit × List TVisit)) fun (x13, x14, s15, s16) =>
  obnd (Mlaw29_agree (TReceipt.mk y3.1.Query s15 s16)) fun y17 =>
  sel (!y17) (
   some (Ctl.ret false)) (
   obnd (Mlaw29_agree (TReceipt.mk y3.1.Query s15 s15)) fun y18 =>
   sel (!y18) (
    some (Ctl.ret false)) (
    Mlaw29_ReceiptChecks_l1 y3 fuel x13 x14 s15 s16 (i64w (i9 + 1))))
def Mlaw29_ReceiptChecks (l1 : List Int) : Option Bool :=
 obnd (Mwld_New l1) fun y2 =>
 obnd (Mlaw29_good y2) fun y3 =>
 obnd (Mlaw29_agree y3.1) fun y4 =>
 sel (!y4) (
  some false) (
  obnd (
   Mlaw29_ReceiptChecks_l1 y3 FU y3.2.2.l y3.2.2.at_ y3.1.First y3.1.Second 0 : Option (Ctl Bool (List Int × Int))) fun mu => ocbnd mu fun (x19, x20) =>
  obnd (Mwld_Tape_OddQuery (TTape.mk x19 x20)) fun y21 =>
  obnd (Mlaw29_agree (TReceipt.mk y21.1 y3.1.First y3.1.Second)) fun y22 =>
  sel y22 (
   obnd (Mlaw29_awake) fun y23 =>
   some y23) (
   some false))
theorem Mlaw29_ReceiptChecks_sp {l1 : List Int} {y : Bool} (hm : Mlaw29_ReceiptChecks l1 = some y) : Spec Tryz.prog 6 [.d (lst dsI l1)] [] fun u h => u = vB y ∧ h = [] := by
 refine si Tryz.func6 Tryz.ntmps6 Tryz.results6 fun B w0 ρ0 => ?_
 unfold Mlaw29_ReceiptChecks at hm
 refine sr ?_
 refine sr ?_
 obtain ⟨y2, hy, hm⟩ := obnd_o hm
 refine wl_mkn (u' := .p 200901 0) (h' := [(200901, some (.box 119 [.d (lst dsI y2.l), vI y2.at_]))]) (Mwld_New_sp (hm := hy)) 200900 rfl rfl rfl (by repeat (first | exact Vws.nil | apply Vws.cons | exact Vw.nil | exact Vw.d _ | exact Vw.q _ | apply Vw.a)) rfl (by (try simp only [renH, Option.map_some, Blk.ren, rens_d]); rfl) rfl rfl rfl rfl ?_
 refine sr ?_
 obtain ⟨y3, hy, hm⟩ := obnd_o hm
 refine wl_iq (Mlaw29_good_sp (hm := hy)) 200901 ?_
 refine sr ?_
 obtain ⟨y4, hy, hm⟩ := obnd_o hm
 refine wl_cq (Mlaw29_agree_sp (hm := hy)) ?_
 refine ss ?_
 refine wc_cs hm ?_ ?_ <;> clear hm <;> intro hm
 ·refine sr ?_
  refine sx ?_
  cases hm
  exact wk_r
 refine sx ?_
 refine sr ?_
 refine sr ?_
 obtain ⟨mu1, hm1, hm⟩ := obnd_o hm
 refine wc_cut' (fun st => ∃ (x19 : List Int) (x20 : Int), mu1 = Ctl.nxt (x19, x20) ∧ st = ⟨[(3, .p 200901 0), (4, .p 104 0)], [(104, some (.box 81 [vI y3.1.Query.Kind, .d (lst Rng.ds y3.1.Query.Ranges), vS y3.1.Query.Key, vI y3.1.Query.Count, .d (lst TVisit.ds y3.1.First), .d (lst TVisit.ds y3.1.Second)])), (200901, some (.box 119 [.d (lst dsI x19), vI x20]))]⟩) ?_ ?_
 ·refine wc_block ?_
  refine wc_loopw (fun κ st => ∃ (x5 : List Int) (x6 : Int) (s7 : List TVisit) (s8 : List TVisit) (i9 : Int), Mlaw29_ReceiptChecks_l1 y3 κ x5 x6 s7 s8 i9 = some mu1 ∧ st = ⟨[(3, .p 200901 0), (4, .p 104 0), (6, .p 106 0), (7, vI i9)], [(104, some (.box 81 [vI y3.1.Query.Kind, .d (lst Rng.ds y3.1.Query.Ranges), vS y3.1.Query.Key, vI y3.1.Query.Count, .d (lst TVisit.ds y3.1.First), .d (lst TVisit.ds y3.1.Second)])), (106, some (.box 81 [vI y3.1.Query.Kind, .d (lst Rng.ds y3.1.Query.Ranges), vS y3.1.Query.Key, vI y3.1.Query.Count, .d (lst TVisit.ds s7), .d (lst TVisit.ds s8)])), (200901, some (.box 119 [.d (lst dsI x5), vI x6]))]⟩) [(104, 104), (106, 106), (200901, 200901)] ⟨_, _, _, _, _, hm1, rfl⟩ ?_
  rintro κ _ ⟨x5, x6, s7, s8, i9, hm1, rfl⟩
  cases κ with
  | zero => rw [Mlaw29_ReceiptChecks_l1.eq_1] at hm1; cases hm1
  | succ κ =>
   rw [Mlaw29_ReceiptChecks_l1.eq_2] at hm1
   refine sr ?_
   obtain ⟨mu2, hm2, hm1⟩ := obnd_o hm1
   refine wc_cut' (fun st => mu2 = Ctl.nxt () ∧ st = ⟨[(3, .p 200901 0), (4, .p 104 0), (6, .p 106 0), (7, vI i9)], [(104, some (.box 81 [vI y3.1.Query.Kind, .d (lst Rng.ds y3.1.Query.Ranges), vS y3.1.Query.Key, vI y3.1.Query.Count, .d (lst TVisit.ds y3.1.First), .d (lst TVisit.ds y3.1.Second)])), (106, some (.box 81 [vI y3.1.Query.Kind, .d (lst Rng.ds y3.1.Query.Ranges), vS y3.1.Query.Key, vI y3.1.Query.Count, .d (lst TVisit.ds s7), .d (lst TVisit.ds s8)])), (200901, some (.box 119 [.d (lst dsI x5), vI x6]))]⟩) ?_ ?_
   ·refine wc_cs hm2 ?_ ?_ <;> clear hm2 <;> intro hm2
    ·refine sx ?_
     cases hm2
     exact wk_cutw [(104, 104), (106, 106), (200901, 200901)] ⟨rfl, rfl⟩
    refine wc_exit ?_
    refine ss ?_
    cases hm2
    replace hm1 := ocbnd_r hm1
    cases hm1
    exact wk_cutw [(104, 104), (200901, 200901)] ⟨_, _, rfl, rfl⟩
   rintro _ ⟨rfl, rfl⟩
   replace hm1 := ocbnd_n hm1
   refine sr ?_
   obtain ⟨y10, hy, hm1⟩ := obnd_o hm1
   refine wl_iq (Mwld_Tape_Bool_sp (hm := hy)) 200901 ?_
   refine ss ?_
   obtain ⟨mu2, hm2, hm1⟩ := obnd_o hm1
   refine wc_cut' (fun st => ∃ (x13 : List Int) (x14 : Int) (s15 : List TVisit) (s16 : List TVisit), mu2 = (x13, x14, s15, s16) ∧ st = ⟨[(3, .p 200901 0), (4, .p 104 0), (6, .p 106 0), (7, vI i9)], [(104, some (.box 81 [vI y3.1.Query.Kind, .d (lst Rng.ds y3.1.Query.Ranges), vS y3.1.Query.Key, vI y3.1.Query.Count, .d (lst TVisit.ds y3.1.First), .d (lst TVisit.ds y3.1.Second)])), (106, some (.box 81 [vI y3.1.Query.Kind, .d (lst Rng.ds y3.1.Query.Ranges), vS y3.1.Query.Key, vI y3.1.Query.Count, .d (lst TVisit.ds s15), .d (lst TVisit.ds s16)])), (200901, some (.box 119 [.d (lst dsI x13), vI x14]))]⟩) ?_ ?_
   ·refine wc_cs hm2 ?_ ?_ <;> clear hm2 <;> intro hm2
    ·refine sr ?_
     obtain ⟨y11, hy, hm2⟩ := obnd_o hm2
     refine wl_iq (Mlaw29_spoil_sp (hm := hy)) 200901 ?_
     refine ss ?_
     cases hm2
     exact wk_cutw [(104, 104), (106, 106), (200901, 200901)] ⟨_, _, _, _, rfl, rfl⟩
    refine sr ?_
    obtain ⟨y12, hy, hm2⟩ := obnd_o hm2
    refine wl_iq (Mlaw29_spoil_sp (hm := hy)) 200901 ?_
    refine ss ?_
    cases hm2
    exact wk_cutw [(104, 104), (106, 106), (200901, 200901)] ⟨_, _, _, _, rfl, rfl⟩
   rintro _ ⟨x13, x14, s15, s16, rfl, rfl⟩
   refine sr ?_
   obtain ⟨y17, hy, hm1⟩ := obnd_o hm1
   refine wl_cq (Mlaw29_agree_sp (hm := hy)) ?_
   refine ss ?_
   refine wl_sg hm1 ?_ ?_ <;> clear hm1 <;> intro hm1
   ·refine ss ?_
    refine wc_cond_t rfl ?_
    refine sr ?_
    refine sx ?_
    cases hm1
    replace hm := ocbnd_r hm
    cases hm
    exact wk_r
   refine ss ?_
   obtain ⟨y18, hy, hm1⟩ := obnd_o hm1
   refine wl_cq (Mlaw29_agree_sp (hm := hy)) ?_
   refine ss ?_
   refine wc_cs hm1 ?_ ?_ <;> clear hm1 <;> intro hm1
   ·refine sr ?_
    refine sx ?_
    cases hm1
    replace hm := ocbnd_r hm
    cases hm
    exact wk_r
   refine sx ?_
   refine sr ?_
   refine wl_r (o_add rfl rfl rfl rfl) rfl rfl rfl ?_
   refine ss ?_
   exact wk_loopw [(104, 104), (106, 106), (200901, 200901)] ⟨_, _, _, _, _, hm1, rfl⟩ (Nat.lt_succ_self _)
 rintro _ ⟨x19, x20, rfl, rfl⟩
 replace hm := ocbnd_n hm
 refine ss ?_
 refine wc_seq ?_
 refine wc_draw (id := 14) [⟨0, 0, [3]⟩, ⟨2, 0, [4]⟩, ⟨3, 4, [51]⟩, ⟨4, 0, [4]⟩, ⟨5, 16, [53]⟩, ⟨1, 1, [49]⟩, ⟨6, 63, [50, 52, 54]⟩, ⟨7, 127, [55]⟩, ⟨8, 255, [56]⟩, ⟨9, 511, [57]⟩, ⟨10, 1023, [57, 58]⟩, ⟨11, 2047, [59]⟩] mixed (by kernel_rfl) ?_
 refine ss ?_
 obtain ⟨y21, hy, hm⟩ := obnd_o hm
 refine wd_io (Mwld_Tape_OddQuery_sp (hm := hy)) 200901 rfl rfl rfl (by repeat (first | exact Vws.nil | apply Vws.cons | exact Vw.nil | exact Vw.d _ | exact Vw.q _ | exact Vw.p rfl | apply Vw.a)) rfl (Vb.box (by repeat (first | exact Vws.nil | apply Vws.cons | exact Vw.nil | exact Vw.d _ | exact Vw.q _ | exact Vw.p rfl | apply Vw.a))) rfl rfl rfl (by first | exact .no rfl | exact .y rfl rfl rfl rfl) rfl rfl rfl rfl ?_
 refine ss ?_
 obtain ⟨y22, hy, hm⟩ := obnd_o hm
 refine wd_cs (Mlaw29_agree_sp (hm := hy)) rfl rfl rfl (by repeat (first | exact Vws.nil | apply Vws.cons | exact Vw.nil | exact Vw.d _ | exact Vw.q _ | apply Vw.a)) rfl rfl (by first | exact .no rfl | exact .y rfl rfl rfl rfl) rfl rfl rfl ?_
 refine ss ?_
 refine wd_gp rfl rfl rfl rfl (fun h => ?_) (fun h => ?_)
 ·replace hm := sel_t h hm
  refine ss ?_
  obtain ⟨y23, hy, hm⟩ := obnd_o hm
  refine wd_cs (Mlaw29_awake_sp (hm := hy)) rfl rfl rfl (by repeat (first | exact Vws.nil | apply Vws.cons | exact Vw.nil | exact Vw.d _ | exact Vw.q _ | apply Vw.a)) rfl rfl (by first | exact .no rfl | exact .y rfl rfl rfl rfl) rfl rfl rfl ?_
  refine sx ?_
  cases hm
  exact wk_r
 replace hm := sel_f h hm
 refine sx ?_
 cases hm
 exact wk_r

end Go.Proofs.YtlbnhhfaedhgfaaGreatDoor
