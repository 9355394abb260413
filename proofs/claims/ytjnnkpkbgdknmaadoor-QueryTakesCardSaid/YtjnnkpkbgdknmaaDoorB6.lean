/-
  Lemmas: The walk of keyspace.Prefix. / The walk of Prefix in the reference. / Contracts of the first engine, over states: Union, Prefix. / What the rows of the laws share, for walks over states: the letters that the listed variable holds, the numbers of the tape, the post. / Arguments of the laws, opened, as values of a walk over states; from a walk over states to the row's claim.
-/
import Derived.Test.YtjnnkpkbgdknmaaDoorB4
import Derived.Test.YtjnnkpkbgdknmaaDoorB2
import Derived.Laws.IdiomStrings
import Derived.Laws.BytesArg
import Derived.Test.YtjnnkpkbgdknmaaDoorB3
import Derived.Test.YtjnnkpkbgdknmaaDoorB5
import Derived.Test.YtjnnkpkbgdknmaaDoorCards
import Derived.Test.YtjnnkpkbgdknmaaDoorTie
import Derived.WalkKit
import Derived.ProofKit
import Derived.OpenShut
import Derived.Deep.DeepHandedRow
import Derived.Lib.LaidTab
import Derived.Lib.SmallJoins
import Derived.Deep.Slices
namespace Go.Proofs.YtjnnkpkbgdknmaaDoor
set_option linter.unusedSimpArgs false
set_option linter.unusedVariables false
open Go.RowKit
attribute [local irreducible] contains emp vld vb vk adj isect hull proper greater lesser greatest least cmp Bnd.lt Op.bytesLess Calls Oper.wp wpList Code.wp Oper.upon

theorem bytesRow_cell {p : ByteArray} {c i : Nat} (hi : i < p.toList.length) : (bytesRow p c)[i]? = some (.int .u8 (p.toList[i].toNat : Int)) := by
  have h : i < p.data.size := by have := hi; rwa [len_toList] at this
  have e : p.toList[i] = p.data[i] := by simp [ByteArray.toList_eq]
  rw [e, ← Array.getElem?_toList]
  simp only [bytesRow, Array.toList_append, Array.toList_map, Array.toList_replicate]
  rw [List.getElem?_append_left (by simpa using h), List.getElem?_map]
  simp only [Array.getElem?_toList, Array.getElem?_eq_getElem h, Option.map_some]
theorem cell_new (w : World) (C : Array Value) (T : TypeId) (f : Nat × Nat) (i : Nat) : (w.alloc (.cells C T f)).cell? ⟨w.heap.size, i, none⟩ = C[i]? := by
  unfold World.alloc World.cell?; simp only [Array.getElem?_push_size]; rfl
theorem frozen_new (w : World) (C : Array Value) (T : TypeId) (a b i : Nat) : (w.alloc (.cells C T (a, b))).frozen? ⟨w.heap.size, i, none⟩ = decide (a ≤ i ∧ i < b) := by
  unfold World.alloc World.frozen?; simp only [Array.getElem?_push_size]; simp

/-- Block b of w holds the bytes l. -/
structure ByB (w : World) (b : Nat) (l : List UInt8) : Prop where
  lt : b < w.heap.size
  cell : ∀ i (h : i < l.length), w.cell? ⟨b, i, none⟩ = some (.int .u8 (l[i].toNat : Int))
  fz : ∀ i, i < l.length → w.frozen? ⟨b, i, none⟩ = false
/-- A cell of a block that the list does not name is stored into. -/
theorem Rep.aside {w0 w : World} {X : Fr} {R : List Win} {S : List OB} (h : Rep w0 X R S w) {b o : Nat} (hb : w0.heap.size ≤ b) (hS : ∀ e ∈ S, e.b ≠ b) (v : Value) : Rep w0 X R S (w.setCell ⟨b, o, none⟩ v) := by
  have hk : ∀ k, k ≠ b → (w.setCell ⟨b, o, none⟩ v).heap[k]? = w.heap[k]? := fun k hk => Below.heap_setCell _ _ _ _ (by simpa using hk)
  refine ⟨⟨h.kp.os, h.kp.tape, h.kp.output, by simpa [World.setCell] using h.kp.size, fun i hi hx => ?_⟩, fun e he => ?_, h.ne, h.new, h.win, ?_, h.js, h.xl⟩
  · rw [hk i (by omega)]; exact h.kp.block i hi hx
  · rw [hk e.b (hS e he)]; exact h.own e he
  · exact h.js w _ h.j fun k hk' => hk k (by omega)

set_option maxRecDepth 100000 in
set_option maxHeartbeats 4000000 in
theorem prefix_p {p : ByteArray} {w : World} :
    Calls Tryd.prog 66 #[.string p] w fun e w' => ∃ m : Rng, e = .returned (.agg #[.string m.lo.key, .bool m.lo.top, .string m.hi.key, .bool m.hi.top]) ∧ Hid (m = pfx p) ∧ Kp [] w w' := by
  have kc := fun (w : World) => run_bytes_of_string (P := Tryd.prog) w 9 100 5 p Tryd.underlying9 Tryd.underlying100 Tryd.underlying5
  go_enter Tryd.func66, Tryd.ntmps66
  have hR := Rep.refl w
  generalize w = w0 at hR
  cases hv : vk p
  · go_wp2_with (first | (refine wl_ld hR ?_) | (refine wl_st hR ?_; (try clear hF); clear hR; intro w hR; have hF := hR.fx) | (refine wl_mem hR ?_; (try clear hF); clear hR; intro w B2 hR; have hF := hR.fx) | (go_at_call 43; refine (validKey_p).mono ?_; rintro e w ⟨rfl, rfl⟩))
    (exact ret_cell hR Tryd.results66 rfl UpI.at (by exact inferInstance) rfl ⟨zr, rfl, by simp [Hid, pfx, hv], hR.kp_nof⟩)
  · go_upto_region 3 with (first | (refine wl_ld hR ?_) | (refine wl_st hR ?_; (try clear hF); clear hR; intro w hR; have hF := hR.fx) | (refine wl_mem hR ?_; (try clear hF); clear hR; intro w B2 hR; have hF := hR.fx) | (go_at_call 43; refine (validKey_p).mono ?_; rintro e w ⟨rfl, rfl⟩))
    go_upto_region 5 with (first | (refine wl_ld hR ?_) | (refine wl_st hR ?_; (try clear hF); clear hR; intro w hR; have hF := hR.fx) | (refine wl_mem hR ?_; (try clear hF); clear hR; intro w B3 hR; have hF := hR.fx))
    have hW : ∀ n, (bytesRow p n).size = p.size + (n - p.size) := fun n => by simp only [bytesRow, Array.size_append, Array.size_map, Array.size_replicate]; rfl
    have hcap := grownCap_ge w p.size 0 5
    generalize grownCap w p.size 0 5 = c at hcap ⊢
    refine nameWorld (fun W1 => Rep w0 nof [] [⟨B3, 50, [.string p, .bool false, .string ⟨#[]⟩, .bool true]⟩, ⟨B2, 50, [.string ⟨#[]⟩, .bool false, .string ⟨#[]⟩, .bool false]⟩] W1 ∧ ByB W1 w.heap.size p.toList ∧ w0.heap.size ≤ w.heap.size ∧ B3 < w.heap.size ∧ B2 < w.heap.size) ?_ ?_
    · have hk2 : Kp [] w ((w.alloc (Obj.cells (bytesRow p c) 5 ((bytesRow p c).size, (bytesRow p c).size + 1))).drew) := by (repeat (first | exact Kp.refl _ _ | apply Kp.alloc | apply Kp.drew | apply Kp.drewN | (refine Kp.setCell ?_ (Or.inr (by dsimp only; omega)) _) | (refine Kp.trans ?_ (by assumption))))
      refine ⟨hR.kp0 hk2, ⟨by simp, fun i hi => (cell_new _ _ _ _ i).trans (bytesRow_cell hi), fun i hi => (frozen_new _ _ _ _ _ i).trans (decide_eq_false ?_)⟩, hR.kp.size, hR.lt (List.mem_cons_self), hR.lt (List.mem_cons_of_mem _ List.mem_cons_self)⟩
      rw [hW]; rw [len_toList] at hi; omega
    clear hR hF kc hW
    rintro W1 ⟨hR, hB, hs0, hs3, hs2⟩
    generalize w.heap.size = BB at hB hs0 hs3 hs2 ⊢
    have hpl := len_toList p
    have hps : p.size ≤ 64 := by simpa [vk] using hv
    have hF := hR.fx
    have hc0 : (0 : Int) ≤ (c : Int) := by omega
    go_loop [4] (fun v => ∃ n : Nat, v = .slice (some ⟨BB, 0, none⟩) n c ∧ n ≤ p.size ∧ Hid (upl (p.toList.take n) = upl p.toList)) (fun v => match v with | .slice _ n _ => n | _ => 0)
    case atStart => exact ⟨p.size, rfl, Nat.le_refl _, Lib.hid (by rw [List.take_of_length_le (by omega)])⟩
    case round =>
      obtain ⟨n, rfl, hn, hu⟩ := hrel
      cases n with
      | zero =>
        have hu' := hu.out
        go_wp2_with (first | (refine wl_ld hR ?_) | (refine wl_st hR ?_; (try clear hF); clear hR; intro w hR; have hF := hR.fx) | (refine wl_mem hR ?_; (try clear hF); clear hR; intro w B hR; have hF := hR.fx))
        have hup : pfx p = ⟨⟨p, false⟩, ⟨⟨#[]⟩, true⟩⟩ := by rw [pfx, if_pos hv, upb, ← hu']; rfl
        (exact ret_cell hR Tryd.results66 rfl UpI.at (by exact inferInstance) rfl ⟨pfx p, by rw [hup], rfl, hR.kp_nof⟩)
      | succ m =>
        have hml : m < p.toList.length := by omega
        have hx := hB.cell m hml
        have hz := hB.fz m hml
        have hm0 : (0 : Int) ≤ (m : Int) := by omega
        have hm1 : ((m : Int) + 1 ≤ (c : Int)) := by omega
        by_cases h255 : p.toList[m] = 255
        · rw [h255] at hx
          go_wp2_with (first | (refine wl_ld hR ?_) | (refine wl_st hR ?_; (try clear hF); clear hR; intro w hR; have hF := hR.fx) | (refine wl_mem hR ?_; (try clear hF); clear hR; intro w B hR; have hF := hR.fx))
          have e := List.take_append_getElem hml
          go_round
          case rel => exact ⟨m, rfl, by omega, Lib.hid (by rw [← hu.out, ← e, h255, upl_255])⟩
          case measure => simp
        · have hlast := upl_last (p.toList.take m) h255
          have e := List.take_append_getElem hml
          rw [e, hu.out] at hlast
          have hx2 : p.toList[m].toNat < 255 := by
            have := p.toList[m].toNat_lt
            have : p.toList[m].toNat ≠ 255 := fun e => h255 (UInt8.toNat_inj.1 (by simpa using e))
            omega
          have hbe : ((p.toList[m].toNat : Int) == 255) = false := beq_eq_false_iff_ne.2 (by omega)
          have hx3 : ((p.toList[m].toNat : Int) ≤ 254) := by omega
          have hx4 : (0 : Int) ≤ (p.toList[m].toNat : Int) := by omega
          have Hl := Lib.hid hlast
          clear hlast e hu
          generalize hxm : p.toList[m] = x at hx hx2 hbe hx3 hx4 Hl h255
          have Hxm := Lib.hid hxm
          clear hxm h255 hx2
          go_upto_region 10 with (first | (refine wl_ld hR ?_) | (refine wl_st hR ?_; (try clear hF); clear hR; intro w hR; have hF := hR.fx) | (refine wl_mem hR ?_; (try clear hF); clear hR; intro w B hR; have hF := hR.fx))
          have hlen : (p.toList.take m ++ [x + 1]).length = m + 1 := by simp; omega
          have hxn : (x + 1).toNat = x.toNat + 1 := by rw [UInt8.toNat_add]; have : (1 : UInt8).toNat = 1 := rfl; omega
          refine nameWorld (fun W2 => Rep w0 nof [] [⟨B3, 50, [.string p, .bool false, .string ⟨#[]⟩, .bool true]⟩, ⟨B2, 50, [.string ⟨#[]⟩, .bool false, .string ⟨#[]⟩, .bool false]⟩] W2 ∧ (∀ j (h : j < (p.toList.take m ++ [x + 1]).length), W2.cell? ⟨BB, j, none⟩ = some (.int .u8 ((p.toList.take m ++ [x + 1])[j].toNat : Int)))) ⟨hR.aside hs0 (by simp only [List.mem_cons, List.not_mem_nil, or_false, forall_eq_or_imp, forall_eq]; omega) _, ?_⟩ ?_
          · intro j h
            rw [hlen] at h
            by_cases hjm : j = m
            · subst hjm
              rw [World.cell?_setCell_same (h := hx)]
              rw [List.getElem_append_right (by simp; omega)]
              simp only [List.getElem_singleton, hxn]
              push_cast
              rfl
            · rw [World.cell?_setCell_other (w := W1) (a := ⟨BB, m, none⟩) (b := ⟨BB, j, none⟩) (h := by simp <;> omega), hB.cell j (by omega), List.getElem_append_left (by simp; omega), List.getElem_take]
          clear hR hF hB hx hz
          rintro W2 ⟨hR, hB⟩
          have kb := run_convert_bytes_back (P := Tryd.prog) W2 100 9 5 ⟨BB, 0, none⟩ c (p.toList.take m ++ [x + 1]) Tryd.underlying100 Tryd.underlying5 Tryd.underlying9 (fun j hj => by rw [addr_add, Nat.zero_add]; exact hB j hj)
          rw [hlen] at kb
          have hup : pfx p = ⟨⟨p, false⟩, ⟨⟨(p.toList.take m ++ [x + 1]).toArray⟩, false⟩⟩ := by rw [pfx, if_pos hv, upb, Hl.out]
          generalize p.toList.take m ++ [x + 1] = q at kb hup
          have Hup := Lib.hid hup
          clear hup hB Hl Hxm hbe hx3 hx4 hxn hlen
          have hF := hR.fx
          go_wp2_with (first | (refine wl_ld hR ?_) | (refine wl_st hR ?_; (try clear hF); clear hR; intro w hR; have hF := hR.fx) | (refine wl_mem hR ?_; (try clear hF); clear hR; intro w B hR; have hF := hR.fx))
          (exact ret_cell hR Tryd.results66 rfl UpI.at (by exact inferInstance) rfl ⟨pfx p, by rw [Hup.out], rfl, hR.kp_nof⟩)
theorem prefix_p_v {p : ByteArray} {z : Rng} {w : World} (h : Hid (pfx p = z)) :
    Calls Tryd.prog 66 #[.string p] w fun e w' => e = .returned (.agg #[.string z.lo.key, .bool z.lo.top, .string z.hi.key, .bool z.hi.top]) ∧ Kp [] w w' :=
  prefix_p.mono fun _ _ ⟨m, he, hm, hk⟩ => by have := hm.out; have h2 := h.out; subst this; subst h2; exact ⟨he, hk⟩
end Go.Proofs.YtjnnkpkbgdknmaaDoor
namespace Go.Proofs.YtjnnkpkbgdknmaaDoor
set_option linter.unusedSimpArgs false
set_option linter.unusedVariables false
open Go.RowKit
attribute [local irreducible] contains emp vld vb vk adj isect hull proper greater lesser greatest least cmp Bnd.lt Op.bytesLess Calls Oper.wp wpList Code.wp Oper.upon
theorem dc_conv {P : Program} {L : List Oper} {w0 : World} {X : Fr} {R : List Win} {im : List Nat} {Qf : Act → List OB → Prop} {i : Nat} {r : List Nat} {a a' : Act} {S : List OB} {op : Oper} {s d : TypeId} {x : Operand} {v u : Value}
    (ho : nth L i = some op) (hi : im.contains i = false) (hw : Region.wanted op (yielded L.toArray a.tmps) = true) (hop : op.op = .convert s d x) (hx : a.eval x = v) (hr : ∀ w, Rep w0 X R S w → (convert s d v).run P w = .ok u w) (ha : a.put op.dst u = a')
    (h : DC P L.toArray w0 X R im Qf r a' S) : DC P L.toArray w0 X R im Qf (i :: r) a S := by
  refine dc_read ho hi hw (fun w hR => ?_) ha h
  unfold execOp
  rw [hop]
  simp [hx, hr w hR]
theorem dc_cat {P : Program} {L : List Oper} {w0 : World} {X : Fr} {R : List Win} {im : List Nat} {Qf : Act → List OB → Prop} {i : Nat} {r : List Nat} {a a' : Act} {S : List OB} {op : Oper} {s d : TypeId} {x y : Operand} {s1 s2 : ByteArray}
    (ho : nth L i = some op) (hi : im.contains i = false) (hw : Region.wanted op (yielded L.toArray a.tmps) = true) (hop : op.op = .binOp .add s x y d) (hx : a.eval x = .string s1) (hy : a.eval y = .string s2) (hs : s1.size + s2.size ≤ 9223372036854775807) (ha : a.put op.dst (.string (s1 ++ s2)) = a')
    (h : DC P L.toArray w0 X R im Qf r a' S) : DC P L.toArray w0 X R im Qf (i :: r) a S := by
  refine dc_pure ho hi hw (fun w => ?_) ha h
  unfold execOp
  rw [hop]
  simp [hx, hy, eqGuard, binOp, run_string_add_sum w s1 s2 hs]
theorem conv1 {w : World} {B : Nat} {x : UInt8} {v : Int} (hc : ∀ i, w.cell? ⟨B, i, none⟩ = ([.int .u8 v] : List Value)[i]?) (hv : v = (x.toNat : Int)) : (convert 100 9 (.slice (some ⟨B, 0, none⟩) 1 1)).run Tryd.prog w = .ok (.string ⟨#[x]⟩) w :=
  run_convert_bytes_back (P := Tryd.prog) w 100 9 5 ⟨B, 0, none⟩ 1 [x] Tryd.underlying100 Tryd.underlying5 Tryd.underlying9 fun j hj => by
    obtain rfl : j = 0 := by simp at hj; omega
    rw [addr_add, hc, hv]; rfl
set_option maxRecDepth 100000 in
set_option maxHeartbeats 4000000 in
theorem prefix_r {p : ByteArray} {w : World} :
    Calls Tryd.prog 60 #[.string p] w fun e w' => ∃ m : Rng, e = .returned (.agg #[.string m.lo.key, .bool m.lo.top, .string m.hi.key, .bool m.hi.top]) ∧ Hid (m = pfx p) ∧ Kp [] w w' := by
  go_enter Tryd.func60, Tryd.ntmps60
  have hR := Rep.refl w
  generalize w = w0 at hR
  cases hv : vk p
  · go_wp2_with (first | (refine wl_ld hR ?_) | (refine wl_st hR ?_; (try clear hF); clear hR; intro w hR; have hF := hR.fx) | (refine wl_mem hR ?_; (try clear hF); clear hR; intro w B2 hR; have hF := hR.fx) | (go_at_call 46; refine (validKey_r).mono ?_; rintro e w ⟨rfl, rfl⟩))
    (exact ret_cell hR Tryd.results60 rfl UpI.at (by exact inferInstance) rfl ⟨zr, rfl, by simp [Hid, pfx, hv], hR.kp_nof⟩)
  · go_wp2_with (first | (refine wl_ld hR ?_) | (refine wl_st hR ?_; (try clear hF); clear hR; intro w hR; have hF := hR.fx) | (refine wl_mem hR ?_; (try clear hF); clear hR; intro w B2 hR; have hF := hR.fx) | (go_at_call 46; refine (validKey_r).mono ?_; rintro e w ⟨rfl, rfl⟩))
    have hpl := len_toList p
    have hps : p.size ≤ 64 := by simpa [vk] using hv
    go_loopw [3] (fun v wr => ∃ n : Nat, v = .int .i64 n ∧ n ≤ p.size ∧ Hid (upl (p.toList.take n) = upl p.toList) ∧ Rep w0 nof [] [⟨B2, 50, [.string ⟨#[]⟩, .bool false, .string ⟨#[]⟩, .bool false]⟩] wr) (fun v _ => (intOf v).toNat)
    case atStart => exact ⟨p.size, rfl, Nat.le_refl _, Lib.hid (by rw [List.take_of_length_le (by omega)]), hR⟩
    case round =>
      obtain ⟨n, rfl, hn, hu, hR⟩ := hrel
      have hF := hR.fx
      cases n with
      | zero =>
        have hu' := hu.out
        go_wp2_with (first | (refine wl_ld hR ?_) | (refine wl_st hR ?_; (try clear hF); clear hR; intro w hR; have hF := hR.fx) | (refine wl_mem hR ?_; (try clear hF); clear hR; intro w B hR; have hF := hR.fx))
        have hup : pfx p = ⟨⟨p, false⟩, ⟨⟨#[]⟩, true⟩⟩ := by rw [pfx, if_pos hv, upb, ← hu']; rfl
        (exact ret_cell hR Tryd.results60 rfl UpI.at (by exact inferInstance) rfl ⟨pfx p, by rw [hup], rfl, hR.kp_nof⟩)
      | succ m =>
        have hml : m < p.toList.length := by omega
        have hm0 : (0 : Int) ≤ (m : Int) := by omega
        have hm1 : ((m : Int) < (p.size : Int)) := by omega
        have hm2 : m < p.size := by omega
        have hm3 : ((m : Int) ≤ (p.size : Int)) := by omega
        have hmp : (0 : Int) < (m : Int) + 1 := by omega
        have hwr : IntKind.i64.wrap (m : Int) = m := IntWalk.i64_in _ (by omega)
        have hpm : p[m] = p.toList[m] := by simp [ByteArray.toList_eq]; rfl
        have e := List.take_append_getElem hml
        by_cases h255 : p.toList[m] = 255
        · have hb : ((p[m].toNat : Int) == 255) = true := by rw [hpm, h255]; rfl
          clear hpm
          go_wp2_with (first | (refine wl_ld hR ?_) | (refine wl_st hR ?_; (try clear hF); clear hR; intro w hR; have hF := hR.fx) | (refine wl_mem hR ?_; (try clear hF); clear hR; intro w B hR; have hF := hR.fx))
          go_roundw
          case rel => exact ⟨m, rfl, by omega, Lib.hid (by rw [← hu.out, ← e, h255, upl_255]), hR⟩
          case measure => simp [intOf]
        · have hlast := upl_last (p.toList.take m) h255
          rw [e, hu.out] at hlast
          have hx2 : p[m].toNat < 255 := by
            rw [hpm]
            have := p.toList[m].toNat_lt
            have : p.toList[m].toNat ≠ 255 := fun e => h255 (UInt8.toNat_inj.1 (by simpa using e))
            omega
          have hb : ((p[m].toNat : Int) == 255) = false := beq_eq_false_iff_ne.2 (by omega)
          have hx1 : (p[m] + 1).toNat = p[m].toNat + 1 := by rw [UInt8.toNat_add]; have : (1 : UInt8).toNat = 1 := rfl; omega
          have H8 : Hid (((p[m].toNat : Int) + 1) % 256 = ((p[m] + 1).toNat : Int)) := Lib.hid (by rw [hx1]; omega)
          have hup : pfx p = ⟨⟨p, false⟩, ⟨⟨(p.toList.take m ++ [p[m] + 1]).toArray⟩, false⟩⟩ := by rw [pfx, if_pos hv, upb, hlast, hpm]
          have Hup := Lib.hid hup
          clear hup hlast e hu hx1 hpm
          have Hex : Hid ((p.extract 0 m).size + (⟨#[p[m] + 1]⟩ : ByteArray).size ≤ 9223372036854775807) := Lib.hid (by rw [ByteArray.size_extract]; show _ + 1 ≤ _; omega)
          go_upto_region 8 with (first | (refine wl_ld hR ?_) | (refine wl_st hR ?_; (try clear hF); clear hR; intro w hR; have hF := hR.fx) | (refine wl_mem hR ?_; (try clear hF); clear hR; intro w B hR; have hF := hR.fx))
          refine wp_region_C 16 (0 :: 1 :: 2 :: 3 :: 4 :: 5 :: 6 :: 7 :: 8 :: 9 :: 10 :: 11 :: 12 :: 13 :: 14 :: 15 :: []) [11] hR mixed (by kernel_rfl) ?_; (try clear hF); clear hR; (repeat (first | (refine dc_conv (v := .slice (some ⟨B, 0, none⟩) 1 1) rfl rfl rfl rfl rfl (fun w hR => conv1 (B := B) (x := p[m] + 1) (hR.cells List.mem_cons_self) H8.out) (by simp only [Act.put, List.setIfInBounds_toArray, List.set_cons_zero, List.set_cons_succ]; exact rfl) ?_) | (refine dc_cat rfl rfl rfl rfl rfl rfl Hex.out (by simp only [Act.put, List.setIfInBounds_toArray, List.set_cons_zero, List.set_cons_succ]; exact rfl) ?_) | (refine dk ?_; intro B))); refine dc_nil ?_; intro w hR; have hF := hR.fx; try simp only [List.drop_succ_cons, List.drop_zero]
          go_wp2_with (first | (refine wl_ld hR ?_) | (refine wl_st hR ?_; (try clear hF); clear hR; intro w hR; have hF := hR.fx) | (refine wl_mem hR ?_; (try clear hF); clear hR; intro w B hR; have hF := hR.fx))
          have hk : p.extract 0 m ++ (⟨#[p[m] + 1]⟩ : ByteArray) = ⟨(p.toList.take m ++ [p[m] + 1]).toArray⟩ := by
            apply ba_eq
            simp only [ByteArray.toList_eq, ByteArray.data_append, ByteArray.data_extract, Array.toList_append, Array.toList_extract, Nat.sub_zero, List.extract_eq_take_drop, List.drop_zero]
          (exact ret_cell hR Tryd.results60 rfl UpI.at (by exact inferInstance) rfl ⟨pfx p, by rw [Hup.out, ← hk], rfl, hR.kp_nof⟩)
theorem prefix_r_v {p : ByteArray} {z : Rng} {w : World} (h : Hid (pfx p = z)) :
    Calls Tryd.prog 60 #[.string p] w fun e w' => e = .returned (.agg #[.string z.lo.key, .bool z.lo.top, .string z.hi.key, .bool z.hi.top]) ∧ Kp [] w w' :=
  prefix_r.mono fun _ _ ⟨m, he, hm, hk⟩ => by have := hm.out; have h2 := h.out; subst this; subst h2; exact ⟨he, hk⟩
end Go.Proofs.YtjnnkpkbgdknmaaDoor
namespace Go.Proofs.YtjnnkpkbgdknmaaDoor
set_option linter.unusedSimpArgs false
set_option linter.unusedVariables false
open Go.RowKit
theorem Step.ofKp {B : Nat → Prop} {H0 : Hp} {ρ : Lc} {w w' : World} (h : Kp [] w w') : Step B H0 [] ρ ρ w w' :=
  ⟨h.os, h.tape, h.output, h.size, fun _ _ h => h, fun k l h => .inl h, fun b hb _ => h.block b hb (by simp), fun k hk => by simp [look] at hk, fun k blk hk => by simp [look] at hk, fun k k' blk blk' l l' b hk => by simp [look] at hk⟩
theorem rds_ds {w : World} {ok : Nat → Prop} : ∀ {ds : List D} {vs us : List Value}, ds = vs.map D.c → RDs w ok ds us → us = vs
  | [], [], _, _, .nil => rfl
  | [], _ :: _, _, h, _ => by simp at h
  | d :: ds, [], _, h, _ => by simp at h
  | d :: ds, v :: vs, _, h, .cons h1 h2 => by
    simp only [List.map_cons, List.cons.injEq] at h
    obtain ⟨rfl, h⟩ := h
    cases h1
    rw [rds_ds h h2]
theorem ds_rvals (l : List Rng) : l.flatMap Rng.ds = (rvals l).map D.c := by
  induction l with
  | nil => rfl
  | cons r t ih => simp only [List.flatMap_cons, ih, rvals, List.map_append]; rfl
theorem rds_of {w : World} {ok : Nat → Prop} : ∀ {vs : List Value}, vs.all Value.oneCell' = true → RDs w ok (vs.map D.c) vs
  | [], _ => .nil
  | v :: vs, h => by
    simp only [List.all_cons, Bool.and_eq_true] at h
    exact .cons (.c h.1) (rds_of h.2)
theorem rvalsE_one (l : List Rng) : (rvals l).all Value.oneCell' = true := by
  rw [List.all_eq_true]
  intro v hv
  simp only [rvals, List.mem_flatMap] at hv
  obtain ⟨r, -, hr⟩ := hv
  exact List.all_eq_true.1 (show r.vals.all Value.oneCell' = true from rfl) v hr
theorem rd_l {w : World} {ok : Nat → Prop} {n : Nat} {xs : List D} {v : Value} (h : RD w ok (.l n xs) v) : (n = 0 ∧ xs = [] ∧ ∃ p c, v = .slice p 0 c) ∨ ∃ c b o vs, v = .slice (some ⟨b, o, none⟩) n c ∧ n ≤ c ∧ ok b ∧ RDs w ok xs vs ∧ ∀ j v, vs[j]? = some v → w.cell? ⟨b, o + j, none⟩ = some v := by
  cases h with
  | nil p c => exact .inl ⟨rfl, rfl, p, c, rfl⟩
  | l g1 g2 g3 g4 => exact .inr ⟨_, _, _, _, rfl, g1, g2, g3, g4⟩
theorem union_ct {f : FuncId} {fn : Func} (hf : Tryd.prog.funcs[f]? = some fn) (hn : (fn.name == "runtime.NumGoroutine") = false) (hb : fn.body.isNone = false) (l : List Rng) (hl : l.length ≤ 1000000)
    (hc : ∀ {p : Option Addr} {n c : Nat} {w : World}, Rd w 4 (.slice p n c) n (rvals l) → n ≤ 1000000 → Calls Tryd.prog f #[.slice p n c] w fun e w' => ∃ r sl, e = .returned r ∧ OS sl 50 4 r (union l).length (rvals (union l)) ∧ Rep w nof [] sl w') :
    Spec Tryd.prog f [.d (lst Rng.ds l)] [] fun u h => u = .d (lst Rng.ds (union l)) ∧ h = [] := by
  refine ⟨⟨fn, hf, hn, hb⟩, fun B w ρ vs hB hvs hr hlive => ?_⟩
  cases hvs with
  | cons h1 h2 =>
  cases h2
  cases h1 with
  | d h1 =>
  have hrl : (rvals l).length = l.length * 4 := by rw [rvals_length]; omega
  have hRd : ∃ p c, (‹Value› : Value) = .slice p l.length c ∧ Rd w 4 (.slice p l.length c) l.length (rvals l) := by
    rcases rd_l h1 with ⟨e1, e2, p, c, rfl⟩ | ⟨c, b, o, vs, rfl, g1, g2, g3, g4⟩
    · exact ⟨p, c, by rw [e1], hrl, p, c, by rw [e1], by omega, .inl e1⟩
    · have e3 := rds_ds (ds_rvals l) g3
      subst e3
      exact ⟨_, _, rfl, hrl, _, _, rfl, g1, .inr ⟨_, _, rfl, g2.1, g4⟩⟩
  obtain ⟨p, c, rfl, hRd⟩ := hRd
  refine (hc hRd hl).mono ?_
  rintro e w' ⟨r, sl, rfl, hO, hR⟩
  refine ⟨r, _, [], ρ, rfl, ⟨rfl, rfl⟩, Step.ofKp hR.kp_nof, ?_, fun k hk => by simp [look] at hk⟩
  obtain ⟨ho1, ho2⟩ := hO
  rcases ho2 with ⟨rfl, rfl, h0⟩ | ⟨g, cap, sp, rfl, rfl, h3, h4, h5⟩
  · have : union l = [] := List.eq_nil_of_length_eq_zero h0
    rw [this]; exact .d (.nil _ _)
  · have hown := hR.own _ List.mem_cons_self
    have hnew := hR.new _ List.mem_cons_self
    simp only at hown hnew
    have hlt := (Array.getElem?_eq_some_iff.1 hown).1
    refine .d ?_
    rw [lst, ds_rvals]
    refine .l h3 ⟨hlt, hB _ hnew, fun k l' hk e => ?_⟩ (rds_of (rvalsE_one _)) fun j v hv => ?_
    · have := hr.lt k l' g hk e; omega
    · rw [World.cell?, hown]; simp [List.getElem?_append_left (List.getElem?_eq_some_iff.1 hv).1, hv]
instance union_cp (l : List Rng) : Ct Tryd.prog 58 [.d (lst Rng.ds l)] (l.length ≤ 1000000) (.d (lst Rng.ds (union l))) := ⟨fun h => union_ct Tryd.func58 rfl rfl l h fun h1 h2 => union_p h1 h2⟩
instance union_cr (l : List Rng) : Ct Tryd.prog 61 [.d (lst Rng.ds l)] (l.length ≤ 1000000) (.d (lst Rng.ds (union l))) := ⟨fun h => union_ct Tryd.func61 rfl rfl l h fun h1 h2 => union_r h1 h2⟩
theorem prefix_ct {f : FuncId} {fn : Func} (hf : Tryd.prog.funcs[f]? = some fn) (hn : (fn.name == "runtime.NumGoroutine") = false) (hb : fn.body.isNone = false) (p : ByteArray)
    (hc : ∀ {w : World}, Calls Tryd.prog f #[.string p] w fun e w' => ∃ m : Rng, e = .returned (.agg #[.string m.lo.key, .bool m.lo.top, .string m.hi.key, .bool m.hi.top]) ∧ Hid (m = pfx p) ∧ Kp [] w w') :
    Spec Tryd.prog f [vS p] [] fun u h => u = .a [vS (pfx p).lo.key, vB (pfx p).lo.top, vS (pfx p).hi.key, vB (pfx p).hi.top] ∧ h = [] := by
  refine ⟨⟨fn, hf, hn, hb⟩, fun B w ρ vs hB hvs hr hlive => ?_⟩
  cases hvs with
  | cons h1 h2 =>
  cases h2
  cases rv_c h1
  refine hc.mono ?_
  rintro e w' ⟨m, rfl, hm, hk⟩
  have hm := hm.out
  subst hm
  exact ⟨_, _, [], ρ, rfl, ⟨rfl, rfl⟩, Step.ofKp hk, .a (.cons (.d (.c rfl)) (.cons (.d (.c rfl)) (.cons (.d (.c rfl)) (.cons (.d (.c rfl)) .nil)))), fun k hk => by simp [look] at hk⟩
instance prefix_cp (p : ByteArray) : Ct Tryd.prog 66 [vS p] True (.a [vS (pfx p).lo.key, vB (pfx p).lo.top, vS (pfx p).hi.key, vB (pfx p).hi.top]) := ⟨fun _ => prefix_ct Tryd.func66 rfl rfl p prefix_p⟩
instance prefix_cr (p : ByteArray) : Ct Tryd.prog 60 [vS p] True (.a [vS (pfx p).lo.key, vB (pfx p).lo.top, vS (pfx p).hi.key, vB (pfx p).hi.top]) := ⟨fun _ => prefix_ct Tryd.func60 rfl rfl p prefix_r⟩
end Go.Proofs.YtjnnkpkbgdknmaaDoor
namespace Go.Proofs.YtjnnkpkbgdknmaaDoor
set_option linter.unusedSimpArgs false
set_option linter.unusedVariables false
open Go.ChangeShapes Go.WideShapes Go.ChangeAt Go.RowKit Go.Joins

theorem own : ownKnob Tryd.prog.godebug = none := by kernel_rfl
theorem laidOut : laidOutB Tryd.prog = true := by kernel_rfl
theorem gLetters : Tryd.prog.globalNamed "skipgraph/skipgraphworld.letters" = some 0 := by kernel_rfl
theorem gLettersType : (Tryd.prog.globals[(0 : Nat)]?).map (·.type) = some 83 := by kernel_rfl
theorem cellsL : Tryd.prog.cellsOf 83 = 6 := by kernel_rfl
theorem cellsS : Tryd.prog.cellsOf 9 = 1 := by kernel_rfl

/-- What the rows' list gives: the letters stand. -/
theorem letters_ok {W : World} (h : laidMetH Tryd.prog [("skipgraph/skipgraphworld.letters", Rows.laid_skipgraph_skipgraphworld_letters)] W) :
    ∀ e ∈ GL, e.1 < W.heap.size ∧ ∀ (j : Nat) (v : Value), e.2[j]? = some v → W.cell? ⟨e.1, j, none⟩ = some v := by
  obtain ⟨ps, ⟨g', t', cs, fuel, p, q, hg', ht', hvar, hd, _, _⟩, _⟩ := (h : laidMet Tryd.prog [("skipgraph/skipgraphworld.letters", Rows.laid_skipgraph_skipgraphworld_letters)] W)
  obtain rfl := Option.some.inj (gLetters.symm.trans hg')
  obtain rfl := Option.some.inj (gLettersType.symm.trans ht')
  obtain ⟨xs, m, rfl, hx, hlen, hxl, hel⟩ := DataW.trod_array Tryd.underlying83 hd
  simp only [cellsS, cellsL, Nat.mul_one] at hlen hel
  have hxs : xs.map (·.1) = [.lit (.string [97]), .lit (.string [98]), .lit (.string [99]), .lit (.string [0]), .lit (.string [255]), .lit (.string [109])] := by
    have := congrArg Prod.fst hx
    simpa [Rows.laid_skipgraph_skipgraphworld_letters] using this.symm
  have key : ∀ i, i < 6 → ∃ s : ByteArray, cs[i]? = some (.string s) ∧ ([.lit (.string [97]), .lit (.string [98]), .lit (.string [99]), .lit (.string [0]), .lit (.string [255]), .lit (.string [109])] : List (DataW Unit))[i]? = some (.lit (.string s.data.toList)) := by
    intro i hi
    have h1 := hel i hi
    obtain ⟨y, hy⟩ : ∃ y, xs[i]? = some y := ⟨xs[i], List.getElem?_eq_getElem (by omega)⟩
    rw [hy] at h1
    obtain ⟨s, e1, rfl, _⟩ := DataW.trod_string Tryd.underlying9 h1
    have h2 : (xs.map (·.1))[i]? = some (.lit (.string s.data.toList)) := by simp [hy]
    rw [hxs] at h2
    refine ⟨s, ?_, h2⟩
    have := congrArg (·[0]?) e1
    simpa [List.getElem?_take, List.getElem?_drop] using this
  intro e he
  obtain rfl : e = _ := List.mem_singleton.1 he
  have cell : ∀ i, i < 6 → W.cell? ⟨0, i, none⟩ = cs[i]? := fun i hi => by
    obtain ⟨s, h1, _⟩ := key i hi
    exact World.var?_cell gLetters hvar i
  have bs : ∀ (s : ByteArray) (l : List UInt8), s.data.toList = l → s = ⟨l.toArray⟩ := fun s l h => by
    cases s with | mk a => simp only at h; subst h; simp
  have all : ∀ j v, ([.string ⟨#[97]⟩, .string ⟨#[98]⟩, .string ⟨#[99]⟩, .string ⟨#[0]⟩, .string ⟨#[255]⟩, .string ⟨#[109]⟩] : List Value)[j]? = some v → W.cell? ⟨0, j, none⟩ = some v := fun j v hv => by
    have hj : j < 6 := (List.getElem?_eq_some_iff.1 hv).1
    obtain ⟨s, h1, h2⟩ := key j hj
    rw [cell j hj, h1]
    have : j = 0 ∨ j = 1 ∨ j = 2 ∨ j = 3 ∨ j = 4 ∨ j = 5 := by omega
    rcases this with rfl | rfl | rfl | rfl | rfl | rfl <;> (simp at h2 hv; rw [← hv, bs s _ h2.symm])
  exact ⟨World.block_lt_of_cell? W ⟨0, 0, none⟩ (all 0 _ rfl), all⟩

set_option maxRecDepth 100000 in
/-- The numbers of the tape. -/
theorem ints_of {H : Type} {enc : TypeId × Value → H} {W : World} {v : Value} {d : DataW H} {ps : List MemPlace} {base : Nat}
    (hv : Value.okWide Tryd.prog W .any base 22 v) (h : DataW.Trod enc Tryd.prog W 0 (fun _ => true) true 22 v d ps) : ∃ L : List Int, L.length ≤ 9223372036854775807 ∧ (∀ z ∈ L, -9223372036854775808 ≤ z ∧ z ≤ 9223372036854775807) ∧ RD W (fun b => b < W.heap.size) (i64s L) v := by
  obtain ⟨a0, len, cap, rfl⟩ := okWide_slice Tryd.underlying22 hv
  obtain ⟨fuel, hf⟩ := h
  rcases open_ints Tryd.underlying22 Tryd.underlying3 (by kernel_rfl) hf with ⟨hcs, hx⟩ | ⟨a, len', cap', zs, hcs, _, hl, hm, hz, hx, hcell, hwz⟩
  · simp only [Value.cells, List.cons.injEq, Value.slice.injEq, and_true] at hcs
    obtain ⟨rfl, rfl, rfl⟩ := hcs
    refine ⟨[], Nat.zero_le _, ?_, RD.nil _ _⟩
    intro z hz; cases hz
  · simp only [Value.cells, List.cons.injEq, Value.slice.injEq, and_true] at hcs
    obtain ⟨rfl, rfl, rfl⟩ := hcs
    unfold maxLen at hm
    have hzl : zs.length = cap := by simpa using hz
    have hlen : (zs.take len).length = len := by rw [List.length_take]; omega
    refine ⟨zs.take len, by omega, fun z hz' => bounds_i64 (hwz z (List.mem_of_mem_take hz')), ?_⟩
    by_cases h0 : zs.length = 0
    · have : zs = [] := List.eq_nil_of_length_eq_zero h0
      subst this
      obtain rfl : len = 0 := by simp at hzl; omega
      simp only [List.take_nil]
      exact .nil _ _
    obtain ⟨b, off, rfl, hc⟩ := ints_at hcell (by omega)
    have hrd : ∀ l : List Int, RDs W (fun b => b < W.heap.size) (l.flatMap dsI) (l.map (.int .i64)) := fun l => by
      induction l with
      | nil => exact .nil
      | cons z l ih => exact .cons (.c rfl) ih
    have key := RD.l (w := W) (ok := fun b => b < W.heap.size) (n := len) (c := cap) (o := off) hl (World.block_lt_of_cell? W ⟨b, off + 0, none⟩ (hc 0 (by omega))) (hrd (zs.take len)) fun j v hj => by
      have hj' : j < (zs.take len).length := by simpa using (List.getElem?_eq_some_iff.1 hj).1
      have hj2 : j < zs.length := by omega
      rw [hc j hj2]
      rw [List.getElem?_map, List.getElem?_take, if_pos (by omega), List.getElem?_eq_getElem hj2] at hj
      rw [List.getD_eq_getElem?_getD, List.getElem?_eq_getElem hj2]
      simpa using hj
    rw [show i64s (zs.take len) = .l len ((zs.take len).flatMap dsI) by unfold i64s lst; rw [hlen]]
    exact key

theorem trodAll_later {H : Type} {enc : TypeId × Value → H} {P : Program} (hl : laidOutB P = true) {W W' : World} (hb : Below W.heap.size W W') (ts : List TypeId) :
    ∀ (vs : List Value) (ds : List (DataW H)) (ps : List MemPlace), (ts.all fun t => P.readableRec t && decide (t < P.types.size)) = true →
      DataW.TrodAll enc P W 0 (fun _ => true) true ts vs ds ps → (∀ x ∈ ps, x.block < W.heap.size) → DataW.TrodAll enc P W' 0 (fun b => decide (b < W.heap.size)) true ts vs ds ps := by
  induction ts with
  | nil =>
    intro vs ds ps _ h _
    cases vs <;> cases ds <;> first | exact h | exact h.elim
  | cons t ts ih =>
    intro vs ds ps hr h hlt
    cases vs with
    | nil => exact h.elim
    | cons v vs =>
      cases ds with
      | nil => exact h.elim
      | cons d ds =>
        simp only [List.all_cons, Bool.and_eq_true, decide_eq_true_eq] at hr
        obtain ⟨p, q, h1, h2, rfl⟩ := h
        exact ⟨p, q, Below.trod hl hr.1.1 hr.1.2 h1 hb (fun x hx => hlt x (List.mem_append_left _ hx)), ih vs ds q (by simpa using hr.2) h2 (fun x hx => hlt x (List.mem_append_right _ hx)), rfl⟩

theorem law_post {H : Type} {enc : TypeId × Value → H} {f : Func} {s : ChangeSpec} {W W' : World} {args : Array Value} {ds gs : List (DataW H)} {before : List MemPlace}
    (hvars : s.vars = []) (hres : f.resultTypes = #[4]) (hr : (f.params.toList.all fun t => Tryd.prog.readableRec t && decide (t < Tryd.prog.types.size)) = true)
    (hfn : s.fn H (ds ++ gs) = { results := [.lit (.bool true)], args := ds }) (hW : DataW.Whole enc Tryd.prog f.params.toList s.vars false W args.toList ds gs before) (hk : Kp [] W W') :
    s.post enc Tryd.prog f false true false false W args (.bool true) W' := by
  have hb := hk.below
  have hlt : ∀ x ∈ before, x.block < W.heap.size := fun x hx => hW.lt x hx
  have hW' := hW
  obtain ⟨p, q, hA, hV, rfl, -, -⟩ := hW
  refine ⟨ds, gs, p ++ q, [], p, [], hW', ?_, ?_, ?_, Below.frame hb _, fun h => by cases h⟩
  · rw [hfn, hres]
    exact trodAll_mk1 (shut_bool Tryd.underlying4 true)
  · rw [hfn]
    exact trodAll_later laidOut hb _ _ _ _ hr hA (fun x hx => hlt x (List.mem_append_left _ hx))
  · rw [hfn, hvars]
    rfl

/-- A world for the witness: the settled one, the letters as their initialiser lays them. -/
noncomputable def laidWorld (os : Os) : World :=
  { World.holding Tryd.prog os ⟨#[], #[], []⟩ with heap := (World.holding Tryd.prog os ⟨#[], #[], []⟩).heap.modify 0 fun
      | .cells _ t frozen => .cells #[.string ⟨#[97]⟩, .string ⟨#[98]⟩, .string ⟨#[99]⟩, .string ⟨#[0]⟩, .string ⟨#[255]⟩, .string ⟨#[109]⟩] t frozen
      | o => o }
end Go.Proofs.YtjnnkpkbgdknmaaDoor
namespace Go.Proofs.YtjnnkpkbgdknmaaDoor
set_option linter.unusedSimpArgs false
set_option linter.unusedVariables false
open Go.ChangeShapes Go.WideShapes Go.ChangeAt Go.RowKit Go.Joins
set_option maxRecDepth 100000
section
variable {H : Type} {enc : TypeId × Value → H} {W : World} {base : Nat} {fuel : Nat} {cs : List Value} {x : DataW H × List MemPlace}
theorem trod_bound (h : DataW.trod enc Tryd.prog W 0 (fun _ => true) true fuel 48 cs = some x) : ∃ b : Bnd, cs = [.string b.key, .bool b.top] ∧ b.key.size ≤ maxLen := by
  obtain ⟨y0, y1, n, -, hl, h0, h1⟩ := trod_struct2 Tryd.underlying48 h
  obtain ⟨a, e0, -, ha⟩ := DataW.trod_string Tryd.underlying9 h0
  obtain ⟨s, e1, -⟩ := DataW.trod_bool Tryd.underlying4 h1
  have hc : Tryd.prog.cellsOf 48 = 2 := by kernel_rfl
  have hs : Tryd.prog.cellsOf 9 = 1 := by kernel_rfl
  have hb : Tryd.prog.cellsOf 4 = 1 := by kernel_rfl
  rw [hc] at hl
  match cs, hl with
  | [c0, c1], _ =>
    simp only [hs, hb, List.drop_zero, List.drop_succ_cons, List.take_succ_cons, List.take_zero, List.cons.injEq, and_true] at e0 e1
    subst e0 e1
    exact ⟨⟨a, s⟩, rfl, ha⟩
theorem trod_range (h : DataW.trod enc Tryd.prog W 0 (fun _ => true) true fuel 50 cs = some x) : ∃ r : Rng, cs = r.vals ∧ r.lo.key.size ≤ maxLen ∧ r.hi.key.size ≤ maxLen := by
  obtain ⟨y0, y1, n, -, hl, h0, h1⟩ := trod_struct2 Tryd.underlying50 h
  obtain ⟨a, e0, ha⟩ := trod_bound h0
  obtain ⟨b, e1, hb⟩ := trod_bound h1
  have hc : Tryd.prog.cellsOf 50 = 4 := by kernel_rfl
  have hs : Tryd.prog.cellsOf 48 = 2 := by kernel_rfl
  rw [hc] at hl
  match cs, hl with
  | [c0, c1, c2, c3], _ =>
    simp only [hs, List.drop_zero, List.drop_succ_cons, List.take_succ_cons, List.take_zero, List.cons.injEq, and_true] at e0 e1
    obtain ⟨rfl, rfl⟩ := e0
    obtain ⟨rfl, rfl⟩ := e1
    exact ⟨⟨a, b⟩, rfl, ha, hb⟩
theorem range_of {v : Value} {d : DataW H} {ps : List MemPlace} (hv : Value.okWide Tryd.prog W .any base 50 v) (h : DataW.Trod enc Tryd.prog W 0 (fun _ => true) true 50 v d ps) :
    ∃ r : Rng, v = .agg #[.string r.lo.key, .bool r.lo.top, .string r.hi.key, .bool r.hi.top] := by
  obtain ⟨cs, rfl, -⟩ := okWide_struct Tryd.underlying50 hv
  obtain ⟨fuel, h⟩ := h
  obtain ⟨r, e, -, -⟩ := trod_range h
  refine ⟨r, ?_⟩
  obtain ⟨l⟩ := cs
  simp only [Value.cells] at e
  subst e
  rfl
theorem str_of {v : Value} {d : DataW H} {ps : List MemPlace} (hv : Value.okWide Tryd.prog W .any base 9 v) (h : DataW.Trod enc Tryd.prog W 0 (fun _ => true) true 9 v d ps) : ∃ s : ByteArray, v = .string s ∧ s.size ≤ maxLen := by
  obtain ⟨s, rfl⟩ := okWide_string Tryd.underlying9 hv
  obtain ⟨fuel, h⟩ := h
  obtain ⟨s', e, -, hs⟩ := DataW.trod_string Tryd.underlying9 h
  simp [Value.cells] at e
  subst e
  exact ⟨s, rfl, hs⟩
end
theorem rvals_row {w : World} {b o : Nat} {f : Nat → Rng} : ∀ n, (∀ i, i < n → ∀ j u, (f i).vals[j]? = some u → w.cell? ⟨b, o + i * 4 + j, none⟩ = some u) →
    ∀ j u, (rvals ((List.range n).map f))[j]? = some u → w.cell? ⟨b, o + j, none⟩ = some u := by
  intro n h j u hj
  have hlen : j < 4 * n := by have := (List.getElem?_eq_some_iff.1 hj).1; rw [rvals_length] at this; simpa using this
  have hr : ((List.range n).map f)[j / 4]? = some (f (j / 4)) := by
    rw [List.getElem?_map, List.getElem?_range (by omega)]; rfl
  have hv : ∃ u', (f (j / 4)).vals[j % 4]? = some u' := ⟨_, List.getElem?_eq_getElem (by simp [Rng.vals]; omega)⟩
  obtain ⟨u', hu'⟩ := hv
  have g := rvals_get _ _ _ hr _ _ hu'
  have e : j / 4 * 4 + j % 4 = j := by omega
  rw [e, hj] at g
  obtain rfl := Option.some.inj g
  have := h (j / 4) (by omega) _ _ hu'
  rwa [show o + j / 4 * 4 + j % 4 = o + j by omega] at this
theorem rngs_cs {H : Type} {enc : TypeId × Value → H} {W : World} {fuel : Nat} {cs : List Value} {x : DataW H × List MemPlace} (hf : DataW.trod enc Tryd.prog W 0 (fun _ => true) true fuel 23 cs = some x) :
    ∃ p n c l, cs = [.slice p n c] ∧ Rd W 4 (.slice p n c) n (rvals l) := by
  have hc4 : Tryd.prog.cellsOf 50 = 4 := by kernel_rfl
  rcases Go.Deep.open_slice Tryd.underlying23 hf with ⟨hcs, -⟩ | ⟨a, len', cap', m, k, D, Pl, hcs, -, hl, -, hm, -, hx⟩
  · exact ⟨_, _, _, [], hcs, by simp [rvals], _, _, rfl, Nat.le_refl _, .inl rfl⟩
  · subst hcs
    rw [hc4] at hx
    have hm' : m = cap' := by simpa using hm
    subst hm'
    have each : ∀ i, ∃ r : Rng, i < m → ∀ j u, r.vals[j]? = some u → W.cell? (a.add (i * 4 + j)) = some u := by
      intro i
      by_cases hi : i < m
      · obtain ⟨cs, h1, h2⟩ := hx i hi
        obtain ⟨r, rfl, -, -⟩ := trod_range h2
        obtain ⟨-, -, hcell⟩ := World.cells?_some h1
        refine ⟨r, fun _ j u hj => ?_⟩
        have hj4 : j < 4 := by have := (List.getElem?_eq_some_iff.1 hj).1; simpa [Rng.vals] using this
        rw [← Go.Deep.add_add, hcell j hj4, hj]
      · exact ⟨⟨⟨⟨#[]⟩, false⟩, ⟨⟨#[]⟩, false⟩⟩, fun h => absurd h hi⟩
    let f : Nat → Rng := fun i => Classical.choose (each i)
    have hfe : ∀ i, i < m → ∀ j u, (f i).vals[j]? = some u → W.cell? (a.add (i * 4 + j)) = some u := fun i => Classical.choose_spec (each i)
    refine ⟨_, len', m, (List.range len').map f, rfl, by rw [rvals_length]; simp [Nat.mul_comm], _, _, rfl, hl, ?_⟩
    by_cases h0 : len' = 0
    · exact .inl h0
    right
    obtain ⟨b, off, spot⟩ := a
    have hc0 := hfe 0 (by omega) 0 _ rfl
    have hspot : spot = none := by simpa [Addr.add] using World.cell?_spot hc0
    subst hspot
    refine ⟨b, off, rfl, World.block_lt_of_cell? W ⟨b, off + (0 * 4 + 0), none⟩ (by rw [← Go.WideShapes.add_plain]; exact hc0), ?_⟩
    exact rvals_row len' fun i hi j u hj => by rw [Nat.add_assoc, ← Go.WideShapes.add_plain]; exact hfe i (by omega) j u hj
theorem rd_rngs {W : World} {v : Value} {n : Nat} {l : List Rng} (h : Rd W 4 v n (rvals l)) : RD W (fun b => b < W.heap.size) (lst Rng.ds l) v := by
  have hn : l.length = n := by have := h.len; rw [rvals_length] at this; omega
  obtain ⟨p, c, rfl, h1, h2⟩ := h.ex
  subst hn
  rcases h2 with h2 | ⟨b, o, rfl, hb, hc⟩
  · have : l = [] := List.eq_nil_of_length_eq_zero h2
    subst this; exact .nil _ _
  · rw [lst, ds_rvals]
    exact .l h1 hb (rds_of (rvalsE_one _)) hc
def two63 (n : Int) : Prop := -9223372036854775808 ≤ n ∧ n ≤ 9223372036854775807
theorem qry_of {H : Type} {enc : TypeId × Value → H} {W : World} {v : Value} {d : DataW H} {ps : List MemPlace} {base : Nat}
    (hv : Value.okWide Tryd.prog W .any base 25 v) (h : DataW.Trod enc Tryd.prog W 0 (fun _ => true) true 25 v d ps) : ∃ (k : Int) (l : List Rng) (key : ByteArray) (c : Int), RV W (fun b => b < W.heap.size) (fun _ => none) (vQ k l key c) v ∧ two63 k ∧ two63 c ∧ key.size ≤ maxLen := by
  obtain ⟨c0, c1, c2, c3, y0, y1, y2, y3, n, rfl, -, -, h0, h1, h2, h3⟩ := open_agg4 Tryd.underlying25 (by kernel_rfl) (by kernel_rfl) hv h
  obtain ⟨k, e0, -, b0⟩ := DataW.trod_int Tryd.underlying3 h0
  obtain ⟨p, n, c, l, e1, hR⟩ := rngs_cs h1
  obtain ⟨key, e2, -, hk⟩ := DataW.trod_string Tryd.underlying9 h2
  obtain ⟨cc, e3, -, b3⟩ := DataW.trod_int Tryd.underlying3 h3
  simp only [List.cons.injEq, and_true] at e0 e1 e2 e3
  subst e0 e1 e2 e3
  exact ⟨k, l, key, cc, .a (.cons (.d (.c rfl)) (.cons (.d (rd_rngs hR)) (.cons (.d (.c rfl)) (.cons (.d (.c rfl)) .nil)))), bounds_i64 b0, bounds_i64 b3, hk⟩
/-- From a walk over states: the law returns true, and what stood, stands. -/
theorem law_of_spec {f : FuncId} {us : List V} (hs : Spec Tryd.prog f us [] fun u h => u = vB true ∧ h = []) {W : World} (hg : ∀ e ∈ GL, e.1 < W.heap.size ∧ ∀ (j : Nat) (v : Value), e.2[j]? = some v → W.cell? ⟨e.1, j, none⟩ = some v) {vs : List Value} (hvs : RVs W (fun b => b < W.heap.size) (fun _ => none) us vs) :
    Calls Tryd.prog f vs.toArray W fun e W' => e = .returned (.bool true) ∧ Kp [] W W' := by
  have hok : ∀ b, b < W.heap.size → okb (fun _ => True) W (fun _ => none) b := fun b hb => ⟨hb, trivial, fun k l h => (by cases h)⟩
  refine (hs.run (fun _ => True) W (fun _ => none) vs (fun _ _ => trivial) (hvs.mono (fun b hb => ⟨hok b hb, rfl⟩) fun _ _ h => h) ⟨fun k blk h => (by simp [look] at h), fun k k' blk blk' l l' b h => (by simp [look] at h), fun k l b h => (by cases h), fun e he => ⟨hok _ (hg e he).1, (hg e he).2⟩⟩ (fun k l h => (by cases h))).mono ?_
  rintro e W' ⟨r, u, h, ρ', rfl, ⟨rfl, rfl⟩, hst, hrv, -⟩
  rw [rv_c hrv]
  exact ⟨rfl, hst.os, hst.tape, hst.output, hst.size, fun b hb _ => hst.keep b hb fun k l _ hk => by cases hk⟩
end Go.Proofs.YtjnnkpkbgdknmaaDoor
