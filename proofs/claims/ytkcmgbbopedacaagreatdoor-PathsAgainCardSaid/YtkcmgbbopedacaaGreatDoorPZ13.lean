/-
  Lemmas: The walk of Union in the reference.
-/
import Derived.Test.YtkcmgbbopedacaaGreatDoorProg
import Derived.Shelf.SlLaysF0
import Derived.Test.YtkcmgbbopedacaaGreatDoorPZ12
import Derived.Shelf.SlSortCmp.WholeK
import Derived.Lib.SliceRun
import Derived.Shelf.SlSortCmp.NoneTotal
set_option linter.unusedSimpArgs false
set_option linter.unusedVariables false
namespace Go.Proofs
open Go.Shelf
def Tryz.sortR_ren:Go.Shelf.Ren:=⟨fun | 6=>237 | 15=>244 | 14=>243 | 28=>255 | 29=>256 | 20=>247 | 21=>248 | 22=>249 | 23=>250 | 24=>251 | 25=>252 | 26=>253 | 27=>254 | 46=>257 | 47=>258 | 48=>259 | 49=>260 | 50=>261 | 57=>262 | n=>n,fun | 22=>23 | 24=>72 | 25=>267 | 3=>3 | 39=>260 | 0=>0 | 53=>282 | 55=>284 | 4=>4 | 46=>276 | 45=>275 | 50=>251 | 5=>5 | 9=>9 | 66=>285 | 70=>289 | 76=>291 | 77=>292 | n=>n,fun | n=>n⟩
theorem Tryz.sortR:Go.Proofs.SlLaysF0.n6 Tryz.prog Tryz.sortR_ren:={
 mixed:=by kernel_rfl
 f6:=⟨Tryz.f237.name,by decide,Tryz.func237.trans (congrArg some (by kernel_rfl))⟩
 f14:=⟨Tryz.f243.name,by decide,Tryz.func243.trans (congrArg some (by kernel_rfl))⟩
 f15:=Tryz.func244.trans (congrArg some (by kernel_rfl))
 f20:=⟨Tryz.f247.name,by decide,Tryz.func247.trans (congrArg some (by kernel_rfl))⟩
 f21:=⟨Tryz.f248.name,by decide,Tryz.func248.trans (congrArg some (by kernel_rfl))⟩
 f22:=⟨Tryz.f249.name,by decide,Tryz.func249.trans (congrArg some (by kernel_rfl))⟩
 f23:=⟨Tryz.f250.name,by decide,Tryz.func250.trans (congrArg some (by kernel_rfl))⟩
 f24:=⟨Tryz.f251.name,by decide,Tryz.func251.trans (congrArg some (by kernel_rfl))⟩
 f25:=⟨Tryz.f252.name,by decide,Tryz.func252.trans (congrArg some (by kernel_rfl))⟩
 f26:=⟨Tryz.f253.name,by decide,Tryz.func253.trans (congrArg some (by kernel_rfl))⟩
 f27:=⟨Tryz.f254.name,by decide,Tryz.func254.trans (congrArg some (by kernel_rfl))⟩
 f28:=Tryz.func255.trans (congrArg some (by kernel_rfl))
 f29:=Tryz.func256.trans (congrArg some (by kernel_rfl))
 f46:=⟨Tryz.f257.name,by decide,Tryz.func257.trans (congrArg some (by kernel_rfl))⟩
 f47:=Tryz.func258.trans (congrArg some (by kernel_rfl))
 f48:=Tryz.func259.trans (congrArg some (by kernel_rfl))
 f49:=⟨Tryz.f260.name,by decide,Tryz.func260.trans (congrArg some (by kernel_rfl))⟩
 f50:=⟨Tryz.f261.name,by decide,Tryz.func261.trans (congrArg some (by kernel_rfl))⟩
 f57:=⟨Tryz.f262.name,by decide,Tryz.func262.trans (congrArg some (by kernel_rfl))⟩
 t0:=Tryz.underlying0
 a0:=Tryz.isAgg0
 z0:=Tryz.sizeOf0
 v0:=Tryz.zeroValue0
 t3:=Tryz.underlying3
 a3:=Tryz.isAgg3
 z3:=Tryz.sizeOf3
 v3:=Tryz.zeroValue3
 t4:=Tryz.underlying4
 a4:=Tryz.isAgg4
 z4:=Tryz.sizeOf4
 v4:=Tryz.zeroValue4
 t5:=Tryz.underlying5
 a5:=Tryz.isAgg5
 z5:=Tryz.sizeOf5
 v5:=Tryz.zeroValue5
 t9:=Tryz.underlying9
 a9:=Tryz.isAgg9
 z9:=Tryz.sizeOf9
 v9:=Tryz.zeroValue9
 t22:=Tryz.underlying23
 a22:=Tryz.isAgg23
 z22:=Tryz.sizeOf23
 v22:=Tryz.zeroValue23
 t25:=Tryz.underlying267
 a25:=Tryz.isAgg267
 z25:=Tryz.sizeOf267
 v25:=Tryz.zeroValue267
 t39:=Tryz.underlying260
 a39:=Tryz.isAgg260
 z39:=Tryz.sizeOf260
 v39:=Tryz.zeroValue260
 t45:=Tryz.underlying275
 a45:=Tryz.isAgg275
 z45:=Tryz.sizeOf275
 v45:=Tryz.zeroValue275
 t46:=Tryz.underlying276
 a46:=Tryz.isAgg276
 z46:=Tryz.sizeOf276
 v46:=Tryz.zeroValue276
 t50:=Tryz.underlying251
 a50:=Tryz.isAgg251
 z50:=Tryz.sizeOf251
 v50:=Tryz.zeroValue251
 t53:=Tryz.underlying282
 a53:=Tryz.isAgg282
 z53:=Tryz.sizeOf282
 v53:=Tryz.zeroValue282
 t55:=Tryz.underlying284
 a55:=Tryz.isAgg284
 z55:=Tryz.sizeOf284
 v55:=Tryz.zeroValue284
 t66:=Tryz.underlying285
 a66:=Tryz.isAgg285
 z66:=Tryz.sizeOf285
 v66:=Tryz.zeroValue285
 t70:=Tryz.underlying289
 a70:=Tryz.isAgg289
 z70:=Tryz.sizeOf289
 v70:=Tryz.zeroValue289
 t76:=Tryz.underlying291
 a76:=Tryz.isAgg291
 z76:=Tryz.sizeOf291
 v76:=Tryz.zeroValue291
 t77:=Tryz.underlying292
 a77:=Tryz.isAgg292
 z77:=Tryz.sizeOf292
 v77:=Tryz.zeroValue292 }
end Go.Proofs
namespace Go.Proofs.YtkcmgbbopedacaaGreatDoor
open Go.RowKit Go.Shelf
attribute [local irreducible] contains emp vld vb vk adj Yt ZtU proper greater lesser greatest least cmp Bnd.lt Op.bytesLess Calls Oper.wp wpList Code.wp Oper.upon
set_option maxRecDepth 100000 in
set_option maxHeartbeats 1000000 in
theorem Zuq {p:Option Addr} {n c:Nat} {l:List Rng} {w:World} (h1:Rd w 4 (.slice p n c) n (ZI l)) (hn:n≤1000000) :
   Calls Tryz.prog 236 #[.slice p n c] w fun e w'=>∃ v sl,e=.returned v∧OS sl 72 4 v n (ZI l)∧Rep w nof [] sl w':=by
 have q:=fun w a n c n' c'=>Lib.run_eql_slice_nil (P:=Tryz.prog) w 23 _ a n c n' c' Tryz.underlying23
 cases p with
 | none =>
  obtain rfl:n=0:=by
   obtain ⟨p,c',e,-,h⟩:=h1.ex
   rcases h with h | ⟨b,o,h,-⟩
   ·exact h
   ·simp only [Value.slice.injEq] at e; rw [h] at e; cases e.1
  obtain rfl:l=[]:=by have:=h1.count rvz (by decide); exact List.eq_nil_of_length_eq_zero this
  go_enter Tryz.func236,Tryz.ntmps236
  have hR:=Rep.refl w
  generalize w=w0 at hR h1
  go_wp2_with (first | (refine Xj hR ?_) | (refine Xk hR ?_; (try clear hF); clear hR; intro w hR; have hF:=hR.fx) | (refine Ym hR ?_; (try clear hF); clear hR; intro w B hR; have hF:=hR.fx))
  go_ret
  exact ⟨_,_,rfl,OS.nil _ _,hR⟩
 | some ad =>
  go_enter Tryz.func236,Tryz.ntmps236
  have hR:=Rep.refl w
  generalize w=w0 at hR h1
  go_wp2_with (first | (refine Zb1 (h1:=Zfa l) hR rfl rfl rfl rfl rfl (OS.lit B 0 [] (by simp) (by decide)) (h1.kp hR.kp_nof) ?_; (try clear hF); clear hR; intro v sl w hO hR; have hF:=hR.fx) | (refine Xj hR ?_) | (refine Xk hR ?_; (try clear hF); clear hR; intro w hR; have hF:=hR.fx) | (refine Ym hR ?_; (try clear hF); clear hR; intro w B hR; have hF:=hR.fx))
  go_ret
  refine ⟨_,_,rfl,by simpa using hO,hR.sub Y1⟩
instance : Inhabited Rng:=⟨zr⟩
open Go.Sort in
theorem Zmq {α:Type} [Inhabited α] {enc:α→List Value} {k:Nat} (hz:∀ x,(enc x).length=k) (l:List α):flatK enc k l.toArray=(fl enc l).toArray:=by
 apply Array.ext_getElem?
 intro t
 have hl:=ZdO hz l
 by_cases ht:t<l.length * k
 ·have hk:0<k:=Nat.pos_of_ne_zero fun h=>by rw [h] at ht; omega
  have hi:t / k<l.length:=(Nat.div_lt_iff_lt_mul hk).2 ht
  have hj:t % k<k:=Nat.mod_lt t hk
  have h1:=Zty hz (List.getElem?_eq_getElem hi) (j:=t % k) (List.getElem?_eq_getElem (by rw [hz]; exact hj))
  rw [show t / k * k+t % k=t by rw [Nat.mul_comm]; exact Nat.div_add_mod t k] at h1
  rw [List.getElem?_toArray (xs:=fl enc l),h1]
  simp only [flatK,Array.getElem?_map,Array.getElem?_range,List.size_toArray,ht,if_true,Option.map_some]
  congr 1
  rw [getElem!_pos l.toArray (t / k) (by simpa using hi),getElem!_pos _ (t % k) (by simp [hz,hj])]
  simp
 ·rw [List.getElem?_toArray (xs:=fl enc l),List.getElem?_eq_none (by omega),Array.getElem?_eq_none (by simp; omega)]
open Go.Sort in
theorem ZnC {w0 w:World} {X:Fr} {R:List Win} {S sl pre post:List OB} {E:TypeId} {n cap g m:Nat} {l s:List Rng} {os:Array Obj} (hR:Rep w0 X R S w) (hO:OS sl E 4 (.slice (some ⟨g,0,none⟩) n cap) n (ZI l)) (hC:Ctx S sl pre post) (hs:s.length=l.length) :
   ∃ sl',OS sl' E 4 (.slice (some ⟨g,0,none⟩) n cap) n (ZI s)∧Rep w0 X R (pre++(sl'++post)) (sortWorldK Rng.vals 4 w g 0 m s.toArray os):=by
 rcases hO.2 with ⟨-,e,-⟩ | ⟨g',cap',sp,rfl,e,h2,h3,h4⟩
 ·simp at e
 ·simp only [Value.slice.injEq,Option.some.injEq,Addr.mk.injEq,and_true,true_and] at e
  obtain ⟨rfl,rfl⟩:=e
  have hmem:(⟨g,E,ZI l++sp⟩:OB) ∈ S:=(ZdJ hC).subset List.mem_cons_self
  have hg:w.heap[g]?=some (.cells (ZI l++sp).toArray E (0,0)):=hR.own _ hmem
  have hlt:g<w.heap.size:=hR.lt hmem
  have hsl:(ZI s).length=(ZI l).length:=by rw [ZR,ZR,hs]
  refine ⟨[⟨g,E,ZI s++sp⟩],⟨by rw [hsl]; exact hO.1,.inr ⟨g,cap,sp,rfl,rfl,h2,h3,by rw [List.length_append,hsl,← List.length_append]; exact h4⟩⟩,?_⟩
  have hF:flatK Rng.vals 4 s.toArray=(ZI s).toArray:=Zmq rvz s
  refine hR.replace hC (B:=g) (fun k hk hne=>?_) rfl rfl rfl ?_ ?_ (.inl ⟨_,List.mem_cons_self,rfl⟩)
  ·simp only [sortWorldK,putRowK,putRow,mapBlock,grow]
   rw [Array.getElem?_append_left (by simpa [ahead] using hk),Array.getElem?_modify,if_neg (Ne.symm hne)]; rfl
  ·simp [sortWorldK,putRowK,putRow,mapBlock,grow,ahead]
  ·simp only [sortWorldK,putRowK,putRow,mapBlock,grow]
   rw [Array.getElem?_append_left (by simpa [ahead] using hlt),Array.getElem?_modify,if_pos rfl]
   have ha:(Go.Sort.ahead w m).heap[g]?=some (.cells (ZI l++sp).toArray E (0,0)):=hg
   rw [ha,hF]
   simp only [Option.map_some,onCells]
   congr 2
   apply Array.ext_getElem?
   intro k
   simp only [putCells,Array.getElem?_mapIdx,List.getElem?_toArray,List.size_toArray,Nat.zero_le,true_and,Nat.zero_add,Nat.sub_zero,id]
   by_cases hk:k<(ZI s).length
   ·rw [List.getElem?_append_left hk,List.getElem?_append_left (by omega),List.getElem?_eq_getElem hk,List.getElem?_eq_getElem (by omega)]
    simp only [Option.map_some,hk,if_true]
    rw [getElem!_pos _ k (by simpa using hk)]; simp
   ·rw [List.getElem?_append_right (by omega),List.getElem?_append_right (by omega),hsl]
    have hk':¬ k<(ZI l).length:=by omega
    cases sp[k - (ZI l).length]? <;> simp [hk']
open Go.Sort in
theorem ZsA {w0 w:World} {X:Fr} {R:List Win} {S sl pre post:List OB} {E:TypeId} {n cap g:Nat} {l:List Rng} (hR:Rep w0 X R S w) (hO:OS sl E 4 (.slice (some ⟨g,0,none⟩) n cap) n (ZI l)) (hC:Ctx S sl pre post):HoldsK Rng.vals 4 w g 0 l.toArray:=by
 rcases hO.2 with ⟨-,e,-⟩ | ⟨g',cap',sp,rfl,e,h2,h3,h4⟩
 ·simp at e
 ·simp only [Value.slice.injEq,Option.some.injEq,Addr.mk.injEq,and_true,true_and] at e
  obtain ⟨rfl,rfl⟩:=e
  have hmem:(⟨g,E,ZI l++sp⟩:OB) ∈ S:=(ZdJ hC).subset List.mem_cons_self
  have hg:w.heap[g]?=some (.cells (ZI l++sp).toArray E (0,0)):=hR.own _ hmem
  unfold HoldsK
  rw [Zmq rvz l]
  intro j hj
  have hj':j<(ZI l).length:=by rw [ZsD]; simpa using hj
  constructor
  ·rw [Nat.zero_add,hR.cells hmem]
   simp only [id]
   rw [List.getElem?_append_left hj',List.getElem?_eq_getElem hj',getElem!_pos _ j hj]; rfl
  ·simp [World.frozen?,hg]
def Znb (x y:Rng):Int:=cmp x.lo y.lo
theorem Zin (x y:Rng):Go.Proofs.ltOf Znb x y=x.lo.lt y.lo:=by
 have:=XW x.lo y.lo
 unfold Go.Proofs.ltOf Znb
 cases h:x.lo.lt y.lo
 ·rw [h] at this; simpa using this
 ·rw [h] at this; simpa using this
theorem ZwE:Go.Sort.SWO (Go.Proofs.ltOf Znb):=by
 refine ⟨fun x=>?_,fun x y z h k=>?_,fun x y z h k=>?_⟩
 ·rw [Zin]; exact lt_irrefl _
 ·rw [Zin] at *; exact lt_trans h k
 ·rw [Zin] at *
  have h1:=Zea z y x (by simp [Zfx,k]) (by simp [Zfx,h])
  simpa [Zfx] using h1
theorem ZnE {a b:ByteArray} {s t:Bool} {w:World} :
   Calls Tryz.prog 68 #[.agg #[.string a,.bool s],.agg #[.string b,.bool t]] w fun e w'=>e=.returned (.int .i64 (cmp ⟨a,s⟩ ⟨b,t⟩))∧∃ o1 o2,w'=(w.alloc o1).alloc o2:=by
 go_enter Tryz.func68,Tryz.ntmps68
 go_wp2
 all_goals go_ret
 all_goals refine ⟨ZkZ ?_,_,_,rfl⟩
 all_goals first | (simp [cmp,Bnd.lt, *]; done) | (rename_i h1 h2; simp [cmp,Bnd.lt, *,Znf h1 h2]; done) | (rename_i h1 h2; simp [cmp,Bnd.lt, *,ZrY h2]; done) | (rename_i h1; simp [cmp,Bnd.lt, *,Znf (by simpa using h1.1) h1.2,show Op.bytesLess a.toList b.toList=false by simpa using h1.1]; done) | (rename_i h1 h2; simp [cmp,Bnd.lt, *,ZoN h1 h2]; done)
set_option maxRecDepth 100000 in
set_option maxHeartbeats 1000000 in
theorem ZnD (x y:Rng) (w:World):Calls Tryz.prog 238 #[.agg x.vals.toArray,.agg y.vals.toArray] w fun e w'=>e=.returned (.int .i64 (Znb x y))∧∃ q os',w'=Go.Sort.grow (w.drewN q) os':=by
 simp only [Rng.vals,Znb]
 go_enter Tryz.func238,Tryz.ntmps238
 go_wp2_with (go_at_call 68; refine (ZnE).mono ?_; rintro e w' ⟨rfl,o1,o2,rfl⟩)
 go_ret
 exact ⟨rfl,0,_,by rw [Go.Sort.alloc_eq_grow,Go.Sort.alloc_eq_grow,Go.Sort.alloc_eq_grow,Go.Sort.alloc_eq_grow,Go.Sort.grow_grow,Go.Sort.grow_grow,Go.Sort.grow_grow]; rfl⟩
theorem Zno {w0 w:World} {X:Fr} {R:List Win} {S sl pre post:List OB} {v:Value} {n:Nat} {l:List Rng} (hR:Rep w0 X R S w) (hO:OS sl 72 4 v n (ZI l)) (hC:Ctx S sl pre post) (hn:n≤1000000) :
   Calls Tryz.prog 237 #[v,.func (.func 238) #[] #[]] w fun e w'=>e=.returned (.tuple #[])∧∃ s sl',s.Perm l∧Srt s∧OS sl' 72 4 v n (ZI s)∧Rep w0 X R (pre++(sl'++post)) w':=by
 have hl:l.length=n:=(hO.rdC hR hC).count rvz (by decide)
 rcases hO.2 with ⟨hsl,hv,hn0⟩ | ⟨g,cap,sp,hsl,hv,-⟩
 ·have h0:l=[]:=List.eq_nil_of_length_eq_zero (hl.trans hn0)
  subst h0 hv hn0
  refine (AnyF.slices_SortFunc_none Tryz.sortR none 0 _ w).mono ?_
  rintro e w' ⟨rfl,rfl⟩
  exact ⟨rfl,[],sl,List.Perm.refl _,.nil,hO,by rw [hC.eq] at hR; exact hR⟩
 ·subst hv hl
  have eg:∀ args w,(callFunc 238 args).run Tryz.prog w=.ok (.enter 238 args) w:=enters_of Tryz.func238 (by kernel_rfl) rfl
  refine (AnyQ.slices_SortFunc Tryz.sortR 4 Tryz.isAgg72 Tryz.sizeOf72 Rng.vals rvz (fun x v hv=>by have:=List.all_eq_true.1 (show x.vals.all Value.oneCell'=true from rfl) v hv; exact this) Znb ZwE 238 #[] g 0 cap l.toArray w eg (fun m os dk _ x y=>(ZnD x y _).mono fun e w' ⟨he,hk⟩=>⟨he,hk⟩) (ZsA hR hO hC) (hR.lt ((ZdJ hC).subset (by rw [hsl]; exact List.mem_cons_self))) (by simp; omega)).mono ?_
  rintro e w' ⟨rfl,d',m,os,hp,hs,rfl⟩
  obtain ⟨s,rfl⟩:∃ s:List Rng,d'=s.toArray:=⟨d'.toList,by simp⟩
  have hsz:s.length=l.length:=by simpa using hp.1
  obtain ⟨sl',h1,h2⟩:=ZnC (m:=m) (os:=os) hR hO hC hsz
  refine ⟨rfl,s,sl',?_,?_,h1,h2⟩
  ·have:=hp.2.2
   simpa [hsz,List.take_of_length_le (Nat.le_of_eq hsz)] using this
  ·refine List.pairwise_iff_getElem.2 fun i j hi hj hij=>?_
   have:=hs i j (Nat.zero_le _) hij (by simpa [← hsz] using hj)
   rw [Zin,getElem!_pos _ j (by simpa using hj),getElem!_pos _ i (by simpa using hi)] at this
   simpa using this
end Go.Proofs.YtkcmgbbopedacaaGreatDoor
namespace Go.Proofs.YtkcmgbbopedacaaGreatDoor
open Go.RowKit
attribute [local irreducible] contains emp vld vb vk adj Yt ZtU proper greater lesser greatest least cmp Bnd.lt Op.bytesLess Calls Oper.wp wpList Code.wp Oper.upon
theorem Rep.back {w0 w1 w:World} {S:List OB} (h:Rep w1 nof [] S w) (hk:Kp [] w0 w1):Rep w0 nof [] S w :=
 ⟨hk.trans h.kp,h.own,h.ne,fun e he=>Nat.le_trans hk.size (h.new e he),by simp,trivial,fun _ _ _ _=>trivial,by simp [nof]⟩
theorem Rep.rebase0 {w0 w:World} {X:Fr} {R:List Win} {S:List OB} (h:Rep w0 X R S w):Rep w X [] [] w:=h.rebaseS.sub (List.Sublist.refl _) (List.nil_sublist _)
theorem ZeC (a b:Bnd) {w:World}:Calls Tryz.prog 68 #[.agg #[.string a.key,.bool a.top],.agg #[.string b.key,.bool b.top]] w fun e w'=>e=.returned (.int .i64 (cmp a b))∧Kp [] w w':=Zfj
theorem Zk6 (a b:Bnd) {w:World}:Calls Tryz.prog 211 #[.agg #[.string a.key,.bool a.top],.agg #[.string b.key,.bool b.top]] w fun e w'=>e=.returned (.agg #[.string (greater a b).key,.bool (greater a b).top])∧Kp [] w w' :=
 (Zqt (w:=w)).mono fun e w' ⟨m,he,hm,hk⟩=>⟨by rw [he,hm],hk⟩
theorem Zkd (a b:Bnd) {w:World}:Calls Tryz.prog 72 #[.agg #[.string a.key,.bool a.top],.agg #[.string b.key,.bool b.top]] w fun e w'=>e=.returned (.agg #[.string (greater a b).key,.bool (greater a b).top])∧Kp [] w w' :=
 (Zni (w:=w)).mono fun e w' ⟨m,he,hm,hk⟩=>⟨by rw [he,hm,Zg2],hk⟩
theorem Zl0 {c r:Rng} {l:List Rng} (h:cmp r.lo c.hi≤0):mrg c (r::l)=mrg ⟨c.lo,greater c.hi r.hi⟩ l:=by rw [mrg,if_pos h]
theorem Zmk {c r:Rng} {l:List Rng} (h:¬ cmp r.lo c.hi≤0):mrg c (r::l)=c::mrg r l:=by rw [mrg,if_neg h]
theorem Zo8 {done:List Rng} {cur:Rng} {d:Nat} (hd:done.length=d):((ZI (done++[cur])).drop (d * 4+2)).take 2=[.string cur.hi.key,.bool cur.hi.top] :=
 (ZkI rvz (l:=done++[cur]) (k:=d) (r:=cur) (by rw [← hd]; simp) 2 2 (by decide)).trans rfl
def Mrg (out rest tot:List Rng):Prop:=(out=[]∧ZdF rest=tot)∨∃ done cur,out=done++[cur]∧done++mrg cur rest=tot
theorem OS.val {sl:List OB} {E:TypeId} {z n:Nat} {v:Value} {xs:List Value} (h:OS sl E z v n xs):∃ q c,v=.slice q n c:=by
 rcases h.2 with ⟨-,rfl,rfl⟩ | ⟨g,cap,sp,-,rfl,-⟩
 ·exact ⟨_,_,rfl⟩
 ·exact ⟨_,_,rfl⟩
theorem OS.val1 {sl:List OB} {E:TypeId} {z n:Nat} {v:Value} {xs:List Value} (h:OS sl E z v n xs) (hn:0<n):∃ g c,v=.slice (some ⟨g,0,none⟩) n c∧n≤c:=by
 rcases h.2 with ⟨-,rfl,rfl⟩ | ⟨g,cap,sp,-,rfl,h1,-⟩
 ·omega
 ·exact ⟨_,_,rfl,h1⟩
set_option maxRecDepth 100000 in
set_option maxHeartbeats 4000000 in
theorem Zus {p:Option Addr} {n c:Nat} {l:List Rng} {w:World} (h1:Rd w 4 (.slice p n c) n (ZI l)) (hn:n≤1000000) :
   Calls Tryz.prog 222 #[.slice p n c] w fun e w'=>∃ r sl,e=.returned r∧OS sl 72 4 r (union l).length (ZI (union l))∧Rep w nof [] sl w':=by
 have hl:l.length=n:=h1.count rvz (by decide)
 have hm:(l.filter ne).length≤n:=by rw [← hl]; exact List.length_filter_le _ _
 have Hu:=Lib.hid (fun s hp hs=>Zd0 (l:=l) (s:=s) hp hs)
 obtain ⟨tot,htot⟩:∃ tot,tot=union l:=⟨_,rfl⟩
 rw [← htot]
 rw [← htot] at Hu
 obtain ⟨fl0,hfl⟩:∃ f,f=l.filter ne:=⟨_,rfl⟩
 have Hf:=Lib.hid hfl
 rw [← hfl] at hm
 have Hl:=Lib.hid hl
 clear hfl hl htot
 go_enter Tryz.func222,Tryz.ntmps222
 have hR:=Rep.refl w
 generalize w=w0 at hR h1
 go_wp2_with fail
 refine (Zuq h1 hn).mono ?_
 rintro e w ⟨v,sl,rfl,hO,hb⟩
 replace hR:=hR.join hb
 clear hb
 go_wp2_with fail
 refine (Zka hR hO ZdA.out hn).mono ?_
 clear hR hO
 rintro e w ⟨v,sl,rfl,hO,hR⟩
 rw [← Hf.out] at hO
 go_wp2_with fail
 refine (Zno hR hO ZdA.out (by omega)).mono ?_
 clear hR hO
 rintro e w ⟨rfl,s,sl,hp,hs,hO,hR⟩
 have hsl:=hp.length_eq
 rw [← hsl] at hO hm
 have hrw:=hO.rw hR ZdA.out
 have hk1:=hR.kp_nof
 replace hR:=hR.rebase0
 have Ht:=Lib.hid ((Hu.out) s (by rw [← Hf.out]; exact hp) hs)
 clear hO hp hs Hu
 obtain ⟨m,hmm⟩:∃ m,m=s.length:=⟨_,rfl⟩
 have Hm:=Lib.hid hmm
 rw [← hmm] at hrw hm
 obtain ⟨q,cc,hv⟩:∃ q cc,v=.slice q m cc:=by obtain ⟨q,cc,e,-⟩:=hrw.ex; exact ⟨q,cc,e⟩
 subst hv
 clear hmm hsl
 generalize w=w1 at hR hk1 hrw
 have hF:=hR.fx
 go_wp2_with fail
 go_loopw [4,15] (fun v i wr=>∃ k:Nat,∃ out slo,i=.int .i64 k∧k≤m∧OS slo 72 4 v out.length (ZI out)∧Hid (Mrg out (s.drop k) tot)∧Hid (out.length≤k)∧Rep w1 nof [] slo wr) (fun _ i _=>m - (intOf i).toNat)
 case atStart=>exact ⟨0,[],[],rfl,Nat.zero_le _,OS.nil _ _,Lib.hid (.inl ⟨rfl,by rw [List.drop_zero]; exact Ht.out⟩),Lib.hid (Nat.le_refl _),hR⟩
 case round =>
  obtain ⟨k,out,slo,rfl,hkm,hO,hM,hok,hR⟩:=hrel
  have hF:=hR.fx
  by_cases hlt:k<m
  ·have hlt':(k:Int)<(m:Int):=by omega
   obtain ⟨r,hr⟩:∃ r,s[k]?=some r:=⟨s[k]'(by rw [← Hm.out]; exact hlt),List.getElem?_eq_getElem _⟩
   obtain ⟨b,o,rfl,hR⟩:=hrw.elem rvz (by decide) hr hR
   have hdr:s.drop k=r::s.drop (k+1):=by
    obtain ⟨g1,g2⟩:=List.getElem?_eq_some_iff.1 hr
    rw [List.drop_eq_getElem_cons g1,g2]
   have Hd:=Lib.hid hdr
   clear hdr hr
   simp only [Rng.vals] at hR
   have hF:=hR.fx
   rcases hM.out with ⟨hout,htot⟩ | ⟨done,cur,hout,htot⟩
   ·subst hout
    have Hg:Hid (Mrg [r] (s.drop (k+1)) tot):=Lib.hid (.inr ⟨[],r,rfl,by rw [← htot,Hd.out]; rfl⟩)
    clear hM htot Hd
    obtain ⟨q2,c2,rfl⟩:=hO.val
    simp only [List.length_nil] at hO ⊢
    go_upto_region 8 with (first | (refine Xj hR ?_) | (refine Xk hR ?_; (try clear hF); clear hR; intro w hR; have hF:=hR.fx) | (refine Ym hR ?_; (try clear hF); clear hR; intro w B6 hR; have hF:=hR.fx))
    refine YJ 13 (0::1::2::3::4::5::6::7::8::9::10::11::12::[]) [11] hR mixed (by kernel_rfl) ?_; (try clear hF); clear hR; (repeat (first | (refine dk ?_; intro B) | (refine ZaK (fun w hR=>?_); first | (go_at_call 68; refine (ZeC r.lo r.hi).mono ?_; rintro e w' ⟨rfl,hb⟩; refine ⟨_,rfl,hb,dn ?_⟩; clear hR hb)))); refine Zcg ?_; intro w hR; have hF:=hR.fx; try simp only [List.drop_succ_cons,List.drop_zero]
    go_wp2_with (first | (refine Zb1 hR rfl rfl rfl rfl rfl (hO) (At.rd hR UpI.at rfl) ?_; (try clear hF); clear hR; intro v sl w hO hR; have hF:=hR.fx) | (refine Xj hR ?_) | (refine Xk hR ?_; (try clear hF); clear hR; intro w hR; have hF:=hR.fx) | (refine Ym hR ?_; (try clear hF); clear hR; intro w B hR; have hF:=hR.fx))
    go_roundw
    case rel=>exact ⟨k+1,[r],sl,by go_num,by omega,by simpa [ZI,Rng.vals] using hO,Hg,Lib.hid (by simp),hR.sub Y1 Y1⟩
    case measure=>simp [intOf]; omega
   ·subst hout
    obtain ⟨d,hd⟩:∃ d,done.length=d:=⟨_,rfl⟩
    obtain ⟨g,c2,rfl,hc2⟩:=hO.val1 (by simp)
    have hlen:(done++[cur]).length=d+1:=by simp [hd]
    rw [hlen] at hO hc2 ⊢
    have hok':=hok.out
    rw [hlen] at hok'
    have Hv:=Lib.hid (Zo8 (cur:=cur) hd)
    have Hl4:Hid (d * 4+2+2≤(ZI (done++[cur])).length):=Lib.hid (by rw [ZR,hlen]; omega)
    have hdp:(0:Int)<(d:Int)+1:=by omega
    have hdd:(d:Int)<(d:Int)+1:=by omega
    have hd0:(0:Int)≤(d:Int):=by omega
    have hwr:IntKind.i64.wrap (d:Int)=d:=IntWalk.i64_in _ (by omega)
    by_cases hj:cmp r.lo cur.hi≤0
    ·have Hg:Hid (Mrg (done++[⟨cur.lo,greater cur.hi r.hi⟩]) (s.drop (k+1)) tot):=Lib.hid (.inr ⟨done,_,rfl,by rw [← htot,Hd.out,Zl0 hj]⟩)
     clear hM htot Hd
     go_upto_region 8 with (first | (refine Xj hR ?_) | (refine Xk hR ?_; (try clear hF); clear hR; intro w hR; have hF:=hR.fx) | (refine Ym hR ?_; (try clear hF); clear hR; intro w B6 hR; have hF:=hR.fx))
     refine YJ 13 (0::1::2::3::4::5::6::7::8::9::10::11::12::[]) [11] hR mixed (by kernel_rfl) ?_; (try clear hF); clear hR; (repeat (first | (refine Zbv rfl rfl rfl rfl hO ZdA.out rfl (by exact inferInstance) (by exact rfl) Hl4.out Hv.out (by simp only [Act.put,List.setIfInBounds_toArray,List.set_cons_zero,List.set_cons_succ,ldW,if_true,Bool.false_eq_true,if_false,List.headD_cons]; exact rfl) ?_) | (refine dk ?_; intro B) | (refine ZaK (fun w hR=>?_); first | (go_at_call 68; refine (ZeC r.lo cur.hi).mono ?_; rintro e w' ⟨rfl,hb⟩; refine ⟨_,rfl,hb,dn ?_⟩; clear hR hb)))); refine Zcg ?_; intro w hR; have hF:=hR.fx; try simp only [List.drop_succ_cons,List.drop_zero]
     go_upto_region 9 with (first | (refine Xj hR ?_) | (refine Xk hR ?_; (try clear hF); clear hR; intro w hR; have hF:=hR.fx) | (refine Ym hR ?_; (try clear hF); clear hR; intro w B hR; have hF:=hR.fx))
     refine YJ 14 (0::1::2::3::4::5::6::7::8::9::10::11::12::13::[]) [11] hR mixed (by kernel_rfl) ?_; (try clear hF); clear hR; (repeat (first | (refine Zbv rfl rfl rfl rfl hO ZdA.out rfl (by exact inferInstance) (by exact rfl) Hl4.out Hv.out (by simp only [Act.put,List.setIfInBounds_toArray,List.set_cons_zero,List.set_cons_succ,ldW,if_true,Bool.false_eq_true,if_false,List.headD_cons]; exact rfl) ?_) | (refine dk ?_; intro B) | (refine ZaK (fun w hR=>?_); first | (go_at_call 211; refine (Zk6 cur.hi r.hi).mono ?_; rintro e w' ⟨rfl,hb⟩; refine ⟨_,rfl,hb,dn ?_⟩; clear hR hb)))); refine Zcg ?_; intro w hR; have hF:=hR.fx; try simp only [List.drop_succ_cons,List.drop_zero]
     go_wp2_with (first | (refine ZbA hR rfl rfl rfl hO ZdA.out rfl rfl (by exact inferInstance) Hl4.out (by exact rfl) ?_; (try clear hF); clear hR; intro sl w hO hR; (try simp only [List.cons_append,List.nil_append] at hR); have hF:=hR.fx) | (refine Xj hR ?_) | (refine Xk hR ?_; (try clear hF); clear hR; intro w hR; have hF:=hR.fx) | (refine Ym hR ?_; (try clear hF); clear hR; intro w B hR; have hF:=hR.fx))
     have hst:stL (d * 4+2) [.string (greater cur.hi r.hi).key,.bool (greater cur.hi r.hi).top] (ZI (done++[cur]))=ZI (done++[⟨cur.lo,greater cur.hi r.hi⟩]):=by
      rw [ZdQ _ _ _ cur (by rw [← hd]; simp),← hd]; simp
     rw [hst] at hO
     go_roundw
     case rel=>exact ⟨k+1,_,sl,by go_num,by omega,by simpa [hd] using hO,Hg,Lib.hid (by simp [hd]; omega),by simpa only [List.append_nil] using hR.sub Y1 Y1⟩
     case measure=>simp [intOf]; omega
    ·have Hg:Hid (Mrg ((done++[cur])++[r]) (s.drop (k+1)) tot):=Lib.hid (.inr ⟨done++[cur],r,rfl,by rw [← htot,Hd.out,Zmk hj,List.append_assoc]; rfl⟩)
     clear hM htot Hd
     go_upto_region 8 with (first | (refine Xj hR ?_) | (refine Xk hR ?_; (try clear hF); clear hR; intro w hR; have hF:=hR.fx) | (refine Ym hR ?_; (try clear hF); clear hR; intro w B6 hR; have hF:=hR.fx))
     refine YJ 13 (0::1::2::3::4::5::6::7::8::9::10::11::12::[]) [11] hR mixed (by kernel_rfl) ?_; (try clear hF); clear hR; (repeat (first | (refine Zbv rfl rfl rfl rfl hO ZdA.out rfl (by exact inferInstance) (by exact rfl) Hl4.out Hv.out (by simp only [Act.put,List.setIfInBounds_toArray,List.set_cons_zero,List.set_cons_succ,ldW,if_true,Bool.false_eq_true,if_false,List.headD_cons]; exact rfl) ?_) | (refine dk ?_; intro B) | (refine ZaK (fun w hR=>?_); first | (go_at_call 68; refine (ZeC r.lo cur.hi).mono ?_; rintro e w' ⟨rfl,hb⟩; refine ⟨_,rfl,hb,dn ?_⟩; clear hR hb)))); refine Zcg ?_; intro w hR; have hF:=hR.fx; try simp only [List.drop_succ_cons,List.drop_zero]
     go_wp2_with (first | (refine Zb1 hR rfl rfl rfl rfl rfl (hO) (At.rd hR UpI.at rfl) ?_; (try clear hF); clear hR; intro v sl w hO hR; have hF:=hR.fx) | (refine Xj hR ?_) | (refine Xk hR ?_; (try clear hF); clear hR; intro w hR; have hF:=hR.fx) | (refine Ym hR ?_; (try clear hF); clear hR; intro w B hR; have hF:=hR.fx))
     go_roundw
     case rel=>exact ⟨k+1,(done++[cur])++[r],sl,by go_num,by omega,by simpa [hd,ZI,Rng.vals] using hO,Hg,Lib.hid (by simp [hd]; omega),hR.sub Y1 Y1⟩
     case measure=>simp [intOf]; omega
  ·obtain rfl:k=m:=by omega
   have hf:out=tot:=by
    rcases hM.out with ⟨h1,h2⟩ | ⟨done,cur,h1,h2⟩
    ·rw [h1,← h2,List.drop_eq_nil_of_le (by rw [Hm.out]; exact Nat.le_refl _)]; rfl
    ·rw [h1,← h2,List.drop_eq_nil_of_le (by rw [Hm.out]; exact Nat.le_refl _)]; rfl
   subst hf
   go_wp2_with (first | (refine Xj hR ?_) | (refine Xk hR ?_; (try clear hF); clear hR; intro w hR; have hF:=hR.fx) | (refine Ym hR ?_; (try clear hF); clear hR; intro w B hR; have hF:=hR.fx))
   go_ret
   exact ⟨_,_,rfl,hO,hR.back hk1⟩
end Go.Proofs.YtkcmgbbopedacaaGreatDoor
namespace Go.Proofs.YtkcmgbbopedacaaGreatDoor
open Go.RowKit
attribute [local irreducible] contains emp vld vb vk adj Yt ZtU proper greater lesser greatest least cmp Bnd.lt Op.bytesLess Calls Oper.wp wpList Code.wp Oper.upon
theorem Zjm (x:Rng) {w:World}:Calls Tryz.prog 71 #[.agg #[.string x.lo.key,.bool x.lo.top,.string x.hi.key,.bool x.hi.top]] w fun e w'=>e=.returned (.bool (emp x))∧Kp [] w w':=Zug
theorem Zbh (a b:Bnd) {w:World}:Calls Tryz.prog 61 #[.agg #[.string a.key,.bool a.top],.agg #[.string b.key,.bool b.top]] w fun e w'=>e=.returned (.int .i64 (cmp a b))∧Kp [] w w':=Ze9
theorem ZlV {out:List Rng} {z r:Rng} {j m:Nat} (hm:out.length=m) (hj:j≤m):((out++[z]).take (j+1)++((out++[z]).drop j).take (m - j)).set j r=out.take j++r::out.drop j:=by
 subst hm
 have h2:((out++[z]).drop j).take (out.length - j)=out.drop j:=by
  rw [List.drop_append_of_le_length hj]; exact List.take_left' (by simp)
 have h1:((out++[z]).take (j+1)).set j r=out.take j++[r]:=by
  have h2:(out++[z]).take (j+1)=out.take j++[(out++[z])[j]'(by simp; omega)]:=by
   rw [List.take_add_one,List.getElem?_eq_getElem (by simp; omega),List.take_append_of_le_length hj]; rfl
  rw [h2,List.set_append_right _ _ (by simp; omega)]
  simp [Nat.min_eq_left hj]
 rw [h2,List.set_append_left _ _ (by simp; omega),h1,List.append_assoc]; rfl
theorem Zmi {out:List Rng} {r:Rng} {j:Nat}:(out.take j++r::out.drop j).Perm (out++[r]):=by
 refine List.perm_middle.trans ?_
 rw [List.take_append_drop]
 exact (List.perm_append_singleton r out).symm
theorem Zpm {out:List Rng} {r:Rng} {j:Nat} (hs:Srt out) (h1:∀ i x,j≤i→out[i]?=some x→r.lo.lt x.lo=true) (h2:∀ x,0<j→out[j - 1]?=some x→r.lo.lt x.lo=false) (hj:j≤out.length):Srt (out.take j++r::out.drop j):=by
 refine List.pairwise_append.2 ⟨hs.sublist (List.take_sublist _ _),List.pairwise_cons.2 ⟨fun y hy=>?_,hs.sublist (List.drop_sublist _ _)⟩,fun x hx y hy=>?_⟩
 ·obtain ⟨i,hi,rfl⟩:=List.mem_iff_getElem.1 hy
  rw [List.getElem_drop]
  exact Yd (h1 (j+i) _ (by omega) (List.getElem?_eq_getElem _))
 ·obtain ⟨i,hi,rfl⟩:=List.mem_iff_getElem.1 hx
  have hi':i<j:=by simp at hi; omega
  rw [List.getElem_take]
  have hr:r.lo.lt out[i].lo=false:=by
   have h3:=h2 (out[j - 1]'(by omega)) (by omega) (List.getElem?_eq_getElem (by omega))
   by_cases hij:i=j - 1
   ·subst hij; exact h3
   ·have h4:Zfx out[i] (out[j - 1]'(by omega))=true:=by simp [Zfx,List.pairwise_iff_getElem.1 hs i (j - 1) (by omega) (by omega) (by omega)]
    have h5:=Zea _ _ r h4 (by simp [Zfx,h3])
    simpa [Zfx] using h5
  rcases List.mem_cons.1 hy with rfl | hy
  ·exact hr
  ·obtain ⟨q,hq,rfl⟩:=List.mem_iff_getElem.1 hy
   rw [List.getElem_drop]
   exact List.pairwise_iff_getElem.1 hs i (j+q) (by omega) (by simp at hq; omega) (by omega)
theorem ZuS {out:List Rng} {x:Rng} {d:Nat} (hd:out[d]?=some x):((ZI out).drop (d * 4)).take 2=[.string x.lo.key,.bool x.lo.top] :=
 (ZkI rvz (l:=out) (k:=d) (r:=x) hd 0 2 (by decide)).trans rfl
set_option maxRecDepth 100000 in
set_option maxHeartbeats 8000000 in
theorem ZuI {p:Option Addr} {n c:Nat} {l:List Rng} {w:World} (h1:Rd w 4 (.slice p n c) n (ZI l)) (hn:n≤1000000) :
   Calls Tryz.prog 19 #[.slice p n c] w fun e w'=>∃ r sl,e=.returned r∧OS sl 72 4 r (union l).length (ZI (union l))∧Rep w nof [] sl w':=by
 have hl:l.length=n:=h1.count rvz (by decide)
 have Hu:=Lib.hid (fun s hp hs=>Zd0 (l:=l) (s:=s) hp hs)
 obtain ⟨tot,htot⟩:∃ tot,tot=union l:=⟨_,rfl⟩
 rw [← htot]
 rw [← htot] at Hu
 have Hl:=Lib.hid hl
 clear hl htot
 go_enter Tryz.func19,Tryz.ntmps19
 have hR:=Rep.refl w
 generalize w=w0 at hR h1
 have hrl:=h1.rw
 go_wp2_with fail
 go_loopw [3,4] (fun v i wr=>∃ k:Nat,∃ out slo,i=.int .i64 k∧k≤n∧OS slo 72 4 v out.length (ZI out)∧Hid (out.Perm ((l.take k).filter ne))∧Hid (Srt out)∧Rep w0 nof [] slo wr) (fun _ i _=>n - (intOf i).toNat)
 case atStart=>exact ⟨0,[],[],rfl,Nat.zero_le _,OS.nil _ _,Lib.hid (List.Perm.refl _),Lib.hid .nil,hR⟩
 case round =>
  obtain ⟨k,out,slo,rfl,hkn,hO,hP,hS,hR⟩:=hrel
  have hF:=hR.fx
  by_cases hlt:k<n
  ·have hlt':(k:Int)<(n:Int):=by omega
   have hk0:(0:Int)≤(k:Int):=by omega
   obtain ⟨r,hr⟩:∃ r,l[k]?=some r:=⟨l[k]'(by rw [Hl.out]; exact hlt),List.getElem?_eq_getElem _⟩
   have hts:=ZdN hr
   obtain ⟨b,o,rfl,hR⟩:=hrl.elem rvz (by decide) hr hR
   have Hr:=Lib.hid hts
   clear hts hr
   simp only [Rng.vals] at hR
   have hF:=hR.fx
   cases he:emp r
   ·have hpl:=hP.out.length_eq
    have hml:out.length≤n:=by rw [hpl]; exact Nat.le_trans (List.length_filter_le _ _) (by rw [List.length_take,Hl.out]; omega)
    obtain ⟨q2,c2,rfl⟩:=hO.val
    obtain ⟨m,hm⟩:∃ m,out.length=m:=⟨_,rfl⟩
    rw [hm] at hO hml ⊢
    have Hm:=Lib.hid hm
    clear hm hpl
    go_wp2_with (first | (refine Xj hR ?_) | (refine Xk hR ?_; (try clear hF); clear hR; intro w hR; have hF:=hR.fx) | (refine Ym hR ?_; (try clear hF); clear hR; intro w B hR; have hF:=hR.fx) | (go_at_call 71; refine (Zjm r).mono ?_; rintro e w ⟨rfl,hb⟩; replace hR:=hR.kp0 hb; (try clear hF); clear hb; have hF:=hR.fx))
    go_loopw [5] (fun a wr=>∃ j:Nat,a=.int .i64 j∧j≤m∧Hid (∀ i x,j≤i→out[i]?=some x→r.lo.lt x.lo=true)∧Rep w0 nof [⟨b,o+k * 4,[.string r.lo.key,.bool r.lo.top,.string r.hi.key,.bool r.hi.top]⟩] slo wr) (fun a _=>(intOf a).toNat)
    case atStart=>exact ⟨m,rfl,Nat.le_refl _,Lib.hid (fun i x hi hx=>by have:=(List.getElem?_eq_some_iff.1 hx).1; rw [Hm.out] at this; omega),hR⟩
    case round =>
     obtain ⟨j,rfl,hjm,hA,hR⟩:=hrel
     have hF:=hR.fx
     by_cases hj:0<j
     ·obtain ⟨j,rfl⟩:∃ j',j=j' + 1:=⟨j - 1,by omega⟩
      obtain ⟨x,hx⟩:∃ x,out[j]?=some x:=⟨out[j]'(by rw [Hm.out]; omega),List.getElem?_eq_getElem _⟩
      have Hv:=Lib.hid (ZuS hx)
      have Hl4:Hid (j * 4+2≤(ZI out).length):=Lib.hid (by rw [ZR,Hm.out]; omega)
      have Hx:=Lib.hid hx
      clear hx
      obtain ⟨g,c2,hv2,hc2⟩:=hO.val1 (by omega)
      simp only [Value.slice.injEq,true_and] at hv2
      obtain ⟨rfl,rfl⟩:=hv2
      have hjp:(0:Int)<(j:Int)+1:=by omega
      have hj0:(0:Int)≤(j:Int):=by omega
      have hjm':(j:Int)<(m:Int):=by omega
      have hwr:IntKind.i64.wrap (j:Int)=j:=IntWalk.i64_in _ (by omega)
      by_cases hc:0<cmp x.lo r.lo
      ·go_upto_region 7 with fail
       refine YJ 16 (0::1::2::3::4::5::6::7::8::9::10::11::12::13::14::15::[]) [14] hR mixed (by kernel_rfl) ?_; (try clear hF); clear hR; (repeat (first | (refine Zbv rfl rfl rfl rfl hO ZdA.out rfl (by exact inferInstance) (by exact rfl) Hl4.out Hv.out (by simp only [Act.put,List.setIfInBounds_toArray,List.set_cons_zero,List.set_cons_succ,ldW,if_true,Bool.false_eq_true,if_false,List.headD_cons]; exact rfl) ?_) | (refine dk ?_; intro B) | (refine ZaK (fun w hR=>?_); first | (go_at_call 61; refine (Zbh x.lo r.lo).mono ?_; rintro e w' ⟨rfl,hb⟩; refine ⟨_,rfl,hb,dn ?_⟩; clear hR hb)))); refine Zcg ?_; intro w hR; have hF:=hR.fx; try simp only [List.drop_succ_cons,List.drop_zero]
       go_wp2_with fail
       go_roundw
       case rel=>exact ⟨j,rfl,by omega,Lib.hid (fun i y hi hy=>by
        by_cases hij:i=j
        ·subst hij; rw [Hx.out] at hy; obtain rfl:=Option.some.inj hy; exact (Xw _ _).1 hc
        ·exact hA.out i y (by omega) hy),hR.sub Y1 Y1⟩
       case measure=>simp [intOf] <;> omega
      ·have Hx0:Hid (r.lo.lt x.lo=false):=Lib.hid (Bool.eq_false_iff.2 fun hq=>hc ((Xw _ _).2 hq))
       go_upto_region 7 with fail
       refine YJ 16 (0::1::2::3::4::5::6::7::8::9::10::11::12::13::14::15::[]) [14] hR mixed (by kernel_rfl) ?_; (try clear hF); clear hR; (repeat (first | (refine Zbv rfl rfl rfl rfl hO ZdA.out rfl (by exact inferInstance) (by exact rfl) Hl4.out Hv.out (by simp only [Act.put,List.setIfInBounds_toArray,List.set_cons_zero,List.set_cons_succ,ldW,if_true,Bool.false_eq_true,if_false,List.headD_cons]; exact rfl) ?_) | (refine dk ?_; intro B) | (refine ZaK (fun w hR=>?_); first | (go_at_call 61; refine (Zbh x.lo r.lo).mono ?_; rintro e w' ⟨rfl,hb⟩; refine ⟨_,rfl,hb,dn ?_⟩; clear hR hb)))); refine Zcg ?_; intro w hR; have hF:=hR.fx; try simp only [List.drop_succ_cons,List.drop_zero]
       have hwr1:IntKind.i64.wrap (((j:Int)+1)+1)=((j:Int)+1)+1:=IntWalk.i64_in _ (by omega)
       go_upto_region 10 with (first | (refine Zb1 hR rfl rfl rfl rfl rfl (hO) (At.rd hR UpI.at rfl) ?_; (try clear hF); clear hR; intro v sl w hO hR; have hF:=hR.fx) | (refine Xj hR ?_) | (refine Xk hR ?_; (try clear hF); clear hR; intro w hR; have hF:=hR.fx) | (refine Ym hR ?_; (try clear hF); clear hR; intro w B9 hR; have hF:=hR.fx))
       have hz:ZI out++[.string ⟨#[]⟩,.bool false,.string ⟨#[]⟩,.bool false]=ZI (out++[zr]):=by simp [ZI,Rng.vals,zr,zb]
       rw [hz] at hO
       clear hz
       obtain ⟨g,c3,rfl,hc3⟩:=hO.val1 (by omega)
       have hi1:(0:Int)≤((j:Int)+1)+1:=by omega
       have hi2:((j:Int)+1)+1≤(m:Int)+1:=by omega
       have hi3:(0:Int)≤((j:Int)+1):=by omega
       have hi4:((j:Int)+1)≤(m:Int)+1:=by omega
       have hi5:((j:Int)+1)<(m:Int)+1:=by omega
       refine YJ 7 (0::1::2::3::4::5::6::[]) [] hR mixed (by kernel_rfl) ?_; (try clear hF); clear hR; (repeat (first | (refine Zcp (lo:=(j+1)+1) rfl rfl rfl rfl rfl rfl (by exact inferInstance) (by omega) (by omega) ?_; intro o1 ho1; refine dn ?_) | (refine Zcp (lo:=(j+1)) rfl rfl rfl rfl rfl rfl (by exact inferInstance) (by omega) (by omega) ?_; intro o2 ho2; refine dn ?_) | (refine dk ?_; intro B))); refine Zcg ?_; intro w hR; have hF:=hR.fx; try simp only [List.drop_succ_cons,List.drop_zero]
       go_wp2_with (first | (refine Zel (i:=(j+1)) hR rfl rfl rfl rfl rfl (by exact inferInstance) (Zfa _) hO ZdA.out ⟨by omega,by omega,fun hh=>by have:=ho1.out (by omega); omega,fun hh=>by have:=ho2.out (by omega); omega⟩ ?_; (try clear hF); clear hR; intro sl w hO hR; have hF:=hR.fx; refine dn ?_) | (refine ZbA hR rfl rfl rfl hO ZdA.out rfl rfl (by exact inferInstance) (by simp only [List.length_append,List.length_take,List.length_drop,ZR,List.length_singleton,Hm.out]; omega) (by exact rfl) ?_; (try clear hF); clear hR; intro sl w hO hR; (try simp only [List.cons_append,List.nil_append] at hR); have hF:=hR.fx) | (refine Xj hR ?_) | (refine Xk hR ?_; (try clear hF); clear hR; intro w hR; have hF:=hR.fx) | (refine Ym hR ?_; (try clear hF); clear hR; intro w B hR; have hF:=hR.fx))
       have hst:stL ((j+1) * 4) [.string r.lo.key,.bool r.lo.top,.string r.hi.key,.bool r.hi.top] ((ZI (out++[zr])).take (((j+1)+1) * 4)++((ZI (out++[zr])).drop ((j+1) * 4)).take ((m+1 - ((j+1)+1)) * 4))=ZI (out.take (j+1)++r::out.drop (j+1)):=by
        rw [ZcN,ZhW,ZcN,← ZfZ,show m+1 - ((j+1)+1)=m - (j+1) by omega]
        exact (Zfg r _ (j+1) (by simp [Hm.out]; omega)).trans (by rw [ZlV Hm.out (by omega)])
       rw [hst] at hO
       clear hst
       have hlen:(out.take (j+1)++r::out.drop (j+1)).length=m+1:=by simp [Hm.out]; omega
       go_roundw
       case rel =>
        refine ⟨k+1,out.take (j+1)++r::out.drop (j+1),sl,by go_num,by omega,by rw [hlen]; exact hO,Lib.hid ?_,Lib.hid ?_,hR.sub Y1 Y1⟩
        ·rw [Hr.out,List.filter_append,List.filter_cons_of_pos (by simp [ne,he]),List.filter_nil]
         exact Zmi.trans (hP.out.append_right [r])
        ·exact Zpm hS.out hA.out (fun y hy0 hy=>by rw [show j+1 - 1=j by omega,Hx.out] at hy; obtain rfl:=Option.some.inj hy; exact Hx0.out) (by rw [Hm.out]; omega)
       case measure=>simp [intOf] <;> omega
     ·have hnj:¬ ((0:Int)<(j:Int)):=by omega
      go_upto_region 7 with fail
      refine YJ 16 (0::1::2::3::4::5::6::7::8::9::10::11::12::13::14::15::[]) [14] hR mixed (by kernel_rfl) ?_; (try clear hF); clear hR; (repeat (first | (refine dk ?_; intro B) | (refine ZaK (fun w hR=>?_); first | (go_at_call 61; refine (Zbh r.lo r.lo).mono ?_; rintro e w' ⟨rfl,hb⟩; refine ⟨_,rfl,hb,dn ?_⟩; clear hR hb)))); refine Zcg ?_; intro w hR; have hF:=hR.fx; try simp only [List.drop_succ_cons,List.drop_zero]
      have hwr1:IntKind.i64.wrap ((j:Int)+1)=(j:Int)+1:=IntWalk.i64_in _ (by omega)
      go_upto_region 10 with (first | (refine Zb1 hR rfl rfl rfl rfl rfl (hO) (At.rd hR UpI.at rfl) ?_; (try clear hF); clear hR; intro v sl w hO hR; have hF:=hR.fx) | (refine Xj hR ?_) | (refine Xk hR ?_; (try clear hF); clear hR; intro w hR; have hF:=hR.fx) | (refine Ym hR ?_; (try clear hF); clear hR; intro w B9 hR; have hF:=hR.fx))
      have hz:ZI out++[.string ⟨#[]⟩,.bool false,.string ⟨#[]⟩,.bool false]=ZI (out++[zr]):=by simp [ZI,Rng.vals,zr,zb]
      rw [hz] at hO
      clear hz
      obtain ⟨g,c3,rfl,hc3⟩:=hO.val1 (by omega)
      have hi1:(0:Int)≤(j:Int)+1:=by omega
      have hi2:(j:Int)+1≤(m:Int)+1:=by omega
      have hi3:(0:Int)≤(j:Int):=by omega
      have hi4:(j:Int)≤(m:Int)+1:=by omega
      have hi5:(j:Int)<(m:Int)+1:=by omega
      refine YJ 7 (0::1::2::3::4::5::6::[]) [] hR mixed (by kernel_rfl) ?_; (try clear hF); clear hR; (repeat (first | (refine Zcp (lo:=j+1) rfl rfl rfl rfl rfl rfl (by exact inferInstance) (by omega) (by omega) ?_; intro o1 ho1; refine dn ?_) | (refine Zcp (lo:=j) rfl rfl rfl rfl rfl rfl (by exact inferInstance) (by omega) (by omega) ?_; intro o2 ho2; refine dn ?_) | (refine dk ?_; intro B))); refine Zcg ?_; intro w hR; have hF:=hR.fx; try simp only [List.drop_succ_cons,List.drop_zero]
      go_wp2_with (first | (refine Zel (i:=j) hR rfl rfl rfl rfl rfl (by exact inferInstance) (Zfa _) hO ZdA.out ⟨by omega,by omega,fun hh=>by have:=ho1.out (by omega); omega,fun hh=>by have:=ho2.out (by omega); omega⟩ ?_; (try clear hF); clear hR; intro sl w hO hR; have hF:=hR.fx; refine dn ?_) | (refine ZbA hR rfl rfl rfl hO ZdA.out rfl rfl (by exact inferInstance) (by simp only [List.length_append,List.length_take,List.length_drop,ZR,List.length_singleton,Hm.out]; omega) (by exact rfl) ?_; (try clear hF); clear hR; intro sl w hO hR; (try simp only [List.cons_append,List.nil_append] at hR); have hF:=hR.fx) | (refine Xj hR ?_) | (refine Xk hR ?_; (try clear hF); clear hR; intro w hR; have hF:=hR.fx) | (refine Ym hR ?_; (try clear hF); clear hR; intro w B hR; have hF:=hR.fx))
      have hst:stL (j * 4) [.string r.lo.key,.bool r.lo.top,.string r.hi.key,.bool r.hi.top] ((ZI (out++[zr])).take ((j+1) * 4)++((ZI (out++[zr])).drop (j * 4)).take ((m+1 - (j+1)) * 4))=ZI (out.take j++r::out.drop j):=by
       rw [ZcN,ZhW,ZcN,← ZfZ,show m+1 - (j+1)=m - j by omega]
       exact (Zfg r _ j (by simp [Hm.out]; omega)).trans (by rw [ZlV Hm.out (by omega)])
      rw [hst] at hO
      clear hst
      have hlen:(out.take j++r::out.drop j).length=m+1:=by simp [Hm.out]; omega
      go_roundw
      case rel =>
       refine ⟨k+1,out.take j++r::out.drop j,sl,by go_num,by omega,by rw [hlen]; exact hO,Lib.hid ?_,Lib.hid ?_,hR.sub Y1 Y1⟩
       ·rw [Hr.out,List.filter_append,List.filter_cons_of_pos (by simp [ne,he]),List.filter_nil]
        exact Zmi.trans (hP.out.append_right [r])
       ·exact Zpm hS.out hA.out (fun y hy0 hy=>absurd hy0 hj) (by rw [Hm.out]; omega)
      case measure=>simp [intOf] <;> omega
   ·go_wp2_with (first | (refine Xj hR ?_) | (refine Xk hR ?_; (try clear hF); clear hR; intro w hR; have hF:=hR.fx) | (refine Ym hR ?_; (try clear hF); clear hR; intro w B hR; have hF:=hR.fx) | (go_at_call 71; refine (Zjm r).mono ?_; rintro e w ⟨rfl,hb⟩; replace hR:=hR.kp0 hb; (try clear hF); clear hb; have hF:=hR.fx))
    go_roundw
    case rel=>exact ⟨k+1,out,slo,by go_num,by omega,hO,Lib.hid (by rw [Hr.out,List.filter_append,List.filter_cons_of_neg (by simp [ne,he]),List.filter_nil,List.append_nil]; exact hP.out),hS,hR.sub Y1 Y1⟩
    case measure=>simp [intOf] <;> omega
  ·obtain rfl:k=n:=by omega
   have hpl:out.Perm (l.filter ne):=by have:=hP.out; rwa [List.take_of_length_le (by rw [Hl.out]; exact Nat.le_refl _)] at this
   have hm:out.length≤k:=by rw [hpl.length_eq,← Hl.out]; exact List.length_filter_le _ _
   have Ht:=Lib.hid (Hu.out out hpl hS.out)
   have hrw:=hO.rw hR ZdA.out
   have hk1:=hR.kp_nof
   replace hR:=hR.rebase0
   clear hO hS hP Hu hpl hrl h1
   obtain ⟨m,hmm⟩:∃ m,m=out.length:=⟨_,rfl⟩
   have Hm:=Lib.hid hmm
   rw [← hmm] at hrw hm
   obtain ⟨q,cc,hv⟩:∃ q cc,u3=.slice q m cc:=by obtain ⟨q,cc,e,-⟩:=hrw.ex; exact ⟨q,cc,e⟩
   subst hv
   clear hmm
   generalize wr=w1 at hR hk1 hrw
   clear hF
   have hF:=hR.fx
   go_wp2_with fail
   go_loopw [6,7] (fun v i wr=>∃ k:Nat,∃ os slo,i=.int .i64 k∧k≤m∧OS slo 72 4 v os.length (ZI os)∧Hid (Mrg os (out.drop k) tot)∧Hid (os.length≤k)∧Rep w1 nof [] slo wr) (fun _ i _=>m - (intOf i).toNat)
   case atStart=>exact ⟨0,[],[],rfl,Nat.zero_le _,OS.nil _ _,Lib.hid (.inl ⟨rfl,by rw [List.drop_zero]; exact Ht.out⟩),Lib.hid (Nat.le_refl _),hR⟩
   case round =>
    obtain ⟨k,os,slo,rfl,hkm,hO,hM,hok,hR⟩:=hrel
    have hF:=hR.fx
    by_cases hlt:k<m
    ·have hlt':(k:Int)<(m:Int):=by omega
     have hk0:(0:Int)≤(k:Int):=by omega
     obtain ⟨r,hr⟩:∃ r,out[k]?=some r:=⟨out[k]'(by rw [← Hm.out]; exact hlt),List.getElem?_eq_getElem _⟩
     obtain ⟨b,o,rfl,hR⟩:=hrw.elem rvz (by decide) hr hR
     have hdr:out.drop k=r::out.drop (k+1):=by
      obtain ⟨g1,g2⟩:=List.getElem?_eq_some_iff.1 hr
      rw [List.drop_eq_getElem_cons g1,g2]
     have Hd:=Lib.hid hdr
     clear hdr hr
     simp only [Rng.vals] at hR
     have hF:=hR.fx
     rcases hM.out with ⟨hout,htot⟩ | ⟨done,cur,hout,htot⟩
     ·subst hout
      have Hg:Hid (Mrg [r] (out.drop (k+1)) tot):=Lib.hid (.inr ⟨[],r,rfl,by rw [← htot,Hd.out]; rfl⟩)
      clear hM htot Hd
      obtain ⟨q2,c2,rfl⟩:=hO.val
      simp only [List.length_nil] at hO ⊢
      go_upto_region 17 with (first | (refine Xj hR ?_) | (refine Xk hR ?_; (try clear hF); clear hR; intro w hR; have hF:=hR.fx) | (refine Ym hR ?_; (try clear hF); clear hR; intro w B hR; have hF:=hR.fx))
      refine YJ 16 (0::1::2::3::4::5::6::7::8::9::10::11::12::13::14::15::[]) [14] hR mixed (by kernel_rfl) ?_; (try clear hF); clear hR; (repeat (first | (refine dk ?_; intro B) | (refine ZaK (fun w hR=>?_); first | (go_at_call 61; refine (Zbh r.lo r.hi).mono ?_; rintro e w' ⟨rfl,hb⟩; refine ⟨_,rfl,hb,dn ?_⟩; clear hR hb)))); refine Zcg ?_; intro w hR; have hF:=hR.fx; try simp only [List.drop_succ_cons,List.drop_zero]
      go_wp2_with (first | (refine Zb1 hR rfl rfl rfl rfl rfl (hO) (At.rd hR UpI.at rfl) ?_; (try clear hF); clear hR; intro v sl w hO hR; have hF:=hR.fx) | (refine Xj hR ?_) | (refine Xk hR ?_; (try clear hF); clear hR; intro w hR; have hF:=hR.fx) | (refine Ym hR ?_; (try clear hF); clear hR; intro w B hR; have hF:=hR.fx))
      go_roundw
      case rel=>exact ⟨k+1,[r],sl,by go_num,by omega,by simpa [ZI,Rng.vals] using hO,Hg,Lib.hid (by simp),hR.sub Y1 Y1⟩
      case measure=>simp [intOf] <;> omega
     ·subst hout
      obtain ⟨d,hd⟩:∃ d,done.length=d:=⟨_,rfl⟩
      obtain ⟨g,c2,rfl,hc2⟩:=hO.val1 (by simp)
      have hlen:(done++[cur]).length=d+1:=by simp [hd]
      rw [hlen] at hO hc2 ⊢
      have hok':=hok.out
      rw [hlen] at hok'
      have Hv:=Lib.hid (Zo8 (cur:=cur) hd)
      have Hl4:Hid (d * 4+2+2≤(ZI (done++[cur])).length):=Lib.hid (by rw [ZR,hlen]; omega)
      have hdp:(0:Int)<(d:Int)+1:=by omega
      have hdd:(d:Int)<(d:Int)+1:=by omega
      have hd0:(0:Int)≤(d:Int):=by omega
      have hwr:IntKind.i64.wrap (d:Int)=d:=IntWalk.i64_in _ (by omega)
      by_cases hj:cmp r.lo cur.hi≤0
      ·have Hg:Hid (Mrg (done++[⟨cur.lo,greater cur.hi r.hi⟩]) (out.drop (k+1)) tot):=Lib.hid (.inr ⟨done,_,rfl,by rw [← htot,Hd.out,Zl0 hj]⟩)
       clear hM htot Hd
       go_upto_region 17 with (first | (refine Xj hR ?_) | (refine Xk hR ?_; (try clear hF); clear hR; intro w hR; have hF:=hR.fx) | (refine Ym hR ?_; (try clear hF); clear hR; intro w B hR; have hF:=hR.fx))
       refine YJ 16 (0::1::2::3::4::5::6::7::8::9::10::11::12::13::14::15::[]) [14] hR mixed (by kernel_rfl) ?_; (try clear hF); clear hR; (repeat (first | (refine Zbv rfl rfl rfl rfl hO ZdA.out rfl (by exact inferInstance) (by exact rfl) Hl4.out Hv.out (by simp only [Act.put,List.setIfInBounds_toArray,List.set_cons_zero,List.set_cons_succ,ldW,if_true,Bool.false_eq_true,if_false,List.headD_cons]; exact rfl) ?_) | (refine dk ?_; intro B) | (refine ZaK (fun w hR=>?_); first | (go_at_call 61; refine (Zbh r.lo cur.hi).mono ?_; rintro e w' ⟨rfl,hb⟩; refine ⟨_,rfl,hb,dn ?_⟩; clear hR hb)))); refine Zcg ?_; intro w hR; have hF:=hR.fx; try simp only [List.drop_succ_cons,List.drop_zero]
       go_upto_region 18 with (first | (refine Xj hR ?_) | (refine Xk hR ?_; (try clear hF); clear hR; intro w hR; have hF:=hR.fx) | (refine Ym hR ?_; (try clear hF); clear hR; intro w B hR; have hF:=hR.fx))
       refine YJ 17 (0::1::2::3::4::5::6::7::8::9::10::11::12::13::14::15::16::[]) [14] hR mixed (by kernel_rfl) ?_; (try clear hF); clear hR; (repeat (first | (refine Zbv rfl rfl rfl rfl hO ZdA.out rfl (by exact inferInstance) (by exact rfl) Hl4.out Hv.out (by simp only [Act.put,List.setIfInBounds_toArray,List.set_cons_zero,List.set_cons_succ,ldW,if_true,Bool.false_eq_true,if_false,List.headD_cons]; exact rfl) ?_) | (refine dk ?_; intro B) | (refine ZaK (fun w hR=>?_); first | (go_at_call 72; refine (Zkd cur.hi r.hi).mono ?_; rintro e w' ⟨rfl,hb⟩; refine ⟨_,rfl,hb,dn ?_⟩; clear hR hb)))); refine Zcg ?_; intro w hR; have hF:=hR.fx; try simp only [List.drop_succ_cons,List.drop_zero]
       go_wp2_with (first | (refine ZbA hR rfl rfl rfl hO ZdA.out rfl rfl (by exact inferInstance) Hl4.out (by exact rfl) ?_; (try clear hF); clear hR; intro sl w hO hR; (try simp only [List.cons_append,List.nil_append] at hR); have hF:=hR.fx) | (refine Xj hR ?_) | (refine Xk hR ?_; (try clear hF); clear hR; intro w hR; have hF:=hR.fx) | (refine Ym hR ?_; (try clear hF); clear hR; intro w B hR; have hF:=hR.fx))
       have hst:stL (d * 4+2) [.string (greater cur.hi r.hi).key,.bool (greater cur.hi r.hi).top] (ZI (done++[cur]))=ZI (done++[⟨cur.lo,greater cur.hi r.hi⟩]):=by
        rw [ZdQ _ _ _ cur (by rw [← hd]; simp),← hd]; simp
       rw [hst] at hO
       go_roundw
       case rel=>exact ⟨k+1,_,sl,by go_num,by omega,by simpa [hd] using hO,Hg,Lib.hid (by simp [hd]; omega),by simpa only [List.append_nil] using hR.sub Y1 Y1⟩
       case measure=>simp [intOf] <;> omega
      ·have Hg:Hid (Mrg ((done++[cur])++[r]) (out.drop (k+1)) tot):=Lib.hid (.inr ⟨done++[cur],r,rfl,by rw [← htot,Hd.out,Zmk hj,List.append_assoc]; rfl⟩)
       clear hM htot Hd
       go_upto_region 17 with (first | (refine Xj hR ?_) | (refine Xk hR ?_; (try clear hF); clear hR; intro w hR; have hF:=hR.fx) | (refine Ym hR ?_; (try clear hF); clear hR; intro w B hR; have hF:=hR.fx))
       refine YJ 16 (0::1::2::3::4::5::6::7::8::9::10::11::12::13::14::15::[]) [14] hR mixed (by kernel_rfl) ?_; (try clear hF); clear hR; (repeat (first | (refine Zbv rfl rfl rfl rfl hO ZdA.out rfl (by exact inferInstance) (by exact rfl) Hl4.out Hv.out (by simp only [Act.put,List.setIfInBounds_toArray,List.set_cons_zero,List.set_cons_succ,ldW,if_true,Bool.false_eq_true,if_false,List.headD_cons]; exact rfl) ?_) | (refine dk ?_; intro B) | (refine ZaK (fun w hR=>?_); first | (go_at_call 61; refine (Zbh r.lo cur.hi).mono ?_; rintro e w' ⟨rfl,hb⟩; refine ⟨_,rfl,hb,dn ?_⟩; clear hR hb)))); refine Zcg ?_; intro w hR; have hF:=hR.fx; try simp only [List.drop_succ_cons,List.drop_zero]
       go_wp2_with (first | (refine Zb1 hR rfl rfl rfl rfl rfl (hO) (At.rd hR UpI.at rfl) ?_; (try clear hF); clear hR; intro v sl w hO hR; have hF:=hR.fx) | (refine Xj hR ?_) | (refine Xk hR ?_; (try clear hF); clear hR; intro w hR; have hF:=hR.fx) | (refine Ym hR ?_; (try clear hF); clear hR; intro w B hR; have hF:=hR.fx))
       go_roundw
       case rel=>exact ⟨k+1,(done++[cur])++[r],sl,by go_num,by omega,by simpa [hd,ZI,Rng.vals] using hO,Hg,Lib.hid (by simp [hd]; omega),hR.sub Y1 Y1⟩
       case measure=>simp [intOf] <;> omega
    ·obtain rfl:k=m:=by omega
     have hf:os=tot:=by
      rcases hM.out with ⟨h1,h2⟩ | ⟨done,cur,h1,h2⟩
      ·rw [h1,← h2,List.drop_eq_nil_of_le (by rw [Hm.out]; exact Nat.le_refl _)]; rfl
      ·rw [h1,← h2,List.drop_eq_nil_of_le (by rw [Hm.out]; exact Nat.le_refl _)]; rfl
     subst hf
     go_wp2_with (first | (refine Xj hR ?_) | (refine Xk hR ?_; (try clear hF); clear hR; intro w hR; have hF:=hR.fx) | (refine Ym hR ?_; (try clear hF); clear hR; intro w B hR; have hF:=hR.fx))
     go_ret
     exact ⟨_,_,rfl,hO,hR.back hk1⟩
end Go.Proofs.YtkcmgbbopedacaaGreatDoor
