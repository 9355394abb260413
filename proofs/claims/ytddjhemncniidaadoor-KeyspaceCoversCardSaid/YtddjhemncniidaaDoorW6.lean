/-
  Intersect, Hull and Empty told over ranges.
-/
import Derived.Test.YtddjhemncniidaaDoorW3
namespace Go.Proofs.YtddjhemncniidaaDoor
set_option linter.unusedSimpArgs false
set_option linter.unusedVariables false
open Go.RowKit

/-- As nameWorld, where the world is first written in another way. -/
theorem nameWorldE {P : Program} {c : Code} {Q : Exit → Act → World → Prop} {a : Act} {W W1 : World} (e : W = W1) (F : World → Prop) (hF : F W1) (h : ∀ W0, F W0 → c.wp P Q a W0) : c.wp P Q a W := e ▸ h W1 hF

theorem intersect_p_v {x y z : Rng} {w : World} (h : Hid (isect x y = z)) :
    Calls Tryd.prog 28 #[.agg #[.string x.lo.key, .bool x.lo.top, .string x.hi.key, .bool x.hi.top], .agg #[.string y.lo.key, .bool y.lo.top, .string y.hi.key, .bool y.hi.top]] w fun e w' => e = .returned (.agg #[.string z.lo.key, .bool z.lo.top, .string z.hi.key, .bool z.hi.top]) ∧ Kp [] w w' :=
  intersect_p.mono fun _ _ ⟨m, he, hm, hk⟩ => by have := hm.out; have h2 := h.out; subst this; subst h2; exact ⟨he, hk⟩
theorem intersect_r_v {x y z : Rng} {w : World} (h : Hid (isect x y = z)) :
    Calls Tryd.prog 51 #[.agg #[.string x.lo.key, .bool x.lo.top, .string x.hi.key, .bool x.hi.top], .agg #[.string y.lo.key, .bool y.lo.top, .string y.hi.key, .bool y.hi.top]] w fun e w' => e = .returned (.agg #[.string z.lo.key, .bool z.lo.top, .string z.hi.key, .bool z.hi.top]) ∧ Kp [] w w' :=
  intersect_r.mono fun _ _ ⟨m, he, hm, hk⟩ => by have := hm.out; have h2 := h.out; subst this; subst h2; exact ⟨he, hk⟩
theorem hull_p_v {x y z : Rng} {w : World} (h : Hid (hull x y = z)) :
    Calls Tryd.prog 29 #[.agg #[.string x.lo.key, .bool x.lo.top, .string x.hi.key, .bool x.hi.top], .agg #[.string y.lo.key, .bool y.lo.top, .string y.hi.key, .bool y.hi.top]] w fun e w' => e = .returned (.agg #[.string z.lo.key, .bool z.lo.top, .string z.hi.key, .bool z.hi.top]) ∧ Kp [] w w' :=
  hull_p.mono fun _ _ ⟨m, he, hm, hk⟩ => by have := hm.out; have h2 := h.out; subst this; subst h2; exact ⟨he, hk⟩
theorem hull_r_v {x y z : Rng} {w : World} (h : Hid (hull x y = z)) :
    Calls Tryd.prog 52 #[.agg #[.string x.lo.key, .bool x.lo.top, .string x.hi.key, .bool x.hi.top], .agg #[.string y.lo.key, .bool y.lo.top, .string y.hi.key, .bool y.hi.top]] w fun e w' => e = .returned (.agg #[.string z.lo.key, .bool z.lo.top, .string z.hi.key, .bool z.hi.top]) ∧ Kp [] w w' :=
  hull_r.mono fun _ _ ⟨m, he, hm, hk⟩ => by have := hm.out; have h2 := h.out; subst this; subst h2; exact ⟨he, hk⟩
theorem empty_p_v {x : Rng} {w : World} :
    Calls Tryd.prog 42 #[.agg #[.string x.lo.key, .bool x.lo.top, .string x.hi.key, .bool x.hi.top]] w fun e w' => e = .returned (.bool (emp x)) ∧ Kp [] w w' := empty_p
theorem empty_r_v {x : Rng} {w : World} :
    Calls Tryd.prog 27 #[.agg #[.string x.lo.key, .bool x.lo.top, .string x.hi.key, .bool x.hi.top]] w fun e w' => e = .returned (.bool (emp x)) ∧ Kp [] w w' := empty_r
end Go.Proofs.YtddjhemncniidaaDoor
