/- The Edwards curve: associativity (pure; printed by wip/genVEf.py). -/
import Derived.Test.YtihnagafldpbnaaVEe
set_option linter.unusedVariables false
set_option linter.unusedSimpArgs false
namespace Go.Proofs.Ytihnagafldpbnaa.V
open Go.RowKit
set_option maxHeartbeats 80000000
set_option maxRecDepth 100000
theorem assoc_x (x1 y1 x2 y2 x3 y3 d : Int) : (x3 * (x1 * x2 + y1 * y2) * (d * x1 * x2 * y1 * y2 + 1) + y3 * (x1 * y2 + x2 * y1) * (-d * x1 * x2 * y1 * y2 + 1)) * (d * x1 * y1 * (x2 * x3 + y2 * y3) * (x2 * y3 + x3 * y2) + (-d * x2 * x3 * y2 * y3 + 1) * (d * x2 * x3 * y2 * y3 + 1)) - (x1 * (x2 * x3 + y2 * y3) * (d * x2 * x3 * y2 * y3 + 1) + y1 * (x2 * y3 + x3 * y2) * (-d * x2 * x3 * y2 * y3 + 1)) * (d * x3 * y3 * (x1 * x2 + y1 * y2) * (x1 * y2 + x2 * y1) + (-d * x1 * x2 * y1 * y2 + 1) * (d * x1 * x2 * y1 * y2 + 1)) = (-d * x2 * y2 * (d * x1 * x2^3 * x3^2 * y2^2 * y3 + d * x1 * x2^2 * x3 * y2^3 * y3^2 - d * x2^3 * x3 * y1 * y2^2 * y3^2 - d * x2^2 * x3^2 * y1 * y2^3 * y3 + x1 * x2^3 * x3^2 * y3 + x1 * x2^2 * x3^3 * y2 + x1 * x2^2 * x3 * y2 - x1 * x2 * y2^2 * y3^3 + x1 * x2 * y2^2 * y3 - x1 * x3 * y2^3 * y3^2 - x2^3 * x3 * y1 * y3^2 - x2^2 * y1 * y2 * y3^3 + x2^2 * y1 * y2 * y3 + x2 * x3^3 * y1 * y2^2 + x2 * x3 * y1 * y2^2 + x3^2 * y1 * y2^3 * y3)) * (-x1^2 + y1^2 - 1 - d * x1^2 * y1^2) + (d^2 * x1^2 * x2^2 * x3^3 * y1 * y2 * y3^2 - d^2 * x1^2 * x2 * x3^2 * y1 * y2^2 * y3^3 - d^2 * x1 * x2^2 * x3^2 * y1^2 * y2 * y3^3 + d^2 * x1 * x2 * x3^3 * y1^2 * y2^2 * y3^2 + d * x1^3 * x2^2 * x3^2 * y2 * y3 + d * x1^3 * x2 * x3^3 * y3^2 + d * x1^3 * x2 * x3 * y2^2 * y3^2 + d * x1^3 * x3^2 * y2 * y3^3 - d * x1^2 * x2^2 * x3 * y1 * y2 * y3^2 - d * x1^2 * x2 * x3^2 * y1 * y2^2 * y3 + d * x1^2 * x2 * x3^2 * y1 * y3^3 + d * x1^2 * x3^3 * y1 * y2 * y3^2 - d * x1 * x2^2 * x3^2 * y1^2 * y2 * y3 + d * x1 * x2^2 * x3^2 * y2 * y3 - d * x1 * x2 * x3^3 * y1^2 * y3^2 + d * x1 * x2 * x3^3 * y3^2 - d * x1 * x2 * x3 * y1^2 * y2^2 * y3^2 + d * x1 * x2 * x3 * y2^2 * y3^2 - d * x1 * x3^2 * y1^2 * y2 * y3^3 + d * x1 * x3^2 * y2 * y3^3 + d * x2^2 * x3 * y1^3 * y2 * y3^2 - d * x2^2 * x3 * y1 * y2 * y3^2 + d * x2 * x3^2 * y1^3 * y2^2 * y3 - d * x2 * x3^2 * y1^3 * y3^3 - d * x2 * x3^2 * y1 * y2^2 * y3 + d * x2 * x3^2 * y1 * y3^3 - d * x3^3 * y1^3 * y2 * y3^2 + d * x3^3 * y1 * y2 * y3^2 + x1^3 * x2 * x3^3 - x1^3 * x2 * x3 * y3^2 + x1^3 * x2 * x3 + x1^3 * x3^2 * y2 * y3 - x1^3 * y2 * y3^3 + x1^3 * y2 * y3 + x1^2 * x2 * x3^2 * y1 * y3 - x1^2 * x2 * y1 * y3^3 + x1^2 * x2 * y1 * y3 + x1^2 * x3^3 * y1 * y2 - x1^2 * x3 * y1 * y2 * y3^2 + x1^2 * x3 * y1 * y2 - x1 * x2 * x3^3 * y1^2 + x1 * x2 * x3^3 + x1 * x2 * x3 * y1^2 * y3^2 - x1 * x2 * x3 * y1^2 - x1 * x2 * x3 * y3^2 + x1 * x2 * x3 - x1 * x3^2 * y1^2 * y2 * y3 + x1 * x3^2 * y2 * y3 + x1 * y1^2 * y2 * y3^3 - x1 * y1^2 * y2 * y3 - x1 * y2 * y3^3 + x1 * y2 * y3 - x2 * x3^2 * y1^3 * y3 + x2 * x3^2 * y1 * y3 + x2 * y1^3 * y3^3 - x2 * y1^3 * y3 - x2 * y1 * y3^3 + x2 * y1 * y3 - x3^3 * y1^3 * y2 + x3^3 * y1 * y2 + x3 * y1^3 * y2 * y3^2 - x3 * y1^3 * y2 - x3 * y1 * y2 * y3^2 + x3 * y1 * y2) * (-x2^2 + y2^2 - 1 - d * x2^2 * y2^2) + (-d * x1^2 * x2^2 * x3 * y1 * y2 + d * x1^2 * x2 * y1 * y2^2 * y3 + d * x1 * x2^2 * y1^2 * y2 * y3 - d * x1 * x2 * x3 * y1^2 * y2^2 - x1^3 * x2^3 * x3 - x1^3 * x2^2 * y2 * y3 + x1^3 * x2 * x3 * y2^2 - x1^3 * x2 * x3 + x1^3 * y2^3 * y3 - x1^3 * y2 * y3 - x1^2 * x2^3 * y1 * y3 - x1^2 * x2^2 * x3 * y1 * y2 + x1^2 * x2 * y1 * y2^2 * y3 - x1^2 * x2 * y1 * y3 + x1^2 * x3 * y1 * y2^3 - x1^2 * x3 * y1 * y2 + x1 * x2^3 * x3 * y1^2 - x1 * x2^3 * x3 + x1 * x2^2 * y1^2 * y2 * y3 - x1 * x2^2 * y2 * y3 - x1 * x2 * x3 * y1^2 * y2^2 + x1 * x2 * x3 * y1^2 + x1 * x2 * x3 * y2^2 - x1 * x2 * x3 - x1 * y1^2 * y2^3 * y3 + x1 * y1^2 * y2 * y3 + x1 * y2^3 * y3 - x1 * y2 * y3 + x2^3 * y1^3 * y3 - x2^3 * y1 * y3 + x2^2 * x3 * y1^3 * y2 - x2^2 * x3 * y1 * y2 - x2 * y1^3 * y2^2 * y3 + x2 * y1^3 * y3 + x2 * y1 * y2^2 * y3 - x2 * y1 * y3 - x3 * y1^3 * y2^3 + x3 * y1^3 * y2 + x3 * y1 * y2^3 - x3 * y1 * y2) * (-x3^2 + y3^2 - 1 - d * x3^2 * y3^2) := by grind
theorem assoc_y (x1 y1 x2 y2 x3 y3 d : Int) : (x3 * (x1 * y2 + x2 * y1) * (-d * x1 * x2 * y1 * y2 + 1) + y3 * (x1 * x2 + y1 * y2) * (d * x1 * x2 * y1 * y2 + 1)) * (-d * x1 * y1 * (x2 * x3 + y2 * y3) * (x2 * y3 + x3 * y2) + (-d * x2 * x3 * y2 * y3 + 1) * (d * x2 * x3 * y2 * y3 + 1)) - (x1 * (x2 * y3 + x3 * y2) * (-d * x2 * x3 * y2 * y3 + 1) + y1 * (x2 * x3 + y2 * y3) * (d * x2 * x3 * y2 * y3 + 1)) * (-d * x3 * y3 * (x1 * x2 + y1 * y2) * (x1 * y2 + x2 * y1) + (-d * x1 * x2 * y1 * y2 + 1) * (d * x1 * x2 * y1 * y2 + 1)) = (d * x2 * y2 * (d * x1 * x2^3 * x3 * y2^2 * y3^2 + d * x1 * x2^2 * x3^2 * y2^3 * y3 - d * x2^3 * x3^2 * y1 * y2^2 * y3 - d * x2^2 * x3 * y1 * y2^3 * y3^2 + x1 * x2^3 * x3 * y3^2 + x1 * x2^2 * y2 * y3^3 - x1 * x2^2 * y2 * y3 - x1 * x2 * x3^3 * y2^2 - x1 * x2 * x3 * y2^2 - x1 * x3^2 * y2^3 * y3 - x2^3 * x3^2 * y1 * y3 - x2^2 * x3^3 * y1 * y2 - x2^2 * x3 * y1 * y2 + x2 * y1 * y2^2 * y3^3 - x2 * y1 * y2^2 * y3 + x3 * y1 * y2^3 * y3^2)) * (-x1^2 + y1^2 - 1 - d * x1^2 * y1^2) + (d^2 * x1^2 * x2^2 * x3^2 * y1 * y2 * y3^3 - d^2 * x1^2 * x2 * x3^3 * y1 * y2^2 * y3^2 - d^2 * x1 * x2^2 * x3^3 * y1^2 * y2 * y3^2 + d^2 * x1 * x2 * x3^2 * y1^2 * y2^2 * y3^3 - d * x1^3 * x2^2 * x3 * y2 * y3^2 - d * x1^3 * x2 * x3^2 * y2^2 * y3 + d * x1^3 * x2 * x3^2 * y3^3 + d * x1^3 * x3^3 * y2 * y3^2 + d * x1^2 * x2^2 * x3^2 * y1 * y2 * y3 + d * x1^2 * x2 * x3^3 * y1 * y3^2 + d * x1^2 * x2 * x3 * y1 * y2^2 * y3^2 + d * x1^2 * x3^2 * y1 * y2 * y3^3 + d * x1 * x2^2 * x3 * y1^2 * y2 * y3^2 - d * x1 * x2^2 * x3 * y2 * y3^2 + d * x1 * x2 * x3^2 * y1^2 * y2^2 * y3 - d * x1 * x2 * x3^2 * y1^2 * y3^3 - d * x1 * x2 * x3^2 * y2^2 * y3 + d * x1 * x2 * x3^2 * y3^3 - d * x1 * x3^3 * y1^2 * y2 * y3^2 + d * x1 * x3^3 * y2 * y3^2 - d * x2^2 * x3^2 * y1^3 * y2 * y3 + d * x2^2 * x3^2 * y1 * y2 * y3 - d * x2 * x3^3 * y1^3 * y3^2 + d * x2 * x3^3 * y1 * y3^2 - d * x2 * x3 * y1^3 * y2^2 * y3^2 + d * x2 * x3 * y1 * y2^2 * y3^2 - d * x3^2 * y1^3 * y2 * y3^3 + d * x3^2 * y1 * y2 * y3^3 + x1^3 * x2 * x3^2 * y3 - x1^3 * x2 * y3^3 + x1^3 * x2 * y3 + x1^3 * x3^3 * y2 - x1^3 * x3 * y2 * y3^2 + x1^3 * x3 * y2 + x1^2 * x2 * x3^3 * y1 - x1^2 * x2 * x3 * y1 * y3^2 + x1^2 * x2 * x3 * y1 + x1^2 * x3^2 * y1 * y2 * y3 - x1^2 * y1 * y2 * y3^3 + x1^2 * y1 * y2 * y3 - x1 * x2 * x3^2 * y1^2 * y3 + x1 * x2 * x3^2 * y3 + x1 * x2 * y1^2 * y3^3 - x1 * x2 * y1^2 * y3 - x1 * x2 * y3^3 + x1 * x2 * y3 - x1 * x3^3 * y1^2 * y2 + x1 * x3^3 * y2 + x1 * x3 * y1^2 * y2 * y3^2 - x1 * x3 * y1^2 * y2 - x1 * x3 * y2 * y3^2 + x1 * x3 * y2 - x2 * x3^3 * y1^3 + x2 * x3^3 * y1 + x2 * x3 * y1^3 * y3^2 - x2 * x3 * y1^3 - x2 * x3 * y1 * y3^2 + x2 * x3 * y1 - x3^2 * y1^3 * y2 * y3 + x3^2 * y1 * y2 * y3 + y1^3 * y2 * y3^3 - y1^3 * y2 * y3 - y1 * y2 * y3^3 + y1 * y2 * y3) * (-x2^2 + y2^2 - 1 - d * x2^2 * y2^2) + (-d * x1^2 * x2^2 * y1 * y2 * y3 + d * x1^2 * x2 * x3 * y1 * y2^2 + d * x1 * x2^2 * x3 * y1^2 * y2 - d * x1 * x2 * y1^2 * y2^2 * y3 - x1^3 * x2^3 * y3 - x1^3 * x2^2 * x3 * y2 + x1^3 * x2 * y2^2 * y3 - x1^3 * x2 * y3 + x1^3 * x3 * y2^3 - x1^3 * x3 * y2 - x1^2 * x2^3 * x3 * y1 - x1^2 * x2^2 * y1 * y2 * y3 + x1^2 * x2 * x3 * y1 * y2^2 - x1^2 * x2 * x3 * y1 + x1^2 * y1 * y2^3 * y3 - x1^2 * y1 * y2 * y3 + x1 * x2^3 * y1^2 * y3 - x1 * x2^3 * y3 + x1 * x2^2 * x3 * y1^2 * y2 - x1 * x2^2 * x3 * y2 - x1 * x2 * y1^2 * y2^2 * y3 + x1 * x2 * y1^2 * y3 + x1 * x2 * y2^2 * y3 - x1 * x2 * y3 - x1 * x3 * y1^2 * y2^3 + x1 * x3 * y1^2 * y2 + x1 * x3 * y2^3 - x1 * x3 * y2 + x2^3 * x3 * y1^3 - x2^3 * x3 * y1 + x2^2 * y1^3 * y2 * y3 - x2^2 * y1 * y2 * y3 - x2 * x3 * y1^3 * y2^2 + x2 * x3 * y1^3 + x2 * x3 * y1 * y2^2 - x2 * x3 * y1 - y1^3 * y2^3 * y3 + y1^3 * y2 * y3 + y1 * y2^3 * y3 - y1 * y2 * y3) * (-x3^2 + y3^2 - 1 - d * x3^2 * y3^2) := by grind
theorem Cg.cancel {a b c : Int} (hc : ¬ Cg c 0) (h : Cg (a * c) (b * c)) : Cg a b := by
  have k : Cg ((a - b) * c) 0 := (h.to_sub).re (by grind) rfl
  rcases k.euc with k | k
  · exact Cg.of_sub k
  · exact absurd k hc
/-- The sum of a sum given as fractions, and a point. -/
theorem left_x {X Y p m u v x3 y3 w : Int} (hp : ¬ Cg p 0) (hm : ¬ Cg m 0) (hu : Cg (u * p) X) (hv : Cg (v * m) Y) (hd : ¬ Cg (1 + dE * u * x3 * v * y3) 0) (hw : Cg (w * (1 + dE * u * x3 * v * y3)) (u * y3 + v * x3)) :
    ¬ Cg (p * m + dE * X * Y * x3 * y3) 0 ∧ Cg (w * (p * m + dE * X * Y * x3 * y3)) (X * m * y3 + Y * p * x3) := by
  have e : Cg (p * m * (1 + dE * u * x3 * v * y3)) (p * m + dE * X * Y * x3 * y3) :=
    ((Cg.refl (p * m)).add ((hu.mul hv).mul (Cg.refl (dE * x3 * y3)))).re (by grind) (by grind)
  refine ⟨fun h => Cg.ne_mul (Cg.ne_mul hp hm) hd (e.trans h), ?_⟩
  refine ((Cg.refl w).mul e.symm).trans ?_
  refine (((Cg.refl (p * m)).mul hw).re (by grind) rfl : Cg (w * (p * m * (1 + dE * u * x3 * v * y3))) (p * m * (u * y3 + v * x3))).trans ?_
  exact (((hu.mul (Cg.refl (m * y3))).add (hv.mul (Cg.refl (p * x3))))).re (by grind) (by grind)
theorem right_x {X Y p m u v x1 y1 w : Int} (hp : ¬ Cg p 0) (hm : ¬ Cg m 0) (hu : Cg (u * p) X) (hv : Cg (v * m) Y) (hd : ¬ Cg (1 + dE * x1 * u * y1 * v) 0) (hw : Cg (w * (1 + dE * x1 * u * y1 * v)) (x1 * v + y1 * u)) :
    ¬ Cg (p * m + dE * x1 * y1 * X * Y) 0 ∧ Cg (w * (p * m + dE * x1 * y1 * X * Y)) (x1 * Y * p + y1 * X * m) := by
  have e : Cg (p * m * (1 + dE * x1 * u * y1 * v)) (p * m + dE * x1 * y1 * X * Y) :=
    ((Cg.refl (p * m)).add ((hu.mul hv).mul (Cg.refl (dE * x1 * y1)))).re (by grind) (by grind)
  refine ⟨fun h => Cg.ne_mul (Cg.ne_mul hp hm) hd (e.trans h), ?_⟩
  refine ((Cg.refl w).mul e.symm).trans ?_
  refine (((Cg.refl (p * m)).mul hw).re (by grind) rfl : Cg (w * (p * m * (1 + dE * x1 * u * y1 * v))) (p * m * (x1 * v + y1 * u))).trans ?_
  exact (((hv.mul (Cg.refl (p * x1))).add (hu.mul (Cg.refl (m * y1))))).re (by grind) (by grind)
theorem assoc_addX {x1 y1 x2 y2 x3 y3 : Int} (h1 : OnE x1 y1) (h2 : OnE x2 y2) (h3 : OnE x3 y3) :
    Cg (addX (addX x1 y1 x2 y2) (addY x1 y1 x2 y2) x3 y3) (addX x1 y1 (addX x2 y2 x3 y3) (addY x2 y2 x3 y3)) := by
  have o12 := on_add h1 h2
  have o23 := on_add h2 h3
  obtain ⟨n1, e1⟩ := left_x (den_p h1 h2) (den_m h1 h2) (addX_ok h1 h2) (addY_ok h1 h2) (den_p o12 h3) (addX_ok o12 h3)
  obtain ⟨n2, e2⟩ := right_x (den_p h2 h3) (den_m h2 h3) (addX_ok h2 h3) (addY_ok h2 h3) (den_p h1 o23) (addX_ok h1 o23)
  refine Cg.cancel (Cg.ne_mul n1 n2) ?_
  have a1 := e1.mul (Cg.refl ((1 + dE * x2 * x3 * y2 * y3) * (1 - dE * x2 * x3 * y2 * y3) + dE * x1 * y1 * (x2 * y3 + y2 * x3) * (y2 * y3 + x2 * x3)))
  have a2 := e2.mul (Cg.refl ((1 + dE * x1 * x2 * y1 * y2) * (1 - dE * x1 * x2 * y1 * y2) + dE * (x1 * y2 + y1 * x2) * (y1 * y2 + x1 * x2) * x3 * y3))
  have k := Cg.of_sub (Cg.re (((h1.eq.zl _).zadd (h2.eq.zl _)).zadd (h3.eq.zl _)) (assoc_x x1 y1 x2 y2 x3 y3 dE) rfl)
  refine (a1.re (by grind) rfl).trans (Cg.trans ?_ (a2.symm.re rfl (by grind)))
  exact k.re (by grind) (by grind)
/-- The sum of a sum given as fractions, and a point. -/
theorem left_y {X Y p m u v x3 y3 w : Int} (hp : ¬ Cg p 0) (hm : ¬ Cg m 0) (hu : Cg (u * p) X) (hv : Cg (v * m) Y) (hd : ¬ Cg (1 - dE * u * x3 * v * y3) 0) (hw : Cg (w * (1 - dE * u * x3 * v * y3)) (v * y3 + u * x3)) :
    ¬ Cg (p * m - dE * X * Y * x3 * y3) 0 ∧ Cg (w * (p * m - dE * X * Y * x3 * y3)) (Y * p * y3 + X * m * x3) := by
  have e : Cg (p * m * (1 - dE * u * x3 * v * y3)) (p * m - dE * X * Y * x3 * y3) :=
    ((Cg.refl (p * m)).sub ((hu.mul hv).mul (Cg.refl (dE * x3 * y3)))).re (by grind) (by grind)
  refine ⟨fun h => Cg.ne_mul (Cg.ne_mul hp hm) hd (e.trans h), ?_⟩
  refine ((Cg.refl w).mul e.symm).trans ?_
  refine (((Cg.refl (p * m)).mul hw).re (by grind) rfl : Cg (w * (p * m * (1 - dE * u * x3 * v * y3))) (p * m * (v * y3 + u * x3))).trans ?_
  exact (((hv.mul (Cg.refl (p * y3))).add (hu.mul (Cg.refl (m * x3))))).re (by grind) (by grind)
theorem right_y {X Y p m u v x1 y1 w : Int} (hp : ¬ Cg p 0) (hm : ¬ Cg m 0) (hu : Cg (u * p) X) (hv : Cg (v * m) Y) (hd : ¬ Cg (1 - dE * x1 * u * y1 * v) 0) (hw : Cg (w * (1 - dE * x1 * u * y1 * v)) (y1 * v + x1 * u)) :
    ¬ Cg (p * m - dE * x1 * y1 * X * Y) 0 ∧ Cg (w * (p * m - dE * x1 * y1 * X * Y)) (y1 * Y * p + x1 * X * m) := by
  have e : Cg (p * m * (1 - dE * x1 * u * y1 * v)) (p * m - dE * x1 * y1 * X * Y) :=
    ((Cg.refl (p * m)).sub ((hu.mul hv).mul (Cg.refl (dE * x1 * y1)))).re (by grind) (by grind)
  refine ⟨fun h => Cg.ne_mul (Cg.ne_mul hp hm) hd (e.trans h), ?_⟩
  refine ((Cg.refl w).mul e.symm).trans ?_
  refine (((Cg.refl (p * m)).mul hw).re (by grind) rfl : Cg (w * (p * m * (1 - dE * x1 * u * y1 * v))) (p * m * (y1 * v + x1 * u))).trans ?_
  exact (((hv.mul (Cg.refl (p * y1))).add (hu.mul (Cg.refl (m * x1))))).re (by grind) (by grind)
theorem assoc_addY {x1 y1 x2 y2 x3 y3 : Int} (h1 : OnE x1 y1) (h2 : OnE x2 y2) (h3 : OnE x3 y3) :
    Cg (addY (addX x1 y1 x2 y2) (addY x1 y1 x2 y2) x3 y3) (addY x1 y1 (addX x2 y2 x3 y3) (addY x2 y2 x3 y3)) := by
  have o12 := on_add h1 h2
  have o23 := on_add h2 h3
  obtain ⟨n1, e1⟩ := left_y (den_p h1 h2) (den_m h1 h2) (addX_ok h1 h2) (addY_ok h1 h2) (den_m o12 h3) (addY_ok o12 h3)
  obtain ⟨n2, e2⟩ := right_y (den_p h2 h3) (den_m h2 h3) (addX_ok h2 h3) (addY_ok h2 h3) (den_m h1 o23) (addY_ok h1 o23)
  refine Cg.cancel (Cg.ne_mul n1 n2) ?_
  have a1 := e1.mul (Cg.refl ((1 + dE * x2 * x3 * y2 * y3) * (1 - dE * x2 * x3 * y2 * y3) - dE * x1 * y1 * (x2 * y3 + y2 * x3) * (y2 * y3 + x2 * x3)))
  have a2 := e2.mul (Cg.refl ((1 + dE * x1 * x2 * y1 * y2) * (1 - dE * x1 * x2 * y1 * y2) - dE * (x1 * y2 + y1 * x2) * (y1 * y2 + x1 * x2) * x3 * y3))
  have k := Cg.of_sub (Cg.re (((h1.eq.zl _).zadd (h2.eq.zl _)).zadd (h3.eq.zl _)) (assoc_y x1 y1 x2 y2 x3 y3 dE) rfl)
  refine (a1.re (by grind) rfl).trans (Cg.trans ?_ (a2.symm.re rfl (by grind)))
  exact k.re (by grind) (by grind)
end Go.Proofs.Ytihnagafldpbnaa.V
