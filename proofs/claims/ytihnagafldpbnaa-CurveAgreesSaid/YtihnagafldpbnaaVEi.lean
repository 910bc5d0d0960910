/- The Edwards curve: points, multiples of a point (pure). The curve: the u-coordinate under doubling and differential addition (pure). The curve: the ladder computes the u-coordinate of a multiple; both sides compute the same (pure). -/
import Derived.Test.YtihnagafldpbnaaVEf
set_option linter.unusedVariables false
set_option linter.unusedSimpArgs false
namespace Go.Proofs.Ytihnagafldpbnaa.V
open Go.RowKit
set_option maxHeartbeats 8000000
set_option maxRecDepth 100000
theorem powA_cg {a b : Int} (h : Cg a b) : Cg (powA a) (powA b) := (powA_eq a).trans ((h.pow _).trans (powA_eq b).symm)
theorem addX_cg {x1 y1 x2 y2 u1 v1 u2 v2 : Int} (a : Cg x1 u1) (b : Cg y1 v1) (c : Cg x2 u2) (d : Cg y2 v2) : Cg (addX x1 y1 x2 y2) (addX u1 v1 u2 v2) :=
  ((a.mul d).add (b.mul c)).mul (powA_cg ((Cg.refl 1).add (((((Cg.refl dE).mul a).mul c).mul b).mul d)))
theorem addY_cg {x1 y1 x2 y2 u1 v1 u2 v2 : Int} (a : Cg x1 u1) (b : Cg y1 v1) (c : Cg x2 u2) (d : Cg y2 v2) : Cg (addY x1 y1 x2 y2) (addY u1 v1 u2 v2) :=
  ((b.mul d).add (a.mul c)).mul (powA_cg ((Cg.refl 1).sub (((((Cg.refl dE).mul a).mul c).mul b).mul d)))
theorem OnE.cg {x y u v : Int} (h : OnE x y) (hx : Cg u x) (hy : Cg v y) : OnE u v :=
  ⟨(((((hx.pow 2).zn).add (hy.pow 2)).sub (Cg.refl 1)).sub (((Cg.refl dE).mul (hx.pow 2)).mul (hy.pow 2))).trans h.eq⟩
/-- A point of the curve, reduced. -/
structure OnR (a : Int × Int) : Prop where
  on : OnE a.1 a.2
  rx : a.1 % 57896044618658097711785492504343953926634992332820282019728792003956564819949 = a.1
  ry : a.2 % 57896044618658097711785492504343953926634992332820282019728792003956564819949 = a.2
def padd (a b : Int × Int) : Int × Int := (addX a.1 a.2 b.1 b.2 % 57896044618658097711785492504343953926634992332820282019728792003956564819949, addY a.1 a.2 b.1 b.2 % 57896044618658097711785492504343953926634992332820282019728792003956564819949)
theorem padd_on {a b : Int × Int} (ha : OnR a) (hb : OnR b) : OnR (padd a b) :=
  ⟨(on_add ha.on hb.on).cg (Cg.mod _) (Cg.mod _), Int.emod_emod .., Int.emod_emod ..⟩
theorem padd_assoc {a b c : Int × Int} (ha : OnR a) (hb : OnR b) (hc : OnR c) : padd (padd a b) c = padd a (padd b c) := by
  refine Prod.ext ?_ ?_
  · exact ((addX_cg (Cg.mod _) (Cg.mod _) (Cg.refl _) (Cg.refl _)).trans ((assoc_addX ha.on hb.on hc.on).trans (addX_cg (Cg.refl _) (Cg.refl _) (Cg.mod _).symm (Cg.mod _).symm))).emod
  · exact ((addY_cg (Cg.mod _) (Cg.mod _) (Cg.refl _) (Cg.refl _)).trans ((assoc_addY ha.on hb.on hc.on).trans (addY_cg (Cg.refl _) (Cg.refl _) (Cg.mod _).symm (Cg.mod _).symm))).emod
def zeE : Int × Int := (0, 1)
theorem zeE_on : OnR zeE := by
  refine ⟨⟨?_⟩, by decide, by decide⟩
  unfold eE zeE
  exact ⟨0, by grind⟩
theorem one_fr (n : Int) {d : Int} (hd : d = 1) : Cg (n * powA d) n := by
  subst hd
  have k := inv_ok one_ne
  exact ((Cg.refl n).mul (k.re (show powA 1 = 1 * powA 1 by omega) rfl)).re rfl (by omega)
theorem padd_0 {a : Int × Int} (ha : OnR a) : padd a zeE = a := by
  refine Prod.ext ?_ ?_
  · refine ((one_fr _ ?_).emod).trans (Eq.trans ?_ ha.rx)
    · unfold zeE; grind
    · unfold zeE; congr 1; grind
  · refine ((one_fr _ ?_).emod).trans (Eq.trans ?_ ha.ry)
    · unfold zeE; grind
    · unfold zeE; congr 1; grind
theorem zero_padd {a : Int × Int} (ha : OnR a) : padd zeE a = a := by
  refine Prod.ext ?_ ?_
  · refine ((one_fr _ ?_).emod).trans (Eq.trans ?_ ha.rx)
    · unfold zeE; grind
    · unfold zeE; congr 1; grind
  · refine ((one_fr _ ?_).emod).trans (Eq.trans ?_ ha.ry)
    · unfold zeE; grind
    · unfold zeE; congr 1; grind
def mulPt : Nat → Int × Int → Int × Int
  | 0, _ => zeE
  | n + 1, q => padd q (mulPt n q)
theorem mulPt_on {q : Int × Int} (h : OnR q) (n : Nat) : OnR (mulPt n q) := by
  induction n with
  | zero => exact zeE_on
  | succ n ih => exact padd_on h ih
theorem mulPt_1 {q : Int × Int} (h : OnR q) : mulPt 1 q = q := padd_0 h
theorem mulPt_add {q : Int × Int} (h : OnR q) (m n : Nat) : mulPt (m + n) q = padd (mulPt m q) (mulPt n q) := by
  induction m with
  | zero => rw [Nat.zero_add]; exact (zero_padd (mulPt_on h n)).symm
  | succ m ih =>
    rw [show m + 1 + n = (m + n) + 1 by omega]
    show padd q (mulPt (m + n) q) = padd (padd q (mulPt m q)) (mulPt n q)
    rw [ih, padd_assoc h (mulPt_on h m) (mulPt_on h n)]
theorem mulPt_mul {q : Int × Int} (h : OnR q) (m n : Nat) : mulPt (m * n) q = mulPt m (mulPt n q) := by
  induction m with
  | zero => rw [Nat.zero_mul]; rfl
  | succ m ih =>
    rw [Nat.add_mul, Nat.one_mul, Nat.add_comm, mulPt_add h, ih]
    rfl
theorem mulPt_z (n : Nat) : mulPt n zeE = zeE := by
  induction n with
  | zero => rfl
  | succ n ih =>
    show padd zeE (mulPt n zeE) = zeE
    rw [ih]
    exact padd_0 zeE_on
def negE (a : Int × Int) : Int × Int := (-a.1 % 57896044618658097711785492504343953926634992332820282019728792003956564819949, a.2)
theorem negE_on {a : Int × Int} (h : OnR a) : OnR (negE a) := by
  refine ⟨?_, Int.emod_emod .., h.ry⟩
  have k : OnE (-a.1) a.2 := ⟨by
    have := h.on.eq
    unfold eE at *
    exact this.re (by grind) rfl⟩
  exact k.cg (Cg.mod _) (Cg.refl _)
theorem padd_neg {a : Int × Int} (h : OnR a) : padd a (negE a) = zeE := by
  have hn := negE_on h
  have k : OnE (-a.1) a.2 := hn.on.cg (Cg.mod _).symm (Cg.refl _)
  refine Prod.ext ?_ ?_
  · refine ((addX_cg (Cg.refl a.1) (Cg.refl a.2) (Cg.mod (-a.1)) (Cg.refl a.2)).trans (y := addX a.1 a.2 (-a.1) a.2) (z := 0) ?_).emod
    unfold addX
    exact (Cg.refl 0).re (by rw [show a.1 * a.2 + a.2 * -a.1 = 0 by grind, Int.zero_mul]) rfl
  · refine ((addY_cg (Cg.refl a.1) (Cg.refl a.2) (Cg.mod (-a.1)) (Cg.refl a.2)).trans (y := addY a.1 a.2 (-a.1) a.2) (z := 1) ?_).emod
    have e := h.on.eq
    refine Cg.cancel (den_m h.on k) ((addY_ok h.on k).trans ?_)
    refine Cg.of_sub (e.re ?_ rfl)
    unfold eE
    grind
/-- The difference of two points of which one is the other with a third added. -/
theorem padd_dif {q r : Int × Int} (hq : OnR q) (hr : OnR r) : padd (padd q r) (negE r) = q := by
  rw [padd_assoc hq hr (negE_on hr), padd_neg hr, padd_0 hq]
end Go.Proofs.Ytihnagafldpbnaa.V
set_option linter.unusedVariables false
set_option linter.unusedSimpArgs false
namespace Go.Proofs.Ytihnagafldpbnaa.V
open Go.RowKit
set_option maxHeartbeats 8000000
set_option maxRecDepth 100000
/-- (X : Z) is the u-coordinate of a point whose second coordinate is y. -/
structure UC (X Z y : Int) : Prop where
  eq : Cg (X - Z) (y * (X + Z))
  nz : ¬ Cg (X + Z) 0
theorem UC.cg {X Z y U V : Int} (h : UC X Z y) (hu : Cg U X) (hv : Cg V Z) : UC U V y :=
  ⟨(hu.sub hv).trans (h.eq.trans ((Cg.refl y).mul (hu.add hv).symm)), fun k => h.nz ((hu.add hv).symm.trans k)⟩
theorem dE_k : Cg (121666 * dE + 121665) 0 := ⟨(121666 * dE + 121665) / 57896044618658097711785492504343953926634992332820282019728792003956564819949, by decide +kernel⟩
theorem k_ne : ¬ Cg 121666 0 := fun ⟨q, hq⟩ => by omega
theorem dy_ne {y : Int} : ¬ Cg (1 + dE * y^2) 0 := by
  intro h
  have k : Cg (dE * (y * y)) (sE * sE) := by
    refine Cg.of_sub ((h.sub sE_sq).re ?_ rfl)
    grind
  have y0 := nonsqE k
  have : Cg 1 0 := (h.sub ((y0.z_mul (dE * y)))).re (by grind) rfl
  exact one_ne this
theorem dbl_ring (x y d : Int) : (y*y + x*x) * (1 + 121665 * (1 - y^2)^2) - (2 * y^2 - 1 - 121665 * (1 - y^2)^2) * (1 - d * x * x * y * y) =
    (-2 * (1 - y^2) * 121666 - (2 * y^2 - 1 - 121665 * (1 - y^2)^2)) * (-x^2 + y^2 - 1 - d * x^2 * y^2) + (-2 * (1 - y^2) * x^2 * y^2) * (121666 * d + 121665) := by grind
theorem dbl_den (x y d : Int) : 1 + 121665 * (1 - y^2)^2 - 121666 * (1 + d * y^2) * (1 - d * x * x * y * y) = (-121666 * d * y^2) * (-x^2 + y^2 - 1 - d * x^2 * y^2) + (-(2 * y^2 - y^4)) * (121666 * d + 121665) := by grind
theorem dbl_u {X Z : Int} {r : Int × Int} (hr : OnR r) (h : UC X Z r.2) :
    UC ((X + Z) * (X + Z) * ((X - Z) * (X - Z)) % 57896044618658097711785492504343953926634992332820282019728792003956564819949) (((X + Z) * (X + Z) - (X - Z) * (X - Z)) * ((X + Z) * (X + Z) + ((X + Z) * (X + Z) - (X - Z) * (X - Z)) * 121665) % 57896044618658097711785492504343953926634992332820282019728792003956564819949) (padd r r).2 := by
  have y3 := addY_ok hr.on hr.on
  have mn := den_m hr.on hr.on
  have e := hr.on.eq
  have hy : Cg (padd r r).2 (addY r.1 r.2 r.1 r.2) := Cg.mod _
  refine UC.cg ?_ (Cg.mod _) (Cg.mod _)
  obtain ⟨x, y⟩ := r
  simp only at *
  have q := h.eq
  have qq := q.mul q
  have nz := h.nz
  generalize padd (x, y) (x, y) = R at *
  generalize addY x y x y = w at *
  unfold eE at e
  have D0 : ¬ Cg (1 + 121665 * (1 - y^2)^2) 0 := fun k => by
    have t := ((e.zl (-121666 * dE * y^2)).zadd (dE_k.zl (-(2 * y^2 - y^4)))).re (dbl_den x y dE) rfl
    have t2 : Cg (121666 * (1 + dE * y^2) * (1 - dE * x * x * y * y)) 0 := (k.sub t).re (by grind) rfl
    exact (Cg.ne_mul (Cg.ne_mul k_ne dy_ne) mn) t2
  have N0 : Cg ((y*y + x*x) * (1 + 121665 * (1 - y^2)^2)) ((2 * y^2 - 1 - 121665 * (1 - y^2)^2) * (1 - dE * x * x * y * y)) :=
    Cg.of_sub (((e.zl _).zadd (dE_k.zl _)).re (dbl_ring x y dE) rfl)
  have w0 : Cg (w * (1 + 121665 * (1 - y^2)^2)) (2 * y^2 - 1 - 121665 * (1 - y^2)^2) := by
    refine Cg.cancel mn ?_
    refine Cg.trans ?_ N0
    exact (y3.mul (Cg.refl (1 + 121665 * (1 - y^2)^2))).re (by grind) rfl
  have s4 : ¬ Cg ((X + Z) * (X + Z) * ((X + Z) * (X + Z))) 0 := Cg.ne_mul (Cg.ne_mul nz nz) (Cg.ne_mul nz nz)
  have a0 : Cg ((X + Z) * (X + Z) * ((X - Z) * (X - Z))) ((X + Z) * (X + Z) * ((X + Z) * (X + Z)) * y^2) := ((Cg.refl ((X + Z) * (X + Z))).mul qq).re rfl (by grind)
  have b0 : Cg (((X + Z) * (X + Z) - (X - Z) * (X - Z)) * ((X + Z) * (X + Z) + ((X + Z) * (X + Z) - (X - Z) * (X - Z)) * 121665)) ((X + Z) * (X + Z) * ((X + Z) * (X + Z)) * ((1 - y^2) * (1 + (1 - y^2) * 121665))) :=
    (((Cg.refl ((X + Z) * (X + Z))).sub qq).mul ((Cg.refl ((X + Z) * (X + Z))).add (((Cg.refl ((X + Z) * (X + Z))).sub qq).mul (Cg.refl 121665)))).re rfl (by grind)
  generalize (X + Z) * (X + Z) * ((X - Z) * (X - Z)) = A at *
  generalize ((X + Z) * (X + Z) - (X - Z) * (X - Z)) * ((X + Z) * (X + Z) + ((X + Z) * (X + Z) - (X - Z) * (X - Z)) * 121665) = B at *
  generalize (X + Z) * (X + Z) * ((X + Z) * (X + Z)) = S at *
  have sum : Cg (A + B) (S * (1 + 121665 * (1 - y^2)^2)) := (a0.add b0).re rfl (by grind)
  have dif : Cg (A - B) (S * (2 * y^2 - 1 - 121665 * (1 - y^2)^2)) := (a0.sub b0).re rfl (by grind)
  refine ⟨?_, fun k => Cg.ne_mul s4 D0 (sum.symm.trans k)⟩
  refine dif.trans (Cg.trans ?_ (hy.mul sum).symm)
  exact ((Cg.refl S).mul w0).symm.re rfl (by grind)
theorem dif_ring (x1 y1 x2 y2 d : Int) : (y1 + y2)^2 * ((1 - d * x1 * x2 * y1 * y2) - (y1 * y2 + x1 * x2)) * ((1 + d * x1 * x2 * y1 * y2) - (y1 * y2 - x1 * x2)) - (y2 - y1)^2 * ((1 + d * x1 * x2 * y1 * y2) + (y1 * y2 - x1 * x2)) * ((1 - d * x1 * x2 * y1 * y2) + (y1 * y2 + x1 * x2)) =
    (4 * d * x2^2 * y1 * y2^3 + 4 * x2^2 * y1 * y2) * (-x1^2 + y1^2 - 1 - d * x1^2 * y1^2) + (4 * y1^3 * y2 - 4 * y1 * y2) * (-x2^2 + y2^2 - 1 - d * x2^2 * y2^2) := by grind
/-- Differential addition: w is the sum's second coordinate, v that of the difference, whose u-coordinate is V. -/
theorem dif_u {X2 Z2 X3 Z3 V v w x1 y1 x2 y2 : Int} (h1 : OnE x1 y1) (h2 : OnE x2 y2) (k2 : UC X2 Z2 y1) (k3 : UC X3 Z3 y2)
    (hw : Cg (w * (1 - dE * x1 * x2 * y1 * y2)) (y1 * y2 + x1 * x2)) (hv : Cg (v * (1 + dE * x1 * x2 * y1 * y2)) (y1 * y2 - x1 * x2)) (hV : ¬ Cg V 0) (hU : Cg (V * (1 - v)) (1 + v)) :
    UC (((X3 - Z3) * (X2 + Z2) + (X3 + Z3) * (X2 - Z2)) * ((X3 - Z3) * (X2 + Z2) + (X3 + Z3) * (X2 - Z2)) % 57896044618658097711785492504343953926634992332820282019728792003956564819949) (V * (((X3 - Z3) * (X2 + Z2) - (X3 + Z3) * (X2 - Z2)) * ((X3 - Z3) * (X2 + Z2) - (X3 + Z3) * (X2 - Z2))) % 57896044618658097711785492504343953926634992332820282019728792003956564819949) w := by
  refine UC.cg ?_ (Cg.mod _) (Cg.mod _)
  have da : Cg ((X3 - Z3) * (X2 + Z2)) (y2 * ((X3 + Z3) * (X2 + Z2))) := (k3.eq.mul (Cg.refl (X2 + Z2))).re rfl (by grind)
  have cb : Cg ((X3 + Z3) * (X2 - Z2)) (y1 * ((X3 + Z3) * (X2 + Z2))) := ((Cg.refl (X3 + Z3)).mul k2.eq).re rfl (by grind)
  have s0 : ¬ Cg ((X3 + Z3) * (X2 + Z2)) 0 := Cg.ne_mul k3.nz k2.nz
  generalize (X3 + Z3) * (X2 + Z2) = s at *
  generalize (X3 - Z3) * (X2 + Z2) = p at *
  generalize (X3 + Z3) * (X2 - Z2) = q at *
  have ss := Cg.ne_mul s0 s0
  have A0 : Cg ((p + q) * (p + q)) (s * s * ((y1 + y2)^2)) := ((da.add cb).mul (da.add cb)).re rfl (by grind)
  have B0 : Cg (V * ((p - q) * (p - q))) (s * s * (V * (y2 - y1)^2)) := ((Cg.refl V).mul ((da.sub cb).mul (da.sub cb))).re rfl (by grind)
  generalize (p + q) * (p + q) = A at *
  generalize V * ((p - q) * (p - q)) = B at *
  generalize s * s = S at *
  have pn := den_p h1 h2
  have mn := den_m h1 h2
  have v1 : ¬ Cg (1 - v) 0 := fun k => by
    have a : Cg (1 + v) 0 := hU.symm.trans ((k.zl V))
    exact two_ne ((k.add a).re (by omega) (by omega))
  have E0 : Cg ((y1 + y2)^2 * (1 - w)) (V * (y2 - y1)^2 * (1 + w)) := by
    refine Cg.cancel (Cg.ne_mul (Cg.ne_mul pn mn) v1) ?_
    have r0 := ((h1.eq.zl (4 * dE * x2^2 * y1 * y2^3 + 4 * x2^2 * y1 * y2)).zadd (h2.eq.zl (4 * y1^3 * y2 - 4 * y1 * y2))).re (dif_ring x1 y1 x2 y2 dE) rfl
    have r1 := Cg.of_sub r0
    generalize 1 - dE * x1 * x2 * y1 * y2 = m at *
    generalize 1 + dE * x1 * x2 * y1 * y2 = n at *
    generalize y1 * y2 + x1 * x2 = a at *
    generalize y1 * y2 - x1 * x2 = b at *
    have r2 : Cg ((y1 + y2)^2 * (m - w * m) * (n - v * n)) ((y2 - y1)^2 * (n + v * n) * (m + w * m)) :=
      ((((Cg.refl ((y1 + y2)^2)).mul ((Cg.refl m).sub hw)).mul ((Cg.refl n).sub hv)).trans r1).trans (((Cg.refl ((y2 - y1)^2)).mul ((Cg.refl n).add hv)).mul ((Cg.refl m).add hw)).symm
    have r3 : Cg ((y2 - y1)^2 * (n * m) * (1 + w) * (1 + v)) ((y2 - y1)^2 * (n * m) * (1 + w) * (V * (1 - v))) := (Cg.refl ((y2 - y1)^2 * (n * m) * (1 + w))).mul hU.symm
    exact (r2.re (by grind) rfl).trans (r3.re (by grind) (by grind))
  have eq0 : Cg (A * (1 - w)) (B * (1 + w)) := by
    refine (A0.mul (Cg.refl (1 - w))).trans (Cg.trans ?_ (B0.mul (Cg.refl (1 + w))).symm)
    exact ((Cg.refl S).mul E0).re (by grind) (by grind)
  refine ⟨Cg.of_sub (eq0.to_sub.re (by grind) rfl), fun k => ?_⟩
  have A1 : Cg A 0 := by
    have t : Cg (2 * A) 0 := (eq0.to_sub.add (k.z_mul (1 + w))).re (by grind) (by omega)
    rcases t.euc with t | t
    · exact absurd t two_ne
    · exact t
  have B1 : Cg B 0 := (k.sub A1).re (by omega) (by omega)
  have sq0 : ∀ z : Int, Cg (z^2) 0 → Cg z 0 := fun z hz => by
    rcases (show Cg (z * z) 0 from hz.re (by grind) rfl).euc with t | t <;> exact t
  have p0 : Cg (y1 + y2) 0 := by
    rcases (A0.symm.trans A1).euc with t | t
    · exact absurd t ss
    · exact sq0 _ t
  have q0 : Cg (y2 - y1) 0 := by
    rcases (B0.symm.trans B1).euc with t | t
    · exact absurd t ss
    · rcases t.euc with t | t
      · exact absurd t hV
      · exact sq0 _ t
  have z1 : Cg y1 0 := by
    rcases (show Cg (2 * y1) 0 from (p0.sub q0).re (by omega) (by omega)).euc with t | t
    · exact absurd t two_ne
    · exact t
  have e1 := h1.eq
  have e2 := h2.eq
  have z2 : Cg y2 0 := (p0.sub z1).re (by omega) (by omega)
  unfold eE at e1 e2
  have f1 : Cg (x1^2 + 1) 0 := ((z1.zl (y1 - dE * x1^2 * y1)).sub e1).re (by grind) rfl
  have f2 : Cg (x2^2 + 1) 0 := ((z2.zl (y2 - dE * x2^2 * y2)).sub e2).re (by grind) rfl
  have g : Cg (v + x1 * x2) 0 := by
    have t := (z1.zl (y2 - v * (dE * x1 * x2 * y2)))
    exact (hv.to_sub.add t).re (by grind) (by omega)
  have c : Cg ((1 - v) * (1 + v)) 0 := by
    have t := (g.zl (v - x1 * x2))
    have u := (f1.zl (x2^2)).sub f2
    exact ((u.add t).re (u := v * v - 1) (by grind) (by omega)).zl (-1) |>.re (by grind) rfl
  rcases c.euc with t | t
  · exact v1 t
  · rcases (hU.trans t).euc with t | t
    · exact hV t
    · exact v1 t
end Go.Proofs.Ytihnagafldpbnaa.V
set_option linter.unusedVariables false
set_option linter.unusedSimpArgs false
namespace Go.Proofs.Ytihnagafldpbnaa.V
open Go.RowKit
set_option maxHeartbeats 8000000
set_option maxRecDepth 100000
def uOf (r : Int × Int) : Int := (1 + r.2) * powA (1 - r.2) % 57896044618658097711785492504343953926634992332820282019728792003956564819949
def kvN (k : Nat → Int) : Nat → Nat → Nat
  | 0, m => m
  | n + 1, m => kvN k n (2 * m + (k n).toNat)
structure LInv (q : Int × Int) (m : Nat) (s : Int × Int × Int × Int) : Prop where
  a : UC s.1 s.2.1 (mulPt m q).2
  b : UC s.2.2.1 s.2.2.2 (mulPt (m + 1) q).2
theorem dif_v {q : Int × Int} (hq : OnR q) (m : Nat) : Cg (q.2 * (1 + dE * (mulPt m q).1 * (mulPt (m + 1) q).1 * (mulPt m q).2 * (mulPt (m + 1) q).2)) ((mulPt m q).2 * (mulPt (m + 1) q).2 - (mulPt m q).1 * (mulPt (m + 1) q).1) := by
  have h1 := mulPt_on hq m
  have h2 := mulPt_on hq (m + 1)
  have d : padd (mulPt (m + 1) q) (negE (mulPt m q)) = q := padd_dif hq h1
  have k1 : OnE (-(mulPt m q).1) (mulPt m q).2 := (negE_on h1).on.cg (Cg.mod _).symm (Cg.refl _)
  have e : Cg q.2 (addY (mulPt (m + 1) q).1 (mulPt (m + 1) q).2 (-(mulPt m q).1) (mulPt m q).2) := by
    have t : (padd (mulPt (m + 1) q) (negE (mulPt m q))).2 = q.2 := by rw [d]
    rw [← t]
    exact (Cg.mod _).trans (addY_cg (Cg.refl _) (Cg.refl _) (Cg.mod _) (Cg.refl _))
  have f := (e.mul (Cg.refl (1 - dE * (mulPt (m + 1) q).1 * (-(mulPt m q).1) * (mulPt (m + 1) q).2 * (mulPt m q).2))).trans (addY_ok h2.on k1)
  exact f.re (by grind) (by grind)
theorem sum_w {q : Int × Int} (hq : OnR q) (m : Nat) : Cg ((mulPt (2 * m + 1) q).2 * (1 - dE * (mulPt m q).1 * (mulPt (m + 1) q).1 * (mulPt m q).2 * (mulPt (m + 1) q).2)) ((mulPt m q).2 * (mulPt (m + 1) q).2 + (mulPt m q).1 * (mulPt (m + 1) q).1) := by
  have h1 := mulPt_on hq m
  have h2 := mulPt_on hq (m + 1)
  rw [show 2 * m + 1 = m + (m + 1) by omega, mulPt_add hq]
  exact ((Cg.mod _).mul (Cg.refl _)).trans (addY_ok h1.on h2.on)
theorem lad_lin {q : Int × Int} {V : Int} (hq : OnR q) (hV : ¬ Cg V 0) (hU : Cg (V * (1 - q.2)) (1 + q.2)) {t : Int} (ht : t = 0 ∨ t = 1) {m : Nat} {s : Int × Int × Int × Int} (h : LInv q m s) : LInv q (2 * m + t.toNat) (ladS V t s) := by
  have h1 := mulPt_on hq m
  have h2 := mulPt_on hq (m + 1)
  have hv := dif_v hq m
  have hw := sum_w hq m
  obtain ⟨a, b, c, d⟩ := s
  obtain ⟨ka, kb⟩ := h
  simp only at ka kb
  rcases ht with rfl | rfl
  · have D := dbl_u h1 ka
    rw [← mulPt_add hq, show m + m = 2 * m by omega] at D
    have F := dif_u h1.on h2.on ka kb hw hv hV hU
    unfold ladS
    simp only [if_neg (show ¬ (0 : Int) = 1 by decide)]
    exact ⟨D, F⟩
  · have D := dbl_u h2 kb
    rw [← mulPt_add hq, show m + 1 + (m + 1) = 2 * m + 1 + 1 by omega] at D
    have F := dif_u (w := (mulPt (2 * m + 1) q).2) (v := q.2) h2.on h1.on kb ka (hw.re (by grind) (by grind)) (hv.re (by grind) (by grind)) hV hU
    unfold ladS
    simp only [if_true]
    exact ⟨F, D⟩
theorem ladR_lin {q : Int × Int} {V : Int} {k : Nat → Int} (hq : OnR q) (hV : ¬ Cg V 0) (hU : Cg (V * (1 - q.2)) (1 + q.2)) (hk : ∀ i, k i = 0 ∨ k i = 1) (n : Nat) {m : Nat} {s : Int × Int × Int × Int} (h : LInv q m s) : LInv q (kvN k n m) (ladR k V n s) := by
  induction n generalizing m s with
  | zero => exact h
  | succ n ih => exact ih (lad_lin hq hV hU (hk n) h)
theorem powA_ne {a : Int} (h : ¬ Cg (powA a) 0) : ¬ Cg a 0 := fun k => h (inv_zero k)
theorem powA_z {a : Int} (h : Cg (powA a) 0) : Cg a 0 := by
  apply Classical.byContradiction
  intro k
  exact one_ne ((inv_ok k).symm.trans (h.zl a))
theorem fin_u {X Z y : Int} (h : UC X Z y) : X * powA Z % 57896044618658097711785492504343953926634992332820282019728792003956564819949 = (1 + y) * powA (1 - y) % 57896044618658097711785492504343953926634992332820282019728792003956564819949 := by
  refine Cg.emod ?_
  have q := h.eq
  have e : Cg (X * (1 - y)) (Z * (1 + y)) := Cg.of_sub (q.to_sub.re (by grind) rfl)
  by_cases hz : Cg Z 0
  · have hy : Cg (1 - y) 0 := by
      rcases (e.trans (hz.z_mul (1 + y))).euc with k | k
      · exact absurd ((k.add hz).re rfl (by omega)) h.nz
      · exact k
    exact ((inv_zero hz).zl X).trans ((inv_zero hy).zl (1 + y)).symm
  · have hy : ¬ Cg (1 - y) 0 := fun k => by
      have t : Cg (Z * (1 + y)) 0 := e.symm.trans (k.zl X)
      rcases t.euc with t | t
      · exact hz t
      · exact two_ne ((k.add t).re (by omega) (by omega))
    refine Cg.cancel (Cg.ne_mul hz hy) ?_
    have i1 := inv_ok hz
    have i2 := inv_ok hy
    have l := e.mul i1
    have r := ((Cg.refl (Z * (1 + y))).mul i2)
    exact (l.re (by grind) rfl).trans (r.symm.re rfl (by grind))
theorem mulP_u {l : List UInt8} {q : Int × Int} (hq : OnR q) (hu : ¬ Cg (uOf q) 0) : mulP l (uOf q) = uOf (mulPt (kvN (kbit l) 255 0) q) := by
  have hp : ¬ Cg (1 - q.2) 0 := fun k => hu ((Cg.mod _).trans ((inv_zero k).zl _))
  have hU : Cg (uOf q * (1 - q.2)) (1 + q.2) := by
    have i := inv_ok hp
    exact (((Cg.mod _).mul (Cg.refl (1 - q.2))).trans (((Cg.refl (1 + q.2)).mul i).re (by grind) rfl)).re rfl (by omega)
  have h0 : LInv q 0 (1, 0, uOf q % 57896044618658097711785492504343953926634992332820282019728792003956564819949, 1) := by
    refine ⟨⟨?_, ?_⟩, ?_⟩
    · exact (Cg.refl 1).re (show (1 : Int) - 0 = 1 by decide) (show (1 : Int) * (1 + 0) = 1 by decide)
    · exact one_ne
    · rw [show (0 + 1 : Nat) = 1 from rfl, mulPt_1 hq]
      refine UC.cg ⟨?_, fun k => ?_⟩ (Cg.mod _) (Cg.refl 1)
      · exact Cg.of_sub (hU.to_sub.re (by grind) rfl)
      · exact two_ne ((k.z_mul (1 - q.2)).sub hU.to_sub |>.re (by grind) rfl)
  have h := ladR_lin hq hu hU (kbit01 l) 255 h0
  unfold mulP fin4
  rw [fin_u h.a]
  rfl
theorem uOf_ze : uOf zeE = 0 := by
  refine Cg.emod (x := (1 + zeE.2) * powA (1 - zeE.2)) (y := 0) ?_
  exact (inv_zero ⟨0, by decide⟩).zl _
theorem sm_x {r : Int × Int} (hr : OnR r) (h : uOf r = 0) : Cg r.1 0 ∧ Cg (r.2 * r.2) 1 := by
  have e := hr.on.eq
  unfold eE at e
  have u : Cg ((1 + r.2) * powA (1 - r.2)) 0 := (Cg.mod ((1 + r.2) * powA (1 - r.2))).symm.trans (by show Cg (uOf r) 0; rw [h]; exact Cg.refl 0)
  have y : Cg ((1 + r.2) * (1 - r.2)) 0 := by
    rcases u.euc with k | k
    · exact k.z_mul _
    · exact (powA_z k).zl _
  have y2 : Cg (r.2 * r.2) 1 := Cg.of_sub ((y.zl (-1)).re (by grind) rfl)
  refine ⟨?_, y2⟩
  have t : Cg (dE * (r.1 * r.1)) ((sE * r.1) * (sE * r.1)) := by
    have k := (((e.zl (-1)).add (y.zl (-(1 - dE * r.1^2)))).add (sE_sq.zl (-(r.1^2))))
    refine Cg.of_sub (k.re ?_ (by omega))
    clear k e u y y2 h
    grind
  exact nonsqE t
theorem sm_dbl {r : Int × Int} (hr : OnR r) (h : uOf r = 0) : padd r r = zeE := by
  obtain ⟨hx, hy⟩ := sm_x hr h
  refine Prod.ext ?_ ?_
  · refine Cg.emod (y := 0) ?_
    unfold addX
    exact (((hx.z_mul r.2).zadd (hx.zl r.2)).z_mul _)
  · refine Cg.emod (y := 1) ?_
    refine Cg.cancel (den_m hr.on hr.on) ((addY_ok hr.on hr.on).trans ?_)
    exact (hy.add (hx.zl r.1)).trans (((Cg.refl 1).sub (hx.zl (dE * r.1 * r.2 * r.2))).symm.re (by omega) (by grind))
theorem kvN_even (k : Nat → Int) (h : k 0 = 0) (n : Nat) (m : Nat) : kvN k (n + 1) m % 2 = 0 := by
  induction n generalizing m with
  | zero => simp only [kvN, h]; omega
  | succ n ih => exact ih _
theorem mulP_all {l : List UInt8} {q : Int × Int} (hq : OnR q) (h0 : kbit l 0 = 0) : mulP l (uOf q) = uOf (mulPt (kvN (kbit l) 255 0) q) := by
  by_cases hu : Cg (uOf q) 0
  · have e : uOf q = 0 := by
      have t := hu.emod
      rw [show uOf q % 57896044618658097711785492504343953926634992332820282019728792003956564819949 = uOf q from Int.emod_emod ..] at t
      exact t
    rw [mulP_0 hu]
    have ev := kvN_even (kbit l) h0 254 0
    generalize kvN (kbit l) 255 0 = n at *
    obtain ⟨j, rfl⟩ : ∃ j, n = j * 2 := ⟨n / 2, by omega⟩
    rw [mulPt_mul hq, show mulPt 2 q = zeE from (by rw [show (2 : Nat) = 1 + 1 from rfl, mulPt_add hq, mulPt_1 hq]; exact sm_dbl hq e), mulPt_z, uOf_ze]
  · exact mulP_u hq hu
/-- The base point. -/
def bpE : Int × Int := (42783823269122696939284341094755422415180979639778424813682678720006717057747, 46316835694926478169428394003475163141307993866256225615783033603165251855960)
theorem bpE_on : OnR bpE := ⟨⟨⟨eE bpE.1 bpE.2 / 57896044618658097711785492504343953926634992332820282019728792003956564819949, by decide +kernel⟩⟩, by decide +kernel, by decide +kernel⟩
theorem bpE_u : uOf bpE = 9 := by decide +kernel
theorem agree_P {a b : List UInt8} (ha : kbit a 0 = 0) (hb : kbit b 0 = 0) : mulP a (mulP b 9) = mulP b (mulP a 9) := by
  rw [← bpE_u, mulP_all bpE_on ha, mulP_all bpE_on hb, mulP_all (mulPt_on bpE_on _) ha, mulP_all (mulPt_on bpE_on _) hb, ← mulPt_mul bpE_on, ← mulPt_mul bpE_on, Nat.mul_comm]
theorem leB_len (n : Nat) (v : Int) : (leB n v).length = n := by
  induction n generalizing v with
  | zero => rfl
  | succ n ih => simp only [leB, List.length_cons, ih]
theorem leV_leB (n : Nat) (v : Int) (h0 : 0 ≤ v) (h1 : v < 256 ^ n) : leV (leB n v) = v := by
  induction n generalizing v with
  | zero => rw [Int.pow_zero] at h1; simp only [leB, leV]; omega
  | succ n ih =>
    rw [Int.pow_succ] at h1
    simp only [leB, leV]
    rw [ih (v / 256) (by omega) (Int.ediv_lt_of_lt_mul (by decide) h1), ← toB_of (by omega)]
    omega
theorem mulP_rng (l : List UInt8) (x : Int) : 0 ≤ mulP l x ∧ mulP l x < 57896044618658097711785492504343953926634992332820282019728792003956564819949 := by
  unfold mulP fin4
  generalize (ladR (kbit l) x 255 (1, 0, x % 57896044618658097711785492504343953926634992332820282019728792003956564819949, 1)).1 * powA (ladR (kbit l) x 255 (1, 0, x % 57896044618658097711785492504343953926634992332820282019728792003956564819949, 1)).2.1 = v
  omega
theorem pt9_v : leV (9 :: List.replicate 31 0) = 9 := by decide +kernel
theorem agreeF {a b y x u w : List UInt8} {e f g h : Int} (ha : a.length = 32) (hb : b.length = 32) (h1 : (x, e) = mulF a (9 :: List.replicate 31 0)) (h2 : (y, f) = mulF b (9 :: List.replicate 31 0)) (h3 : (u, g) = mulF a y) (h4 : (w, h) = mulF b x) : e = 0 ∧ f = 0 ∧ g = 0 ∧ h = 0 ∧ u = w ∧ u.length = 32 := by
  have l9 : (9 :: List.replicate 31 (0 : UInt8)).length = 32 := by decide
  have key : ∀ s : List UInt8, s.length = 32 → ∀ p, 0 ≤ p → p < 57896044618658097711785492504343953926634992332820282019728792003956564819949 → mulF s (leB 32 p) = (leB 32 (mulP (clampL s) p), 0) := fun s hs p p0 p1 => by
    unfold mulF
    rw [if_pos ⟨hs, leB_len 32 p⟩, leV_leB 32 p p0 (Int.lt_trans p1 (by decide)), Int.emod_eq_of_lt p0 (Int.lt_trans p1 (by decide))]
  have k9 : ∀ s : List UInt8, s.length = 32 → mulF s (9 :: List.replicate 31 0) = (leB 32 (mulP (clampL s) 9), 0) := fun s hs => by
    unfold mulF
    rw [if_pos ⟨hs, l9⟩, pt9_v]
    rfl
  rw [k9 a ha, Prod.mk.injEq] at h1
  rw [k9 b hb, Prod.mk.injEq] at h2
  obtain ⟨rfl, rfl⟩ := h1
  obtain ⟨rfl, rfl⟩ := h2
  rw [key a ha _ (mulP_rng _ _).1 (mulP_rng _ _).2, Prod.mk.injEq] at h3
  rw [key b hb _ (mulP_rng _ _).1 (mulP_rng _ _).2, Prod.mk.injEq] at h4
  obtain ⟨rfl, rfl⟩ := h3
  obtain ⟨rfl, rfl⟩ := h4
  exact ⟨rfl, rfl, rfl, rfl, by rw [agree_P (clamp_0 a ha) (clamp_0 b hb)], leB_len ..⟩
end Go.Proofs.Ytihnagafldpbnaa.V
