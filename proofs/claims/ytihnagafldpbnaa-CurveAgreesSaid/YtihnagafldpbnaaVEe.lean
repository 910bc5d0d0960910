/- The field of 2^255 - 19 elements: no zero divisors, Fermat, inverses, a number that is no square (pure). The Edwards curve: its addition is complete (pure). The Edwards curve: sums are on the curve; associativity (pure; certificates by wip/genassoc.py, wip/genclose.py). -/
import Derived.Test.YtihnagafldpbnaaVUk
import Derived.Test.YtihnagafldpbnaaVUw
import Derived.Test.YtihnagafldpbnaaVEb
set_option linter.unusedVariables false
set_option linter.unusedSimpArgs false
namespace Go.Proofs.Ytihnagafldpbnaa.V
open Go.RowKit
set_option maxHeartbeats 8000000
set_option maxRecDepth 100000
theorem Cg.pow {x y : Int} (h : Cg x y) (n : Nat) : Cg (x ^ n) (y ^ n) := by
  induction n with
  | zero => rw [Int.pow_zero, Int.pow_zero]; exact Cg.refl _
  | succ n ih => rw [Int.pow_succ, Int.pow_succ]; exact ih.mul h
theorem cg_nat {n : Nat} (h : 57896044618658097711785492504343953926634992332820282019728792003956564819949 ∣ n) : Cg (n : Int) 0 := by
  obtain ⟨c, rfl⟩ := h
  exact ⟨c, by rw [Int.natCast_mul, Int.mul_comm]; omega⟩
theorem Cg.euc {a b : Int} (h : Cg (a * b) 0) : Cg a 0 ∨ Cg b 0 := by
  obtain ⟨m, hm⟩ := Int.eq_ofNat_of_zero_le (Int.emod_nonneg a (show 57896044618658097711785492504343953926634992332820282019728792003956564819949 ≠ 0 by decide))
  obtain ⟨n, hn⟩ := Int.eq_ofNat_of_zero_le (Int.emod_nonneg b (show 57896044618658097711785492504343953926634992332820282019728792003956564819949 ≠ 0 by decide))
  have k : Cg ((m * n : Nat) : Int) 0 := by
    rw [Int.natCast_mul, ← hm, ← hn]
    exact ((Cg.mod a).mul (Cg.mod b)).trans h
  have d : 57896044618658097711785492504343953926634992332820282019728792003956564819949 ∣ m * n := by
    obtain ⟨q, hq⟩ := k
    exact ⟨q.toNat, by omega⟩
  rcases pri_P.euc d with d | d
  · left
    have := cg_nat d
    rw [← hm] at this
    exact (Cg.mod a).symm.trans this
  · right
    have := cg_nat d
    rw [← hn] at this
    exact (Cg.mod b).symm.trans this
theorem ferm_gen {p e : Nat} (hp : Pri p) (he : e + 1 = p) {n : Nat} (h : ¬ p ∣ n) : ∃ q : Nat, n ^ e = 1 + q * p := by
  have k := hp.fermat1 h
  rw [show p - 1 = e by omega, Nat.mod_eq_of_lt hp.two] at k
  refine ⟨n ^ e / p, ?_⟩
  have := Nat.div_add_mod (n ^ e) p
  rw [k, Nat.mul_comm] at this
  omega
theorem fermZ {a : Int} (h : ¬ Cg a 0) {e : Nat} (he : e + 1 = 57896044618658097711785492504343953926634992332820282019728792003956564819949) : Cg (a ^ e) 1 := by
  obtain ⟨n, hn⟩ := Int.eq_ofNat_of_zero_le (Int.emod_nonneg a (show 57896044618658097711785492504343953926634992332820282019728792003956564819949 ≠ 0 by decide))
  have hc : Cg a (n : Int) := by rw [← hn]; exact (Cg.mod a).symm
  have hd : ¬ 57896044618658097711785492504343953926634992332820282019728792003956564819949 ∣ n := fun d => h (hc.trans (cg_nat d))
  obtain ⟨q, hq⟩ := ferm_gen pri_P he hd
  refine (hc.pow e).trans ⟨q, ?_⟩
  rw [← Int.natCast_pow, hq]
  omega
def exA : Nat → Nat
  | 0 => 0
  | n + 1 => (if n = 2 ∨ n = 4 then 0 else 2 ^ n) + exA n
theorem sq_pow (r : Int) (m : Nat) : (r * r) ^ m = r ^ (m + m) := by
  rw [Int.mul_pow, ← Int.pow_add]
theorem powR_eq (a : Int) (n : Nat) (r : Int) : Cg (powR a n r) (r ^ (2 ^ n) * a ^ exA n) := by
  induction n generalizing r with
  | zero => rw [powR, exA, Nat.pow_zero, Int.pow_zero, Int.pow_succ, Int.pow_zero, Int.one_mul, Int.mul_one]; exact Cg.refl _
  | succ n ih =>
    rw [powR]
    refine (ih _).trans ?_
    unfold powS
    rw [exA, Nat.pow_succ, Nat.mul_two, ← sq_pow]
    by_cases h : n = 2 ∨ n = 4
    · rw [if_pos (by omega), if_pos h, Nat.zero_add]
      exact ((Cg.mod _).pow _).mul (Cg.refl _)
    · rw [if_neg (by omega), if_neg h]
      refine ((((Cg.mod _).trans ((Cg.mod _).mul (Cg.refl a))).pow _).mul (Cg.refl _)).re rfl ?_
      rw [show (r * r * a) ^ 2 ^ n = (r * r) ^ 2 ^ n * a ^ 2 ^ n from Int.mul_pow, Int.pow_add a, Int.mul_assoc]
theorem exA_255 : exA 255 + 1 + 1 = 57896044618658097711785492504343953926634992332820282019728792003956564819949 := by decide +kernel
theorem powA_eq (a : Int) : Cg (powA a) (a ^ exA 255) := by
  have := powR_eq a 255 1
  rw [Int.one_pow, Int.one_mul] at this
  exact this
theorem inv_ok {a : Int} (h : ¬ Cg a 0) : Cg (a * powA a) 1 := by
  have k := fermZ h exA_255
  rw [Int.pow_succ, Int.mul_comm] at k
  exact ((Cg.refl a).mul (powA_eq a)).trans k
theorem inv_zero {a : Int} (h : Cg a 0) : Cg (powA a) 0 := by
  obtain ⟨u, hu⟩ := pow_fac a 254 1
  unfold powA
  rw [hu]
  exact (Cg.mod _).trans (((Cg.refl u).mul h).re rfl (by omega))
theorem one_ne : ¬ Cg 1 0 := fun ⟨q, hq⟩ => by omega
theorem two_ne : ¬ Cg 2 0 := fun ⟨q, hq⟩ => by omega
theorem nonsq {d u w : Int} {m : Nat} (hm : m + m + 1 = 57896044618658097711785492504343953926634992332820282019728792003956564819949) (hd : Cg (d ^ m) (-1)) (h : Cg (d * (u * u)) (w * w)) : Cg u 0 := by
  apply Classical.byContradiction
  intro hu
  have k := h.pow m
  rw [Int.mul_pow, sq_pow, sq_pow] at k
  have k1 := ((hd.mul (fermZ hu hm)).symm.trans k)
  by_cases hw : Cg w 0
  · have k2 := hw.pow (m + m)
    rw [Int.zero_pow (by omega)] at k2
    obtain ⟨q, hq⟩ := k1.trans k2
    omega
  · obtain ⟨q, hq⟩ := k1.trans (fermZ hw hm)
    omega
end Go.Proofs.Ytihnagafldpbnaa.V
set_option linter.unusedVariables false
set_option linter.unusedSimpArgs false
namespace Go.Proofs.Ytihnagafldpbnaa.V
open Go.RowKit
set_option maxHeartbeats 8000000
set_option maxRecDepth 100000
theorem Cg.zl {p : Int} (h : Cg p 0) (c : Int) : Cg (c * p) 0 := ((Cg.refl c).mul h).re rfl (by omega)
theorem Cg.zadd {p q : Int} (h : Cg p 0) (k : Cg q 0) : Cg (p + q) 0 := (h.add k).re rfl (by omega)
theorem pm_cg {b e k : Nat} (h : pmB 57896044618658097711785492504343953926634992332820282019728792003956564819949 256 b e = k) (he : e < 115792089237316195423570985008687907853269984665640564039457584007913129639936) : Cg ((b : Int) ^ e) (k : Int) := by
  rw [pmB_eq _ _ _ _ he] at h
  rw [← Int.natCast_pow, ← h]
  refine ⟨((b ^ e / 57896044618658097711785492504343953926634992332820282019728792003956564819949 : Nat) : Int), ?_⟩
  have := Nat.div_add_mod (b ^ e) 57896044618658097711785492504343953926634992332820282019728792003956564819949
  omega
/-- d, and a root of -1. -/
def dE : Int := ((37095705934669439343138083508754565189542113879843219016388785533085940283555 : Nat) : Int)
def sE : Int := 19681161376707505956807079304988542015446066515923890162744021073123829784752
theorem sE_sq : Cg (sE * sE + 1) 0 := ⟨(sE * sE + 1) / 57896044618658097711785492504343953926634992332820282019728792003956564819949, by decide +kernel⟩
theorem dE_m : ∃ m : Nat, m + m + 1 = 57896044618658097711785492504343953926634992332820282019728792003956564819949 ∧ Cg (dE ^ m) (-1) :=
  ⟨28948022309329048855892746252171976963317496166410141009864396001978282409974, by decide, (pm_cg (k := 57896044618658097711785492504343953926634992332820282019728792003956564819948) (by decide +kernel) (by decide +kernel)).trans ⟨1, by decide⟩⟩
theorem nonsqE {u w : Int} (h : Cg (dE * (u * u)) (w * w)) : Cg u 0 := by
  obtain ⟨m, hm, hd⟩ := dE_m
  exact nonsq hm hd h
def eE (x y : Int) : Int := -x^2 + y^2 - 1 - dE * x^2 * y^2
/-- A point of the curve. -/
structure OnE (x y : Int) : Prop where
  eq : Cg (eE x y) 0
theorem den_sq {x1 y1 x2 y2 e : Int} (h1 : OnE x1 y1) (h2 : OnE x2 y2) (he : e = dE * x1 * x2 * y1 * y2) (hs : Cg (e * e - 1) 0) : False := by
  have k1 := h1.eq
  have k2 := h2.eq
  unfold eE at k1 k2
  have base := (((sE_sq.zl (dE * x1^2 * y1^2 * x2^2 - x1^2)).zadd (k2.zl (dE * x1^2 * y1^2))).zadd (k1.zl (-1))).zadd (hs.zl (1 - y1^2))
  have a : Cg (dE * ((x1 * y1 * (sE * x2 + y2)) * (x1 * y1 * (sE * x2 + y2)))) ((sE * x1 + e * y1) * (sE * x1 + e * y1)) := by
    refine Cg.of_sub (base.re ?_ rfl)
    subst he
    grind
  have b : Cg (dE * ((x1 * y1 * (sE * x2 - y2)) * (x1 * y1 * (sE * x2 - y2)))) ((sE * x1 - e * y1) * (sE * x1 - e * y1)) := by
    refine Cg.of_sub (base.re ?_ rfl)
    subst he
    grind
  have a0 := nonsqE a
  have b0 := nonsqE b
  have ne : ∀ v w : Int, e = v * w → ¬ Cg v 0 := fun v w hvw hv => by
    have : Cg e 0 := by rw [hvw]; exact hv.z_mul w
    obtain ⟨q, hq⟩ := (((this.mul this).sub (Cg.refl 1)).symm.trans hs)
    omega
  have nx := ne (x1 * y1) (dE * x2 * y2) (by rw [he]; grind)
  have ny := ne y2 (dE * x1 * x2 * y1) (by rw [he]; grind)
  rcases a0.euc with k | k
  · exact nx k
  · rcases b0.euc with j | j
    · exact nx j
    · have t : Cg (2 * y2) 0 := (k.sub j).re (by omega) (by omega)
      rcases t.euc with k | k
      · exact two_ne k
      · exact ny k
theorem den_p {x1 y1 x2 y2 : Int} (h1 : OnE x1 y1) (h2 : OnE x2 y2) : ¬ Cg (1 + dE * x1 * x2 * y1 * y2) 0 := fun h =>
  den_sq h1 h2 rfl ((h.zl (dE * x1 * x2 * y1 * y2 - 1)).re (by grind) rfl)
theorem den_m {x1 y1 x2 y2 : Int} (h1 : OnE x1 y1) (h2 : OnE x2 y2) : ¬ Cg (1 - dE * x1 * x2 * y1 * y2) 0 := fun h =>
  den_sq h1 h2 rfl ((h.zl (-(dE * x1 * x2 * y1 * y2) - 1)).re (by grind) rfl)
end Go.Proofs.Ytihnagafldpbnaa.V
set_option linter.unusedVariables false
set_option linter.unusedSimpArgs false
namespace Go.Proofs.Ytihnagafldpbnaa.V
open Go.RowKit
set_option maxHeartbeats 80000000
set_option maxRecDepth 100000
def addX (x1 y1 x2 y2 : Int) : Int := (x1 * y2 + y1 * x2) * powA (1 + dE * x1 * x2 * y1 * y2)
def addY (x1 y1 x2 y2 : Int) : Int := (y1 * y2 + x1 * x2) * powA (1 - dE * x1 * x2 * y1 * y2)
theorem fr_ok {n d : Int} (h : ¬ Cg d 0) : Cg (n * powA d * d) n :=
  ((Cg.refl n).mul (inv_ok h)).re (by grind) (by omega)
theorem addX_ok {x1 y1 x2 y2 : Int} (h1 : OnE x1 y1) (h2 : OnE x2 y2) : Cg (addX x1 y1 x2 y2 * (1 + dE * x1 * x2 * y1 * y2)) (x1 * y2 + y1 * x2) := fr_ok (den_p h1 h2)
theorem addY_ok {x1 y1 x2 y2 : Int} (h1 : OnE x1 y1) (h2 : OnE x2 y2) : Cg (addY x1 y1 x2 y2 * (1 - dE * x1 * x2 * y1 * y2)) (y1 * y2 + x1 * x2) := fr_ok (den_m h1 h2)
theorem Cg.ne_mul {a b : Int} (ha : ¬ Cg a 0) (hb : ¬ Cg b 0) : ¬ Cg (a * b) 0 := fun h => by
  rcases h.euc with k | k
  · exact ha k
  · exact hb k
theorem close_ring (x1 y1 x2 y2 d : Int) : -(x1 * y2 + y1 * x2)^2 * (1 - d * x1 * x2 * y1 * y2)^2 + (y1 * y2 + x1 * x2)^2 * (1 + d * x1 * x2 * y1 * y2)^2 - (1 + d * x1 * x2 * y1 * y2)^2 * (1 - d * x1 * x2 * y1 * y2)^2 - d * (x1 * y2 + y1 * x2)^2 * (y1 * y2 + x1 * x2)^2
    = (d^3 * x1^2 * x2^4 * y1^2 * y2^4 - d^2 * x1^2 * x2^4 * y2^4 + d^2 * x2^4 * y1^2 * y2^4 - d^2 * x2^4 * y2^4 - d * x1^2 * x2^4 * y2^2 + d * x1^2 * x2^2 * y2^4 + d * x2^4 * y1^2 * y2^2 - 2 * d * x2^4 * y2^4 - d * x2^2 * y1^2 * y2^4 - 2 * d * x2^2 * y2^2 - 2 * x2^4 * y2^2 + x2^4 + 2 * x2^2 * y2^4 - 4 * x2^2 * y2^2 + y2^4) * (-x1^2 + y1^2 - 1 - d * x1^2 * y1^2)
    + (d * x1^4 * x2^2 * y2^2 + 2 * d * x1^2 * x2^2 * y2^2 + d * x2^2 * y1^4 * y2^2 - 2 * d * x2^2 * y1^2 * y2^2 + d * x2^2 * y2^2 + 2 * x1^2 * x2^2 * y2^2 - x1^2 * x2^2 + x1^2 * y2^2 - 2 * x2^2 * y1^2 * y2^2 + x2^2 * y1^2 + 2 * x2^2 * y2^2 - x2^2 - y1^2 * y2^2 + y2^2 + 1) * (-x2^2 + y2^2 - 1 - d * x2^2 * y2^2) := by grind
theorem Cg.zn {x y : Int} (h : Cg x y) : Cg (-x) (-y) := ((Cg.refl 0).sub h).re (by omega) (by omega)
theorem Cg.sq {x y : Int} (h : Cg x y) : Cg (x^2) (y^2) := h.pow 2
theorem on_add {x1 y1 x2 y2 : Int} (h1 : OnE x1 y1) (h2 : OnE x2 y2) : OnE (addX x1 y1 x2 y2) (addY x1 y1 x2 y2) := by
  have ku := addX_ok h1 h2
  have kv := addY_ok h1 h2
  have np := den_p h1 h2
  have nm := den_m h1 h2
  have c := close_ring x1 y1 x2 y2 dE
  generalize addX x1 y1 x2 y2 = u at *
  generalize addY x1 y1 x2 y2 = v at *
  generalize x1 * y2 + y1 * x2 = X at *
  generalize y1 * y2 + x1 * x2 = Y at *
  generalize 1 + dE * x1 * x2 * y1 * y2 = p at *
  generalize 1 - dE * x1 * x2 * y1 * y2 = m at *
  have z : Cg (-X^2 * m^2 + Y^2 * p^2 - p^2 * m^2 - dE * X^2 * Y^2) 0 := by
    rw [c]
    exact (h1.eq.zl _).zadd (h2.eq.zl _)
  have e : Cg ((p * p * (m * m)) * eE u v) (-X^2 * m^2 + Y^2 * p^2 - p^2 * m^2 - dE * X^2 * Y^2) := by
    have t := (((((ku.sq).mul (Cg.refl (m^2))).zn).add ((kv.sq).mul (Cg.refl (p^2)))).sub (Cg.refl (p^2 * m^2))).sub (((Cg.refl dE).mul ku.sq).mul kv.sq)
    refine t.re ?_ ?_
    · unfold eE; grind
    · grind
  refine ⟨?_⟩
  rcases (e.trans z).euc with k | k
  · exact absurd k (Cg.ne_mul (Cg.ne_mul np np) (Cg.ne_mul nm nm))
  · exact k
end Go.Proofs.Ytihnagafldpbnaa.V
