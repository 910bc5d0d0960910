/- Curve: the ladder in numbers (pure). -/
import Derived.Test.YtihnagafldpbnaaVUf
import Derived.Test.YtihnagafldpbnaaVUi
set_option linter.unusedVariables false
set_option linter.unusedSimpArgs false
namespace Go.Proofs.Ytihnagafldpbnaa.V
open Go.RowKit
set_option maxHeartbeats 80000000
set_option maxRecDepth 100000
theorem Cg.of_emod {x y : Int} (h : x % 57896044618658097711785492504343953926634992332820282019728792003956564819949 = y % 57896044618658097711785492504343953926634992332820282019728792003956564819949) : Cg x y := ⟨x / 57896044618658097711785492504343953926634992332820282019728792003956564819949 - y / 57896044618658097711785492504343953926634992332820282019728792003956564819949, by rw [Int.sub_mul]; omega⟩
def powS (a r : Int) (bit : Int) : Int := if bit = 2 ∨ bit = 4 then r * r % 57896044618658097711785492504343953926634992332820282019728792003956564819949 else (r * r % 57896044618658097711785492504343953926634992332820282019728792003956564819949) * a % 57896044618658097711785492504343953926634992332820282019728792003956564819949
def powR (a : Int) : Nat → Int → Int
 | 0, r => r
 | n + 1, r => powR a n (powS a r n)
def powA (a : Int) : Int := powR a 255 1
theorem Cg.sqr {x y r : Int} (h : Cg y (r * r)) (hx : r % 57896044618658097711785492504343953926634992332820282019728792003956564819949 = x) : y % 57896044618658097711785492504343953926634992332820282019728792003956564819949 = x * x % 57896044618658097711785492504343953926634992332820282019728792003956564819949 := by
 rw [h.emod, ← hx]; exact ((Cg.mod r).symm.mul (Cg.mod r).symm).emod
theorem Cg.prd {x y z r s : Int} (h : Cg z (r * s)) (hx : r % 57896044618658097711785492504343953926634992332820282019728792003956564819949 = x) (hy : s % 57896044618658097711785492504343953926634992332820282019728792003956564819949 = y) : z % 57896044618658097711785492504343953926634992332820282019728792003956564819949 = x * y % 57896044618658097711785492504343953926634992332820282019728792003956564819949 := by
 rw [h.emod, ← hx, ← hy]; exact ((Cg.mod r).symm.mul (Cg.mod s).symm).emod
def ladS (x1 t : Int) (s : Int × Int × Int × Int) : Int × Int × Int × Int :=
 let x2 := if t = 1 then s.2.2.1 else s.1
 let z2 := if t = 1 then s.2.2.2 else s.2.1
 let x3 := if t = 1 then s.1 else s.2.2.1
 let z3 := if t = 1 then s.2.1 else s.2.2.2
 let da := (x3 - z3) * (x2 + z2)
 let cb := (x3 + z3) * (x2 - z2)
 let aa := (x2 + z2) * (x2 + z2)
 let bb := (x2 - z2) * (x2 - z2)
 let X2 := aa * bb % 57896044618658097711785492504343953926634992332820282019728792003956564819949
 let Z2 := (aa - bb) * (aa + (aa - bb) * 121665) % 57896044618658097711785492504343953926634992332820282019728792003956564819949
 let X3 := (da + cb) * (da + cb) % 57896044618658097711785492504343953926634992332820282019728792003956564819949
 let Z3 := x1 * ((da - cb) * (da - cb)) % 57896044618658097711785492504343953926634992332820282019728792003956564819949
 if t = 1 then (X3, Z3, X2, Z2) else (X2, Z2, X3, Z3)
def ladR (k : Nat → Int) (x1 : Int) : Nat → Int × Int × Int × Int → Int × Int × Int × Int
 | 0, s => s
 | n + 1, s => ladR k x1 n (ladS x1 (k n) s)
def kbit (l : List UInt8) (n : Nat) : Int := (((l.getD (n / 8) 0).toNat / 2 ^ (n % 8) % 2 : Nat) : Int)
def fin4 (s : Int × Int × Int × Int) : Int := s.1 * powA s.2.1 % 57896044618658097711785492504343953926634992332820282019728792003956564819949
def mulP (l : List UInt8) (x1 : Int) : Int := fin4 (ladR (kbit l) x1 255 (1, 0, x1 % 57896044618658097711785492504343953926634992332820282019728792003956564819949, 1))
def clampL (s : List UInt8) : List UInt8 := (s.set 0 (s.getD 0 0 &&& 248)).set 31 ((s.getD 31 0 &&& 127) ||| 64)
def leV : List UInt8 → Int
 | [] => 0
 | b :: l => (b.toNat : Int) + 256 * leV l
def mulF (s p : List UInt8) : List UInt8 × Int := if s.length = 32 ∧ p.length = 32 then (leB 32 (mulP (clampL s) (leV p % 57896044618658097711785492504343953926634992332820282019728792003956564819968)), 0) else ([], 2)
end Go.Proofs.Ytihnagafldpbnaa.V
