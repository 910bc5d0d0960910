/- Plain laws: numbers that were appended are read again. -/
import Derived.Test.YtkeefgiajogkkaaVNu
import Derived.Test.YtkeefgiajogkkaaVP
set_option linter.unusedVariables false
set_option linter.unusedSimpArgs false
namespace Go.Proofs.Ytkeefgiajogkkaa.V
open Go.RowKit
theorem num_cons (x : UInt8) (l : List UInt8) : num (x :: l) = x.toNat * 256 ^ l.length + num l := by
 have := num_append [x] l
 simpa [num] using this
theorem num_putB (v : Nat) : ∀ n, num (putB v n) = v % 256 ^ n
 | 0 => by simp [putB, num, Nat.mod_one]
 | n + 1 => by
   have e : IntKind.u8.wrap ((v : Int).fdiv (2 ^ (8 * n))) = ((v / 2 ^ (8 * n) % 256 : Nat) : Int) := by
    have e1 : (v : Int).fdiv (2 ^ (8 * n)) = ((v / 2 ^ (8 * n) : Nat) : Int) := by
     rw [show ((2 : Int) ^ (8 * n)) = ((2 ^ (8 * n) : Nat) : Int) by simp, ← Int.ofNat_fdiv]
    rw [e1, IntKind.wrap_u8]
    omega
   have e2 : (toB (IntKind.u8.wrap ((v : Int).fdiv (2 ^ (8 * n))))).toNat = v / 2 ^ (8 * n) % 256 := by
    have := toB_toNat (n := IntKind.u8.wrap ((v : Int).fdiv (2 ^ (8 * n)))) (by rw [e]; omega) (by rw [e]; omega)
    rw [e] at this
    rw [e]
    exact_mod_cast this
   rw [putB, num_cons, e2, putB_length, num_putB v n, show 256 ^ n = 2 ^ (8 * n) by rw [Nat.pow_mul], show 256 ^ (n + 1) = 2 ^ (8 * n) * 256 by rw [Nat.pow_succ, show 256 ^ n = 2 ^ (8 * n) by rw [Nat.pow_mul]], Nat.mod_mul, Nat.mul_comm]
   omega
theorem numF_at (a r : List UInt8) (v w k : Nat) (hk : a.length = k) (hw : 1 ≤ w ∧ w ≤ 8) (hv : v < 256 ^ w) : numF (a ++ (putB v w ++ r)) k w = ((v : Int), true) := by
 subst hk
 have hl : (putB (v : Int) w).length = w := putB_length _ _
 rw [numF, if_pos (by simp only [List.length_append, hl]; omega), Int.toNat_natCast, Int.toNat_natCast, List.drop_left' rfl, List.take_left' hl, num_putB, Nat.mod_eq_of_lt hv]
theorem numF_put (v w : Nat) (hw : 1 ≤ w ∧ w ≤ 8) (hv : v < 256 ^ w) : numF (putB v w) 0 w = ((v : Int), true) := by
 have := numF_at [] [] v w 0 rfl hw hv
 simpa using this
theorem putF_nat (v w : Nat) (hw : 1 ≤ w ∧ w ≤ 8) : putF (v : Int) w = putB v w := by
 rw [putF, if_pos (by omega), Int.toNat_natCast]
theorem wrap_nat (v : Nat) (h : v < 18446744073709551616) : IntKind.u64.wrap (v : Int) = v := by
 rw [IntKind.wrap_u64]; omega
end Go.Proofs.Ytkeefgiajogkkaa.V
