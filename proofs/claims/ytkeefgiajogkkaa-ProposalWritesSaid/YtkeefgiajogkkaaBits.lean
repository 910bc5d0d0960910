/- One bit set, one bit cleared. -/
import Derived.Test.YtkeefgiajogkkaaLib
namespace Go.Proofs.Ytkeefgiajogkkaa
open Go.RowKit
theorem bv_parts (X : BitVec 64) (k : Nat) (hk : k < 64) :
    (X &&& ~~~BitVec.twoPow 64 k).toNat + 2 ^ k * (X.toNat / 2 ^ k % 2) = X.toNat ∧ (X ||| BitVec.twoPow 64 k).toNat = (X &&& ~~~BitVec.twoPow 64 k).toNat + 2 ^ k := by
 have hp : (BitVec.twoPow 64 k).toNat = 2 ^ k := by
  rw [BitVec.toNat_twoPow]; exact Nat.mod_eq_of_lt (Nat.pow_lt_pow_right (by decide) hk)
 have hc : (X &&& ~~~BitVec.twoPow 64 k) &&& BitVec.twoPow 64 k = 0#64 := by
  rw [BitVec.and_assoc, BitVec.not_and_self]; simp
 have hd : (X &&& ~~~BitVec.twoPow 64 k) &&& (X &&& BitVec.twoPow 64 k) = 0#64 := by
  rw [BitVec.and_comm X (BitVec.twoPow 64 k), ← BitVec.and_assoc, hc]; simp
 have e1 : X = (X &&& ~~~BitVec.twoPow 64 k) ||| (X &&& BitVec.twoPow 64 k) := by
  ext i hi; simp
  cases X[i] <;> cases (decide (i = k)) <;> rfl
 have e2 : X ||| BitVec.twoPow 64 k = (X &&& ~~~BitVec.twoPow 64 k) ||| BitVec.twoPow 64 k := by
  ext i hi; simp
  cases X[i] <;> cases (decide (i = k)) <;> rfl
 have n1 : X.toNat = (X &&& ~~~BitVec.twoPow 64 k).toNat + (X &&& BitVec.twoPow 64 k).toNat := by
  conv => lhs; rw [e1]
  rw [← BitVec.add_eq_or_of_and_eq_zero _ _ hd, BitVec.toNat_add_of_and_eq_zero hd]
 have n2 : (X ||| BitVec.twoPow 64 k).toNat = (X &&& ~~~BitVec.twoPow 64 k).toNat + 2 ^ k := by
  rw [e2, ← BitVec.add_eq_or_of_and_eq_zero _ _ hc, BitVec.toNat_add_of_and_eq_zero hc, hp]
 have n3 : (X &&& BitVec.twoPow 64 k).toNat = 2 ^ k * (X.toNat / 2 ^ k % 2) := by
  rw [BitVec.and_twoPow]
  show (if X.toNat.testBit k = true then _ else _ : BitVec 64).toNat = _
  rw [Nat.testBit_eq_decide_div_mod_eq]
  by_cases h : X.toNat / 2 ^ k % 2 = 1
  ·rw [if_pos (by simpa using h), hp, h, Nat.mul_one]
  ·rw [if_neg (by simpa using h)]
   have : X.toNat / 2 ^ k % 2 = 0 := by omega
   rw [this]; rfl
 exact ⟨by rw [← n3]; exact n1.symm, n2⟩
def cl (x m t : Nat) : Nat := 2 ^ m * (x / 2 ^ m) + x % 2 ^ t
def st (x m t : Nat) : Nat := 2 ^ m * (x / 2 ^ m) + (2 ^ m - 2 ^ t) + x % 2 ^ t
theorem mod_step (x k : Nat) : x % 2 ^ (k + 1) = x % 2 ^ k + 2 ^ k * (x / 2 ^ k % 2) := by rw [Nat.pow_succ, Nat.mod_mul]
theorem cl_full (x m : Nat) : cl x m m = x := Nat.div_add_mod x (2 ^ m)
theorem st_full (x m : Nat) : st x m m = x := by unfold st; rw [Nat.sub_self, Nat.add_zero]; exact Nat.div_add_mod x (2 ^ m)
theorem cl_lt (x m t : Nat) (h : t ≤ m) : cl x m t ≤ x := by
 have h0 := Nat.div_add_mod x (2 ^ m)
 have h1 : x % 2 ^ t ≤ x % 2 ^ m := by
  rw [← Nat.mod_mod_of_dvd x (Nat.pow_dvd_pow 2 h)]; exact Nat.mod_le _ _
 unfold cl; omega
theorem st_le (x m t : Nat) (h : t ≤ m) : x ≤ st x m t ∧ st x m t < 2 ^ m * (x / 2 ^ m) + 2 ^ m := by
 have h0 := Nat.div_add_mod x (2 ^ m)
 have hp : 2 ^ t ≤ 2 ^ m := Nat.pow_le_pow_right (by decide) h
 have ht : x % 2 ^ t < 2 ^ t := Nat.mod_lt _ (Nat.pow_pos (by decide))
 have h2 : x % 2 ^ m = x % 2 ^ t + 2 ^ t * (x % 2 ^ m / 2 ^ t) := by
  have h3 := Nat.div_add_mod (x % 2 ^ m) (2 ^ t)
  rw [Nat.mod_mod_of_dvd x (Nat.pow_dvd_pow 2 h)] at h3
  omega
 have h4 : 2 ^ t * (x % 2 ^ m / 2 ^ t) + 2 ^ t ≤ 2 ^ m := by
  have hd : x % 2 ^ m / 2 ^ t < 2 ^ (m - t) := by
   rw [Nat.div_lt_iff_lt_mul (Nat.pow_pos (by decide)), ← Nat.pow_add, show m - t + t = m by omega]
   exact Nat.mod_lt _ (Nat.pow_pos (by decide))
  have he : 2 ^ m = 2 ^ t * 2 ^ (m - t) := by rw [← Nat.pow_add, show t + (m - t) = m by omega]
  generalize x % 2 ^ m / 2 ^ t = q at hd ⊢
  rw [he, ← Nat.mul_succ]
  exact Nat.mul_le_mul_left _ hd
 unfold st; omega
theorem bit_of (k V b r : Nat) (hr : r < 2 ^ k) (hb : b < 2) : (2 ^ k * (2 * V + b) + r) / 2 ^ k % 2 = b := by
 rw [Nat.mul_add_div (Nat.pow_pos (by decide)), Nat.div_eq_of_lt hr]; omega
theorem cl_step (x m k : Nat) (h : k < m) (h64 : m ≤ 64) (hx : x < 18446744073709551616) :
    bits .andNot .u64 (cl x m (k + 1) : Int) (2 ^ k : Nat) = (cl x m k : Int) := by
 have hlt : cl x m (k + 1) < 2 ^ 64 := by have := cl_lt x m (k + 1) h; omega
 have h2 := bv_parts (BitVec.ofNat 64 (cl x m (k + 1))) k (by omega)
 have hp : (BitVec.ofNat 64 (2 ^ k)) = BitVec.twoPow 64 k := by
  apply BitVec.eq_of_toNat_eq; rw [BitVec.toNat_twoPow, BitVec.toNat_ofNat]
 show IntKind.u64.wrap ((BitVec.ofInt 64 (cl x m (k + 1) : Int) &&& ~~~(BitVec.ofInt 64 ((2 ^ k : Nat) : Int))).toNat : Int) = _
 rw [BitVec.ofInt_natCast, BitVec.ofInt_natCast, hp]
 rw [BitVec.toNat_ofNat, Nat.mod_eq_of_lt hlt] at h2
 obtain ⟨h2, _⟩ := h2
 have hr : x % 2 ^ k < 2 ^ k := Nat.mod_lt _ (Nat.pow_pos (by decide))
 have hb : x / 2 ^ k % 2 < 2 := Nat.mod_lt _ (by decide)
 have e1 : 2 ^ m = 2 ^ k * (2 * 2 ^ (m - (k + 1))) := by rw [← Nat.mul_assoc, ← Nat.pow_succ, ← Nat.pow_add]; congr 1; omega
 have e2 : cl x m (k + 1) = 2 ^ k * (2 * (2 ^ (m - (k + 1)) * (x / 2 ^ m)) + x / 2 ^ k % 2) + x % 2 ^ k := by
  unfold cl
  rw [mod_step, Nat.mul_add]
  conv => lhs; lhs; lhs; rw [e1]
  rw [Nat.mul_assoc, Nat.mul_assoc]; omega
 have e3 : cl x m (k + 1) / 2 ^ k % 2 = x / 2 ^ k % 2 := by rw [e2]; exact bit_of _ _ _ _ hr hb
 rw [e3] at h2
 have e4 : cl x m (k + 1) = cl x m k + 2 ^ k * (x / 2 ^ k % 2) := by unfold cl; rw [mod_step]; omega
 rw [IntKind.wrap_u64]
 omega
theorem st_step (x m k : Nat) (h : k < m) (h64 : m ≤ 64) (hx : x < 18446744073709551616) :
    bits .or .u64 (st x m (k + 1) : Int) (2 ^ k : Nat) = (st x m k : Int) := by
 have h63 : 2 ^ m * (x / 2 ^ m) + 2 ^ m ≤ 2 ^ 64 := by
  have hd : x / 2 ^ m < 2 ^ (64 - m) := by
   rw [Nat.div_lt_iff_lt_mul (Nat.pow_pos (by decide)), ← Nat.pow_add, show 64 - m + m = 64 by omega]; omega
  have he : 2 ^ 64 = 2 ^ m * 2 ^ (64 - m) := by rw [← Nat.pow_add, show m + (64 - m) = 64 by omega]
  rw [he, ← Nat.mul_succ]
  exact Nat.mul_le_mul_left _ hd
 have hlt : st x m (k + 1) < 2 ^ 64 := by have := (st_le x m (k + 1) h).2; omega
 have h2 := bv_parts (BitVec.ofNat 64 (st x m (k + 1))) k (by omega)
 have hp : (BitVec.ofNat 64 (2 ^ k)) = BitVec.twoPow 64 k := by
  apply BitVec.eq_of_toNat_eq; rw [BitVec.toNat_twoPow, BitVec.toNat_ofNat]
 show IntKind.u64.wrap ((BitVec.ofInt 64 (st x m (k + 1) : Int) ||| (BitVec.ofInt 64 ((2 ^ k : Nat) : Int))).toNat : Int) = _
 rw [BitVec.ofInt_natCast, BitVec.ofInt_natCast, hp]
 rw [BitVec.toNat_ofNat, Nat.mod_eq_of_lt hlt] at h2
 obtain ⟨h2, h3⟩ := h2
 have hr : x % 2 ^ k < 2 ^ k := Nat.mod_lt _ (Nat.pow_pos (by decide))
 have hb : x / 2 ^ k % 2 < 2 := Nat.mod_lt _ (by decide)
 have e1 : 2 ^ m = 2 ^ k * (2 * 2 ^ (m - (k + 1))) := by rw [← Nat.mul_assoc, ← Nat.pow_succ, ← Nat.pow_add]; congr 1; omega
 have e5 : 2 ^ (k + 1) = 2 ^ k * 2 := Nat.pow_succ 2 k
 have hpos : 0 < 2 ^ (m - (k + 1)) := Nat.pow_pos (by decide)
 have e6 : 2 ^ m - 2 ^ (k + 1) = 2 ^ k * (2 * (2 ^ (m - (k + 1)) - 1)) := by
  rw [e1, e5, Nat.mul_sub 2, Nat.mul_sub (2 ^ k), Nat.mul_one]
 have e2 : st x m (k + 1) = 2 ^ k * (2 * (2 ^ (m - (k + 1)) * (x / 2 ^ m) + (2 ^ (m - (k + 1)) - 1)) + x / 2 ^ k % 2) + x % 2 ^ k := by
  unfold st
  rw [mod_step, e6, Nat.mul_add, Nat.mul_add 2, Nat.mul_add (2 ^ k)]
  conv => lhs; lhs; lhs; lhs; rw [e1]
  rw [Nat.mul_assoc, Nat.mul_assoc]; omega
 have e3 : st x m (k + 1) / 2 ^ k % 2 = x / 2 ^ k % 2 := by rw [e2]; exact bit_of _ _ _ _ hr hb
 rw [e3] at h2
 have hle : 2 ^ (k + 1) ≤ 2 ^ m := Nat.pow_le_pow_right (by decide) h
 have e4 : st x m (k + 1) + 2 ^ k = st x m k + 2 ^ k * (x / 2 ^ k % 2) := by unfold st; rw [mod_step]; omega
 have hl2 : st x m k < 2 ^ 64 := by have := (st_le x m k (by omega)).2; omega
 rw [IntKind.wrap_u64]
 omega
end Go.Proofs.Ytkeefgiajogkkaa
