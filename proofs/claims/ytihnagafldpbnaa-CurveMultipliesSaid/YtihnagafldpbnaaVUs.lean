/- Curve: the bits of the clamped scalar, and what swap does (printed by wip/gensw.py). -/
import Derived.Test.YtihnagafldpbnaaVUk
import Derived.Laws.Bits64
set_option linter.unusedVariables false
set_option linter.unusedSimpArgs false
namespace Go.Proofs.Ytihnagafldpbnaa.V
open Go.RowKit
set_option maxHeartbeats 80000000
set_option maxRecDepth 100000
theorem bits_rng8 (op : BinOp) (x y : Int) : 0 ≤ bits op .u8 x y ∧ bits op .u8 x y < 256 := by
 unfold bits
 simp only [IntKind.wrap_u8]
 omega
theorem ub_of {p : UInt8 → Prop} (h : ∀ n : _root_.Fin 256, p (UInt8.ofNat n.val)) (b : UInt8) : p b := by
 have := h ⟨b.toNat, b.toNat_lt⟩
 simpa using this
theorem and248 (b : UInt8) : bits .and .u8 (b.toNat : Int) 248 = ((b &&& 248).toNat : Int) := ub_of (p := fun b => bits .and .u8 (b.toNat : Int) 248 = ((b &&& 248).toNat : Int)) (by decide +kernel) b
theorem and127 (b : UInt8) : bits .and .u8 (b.toNat : Int) 127 = ((b &&& 127).toNat : Int) := ub_of (p := fun b => bits .and .u8 (b.toNat : Int) 127 = ((b &&& 127).toNat : Int)) (by decide +kernel) b
theorem or64 (b : UInt8) : bits .or .u8 (bits .and .u8 (b.toNat : Int) 127) 64 = (((b &&& 127) ||| 64).toNat : Int) := ub_of (p := fun b => bits .or .u8 (bits .and .u8 (b.toNat : Int) 127) 64 = (((b &&& 127) ||| 64).toNat : Int)) (by decide +kernel) b
theorem bit_at (b : UInt8) (r : _root_.Fin 8) : bits .and .u8 ((b.toNat : Int).fdiv (2 ^ min r.val IntKind.u8.bits)) 1 = ((b.toNat / 2 ^ r.val % 2 : Nat) : Int) :=
 ub_of (p := fun b => ∀ r : _root_.Fin 8, bits .and .u8 ((b.toNat : Int).fdiv (2 ^ min r.val IntKind.u8.bits)) 1 = ((b.toNat / 2 ^ r.val % 2 : Nat) : Int)) (by decide +kernel) b r
theorem sel_k (sc : List UInt8) (h : sc.length = 32) (n : Int) (h0 : 0 ≤ n) (h1 : n < 32) : selI (denL [IE.bt BinOp.and .u8 (IE.t fun u => ((sc.getD 0 0).toNat : Int)) (IE.c 248), IE.t fun u => ((sc.getD 1 0).toNat : Int), IE.t fun u => ((sc.getD 2 0).toNat : Int), IE.t fun u => ((sc.getD 3 0).toNat : Int), IE.t fun u => ((sc.getD 4 0).toNat : Int), IE.t fun u => ((sc.getD 5 0).toNat : Int), IE.t fun u => ((sc.getD 6 0).toNat : Int), IE.t fun u => ((sc.getD 7 0).toNat : Int), IE.t fun u => ((sc.getD 8 0).toNat : Int), IE.t fun u => ((sc.getD 9 0).toNat : Int), IE.t fun u => ((sc.getD 10 0).toNat : Int), IE.t fun u => ((sc.getD 11 0).toNat : Int), IE.t fun u => ((sc.getD 12 0).toNat : Int), IE.t fun u => ((sc.getD 13 0).toNat : Int), IE.t fun u => ((sc.getD 14 0).toNat : Int), IE.t fun u => ((sc.getD 15 0).toNat : Int), IE.t fun u => ((sc.getD 16 0).toNat : Int), IE.t fun u => ((sc.getD 17 0).toNat : Int), IE.t fun u => ((sc.getD 18 0).toNat : Int), IE.t fun u => ((sc.getD 19 0).toNat : Int), IE.t fun u => ((sc.getD 20 0).toNat : Int), IE.t fun u => ((sc.getD 21 0).toNat : Int), IE.t fun u => ((sc.getD 22 0).toNat : Int), IE.t fun u => ((sc.getD 23 0).toNat : Int), IE.t fun u => ((sc.getD 24 0).toNat : Int), IE.t fun u => ((sc.getD 25 0).toNat : Int), IE.t fun u => ((sc.getD 26 0).toNat : Int), IE.t fun u => ((sc.getD 27 0).toNat : Int), IE.t fun u => ((sc.getD 28 0).toNat : Int), IE.t fun u => ((sc.getD 29 0).toNat : Int), IE.t fun u => ((sc.getD 30 0).toNat : Int), IE.bt BinOp.or .u8 (IE.bt BinOp.and .u8 (IE.t fun u => ((sc.getD 31 0).toNat : Int)) (IE.c 127)) (IE.c 64)]) n = (((clampL sc).getD n.toNat 0).toNat : Int) := by
 match sc, h with
 | [s0, s1, s2, s3, s4, s5, s6, s7, s8, s9, s10, s11, s12, s13, s14, s15, s16, s17, s18, s19, s20, s21, s22, s23, s24, s25, s26, s27, s28, s29, s30, s31], _ =>
   have hk : n.toNat < 32 := by omega
   unfold selI
   generalize n.toNat = k at hk
   simp only [denL, den_t, den_bt, den_c, and248, or64, clampL, List.getD_cons_zero, List.getD_cons_succ, List.set_cons_zero, List.set_cons_succ]
   rcases (by omega : k = 0 ∨ k = 1 ∨ k = 2 ∨ k = 3 ∨ k = 4 ∨ k = 5 ∨ k = 6 ∨ k = 7 ∨ k = 8 ∨ k = 9 ∨ k = 10 ∨ k = 11 ∨ k = 12 ∨ k = 13 ∨ k = 14 ∨ k = 15 ∨ k = 16 ∨ k = 17 ∨ k = 18 ∨ k = 19 ∨ k = 20 ∨ k = 21 ∨ k = 22 ∨ k = 23 ∨ k = 24 ∨ k = 25 ∨ k = 26 ∨ k = 27 ∨ k = 28 ∨ k = 29 ∨ k = 30 ∨ k = 31) with rfl | rfl | rfl | rfl | rfl | rfl | rfl | rfl | rfl | rfl | rfl | rfl | rfl | rfl | rfl | rfl | rfl | rfl | rfl | rfl | rfl | rfl | rfl | rfl | rfl | rfl | rfl | rfl | rfl | rfl | rfl | rfl <;> rfl
theorem t_ok (sc : List UInt8) (h : sc.length = 32) {z : Int} (h0 : 0 ≤ z) (h1 : z ≤ 254) : bits .and .u8 ((selI (denL [IE.bt BinOp.and .u8 (IE.t fun u => ((sc.getD 0 0).toNat : Int)) (IE.c 248), IE.t fun u => ((sc.getD 1 0).toNat : Int), IE.t fun u => ((sc.getD 2 0).toNat : Int), IE.t fun u => ((sc.getD 3 0).toNat : Int), IE.t fun u => ((sc.getD 4 0).toNat : Int), IE.t fun u => ((sc.getD 5 0).toNat : Int), IE.t fun u => ((sc.getD 6 0).toNat : Int), IE.t fun u => ((sc.getD 7 0).toNat : Int), IE.t fun u => ((sc.getD 8 0).toNat : Int), IE.t fun u => ((sc.getD 9 0).toNat : Int), IE.t fun u => ((sc.getD 10 0).toNat : Int), IE.t fun u => ((sc.getD 11 0).toNat : Int), IE.t fun u => ((sc.getD 12 0).toNat : Int), IE.t fun u => ((sc.getD 13 0).toNat : Int), IE.t fun u => ((sc.getD 14 0).toNat : Int), IE.t fun u => ((sc.getD 15 0).toNat : Int), IE.t fun u => ((sc.getD 16 0).toNat : Int), IE.t fun u => ((sc.getD 17 0).toNat : Int), IE.t fun u => ((sc.getD 18 0).toNat : Int), IE.t fun u => ((sc.getD 19 0).toNat : Int), IE.t fun u => ((sc.getD 20 0).toNat : Int), IE.t fun u => ((sc.getD 21 0).toNat : Int), IE.t fun u => ((sc.getD 22 0).toNat : Int), IE.t fun u => ((sc.getD 23 0).toNat : Int), IE.t fun u => ((sc.getD 24 0).toNat : Int), IE.t fun u => ((sc.getD 25 0).toNat : Int), IE.t fun u => ((sc.getD 26 0).toNat : Int), IE.t fun u => ((sc.getD 27 0).toNat : Int), IE.t fun u => ((sc.getD 28 0).toNat : Int), IE.t fun u => ((sc.getD 29 0).toNat : Int), IE.t fun u => ((sc.getD 30 0).toNat : Int), IE.bt BinOp.or .u8 (IE.bt BinOp.and .u8 (IE.t fun u => ((sc.getD 31 0).toNat : Int)) (IE.c 127)) (IE.c 64)]) ((z.tdiv 8 + 9223372036854775808) % 18446744073709551616 - 9223372036854775808)).fdiv (2 ^ min (z.tmod 8).toNat IntKind.u8.bits)) 1 = kbit (clampL sc) z.toNat := by
 have e1 : (z.tdiv 8 + 9223372036854775808) % 18446744073709551616 - 9223372036854775808 = z / 8 := by
  rw [Int.tdiv_eq_ediv_of_nonneg h0]; omega
 have e2 : (z.tmod 8).toNat = z.toNat % 8 := by
  rw [Int.tmod_eq_emod_of_nonneg h0]; omega
 rw [e1, e2, sel_k sc h (z / 8) (by omega) (by omega), show (z / 8).toNat = z.toNat / 8 by omega]
 exact bit_at _ ⟨z.toNat % 8, by omega⟩
theorem kbit01 (l : List UInt8) (n : Nat) : kbit l n = 0 ∨ kbit l n = 1 := by
 unfold kbit
 omega
theorem x_0 {a b : Int} (ha : 0 ≤ a ∧ a < 18446744073709551616) (hb : 0 ≤ b ∧ b < 18446744073709551616) : bits .xor .u64 a (bits .and .u64 (IntKind.u64.wrap (0 - IntKind.u64.wrap 0)) b) = a := by
 obtain ⟨n, rfl⟩ := Int.eq_ofNat_of_zero_le ha.1
 obtain ⟨m, rfl⟩ := Int.eq_ofNat_of_zero_le hb.1
 rw [show IntKind.u64.wrap (0 - IntKind.u64.wrap 0) = ((0 : Nat) : Int) by decide]
 show bits .xor .u64 (n : Int) (bits .and .u64 ((0 : Nat) : Int) (m : Int)) = (n : Int)
 rw [bits_and_u64_nat 0 m (by omega) (by omega), bits_xor_u64_nat n (0 &&& m) (by omega) (by simp), Nat.zero_and, Nat.xor_zero]
theorem x_1 {a b : Int} (ha : 0 ≤ a ∧ a < 18446744073709551616) (hb : 0 ≤ b ∧ b < 18446744073709551616) : bits .xor .u64 a (bits .and .u64 (IntKind.u64.wrap (0 - IntKind.u64.wrap 1)) b) = bits .xor .u64 a b := by
 obtain ⟨n, rfl⟩ := Int.eq_ofNat_of_zero_le ha.1
 obtain ⟨m, rfl⟩ := Int.eq_ofNat_of_zero_le hb.1
 rw [show IntKind.u64.wrap (0 - IntKind.u64.wrap 1) = ((18446744073709551615 : Nat) : Int) by decide]
 show bits .xor .u64 (n : Int) (bits .and .u64 ((18446744073709551615 : Nat) : Int) (m : Int)) = bits .xor .u64 (n : Int) (m : Int)
 rw [bits_and_u64_nat 18446744073709551615 m (by omega) (by omega), Nat.and_comm, show 18446744073709551615 = 2 ^ 64 - 1 from rfl, Nat.and_two_pow_sub_one_eq_mod, Nat.mod_eq_of_lt (by omega)]
theorem xor_rng {a b : Int} : 0 ≤ bits .xor .u64 a b ∧ bits .xor .u64 a b < 18446744073709551616 := by
 unfold bits
 rw [IntKind.wrap_u64]
 omega
theorem xor_l {a b : Int} (ha : 0 ≤ a ∧ a < 18446744073709551616) (hb : 0 ≤ b ∧ b < 18446744073709551616) : bits .xor .u64 a (bits .xor .u64 a b) = b := by
 obtain ⟨n, rfl⟩ := Int.eq_ofNat_of_zero_le ha.1
 obtain ⟨m, rfl⟩ := Int.eq_ofNat_of_zero_le hb.1
 show bits .xor .u64 (n : Int) (bits .xor .u64 (n : Int) (m : Int)) = (m : Int)
 rw [bits_xor_u64_nat n m (by omega) (by omega), bits_xor_u64_nat n (n ^^^ m) (by omega) (Nat.xor_lt_two_pow (n := 64) (by omega) (by omega)), ← Nat.xor_assoc, Nat.xor_self, Nat.zero_xor]
theorem xor_r {a b : Int} (ha : 0 ≤ a ∧ a < 18446744073709551616) (hb : 0 ≤ b ∧ b < 18446744073709551616) : bits .xor .u64 b (bits .xor .u64 a b) = a := by
 obtain ⟨n, rfl⟩ := Int.eq_ofNat_of_zero_le ha.1
 obtain ⟨m, rfl⟩ := Int.eq_ofNat_of_zero_le hb.1
 show bits .xor .u64 (m : Int) (bits .xor .u64 (n : Int) (m : Int)) = (n : Int)
 rw [bits_xor_u64_nat n m (by omega) (by omega), bits_xor_u64_nat m (n ^^^ m) (by omega) (Nat.xor_lt_two_pow (n := 64) (by omega) (by omega)), Nat.xor_comm n m, ← Nat.xor_assoc, Nat.xor_self, Nat.zero_xor]
abbrev swX (t a b : Int) : Int := bits .xor .u64 a (bits .and .u64 (IntKind.u64.wrap (0 - IntKind.u64.wrap t)) (bits .xor .u64 a b))
abbrev swY (t a b : Int) : Int := bits .xor .u64 b (bits .and .u64 (IntKind.u64.wrap (0 - IntKind.u64.wrap t)) (bits .xor .u64 a b))
theorem swX_ok {t a b : Int} (ht : t = 0 ∨ t = 1) (ha : 0 ≤ a ∧ a < 2251799813947392) (hb : 0 ≤ b ∧ b < 2251799813947392) : swX t a b = (if t = 1 then b else a) ∧ swY t a b = (if t = 1 then a else b) := by
 rcases ht with rfl | rfl
 ·exact ⟨x_0 (by omega) xor_rng, x_0 (by omega) xor_rng⟩
 ·exact ⟨(x_1 (by omega) xor_rng).trans (xor_l (by omega) (by omega)), (x_1 (by omega) xor_rng).trans (xor_r (by omega) (by omega))⟩
theorem sw_cut {t T a0 a1 a2 a3 a4 b0 b1 b2 b3 b4 c0 c1 c2 c3 c4 d0 d1 d2 d3 d4 : Int} (ht : t = T) (hT : T = 0 ∨ T = 1) (ha : LimE 2251799813947392 (a0, a1, a2, a3, a4, ())) (hb : LimE 2251799813947392 (b0, b1, b2, b3, b4, ())) (e0 : swX t a0 b0 = c0) (e1 : swX t a1 b1 = c1) (e2 : swX t a2 b2 = c2) (e3 : swX t a3 b3 = c3) (e4 : swX t a4 b4 = c4) (f0 : swY t a0 b0 = d0) (f1 : swY t a1 b1 = d1) (f2 : swY t a2 b2 = d2) (f3 : swY t a3 b3 = d3) (f4 : swY t a4 b4 = d4) : LimE 2251799813947392 (c0, c1, c2, c3, c4, ()) ∧ LimE 2251799813947392 (d0, d1, d2, d3, d4, ()) ∧ valE (c0, c1, c2, c3, c4, ()) = (if T = 1 then valE (b0, b1, b2, b3, b4, ()) else valE (a0, a1, a2, a3, a4, ())) ∧ valE (d0, d1, d2, d3, d4, ()) = (if T = 1 then valE (a0, a1, a2, a3, a4, ()) else valE (b0, b1, b2, b3, b4, ())) := by
 subst ht
 obtain ⟨a5, a6, a7, a8, a9⟩ := id ha
 obtain ⟨b5, b6, b7, b8, b9⟩ := id hb
 dsimp only at a5 a6 a7 a8 a9 b5 b6 b7 b8 b9
 rw [(swX_ok hT a5 b5).1] at e0
 rw [(swX_ok hT a5 b5).2] at f0
 rw [(swX_ok hT a6 b6).1] at e1
 rw [(swX_ok hT a6 b6).2] at f1
 rw [(swX_ok hT a7 b7).1] at e2
 rw [(swX_ok hT a7 b7).2] at f2
 rw [(swX_ok hT a8 b8).1] at e3
 rw [(swX_ok hT a8 b8).2] at f3
 rw [(swX_ok hT a9 b9).1] at e4
 rw [(swX_ok hT a9 b9).2] at f4
 by_cases h : t = 1
 ·simp only [if_pos h] at *
  subst e0 f0 e1 f1 e2 f2 e3 f3 e4 f4
  exact ⟨hb, ha, rfl, rfl⟩
 ·simp only [if_neg h] at *
  subst e0 f0 e1 f1 e2 f2 e3 f3 e4 f4
  exact ⟨ha, hb, rfl, rfl⟩
end Go.Proofs.Ytihnagafldpbnaa.V
