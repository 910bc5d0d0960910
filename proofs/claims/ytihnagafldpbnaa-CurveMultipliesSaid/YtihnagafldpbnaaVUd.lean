/- Curve: the numbers that mul computes (pure). -/
import Derived.Test.YtihnagafldpbnaaVUb
set_option linter.unusedVariables false
set_option linter.unusedSimpArgs false
namespace Go.Proofs.Ytihnagafldpbnaa.V
open Go.RowKit
set_option maxHeartbeats 80000000
set_option maxRecDepth 100000
def w0L (a b : ElT) : Int := a.1 * b.1 + 19 * (a.2.1 * b.2.2.2.2.1) + 19 * (a.2.2.1 * b.2.2.2.1) + 19 * (a.2.2.2.1 * b.2.2.1) + 19 * (a.2.2.2.2.1 * b.2.1)
def w1L (a b : ElT) : Int := a.1 * b.2.1 + a.2.1 * b.1 + 19 * (a.2.2.1 * b.2.2.2.2.1) + 19 * (a.2.2.2.1 * b.2.2.2.1) + 19 * (a.2.2.2.2.1 * b.2.2.1)
def w2L (a b : ElT) : Int := a.1 * b.2.2.1 + a.2.1 * b.2.1 + a.2.2.1 * b.1 + 19 * (a.2.2.2.1 * b.2.2.2.2.1) + 19 * (a.2.2.2.2.1 * b.2.2.2.1)
def w3L (a b : ElT) : Int := a.1 * b.2.2.2.1 + a.2.1 * b.2.2.1 + a.2.2.1 * b.2.1 + a.2.2.2.1 * b.1 + 19 * (a.2.2.2.2.1 * b.2.2.2.2.1)
def w4L (a b : ElT) : Int := a.1 * b.2.2.2.2.1 + a.2.1 * b.2.2.2.1 + a.2.2.1 * b.2.2.1 + a.2.2.2.1 * b.2.1 + a.2.2.2.2.1 * b.1
def carW (w0 w1 w2 w3 w4 : Int) : ElT :=
 let t1 := w1 + w0 / 2251799813685248
 let t2 := w2 + t1 / 2251799813685248
 let t3 := w3 + t2 / 2251799813685248
 let t4 := w4 + t3 / 2251799813685248
 let s := w0 % 2251799813685248 + 19 * (t4 / 2251799813685248)
 (s % 2251799813685248, t1 % 2251799813685248 + s / 2251799813685248, t2 % 2251799813685248, t3 % 2251799813685248, t4 % 2251799813685248, ())
def mulL (a b : ElT) : ElT := carL (carW (w0L a b) (w1L a b) (w2L a b) (w3L a b) (w4L a b))
abbrev Wb (w : Int) : Prop := 0 ≤ w ∧ w < 1298074214633706907132624082305024
theorem mul_b {x y : Int} (hx : 0 ≤ x ∧ x < 2251799813947392) (hy : 0 ≤ y ∧ y < 2251799813947392) : 0 ≤ x * y ∧ x * y < 10141204801825835211973625643008 := by
 refine ⟨Int.mul_nonneg hx.1 hy.1, ?_⟩
 have : x * y ≤ 2251799813947391 * 2251799813947391 := Int.mul_le_mul (by omega) (by omega) hy.1 (by omega)
 omega
theorem wL_b {a b : ElT} (ha : LimE 2251799813947392 a) (hb : LimE 2251799813947392 b) : Wb (w0L a b) ∧ Wb (w1L a b) ∧ Wb (w2L a b) ∧ Wb (w3L a b) ∧ Wb (w4L a b) := by
 obtain ⟨l0, l1, l2, l3, l4⟩ := ha
 obtain ⟨m0, m1, m2, m3, m4⟩ := hb
 have p00 := mul_b l0 m0; have p01 := mul_b l0 m1; have p02 := mul_b l0 m2; have p03 := mul_b l0 m3; have p04 := mul_b l0 m4
 have p10 := mul_b l1 m0; have p11 := mul_b l1 m1; have p12 := mul_b l1 m2; have p13 := mul_b l1 m3; have p14 := mul_b l1 m4
 have p20 := mul_b l2 m0; have p21 := mul_b l2 m1; have p22 := mul_b l2 m2; have p23 := mul_b l2 m3; have p24 := mul_b l2 m4
 have p30 := mul_b l3 m0; have p31 := mul_b l3 m1; have p32 := mul_b l3 m2; have p33 := mul_b l3 m3; have p34 := mul_b l3 m4
 have p40 := mul_b l4 m0; have p41 := mul_b l4 m1; have p42 := mul_b l4 m2; have p43 := mul_b l4 m3; have p44 := mul_b l4 m4
 clear l0 l1 l2 l3 l4 m0 m1 m2 m3 m4
 refine ⟨?_, ?_, ?_, ?_, ?_⟩
 ·unfold w0L; constructor <;> omega
 ·unfold w1L; constructor <;> omega
 ·unfold w2L; constructor <;> omega
 ·unfold w3L; constructor <;> omega
 ·unfold w4L; constructor <;> omega
theorem carW_lim {w0 w1 w2 w3 w4 : Int} (h0 : Wb w0) (h1 : Wb w1) (h2 : Wb w2) (h3 : Wb w3) (h4 : Wb w4) : LimE 18446744073709551616 (carW w0 w1 w2 w3 w4) := by
 unfold carW
 refine ⟨?_, ?_, ?_, ?_, ?_⟩ <;> (dsimp only; omega)
theorem carW_val (w0 w1 w2 w3 w4 : Int) : ∃ q, w0 + 2251799813685248 * w1 + 5070602400912917605986812821504 * w2 + 11417981541647679048466287755595961091061972992 * w3 + 25711008708143844408671393477458601640355247900524685364822016 * w4 = valE (carW w0 w1 w2 w3 w4) + q * 57896044618658097711785492504343953926634992332820282019728792003956564819949 := by
 refine ⟨(w4 + (w3 + (w2 + (w1 + w0 / 2251799813685248) / 2251799813685248) / 2251799813685248) / 2251799813685248) / 2251799813685248, ?_⟩
 unfold carW valE
 dsimp only
 omega
theorem shl13 (a : Int) : IntKind.u64.wrap (a * 2 ^ min (Int.toNat 13) IntKind.u64.bits) = a * 8192 % 18446744073709551616 := by
 rw [IntKind.wrap_u64]
 rfl
theorem or13 {x y : Int} (hx : 0 ≤ x ∧ x < 2251799813685248) (hy : 0 ≤ y ∧ y < 8192) : bits .or .u64 (x * 8192 % 18446744073709551616) y = x * 8192 + y := by
 obtain ⟨a, rfl⟩ := Int.eq_ofNat_of_zero_le hx.1
 obtain ⟨b, rfl⟩ := Int.eq_ofNat_of_zero_le hy.1
 have e := bits_or_u64_nat (2 ^ 13 * a) b (by omega) (by omega)
 rw [← Nat.two_pow_add_eq_or_of_lt (show b < 2 ^ 13 by omega) a] at e
 rw [show (a : Int) * 8192 % 18446744073709551616 = ((2 ^ 13 * a : Nat) : Int) by omega, e]
 omega
theorem orD {r o A : Int} (hr : 0 ≤ r + o ∧ r + o < 2251799813685248) (hA : 0 ≤ A ∧ A < 18446744073709551616) : bits .or .u64 (IntKind.u64.wrap (IntKind.u64.wrap (r + o) * 2 ^ min (Int.toNat 13) IntKind.u64.bits)) (A.fdiv (2 ^ min (Int.toNat 51) IntKind.u64.bits)) = (A + 18446744073709551616 * (r + o)) / 2251799813685248 := by
 rw [show IntKind.u64.wrap (r + o) = r + o from wru (by omega), shl13, shr51, or13 hr (by omega)]
 omega
abbrev Sm (q r w : Int) : Prop := q + 18446744073709551616 * r = w ∧ (0 ≤ q ∧ q < 18446744073709551616) ∧ 0 ≤ r ∧ r < 1152921504606846976
abbrev Sa (A o t : Int) : Prop := A + 18446744073709551616 * o = t ∧ (0 ≤ A ∧ A < 18446744073709551616) ∧ 0 ≤ o ∧ o ≤ 1
abbrev orX (r o A : Int) : Int := bits .or .u64 (IntKind.u64.wrap (IntKind.u64.wrap (r + o) * 2 ^ min (Int.toNat 13) IntKind.u64.bits)) (A.fdiv (2 ^ min (Int.toNat 51) IntKind.u64.bits))
theorem sm_r {q r w : Int} (h : Sm q r w) (hw : Wb w) : r < 70368744177664 := by
 obtain ⟨h1, h2, h3, h4⟩ := h
 obtain ⟨g1, g2⟩ := hw
 omega
theorem sa_t {q r w A o c t : Int} (h : Sm q r w) (hw : Wb w) (hc : 0 ≤ c ∧ c < 1152921504606846976) (ha : Sa A o (q + c + 0)) (ht : t = w + c) : A % 2251799813685248 = t % 2251799813685248 ∧ orX r o A = t / 2251799813685248 ∧ 0 ≤ t / 2251799813685248 ∧ t / 2251799813685248 < 1152921504606846976 := by
 have hr := sm_r h hw
 obtain ⟨h1, h2, h3, h4⟩ := h
 obtain ⟨g1, g2, g3, g4⟩ := ha
 obtain ⟨k1, k2⟩ := hw
 have e : A + 18446744073709551616 * (r + o) = t := by omega
 refine ⟨by omega, ?_, by omega, by omega⟩
 unfold orX
 rw [orD (by omega) g2, e]
theorem mul_fin {w0 w1 w2 w3 w4 q0 r0 q1 r1 q2 r2 q3 r3 q4 r4 A0 o0 A1 o1 A2 o2 A3 o3 A4 o4 hi lo L ov : Int} (k0 : Wb w0) (k1 : Wb w1) (k2 : Wb w2) (k3 : Wb w3) (k4 : Wb w4) (s0 : Sm q0 r0 w0) (s1 : Sm q1 r1 w1) (s2 : Sm q2 r2 w2) (s3 : Sm q3 r3 w3) (s4 : Sm q4 r4 w4)
    (h0 : Sa A0 o0 (q0 + 0 + 0)) (h1 : Sa A1 o1 (q1 + orX r0 o0 A0 + 0)) (h2 : Sa A2 o2 (q2 + orX r1 o1 A1 + 0)) (h3 : Sa A3 o3 (q3 + orX r2 o2 A2 + 0)) (h4 : Sa A4 o4 (q4 + orX r3 o3 A3 + 0))
    (h5 : lo + 18446744073709551616 * hi = orX r4 o4 A4 * 19 ∧ (0 ≤ hi ∧ hi < 18446744073709551616) ∧ 0 ≤ lo ∧ lo < 18446744073709551616) (h6 : Sa L ov (lo + bits .and .u64 A0 2251799813685247 + 0)) :
    ((bits .and .u64 L 2251799813685247, IntKind.u64.wrap (bits .and .u64 A1 2251799813685247 + orX hi ov L), bits .and .u64 A2 2251799813685247, bits .and .u64 A3 2251799813685247, bits .and .u64 A4 2251799813685247, ()) : ElT) = carW w0 w1 w2 w3 w4 := by
 obtain ⟨e0, f0, g0, g0'⟩ := sa_t (t := w0) s0 k0 ⟨by omega, by omega⟩ h0 (by omega)
 rw [f0] at h1
 obtain ⟨e1, f1, g1, g1'⟩ := sa_t s1 k1 ⟨g0, g0'⟩ h1 rfl
 rw [f1] at h2
 obtain ⟨e2, f2, g2, g2'⟩ := sa_t s2 k2 ⟨g1, g1'⟩ h2 rfl
 rw [f2] at h3
 obtain ⟨e3, f3, g3, g3'⟩ := sa_t s3 k3 ⟨g2, g2'⟩ h3 rfl
 rw [f3] at h4
 obtain ⟨e4, f4, g4, g4'⟩ := sa_t s4 k4 ⟨g3, g3'⟩ h4 rfl
 rw [f4] at h5
 obtain ⟨p1, p2, p3⟩ := h5
 rw [and51 h0.2.1, e0] at h6
 obtain ⟨u1, u2, u3, u4⟩ := h6
 unfold carW
 dsimp only
 generalize (w4 + (w3 + (w2 + (w1 + w0 / 2251799813685248) / 2251799813685248) / 2251799813685248) / 2251799813685248) / 2251799813685248 = c at *
 have es : L + 18446744073709551616 * (hi + ov) = w0 % 2251799813685248 + 19 * c := by omega
 have hb : hi + ov < 8192 := by omega
 unfold orX
 rw [orD (by omega) u2, es, and51 u2, and51 h1.2.1, and51 h2.2.1, and51 h3.2.1, and51 h4.2.1, e1, e2, e3, e4, wru (by omega)]
 rw [show L % 2251799813685248 = (w0 % 2251799813685248 + 19 * c) % 2251799813685248 by omega]
end Go.Proofs.Ytihnagafldpbnaa.V
