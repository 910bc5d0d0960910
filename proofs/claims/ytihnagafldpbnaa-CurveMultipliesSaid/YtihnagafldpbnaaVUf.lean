/- Curve: congruence, seven carries, canonical form (pure). -/
import Derived.Test.YtihnagafldpbnaaVUe
set_option linter.unusedVariables false
set_option linter.unusedSimpArgs false
namespace Go.Proofs.Ytihnagafldpbnaa.V
open Go.RowKit
set_option maxHeartbeats 80000000
set_option maxRecDepth 100000
theorem Cg.symm {x y : Int} (h : Cg x y) : Cg y x := by
 obtain ⟨q, h⟩ := h
 exact ⟨-q, by rw [Int.neg_mul]; omega⟩
theorem Cg.trans {x y z : Int} (h : Cg x y) (k : Cg y z) : Cg x z := by
 obtain ⟨q, h⟩ := h
 obtain ⟨r, k⟩ := k
 exact ⟨q + r, by rw [Int.add_mul]; omega⟩
theorem Cg.add {x y u v : Int} (h : Cg x y) (k : Cg u v) : Cg (x + u) (y + v) := by
 obtain ⟨q, h⟩ := h
 obtain ⟨r, k⟩ := k
 exact ⟨q + r, by rw [Int.add_mul]; omega⟩
theorem Cg.sub {x y u v : Int} (h : Cg x y) (k : Cg u v) : Cg (x - u) (y - v) := by
 obtain ⟨q, h⟩ := h
 obtain ⟨r, k⟩ := k
 exact ⟨q - r, by rw [Int.sub_mul]; omega⟩
theorem Cg.mul {x y u v : Int} (h : Cg x y) (k : Cg u v) : Cg (x * u) (y * v) := by
 obtain ⟨q, rfl⟩ := h
 obtain ⟨r, rfl⟩ := k
 refine ⟨q * v + y * r + q * r * 57896044618658097711785492504343953926634992332820282019728792003956564819949, ?_⟩
 simp only [Int.add_mul, Int.mul_add]
 have e1 : y * (r * 57896044618658097711785492504343953926634992332820282019728792003956564819949) = y * r * 57896044618658097711785492504343953926634992332820282019728792003956564819949 := by rw [Int.mul_assoc]
 have e2 : q * 57896044618658097711785492504343953926634992332820282019728792003956564819949 * v = q * v * 57896044618658097711785492504343953926634992332820282019728792003956564819949 := by rw [Int.mul_assoc, Int.mul_comm _ v, ← Int.mul_assoc]
 have e3 : q * 57896044618658097711785492504343953926634992332820282019728792003956564819949 * (r * 57896044618658097711785492504343953926634992332820282019728792003956564819949) = q * r * 57896044618658097711785492504343953926634992332820282019728792003956564819949 * 57896044618658097711785492504343953926634992332820282019728792003956564819949 := by rw [Int.mul_assoc, Int.mul_left_comm _ r, ← Int.mul_assoc, ← Int.mul_assoc]
 omega
theorem Cg.emod {x y : Int} (h : Cg x y) : x % 57896044618658097711785492504343953926634992332820282019728792003956564819949 = y % 57896044618658097711785492504343953926634992332820282019728792003956564819949 := by
 obtain ⟨q, rfl⟩ := h
 rw [Int.add_mul_emod_self_right]
theorem Cg.mod (x : Int) : Cg (x % 57896044618658097711785492504343953926634992332820282019728792003956564819949) x := by
 refine ⟨-(x / 57896044618658097711785492504343953926634992332820282019728792003956564819949), ?_⟩
 rw [Int.neg_mul]
 omega
theorem carL_cg {a : ElT} (h : LimE 18446744073709551616 a) : Cg (valE (carL a)) (valE a) := ⟨-(a.2.2.2.2.1 / 2251799813685248), by rw [carL_val h, Int.neg_mul]; omega⟩
theorem LimE.up {m n : Int} {a : ElT} (h : LimE m a) (hm : m ≤ n) : LimE n a := by
 obtain ⟨l0, l1, l2, l3, l4⟩ := h
 exact ⟨by omega, by omega, by omega, by omega, by omega⟩
theorem add_ok {a b : ElT} (ha : LimE 2251799813947392 a) (hb : LimE 2251799813947392 b) : LimE 2251799813947392 (carL (addL a b)) ∧ Cg (valE (carL (addL a b))) (valE a + valE b) := by
 have h := addL_lim ha hb
 refine ⟨carL_lim h, ?_⟩
 have := carL_cg h
 rw [addL_val] at this
 exact this
theorem sub_ok {a b : ElT} (ha : LimE 2251799813947392 a) (hb : LimE 2251799813947392 b) : LimE 2251799813947392 (carL (subL a b)) ∧ Cg (valE (carL (subL a b))) (valE a - valE b) := by
 have h := subL_lim ha hb
 refine ⟨carL_lim h, ?_⟩
 have h1 := carL_cg h
 rw [subL_val] at h1
 exact h1.trans ⟨4, by omega⟩
def liE (a : ElT) : Nat → Int
 | 0 => a.1
 | 1 => a.2.1
 | 2 => a.2.2.1
 | 3 => a.2.2.2.1
 | _ => a.2.2.2.2.1
def prE5 : Nat → Nat
 | 0 => 4
 | n + 1 => n
structure Sm1 (a : ElT) : Prop where
 l0 : 0 ≤ a.1 ∧ a.1 ≤ 2251799813685266
 l1 : 0 ≤ a.2.1 ∧ a.2.1 ≤ 2251799813685248
 l2 : 0 ≤ a.2.2.1 ∧ a.2.2.1 ≤ 2251799813685248
 l3 : 0 ≤ a.2.2.2.1 ∧ a.2.2.2.1 ≤ 2251799813685248
 l4 : 0 ≤ a.2.2.2.2.1 ∧ a.2.2.2.2.1 ≤ 2251799813685248
theorem sm_of {a : ElT} (h : LimE 2251799813947392 a) : Sm1 (carL a) := by
 obtain ⟨l0, l1, l2, l3, l4⟩ := h
 unfold carL
 refine ⟨?_, ?_, ?_, ?_, ?_⟩ <;> (dsimp only; omega)
theorem Sm1.lim {a : ElT} (h : Sm1 a) : LimE 2251799813947392 a := by
 obtain ⟨l0, l1, l2, l3, l4⟩ := h
 exact ⟨by omega, by omega, by omega, by omega, by omega⟩
theorem ov_back {a : ElT} (h : Sm1 a) {i : Nat} (hi : i ≤ 4) (ho : 2251799813685248 ≤ liE (carL a) i) : 2251799813685248 ≤ liE a (prE5 i) ∧ 2251799813685229 ≤ liE a i % 2251799813685248 := by
 obtain ⟨l0, l1, l2, l3, l4⟩ := h
 rcases (by omega : i = 0 ∨ i = 1 ∨ i = 2 ∨ i = 3 ∨ i = 4) with rfl | rfl | rfl | rfl | rfl <;> (simp only [liE, carL, prE5] at ho ⊢; omega)
theorem ov_small {a : ElT} (h : Sm1 a) {i : Nat} (hi : i ≤ 4) (ho : 2251799813685248 ≤ liE a i) : liE (carL a) i ≤ 37 := by
 obtain ⟨l0, l1, l2, l3, l4⟩ := h
 rcases (by omega : i = 0 ∨ i = 1 ∨ i = 2 ∨ i = 3 ∨ i = 4) with rfl | rfl | rfl | rfl | rfl <;> (simp only [liE, carL] at ho ⊢; omega)
theorem ov_grow {a : ElT} (h : Sm1 a) {i : Nat} (hi : i ≤ 4) {s : Int} (hs : liE a i ≤ s) (h9 : s < 2251799813685248) : liE (carL a) i ≤ s + 19 := by
 obtain ⟨l0, l1, l2, l3, l4⟩ := h
 rcases (by omega : i = 0 ∨ i = 1 ∨ i = 2 ∨ i = 3 ∨ i = 4) with rfl | rfl | rfl | rfl | rfl <;> (simp only [liE, carL] at hs ⊢; omega)
theorem li_nn {a : ElT} (h : Sm1 a) (i : Nat) : 0 ≤ liE a i := by
 obtain ⟨l0, l1, l2, l3, l4⟩ := h
 unfold liE
 split <;> omega
theorem prE5_le {i : Nat} (h : i ≤ 4) : prE5 i ≤ 4 := by
 cases i with
 | zero => exact Nat.le_refl _
 | succ n => exact Nat.le_of_succ_le h
theorem prE5_5 {i : Nat} (h : i ≤ 4) : prE5 (prE5 (prE5 (prE5 (prE5 i)))) = i := by
 rcases (by omega : i = 0 ∨ i = 1 ∨ i = 2 ∨ i = 3 ∨ i = 4) with rfl | rfl | rfl | rfl | rfl <;> rfl
def car7 (a : ElT) : ElT := carL (carL (carL (carL (carL (carL (carL a))))))
theorem no_ov {a : ElT} (h : LimE 2251799813947392 a) {i : Nat} (hi : i ≤ 4) : liE (car7 a) i < 2251799813685248 := by
 have s1 := sm_of h
 have s2 := sm_of s1.lim
 have s3 := sm_of s2.lim
 have s4 := sm_of s3.lim
 have s5 := sm_of s4.lim
 have s6 := sm_of s5.lim
 by_cases ho : 2251799813685248 ≤ liE (car7 a) i
 ·exfalso
  obtain ⟨o6, f6⟩ := ov_back s6 hi ho
  have i1 := prE5_le hi
  obtain ⟨o5, _⟩ := ov_back s5 i1 o6
  have i2 := prE5_le i1
  obtain ⟨o4, _⟩ := ov_back s4 i2 o5
  have i3 := prE5_le i2
  obtain ⟨o3, _⟩ := ov_back s3 i3 o4
  have i4 := prE5_le i3
  obtain ⟨o2, _⟩ := ov_back s2 i4 o3
  rw [prE5_5 hi] at o2
  have g3 := ov_small s2 hi o2
  have g4 := ov_grow s3 hi g3 (by omega)
  have g5 := ov_grow s4 hi g4 (by omega)
  have g6 := ov_grow s5 hi g5 (by omega)
  have n6 := li_nn s6 i
  omega
 ·omega
theorem car7_lim {a : ElT} (h : LimE 2251799813947392 a) : LimE 2251799813685248 (car7 a) := by
 have s1 := sm_of h
 have s2 := sm_of s1.lim
 have s3 := sm_of s2.lim
 have s4 := sm_of s3.lim
 have s5 := sm_of s4.lim
 have s6 := sm_of s5.lim
 have s7 := sm_of s6.lim
 exact ⟨⟨s7.l0.1, no_ov h (i := 0) (by omega)⟩, ⟨s7.l1.1, no_ov h (i := 1) (by omega)⟩, ⟨s7.l2.1, no_ov h (i := 2) (by omega)⟩, ⟨s7.l3.1, no_ov h (i := 3) (by omega)⟩, ⟨s7.l4.1, no_ov h (i := 4) (by omega)⟩⟩
theorem car7_cg {a : ElT} (h : LimE 2251799813947392 a) : Cg (valE (car7 a)) (valE a) := by
 have s1 := (sm_of h).lim
 have s2 := (sm_of s1).lim
 have s3 := (sm_of s2).lim
 have s4 := (sm_of s3).lim
 have s5 := (sm_of s4).lim
 have s6 := (sm_of s5).lim
 have up : ∀ {b : ElT}, LimE 2251799813947392 b → Cg (valE (carL b)) (valE b) := fun hb => carL_cg (hb.up (by omega))
 exact (up s6).trans ((up s5).trans ((up s4).trans ((up s3).trans ((up s2).trans ((up s1).trans (up h))))))
def b19 (a : ElT) : ElT :=
 let t0 := a.1 + 19
 let t1 := a.2.1 + t0 / 2251799813685248
 let t2 := a.2.2.1 + t1 / 2251799813685248
 let t3 := a.2.2.2.1 + t2 / 2251799813685248
 let t4 := a.2.2.2.2.1 + t3 / 2251799813685248
 (t0 % 2251799813685248, t1 % 2251799813685248, t2 % 2251799813685248, t3 % 2251799813685248, t4, ())
def canL (a : ElT) : ElT := if (b19 a).2.2.2.2.1 / 2251799813685248 = 0 then a else ((b19 a).1, (b19 a).2.1, (b19 a).2.2.1, (b19 a).2.2.2.1, (b19 a).2.2.2.2.1 % 2251799813685248, ())
theorem canL_ok {a : ElT} (h : LimE 2251799813685248 a) : LimE 2251799813685248 (canL a) ∧ valE (canL a) = valE a % 57896044618658097711785492504343953926634992332820282019728792003956564819949 := by
 obtain ⟨l0, l1, l2, l3, l4⟩ := h
 have hv : valE (b19 a) = valE a + 19 := by
  unfold b19 valE
  dsimp only
  omega
 have hb : (0 ≤ (b19 a).1 ∧ (b19 a).1 < 2251799813685248) ∧ (0 ≤ (b19 a).2.1 ∧ (b19 a).2.1 < 2251799813685248) ∧ (0 ≤ (b19 a).2.2.1 ∧ (b19 a).2.2.1 < 2251799813685248) ∧ (0 ≤ (b19 a).2.2.2.1 ∧ (b19 a).2.2.2.1 < 2251799813685248) ∧ 0 ≤ (b19 a).2.2.2.2.1 ∧ (b19 a).2.2.2.2.1 ≤ 2251799813685248 := by
  unfold b19
  dsimp only
  omega
 unfold canL
 generalize b19 a = b at *
 obtain ⟨b0, b1, b2, b3, b4, ⟨⟩⟩ := b
 obtain ⟨a0, a1, a2, a3, a4, ⟨⟩⟩ := a
 unfold valE at *
 dsimp only at *
 obtain ⟨g0, g1, g2, g3, g4⟩ := hb
 split
 ·refine ⟨⟨by dsimp only; omega, by dsimp only; omega, by dsimp only; omega, by dsimp only; omega, by dsimp only; omega⟩, ?_⟩
  dsimp only
  rw [Int.emod_eq_of_lt (by omega) (by omega)]
 ·refine ⟨⟨by dsimp only; omega, by dsimp only; omega, by dsimp only; omega, by dsimp only; omega, by dsimp only; omega⟩, ?_⟩
  dsimp only
  rename_i hk
  have hb4 : b4 = 2251799813685248 := by omega
  subst hb4
  have hlow : b0 + 2251799813685248 * b1 + 5070602400912917605986812821504 * b2 + 11417981541647679048466287755595961091061972992 * b3 ≤ 18 := by omega
  have h0 : 0 ≤ b0 + 2251799813685248 * b1 + 5070602400912917605986812821504 * b2 + 11417981541647679048466287755595961091061972992 * b3 := by omega
  have e : a0 + 2251799813685248 * a1 + 5070602400912917605986812821504 * a2 + 11417981541647679048466287755595961091061972992 * a3 + 25711008708143844408671393477458601640355247900524685364822016 * a4 = (b0 + 2251799813685248 * b1 + 5070602400912917605986812821504 * b2 + 11417981541647679048466287755595961091061972992 * b3) + 57896044618658097711785492504343953926634992332820282019728792003956564819949 := by omega
  rw [e, Int.add_emod_right]
  generalize b0 + 2251799813685248 * b1 + 5070602400912917605986812821504 * b2 + 11417981541647679048466287755595961091061972992 * b3 = t at hlow h0
  rw [Int.emod_eq_of_lt h0 (by omega)]
  omega
end Go.Proofs.Ytihnagafldpbnaa.V
