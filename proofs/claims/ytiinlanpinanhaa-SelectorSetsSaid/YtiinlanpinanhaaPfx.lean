import Derived.Test.YtiinlanpinanhaaRef18
set_option linter.unusedVariables false
namespace Go.Proofs.Ytiinlanpinanhaa
open Go.RowKit

/-- A valid address of a family. -/
structure AdrF (f : Int) (a : Adr) : Prop where
  fam : a.fam = f
  ok : a.ok
  val : valid a = true

theorem st_lt (x m t N : Nat) (ht : t ≤ m) (h : m ≤ N) (hx : x < 2 ^ N) : st x m t < 2 ^ N := by
  have h1 := (st_le x m t ht).2
  have hd : x / 2 ^ m < 2 ^ (N - m) := by
    rw [Nat.div_lt_iff_lt_mul (Nat.pow_pos (by decide)), ← Nat.pow_add, show N - m + m = N by omega]; exact hx
  have he : 2 ^ N = 2 ^ m * 2 ^ (N - m) := by rw [← Nat.pow_add, show m + (N - m) = N by omega]
  have h2 : 2 ^ m * (x / 2 ^ m) + 2 ^ m ≤ 2 ^ N := by
    rw [he, ← Nat.mul_succ]
    exact Nat.mul_le_mul_left _ hd
  omega
theorem pfx_ok (f : Int) (H L m : Nat) (h : AdrF f ⟨f, H, L⟩) (hm : m ≤ bt f) : AdrF f (pL f H L m) ∧ AdrF f (pH f H L m) ∧ key (pL f H L m) ≤ key (pH f H L m) := by
  have hb : bt f ≤ 128 := by unfold bt; split <;> omega
  have h1 := h.ok.f0; have h2 := h.ok.f1
  have h3 : (H : Int) ≤ 18446744073709551615 := h.ok.h1
  have h4 : (L : Int) ≤ 18446744073709551615 := h.ok.l1
  have a1 := cl_lt H (m - 64) 0 (Nat.zero_le _)
  have a2 := cl_lt L (min m 64) 0 (Nat.zero_le _)
  have b1 := (st_le H (m - 64) 0 (Nat.zero_le _)).1
  have b2 := (st_le L (min m 64) 0 (Nat.zero_le _)).1
  have c1 := st_lt H (m - 64) 0 64 (Nat.zero_le _) (by omega) (by omega)
  have c2 := st_lt L (min m 64) 0 64 (Nat.zero_le _) (by omega) (by omega)
  have hv := h.val
  simp only [valid, Bool.or_eq_true, Bool.and_eq_true, decide_eq_true_eq] at hv
  have d1 : f ≠ 6 → (f = 4 ∧ H = 0 ∧ L < 4294967296) := by omega
  have d2 : f ≠ 6 → st H (m - 64) 0 = 0 ∧ st L (min m 64) 0 < 4294967296 := by
    intro h6
    obtain ⟨rfl, rfl, hl⟩ := d1 h6
    have : bt 4 = 32 := rfl
    have e : m - 64 = 0 := by omega
    refine ⟨by rw [e]; rfl, ?_⟩
    exact st_lt L (min m 64) 0 32 (Nat.zero_le _) (by omega) (by omega)
  refine ⟨⟨rfl, ⟨h1, h2, ?_, ?_, ?_, ?_⟩, ?_⟩, ⟨rfl, ⟨h1, h2, ?_, ?_, ?_, ?_⟩, ?_⟩, ?_⟩
  case refine_5 | refine_10 =>
    by_cases h6 : f = 6
    · simp [valid, pL, pH, h6]
    · obtain ⟨e1, e2, e3⟩ := d1 h6
      obtain ⟨e4, e5⟩ := d2 h6
      subst e1 e2
      have z : cl 0 (m - 64) 0 = 0 := by simp [cl]
      simp only [pL, pH, valid, z, e4]
      simp
      omega
  all_goals simp only [pL, pH, key]
  all_goals omega

theorem ref_PrefixI (a : Adr) (f n : Int) (w : World) (h : AdrF f a) (h0 : 0 ≤ n) (hn : n ≤ bt f) :
    Calls Try.prog 96 #[.agg #[.int .i64 a.fam, .int .u64 a.hi, .int .u64 a.lo], .int .i64 n] w fun e w' =>
      (∃ x y : Adr, e = .returned (.tuple #[.agg (cA x), .agg (cA y), .int .i64 0]) ∧ AdrF f x ∧ AdrF f y ∧ key x ≤ key y) ∧ Below w.heap.size w w' := by
  obtain ⟨f', hi, lo⟩ := a
  obtain rfl : f' = f := h.fam
  obtain ⟨H, rfl⟩ := Int.eq_ofNat_of_zero_le h.ok.h0
  obtain ⟨L, rfl⟩ := Int.eq_ofNat_of_zero_le h.ok.l0
  obtain ⟨k, rfl⟩ := Int.eq_ofNat_of_zero_le h0
  have h3 : (H : Int) ≤ 18446744073709551615 := h.ok.h1
  have h4 : (L : Int) ≤ 18446744073709551615 := h.ok.l1
  refine (ref_Prefix f' H L k w h.val (by omega) (by omega) (by omega)).mono ?_
  rintro e w' ⟨rfl, hb⟩
  have := pfx_ok f' H L (bt f' - k) h (Nat.sub_le _ _)
  exact ⟨⟨_, _, rfl, this.1, this.2.1, this.2.2⟩, hb⟩

theorem span_all (f : Int) (hf : f = 4 ∨ f = 6) : AdrF f (pL f 0 0 (bt f)) ∧ AdrF f (pH f 0 0 (bt f)) ∧ key (pL f 0 0 (bt f)) ≤ key (pH f 0 0 (bt f)) := by
  rcases hf with rfl | rfl
  · exact pfx_ok 4 0 0 (bt 4) ⟨rfl, ⟨by decide, by decide, by decide, by decide, by decide, by decide⟩, rfl⟩ (Nat.le_refl _)
  · exact pfx_ok 6 0 0 (bt 6) ⟨rfl, ⟨by decide, by decide, by decide, by decide, by decide, by decide⟩, rfl⟩ (Nat.le_refl _)

end Go.Proofs.Ytiinlanpinanhaa
