/- Contracts: addresses. -/
import Derived.Test.YtkeefgiajogkkaaVA
import Derived.Test.YtkeefgiajogkkaaBits
import Derived.Test.YtkeefgiajogkkaaSelPlain
set_option linter.unusedVariables false
set_option linter.unusedSimpArgs false
namespace Go.Proofs.Ytkeefgiajogkkaa.V
open Go.RowKit
set_option maxHeartbeats 8000000
set_option maxRecDepth 100000
def abits (f : Int) : Nat := if f = 4 then 32 else 128
def pL (f : Int) (H L m : Nat) : Adr := ⟨f, cl H (m - 64) 0, cl L (min m 64) 0⟩
def pH (f : Int) (H L m : Nat) : Adr := ⟨f, Go.Proofs.Ytkeefgiajogkkaa.st H (m - 64) 0, Go.Proofs.Ytkeefgiajogkkaa.st L (min m 64) 0⟩
theorem wrap_pow (e : Nat) (h : e < 64) : IntKind.u64.wrap ((2 : Int) ^ e) = ((2 ^ e : Nat) : Int) := by
 have h1 : 2 ^ e < 2 ^ 64 := Nat.pow_lt_pow_right (by decide) h
 have h2 : ((2 : Int) ^ e) = ((2 ^ e : Nat) : Int) := by push_cast; rfl
 rw [h2, IntKind.wrap_u64]
 generalize 2 ^ e = q at h1
 omega
structure AdrF (f : Int) (a : Adr) : Prop where
 fam : a.fam = f
 ok : a.ok
 val : valid a = true
theorem st_lt (x m t N : Nat) (ht : t ≤ m) (h : m ≤ N) (hx : x < 2 ^ N) : Go.Proofs.Ytkeefgiajogkkaa.st x m t < 2 ^ N := by
 have h1 := (st_le x m t ht).2
 have hd : x / 2 ^ m < 2 ^ (N - m) := by
  rw [Nat.div_lt_iff_lt_mul (Nat.pow_pos (by decide)), ← Nat.pow_add, show N - m + m = N by omega]; exact hx
 have he : 2 ^ N = 2 ^ m * 2 ^ (N - m) := by rw [← Nat.pow_add, show m + (N - m) = N by omega]
 have h2 : 2 ^ m * (x / 2 ^ m) + 2 ^ m ≤ 2 ^ N := by
  rw [he, ← Nat.mul_succ]
  exact Nat.mul_le_mul_left _ hd
 omega
theorem pfx_ok (f : Int) (H L m : Nat) (h : AdrF f ⟨f, H, L⟩) (hm : m ≤ abits f) : AdrF f (pL f H L m) ∧ AdrF f (pH f H L m) ∧ key (pL f H L m) ≤ key (pH f H L m) := by
 have hb : abits f ≤ 128 := by unfold abits; split <;> omega
 have h1 := h.ok.f0; have h2 := h.ok.f1
 have h3 : (H : Int) ≤ 18446744073709551615 := h.ok.h1
 have h4 : (L : Int) ≤ 18446744073709551615 := h.ok.l1
 have a1 := cl_lt H (m - 64) 0 (Nat.zero_le _)
 have a2 := cl_lt L (min m 64) 0 (Nat.zero_le _)
 have b1 := (st_le H (m - 64) 0 (Nat.zero_le _)).1
 have b2 := (st_le L (min m 64) 0 (Nat.zero_le _)).1
 have c1 := st_lt H (m - 64) 0 64 (Nat.zero_le _) (by omega) (by omega)
 have c2 := st_lt L (min m 64) 0 64 (Nat.zero_le _) (by omega) (by omega)
 have hv := h.val
 simp only [valid, Bool.or_eq_true, Bool.and_eq_true, decide_eq_true_eq] at hv
 have d1 : f ≠ 6 → (f = 4 ∧ H = 0 ∧ L < 4294967296) := by omega
 have d2 : f ≠ 6 → Go.Proofs.Ytkeefgiajogkkaa.st H (m - 64) 0 = 0 ∧ Go.Proofs.Ytkeefgiajogkkaa.st L (min m 64) 0 < 4294967296 := by
  intro h6
  obtain ⟨rfl, rfl, hl⟩ := d1 h6
  have : abits 4 = 32 := rfl
  have e : m - 64 = 0 := by omega
  refine ⟨by rw [e]; rfl, ?_⟩
  exact st_lt L (min m 64) 0 32 (Nat.zero_le _) (by omega) (by omega)
 refine ⟨⟨rfl, ⟨h1, h2, ?_, ?_, ?_, ?_⟩, ?_⟩, ⟨rfl, ⟨h1, h2, ?_, ?_, ?_, ?_⟩, ?_⟩, ?_⟩
 case refine_5 | refine_10 =>
  by_cases h6 : f = 6
  ·simp [valid, pL, pH, h6]
  ·obtain ⟨e1, e2, e3⟩ := d1 h6
   obtain ⟨e4, e5⟩ := d2 h6
   subst e1 e2
   have z : cl 0 (m - 64) 0 = 0 := by simp [cl]
   simp only [pL, pH, valid, z, e4]
   simp
   omega
 all_goals simp only [pL, pH, key]
 all_goals omega
theorem span_all (f : Int) (hf : f = 4 ∨ f = 6) : AdrF f (pL f 0 0 (abits f)) ∧ AdrF f (pH f 0 0 (abits f)) ∧ key (pL f 0 0 (abits f)) ≤ key (pH f 0 0 (abits f)) := by
 rcases hf with rfl | rfl
 ·exact pfx_ok 4 0 0 (abits 4) ⟨rfl, ⟨by decide, by decide, by decide, by decide, by decide, by decide⟩, rfl⟩ (Nat.le_refl _)
 ·exact pfx_ok 6 0 0 (abits 6) ⟨rfl, ⟨by decide, by decide, by decide, by decide, by decide, by decide⟩, rfl⟩ (Nat.le_refl _)
abbrev adrE : Shp := .st [.int .i64, .int .u64, .int .u64]
abbrev AdrT : Type := Int × Int × Int × Unit
abbrev SelT : Type := Int × Int × Int × AdrT × AdrT × Unit
def toAdr (a : AdrT) : Adr := ⟨a.1, a.2.1, a.2.2.1⟩
abbrev selE : Shp := .st [.int .i64, .int .i64, .int .i64, adrE, adrE]
def toSel (s : SelT) : Sel := ⟨s.1, s.2.1, s.2.2.1, toAdr s.2.2.2.1, toAdr s.2.2.2.2.1⟩
def noC_t : SpecT := fun _ => none
def noC : Cx := ⟨tt, qt, bt, st, noC_t, 0, 1000000000000000, fun _ => none, false, CxE.no, []⟩
theorem noC_si {E : Env} (h : E.ok) : SpecsOk Try.prog E (CxE.no) noC_t (fun _ => none) := ⟨(fun t f h => by cases h), noI_ok _ _ _⟩
theorem noC_x {E : Env} (h : E.ok) : CxEOk Try.prog E (CxE.no) := CxE.no_ok _ _
theorem noC_cx (E : Env) (h : E.ok) (h1 : E.lo = 0) (h2 : E.hi = 1000000000000000) : Cx.ok noC Try.prog E := ⟨tt_ok, qt_ok, bt_ok, noC_si h, h, h1, h2, mixed_ok, noC_x h⟩
theorem noC_from (lo hi : Nat) (E : Env) (h : E.ok) (h1 : E.lo = lo) (h2 : E.hi = hi) : Cx.ok (Cx.from noC lo hi) Try.prog E := ⟨tt_ok, qt_ok, bt_ok, noC_si h, h, h1, h2, mixed_ok, noC_x h⟩
end Go.Proofs.Ytkeefgiajogkkaa.V
