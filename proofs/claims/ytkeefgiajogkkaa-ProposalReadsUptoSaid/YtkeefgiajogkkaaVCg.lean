/- Contracts: bytes are changed. -/
import Derived.Test.YtkeefgiajogkkaaVA
import Derived.Test.YtkeefgiajogkkaaVc
set_option linter.unusedVariables false
set_option linter.unusedSimpArgs false
namespace Go.Proofs.Ytkeefgiajogkkaa.V
open Go.RowKit
set_option maxHeartbeats 8000000
set_option maxRecDepth 100000
theorem bits_u8 (op : BinOp) (x y : Int) : 0 ≤ bits op .u8 x y ∧ bits op .u8 x y < 256 := by
  unfold bits
  rw [IntKind.wrap_u8]
  omega
theorem two_bytes (x y : Int) (h0 : 0 ≤ x) (h1 : x < 256) (g0 : 0 ≤ y) (g1 : y < 256) : bits .or .i64 ((x * 2 ^ min (Int.toNat 8) IntKind.i64.bits + 9223372036854775808) % 18446744073709551616 - 9223372036854775808) y = x * 256 + y := by
  have e : (x * 2 ^ min (Int.toNat 8) IntKind.i64.bits + 9223372036854775808) % 18446744073709551616 - 9223372036854775808 = x * 256 := by
    show (x * 2 ^ 8 + _) % _ - _ = _
    omega
  rw [e, bits_join .i64 63 (by decide) (fun n h0 h1 => by rw [IntKind.wrap_i64]; omega) 8 _ _ (by omega) (by omega) (by omega) (by omega) (by omega) (by omega)]
theorem chg_at (x y n : Int) (h0 : 0 ≤ x) (h1 : x < 256) (g0 : 0 ≤ y) (g1 : y < 256) (hn : 0 < n) : 0 ≤ (bits .or .i64 ((x * 2 ^ min (Int.toNat 8) IntKind.i64.bits + 9223372036854775808) % 18446744073709551616 - 9223372036854775808) y).tmod n ∧ (bits .or .i64 ((x * 2 ^ min (Int.toNat 8) IntKind.i64.bits + 9223372036854775808) % 18446744073709551616 - 9223372036854775808) y).tmod n < n := by
  rw [two_bytes x y h0 h1 g0 g1]
  exact ⟨Int.tmod_nonneg _ (by omega), Int.tmod_lt_of_pos _ hn⟩
theorem chg_len (n : Nat) (k : Int) (hn : n ≤ 100000000) (h0 : 0 ≤ k) (h1 : k < 9) : 0 ≤ ((((n : Int) * k + 9223372036854775808) % 18446744073709551616 - 9223372036854775808).tdiv 9 + 9223372036854775808) % 18446744073709551616 - 9223372036854775808 ∧ ((((n : Int) * k + 9223372036854775808) % 18446744073709551616 - 9223372036854775808).tdiv 9 + 9223372036854775808) % 18446744073709551616 - 9223372036854775808 ≤ n := by
  have a0 : 0 ≤ (n : Int) * k := Int.mul_nonneg (by omega) h0
  have a1 : (n : Int) * k ≤ (n : Int) * 9 := Int.mul_le_mul_of_nonneg_left (by omega) (by omega)
  generalize (n : Int) * k = p at a0 a1
  have e : (p + 9223372036854775808) % 18446744073709551616 - 9223372036854775808 = p := by omega
  rw [e, Int.tdiv_eq_ediv_of_nonneg a0]
  omega
theorem setAt_len {α : Type} (l : List α) (i : Int) (d : α) (f : α → α) : (setAt l i d f).length = l.length := by simp [setAt]
def chC_t : SpecT := lf0 11 (drSpec 49 [.int .i64] [.int .i64] [] nextPre nextPost)
def chC : Cx := ⟨tt, qt, bt, st, chC_t, 0, 1000000000000000, fun _ => none, false, CxE.no, []⟩
theorem chC_si {E : Env} (h : E.ok) : SpecsOk Try.prog E (CxE.no) chC_t (fun _ => none) := ⟨(lf0_ok (next_sp h)), noI_ok _ _ _⟩
theorem chC_x {E : Env} (h : E.ok) : CxEOk Try.prog E (CxE.no) := CxE.no_ok _ _
theorem chC_cx (E : Env) (h : E.ok) (h1 : E.lo = 0) (h2 : E.hi = 1000000000000000) : Cx.ok chC Try.prog E := ⟨tt_ok, qt_ok, bt_ok, chC_si h, h, h1, h2, mixed_ok, chC_x h⟩
theorem chC_from (lo hi : Nat) (E : Env) (h : E.ok) (h1 : E.lo = lo) (h2 : E.hi = hi) : Cx.ok (Cx.from chC lo hi) Try.prog E := ⟨tt_ok, qt_ok, bt_ok, chC_si h, h, h1, h2, mixed_ok, chC_x h⟩
theorem chg_fn : hasFn Try.prog 12 := ⟨_, Try.func12, by rfl, by rfl⟩
theorem chg_sp {E : Env} (hE : E.ok) : SpecOk Try.prog E 12 (drSpec 49 [.sl .byte] [.sl .byte] [.sh] (fun x => x.1.length ≤ 100000000) (fun x y => y.1.length ≤ x.1.length + 1)) := by
  refine spec_of_vcD (C := chC) chg_fn Try.func12 (by kernel_rfl) chC_cx (fun x hl hx => ?_) hE
  obtain ⟨l, u⟩ := x
  have hlen : l.length ≤ 100000000 := hx
  cbv
  (repeat' (first | ((with_reducible refine And.intro (fun h => ?_) (fun h => ?_)) <;> (first | with_reducible exact (tf h (by assumption)).elim | with_reducible exact (tf (by assumption) h).elim | cbv)) | ((with_reducible first | refine Cb.mk ?_ | refine Lz.mk ?_ | refine JoinT.left ?_ | refine AllT.mk (fun x hx => ?_)); cbv) | ((with_reducible refine Ob.mk (fun _ => ?_) ?_); rotate_left 1) | (with_reducible first | refine Mg.mk (Exists.intro ?_ (And.intro ?_ ?_)) | rfl | refine Fin.mk ?_ | exact True.intro | refine And.intro ?_ ?_)))
  all_goals first | (with_reducible show (∃ _, unr _ _ _ _ _ _); skip) | (with_reducible show Goes _ _ _ _; skip) | (with_reducible show JoinT _ _ _ _ _ _; skip) | (first | ((((try dsimp only [Shp.D, Shp.Ds, Shp.dflt] at *); simp only [vem, veq, ne_eq, cmpI, arI, dvI, shI, SV.den, obLt, elemAt, obApp, partL, obPart, lowD, highD, mxOk, convL_self, zerosB, List.length_replicate, vln] at *; (try dsimp only [Shp.D, Shp.Ds, Shp.dflt, Shp.dflts] at *)) <;> (try simp only [Shp.lims, Shp.lim, IntKind.wrap_u64, IntKind.wrap_u8] at *) <;> omega); done) | ((try dsimp only [Shp.D, Shp.Ds, Shp.dflt] at *); simp only [vem, veq, ne_eq, cmpI, arI, dvI, shI, SV.den, obLt, elemAt, obApp, partL, obPart, lowD, highD, mxOk, convL_self, zerosB, List.length_replicate, vln] at *; (try dsimp only [Shp.D, Shp.Ds, Shp.dflt, Shp.dflts] at *); simp only [List.nil_append, Nat.zero_add, and_true] at *; first | omega | (rw [List.length_take]; refine Nat.le_trans (Nat.min_le_right _ _) ?_; simp; done) | exact ⟨by decide, chg_len _ _ hlen hx.1.1 hx.1.2⟩ | (rw [setAt_len]; omega) | exact (bits_u8 _ _ _).1 | exact (bits_u8 _ _ _).2 | (simp only [Shp.lims, Shp.lim, and_true] at *; refine chg_at _ _ _ ?_ ?_ ?_ ?_ ?_ <;> omega)))
end Go.Proofs.Ytkeefgiajogkkaa.V
